/-
  Texts Ly20 to Lt5 in one.
-/
import Derived.Test.YtmoekkcdkjopgaaGreatDoorM12
open List (append_assoc append_nil cons_append drop_eq_getElem_cons drop_length flatMap_append flatMap_cons flatMap_nil foldl_append length_append length_cons length_eq_one_iff length_map length_nil length_take map_append map_cons mem_append mem_cons mem_cons_of_mem mem_cons_self mem_of_mem_take mem_singleton sum_cons take_add_one take_append_drop take_length take_succ_cons take_zero)
open Nat (add_mul le_refl mul_add mul_le_mul_right zero_add zero_le)
namespace Go.Proofs.YtmoekkcdkjopgaaGreatDoor
open Go Go.AM
set_option maxRecDepth 20000
set_option maxHeartbeats 4000000
theorem sQ {f : Nat → Core → VE} {x : Core} : ∀ (l : List Core) (F : Nat), (dF f F l).2.2 = 0 → dF f F (l ++ [x]) =
  if (f (dF f F l).2.1 x).2.2 = 0 then ((dF f F l).1 ++ [(f (dF f F l).2.1 x).1], (f (dF f F l).2.1 x).2.1, 0) else ([], (f (dF f F l).2.1 x).2.1, (f (dF f F l).2.1 x).2.2)
 | [], F, _ => by
  by_cases h : (f F x).2.2 = 0 <;> simp [dF, h]
 | c :: l, F, h => by
  rw [dF] at h;by_cases h1 : (f F c).2.2 = 0
  ·rw [if_pos h1] at h;by_cases h2 : (dF f (f F c).2.1 l).2.2 = 0
   ·have ih := sQ (f := f) (x := x) l (f F c).2.1 h2;rw [cons_append, dF, if_pos h1, dF, if_pos h1, if_pos h2, ih];dsimp only;by_cases h3 : (f (dF f (f F c).2.1 l).2.1 x).2.2 = 0
    ·rw [if_pos h3, if_pos rfl, if_pos h3]; rfl
    ·rw [if_neg h3, if_neg h3, if_neg h3]
   ·rw [if_neg h2] at h; exact absurd h h2
  ·rw [if_neg h1] at h; exact absurd h h1
theorem xQ {f : Nat → Core → VE} {r : List Core} : ∀ (l : List Core) (F : Nat), ¬ (dF f F l).2.2 = 0 → dF f F (l ++ r) = dF f F l
 | [], F, h => absurd rfl h
 | c :: l, F, h => by
  rw [dF] at h;by_cases h1 : (f F c).2.2 = 0
  ·rw [if_pos h1] at h;have h2 : ¬ (dF f (f F c).2.1 l).2.2 = 0 := fun e => by rw [if_pos e] at h; exact h rfl
   have ih := xQ (f := f) (r := r) l (f F c).2.1 h2;rw [cons_append, dF, dF, ih]
  ·rw [cons_append, dF, dF, if_neg h1, if_neg h1]
theorem qO {f : Nat → Core → VE} : ∀ (l : List Core) (F : Nat), (dF f F l).2.2 = 0 → (dF f F l).1.length = l.length
 | [], _, _ => rfl
 | c :: l, F, h => by
  rw [dF] at h ⊢;by_cases h1 : (f F c).2.2 = 0
  ·rw [if_pos h1] at h ⊢;by_cases h2 : (dF f (f F c).2.1 l).2.2 = 0
   ·rw [if_pos h2, length_cons, length_cons, qO l _ h2]
   ·rw [if_neg h2] at h; exact absurd h h2
  ·rw [if_neg h1] at h; exact absurd h h1
theorem aJ4 : ∀ l : List Core, l.length ≤ (l.map m30).sum
 | [] => by simp
 | c :: l => by
  have h1 := aJ4 l;have h2 := fE c;rw [map_cons, sum_cons, length_cons];omega
def MZ : Nat := 3500001
theorem aTo {a b : Nat} (h : a ≤ b) : a * MZ ≤ b * MZ := mul_le_mul_right _ h
theorem aYy {a b : Nat} (h : a < b) : a * MZ + MZ ≤ b * MZ := by
 have := aTo (show a + 1 ≤ b from h);rwa [add_mul, Nat.one_mul] at this
theorem aYe {n : Nat} {U : List Str} : ∀ (k : Nat) (c : Core), m30 c ≤ k → ST n U c → ∀ (s : Str) (l : List Core), gvC c = some (s, l) → ∀ x ∈ l, tlC x ≤ tlC c := by
 intro k
 induction k with
 | zero => intro c h; have := fE c; omega
 | succ k ih =>
 intro c h hc s l hg;obtain ⟨f, i, nm, t, ks, bs, al⟩ := c;have htl := k7 (f := f) (n := i) (s := nm) (t := t) (ks := ks) (bs := bs) (al := al);rw [gvC] at hg;by_cases h2 : f = 2
 ·rw [if_pos h2] at hg;cases hg;simp
 rw [if_neg h2] at hg;by_cases h4 : f = 4
 ·rw [if_pos h4] at hg;obtain ⟨⟨a, b, rfl⟩, rfl, rfl⟩ := s8 hc.q (.inl h4);have ha := hc.kid (by omega) (x := a) mem_cons_self;rw [m30, cZ, cZ, cZ] at h;have ta := htl.1 a mem_cons_self;have tb := htl.1 b (mem_cons_of_mem _ mem_cons_self);rw [if_neg (by omega)] at ta tb;rw [gvH] at hg;cases hga : gvC a with
  | none => rw [hga] at hg; cases hg
  | some p =>
   rw [hga] at hg;obtain ⟨s1, l1⟩ := p;have g1 := ih a (by omega) ha s1 l1 hga;have hg := Option.some.inj hg;have e : l = l1 ++ [b] := (congrArg Prod.snd hg).symm;rw [e];intro x hx;rcases mem_append.1 hx with hx | hx
   ·have := g1 x hx; omega
   ·rw [mem_singleton.1 hx]; omega
 rw [if_neg h4] at hg;by_cases h6 : f = 6
 ·rw [if_pos h6] at hg;obtain ⟨⟨a, rfl⟩, rfl, rfl⟩ := fK hc.q (.inr (.inl h6));have ha := hc.kid (by omega) (x := a) mem_cons_self;rw [m30, cZ, cZ] at h;have ta := htl.1 a mem_cons_self;rw [if_neg (by omega)] at ta;rw [gvH] at hg;intro x hx;have := ih a (by omega) ha s l hg x hx;omega
 ·rw [if_neg h6] at hg; cases hg
theorem ST.monoU {n : Nat} {U V : List Str} {c : Core} (h : ST n U c) (hU : ∀ x ∈ U, x ∈ V) : ST n V c := ⟨h.q, h.cw, fun x hx => hU x (h.ty x hx), h.tl, h.sz⟩
theorem BI.monoU {U V : List Str} {bd : List Bind} (h : BI U bd) (hU : ∀ x ∈ U, x ∈ V) : BI V bd := ⟨h.len, fun b hb => (h.all b hb).monoU hU⟩
theorem aOt (x : Fld) (s : Str) : aU Tryz.prog 118 ([.pa (iO x)] ++ [R.vp 10 0].map V.one) [(10, .var 9 [.c (.str s)])] (B (decide (x.name = s))) [(10, .var 9 [.c (.str s)])] := by
 refine bT (n := 8) tok Tryz.func118 rfl rfl rfl ?_;refine a8 (ag [(0, .id 12)] rfl ?_);refine a8 (ag [] rfl ?_);exact aI rtT
theorem zF (l : List Fld) (hl : l.length ≤ 1000000000) (s : Str) : aU Tryz.prog 117 [.one (.c (.sl 8 (l.map iO))), .one (.clo 118 [.vp 10 0])] [(10, .var 9 [.c (.str s)])] (I .i64 (aEo (fun x : Fld => decide (x.name = s)) l 0)) [(10, .var 9 [.c (.str s)])] := by
 have hkl : (l.map iO).length = l.length := length_map _;refine bT (n := 19) tok Tryz.func117 rfl rfl rfl ?_;refine a8 (ag [] rfl ?_);refine a8 (a8 (ag [] rfl ?_));refine aB ?_;refine aL (fun i : Nat => mk [(0, .one (.c (.sl 8 (l.map iO)))), (1, .one (.clo 118 [.vp 10 0])), (7, I .i64 ((l.map iO).length : Int)), (8, I .i64 i)] [(10, .var 9 [.c (.str s)])]) (fun i => i ≤ l.length ∧ aEo (fun x : Fld => decide (x.name = s)) l 0 = aEo (fun x : Fld => decide (x.name = s)) (l.drop i) i) (fun i => l.length - i) 0 ⟨zero_le _, rfl⟩ sl ?_;intro i ⟨hi, hid⟩;refine a8 (ag [] rfl ?_);refine a8 (aA rfl (fun hb => ?_) (fun hb => ?_))
 ·have hlt := ltD hb hkl;obtain ⟨b, hbi⟩ := aK hlt;have hbi' := bQ iO hbi;have hc := aOt b s;have hdr : l.drop i = b :: l.drop (i + 1) := by rw [drop_eq_getElem_cons hlt, (List.getElem?_eq_some_iff.1 hbi).2]
  rw [hdr, aEo] at hid;refine aD ?_;refine a8 (aB (a8 (ag [] rfl ?_)));refine a8 (aE mixed ?_);refine ak 5 [(3, .row i (iO b))] rfl ?_;refine kv (args := [.pa (iO b)]) hc ?_;refine az ?_;refine aA rfl (fun hb => ?_) (fun hb => ?_)
  ·rw [if_pos hb] at hid;rw [hid];refine a8 (ag [] rfl ?_);exact aI rtT
  ·rw [if_neg (by rw [show decide (b.name = s) = false from hb]; exact Bool.false_ne_true)] at hid;refine aD ?_;refine ag [] rfl ?_;exact ⟨i + 1, ⟨hlt, hid⟩, by dsimp only; omega, sl⟩
 have hge := geD hb hkl hi;subst hge;rw [drop_length, aEo] at hid;rw [hid];refine aM ?_;refine a8 (ag [] rfl ?_);exact aI rtT
def tO (m : Mod) (F : Nat) : List (Nat × AObj) := [(900, .var 107 [.c (.sl 8 (m.fields.map iO)), .c (.sl 15 (m.binds.map bA)), .c (.int .i64 F)])]
def veV (r : VE) : V := .tup [.pa (jE r.1), I .i64 r.2.2]
structure VG (m : Mod) (n : Nat) (U : List Str) (F : Nat) (c : Core) : Prop where
 nF : n + F ≤ 99
 st : ST n U c
 z : ¬ ([] : Str) ∈ U
 bi : BI U m.binds
 u : U.length + tlC c + 6000 * F ≤ 480000
theorem aSw (hI : dR 540000000000) {m : Mod} (hf : m.fields.length ≤ 1000) : ∀ (g d n F : Nat) (U : List Str) (c : Core), d ≤ 100 → VG m n U F c → F * MZ + m30 c + d < g →
  aU Tryz.prog 55 [.one (.vp 900 0), .pa (aC c), I .i64 d] (tO m F) (veV (dV m g d F c)) (tO m (dV m g d F c).2.1) := by
 intro g
 induction g with
 | zero => intro d n F U c _ _ h; omega
 | succ g ih =>
 intro d n F U c hd hv hg;have hU : U.length ≤ 480000 := by have := hv.u; omega
 have hwh := aQ0 hI hU hv.z hv.bi F hv.nF hv.st;have hok := aHc (n := n) hI hU hv.bi F 0 c (by have := hv.nF; omega) hv.st;have hle := aAk (bd := m.binds) F 0 c;rw [dV];unfold tO;by_cases hd0 : d = 0
 ·rw [if_pos hd0];subst hd0;refine bT (n := 128) tok Tryz.func55 rfl rfl rfl ?_;refine a8 (ag [] rfl ?_);refine a8 (a8 (ag [] rfl ?_));refine aA rfl (fun _ => ?_) (fun hb => absurd hb (by decide));refine a8 (ag [] rfl ?_);exact aI (iB trw)
 rw [if_neg hd0];generalize bX m.binds F 0 c = w at *;obtain ⟨x, j, e⟩ := w;dsimp only at hok hle ⊢;by_cases he : ¬ e = 0
 ·rw [if_pos he];refine bT (n := 128) tok Tryz.func55 rfl rfl rfl ?_;refine a8 (ag [] rfl ?_);refine a8 (a8 (ag [] rfl ?_));refine aA rfl (fun hb => absurd (of_decide_eq_true hb) (by omega)) (fun _ => ?_);refine aD ?_;refine a8 (aE mixed ?_);refine ak 9 [] rfl ?_;refine kc hwh ?_;refine ak 7 [] rfl ?_;refine az ?_;refine a8 (a8 (ag [] rfl ?_));refine aA rfl (fun _ => ?_) (fun hb => absurd hb (by simp [he]));refine a8 (ag [] rfl ?_);exact aI (iB trw)
 rw [if_neg he];obtain rfl : e = 0 := by omega
 obtain ⟨hx, hsx, hxc⟩ := hok rfl;obtain ⟨_, hjF⟩ := hle rfl;obtain ⟨G, hG⟩ : ∃ G, F = G + j := ⟨F - j, by omega⟩
 have hGs : F - j = G := by omega
 rw [hGs];have hnG : n + j + G ≤ 99 := by have := hv.nF; omega
 have hbud : U.length + tlC x + 6000 * G ≤ 480000 ∧ (G * MZ + m30 x ≤ F * MZ + m30 c) := by
  have h1 := hv.u;by_cases h0 : j = 0
  ·have e : G = F := by omega
   rw [hxc h0, e]; exact ⟨by omega, le_refl _⟩
  ·have h2 := hx.tl;have h3 := hx.sz;have h4 : G * MZ + MZ ≤ F * MZ := aYy (by omega);have h5 : MZ = 3500001 := rfl;exact ⟨by omega, by omega⟩
 obtain ⟨hbu, hbm⟩ := hbud;have hcsx := dA x;have hszx := hx.sz;have hgv := aB3 403 x hx.q (by omega);subst hG;have hGi : (((G + j : Nat) : Int)) - ((j : Nat) : Int) = ((G : Nat) : Int) := by omega
 have hdi : ((d : Nat) : Int) - 1 = (((d - 1 : Nat) : Nat) : Int) := by omega
 clear hok hle hxc;have hih : ∀ (d' : Nat) (V : List Str) (y : Core) (G' : Nat), d' ≤ d → G' ≤ G → (∀ v ∈ U, v ∈ V) → V.length + tlC y ≤ U.length + tlC x → ¬ ([] : Str) ∈ V → ST (n + j) V y → m30 y + d' < m30 x + d → aU Tryz.prog 55 [.one (.vp 900 0), .pa (aC y), I .i64 d'] (tO m G') (veV (dV m g d' G' y)) (tO m (dV m g d' G' y).2.1) := by
  intro d' V y G' hd' hG' hUV hlen hzV hst hm;refine ih d' (n + j) G' V y (by omega) ⟨by omega, hst, hzV, hv.bi.monoU hUV, by omega⟩ ?_;have := aTo hG';omega
 unfold tO at hih;obtain ⟨R, hR⟩ : ∃ R, R = (if x.form = 3 then (aXp x.n, G, 0) else if x.form = 7 then dV m g d G (x.kids.headD zC) else aFx m.fields (fun F c => dV m g (d - 1) F c) G (gvC x) : VE) := ⟨_, rfl⟩
 rw [← hR];have hR3 : x.form = 3 → R = (aXp x.n, G, 0) := fun h => by rw [hR, if_pos h]
 have hR7 : ¬ x.form = 3 → x.form = 7 → R = dV m g d G (x.kids.headD zC) := fun h h' => by rw [hR, if_neg h, if_pos h']
 have hRk : ¬ x.form = 3 → ¬ x.form = 7 → R = aFx m.fields (fun F c => dV m g (d - 1) F c) G (gvC x) := fun h h' => by rw [hR, if_neg h, if_neg h']
 clear hR;obtain ⟨f, i, s, t, ks, bs, al⟩ := x;refine bT (n := 128) tok Tryz.func55 rfl rfl rfl ?_;refine a8 (ag [] rfl ?_);refine a8 (a8 (ag [] rfl ?_));refine aA rfl (fun hb => absurd (of_decide_eq_true hb) (by omega)) (fun _ => ?_);refine aD ?_;refine a8 (aE mixed ?_);refine ak 9 [] rfl ?_;refine kc hwh ?_;refine ak 7 [] rfl ?_;refine az ?_;refine a8 (a8 (ag [] rfl ?_));refine aA rfl (fun hb => by simp at hb) (fun _ => ?_);refine aD ?_;refine a8 (ag [] rfl ?_);rw [hGi];refine a8 (a8 (ag [] rfl ?_));by_cases h3 : f = 3
 ·rw [hR3 h3];refine aB (a8 (ag [] rfl ?_));refine aA rfl (fun _ => ?_) (fun hb => absurd h3 (of_decide_eq_false hb));refine a8 (ag [] rfl ?_);exact aI (iB trw)
 by_cases h7 : f = 7
 ·rw [hR7 h3 h7];subst h7;obtain ⟨⟨kid, rfl⟩, rfl, rfl⟩ := fK hx.q (.inr (.inr rfl));obtain ⟨k1, k2, k3⟩ := hx.tkid (x := kid) mem_cons_self;have hs0 : ¬ s = [] := ((bE.1 hx.q).1.2.1 rfl).2
  have hk := hih d (s :: U) kid G (le_refl _) (le_refl _) (fun v hv => mem_cons_of_mem _ hv) (by rw [length_cons]; omega) (fun h => (mem_cons.1 h).elim (fun e => hs0 e.symm) hv.z) k1 (by omega);refine aB (a8 (ag [] rfl ?_));refine aA rfl (fun hb => absurd (of_decide_eq_true hb) h3) (fun _ => ?_);refine a8 (ag [] rfl ?_);refine aA rfl (fun _ => ?_) (fun hb => by simp [Core.form] at hb);refine a8 (aE mixed ?_);refine ak 6 [(3, .row 0 (aC kid))] rfl ?_;refine kc hk ?_;refine ak 4 [] rfl ?_;refine az ?_;exact aI (iB trw)
 rw [hRk h3 h7];clear hR3 hR7 hRk;refine AWp.cut (mk [(0, .one (.vp 900 0)), (2, I .i64 d), (4, .one (.vp 4 0)), (6, .one (.vp 6 0))] [(900, .var 107 [.c (.sl 8 (m.fields.map iO)), .c (.sl 15 (m.binds.map bA)), .c (.int .i64 G)]), (4, .var 37 (bB (.mk f i s t ks bs al))), (6, .var 52 [.c (.int .i64 0), .c (.int .i64 0), .c (.str []), .c .nl])]) ?_ ?_
 ·refine aB (a8 (ag [] rfl ?_));refine aA rfl (fun hb => absurd (of_decide_eq_true hb) h3) (fun _ => ?_);refine a8 (ag [] rfl ?_);refine aA rfl (fun hb => absurd (of_decide_eq_true hb) h7) (fun _ => ?_);exact aD sl
 cases hgx : gvC (.mk f i s t ks bs al) with
 | none =>
  rw [hgx] at hgv;have hix := zF m.fields (by omega) [];refine a8 (ag [(1, .pc (wC none))] rfl ?_);refine a8 (aE mixed ?_);refine ak 6 [] rfl ?_;refine kc hix ?_;refine ak 1 [] rfl ?_;refine az ?_;refine a8 (a8 (ag [(2, .bv true), (5, .bv true), (6, .bv true), (19, .bv true)] rfl ?_));refine aA rfl (fun _ => ?_) (fun hb => by cases hb);refine a8 (ag [] rfl ?_);exact aI (iB trw)
 | some p =>
  obtain ⟨cs, l⟩ := p;obtain ⟨gst, nM⟩ := aVy _ _ (le_refl _) hx cs l hgx;have gtl := aYe _ _ (le_refl _) hx cs l hgx;rw [hgx] at hgv;have hix := zF m.fields (by omega) cs;unfold aFx;dsimp only;rcases rH (fun x : Fld => decide (x.name = cs)) m.fields 0 with ⟨k, fl, h1, h2, h3'⟩ | ⟨h1, h3'⟩
  ·rw [h1, zero_add] at hix;rw [h3'];dsimp only;have hfl' := bQ iO h2;have hk0 : decide (((k : Nat) : Int) < 0) = false := decide_eq_false (by omega);have hlk : (l.map aC).length = l.length := length_map _;have hkf := (List.getElem?_eq_some_iff.1 h2).1
   refine a8 (ag [(1, .pc (wC (some (cs, l))))] rfl ?_);refine a8 (aE mixed ?_);refine ak 6 [] rfl ?_;refine kc hix ?_;refine ak 1 [] rfl ?_;refine az ?_;refine a8 (a8 (ag [(2, .bv false), (5, .bv false), (6, .bv false), (15, .row k (iO fl)), (19, .bv false)] rfl ?_));by_cases ha : ¬ (l.length : Int) = fl.arity
   ·rw [if_pos ha];refine aA rfl (fun _ => ?_) (fun hb => absurd hb (by simp [hlk, ha]));refine a8 (ag [] rfl ?_);exact aI (iB trw)
   rw [if_neg ha];have ha : (l.length : Int) = fl.arity := by omega
   refine aA rfl (fun hb => absurd hb (by simp [ha])) (fun _ => ?_);refine aD ?_;have hlen : l.length ≤ 10000000 := by have := aJ4 l; omega
   have hvl := fun k => qO (f := fun F c => dV m g (d - 1) F c) (l.take k) G
   refine a8 (ag [] rfl ?_);refine AWp.sub (Sub.ownCell (x := 14) (k := 3) (id := 720) 52 4 rfl rfl rfl) ?_;refine a8 (a8 (ag [] rfl ?_));refine aB ?_;refine aL (fun k : Nat => mk [(0, .one (.vp 900 0)), (2, I .i64 d), (6, .one (.vp 6 0)), (14, .one (.vp 14 0)), (102, .one (.c (.sl 10 (l.map aC)))), (103, I .i64 ((l.map aC).length : Int)), (104, I .i64 k)] [(900, .var 107 [.c (.sl 8 (m.fields.map iO)), .c (.sl 15 (m.binds.map bA)), .c (.int .i64 ((dF (fun F c => dV m g (d - 1) F c) G (l.take k)).2.1 : Nat))]), (6, .var 52 [.c (.int .i64 0), .c (.int .i64 0), .c (.str []), .c .nl]), (14, .var 52 [.c (.int .i64 1), .c (.int .i64 0), .c (.str cs), .hs 720 0 (dF (fun F c => dV m g (d - 1) F c) G (l.take k)).1.length (dF (fun F c => dV m g (d - 1) F c) G (l.take k)).1.length]), (720, .arr 52 4 ((dF (fun F c => dV m g (d - 1) F c) G (l.take k)).1.map jE) 0)]) (fun k => k ≤ l.length ∧ (dF (fun F c => dV m g (d - 1) F c) G (l.take k)).2.2 = 0) (fun k => l.length - k) 0 ⟨zero_le _, rfl⟩ sl ?_;rintro q ⟨hq, hq0⟩;refine a8 (ag [] rfl ?_);refine a8 (aA rfl (fun hb => ?_) (fun hb => ?_))
   ·have hlt := ltD hb hlk;obtain ⟨y, hy⟩ := aK hlt;have hy' := bQ aC hy;have hym := List.mem_of_getElem? hy;have hle2 := uV (fun F c => aA0 (md := m) g (d - 1) F c) (l.take q) G;have hk := hih (d - 1) U y (dF (fun F c => dV m g (d - 1) F c) G (l.take q)).2.1 (by omega) hle2 (fun v hv => hv) (by have := gtl y hym; omega) hv.z (gst y hym) (by have := v8 (g := m30) hym; omega);rw [← hdi] at hk;have hsn := sQ (f := fun F c => dV m g (d - 1) F c) (x := y) (l.take q) G hq0;have htk : l.take (q + 1) = l.take q ++ [y] := by rw [take_add_one, hy]; rfl
    rw [← htk] at hsn;have hvlq := hvl q hq0;rw [length_take] at hvlq;generalize dF (fun F c => dV m g (d - 1) F c) G (l.take q) = T at *;obtain ⟨vs, Fq, eq⟩ := T;dsimp only at hk hsn hvlq hle2 ⊢;generalize hT : dV m g (d - 1) Fq y = r at *;obtain ⟨rv, rF, re⟩ := r;dsimp only at hk hsn ⊢;have hmk : (vs.map jE).length = vs.length := length_map _;refine aD ?_;refine a8 (aB ?_);refine a8 (ag [(0, .row q (aC y))] rfl ?_);refine a8 (aE mixed ?_);refine ak 4 [] rfl ?_;refine kc hk ?_;refine ak 6 [] rfl ?_;refine az ?_;by_cases hre : re = 0
    ·subst hre;rw [if_pos rfl] at hsn;refine a8 (a8 (ag [] rfl ?_));refine aA rfl (fun hb => by simp at hb) (fun _ => ?_);refine aD ?_;refine ag [(3, .all)] rfl ?_;refine ag [] rfl ?_;refine ⟨q + 1, ⟨hlt, by rw [hsn]⟩, by dsimp only; omega, ?_⟩;dsimp only;rw [hsn];exact sl
    ·rw [if_neg hre] at hsn;have htl : dF (fun F c => dV m g (d - 1) F c) G l = ([], rF, re) := by
      have := xQ (f := fun F c => dV m g (d - 1) F c) (r := l.drop (q + 1)) (l.take (q + 1)) G (by rw [hsn]; exact hre);rwa [take_append_drop, hsn] at this
     rw [htl, if_neg hre];refine a8 (a8 (ag [] rfl ?_));refine aA rfl (fun _ => ?_) (fun hb => absurd hb (by simp [hre]));refine a8 (ag [] rfl ?_);exact aI (iB trw)
   have hge := geD hb hlk hq;subst hge;rw [take_length] at hq0 ⊢;rw [if_pos hq0];generalize dF (fun F c => dV m g (d - 1) F c) G l = T at *;obtain ⟨vs, Fq, eq⟩ := T;dsimp only;have hmk : vs.length = (kT vs).length := by rw [iM, length_map]
   rw [← iM];refine aM ?_;refine AWp.sub (Sub.freeze (id := 720) rfl) ?_;refine a8 (ag [] rfl ?_);exact aI (iB trw)
  ·rw [h1] at hix;rw [h3'];refine a8 (ag [(1, .pc (wC (some (cs, l))))] rfl ?_);refine a8 (aE mixed ?_);refine ak 6 [] rfl ?_;refine kc hix ?_;refine ak 1 [] rfl ?_;refine az ?_;refine a8 (a8 (ag [(2, .bv false), (5, .bv false), (6, .bv true), (19, .bv true)] rfl ?_));refine aA rfl (fun _ => ?_) (fun hb => by cases hb);refine a8 (ag [] rfl ?_);exact aI (iB trw)
theorem aS9 (hI : dR 540000000000) {m : Mod} (hf : m.fields.length ≤ 1000) (g d n F : Nat) (U : List Str) (c : Core) (hd : d ≤ 100) (hv : VG m n U F c) (hg : F * MZ + m30 c + d < g) :
  aU Tryz.prog 17 [.pa (jK m), .pa (aC c), I .i64 d, I .i64 F] [] (veV (dV m g d F c)) [] := by
 have hk := aSw hI hf g d n F U c hd hv hg;unfold tO at hk;refine bT (n := 19) tok Tryz.func17 rfl rfl rfl ?_;refine a8 (ag [] rfl ?_);refine a8 (aE mixed ?_);refine ak 6 [(3, .id 900)] rfl ?_;refine kc hk ?_;refine ak 4 [] rfl ?_;refine az ?_;exact aI (iB trw)
mutual
def vsz : Val → Nat
 | .mk _ _ _ l => 1 + aXc l
def aXc : List Val → Nat
 | [] => 0
 | v :: l => vsz v + aXc l
end
mutual
def aRe (K : Nat) : Val → Prop
 | .mk _ _ _ l => l.length ≤ K ∧ aHf K l
def aHf (K : Nat) : List Val → Prop
 | [] => True
 | v :: l => aRe K v ∧ aHf K l
end
theorem qM {K : Nat} : ∀ {l : List Val}, aHf K l ↔ ∀ v ∈ l, aRe K v
 | [] => by simp [aHf]
 | v :: l => by rw [aHf, qM (l := l)]; simp
theorem aCn : ∀ {l : List Val} {v : Val}, v ∈ l → vsz v ≤ aXc l
 | x :: l, v, h => by
  rw [aXc];rcases mem_cons.1 h with rfl | h
  ·omega
  ·have := aCn h; omega
theorem aRd (v : Val) : 1 ≤ vsz v := by cases v; rw [vsz]; omega
theorem xP {K : Nat} {f : Nat → Core → VE} (hf : ∀ F c, aRe K (f F c).1) : ∀ (l : List Core) (F : Nat), ∀ v ∈ (dF f F l).1, aRe K v
 | [], F, v, h => by cases h
 | c :: l, F, v, h => by
  rw [dF] at h;by_cases h1 : (f F c).2.2 = 0
  ·rw [if_pos h1] at h;by_cases h2 : (dF f (f F c).2.1 l).2.2 = 0
   ·rw [if_pos h2] at h;rcases mem_cons.1 h with rfl | h
    ·exact hf _ _
    ·exact xP hf l _ v h
   ·rw [if_neg h2] at h; cases h
  ·rw [if_neg h1] at h; cases h
theorem yV {K : Nat} {f n : Int} {s : Str} : aRe K (.mk f n s []) := ⟨zero_le _, trivial⟩
theorem uW {m : Mod} {K : Nat} (hK : ∀ x ∈ m.fields, x.arity ≤ K) : ∀ (g d F : Nat) (c : Core), aRe K (dV m g d F c).1
 | 0, d, F, c => yV
 | g + 1, d, F, c => by
  rw [dV];by_cases hd : d = 0
  ·rw [if_pos hd]; exact yV
  rw [if_neg hd];by_cases h0 : ¬ (bX m.binds F 0 c).2.2 = 0
  ·rw [if_pos h0]; exact yV
  rw [if_neg h0];by_cases h3 : (bX m.binds F 0 c).1.form = 3
  ·rw [if_pos h3]; exact yV
  rw [if_neg h3];by_cases h7 : (bX m.binds F 0 c).1.form = 7
  ·rw [if_pos h7]; exact uW hK g d _ _
  rw [if_neg h7];generalize F - (bX m.binds F 0 c).2.1 = G;cases gvC (bX m.binds F 0 c).1 with
  | none => exact yV
  | some p =>
   obtain ⟨s, l⟩ := p;unfold aFx;dsimp only;cases hx : m.fields.find? fun x => decide (x.name = s) with
   | none => exact yV
   | some x =>
    dsimp only;by_cases ha : ¬ (l.length : Int) = x.arity
    ·rw [if_pos ha]; exact yV
    rw [if_neg ha];have hxK := hK x (List.mem_of_find?_eq_some hx);by_cases e : (dF (fun F c => dV m g (d - 1) F c) G l).2.2 = 0
    ·rw [if_pos e];have hl := qO l G e;refine ⟨by rw [hl]; omega, qM.2 (xP (fun F c => uW hK g (d - 1) F c) l G)⟩
    ·rw [if_neg e]; exact yV
theorem aS1 {K : Nat} (hK : K ≤ 1000000000) : ∀ (k : Nat) (v : Val), vsz v ≤ k → aRe K v → aU Tryz.prog 18 [.pa (jE v), .pa (jE v)] [] (B true) [] := by
 intro k
 induction k with
 | zero => intro v h; have := aRd v; omega
 | succ k ih =>
 intro v h hv;obtain ⟨f, n, s, ks⟩ := v;have hkl : (kT ks).length = ks.length := by rw [iM, length_map]
 rw [vsz] at h;have hks := hv.1;refine bT (n := 55) tok Tryz.func18 rfl rfl rfl ?_;refine a8 (ag [] rfl ?_);refine a8 (a8 (ag [(5, .bv false), (11, .bv false), (12, .bv false), (18, .bv false), (19, .bv false), (27, .bv false)] rfl ?_));refine aA rfl (fun hb => by simp at hb) (fun _ => ?_);refine aD ?_;refine a8 (a8 (ag [] rfl ?_));refine aB ?_;refine aL (fun i : Nat => mk [(2, .one (.vp 2 0)), (3, .one (.vp 3 0)), (5, I .i64 i)] [(2, .var 52 ((jE (.mk f n s ks)).map .c)), (3, .var 52 ((jE (.mk f n s ks)).map .c))]) (fun i => i ≤ ks.length) (fun i => ks.length - i) 0 (zero_le _) sl ?_;intro i hi;refine a8 (a8 (ag [] rfl ?_));refine aA rfl (fun hb => ?_) (fun hb => ?_)
 ·have hlt : i < ks.length := ltD hb hkl;obtain ⟨x, hx⟩ := aK hlt;have hxm := List.mem_of_getElem? hx;have hx' : (kT ks)[i]? = some (jE x) := by rw [iM]; exact bQ jE hx
  have hc := ih x (by have := aCn hxm; omega) (qM.1 hv.2 x hxm);refine aD ?_;refine a8 (aB ?_);refine a8 (ag [(3, .row i (jE x)), (8, .row i (jE x)), (10, .pc (B true))] rfl ?_);refine a8 (ag [] rfl ?_);refine aA rfl (fun hb => by cases hb) (fun _ => ?_);refine aD ?_;refine ag [] rfl ?_;exact ⟨i + 1, hlt, by dsimp only; omega, sl⟩
 refine aM ?_;refine a8 (ag [] rfl ?_);exact aI rtT
theorem aPh {n B : Int} (h1 : -(10 * B) < n) (h2 : n < 10 * B) : -B < n.tdiv 10 ∧ n.tdiv 10 < B := by
 rcases Int.le_total 0 n with h | h
 ·rw [Int.tdiv_eq_ediv_of_nonneg h]; omega
 ·obtain ⟨m, rfl⟩ : ∃ m, n = -m := ⟨-n, by omega⟩
  rw [Int.neg_tdiv, Int.tdiv_eq_ediv_of_nonneg (by omega)]; omega
theorem aUc (n : Int) : -10 < n.tmod 10 ∧ n.tmod 10 < 10 := by
 rcases Int.le_total 0 n with h | h
 ·rw [Int.tmod_eq_emod_of_nonneg h]; omega
 ·obtain ⟨m, rfl⟩ : ∃ m, n = -m := ⟨-n, by omega⟩
  rw [Int.neg_tmod, Int.tmod_eq_emod_of_nonneg (by omega)]; omega
theorem aN5 {n : Int} (h : i64 n) : i64 (n.tdiv 10) := by
 have := aPh (n := n) (B := 922337203685477581) (by unfold i64 at h; omega) (by unfold i64 at h; omega);unfold i64; omega
theorem aWf (k : Nat) (hih : ∀ n : Int, -((10 : Int) ^ k) < n → n < (10 : Int) ^ k → i64 n → k ≤ 30 → 1 ≤ k → ∃ s : Str, s.length ≤ k + 1 ∧ aU Tryz.prog 111 [I .i64 n] [] (Go.AM.T s) []) (n : Int) (h1 : -((10 : Int) ^ (k + 1)) < n) (h2 : n < (10 : Int) ^ (k + 1)) (hn : i64 n) (hk : k + 1 ≤ 30) :
  ∃ s : Str, s.length ≤ k + 2 ∧ aU Tryz.prog 111 [I .i64 n] [] (Go.AM.T s) [] := by
 obtain ⟨r1, r2⟩ := aUc n;have hq := aN5 hn;have hM : 1000000000 ≤ maxLen := by decide
 obtain ⟨r', hr', hr0⟩ : ∃ r' : Int, (r' = if n.tmod 10 < 0 then 0 - n.tmod 10 else n.tmod 10) ∧ 0 ≤ r' ∧ r' < 10 := ⟨_, rfl, by split <;> omega⟩
 obtain ⟨d, hd⟩ : ∃ d : UInt8, d = UInt8.ofNat (IntKind.u8.wrap (48 + r')).toNat := ⟨_, rfl⟩
 by_cases hsm : -10 < n ∧ n < 10
 ·refine ⟨if n < 0 then [45, d] else [d], by split <;> simp, ?_⟩;refine bT (n := 32) tok Tryz.func111 rfl rfl rfl ?_;refine a8 (ag [] rfl ?_);refine a8 (aE mixed ?_);refine ak 1 [] rfl ?_;refine kw (op := .rem) (a := n) (b := 10) (n.tmod 10) rfl ?_;refine ak 1 [] rfl ?_;refine az ?_;refine a8 (a8 (ag [] rfl ?_));refine AWp.cut (mk [(0, I .i64 n), (3, I .i64 r')] []) ?_ ?_
  ·refine aA rfl (fun hb => ?_) (fun hb => ?_)
   ·have hb : n.tmod 10 < 0 := of_decide_eq_true hb;rw [if_pos hb] at hr';subst hr';exact ag [] rfl sl
   ·have hb : ¬ n.tmod 10 < 0 := of_decide_eq_false hb;rw [if_neg hb] at hr';subst hr';exact aD sl
  refine a8 (ag [] rfl ?_);refine AWp.sub (st2 := mk [(0, I .i64 n), (4, Go.AM.T [d])] []) (sl (he := ⟨rfl, by rw [hd]; rfl, trivial⟩)) ?_;refine a8 (a8 (agF 3 [] rfl rfl rfl ?_));refine aA rfl (fun _ => ?_) (fun hb => by simp at hb; omega);refine a8 (a8 (ag [] rfl ?_));by_cases h0 : n < 0
  ·rw [if_pos h0];refine aA rfl (fun _ => ?_) (fun hb => absurd h0 (of_decide_eq_false hb));refine a8 (ag [] rfl ?_);exact aI rtT
  ·rw [if_neg h0];refine aA rfl (fun hb => absurd (of_decide_eq_true hb) h0) (fun _ => ?_);refine aD ?_;refine a8 (ag [] rfl ?_);exact aI rtT
 ·have hk1 : 1 ≤ k := by
   cases k with
   | zero => simp at h1 h2; omega
   | succ k => omega
  have hB : (10 : Int) ^ (k + 1) = 10 * (10 : Int) ^ k := by rw [Int.pow_succ, Int.mul_comm]
  rw [hB] at h1 h2;obtain ⟨q1, q2⟩ := aPh h1 h2;obtain ⟨s, hs, hc⟩ := hih (n.tdiv 10) q1 q2 hq (by omega) hk1;refine ⟨s ++ [d], by rw [length_append]; simp; omega, ?_⟩;refine bT (n := 32) tok Tryz.func111 rfl rfl rfl ?_;refine a8 (ag [] rfl ?_);refine a8 (aE mixed ?_);refine ak 1 [] rfl ?_;refine kw (op := .rem) (a := n) (b := 10) (n.tmod 10) rfl ?_;refine ak 1 [] rfl ?_;refine az ?_;refine a8 (a8 (ag [] rfl ?_));refine AWp.cut (mk [(0, I .i64 n), (3, I .i64 r')] []) ?_ ?_
  ·refine aA rfl (fun hb => ?_) (fun hb => ?_)
   ·have hb : n.tmod 10 < 0 := of_decide_eq_true hb;rw [if_pos hb] at hr';subst hr';exact ag [] rfl sl
   ·have hb : ¬ n.tmod 10 < 0 := of_decide_eq_false hb;rw [if_neg hb] at hr';subst hr';exact aD sl
  refine a8 (ag [] rfl ?_);refine AWp.sub (st2 := mk [(0, I .i64 n), (4, Go.AM.T [d])] []) (sl (he := ⟨rfl, by rw [hd]; rfl, trivial⟩)) ?_;refine a8 (a8 (agF 3 [] rfl rfl rfl ?_));refine aA rfl (fun hb => by simp at hb; exact absurd ⟨hb.1, hb.2⟩ hsm) (fun _ => ?_);refine aD ?_;refine a8 (aE mixed ?_);refine ak 1 [] rfl ?_;refine kw (op := .quo) (a := n) (b := 10) (n.tdiv 10) (by show (if (10 : Int) = 0 then none else some (IntKind.i64.wrap (n.tdiv 10))) = some (n.tdiv 10); rw [if_neg (by decide), IntWalk.i64_in _ hq]) ?_;refine kc hc ?_;refine ak 3 [] rfl ?_;refine az ?_;exact aI (rtT (hc := .refl))
theorem aWg : ∀ (k : Nat) (n : Int), -((10 : Int) ^ k) < n → n < (10 : Int) ^ k → i64 n → k ≤ 30 → 1 ≤ k → ∃ s : Str, s.length ≤ k + 1 ∧ aU Tryz.prog 111 [I .i64 n] [] (Go.AM.T s) []
 | 0, n, _, _, _, _, h => absurd h (by decide)
 | k + 1, n, h1, h2, h3, h4, _ => aWf k (fun n => aWg k n) n h1 h2 h3 h4
theorem aQh (n : Int) (h : i64 n) : ∃ s : Str, s.length ≤ 21 ∧ aU Tryz.prog 111 [I .i64 n] [] (Go.AM.T s) [] := by
 have h10 : (10 : Int) ^ 20 = 100000000000000000000 := rfl;have h' := h;unfold i64 at h';exact aWg 20 n (by omega) (by omega) h (by omega) (by omega)
inductive KC : Core → Prop
 | mk {f n : Int} {s : Str} {ks : List Core} (h1 : ¬ f = 1) (h5 : ¬ f = 5) (h7 : ¬ f = 7) (hf : i64 f) (hn : i64 n) (hk : ∀ x ∈ ks, KC x) : KC (.mk f n s zTy ks [] [])
theorem aKy {ks : List Core} : ∀ i, bJ (ks.take i) ≤ bJ ks := by
 induction ks with
 | nil => intro i; simp
 | cons c l ih =>
  intro i;cases i with
  | zero => rw [take_zero, bJ]; omega
  | succ i => rw [take_succ_cons, bJ, bJ]; have := ih i; omega
theorem yU {S : Core → Str} {K : Nat} : ∀ {l : List Core}, (∀ x ∈ l, (S x).length ≤ K * b6 x) → (l.flatMap S).length ≤ K * bJ l
 | [], _ => by simp
 | c :: l, h => by
  rw [flatMap_cons, length_append, bJ, mul_add];have := h c mem_cons_self;have := yU (l := l) fun x hx => h x (mem_cons_of_mem _ hx)
  omega
theorem aZk : ∀ (k : Nat) (c : Core), b6 c ≤ k → KC c → b6 c ≤ 1000000 → ∃ s : Str, s.length ≤ 100 * b6 c ∧ aU Tryz.prog 50 [.pa (aC c), bU [], bU []] [] (Go.AM.T s) [] := by
 intro k
 induction k with
 | zero => intro c h; have := eZ c; omega
 | succ k ih =>
 intro c h hc hsz;obtain ⟨h1, h5, h7, hf, hn, hks⟩ := hc;rename_i f n nm ks;have hM : 1000000000 ≤ maxLen := by decide
 have hcs : b6 (.mk f n nm zTy ks [] []) = 1 + nm.length + bJ ks := by rw [b6, cB, bZ]; rfl
 obtain ⟨S1, l1, c1⟩ := aQh f hf;obtain ⟨S2, l2, c2⟩ := aQh n hn;have hall : ∀ x : Core, ∃ s : Str, x ∈ ks → s.length ≤ 100 * b6 x ∧ aU Tryz.prog 50 [.pa (aC x), bU [], bU []] [] (Go.AM.T s) [] := fun x => by
  by_cases hx : x ∈ ks
  ·have := lM hx;obtain ⟨s, g1, g2⟩ := ih x (by omega) (hks x hx) (by omega);exact ⟨s, fun _ => ⟨g1, g2⟩⟩
  ·exact ⟨[], fun h => absurd h hx⟩
 obtain ⟨S, hS⟩ := Classical.axiomOfChoice hall;have hfl : ∀ i, ((ks.take i).flatMap S).length ≤ 100 * bJ ks := fun i => by
  have := yU (S := S) (K := 100) (l := ks.take i) fun x hx => (hS x (mem_of_mem_take hx)).1
  have := aKy (ks := ks) i;omega
 have hkl : (aQ ks).length = ks.length := by rw [bC, length_map]
 have hkc : ks.length ≤ bJ ks := by
  clear hall hS hfl hkl hcs hsz hks h ih
  induction ks with
  | nil => simp
  | cons c l ih => rw [bJ, length_cons]; have := eZ c; omega
 refine ⟨([40] ++ S1 ++ [32] ++ S2 ++ [32]) ++ nm ++ (ks.take ks.length).flatMap S ++ [41], ?_, ?_⟩
 ·have := hfl ks.length;simp only [length_append, length_cons, length_nil];omega
 have hl0 : ([40] ++ S1 ++ [32] ++ S2 ++ [32] : Str).length ≤ 50 := by simp only [length_append, length_cons, length_nil]; omega
 refine bT (n := 200) tok Tryz.func50 rfl rfl rfl ?_;refine a8 (ag [] rfl ?_);refine a8 (aE mixed ?_);refine ak 2 [] rfl ?_;refine kc c1 ?_;refine ak 4 [] rfl ?_ (hc := by repeat (first | exact trivial | refine ⟨by first | rfl | (simp; omega), ?_⟩));refine kc c2 ?_;refine ak 3 [] rfl ?_ (hc := by repeat (first | exact trivial | refine ⟨by first | rfl | (simp; omega), ?_⟩));refine az ?_;generalize hpre : ([40] ++ S1 ++ [32] ++ S2 ++ [32] : Str) = pre at *;have hd5 : (!decide (f = 5)) = true := by simp [h5]
 refine a8 (a8 (ag [] rfl ?_));refine aA rfl (fun hb => absurd (of_decide_eq_true hb) h1) (fun _ => ?_);refine aD ?_;refine a8 (a8 (ag [(3, .bv true), (7, .bv true)] rfl ?_));refine aA rfl (fun _ => ?_) (fun hb => absurd hb (by simp [Core.form, h7]));refine ag [] rfl ?_ (hc := ⟨by show pre.length + nm.length ≤ maxLen; omega, trivial⟩);refine a8 (a8 (ag [] rfl ?_));refine aA rfl (fun hb => absurd hb (by simp [Core.ty, zTy, Ty.form])) (fun _ => ?_);refine aD ?_;refine a8 (ag [] rfl ?_);refine AWp.sub (Sub.own (t := 8) (id := 720) 9 1 rfl rfl) ?_;refine a8 (ag [(2, .all)] rfl ?_);refine a8 (ag [] rfl ?_);refine AWp.sub (Sub.own (t := 9) (id := 721) 9 1 rfl rfl) ?_;refine a8 (ag [(2, .all)] rfl ?_);refine a8 (a8 (ag [] rfl ?_));refine aA rfl (fun hb => absurd (of_decide_eq_true hb) h5) (fun _ => ?_);refine aD ?_;refine a8 (a8 (ag [] rfl ?_));refine aA rfl (fun hb => absurd (of_decide_eq_true hb) h7) (fun _ => ?_);refine aD ?_;refine AWp.sub (Sub.freeze (id := 720) rfl) (AWp.sub (Sub.freeze (id := 721) rfl) (AWp.sub (cv 8 []) (AWp.sub (cv 9 []) ?_)));refine a8 (a8 (ag [] rfl ?_));refine aB ?_;refine aL (fun _ : Unit => mk [(3, .one (.vp 3 0)), (7, Go.AM.T (pre ++ nm)), (8, bU []), (9, bU []), (10, I .i64 0)] [(3, .var 37 (bB (.mk f n nm zTy ks [] [])))]) (fun _ => True) (fun _ => 0) () trivial sl ?_;intro _ _;refine a8 (a8 (ag [] rfl ?_));refine aA rfl (fun hb => by simp [mX, aR, hZ, c9] at hb) (fun _ => ?_);refine aM ?_;refine a8 (a8 (ag [] rfl ?_));refine aB ?_;refine aL (fun i : Nat => mk [(3, .one (.vp 3 0)), (7, Go.AM.T (pre ++ nm ++ (ks.take i).flatMap S)), (8, bU []), (9, bU []), (11, I .i64 i)] [(3, .var 37 (bB (.mk f n nm zTy ks [] [])))]) (fun i => i ≤ ks.length) (fun i => ks.length - i) 0 (zero_le _) (sl (he := ⟨rfl, by rw [take_zero, flatMap_nil, append_nil]; rfl, rfl, rfl, rfl, trivial⟩)) ?_;intro i hi;refine a8 (a8 (ag [] rfl ?_));refine aA rfl (fun hb => ?_) (fun hb => ?_)
 ·have hlt : i < ks.length := ltD hb hkl;obtain ⟨x, hx⟩ := aK hlt;have hxm := List.mem_of_getElem? hx;have hx' : (aQ ks)[i]? = some (aC x) := by rw [bC]; exact bQ aC hx
  obtain ⟨g1, g2⟩ := hS x hxm;have hst : (ks.take (i + 1)).flatMap S = (ks.take i).flatMap S ++ S x := by rw [take_add_one, hx, flatMap_append]; simp
  have h3 := hfl i;have h4 := lM hxm;refine aD ?_;refine a8 (aB ?_);refine aE mixed ?_;refine ak 8 [(4, .row i (aC x))] rfl ?_;refine kc g2 ?_;refine ak 2 [] rfl ?_ (hc := ⟨by simp only [length_append]; omega, trivial⟩);refine az ?_;refine ag [] rfl ?_;refine ⟨i + 1, hlt, by dsimp only; omega, sl (he := ⟨rfl, by rw [hst, ← append_assoc]; rfl, rfl, rfl, rfl, trivial⟩)⟩
 have hge := geD hb hkl hi;subst hge;have h3 := hfl ks.length;refine aM ?_;refine a8 (a8 (ag [] rfl ?_));refine aB ?_;refine aL (fun _ : Unit => mk [(3, .one (.vp 3 0)), (7, Go.AM.T (pre ++ nm ++ (ks.take ks.length).flatMap S)), (12, I .i64 0)] [(3, .var 37 (bB (.mk f n nm zTy ks [] [])))]) (fun _ => True) (fun _ => 0) () trivial sl ?_;intro _ _;refine a8 (a8 (ag [] rfl ?_));refine aA rfl (fun hb => by simp [mX, aR, hZ, c9] at hb) (fun _ => ?_);refine aM ?_;refine a8 (a8 (ag [] rfl ?_));refine aB ?_;refine aL (fun _ : Unit => mk [(3, .one (.vp 3 0)), (7, Go.AM.T (pre ++ nm ++ (ks.take ks.length).flatMap S)), (13, I .i64 0)] [(3, .var 37 (bB (.mk f n nm zTy ks [] [])))]) (fun _ => True) (fun _ => 0) () trivial sl ?_;intro _ _;refine a8 (a8 (ag [] rfl ?_));refine aA rfl (fun hb => by simp [mX, aR, hZ, c9] at hb) (fun _ => ?_);refine aM ?_;refine a8 (ag [] rfl ?_ (hc := ⟨by simp only [length_append, length_cons, length_nil]; omega, trivial⟩));exact aI (rtT (hc := .refl))
theorem aOo {c : Core} (hc : KC c) (hsz : b6 c ≤ 1000000) : aU Tryz.prog 14 [.pa (aC c), .pa (aC c)] [] (B true) [] := by
 obtain ⟨s, _, hs⟩ := aZk _ c (le_refl _) hc hsz;refine bT (n := 10) tok Tryz.func14 rfl rfl rfl ?_;refine a8 (ag [] rfl ?_);refine a8 (aE mixed ?_);refine ak 1 [] rfl ?_;refine kc hs ?_;refine ak 1 [] rfl ?_;refine kc hs ?_;refine ak 2 [] rfl ?_;refine az ?_;have e : decide (s = s) = true := decide_eq_true rfl;exact aI (rtT (hv := by show some (B (decide (s = s))) = some (B true); rw [e]))
def aY4 (s : Str) (t : Ty) (c : Core) : Core := .mk 5 0 s t [c] [] []
def aOk (f a : Core) : Core := .mk 4 0 [] zTy [f, a] [] []
def xVC : Core := .mk 1 0 [120] zTy [] [] []
theorem aS6 (s : Str) (t : Ty) (c : Core) (h1 : aU Tryz.prog 116 [tyV t] [] (tyV t) []) (h2 : aU Tryz.prog 59 [.pa (aC c)] [] (.pa (aC c)) []) : aU Tryz.prog 53 [Go.AM.T s, tyV t, .pa (aC c)] [] (.pa (aC (aY4 s t c))) [] := by
 refine bT (n := 14) tok Tryz.func53 rfl rfl rfl ?_;refine a8 (ag [] rfl ?_);refine a8 (ag [(2, .pc (tyV t)), (4, .pc (.pa (aC c))), (5, .all)] rfl ?_);exact aI (rtC trw)
theorem aS8 (c a : Core) (h2 : aU Tryz.prog 59 [.pa (aC c)] [] (.pa (aC c)) []) (h1 : aU Tryz.prog 59 [.pa (aC a)] [] (.pa (aC a)) []) : aU Tryz.prog 32 [.pa (aC c), .one (.c (.sl 10 [aC a]))] [] (.pa (aC (aOk c a))) [] := by
 refine bT (n := 23) tok Tryz.func32 rfl rfl rfl ?_;refine a8 (ag [] rfl ?_);refine a8 (ag [(1, .pc (.pa (aC c)))] rfl ?_);refine a8 (a8 (ag [] rfl ?_));refine aB ?_;refine aL (fun i : Nat => mk [(4, .one (.vp 4 0)), (5, .one (.vp 5 0)), (10, .one (.c (.sl 10 [aC a]))), (11, I .i64 1), (12, I .i64 i)] [(4, .var 37 bS), (5, .var 37 (bB (if i = 0 then c else aOk c a)))]) (fun i => i ≤ 1) (fun i => 1 - i) 0 (zero_le _) sl ?_;intro i hi;refine a8 (ag [] rfl ?_);refine a8 (aA rfl (fun hb => ?_) (fun hb => ?_))
 ·have hi0 : i = 0 := by
   have : (i : Int) < 1 := of_decide_eq_true hb;omega
  subst hi0;rw [if_pos rfl];refine aD ?_;refine a8 (aB (a8 (ag [(0, .row 0 (aC a))] rfl ?_)));refine ag [(2, .pc (.pa (aC a))), (3, .all)] rfl ?_;refine ag [] rfl ?_;exact ⟨1, le_refl _, by dsimp only; omega, Sub.trans sl (vp 5 (aC (aOk c a)))⟩
 have hi1 : i = 1 := by
  have : ¬ (i : Int) < 1 := of_decide_eq_false hb;omega
 subst hi1;rw [if_neg (by omega)];refine aM ?_;refine a8 (ag [] rfl ?_);exact aI (rtC trw)
def vJ : Core := .mk 10 0 aVj zTy [jJ 2, jJ 3] [] []
def xJ (x : Core) : Core := .mk 10 0 aD6 zTy [x, x] [] []
def aTv : Core := aY4 [120] uZ (xJ xVC)
def aJ3 : Core := aOk aTv vJ
theorem aM4 (k : Nat) (b : Core) : fC (k + 2) (xJ xVC) [120] b = xJ b := by
 have hx : fC (k + 1) xVC [120] b = b := by rw [fC]; exact if_pos ⟨rfl, rfl⟩
 have hp : dN (fC (k + 1)) [120] b [] [xVC, xVC] = ([], [b, b]) := by
  unfold dN;rw [if_pos ⟨by simp [xVC, pfR], by simp⟩];simp [mU, hx]
 rw [fC, if_neg (by rintro ⟨h, _⟩; cases h), if_neg (by rintro ⟨h, _⟩; cases h), xJ, x6];have h0 : gvN 10 aD6 [] = [] := rfl;simp [zNm, zKs, zBs, h0, hp];rfl
def m0 : Mod := ⟨[], []⟩
theorem aP6 (n : Nat) : ST n [] aJ3 := by
 have hq1 : fF (QL 403) xVC := aCf rfl (by decide) (by decide) (by decide);have hqi : ∀ i, fF (QL 403) (jJ i) := fun i => aCf rfl (by decide) (by decide) (by decide)
 have hqt : fF (QL 403) (xJ xVC) := bE.2 ⟨⟨rfl, fun h => (by cases h), rfl, by simp, by decide, fun h => (by cases h), by simp, by simp⟩, fun x hx => by
  have : x = xVC := by simpa using hx
  rw [this]; exact hq1, by simp, by simp⟩
 have hqs : fF (QL 403) vJ := bE.2 ⟨⟨rfl, fun h => (by cases h), rfl, by simp, by decide, fun h => (by cases h), by simp, by simp⟩, fun x hx => by
  have : x = jJ 2 ∨ x = jJ 3 := by simpa using hx
  rcases this with rfl | rfl <;> exact hqi _, by simp, by simp⟩
 have hql : fF (QL 403) aTv := bE.2 ⟨⟨rfl, fun h => (by cases h), rfl, by simp, by decide, fun _ => (by unfold nh; decide), by simp, by simp⟩, fun x hx => by
  have : x = xJ xVC := by simpa using hx
  rw [this]; exact hqt, by simp, by simp⟩
 refine ⟨bE.2 ⟨⟨rfl, fun h => (by cases h), rfl, by simp, by decide, fun h => (by cases h), by simp, by simp⟩, fun x hx => ?_, by simp, by simp⟩, fun E _ => ?_, fun x hx => ?_, by decide, by decide⟩
 ·have : x = aTv ∨ x = vJ := by simpa using hx
  rcases this with rfl | rfl
  ·exact hql
  ·exact hqs
 ·have e : cw j6 E aJ3 r0 = 0 := by rfl
  rw [e]; omega
 ·have e : tyR aJ3 = [] := by rfl
  rw [e] at hx; cases hx
theorem aSc : m30 aJ3 = 248 := by decide
theorem aEn : cV [] (m30 aJ3) aJ3 = (xJ vJ, 0) := by
 rw [aSc];show cV [] (247 + 1) (.mk 4 0 [] zTy [aTv, vJ] [] []) = _;rw [vE, if_neg (by decide), if_pos (by decide), if_pos ⟨rfl, rfl⟩];show (fC (m30 (xJ xVC)) (xJ xVC) [120] vJ, (0 : Int)) = _;rw [show m30 (xJ xVC) = 91 + 2 by decide, aM4]
theorem aJ2 : vD [] aJ3 = (xJ vJ, 0) := by
 unfold vD;rw [aEn];rfl
theorem aVt : cV [] (m30 (xJ vJ)) (xJ vJ) = (.mk 10 0 aD6 zTy [jJ 6, vJ] [] [], 0) := by kernel_rfl
theorem aVs : cV [] (m30 (.mk 10 0 aD6 zTy [jJ 6, vJ] [] [])) (.mk 10 0 aD6 zTy [jJ 6, vJ] [] []) = (.mk 10 0 aD6 zTy [jJ 6, jJ 6] [] [], 0) := by kernel_rfl
theorem aVr : cV [] (m30 (.mk 10 0 aD6 zTy [jJ 6, jJ 6] [] [])) (.mk 10 0 aD6 zTy [jJ 6, jJ 6] [] []) = (jJ 12, 0) := by kernel_rfl
theorem aN3 : bX [] 10 0 aJ3 = (jJ 12, 4, 0) := by
 show bX [] (9 + 1) 0 aJ3 = _;rw [bX, if_neg (by decide), aEn, if_pos rfl, if_neg (by decide)];show bX [] (8 + 1) 1 (xJ vJ) = _;rw [bX, if_neg (by decide), aVt, if_pos rfl, if_neg (by decide)];show bX [] (7 + 1) 2 (.mk 10 0 aD6 zTy [jJ 6, vJ] [] []) = _;rw [bX, if_neg (by decide), aVs, if_pos rfl, if_neg (by decide)];show bX [] (6 + 1) 3 (.mk 10 0 aD6 zTy [jJ 6, jJ 6] [] []) = _;rw [bX, if_neg (by decide), aVr, if_pos rfl, if_neg (by decide)];show bX [] (5 + 1) 4 (jJ 12) = _;rw [bX, if_pos (by decide)]
theorem aVu : KC (xJ vJ) := by
 have hi : ∀ i, i64 i → KC (jJ i) := fun i h => .mk (by decide) (by decide) (by decide) (by unfold i64; omega) h (by simp)
 have hs : KC vJ := .mk (by decide) (by decide) (by decide) (by unfold i64; omega) (by unfold i64; omega) (fun x hx => by
  have : x = jJ 2 ∨ x = jJ 3 := by simpa using hx
  rcases this with rfl | rfl <;> exact hi _ (by unfold i64; omega))
 exact .mk (by decide) (by decide) (by decide) (by unfold i64; omega) (by unfold i64; omega) (fun x hx => by
  have : x = vJ := by simpa using hx
  rw [this]; exact hs)
theorem aLh : aU Tryz.prog 15 [] [] (B true) [] := by
 have hI : dR 540000000000 := fun k hk => aLi k (by omega)
 have hB : BI [] m0.binds := ⟨by decide, fun b hb => by cases hb⟩
 have h1 := aSx [73, 110, 116];have h2 := rV [120];have h3 := aLl 2;have h4 := aLl 3;have hti : aU Tryz.prog 116 [tyV uZ] [] (tyV uZ) [] := aLa hI uZ rfl (by decide);have htz : aU Tryz.prog 116 [tyV zTy] [] (tyV zTy) [] := aLa hI zTy rfl (by decide);have hT : allT TyG aJ3 := by
  have v : TyG zTy ∧ True ∧ True ∧ True := ⟨htz, trivial, trivial, trivial⟩
  exact ⟨htz, ⟨⟨hti, ⟨⟨htz, ⟨v, v, trivial⟩, trivial, trivial⟩, trivial⟩, trivial, trivial⟩, ⟨htz, ⟨v, v, trivial⟩, trivial, trivial⟩, trivial⟩, trivial, trivial⟩
 have h5 := aS6 [120] uZ (xJ xVC) hti (rS _ _ (le_refl _) (by decide) hT.2.1.1.2.1.1);have h6 := aS8 aTv vJ (rS _ _ (le_refl _) (by decide) hT.2.1.1) (rS _ _ (le_refl _) (by decide) hT.2.1.2.1);have h7 := aLn hI (n := 0) (U := []) (by omega) (by decide) (by simp) hB (m := m0) (aP6 0);rw [show m0.binds = [] from rfl, aJ2] at h7;have h8 := aQ0 hI (n := 0) (U := []) (by decide) (by simp) hB (m := m0) 10 (by omega) (aP6 0);rw [show m0.binds = [] from rfl, aN3] at h8;have hi3 : ST 0 [] (jJ 3) := (aCe (n := 0) (U := []) (w := 0) rfl (by decide) (by decide) (by decide)).st (by decide);have h9 := aLn hI (n := 0) (U := []) (by omega) (by decide) (by simp) hB (m := m0) hi3;rw [show vD m0.binds (jJ 3) = (zC, 21) from rfl] at h9;have h10 := aOo aVu (by decide);refine bT (n := 75) tok Tryz.func15 rfl rfl rfl ?_;refine a8 (ag [] rfl ?_);refine a8 (ag [(0, .pc (tyV uZ))] rfl ?_);refine a8 (ag [(0, .pc (.pa (aC xVC)))] rfl ?_);refine a8 (ag [(2, .all)] rfl ?_);refine a8 (ag [(0, .pc (.pa (aC (jJ 2)))), (1, .pc (.pa (aC (jJ 3)))), (2, .all)] rfl ?_);refine a8 (ag [(2, .pc (.pa (aC aTv))), (4, .all), (5, .pc (.pa (aC aJ3)))] rfl ?_);refine a8 (ag [(2, .pc (fH (xJ vJ, 0)))] rfl ?_);refine a8 (ag [(2, .pc (whV (jJ 12, 4, 0)))] rfl ?_);refine a8 (ag [(1, .pc (.pa (aC (jJ 3)))), (2, .pc (fH (zC, 21)))] rfl ?_);refine a8 (ag [(2, .bv true), (6, .all), (8, .pc (B true)), (9, .bv true), (10, .bv true), (13, .bv true), (14, .bv true), (17, .bv true), (18, .bv true), (22, .bv true), (23, .bv true), (26, .bv true)] rfl ?_);exact aI rtT
def nm6 : List Str := nmL ++ [[112]]
def mO (l : List Int) (left : Int) : List (Nat × AObj) := [(700, .var 85 [.c (.sl 1 (l.map aGr)), .c (.int .i64 left)])]
def sE (l : List Int) (k : Int) : Int × List Int := match l with
 | [] => (0, [])
 | x :: l => (jX x k, l)
structure Ok (l : List Int) : Prop where
 nums : aAj l
 fits : Fits l
theorem aD5 (l : List Int) {k : Int} (hk : 0 < k) : 0 ≤ (sE l k).1 ∧ (sE l k).1 < k := by
 cases l with
 | nil => exact ⟨Int.le_refl _, hk⟩
 | cons x l => exact dU x hk
theorem pY {l : List Int} (h : Ok l) (k : Int) : Ok (sE l k).2 := by
 cases l with
 | nil => exact h
 | cons x l => exact ⟨h.nums.suf ⟨[x], rfl⟩, h.fits.suf ⟨[x], rfl⟩⟩
theorem aLf (l : List Int) (left k : Int) (hk : 1 ≤ k) (h : Ok l) : aU Tryz.prog 37 [.one (.vp 700 0), I .i64 k] (mO l left) (I .i64 (sE l k).1) (mO (sE l k).2 left) := by
 obtain ⟨hl, hf⟩ := h;unfold Fits at hf;refine bT (n := 29) tok Tryz.func37 rfl rfl rfl ?_;refine a8 (ag [] rfl ?_);refine a8 (a8 (ag [] rfl ?_));cases l with
 | nil =>
  refine aA rfl (fun hb => ?_) (fun hb => by simp at hb);refine a8 (ag [] rfl ?_);exact aI rtT
 | cons x l =>
  refine aA rfl (fun hb => by simp at hb; omega) (fun hb => ?_);refine aD (a8 (aE mixed ?_));refine ak 7 [] rfl ?_;refine kc (j3 x k (hl x (by simp)) hk) ?_;refine ak 1 [] rfl ?_;refine az ?_;refine a8 (ag [] rfl ?_);refine a8 (ag [] rfl ?_);exact aI rtT
theorem j1 (l : List Int) (left k : Int) (hk : 1 ≤ k) (h : Ok l) : ∃ (i : Nat) (l' : List Int), (i : Int) < k ∧ Ok l' ∧ aU Tryz.prog 37 [.one (.vp 700 0), I .i64 k] (mO l left) (I .i64 i) (mO l' left) := by
 obtain ⟨i, hi⟩ := Int.eq_ofNat_of_zero_le (aD5 l (k := k) (by omega)).1;have h1 := (aD5 l (k := k) (by omega)).2
 have h2 := aLf l left k hk h;rw [hi] at h1 h2;exact ⟨i, _, h1, pY h k, h2⟩
def tvN : List Str := [[97], [97, 39], [98, 39], [99, 39]]
theorem aY1 : ∀ s ∈ tvN, s.length ≤ 8 := by decide
inductive GT : Nat → Ty → Prop
 | var (s : Str) (h : s ∈ tvN) : GT 1 (.mk 2 0 s [])
 | con (s : Str) (h : s.length ≤ 8) : GT 1 (.mk 3 0 s [])
 | app {m n : Nat} {a b : Ty} (ha : GT m a) (hb : GT n b) : GT (m + n + 1) (.mk 4 0 [] [a, b])
theorem GT.fn {m n : Nat} {a b : Ty} (ha : GT m a) (hb : GT n b) : GT (m + n + 3) (i7 a b) := by
 have h := GT.app (GT.app (GT.con arrow (by decide)) ha) hb;rw [show m + n + 3 = 1 + m + 1 + n + 1 by omega];exact h
theorem gH (s : Str) : aU Tryz.prog 80 [Go.AM.T s] [] (tyV (.mk 3 0 s [])) [] := by
 refine bT (n := 5) tok Tryz.func80 rfl rfl rfl ?_;refine a8 (ag [] rfl ?_);refine a8 (ag [] rfl ?_);refine aI ?_;exact ⟨.inr rfl, ⟨_, _, .cell rfl (tg rfl) rfl rfl rfl .nil, .cons (.pa (.c .refl (.c .refl (.c .refl (.c .nl .nil))))) .nil, rfl⟩, trivial, rfl⟩
def rP (x : Str × Ty) : List C := .str x.1 :: bD x.2
structure Gv where
 l : List (Str × Ty)
 vars : List Str
 deep : Int
def wO (v : Gv) : List C := [.sl 5 (v.l.map rP), .sl 1 (v.vars.map bN), .int .i64 v.deep]
def dP (v : Gv) (s : Str) (t : Ty) : Gv := ⟨v.l ++ [(s, t)], v.vars, v.deep + 1⟩
theorem wV (v : Gv) (s : Str) (t : Ty) (hl : v.l.length ≤ 1000000) (hd : 0 ≤ v.deep ∧ v.deep ≤ 1000000) : aU Tryz.prog 90 [.pa (wO v), Go.AM.T s, tyV t] [] (.pa (wO (dP v s t))) [] := by
 obtain ⟨f, n, x, a⟩ := t;obtain ⟨L, vs, d⟩ := v;dsimp only at hl hd;refine bT (n := 24) tok Tryz.func90 rfl rfl rfl ?_;refine a8 (ag [] rfl ?_);refine a8 (ag [] rfl ?_);refine a8 (ag [(3, .all)] rfl ?_);refine a8 (ag [] rfl ?_);refine a8 (ag [] rfl ?_);refine a8 (ag [] rfl ?_);refine AWp.sub (Sub.freeze (id := 11) rfl) ?_
 rw [show wO (dP ⟨L, vs, d⟩ s (.mk f n x a)) = [.sl 5 (L.map rP ++ [rP (s, .mk f n x a)]), .sl 1 (vs.map bN), .int .i64 (d + 1)] by
  unfold wO dP
  rw [map_append]; rfl]
 exact aI (rtC trw)
theorem fY (a b : Core) : aU Tryz.prog 91 [.pa (aC a), .pa (aC b)] [] (.pa (aC (.mk 4 0 [] zTy [a, b] [] []))) [] := by
 obtain ⟨f, n, s, ⟨tf, tn, ts, ta⟩, ks, bs, al⟩ := a;obtain ⟨f', n', s', ⟨tf', tn', ts', ta'⟩, ks', bs', al'⟩ := b;refine bT (n := 9) tok Tryz.func91 rfl rfl rfl ?_;refine a8 (ag [] rfl ?_);refine a8 (ag [] rfl ?_);refine AWp.sub (Sub.freeze (id := 7) rfl) ?_;exact aI (rtC trw)
def gU (s : Str) (l : List Ty) : Core := l.foldl (fun c t => .mk 6 0 [] t [c] [] []) (.mk 2 0 s zTy [] [] [])
theorem o5 (s : Str) (l : List Ty) (hl : l.length ≤ 1000000) : aU Tryz.prog 95 [Go.AM.T s, .one (.c (.sl 4 (l.map bD)))] [] (.pa (aC (gU s l))) [] := by
 refine bT (n := 23) tok Tryz.func95 rfl rfl rfl ?_;refine a8 (ag [] rfl ?_);refine a8 (ag [] rfl ?_);refine a8 (a8 (ag [] rfl ?_));have hkl : (l.map bD).length = l.length := length_map _;refine AWp.sub (vp 4 (aC aT3)) ?_;refine AWp.sub (vp 5 (aC (gU s []))) ?_;refine aB (aL (fun i : Nat => mk [(0, Go.AM.T s), (1, .one (.c (.sl 4 (l.map bD)))), (4, .one (.vp 4 0)), (5, .one (.vp 5 0)), (6, I .i64 i)] [(4, .var 37 (bB aT3)), (5, .var 37 (bB (gU s (l.take i))))]) (fun i => i ≤ l.length) (fun i => l.length - i) 0 (zero_le _) sl ?_);intro i hi;refine a8 (a8 (ag [] rfl ?_));refine aA rfl (fun hb => ?_) (fun hb => ?_)
 ·have hlt := ltD hb hkl;obtain ⟨t, ht⟩ := aK hlt;have ht' := bQ bD ht;refine aD ?_;obtain ⟨tf, tn, ts, ta⟩ := t;refine a8 (aB (ag [(2, .row i (bD (.mk tf tn ts ta)))] rfl ?_));have hst : gU s (l.take (i + 1)) = .mk 6 0 [] (.mk tf tn ts ta) [gU s (l.take i)] [] [] := by
   unfold gU;rw [take_add_one, ht, foldl_append]; rfl
  generalize gU s (l.take i) = g at hst ⊢;obtain ⟨gf, gn, gs, ⟨gtf, gtn, gts, gta⟩, gk, gb, ga⟩ := g;refine AWp.sub (Sub.freeze (id := 20) rfl) ?_;refine AWp.sub (vp 5 (aC (.mk 6 0 [] (.mk tf tn ts ta) [.mk gf gn gs (.mk gtf gtn gts gta) gk gb ga] [] []))) ?_;refine ag [] rfl ?_;refine ⟨i + 1, hlt, by dsimp only; omega, ?_⟩;dsimp only;rw [hst];exact sl
 ·have hge := geD hb hkl hi;subst hge;rw [take_length];refine aM ?_;refine a8 (ag [] rfl ?_);exact aI (rtC trw)
theorem sR {f n : Int} {s : Str} {a : List Ty} (hf : ¬ f = 4) : aU Tryz.prog 94 [tyV (.mk f n s a)] [] (.tup [tyV (.mk f n s a), .one (.hs 510 0 0 0)]) [(510, .arr 33 4 [] 2)] := by
 refine bT (n := 26) tok Tryz.func94 rfl rfl rfl ?_;refine a8 (ag [] rfl ?_);refine a8 (a8 (ag [] rfl ?_));refine aA rfl (fun _ => ?_) (fun hb => by simp [Ty.form, hf] at hb);refine a8 (ag [] rfl ?_);refine AWp.sub (Sub.own (t := 3) (id := 510) 33 4 rfl rfl) (AWp.sub (Sub.freeze (id := 510) rfl) ?_);refine aI ?_;exact ⟨.inr rfl, ⟨_, _, .cell rfl (tg rfl) rfl rfl rfl (.tmp rfl .nil), .cons .refl (.cons .refl .nil), rfl⟩, ⟨⟨_, rfl, .arr⟩, trivial⟩, rfl⟩
def GTs : Nat → List Ty → Prop
 | _, [] => True
 | n, x :: l => ∃ k m, GT k x ∧ GTs m l ∧ k + m + 1 ≤ n
theorem GTs.snoc {k : Nat} {b : Ty} (hb : GT k b) : ∀ {l : List Ty} {n : Nat}, GTs n l → GTs (n + k + 1) (l ++ [b])
 | [], n, _ => ⟨k, 0, hb, trivial, by omega⟩
 | x :: l, n, h => by
  obtain ⟨j, m, h1, h2, h3⟩ := h;exact ⟨j, m + k + 1, h1, GTs.snoc hb h2, by omega⟩
theorem aKv {n : Nat} {t : Ty} (h : GT n t) (hn : n ≤ 100000) : ∃ (hd : Ty) (l : List Ty), GTs (n - 1) l ∧ l.length ≤ n ∧
  aU Tryz.prog 94 [tyV t] [] (.tup [tyV hd, .one (.hs 510 0 l.length l.length)]) [(510, .arr 33 4 (l.map bD) 2)] := by
 induction h with
 | var s hs => exact ⟨.mk 2 0 s [], [], trivial, by simp, sR (by decide)⟩
 | con s hs => exact ⟨.mk 3 0 s [], [], trivial, by simp, sR (by decide)⟩
 | @app m n a b ha hb iha ihb =>
  obtain ⟨hd, l, h1, h2, h3⟩ := iha (by omega);have hll : l.length ≤ 100000 := by omega
  have hm1 : 1 ≤ m := by cases ha <;> omega
  refine ⟨hd, l ++ [b], ?_, by rw [length_append]; simp; omega, ?_⟩
  ·have := GTs.snoc hb h1;rw [show m - 1 + n + 1 = m + n + 1 - 1 by omega] at this;exact this
  ·obtain ⟨hdf, hdn, hds, hda⟩ := hd;obtain ⟨af, an, sa, aa⟩ := a;obtain ⟨bf, bn, sb, ba⟩ := b;refine bT (n := 26) tok Tryz.func94 rfl rfl rfl ?_;refine a8 (ag [] rfl ?_);refine a8 (a8 (ag [] rfl ?_));refine aA rfl (fun hb => by simp [Ty.form] at hb) (fun _ => ?_);refine aD (a8 (aE mixed ?_));refine ak 4 [(2, .row 0 (bD (.mk af an sa aa)))] rfl ?_;refine kc h3 ?_;refine ak 6 [] rfl ?_;refine az ?_;refine a8 (ag [(4, .row 1 (bD (.mk bf bn sb ba)))] rfl ?_);refine AWp.sub (Sub.freeze (id := 510) rfl) ?_;refine aI ?_;exact ⟨.inr rfl, ⟨_, _, .cell rfl (tg rfl) rfl rfl rfl (.tmp rfl .nil), .cons .refl (.cons .refl .nil), by rw [length_map, length_append]; rfl⟩, ⟨⟨_, rfl, by rw [map_append]; exact .arr⟩, trivial⟩, rfl⟩
theorem uC {n : Nat} {t : Ty} (h : GT n t) : (∃ (m1 m2 : Nat) (a b : Ty), GT m1 a ∧ GT m2 b ∧ n = m1 + m2 + 3 ∧ t = i7 a b ∧ aU Tryz.prog 96 [tyV t] [] (B true) []) ∨ aU Tryz.prog 96 [tyV t] [] (B false) [] := by
 cases h with
 | var s hs =>
  refine .inr ?_;refine bT (n := 28) tok Tryz.func96 rfl rfl rfl ?_;refine a8 (ag [] rfl ?_);refine a8 (a8 (ag [] rfl ?_));refine aA rfl (fun _ => ?_) (fun hb => by simp [Ty.form] at hb);refine a8 (ag [] rfl ?_);exact aI rtT
 | con s hs =>
  refine .inr ?_;refine bT (n := 28) tok Tryz.func96 rfl rfl rfl ?_;refine a8 (ag [] rfl ?_);refine a8 (a8 (ag [] rfl ?_));refine aA rfl (fun _ => ?_) (fun hb => by simp [Ty.form] at hb);refine a8 (ag [] rfl ?_);exact aI rtT
 | @app m k a b ha hb =>
  cases ha with
  | var s hs =>
   refine .inr ?_;refine bT (n := 28) tok Tryz.func96 rfl rfl rfl ?_;refine a8 (ag [] rfl ?_);refine a8 (a8 (ag [] rfl ?_));refine aA rfl (fun hb => by simp [Ty.form] at hb) (fun _ => ?_);refine aD (a8 (a8 (ag [(2, .row 0 (bD (.mk 2 0 s [])))] rfl ?_)));refine aA rfl (fun _ => ?_) (fun hb => by simp [Ty.form] at hb);refine a8 (ag [] rfl ?_);exact aI rtT
  | con s hs =>
   refine .inr ?_;refine bT (n := 28) tok Tryz.func96 rfl rfl rfl ?_;refine a8 (ag [] rfl ?_);refine a8 (a8 (ag [] rfl ?_));refine aA rfl (fun hb => by simp [Ty.form] at hb) (fun _ => ?_);refine aD (a8 (a8 (ag [(2, .row 0 (bD (.mk 3 0 s [])))] rfl ?_)));refine aA rfl (fun _ => ?_) (fun hb => by simp [Ty.form] at hb);refine a8 (ag [] rfl ?_);exact aI rtT
  | @app m' k' f a' hf ha' =>
   have run : ∀ r : Bool, (bif decide (f.form = 3) then decide (f.name = arrow) else false) = r → aU Tryz.prog 96 [tyV (.mk 4 0 [] [.mk 4 0 [] [f, a'], b])] [] (B r) [] := by
    intro r hr;obtain ⟨ff, fn, fs, fa⟩ := f;refine bT (n := 28) tok Tryz.func96 rfl rfl rfl ?_;refine a8 (ag [] rfl ?_);refine a8 (a8 (ag [] rfl ?_));refine aA rfl (fun hb => by simp [Ty.form] at hb) (fun _ => ?_);refine aD (a8 (a8 (ag [(2, .row 0 (bD (.mk 4 0 [] [.mk ff fn fs fa, a'])))] rfl ?_)));refine aA rfl (fun hb => by simp [Ty.form] at hb) (fun _ => ?_);refine aD (a8 (ag [(2, .row 0 (bD (.mk 4 0 [] [.mk ff fn fs fa, a']))), (5, .row 0 (bD (.mk ff fn fs fa)))] rfl ?_));refine a8 (agF 4 [] rfl rfl rfl ?_);subst hr;exact aI rtT
   cases hf with
   | var s hs => exact .inr (run false rfl)
   | con s hs =>
    by_cases h1 : s = arrow
    ·subst h1;exact .inl ⟨_, _, a', b, ha', hb, by omega, rfl, run true rfl⟩
    ·exact .inr (run false (by simp [Ty.form, Ty.name, h1]))
   | app h1 h2 => exact .inr (run false rfl)
theorem uB {n : Nat} {t : Ty} (h : GT n t) (hn : n ≤ 100000) : ∃ s : Str, s.length ≤ 16 * n ∧ aU Tryz.prog 115 [tyV t, .one (.c .nl)] [] (Go.AM.T s) [] := by
 have hM : 1000000000 ≤ maxLen := by decide
 induction h with
 | var s hs =>
  have hs := aY1 s hs;refine ⟨39 :: s, by rw [length_cons]; omega, ?_⟩;refine bT (n := 91) tok Tryz.func115 rfl rfl rfl ?_;refine a8 (ag [] rfl ?_);refine a8 (a8 (ag [] rfl ?_));refine aB (a8 (ag [] rfl ?_));refine aA rfl (fun hb => by simp [Ty.form] at hb) (fun _ => ?_);refine a8 (ag [] rfl ?_);refine aA rfl (fun _ => ?_) (fun hb => by simp [Ty.form] at hb);refine a8 (a8 (ag [] rfl ?_));refine aB (aL (fun _ : Unit => mk [(1, .one (.c .nl)), (2, .one (.vp 2 0)), (5, I .i64 (-1))] [(2, .var 33 ((bD (.mk 2 0 s [])).map R.c))]) (fun _ => True) (fun _ => 0) () trivial sl ?_);intro _ _;refine a8 (a8 (ag [] rfl ?_));refine aA rfl (fun hb => by simp at hb) (fun _ => ?_);refine aM ?_;refine a8 (ag [] rfl ?_ (hc := by repeat (first | exact trivial | refine ⟨by first | rfl | omega | (simp; omega) | (unfold Ty.name; simp; omega) | (simp; done), ?_⟩)));exact aI rtT
 | con s hs =>
  refine ⟨s, by omega, ?_⟩;refine bT (n := 91) tok Tryz.func115 rfl rfl rfl ?_;refine a8 (ag [] rfl ?_);refine a8 (a8 (ag [] rfl ?_));refine aB (a8 (ag [] rfl ?_));refine aA rfl (fun hb => by simp [Ty.form] at hb) (fun _ => ?_);refine a8 (ag [] rfl ?_);refine aA rfl (fun hb => by simp [Ty.form] at hb) (fun _ => ?_);refine a8 (ag [] rfl ?_);refine aA rfl (fun _ => ?_) (fun hb => by simp [Ty.form] at hb);refine a8 (ag [] rfl ?_);exact aI rtT
 | @app m k a b ha hb iha ihb =>
  obtain ⟨s1, h1, c1⟩ := iha (by omega);obtain ⟨s2, h2, c2⟩ := ihb (by omega);refine ⟨[40] ++ s1 ++ [32] ++ s2 ++ [41], by simp; omega, ?_⟩;obtain ⟨af, an, sa, aa⟩ := a;obtain ⟨bf, bn, sb, ba⟩ := b;refine bT (n := 91) tok Tryz.func115 rfl rfl rfl ?_;refine a8 (ag [] rfl ?_);refine a8 (a8 (ag [] rfl ?_));refine aB (a8 (ag [] rfl ?_));refine aA rfl (fun hb => by simp [Ty.form] at hb) (fun _ => ?_);refine a8 (ag [] rfl ?_);refine aA rfl (fun hb => by simp [Ty.form] at hb) (fun _ => ?_);refine a8 (ag [] rfl ?_);refine aA rfl (fun hb => by simp [Ty.form] at hb) (fun _ => ?_);refine a8 (ag [] rfl ?_);refine aA rfl (fun hb => by simp [Ty.form] at hb) (fun _ => ?_);refine aD ?_;refine a8 (a8 (agF 4 [] rfl rfl rfl ?_));refine aA rfl (fun hb => by simp [Ty.form, gG, eS] at hb) (fun _ => ?_);refine aD ?_;refine a8 (aE mixed ?_);refine ak 5 [(2, .row 0 (bD (.mk af an sa aa)))] rfl ?_;refine kc c1 ?_;refine ak 7 [(10, .row 1 (bD (.mk bf bn sb ba)))] rfl ?_ (hc := by repeat (first | exact trivial | refine ⟨by first | rfl | omega | (simp; omega) | (unfold Ty.name; simp; omega) | (simp; done), ?_⟩));refine kc c2 ?_;refine ak 3 [] rfl ?_ (hc := by repeat (first | exact trivial | refine ⟨by first | rfl | omega | (simp; omega) | (unfold Ty.name; simp; omega) | (simp; done), ?_⟩));refine az ?_;exact aI rtT
theorem aWe {n m : Nat} {a b : Ty} (ha : GT n a) (hb : GT m b) (hn : n ≤ 100000) (hm : m ≤ 100000) : ∃ r : Bool, aU Tryz.prog 157 [tyV a, tyV b] [] (B r) [] := by
 obtain ⟨s1, h1, c1⟩ := uB ha hn;obtain ⟨s2, h2, c2⟩ := uB hb hm;refine ⟨decide (s1 = s2), ?_⟩;obtain ⟨af, an, sa, aa⟩ := a;obtain ⟨bf, bn, sb, ba⟩ := b;refine bT (n := 10) tok Tryz.func157 rfl rfl rfl ?_;refine a8 (ag [] rfl ?_);refine a8 (aE mixed ?_);refine ak 1 [] rfl ?_;refine kc c1 ?_;refine ak 1 [] rfl ?_;refine kc c2 ?_;refine ak 2 [] rfl ?_;refine az ?_;exact aI rtT
theorem aSp (L : List (Str × Ty)) (i : Nat) (hi : i < L.length) (hl : L.length ≤ 1000000) : ∃ r : Bool, aU Tryz.prog 158 [.one (.c (.sl 5 (L.map rP))), I .i64 i] [] (B r) [] := by
 obtain ⟨x, hx⟩ := aK hi;have hx' := bQ rP hx;have hkl : (L.map rP).length = L.length := length_map _;refine ⟨@decide (∀ (j : Nat) (y : Str × Ty), i < j → L[j]? = some y → ¬ y.1 = x.1) (Classical.propDecidable _), ?_⟩;generalize hr : @decide (∀ (j : Nat) (y : Str × Ty), i < j → L[j]? = some y → ¬ y.1 = x.1) (Classical.propDecidable _) = r;refine bT (n := 25) tok Tryz.func158 rfl rfl rfl ?_;refine a8 (ag [] rfl ?_);refine a8 (a8 (agN [] rfl ?_ (hc := by repeat (first | exact trivial | refine ⟨by first | rfl | omega | (simp; omega) | (unfold Ty.name; simp; omega) | (simp; done), ?_⟩))));refine aB (aL (fun k : Nat => mk [(0, .one (.c (.sl 5 (L.map rP)))), (1, I .i64 i), (4, B false), (5, I .i64 k)] []) (fun k => i < k ∧ k ≤ L.length ∧ ∀ (j : Nat) (y : Str × Ty), i < j → j < k → L[j]? = some y → ¬ y.1 = x.1) (fun k => L.length - k) (i + 1) ⟨by omega, by omega, fun j y h1 h2 => by omega⟩ sl ?_);intro k ⟨h1, h2, h3⟩;refine a8 (a8 (ag [] rfl ?_));refine aA rfl (fun hb => ?_) (fun hb => ?_)
 ·have hlt := ltD hb hkl;obtain ⟨y, hy⟩ := aK hlt;have hy' := bQ rP hy;refine aD ?_;refine a8 (aB (a8 (ag [(2, .row k (rP y)), (7, .row i (rP x))] rfl ?_)));refine aA rfl (fun hb => ?_) (fun hb => ?_)
  ·have he : y.1 = x.1 := by simpa using hb
   refine a8 (ag [] rfl ?_);have : r = false := by
    rw [← hr];simp only [decide_eq_false_iff_not];exact fun h => h k y h1 hy he
   rw [this];exact aI rtT
  ·have he : ¬ y.1 = x.1 := by simpa using hb
   refine aD (ag [] rfl ?_);refine ⟨k + 1, ⟨by omega, hlt, fun j z g1 g2 g3 => ?_⟩, by dsimp only; omega, sl⟩;by_cases hj : j = k
   ·rw [hj, hy, Option.some.injEq] at g3;rw [← g3]; exact he
   ·exact h3 j z g1 (by omega) g3
 ·have hge := geD hb hkl h2;refine aM ?_;refine a8 (ag [] rfl ?_);have : r = true := by
   rw [← hr];simp only [decide_eq_true_eq];exact fun j y g1 g2 => h3 j y g1 (by have := (List.getElem?_eq_some_iff.1 g2).1; omega) g2
  rw [this];exact aI rtT
theorem aEz (l : List Int) (left : Int) (v : Gv) (h : Ok l) : ∃ (s : Str) (l' : List Int), s ∈ nmL ∧ Ok l' ∧ aU Tryz.prog 89 [.one (.vp 700 0), .pa (wO v)] (mO l left) (Go.AM.T s) (mO l' left) := by
 obtain ⟨i, l', hi, hl', hc⟩ := j1 l left 5 (by decide) h;have hi : i < 5 := by omega
 obtain ⟨s, hs⟩ : ∃ s, ([[120], [121], [122, 64, 49], [97], [98]] : List Str)[i]? = some s := aK (by simpa using hi);have hs' := bQ bN hs;refine ⟨s, l', ?_, hl', ?_⟩
 ·have : i = 0 ∨ i = 1 ∨ i = 2 ∨ i = 3 ∨ i = 4 := by omega
  rcases this with rfl | rfl | rfl | rfl | rfl <;> (simp at hs; subst hs; decide)
 ·refine bT (n := 10) tok Tryz.func89 rfl rfl rfl ?_;refine a8 (ag [] rfl ?_);refine a8 (aE mixed ?_);refine ak 2 [] rfl ?_;refine kc hc ?_;refine ak 3 [(3, .row i []), (4, .row i (bN s))] rfl ?_;refine az ?_;exact aI rtT
def aRk : Ty := .mk 3 0 [66, 111, 111, 108] []
def aXv (l : List Str) : V := .one (.c (.sl 1 (l.map bN)))
def Sh8 (l : List Str) : Prop := ∀ s ∈ l, s ∈ tvN
def tsz : Nat → Nat
 | 0 => 1
 | f + 1 => 2 * tsz f + 3
def aTm (vars : List Str) (dp : Int) (m : Nat) : Prop := ∀ (l : List Int) (left : Int), Ok l →
  ∃ (t : Ty) (l' : List Int) (n : Nat), GT n t ∧ n ≤ m ∧ Ok l' ∧ aU Tryz.prog 36 [.one (.vp 700 0), aXv vars, I .i64 dp] (mO l left) (tyV t) (mO l' left)
theorem GT.nm {s : Str} (h : s.length ≤ 8) : GT 1 (.mk 3 0 s []) := .con s h
theorem aCq (vars : List Str) (hv : Sh8 vars) (hvl : vars.length ≤ 1000000) (dp : Int) (h0 : 0 ≤ dp) (hd3 : dp ≤ 3) (m M : Nat) (h1 : 1 ≤ M) (hM : dp ≤ 2 → 2 * m + 3 ≤ M) (ih : dp ≤ 2 → aTm vars (dp + 1) m) : aTm vars dp M := by
 intro l left h;obtain ⟨i, l1, hi, hl1, hc⟩ := j1 l left 8 (by decide) h;have hi : i < 8 := by omega
 have hvk : (vars.map bN).length = vars.length := length_map _;by_cases hA : 5 < i ∧ 0 < vars.length
 ·obtain ⟨j, l2, hj, hl2, hc2⟩ := j1 l1 left vars.length (by omega) hl1;have hj : j < vars.length := by omega
  obtain ⟨x, hx⟩ := aK hj;have hx' := bQ bN hx;refine ⟨.mk 2 0 x [], l2, 1, .var x (hv x (List.mem_of_getElem? hx)), by omega, hl2, ?_⟩;refine bT (n := 68) tok Tryz.func36 rfl rfl rfl ?_;refine a8 (ag [] rfl ?_);refine a8 (aE mixed ?_);refine ak 1 [] rfl ?_;refine kc hc ?_;refine ak 1 [] rfl ?_;refine az ?_;refine a8 (a8 (agF 3 [] rfl rfl rfl ?_));have g1 : (5 : Int) < i := by omega
  have g2 : (0 : Int) < ((vars.map bN).length : Nat) := by omega
  refine aA rfl (fun _ => ?_) (fun hb => by rw [decide_eq_true g1, decide_eq_true g2] at hb; cases hb);refine a8 (aE mixed ?_);refine ak 4 [] rfl ?_;rw [← hvk] at hc2;refine kc hc2 ?_;refine ak 4 [(5, .row j (bN x))] rfl ?_;refine az ?_;exact aI (rtC trw)
 ·by_cases hB : i < 3 ∨ 2 < dp
  ·have hrow : ∃ (k : Nat) (t : Ty), k < 2 ∧ (i : Int) % 2 = k ∧ GT 1 t ∧ [bD uZ, bD aRk][k]? = some (bD t) := by
    have : i % 2 = 0 ∨ i % 2 = 1 := by omega
    rcases this with e | e
    ·exact ⟨0, uZ, by omega, by omega, .con _ (by decide), rfl⟩
    ·exact ⟨1, aRk, by omega, by omega, .con _ (by decide), rfl⟩
   obtain ⟨k, t, hk, hik, ht, hrow⟩ := hrow;refine ⟨t, l1, 1, ht, by omega, hl1, ?_⟩;obtain ⟨tf, tn, ts, ta⟩ := t;refine bT (n := 68) tok Tryz.func36 rfl rfl rfl ?_;refine a8 (ag [] rfl ?_);refine a8 (aE mixed ?_);refine ak 1 [] rfl ?_;refine kc hc ?_;refine ak 1 [] rfl ?_;refine az ?_;refine a8 (a8 (agF 3 [] rfl rfl rfl ?_));refine aA rfl (fun hb => by simp at hb; omega) (fun _ => ?_);refine aD (a8 (a8 (agF 3 [] rfl rfl rfl ?_)));refine aA rfl (fun _ => ?_) (fun hb => by simp at hb; omega);refine a8 (aE mixed ?_);refine kc (gH [73, 110, 116]) ?_;refine kc (gH [66, 111, 111, 108]) ?_;refine ak 6 [(5, .row k []), (6, .row k (bD (.mk tf tn ts ta)))] rfl ?_;refine az ?_;exact aI (rtC trw)
  ·have hM := hM (by omega);obtain ⟨⟨af, an, sa, aa⟩, l2, na, ga, hna, hl2, ca⟩ := ih (by omega) l1 left hl1;by_cases hC : i = 3
   ·refine ⟨.mk 4 0 [] [.mk 3 0 [76] [], .mk af an sa aa], l2, 1 + na + 1, .app (.nm (by decide)) ga, by omega, hl2, ?_⟩;refine bT (n := 68) tok Tryz.func36 rfl rfl rfl ?_;refine a8 (ag [] rfl ?_);refine a8 (aE mixed ?_);refine ak 1 [] rfl ?_;refine kc hc ?_;refine ak 1 [] rfl ?_;refine az ?_;refine a8 (a8 (agF 3 [] rfl rfl rfl ?_));refine aA rfl (fun hb => by simp at hb; omega) (fun _ => ?_);refine aD (a8 (a8 (agF 3 [] rfl rfl rfl ?_)));refine aA rfl (fun hb => by simp at hb; omega) (fun _ => ?_);refine aD (a8 (aE mixed ?_));refine ak 4 [] rfl ?_ (hc := by repeat (first | exact trivial | refine ⟨by first | rfl | omega | (simp; omega) | (unfold Ty.name; simp; omega) | (simp; done), ?_⟩));refine kc ca ?_;refine ak 2 [] rfl ?_;refine az ?_;refine a8 (a8 (ag [] rfl ?_));refine aA rfl (fun _ => ?_) (fun hb => by simp at hb; omega);refine a8 (aE mixed ?_);refine kc (gH [76]) ?_;refine ak 4 [] rfl ?_;refine az ?_;refine AWp.sub (Sub.freeze (id := 49) rfl) ?_;exact aI (rtC trw)
   ·obtain ⟨⟨bf, bn, sb, ba⟩, l3, nb, gb, hnb, hl3, cb⟩ := ih (by omega) l2 left hl2;by_cases hD : i = 4
    ·refine ⟨i7 (.mk af an sa aa) (.mk bf bn sb ba), l3, na + nb + 3, ga.fn gb, by omega, hl3, ?_⟩;refine bT (n := 68) tok Tryz.func36 rfl rfl rfl ?_;refine a8 (ag [] rfl ?_);refine a8 (aE mixed ?_);refine ak 1 [] rfl ?_;refine kc hc ?_;refine ak 1 [] rfl ?_;refine az ?_;refine a8 (a8 (agF 3 [] rfl rfl rfl ?_));refine aA rfl (fun hb => by simp at hb; omega) (fun _ => ?_);refine aD (a8 (a8 (agF 3 [] rfl rfl rfl ?_)));refine aA rfl (fun hb => by simp at hb; omega) (fun _ => ?_);refine aD (a8 (aE mixed ?_));refine ak 4 [] rfl ?_ (hc := by repeat (first | exact trivial | refine ⟨by first | rfl | omega | (simp; omega) | (unfold Ty.name; simp; omega) | (simp; done), ?_⟩));refine kc ca ?_;refine ak 2 [] rfl ?_;refine az ?_;refine a8 (a8 (ag [] rfl ?_));refine aA rfl (fun hb => by simp at hb; omega) (fun _ => ?_);refine aD (a8 (aE mixed ?_));refine ak 4 [] rfl ?_ (hc := by repeat (first | exact trivial | refine ⟨by first | rfl | omega | (simp; omega) | (unfold Ty.name; simp; omega) | (simp; done), ?_⟩));refine kc cb ?_;refine ak 2 [] rfl ?_;refine az ?_;refine a8 (a8 (ag [] rfl ?_));refine aA rfl (fun _ => ?_) (fun hb => by simp at hb; omega);refine a8 (aE mixed ?_);refine ak 2 [] rfl ?_;refine kc (rU (.mk af an sa aa) (.mk bf bn sb ba)) ?_;refine ak 1 [] rfl ?_;refine az ?_;exact aI (rtC trw)
    ·refine ⟨.mk 4 0 [] [.mk 4 0 [] [.mk 3 0 [80] [], .mk af an sa aa], .mk bf bn sb ba], l3, 1 + na + 1 + nb + 1, .app (.app (.nm (by decide)) ga) gb, by omega, hl3, ?_⟩;refine bT (n := 68) tok Tryz.func36 rfl rfl rfl ?_;refine a8 (ag [] rfl ?_);refine a8 (aE mixed ?_);refine ak 1 [] rfl ?_;refine kc hc ?_;refine ak 1 [] rfl ?_;refine az ?_;refine a8 (a8 (agF 3 [] rfl rfl rfl ?_));refine aA rfl (fun hb => by simp at hb; omega) (fun _ => ?_);refine aD (a8 (a8 (agF 3 [] rfl rfl rfl ?_)));refine aA rfl (fun hb => by simp at hb; omega) (fun _ => ?_);refine aD (a8 (aE mixed ?_));refine ak 4 [] rfl ?_ (hc := by repeat (first | exact trivial | refine ⟨by first | rfl | omega | (simp; omega) | (unfold Ty.name; simp; omega) | (simp; done), ?_⟩));refine kc ca ?_;refine ak 2 [] rfl ?_;refine az ?_;refine a8 (a8 (ag [] rfl ?_));refine aA rfl (fun hb => by simp at hb; omega) (fun _ => ?_);refine aD (a8 (aE mixed ?_));refine ak 4 [] rfl ?_ (hc := by repeat (first | exact trivial | refine ⟨by first | rfl | omega | (simp; omega) | (unfold Ty.name; simp; omega) | (simp; done), ?_⟩));refine kc cb ?_;refine ak 2 [] rfl ?_;refine az ?_;refine a8 (a8 (ag [] rfl ?_));refine aA rfl (fun hb => by simp at hb; omega) (fun _ => ?_);refine aD (a8 (aE mixed ?_));refine kc (gH [80]) ?_;refine ak 7 [(2, .all), (5, .all)] rfl ?_;refine az ?_;exact aI (rtC trw)
theorem aHt : ∀ f, 1 ≤ tsz f
 | 0 => le_refl _
 | f + 1 => by rw [tsz]; omega
theorem wQ (vars : List Str) (hv : Sh8 vars) (hvl : vars.length ≤ 1000000) : ∀ (f : Nat) (dp : Int), dp + f = 3 → 0 ≤ dp → aTm vars dp (tsz f)
 | 0, dp, hd, h0 => aCq vars hv hvl dp h0 (by omega) 0 (tsz 0) (aHt 0) (fun h => by omega) (fun h => by omega)
 | f + 1, dp, hd, h0 => aCq vars hv hvl dp h0 (by omega) (tsz f) (tsz (f + 1)) (aHt _) (fun _ => le_refl _) (fun _ => wQ vars hv hvl f (dp + 1) (by omega) (by omega))
inductive GC : Nat → Core → Prop
 | var {s : Str} (h : s ∈ nm6) : GC 4 (.mk 1 0 s zTy [] [] [])
 | con {s : Str} (h : s.length ≤ 8) : GC 9 (.mk 2 0 s zTy [] [] [])
 | int {n : Int} (h : -100 ≤ n ∧ n ≤ 100) : GC 1 (.mk 3 n [] zTy [] [] [])
 | app {m n : Nat} {a b : Core} (ha : GC m a) (hb : GC n b) : GC (m + n + 1) (.mk 4 0 [] zTy [a, b] [] [])
 | lam {m k : Nat} {s : Str} {t : Ty} {a : Core} (h : s ∈ nm6) (ht : GT k t) (hk : k ≤ 100) (ha : GC m a) : GC (m + 4) (.mk 5 0 s t [a] [] [])
 | tapp {m k : Nat} {t : Ty} {a : Core} (ht : GT k t) (hk : k ≤ 100) (ha : GC m a) : GC (m + 1) (.mk 6 0 [] t [a] [] [])
 | tlam {m : Nat} {s : Str} {a : Core} (h : s ∈ tvN) (ha : GC m a) : GC (m + 20) (.mk 7 0 s zTy [a] [] [])
 | lt {m n k : Nat} {s : Str} {t : Ty} {a b : Core} (h : s ∈ nm6) (ht : GT k t) (hk : k ≤ 100) (ha : GC m a) (hb : GC n b) : GC (m + n + 5) (.mk 8 0 [] zTy [a] [.mk s t b] [])
 | case1 {m n k : Nat} {t : Ty} {a b : Core} {f i : Int} {s : Str} {vs : List Str} (ht : GT k t) (hk : k ≤ 100) (ha : GC m a) (hb : GC n b) (h1 : 1 ≤ f ∧ f ≤ 3) (h2 : -100 ≤ i ∧ i ≤ 100) (h3 : s.length ≤ 8) (h4 : ∀ x ∈ vs, x ∈ nm6) (h5 : vs.length ≤ 2) : GC (m + n + 20) (.mk 9 0 [] t [a] [] [.mk f i s vs b])
 | case2 {m n o k : Nat} {t : Ty} {a b c : Core} {f i : Int} {s : Str} {vs : List Str} {f' i' : Int} {s' : Str} {vs' : List Str} (ht : GT k t) (hk : k ≤ 100) (ha : GC m a) (hb : GC n b) (hc : GC o c) (h1 : 1 ≤ f ∧ f ≤ 3) (h2 : -100 ≤ i ∧ i ≤ 100) (h3 : s.length ≤ 8) (h4 : ∀ x ∈ vs, x ∈ nm6) (h5 : vs.length ≤ 2) (h1' : 1 ≤ f' ∧ f' ≤ 3) (h2' : -100 ≤ i' ∧ i' ≤ 100) (h3' : s'.length ≤ 8) (h4' : ∀ x ∈ vs', x ∈ nm6) (h5' : vs'.length ≤ 2) : GC (m + n + o + 40) (.mk 9 0 [] t [a] [] [.mk f i s vs b, .mk f' i' s' vs' c])
 | prim {m n : Nat} {s : Str} {a b : Core} (h : s ∈ r6) (ha : GC m a) (hb : GC n b) : GC (m + n + 5) (.mk 10 0 s zTy [a, b] [] [])
 | fail {k : Nat} {t : Ty} (ht : GT k t) (hk : k ≤ 100) : GC 1 (.mk 11 0 [] t [] [] [])
structure Gok (v : Gv) : Prop where
 all : ∀ x ∈ v.l, (x.1 = [] ∨ x.1 ∈ nm6) ∧ ∃ k, k ≤ 100 ∧ GT k x.2
 vars : Sh8 v.vars
 d0 : 0 ≤ v.deep
 len : (v.l.length : Int) ≤ v.deep
 vlen : (v.vars.length : Int) ≤ v.deep + 1
theorem Gok.more {v : Gv} (h : Gok v) {s : Str} {t : Ty} {k : Nat} (hs : s = [] ∨ s ∈ nm6) (ht : GT k t) (hk : k ≤ 100) : Gok (dP v s t) := by
 obtain ⟨h1, h2, h3, h4, h5⟩ := h;refine ⟨fun x hx => ?_, h2, by show 0 ≤ v.deep + 1; omega, ?_, by show (v.vars.length : Int) ≤ v.deep + 1 + 1; omega⟩
 ·rcases mem_append.1 hx with hx | hx
  ·exact h1 x hx
  ·rw [mem_singleton.1 hx];exact ⟨hs, k, hk, ht⟩
 ·show ((v.l ++ [(s, t)]).length : Int) ≤ v.deep + 1;rw [length_append];simp only [length_cons, length_nil];omega
def aHv (L : List (Str × Ty)) (f g : Nat → Bool) : Nat → List Int → Option Str × List Int
 | 0, l => (none, l)
 | k + 1, l => if ¬ (L[k]?.getD ([], zTy)).1 = [] ∧ f k = true ∧ g k = true then (if 0 < (sE l 3).1 then (some (L[k]?.getD ([], zTy)).1, (sE l 3).2) else aHv L f g k (sE l 3).2) else aHv L f g k l
theorem aAr (L : List (Str × Ty)) (f g : Nat → Bool) : ∀ (k : Nat) (l : List Int), k ≤ L.length → Ok l → Ok (aHv L f g k l).2 ∧ ∀ s, (aHv L f g k l).1 = some s → ¬ s = [] ∧ ∃ x ∈ L, x.1 = s
 | 0, l, _, h => ⟨h, fun s hs => by simp [aHv] at hs⟩
 | k + 1, l, hk, h => by
  rw [aHv];split
  ·rename_i hc;split
   ·refine ⟨pY h 3, fun s hs => ?_⟩;simp only [Option.some.injEq] at hs;subst hs;obtain ⟨x, hx⟩ := aK (l := L) (k := k) (by omega);rw [hx] at hc ⊢;exact ⟨hc.1, x, List.mem_of_getElem? hx, rfl⟩
   ·exact aAr L f g k _ (by omega) (pY h 3)
  ·exact aAr L f g k _ (by omega) h
def vRt (v : Gv) : List R := (wO v).map R.c
def tR (t : Ty) : List R := (bD t).map R.c
def bb (f : Int) (s a : Str) : Bool := bif decide (f = 3) then decide (s = a) else false
theorem oT {f : Int} {s a : Str} (h : bb f s a = true) : f = 3 ∧ s = a := by
 unfold bb at h;by_cases h1 : f = 3
 ·by_cases h2 : s = a
  ·exact ⟨h1, h2⟩
  ·simp [h2] at h
 ·simp [h1] at h
theorem aFe {f : Int} {s a : Str} {n k : Nat} (h : (bif decide (f = 3) then bif decide (s = a) then decide ((n : Int) = (k : Int)) else false else bif false then decide ((n : Int) = (k : Int)) else false) = true) : bb f s a = true ∧ n = k := by
 unfold bb;by_cases h1 : f = 3
 ·by_cases h2 : s = a
  ·simp [h1, h2] at h ⊢; omega
  ·simp [h2] at h
 ·simp [h1] at h
def xE (n : Nat) (t : Ty) : Prop := ∀ (v : Gv) (l : List Int) (left : Int), Gok v → v.deep + n ≤ 200 → Ok l →
 ∃ (c : Core) (l' : List Int) (m : Nat), GC m c ∧ m ≤ 20 * n ∧ Ok l' ∧ aU Tryz.prog 88 [.one (.vp 700 0), .pa (wO v), tyV t] (mO l left) (.pa (aC c)) (mO l' left)
def aY3 : Code → Code | .seq _ b => b | c => c
noncomputable def aYc : Code := aY3 (aY3 (Tryz.f88.body.getD .skip))
theorem iK (v : Gv) (t : Ty) (l : List Int) (left : Int) (f g : Nat → Bool) (out : Option Str × List Int) (hl : Ok l) (hL : v.l.length ≤ 200) (hf : ∀ k x, v.l[k]? = some x → aU Tryz.prog 157 [tyV x.2, tyV t] [] (B (f k)) [])
  (hgh : ∀ k, k < v.l.length → aU Tryz.prog 158 [.one (.c (.sl 5 (v.l.map rP))), I .i64 k] [] (B (g k)) []) (hout : aHv v.l f g v.l.length l = out) {res : V} {hout' : List (Nat × AObj)}
  (hsm : ∀ s l1, out = (some s, l1) → res = .pa (aC (.mk 1 0 s zTy [] [] [])) ∧ hout' = mO l1 left)
  (hnn : ∀ l1, out = (none, l1) → AWp none Tryz.prog 166 (keys (mO l left)) aYc (mk [(0, .one (.vp 700 0)), (4, .one (.vp 4 0)), (5, .one (.vp 5 0)), (6, .one (.vp 6 0))] ([(4, .var 92 (vRt v)), (5, .var 33 (tR t)), (6, .var 37 bS)] ++ mO l1 left)) (fun ex st => (ex = .normal ∨ ex = .ret) ∧ Fin tr.flat Tryz.f88 st (mO l left) res hout')) :
  aU Tryz.prog 88 [.one (.vp 700 0), .pa (wO v), tyV t] (mO l left) res hout' := by
 have hkl : (v.l.map rP).length = v.l.length := length_map _;refine bT (n := 166) tok Tryz.func88 rfl rfl rfl ?_;refine a8 (ag [] rfl ?_);refine a8 (a8 (ag [] rfl ?_));refine aB (aL (fun x : Nat × List Int => mk [(0, .one (.vp 700 0)), (4, .one (.vp 4 0)), (5, .one (.vp 5 0)), (6, .one (.vp 6 0)), (7, I .i64 ((x.1 : Int) - 1))] ([(4, .var 92 (vRt v)), (5, .var 33 (tR t)), (6, .var 37 [.c (.int .i64 0), .c (.int .i64 0), .c (.str []), .c (.int .i64 0), .c (.int .i64 0), .c (.str []), .c .nl, .c .nl, .c .nl, .c .nl])] ++ mO x.2 left)) (fun x => x.1 ≤ v.l.length ∧ Ok x.2 ∧ aHv v.l f g x.1 x.2 = out) (fun x => x.1) (v.l.length, l) ⟨le_refl _, hl, hout⟩ (sl (he := ⟨rfl, rfl, rfl, rfl, by rw [← hkl]; rfl, trivial⟩)) ?_);rintro ⟨k, lk⟩ ⟨hk, hlk, hr⟩;dsimp only at hk hlk hr ⊢;refine a8 (a8 (ag [] rfl ?_));refine aA rfl (fun hb => ?_) (fun hb => ?_)
 ·have hk0 : 0 < k := by have := of_decide_eq_true hb; omega
  obtain ⟨k, rfl⟩ : ∃ j, k = j + 1 := ⟨k - 1, by omega⟩
  obtain ⟨⟨xs, xt⟩, hx⟩ := aK (l := v.l) (k := k) (by omega);have hx' := bQ rP hx;have hki : ((k + 1 : Nat) : Int) - 1 = (k : Int) := by omega
  rw [hki];rw [aHv, hx] at hr;dsimp only [Option.getD] at hr;have hc1 := hf k _ hx;have hc2 := hgh k (by omega);have hc3 := aLf lk left 3 (by decide) hlk;dsimp only at hc1;refine aD ?_;refine a8 (aB (a8 ?_));by_cases h1 : xs = []
  ·rw [if_neg (fun h => h.1 h1)] at hr;have h1' : (!decide (xs = [])) = false := by rw [decide_eq_true h1]; rfl
   refine ag [(3, .row k (rP (xs, xt))), (7, .bv false), (16, .bv false)] rfl ?_;refine aA rfl (fun hb => by cases hb) (fun _ => ?_);refine aD (ag [] rfl ?_);exact ⟨(k, lk), ⟨by dsimp only; omega, hlk, hr⟩, by dsimp only; omega, sl⟩
  have h1' : (!decide (xs = [])) = true := by rw [decide_eq_false h1]; rfl
  cases h2 : f k with
  | false =>
   rw [if_neg (fun h => by rw [h2] at h; cases h.2.1)] at hr;rw [h2] at hc1;refine aE mixed ?_;refine ak 15 [(3, .row k (rP (xs, xt))), (7, .bv true), (11, .row k (rP (xs, xt)))] rfl ?_;refine kcG hc1 ?_ (hw := h1');refine ak 12 [(16, .bv true)] rfl ?_;refine az ?_;refine aA rfl (fun hb => by cases hb) (fun _ => ?_);refine aD (ag [] rfl ?_);exact ⟨(k, lk), ⟨by dsimp only; omega, hlk, hr⟩, by dsimp only; omega, sl⟩
  | true =>
  rw [h2] at hc1;cases h3 : g k with
  | false =>
   rw [if_neg (fun h => by rw [h3] at h; cases h.2.2)] at hr;rw [h3] at hc2;refine aE mixed ?_;refine ak 15 [(3, .row k (rP (xs, xt))), (7, .bv true), (11, .row k (rP (xs, xt)))] rfl ?_;refine kcG hc1 ?_ (hw := h1');refine ak 5 [(16, .bv true)] rfl ?_;refine kcG hc2 ?_;refine ak 6 [] rfl ?_;refine az ?_;refine aA rfl (fun hb => by cases hb) (fun _ => ?_);refine aD (ag [] rfl ?_);exact ⟨(k, lk), ⟨by dsimp only; omega, hlk, hr⟩, by dsimp only; omega, sl⟩
  | true =>
  rw [if_pos ⟨h1, h2, h3⟩] at hr;rw [h3] at hc2;refine aE mixed ?_;refine ak 15 [(3, .row k (rP (xs, xt))), (7, .bv true), (11, .row k (rP (xs, xt)))] rfl ?_;refine kcG hc1 ?_ (hw := h1');refine ak 5 [(16, .bv true)] rfl ?_;refine kcG hc2 ?_;refine ak 3 [] rfl ?_;refine kcG hc3 ?_;refine ak 2 [] rfl ?_;refine az ?_;refine aA rfl (fun hb => ?_) (fun hb => ?_)
  ·have hb' : 0 < (sE lk 3).1 := of_decide_eq_true hb;rw [if_pos hb'] at hr;obtain ⟨s1, l1⟩ := out;simp only [Prod.mk.injEq] at hr;obtain ⟨rfl, rfl⟩ := hr;obtain ⟨rfl, rfl⟩ := hsm _ _ rfl;refine a8 (ag [(3, .row k (rP (xs, xt)))] rfl ?_);exact aI (rtC trw)
  ·have hb' : ¬ 0 < (sE lk 3).1 := of_decide_eq_false hb;rw [if_neg hb'] at hr;refine aD (ag [] rfl ?_);exact ⟨(k, _), ⟨by dsimp only; omega, pY hlk 3, hr⟩, by dsimp only; omega, sl⟩
 have hk0 : k = 0 := by have := of_decide_eq_false hb; omega
 subst hk0;rw [aHv] at hr;refine aM ?_;exact AWp.sub sl (hnn lk hr.symm)
theorem aJ5 (n : Nat) (t : Ty) (hg : GT n t) (hn : n ≤ 100) (ih : ∀ (k : Nat) (u : Ty), k < n → GT k u → xE k u) : xE n t := by
 intro v l left hv hd hl;have hL : v.l.length ≤ 200 := by have := hv.len; omega
 have hS : ∀ k : Nat, ∃ b : Bool, ∀ x, v.l[k]? = some x → aU Tryz.prog 157 [tyV x.2, tyV t] [] (B b) [] := fun k => by
  cases hx : v.l[k]? with
  | none => exact ⟨false, fun x h => by cases h⟩
  | some x =>
   obtain ⟨_, k', hk', hx'⟩ := hv.all x (List.mem_of_getElem? hx);obtain ⟨r, hr⟩ := aWe hx' hg (by omega) (by omega);exact ⟨r, fun y hy => by cases hy; exact hr⟩
 have hH : ∀ k : Nat, ∃ b : Bool, k < v.l.length → aU Tryz.prog 158 [.one (.c (.sl 5 (v.l.map rP))), I .i64 k] [] (B b) [] := fun k => by
  by_cases hk : k < v.l.length
  ·obtain ⟨r, hr⟩ := aSp v.l k hk (by omega);exact ⟨r, fun _ => hr⟩
  ·exact ⟨false, fun h => absurd h hk⟩
 obtain ⟨f, hf⟩ := Classical.axiomOfChoice hS;obtain ⟨g, hgh⟩ := Classical.axiomOfChoice hH;obtain ⟨hok, hsome⟩ := aAr v.l f g v.l.length l (le_refl _) hl;have hkl : (v.l.map rP).length = v.l.length := length_map _;generalize hout : aHv v.l f g v.l.length l = out at hok hsome;obtain ⟨so, l1⟩ := out;cases so with
 | some s =>
  obtain ⟨hs0, x, hx, hxs⟩ := hsome s rfl;have hs6 : s ∈ nm6 := by
   rcases (hv.all x hx).1 with h | h
   ·rw [hxs] at h; exact absurd h hs0
   ·rw [hxs] at h; exact h
  refine ⟨.mk 1 0 s zTy [] [] [], l1, 4, .var hs6, by cases hg <;> omega, hok, ?_⟩;exact iK v t l left f g _ hl hL hf hgh hout (fun s' l' e => by cases e; exact ⟨rfl, rfl⟩) (fun l' e => by cases e)
 | none =>
  clear hsome hS hH;have hok : Ok l1 := hok;rcases uC hg with ⟨m1, m2, a, b, ga, gb, hnm, rfl, cF⟩ | cF
  ·obtain ⟨s, l2, hs, hl2, cN⟩ := aEz l1 left v hok;have hs6 : s ∈ nm6 := mem_append.2 (.inl hs);obtain ⟨c, l3, m, gc, hm, hl3, cL⟩ := ih m2 b (by omega) gb (dP v s a) l2 left (hv.more (.inr hs6) ga (by omega)) (by show v.deep + 1 + (m2 : Int) ≤ 200; omega) hl2;have cM := wV v s a (by omega) ⟨hv.d0, by omega⟩;refine ⟨.mk 5 0 s a [c] [] [], l3, m + 4, .lam hs6 ga (by omega) gc, by omega, hl3, ?_⟩;refine iK v (i7 a b) l left f g _ hl hL hf hgh hout (fun s' l' e => by cases e) (fun l' e => ?_);cases e;refine a8 (a8 (aE mixed ?_));refine ak 1 [] rfl ?_;refine kc cF ?_;refine az ?_;refine aA rfl (fun _ => ?_) (fun hb => by cases hb);refine a8 (aE mixed ?_);refine ak 2 [] rfl ?_;refine kc cN ?_;refine ak 1 [] rfl ?_;refine az ?_;refine a8 (aE mixed ?_);refine ak 18 [(3, .row 0 (bD (tapp (.mk 3 0 arrow []) a))), (6, .row 1 (bD a)), (13, .row 0 (bD (tapp (.mk 3 0 arrow []) a))), (16, .row 1 (bD a))] rfl ?_;refine kc cM ?_;refine ak 4 [(21, .row 1 (bD b))] rfl ?_;refine kc cL ?_;refine ak 3 [(24, .all)] rfl ?_;refine az ?_;exact aI (rtC trw)
  obtain ⟨hd', L, hLg, hLn, cS⟩ := aKv hg (by omega);by_cases hI : bb hd'.form hd'.name [73, 110, 116] = true
  ·obtain ⟨i, l2, hi, hl2, cN⟩ := j1 l1 left 7 (by decide) hok;refine ⟨.mk 3 ((i : Int) - 2) [] zTy [] [] [], l2, 1, .int (by omega), by cases hg <;> omega, hl2, ?_⟩;refine iK v t l left f g _ hl hL hf hgh hout (fun s' l' e => by cases e) (fun l' e => ?_);cases e;refine a8 (a8 (aE mixed ?_));refine ak 1 [] rfl ?_;refine kc cF ?_;refine az ?_;refine aA rfl (fun hb => by cases hb) (fun _ => ?_);refine aD ?_;refine a8 (aE mixed ?_);refine ak 1 [] rfl ?_;refine kc cS ?_;refine ak 6 [] rfl ?_;refine az ?_;refine a8 (aB (a8 (agF 4 [] rfl rfl rfl ?_)));refine aA rfl (fun _ => ?_) (fun hb => by have := hI.symm.trans hb; cases this);refine a8 (aE mixed ?_);refine ak 1 [] rfl ?_;refine kc cN ?_;refine ak 3 [] rfl ?_ (hc := by repeat (first | exact trivial | refine ⟨by first | rfl | omega | (simp; omega) | (unfold Ty.name; simp; omega) | (simp; done), ?_⟩));refine az ?_;exact aI (rtC trw)
  by_cases hB : bb hd'.form hd'.name [66, 111, 111, 108] = true
  ·obtain ⟨i, l2, hi, hl2, cN⟩ := j1 l1 left 2 (by decide) hok;have hi : i < 2 := by omega
   obtain ⟨s, hs⟩ : ∃ s, ([[70, 97, 108, 115, 101], [84, 114, 117, 101]] : List Str)[i]? = some s := aK (by simpa using hi);have hs' := bQ bN hs;have hs8 : s.length ≤ 8 := by
    have : i = 0 ∨ i = 1 := by omega
    rcases this with rfl | rfl <;> (simp at hs; subst hs; decide)
   refine ⟨.mk 2 0 s zTy [] [] [], l2, 9, .con hs8, by cases hg <;> omega, hl2, ?_⟩;refine iK v t l left f g _ hl hL hf hgh hout (fun s' l' e => by cases e) (fun l' e => ?_);cases e;refine a8 (a8 (aE mixed ?_));refine ak 1 [] rfl ?_;refine kc cF ?_;refine az ?_;refine aA rfl (fun hb => by cases hb) (fun _ => ?_);refine aD ?_;refine a8 (aE mixed ?_);refine ak 1 [] rfl ?_;refine kc cS ?_;refine ak 6 [] rfl ?_;refine az ?_;refine a8 (aB (a8 (agF 4 [] rfl rfl rfl ?_)));refine aA rfl (fun hb => absurd hb hI) (fun _ => ?_);refine a8 (agF 4 [] rfl rfl rfl ?_);refine aA rfl (fun _ => ?_) (fun hb => by have := hB.symm.trans hb; cases this);refine a8 (aE mixed ?_);refine ak 2 [] rfl ?_;refine kc cN ?_;refine ak 4 [(3, .row i []), (4, .row i (bN s))] rfl ?_;refine az ?_;exact aI (rtC trw)
  by_cases hX : bb hd'.form hd'.name [76] = true ∧ L.length = 1
  ·obtain ⟨x, rfl⟩ : ∃ x, L = [x] := length_eq_one_iff.1 hX.2;obtain ⟨k, _, gx, _, hk⟩ := hLg;have cG := o5 [78] [x] (by simp);refine ⟨.mk 6 0 [] x [.mk 2 0 [78] zTy [] [] []] [] [], l1, 9 + 1, .tapp gx (by omega) (.con (by decide)), by cases hg <;> omega, hok, ?_⟩;refine iK v t l left f g _ hl hL hf hgh hout (fun s' l' e => by cases e) (fun l' e => ?_);cases e;refine a8 (a8 (aE mixed ?_));refine ak 1 [] rfl ?_;refine kc cF ?_;refine az ?_;refine aA rfl (fun hb => by cases hb) (fun _ => ?_);refine aD ?_;refine a8 (aE mixed ?_);refine ak 1 [] rfl ?_;refine kc cS ?_;refine ak 6 [] rfl ?_;refine az ?_;refine a8 (aB (a8 (agF 4 [] rfl rfl rfl ?_)));refine aA rfl (fun hb => absurd hb hI) (fun _ => ?_);refine a8 (agF 4 [] rfl rfl rfl ?_);refine aA rfl (fun hb => absurd hb hB) (fun _ => ?_);refine a8 (agF 4 [] rfl rfl rfl ?_);refine aA rfl (fun _ => ?_) (fun hb => ?_)
   ·refine a8 (aE mixed ?_);refine ak 1 [] rfl ?_;refine kc cG ?_;refine ak 1 [] rfl ?_;refine az ?_;exact aI (rtC trw)
   ·exfalso;obtain ⟨h3, h4⟩ := oT hX.1;simp [h3, h4] at hb
  by_cases hP : bb hd'.form hd'.name [80] = true ∧ L.length = 2
  ·obtain ⟨x, y, rfl⟩ : ∃ x y, L = [x, y] := by
    match L, hP.2 with
    | [x, y], _ => exact ⟨x, y, rfl⟩
   obtain ⟨k1, m1, gx, ⟨k2, m2, gy, _, hk2⟩, hk1⟩ := hLg;have cG := o5 [80] [x, y] (by simp);obtain ⟨c1, l2, w1, gc1, hw1, hl2, cL1⟩ := ih k1 x (by omega) gx v l1 left hv (by omega) hok;obtain ⟨c2, l3, w2, gc2, hw2, hl3, cL2⟩ := ih k2 y (by omega) gy v l2 left hv (by omega) hl2;have cA1 := fY (gU [80] [x, y]) c1;have cA2 := fY (.mk 4 0 [] zTy [gU [80] [x, y], c1] [] []) c2;refine ⟨.mk 4 0 [] zTy [.mk 4 0 [] zTy [gU [80] [x, y], c1] [] [], c2] [] [], l3, (9 + 1 + 1) + w1 + 1 + w2 + 1, .app (.app (.tapp gy (by omega) (.tapp gx (by omega) (.con (by decide)))) gc1) gc2, by omega, hl3, ?_⟩;refine iK v t l left f g _ hl hL hf hgh hout (fun s' l' e => by cases e) (fun l' e => ?_);cases e;refine a8 (a8 (aE mixed ?_));refine ak 1 [] rfl ?_;refine kc cF ?_;refine az ?_;refine aA rfl (fun hb => by cases hb) (fun _ => ?_);refine aD ?_;refine a8 (aE mixed ?_);refine ak 1 [] rfl ?_;refine kc cS ?_;refine ak 6 [] rfl ?_;refine az ?_;refine a8 (aB (a8 (agF 4 [] rfl rfl rfl ?_)));refine aA rfl (fun hb => absurd hb hI) (fun _ => ?_);refine a8 (agF 4 [] rfl rfl rfl ?_);refine aA rfl (fun hb => absurd hb hB) (fun _ => ?_);refine a8 (agF 4 [] rfl rfl rfl ?_);refine aA rfl (fun hb => ?_) (fun _ => ?_)
   ·exfalso;simp at hb
   refine a8 (agF 4 [] rfl rfl rfl ?_);refine aA rfl (fun _ => ?_) (fun hb => ?_)
   ·refine a8 (aE mixed ?_);refine ak 1 [] rfl ?_;refine kc cG ?_;refine ak 5 [(5, .row 0 []), (6, .row 0 (bD x))] rfl ?_;refine kc cL1 ?_;refine kc cA1 ?_;refine ak 5 [(12, .row 1 []), (13, .row 1 (bD y))] rfl ?_;refine kc cL2 ?_;refine kc cA2 ?_;refine ak 1 [] rfl ?_;refine az ?_;exact aI (rtC trw)
   ·exfalso;obtain ⟨h3, h4⟩ := oT hP.1;simp [h3, h4] at hb
  ·refine ⟨.mk 11 0 [] t [] [] [], l1, 1, .fail hg hn, by cases hg <;> omega, hok, ?_⟩;refine iK v t l left f g _ hl hL hf hgh hout (fun s' l' e => by cases e) (fun l' e => ?_);cases e;refine a8 (a8 (aE mixed ?_));refine ak 1 [] rfl ?_;refine kc cF ?_;refine az ?_;refine aA rfl (fun hb => by cases hb) (fun _ => ?_);refine aD ?_;refine a8 (aE mixed ?_);refine ak 1 [] rfl ?_;refine kc cS ?_;refine ak 6 [] rfl ?_;refine az ?_;refine a8 (aB (a8 (agF 4 [] rfl rfl rfl ?_)));refine aA rfl (fun hb => absurd hb hI) (fun _ => ?_);refine a8 (agF 4 [] rfl rfl rfl ?_);refine aA rfl (fun hb => absurd hb hB) (fun _ => ?_);refine a8 (agF 4 [] rfl rfl rfl ?_);refine aA rfl (fun hb => ?_) (fun _ => ?_)
   ·exfalso;exact hX (aFe hb)
   refine a8 (agF 4 [] rfl rfl rfl ?_);refine aA rfl (fun hb => ?_) (fun _ => ?_)
   ·exfalso;exact hP (aFe hb)
   refine aD ?_;refine a8 (ag [] rfl ?_);exact aI (rtC trw)
theorem aE0 : ∀ (N n : Nat) (t : Ty), n ≤ N → GT n t → n ≤ 100 → xE n t
 | 0, n, t, h, hg, _ => by cases hg <;> omega
 | N + 1, n, t, h, hg, hn => aJ5 n t hg hn fun k u hk hu => aE0 N k u (by omega) hu (by omega)
def pos (left : Int) : Int := ((left - 1).toNat : Int)
def qJ (F : Int) : Prop := ∀ (v : Gv) (t : Ty) (n : Nat) (l : List Int) (left : Int), Gok v → 7 ≤ v.deep + F → v.deep ≤ 8 → GT n t → (n : Int) ≤ 33 + 8 * v.deep → Ok l → left ≤ 100 → -1000 ≤ left - 3 * pos left →
 ∃ (c : Core) (l' : List Int) (left' : Int) (m : Nat), GC m c ∧ Ok l' ∧ (left' ≤ left ∧ left - 3 * pos left - 1 ≤ left' - 3 * pos left' ∧ (m : Int) + 4100 * pos left' ≤ 2000 + 4100 * pos left) ∧
  aU Tryz.prog 39 [.one (.vp 700 0), .pa (wO v), tyV t] (mO l left) (.pa (aC c)) (mO l' left')
theorem aSq (F : Int) (hS : qJ F) (v : Gv) (t : Ty) (n : Nat) (l : List Int) (left : Int) (hv : Gok v) (hF : 7 ≤ v.deep + 1 + F) (hd : v.deep ≤ 6) (hg : GT n t) (hn : (n : Int) ≤ 33 + 8 * v.deep) (hl : Ok l) (hle : left ≤ 100) (hlo : -1000 ≤ left - 3 * pos left - 2) :
  ∃ (c : Core) (l' : List Int) (left' : Int) (m : Nat), GC m c ∧ Ok l' ∧ (left' ≤ left ∧ left - 3 * pos left - 3 ≤ left' - 3 * pos left' ∧ (m : Int) + 4100 * pos left' ≤ 6050 + 4100 * pos left) ∧
   aU Tryz.prog 92 [.one (.vp 700 0), .pa (wO v), tyV t] (mO l left) (.pa (aC c)) (mO l' left') := by
 have h0 := hv.d0;have hlen := hv.len;have hvlen := hv.vlen;obtain ⟨tf, tn, ts, ta⟩ := t;obtain ⟨i, l1, hi, hl1, cN⟩ := j1 l left 4 (by decide) hl;have more : ∀ (v : Gv) (s : Str) (u : Ty) (k : Nat), Gok v → 0 ≤ v.deep → v.deep ≤ 8 → GT k u → k ≤ 100 → (s = [] ∨ s ∈ nm6) → Gok (dP v s u) ∧ aU Tryz.prog 90 [.pa (wO v), Go.AM.T s, tyV u] [] (.pa (wO (dP v s u))) [] := fun v s u k h h0 h8 hu hk hs => by
  have := h.len;exact ⟨h.more hs hu hk, wV v s u (by omega) ⟨h0, by omega⟩⟩
 obtain ⟨hv1, cM⟩ := more v [] (.mk tf tn ts ta) n hv h0 (by omega) hg (by omega) (.inl rfl);have hd1 : (dP v [] (.mk tf tn ts ta)).deep = v.deep + 1 := rfl;by_cases h1 : i = 0
 ·subst h1;obtain ⟨c1, l2, le2, m1, g1, hl2, ⟨b1, b1', b1''⟩, cS1⟩ := hS (dP v [] (.mk tf tn ts ta)) aRk 1 l1 left hv1 (by omega) (by omega) (.con _ (by decide)) (by omega) hl1 hle (by omega);obtain ⟨c2, l3, le3, m2, g2, hl3, ⟨b2, b2', b2''⟩, cS2⟩ := hS (dP v [] (.mk tf tn ts ta)) (.mk tf tn ts ta) n l2 le2 hv1 (by omega) (by omega) hg (by omega) hl2 (by omega) (by omega);obtain ⟨c3, l4, le4, m3, g3, hl4, ⟨b3, b3', b3''⟩, cS3⟩ := hS (dP v [] (.mk tf tn ts ta)) (.mk tf tn ts ta) n l3 le3 hv1 (by omega) (by omega) hg (by omega) hl3 (by omega) (by omega);refine ⟨.mk 9 0 [] (.mk tf tn ts ta) [c1] [] [.mk 1 0 [84, 114, 117, 101] [] c2, .mk 1 0 [70, 97, 108, 115, 101] [] c3], l4, le4, m1 + m2 + m3 + 40, .case2 hg (by omega) g1 g2 g3 (by decide) (by decide) (by decide) (by simp) (by decide) (by decide) (by decide) (by decide) (by simp) (by decide), hl4, ⟨by omega, by omega, by omega⟩, ?_⟩;refine bT (n := 152) tok Tryz.func92 rfl rfl rfl ?_;refine a8 (ag [] rfl ?_);refine a8 (ag [] rfl ?_);refine a8 (a8 (aE mixed ?_));refine ak 1 [] rfl ?_;refine kc cN ?_;refine az ?_;refine aB (a8 (ag [] rfl ?_));refine aA rfl (fun _ => ?_) (fun hb => by cases hb);refine a8 (aE mixed ?_);refine ak 3 [] rfl ?_;refine kc cM ?_;refine kc (gH [66, 111, 111, 108]) ?_;refine kc cS1 ?_;refine ak 3 [(6, .all)] rfl ?_;refine az ?_;refine aE mixed ?_;refine ak 3 [] rfl ?_;refine kc cM ?_;refine ak 1 [] rfl ?_;refine kc cS2 ?_;refine ak 4 [] rfl ?_;refine kc cM ?_;refine ak 1 [] rfl ?_;refine kc cS3 ?_;refine ak 4 [] rfl ?_;refine az ?_;refine AWp.sub (Sub.freeze (id := 76) rfl) ?_;refine AWp.sub (aw 76 ([.mk 1 0 [84, 114, 117, 101] [] c2, .mk 1 0 [70, 97, 108, 115, 101] [] c3].map dQ)) ?_;refine AWp.sub (vp 7 (aC (.mk 9 0 [] (.mk tf tn ts ta) [c1] [] [.mk 1 0 [84, 114, 117, 101] [] c2, .mk 1 0 [70, 97, 108, 115, 101] [] c3]))) ?_;refine a8 (ag [] rfl ?_);exact aI (rtC trw)
 by_cases h2 : i = 1
 ·subst h2;obtain ⟨c1, l2, le2, m1, g1, hl2, ⟨b1, b1', b1''⟩, cS1⟩ := hS (dP v [] (.mk tf tn ts ta)) uZ 1 l1 left hv1 (by omega) (by omega) (.con _ (by decide)) (by omega) hl1 hle (by omega);obtain ⟨j, l2b, hj, hl2b, cJ⟩ := j1 l2 le2 5 (by decide) hl2;obtain ⟨c2, l3, le3, m2, g2, hl3, ⟨b2, b2', b2''⟩, cS2⟩ := hS (dP v [] (.mk tf tn ts ta)) (.mk tf tn ts ta) n l2b le2 hv1 (by omega) (by omega) hg (by omega) hl2b (by omega) (by omega);obtain ⟨c3, l4, le4, m3, g3, hl4, ⟨b3, b3', b3''⟩, cS3⟩ := hS (dP v [] (.mk tf tn ts ta)) (.mk tf tn ts ta) n l3 le3 hv1 (by omega) (by omega) hg (by omega) hl3 (by omega) (by omega);refine ⟨.mk 9 0 [] (.mk tf tn ts ta) [c1] [] [.mk 2 ((j : Int) - 1) [] [] c2, .mk 3 0 [] [] c3], l4, le4, m1 + m2 + m3 + 40, .case2 hg (by omega) g1 g2 g3 (by decide) (by omega) (by decide) (by simp) (by decide) (by decide) (by decide) (by decide) (by simp) (by decide), hl4, ⟨by omega, by omega, by omega⟩, ?_⟩;refine bT (n := 152) tok Tryz.func92 rfl rfl rfl ?_;refine a8 (ag [] rfl ?_);refine a8 (ag [] rfl ?_);refine a8 (a8 (aE mixed ?_));refine ak 1 [] rfl ?_;refine kc cN ?_;refine az ?_;refine aB (a8 (ag [] rfl ?_));refine aA rfl (fun hb => by cases hb) (fun _ => ?_);refine a8 (ag [] rfl ?_);refine aA rfl (fun _ => ?_) (fun hb => by cases hb);refine a8 (aE mixed ?_);refine ak 3 [] rfl ?_;refine kc cM ?_;refine kc (gH [73, 110, 116]) ?_;refine kc cS1 ?_;refine ak 3 [(6, .all)] rfl ?_;refine az ?_;refine aE mixed ?_;refine ak 1 [] rfl ?_;refine kc cJ ?_;refine ak 4 [] rfl ?_ (hc := by repeat (first | exact trivial | refine ⟨by first | rfl | omega | (simp; omega) | (unfold Ty.name; simp; omega) | (simp; done), ?_⟩));refine kc cM ?_;refine ak 1 [] rfl ?_;refine kc cS2 ?_;refine ak 4 [] rfl ?_;refine kc cM ?_;refine ak 1 [] rfl ?_;refine kc cS3 ?_;refine ak 4 [] rfl ?_;refine az ?_;refine AWp.sub (Sub.freeze (id := 105) rfl) ?_;refine AWp.sub (aw 105 ([.mk 2 ((j : Int) - 1) [] [] c2, .mk 3 0 [] [] c3].map dQ)) ?_;refine AWp.sub (vp 7 (aC (.mk 9 0 [] (.mk tf tn ts ta) [c1] [] [.mk 2 ((j : Int) - 1) [] [] c2, .mk 3 0 [] [] c3]))) ?_;refine a8 (ag [] rfl ?_);exact aI (rtC trw)
 by_cases h3 : i = 2
 ·subst h3;obtain ⟨⟨uf, un, us, ua⟩, l2, k, gu, hk, hl2, cU⟩ := wQ v.vars hv.vars (by omega) 1 2 (by omega) (by omega) l1 left hl1;have hk : k ≤ 5 := hk;have gL : GT (1 + k + 1) (.mk 4 0 [] [.mk 3 0 [76] [], (.mk uf un us ua)]) := .app (.nm (by decide)) gu;obtain ⟨c1, l3, le3, m1, g1, hl3, ⟨b1, b1', b1''⟩, cS1⟩ := hS (dP v [] (.mk tf tn ts ta)) (.mk 4 0 [] [.mk 3 0 [76] [], (.mk uf un us ua)]) _ l2 left hv1 (by omega) (by omega) gL (by omega) hl2 hle (by omega);obtain ⟨hvx, cX⟩ := more v [120] (.mk uf un us ua) k hv h0 (by omega) gu (by omega) (.inr (by decide));obtain ⟨hvy, cY⟩ := more (dP v [120] (.mk uf un us ua)) [121] (.mk 4 0 [] [.mk 3 0 [76] [], (.mk uf un us ua)]) _ hvx (by show 0 ≤ v.deep + 1; omega) (by show v.deep + 1 ≤ 8; omega) gL (by omega) (.inr (by decide));have hdy : (dP (dP v [120] (.mk uf un us ua)) [121] (.mk 4 0 [] [.mk 3 0 [76] [], (.mk uf un us ua)])).deep = v.deep + 1 + 1 := rfl;obtain ⟨c2, l4, le4, m2, g2, hl4, ⟨b2, b2', b2''⟩, cS2⟩ := hS _ (.mk tf tn ts ta) n l3 le3 hvy (by omega) (by omega) hg (by omega) hl3 (by omega) (by omega);obtain ⟨c3, l5, le5, m3, g3, hl5, ⟨b3, b3', b3''⟩, cS3⟩ := hS (dP v [] (.mk tf tn ts ta)) (.mk tf tn ts ta) n l4 le4 hv1 (by omega) (by omega) hg (by omega) hl4 (by omega) (by omega);obtain ⟨j, l6, hj, hl6, cJ⟩ := j1 l5 le5 3 (by decide) hl5;have walk : ∀ c : Core, c = (if j = 0 then .mk 9 0 [] (.mk tf tn ts ta) [c1] [] [.mk 1 0 [67] [[120], [121]] c2] else .mk 9 0 [] (.mk tf tn ts ta) [c1] [] [.mk 1 0 [67] [[120], [121]] c2, .mk 1 0 [78] [] c3]) → aU Tryz.prog 92 [.one (.vp 700 0), .pa (wO v), tyV (.mk tf tn ts ta)] (mO l left) (.pa (aC c)) (mO l6 le5) := by
   intro c hc;refine bT (n := 152) tok Tryz.func92 rfl rfl rfl ?_;refine a8 (ag [] rfl ?_);refine a8 (ag [] rfl ?_);refine a8 (a8 (aE mixed ?_));refine ak 1 [] rfl ?_;refine kc cN ?_;refine az ?_;refine aB (a8 (ag [] rfl ?_));refine aA rfl (fun hb => by cases hb) (fun _ => ?_);refine a8 (ag [] rfl ?_);refine aA rfl (fun hb => by cases hb) (fun _ => ?_);refine a8 (ag [] rfl ?_);refine aA rfl (fun _ => ?_) (fun hb => by cases hb);refine a8 (aE mixed ?_);refine ak 3 [] rfl ?_;refine kc cU ?_;refine ak 2 [] rfl ?_;refine az ?_;refine a8 (aE mixed ?_);refine kc (gH [76]) ?_;refine ak 5 [(2, .all)] rfl ?_;refine az ?_;refine a8 (aE mixed ?_);refine ak 3 [] rfl ?_;refine kc cM ?_;refine ak 1 [] rfl ?_;refine kc cS1 ?_;refine ak 3 [(6, .all)] rfl ?_;refine az ?_;refine a8 (aE mixed ?_);refine ak 4 [(0, .all)] rfl ?_;refine kc cX ?_;refine ak 1 [] rfl ?_;refine kc cY ?_;refine ak 1 [] rfl ?_;refine kc cS2 ?_;refine ak 4 [] rfl ?_;refine kc cM ?_;refine ak 1 [] rfl ?_;refine kc cS3 ?_;refine ak 4 [] rfl ?_;refine az ?_;refine AWp.sub (Sub.freeze (id := 142) rfl) ?_;refine AWp.sub (aw 142 ([.mk 1 0 [67] [[120], [121]] c2, .mk 1 0 [78] [] c3].map dQ)) ?_;refine AWp.sub (vp 7 (aC (.mk 9 0 [] (.mk tf tn ts ta) [c1] [] [.mk 1 0 [67] [[120], [121]] c2, .mk 1 0 [78] [] c3]))) ?_;refine a8 (aE mixed ?_);refine ak 1 [] rfl ?_;refine kc cJ ?_;refine ak 1 [] rfl ?_;refine az ?_;refine aA rfl (fun hb => ?_) (fun hb => ?_)
   ·have hj0 : j = 0 := by have := of_decide_eq_true hb; omega
    rw [if_pos hj0] at hc;subst hc;refine ag [] rfl ?_ (hc := ⟨by rw [aBy]; simp [Core.alts], by decide, trivial⟩);refine a8 (ag [] rfl ?_);exact aI (rtC trw)
   ·have hj0 : ¬ j = 0 := by have := of_decide_eq_false hb; omega
    rw [if_neg hj0] at hc;subst hc;refine aD ?_;refine a8 (ag [] rfl ?_);exact aI (rtC trw)
  by_cases hj0 : j = 0
  ·refine ⟨.mk 9 0 [] (.mk tf tn ts ta) [c1] [] [.mk 1 0 [67] [[120], [121]] c2], l6, le5, m1 + m2 + 20, .case1 hg (by omega) g1 g2 (by decide) (by decide) (by decide) (by decide) (by decide), hl6, ⟨by omega, by omega, by omega⟩, walk _ (by rw [if_pos hj0])⟩
  ·refine ⟨.mk 9 0 [] (.mk tf tn ts ta) [c1] [] [.mk 1 0 [67] [[120], [121]] c2, .mk 1 0 [78] [] c3], l6, le5, m1 + m2 + m3 + 40, .case2 hg (by omega) g1 g2 g3 (by decide) (by decide) (by decide) (by decide) (by decide) (by decide) (by decide) (by decide) (by simp) (by decide), hl6, ⟨by omega, by omega, by omega⟩, walk _ (by rw [if_neg hj0])⟩
 obtain ⟨⟨uf, un, us, ua⟩, l2, k, gu, hk, hl2, cU⟩ := wQ v.vars hv.vars (by omega) 1 2 (by omega) (by omega) l1 left hl1;have hk : k ≤ 5 := hk;obtain ⟨⟨wf, wn, ws, wa⟩, l2b, kw, gw, hkw, hl2b, cW⟩ := wQ v.vars hv.vars (by omega) 1 2 (by omega) (by omega) l2 left hl2;have hkw : kw ≤ 5 := hkw;have gL : GT (1 + k + 1 + kw + 1) (.mk 4 0 [] [.mk 4 0 [] [.mk 3 0 [80] [], (.mk uf un us ua)], (.mk wf wn ws wa)]) := .app (.app (.nm (by decide)) gu) gw;obtain ⟨c1, l3, le3, m1, g1, hl3, ⟨b1, b1', b1''⟩, cS1⟩ := hS (dP v [] (.mk tf tn ts ta)) (.mk 4 0 [] [.mk 4 0 [] [.mk 3 0 [80] [], (.mk uf un us ua)], (.mk wf wn ws wa)]) _ l2b left hv1 (by omega) (by omega) gL (by omega) hl2b hle (by omega);obtain ⟨hvx, cX⟩ := more v [121] (.mk uf un us ua) k hv h0 (by omega) gu (by omega) (.inr (by decide));obtain ⟨hvy, cY⟩ := more (dP v [121] (.mk uf un us ua)) [97] (.mk wf wn ws wa) kw hvx (by show 0 ≤ v.deep + 1; omega) (by show v.deep + 1 ≤ 8; omega) gw (by omega) (.inr (by decide));have hdy : (dP (dP v [121] (.mk uf un us ua)) [97] (.mk wf wn ws wa)).deep = v.deep + 1 + 1 := rfl;obtain ⟨c2, l4, le4, m2, g2, hl4, ⟨b2, b2', b2''⟩, cS2⟩ := hS _ (.mk tf tn ts ta) n l3 le3 hvy (by omega) (by omega) hg (by omega) hl3 (by omega) (by omega);refine ⟨.mk 9 0 [] (.mk tf tn ts ta) [c1] [] [.mk 1 0 [80] [[121], [97]] c2], l4, le4, m1 + m2 + 20, .case1 hg (by omega) g1 g2 (by decide) (by decide) (by decide) (by decide) (by decide), hl4, ⟨by omega, by omega, by omega⟩, ?_⟩;refine bT (n := 152) tok Tryz.func92 rfl rfl rfl ?_;refine a8 (ag [] rfl ?_);refine a8 (ag [] rfl ?_);refine a8 (a8 (aE mixed ?_));refine ak 1 [] rfl ?_;refine kc cN ?_;refine az ?_;refine aB (a8 (ag [] rfl ?_));refine aA rfl (fun hb => absurd (by have := of_decide_eq_true hb; omega) h1) (fun _ => ?_);refine a8 (ag [] rfl ?_);refine aA rfl (fun hb => absurd (by have := of_decide_eq_true hb; omega) h2) (fun _ => ?_);refine a8 (ag [] rfl ?_);refine aA rfl (fun hb => absurd (by have := of_decide_eq_true hb; omega) h3) (fun _ => ?_);refine a8 (aE mixed ?_);refine ak 3 [] rfl ?_;refine kc cU ?_;refine ak 2 [] rfl ?_;refine az ?_;refine a8 (aE mixed ?_);refine ak 3 [] rfl ?_;refine kc cW ?_;refine ak 2 [] rfl ?_;refine az ?_;refine a8 (aE mixed ?_);refine kc (gH [80]) ?_;refine ak 8 [(2, .all), (5, .all)] rfl ?_;refine az ?_;refine a8 (aE mixed ?_);refine ak 3 [] rfl ?_;refine kc cM ?_;refine ak 1 [] rfl ?_;refine kc cS1 ?_;refine ak 3 [(6, .all)] rfl ?_;refine az ?_;refine aE mixed ?_;refine ak 4 [(0, .all)] rfl ?_;refine kc cX ?_;refine ak 1 [] rfl ?_;refine kc cY ?_;refine ak 1 [] rfl ?_;refine kc cS2 ?_;refine ak 4 [(10, .all)] rfl ?_;refine az ?_;refine AWp.sub (vp 7 (aC (.mk 9 0 [] (.mk tf tn ts ta) [c1] [] [.mk 1 0 [80] [[121], [97]] c2]))) ?_;refine a8 (ag [] rfl ?_);exact aI (rtC trw)
end Go.Proofs.YtmoekkcdkjopgaaGreatDoor
