/-
  Texts Lc5 to Lg7 in one.
-/
import Derived.Test.YtmoekkcdkjopgaaGreatDoorM7
open List (all_eq_true append_assoc append_nil cons_append drop_eq_getElem_cons drop_length filter_cons flatMap_append flatMap_cons flatten_cons foldl_append foldl_cons length_append length_cons length_drop length_map length_nil length_take map_append map_cons map_map map_nil map_set mem_append mem_cons mem_cons_of_mem mem_cons_self mem_filter mem_flatMap mem_map mem_of_mem_take mem_singleton nil_append nodup_append nodup_cons nodup_nil set_cons_succ take_add_one take_append_drop take_length take_succ_cons take_zero)
open Nat (add_assoc add_mul add_zero le_of_lt le_refl le_trans min_eq_left mul_le_mul_right sub_self sub_zero zero_add zero_le)
namespace Go.Proofs.YtmoekkcdkjopgaaGreatDoor
open Go Go.AM
set_option maxRecDepth 20000
def nm0 (c : Core) : List (List C) := if c.form = 5 then [[.pt ((aB c).drop 2)]] else []
def aBy (b : Bind) : List C := [.pt ((bA b).drop 0)]
def aGp (b : Bind) : List C := [.pt ((bA b).drop 5)]
def gS (k : Core) : List C := [.pt (aB k)]
def xI (v : Str) : List C := [.pt (bM v)]
def aB5 (a : Alt) : List C := [.sl 1 (a.vars.map xI), .sl 1 [[.pt ((dQ a).drop 4)]]]
def aVp (c : Core) : List C := [.sl 1 (nm0 c ++ c.binds.map aBy), .sl 1 (c.kids.map gS ++ c.binds.map aGp)]
def nU (c : Core) : List (List C) := aVp c :: c.alts.map aB5
theorem qS {α : Type} (f : α → List C) (w : List (List C)) {l : List α} {i : Nat} {x : α} (h : l[i]? = some x) : w ++ (l.take i).map f ++ [f x] = w ++ (l.take (i + 1)).map f := by
 rw [fF h, map_append, append_assoc]; rfl
theorem zG (c : Core) (hsz : b6 c ≤ 570000000000) : aV Tryz.prog 66 [.one (.c (.pt (aB c)))] [] (.one (.c (.sl 2 (nU c)))) [] := by
 obtain ⟨f, n, s, t, ks, bs, al⟩ := c;obtain ⟨ihk, ihb, iha, hkl, hbl, hal⟩ := @mM f n s t ks bs al;have hkB : (aR bs).length = bs.length := by rw [bP, length_map]
 have hkK : (aQ ks).length = ks.length := by rw [bG, length_map]
 have hkA : (cB al).length = al.length := by rw [bI, length_map]
 have hW : (nm0 (.mk f n s t ks bs al)).length ≤ 1 := by unfold nm0; split <;> simp
 have hW5 : nm0 (.mk f n s t ks bs al) = if f = 5 then [[.pt ((aB (.mk f n s t ks bs al)).drop 2)]] else [] := rfl
 have hEG : nU (.mk f n s t ks bs al) = [.sl 1 (nm0 (.mk f n s t ks bs al) ++ bs.map aBy), .sl 1 (ks.map gS ++ bs.map aGp)] :: al.map aB5 := rfl;rw [hEG];generalize nm0 (.mk f n s t ks bs al) = W at hW hW5 ⊢;refine bT (n := 123) tok Tryz.func66 rfl rfl rfl ?_;refine a8 (ag [] rfl ?_);refine a8 (ag [] rfl ?_);refine AWp.sub (Sub.ownCell (x := 3) (k := 1) (id := 712) 116 1 rfl rfl rfl) (AWp.sub (Sub.ownCell (x := 3) (k := 0) (id := 711) 167 1 rfl rfl rfl) ?_);refine a8 (a8 (ag [] rfl ?_));refine aC ?_;refine aL (fun i : Nat => mk [(0, .one (.c (.pt (aB (.mk f n s t ks bs al))))), (3, .one (.vp 3 0)), (16, I .i64 ((aQ ks).length : Int)), (17, I .i64 i)] [(3, .var 125 [.hs 711 0 0 0, .hs 712 0 i i]), (711, .arr 167 1 [] 0), (712, .arr 116 1 ((ks.take i).map gS) 0)]) (fun i => i ≤ ks.length) (fun i => ks.length - i) 0 (zero_le _) sl ?_;intro i hi;refine a8 (ag [] rfl ?_);refine a8 (aA rfl (fun hb => ?_) (fun hb => ?_))
 ·have hlt := ltD hb hkK;obtain ⟨k, hki⟩ := aK hlt;have hki' := iQ hki;have hrows := n8 gS hki;refine aD ?_;refine a8 (aC (a8 (ag [] rfl ?_)));refine ag [(7, .row i (aB k))] rfl ?_;refine ag [] rfl ?_;exact ⟨i + 1, hlt, by dsimp only; omega, sl⟩
 have hge := geD hb hkK hi;subst hge;rw [take_length];refine aO ?_;refine a8 (AWp.cut (mk [(0, .one (.c (.pt (aB (.mk f n s t ks bs al))))), (3, .one (.vp 3 0))] [(3, .var 125 [.hs 711 0 W.length W.length, .hs 712 0 ks.length ks.length]), (711, .arr 167 1 W 0), (712, .arr 116 1 (ks.map gS) 0)]) ?_ ?_)
 ·refine a8 (ag [] rfl ?_);refine aA rfl (fun hb => ?_) (fun hb => ?_)
  ·have h5 : f = 5 := of_decide_eq_true hb;rw [if_pos h5] at hW5;subst hW5;exact ag [] rfl sl
  ·have h5 : ¬ f = 5 := of_decide_eq_false hb;rw [if_neg h5] at hW5;subst hW5;exact aD sl
 clear hW5;refine a8 (a8 (ag [] rfl ?_));refine aC ?_;refine aL (fun i : Nat => mk [(0, .one (.c (.pt (aB (.mk f n s t ks bs al))))), (3, .one (.vp 3 0)), (49, I .i64 ((aR bs).length : Int)), (50, I .i64 i)] [(3, .var 125 [.hs 711 0 (W.length + i) (W.length + i), .hs 712 0 (ks.length + i) (ks.length + i)]), (711, .arr 167 1 (W ++ (bs.take i).map aBy) 0), (712, .arr 116 1 (ks.map gS ++ (bs.take i).map aGp) 0)]) (fun i => i ≤ bs.length) (fun i => bs.length - i) 0 (zero_le _) sl ?_;intro i hi;refine a8 (ag [] rfl ?_);refine a8 (aA rfl (fun hb => ?_) (fun hb => ?_))
 ·have hlt := ltD hb hkB;obtain ⟨b, hbi⟩ := aK hlt;have hbi' := dG hbi;have hr1 := qS aBy W hbi;have hr2 := qS aGp (ks.map gS) hbi;refine aD ?_;refine a8 (aC (a8 (ag [] rfl ?_)));refine a8 (ag [(5, .row i (bA b))] rfl ?_);refine ag [] rfl ?_;refine ag [] rfl ?_;exact ⟨i + 1, hlt, by dsimp only; omega, sl⟩
 have hge := geD hb hkB hi;subst hge;rw [take_length];have hl1 : (W ++ bs.map aBy).length = W.length + bs.length := by simp
 have hl2 : (ks.map gS ++ bs.map aGp).length = ks.length + bs.length := by simp
 rw [← hl1, ← hl2];generalize W ++ bs.map aBy = N0;generalize ks.map gS ++ bs.map aGp = P0;refine aO ?_;refine AWp.sub (Sub.freeze (id := 711) rfl) (AWp.sub (Sub.freeze (id := 712) rfl) (AWp.sub (vp 3 [.sl 1 N0, .sl 1 P0]) ?_));refine a8 (ag [(1, .id 500)] rfl ?_);refine a8 (a8 (ag [] rfl ?_));refine aC ?_;refine aL (fun i : Nat => mk [(0, .one (.c (.pt (aB (.mk f n s t ks bs al))))), (7, .one (.hs 500 0 (1 + i) (1 + i))), (82, I .i64 ((cB al).length : Int)), (83, I .i64 i)] [(500, .arr 125 2 ([[.sl 1 N0, .sl 1 P0]] ++ (al.take i).map aB5) 0)]) (fun i => i ≤ al.length) (fun i => al.length - i) 0 (zero_le _) sl ?_;intro i hi;refine a8 (ag [] rfl ?_);refine a8 (aA rfl (fun hb => ?_) (fun hb => ?_))
 ·have hlt := ltD hb hkA;obtain ⟨a, hai⟩ := aK hlt;have hai' := uC hai;have hav := fR (List.mem_of_getElem? hai);have hvl := oB a;have hrows := qS aB5 [[.sl 1 N0, .sl 1 P0]] hai;have hvk : (a.vars.map bM).length = a.vars.length := length_map _;have hgl : (([[.sl 1 N0, .sl 1 P0]] : List (List C)) ++ (al.take i).map aB5).length = 1 + i := by
   rw [length_append, length_map, length_take];show 1 + min i al.length = _;omega
  have hall : al.length ≤ 570000000000 := by omega
  generalize ([[.sl 1 N0, .sl 1 P0]] : List (List C)) ++ (al.take i).map aB5 = G at hgl hrows ⊢;rw [b6] at hsz;refine aD ?_;refine a8 (aC (a8 (ag [] rfl ?_)));refine a8 (ag [(5, .row i (dQ a))] rfl ?_);refine a8 (ag [(3, .all)] rfl ?_);refine AWp.sub (Sub.ownCell (x := 10) (k := 0) (id := 721) 167 1 rfl rfl rfl) ?_;refine a8 (a8 (ag [] rfl ?_));refine aC ?_;refine aL (fun j : Nat => mk [(0, .one (.c (.pt (aB (.mk f n s t ks bs al))))), (7, .one (.hs 500 0 (1 + i) (1 + i))), (9, .one (.c (.pt (dQ a)))), (10, .one (.vp 10 0)), (82, I .i64 ((cB al).length : Int)), (83, I .i64 i), (101, I .i64 ((a.vars.map bM).length : Int)), (102, I .i64 j)] [(500, .arr 125 2 G 0), (10, .var 125 [.hs 721 0 j j, .c (.sl 1 [[.pt ((dQ a).drop 4)]])]), (721, .arr 167 1 ((a.vars.take j).map xI) 0)]) (fun j => j ≤ a.vars.length) (fun j => a.vars.length - j) 0 (zero_le _) sl ?_;intro j hj;refine a8 (ag [] rfl ?_);refine a8 (aA rfl (fun hb => ?_) (fun hb => ?_))
  ·have hlt2 := ltD hb hvk;obtain ⟨v, hv⟩ := aK hlt2;have hv' := bO bM hv;have hr3 := n8 xI hv;refine aD ?_;refine a8 (aC (a8 (ag [] rfl ?_)));refine ag [(7, .row j (bM v))] rfl ?_;refine ag [] rfl ?_;exact ⟨j + 1, hlt2, by dsimp only; omega, sl⟩
  have hge2 := geD hb hvk hj;subst hge2;rw [take_length];have hlv : a.vars.length = (a.vars.map xI).length := (length_map _).symm;refine aO ?_;refine AWp.sub (Sub.freeze (id := 721) rfl) (AWp.sub (vp 10 (aB5 a)) ?_);refine ag [(2, .all)] rfl ?_;refine ag [] rfl ?_;exact ⟨i + 1, hlt, by dsimp only; omega, sl⟩
 have hge := geD hb hkA hi;subst hge;rw [take_length];refine aO ?_;refine a8 (ag [] rfl ?_);refine AWp.sub (Sub.freeze (id := 500) rfl) ?_;exact aI (rtT (hc := hs_all rfl rfl (by simp; omega) rfl))
def gl (c : Core) : List (List (List C) × List Core) := (nm0 c ++ c.binds.map aBy, c.kids ++ c.binds.map Bind.body) :: c.alts.map fun a => (a.vars.map xI, [a.body])
def jZ (g : List (List C) × List Core) : List C := [.sl 1 g.1, .sl 1 (g.2.map gS)]
theorem pD (c : Core) : nU c = (gl c).map jZ := by
 obtain ⟨f, n, s, t, ks, bs, al⟩ := c;unfold nU gl;rw [map_cons, map_map];congr 1;unfold aVp jZ;rw [map_append, map_map];rfl
mutual
def iG : Core → Nat
 | .mk _ _ _ _ ks bs al => 1 + (dB ks + (jS bs + jT al))
def dB : List Core → Nat
 | [] => 0
 | c :: l => iG c + dB l
def jS : List Bind → Nat
 | [] => 0
 | .mk _ _ c :: l => iG c + jS l
def jT : List Alt → Nat
 | [] => 0
 | .mk _ _ _ _ c :: l => iG c + jT l
end
theorem oH : ∀ a b, dB (a ++ b) = dB a + dB b
 | [], b => by rw [nil_append, dB, zero_add]
 | x :: a, b => by rw [cons_append, dB, dB, oH a b, add_assoc]
theorem sW : ∀ l : List Bind, dB (l.map Bind.body) = jS l
 | [] => by rw [map_nil, dB, jS]
 | .mk s t c :: l => by rw [map_cons, dB, jS, sW l]; rfl
def nO : List (List (List C) × List Core) → Nat
 | [] => 0
 | g :: l => dB g.2 + nO l
theorem yQ : ∀ l : List Alt, nO (l.map fun a => (a.vars.map xI, [a.body])) = jT l
 | [] => by rw [map_nil, nO, jT]
 | .mk f n s v c :: l => by rw [map_cons, nO, jT, yQ l, dB, dB]; rfl
theorem aRc (c : Core) : iG c = 1 + nO (gl c) := by
 obtain ⟨f, n, s, t, ks, bs, al⟩ := c;unfold gl;rw [nO, iG];show _ = 1 + (dB (ks ++ bs.map Bind.body) + nO (al.map fun a => (a.vars.map xI, [a.body])));rw [oH, sW, yQ];omega
mutual
theorem size_le : ∀ c : Core, iG c ≤ b6 c
 | .mk f n s t ks bs al => by rw [iG, b6]; have := aDc ks; have := aDd bs; have := aDe al; omega
theorem aDc : ∀ l : List Core, dB l ≤ bH l
 | [] => by rw [dB]; exact zero_le _
 | c :: l => by rw [dB, bH]; have := size_le c; have := aDc l; omega
theorem aDd : ∀ l : List Bind, jS l ≤ c9 l
 | [] => by rw [jS]; exact zero_le _
 | .mk s t c :: l => by rw [jS, c9, bsize]; have := size_le c; have := aDd l; omega
theorem aDe : ∀ l : List Alt, jT l ≤ bZ l
 | [] => by rw [jT]; exact zero_le _
 | .mk f n s v c :: l => by rw [jT, bZ, lZ]; have := size_le c; have := aDe l; omega
end
theorem aVq {c : Core} {g : List (List C) × List Core} (h : g ∈ gl c) {x : Core} (hx : x ∈ g.2) : b6 x < b6 c := by
 obtain ⟨f, n, s, t, ks, bs, al⟩ := c;obtain ⟨ihk, ihb, iha, hkl, hbl, hal⟩ := @mM f n s t ks bs al;unfold gl at h;rcases mem_cons.1 h with rfl | h
 ·rcases mem_append.1 hx with hx | hx
  ·exact ihk x hx
  ·obtain ⟨b, hb, rfl⟩ := mem_map.1 hx;exact ihb b hb
 ·obtain ⟨a, ha, rfl⟩ := mem_map.1 h;rw [mem_singleton.1 hx];exact iha a ha
theorem aP1 (c : Core) : (gl c).length ≤ b6 c ∧ ∀ g ∈ gl c, g.2.length ≤ b6 c ∧ g.1.length ≤ b6 c := by
 obtain ⟨f, n, s, t, ks, bs, al⟩ := c;have h1 := lM ks;have h2 := lQ bs;have h3 := lR al;have hW : (nm0 (.mk f n s t ks bs al)).length ≤ 1 := by unfold nm0; split <;> simp
 rw [b6];unfold gl;refine ⟨?_, fun g hg => ?_⟩
 ·rw [length_cons, length_map];show al.length + 1 ≤ _;omega
 ·rcases mem_cons.1 hg with rfl | hg
  ·rw [length_append, length_append, length_map, length_map];show ks.length + bs.length ≤ _ ∧ _ + bs.length ≤ _;omega
  ·obtain ⟨a, ha, rfl⟩ := mem_map.1 hg;have h4 := fR (show a ∈ al from ha);have h5 := oB a;have h6 : 1 ≤ lZ a := by obtain ⟨f, n, s, v, c⟩ := a; rw [lZ]; omega
   show [a.body].length ≤ _ ∧ (a.vars.map xI).length ≤ _;rw [length_map, List.length_singleton];omega
theorem aJ2 {l : List (List (List C) × List Core)} {i : Nat} {g : List (List C) × List Core} (h : l[i]? = some g) : nO (l.take (i + 1)) = nO (l.take i) + dB g.2 := by
 have app : ∀ a b, nO (a ++ b) = nO a + nO b := by
  intro a b
  induction a with
  | nil => rw [nil_append, nO, zero_add]
  | cons x a ih => rw [cons_append, nO, nO, ih, add_assoc]
 rw [fF h, app, nO, nO, add_zero]
theorem aA0 {l : List Core} {i : Nat} {x : Core} (h : l[i]? = some x) : dB (l.take (i + 1)) = dB (l.take i) + iG x := by
 rw [fF h, oH, dB, dB, add_zero]
theorem aR4 (l : List (List (List C) × List Core)) (i : Nat) : nO (l.take i) ≤ nO l := by
 induction l generalizing i with
 | nil => simp
 | cons g l ih =>
  cases i with
  | zero => simp [nO]
  | succ i => rw [take_succ_cons, nO, nO]; have := ih i; omega
theorem aH7 (l : List Core) (i : Nat) : dB (l.take i) ≤ dB l := by
 induction l generalizing i with
 | nil => simp
 | cons g l ih =>
  cases i with
  | zero => simp [dB]
  | succ i => rw [take_succ_cons, dB, dB]; have := ih i; omega
def aL4 (c : Core) : Prop := b6 c ≤ 570000000000 → aV Tryz.prog 79 [.pa (aB c)] [] (I .i64 (iG c : Nat)) []
theorem aBv (c : Core) (ih : ∀ x, b6 x < b6 c → aL4 x) : aL4 c := by
 intro hsz;have hgr := zG c hsz;have hsi := aRc c;have hsl := size_le c;have hin := fun {g} (h : g ∈ gl c) {x} hx => @aVq c g h x hx
 obtain ⟨hgl, hgm⟩ := aP1 c;rw [pD] at hgr;rw [hsi] at hsl ⊢;generalize gl c = L at hgr hsi hsl hin hgl hgm ⊢;have hkL : (L.map jZ).length = L.length := length_map _;refine bT (n := 30) tok Tryz.func79 rfl rfl rfl ?_;refine a8 (ag [] rfl ?_);refine a8 (ag [] rfl ?_);refine AWp.sub (Sub.fvar (id := 1) (l := aB c) rfl (by simp [keys])) ?_;refine AWp.sub (st2 := mk [(1, .one (.c (.pt (aB c)))), (3, I .i64 1)] []) sl ?_;refine a8 (a8 (aE mixed ?_));refine kc hgr ?_;refine ak 2 [] rfl ?_;refine az ?_;refine aC ?_;refine aL (fun i : Nat => mk [(3, I .i64 ((1 + nO (L.take i) : Nat) : Int)), (8, .one (.c (.sl 2 (L.map jZ)))), (9, I .i64 ((L.map jZ).length : Int)), (10, I .i64 i)] []) (fun i => i ≤ L.length) (fun i => L.length - i) 0 (zero_le _) sl ?_;intro i hi;refine a8 (ag [] rfl ?_);refine a8 (aA rfl (fun hb => ?_) (fun hb => ?_))
 ·have hlt := ltD hb hkL;obtain ⟨g, hg⟩ := aK hlt;have hg' := bO jZ hg;have hgi := List.mem_of_getElem? hg;obtain ⟨hl1, hl2⟩ := hgm g hgi;have hgt := aJ2 hg;have hgl1 := aR4 L (i + 1);have hkG : (g.2.map gS).length = g.2.length := length_map _;obtain ⟨G1, G⟩ := g;dsimp only at hl1 hl2 hgt hkG;refine aD ?_;refine a8 (aC (a8 (ag [(0, .row i (jZ (G1, G)))] rfl ?_)));refine a8 (ag [] rfl ?_);refine aC ?_;refine aL (fun j : Nat => mk [(3, I .i64 ((1 + nO (L.take i) + dB (G.take j) : Nat) : Int)), (8, .one (.c (.sl 2 (L.map jZ)))), (9, I .i64 ((L.map jZ).length : Int)), (10, I .i64 i), (15, .one (.c (.sl 1 (G.map gS)))), (16, I .i64 ((G.map gS).length : Int)), (17, I .i64 j)] []) (fun j => j ≤ G.length) (fun j => G.length - j) 0 (zero_le _) sl ?_;intro j hj;refine a8 (ag [] rfl ?_);refine a8 (aA rfl (fun hb => ?_) (fun hb => ?_))
  ·have hlt2 := ltD hb hkG;obtain ⟨p, hp⟩ := aK hlt2;have hp' := bO gS hp;have hpc := hin hgi (List.mem_of_getElem? hp);have hc := ih p hpc (by omega);have hst := aA0 hp;have hsl2 := aH7 G (j + 1);have hadd : ((1 + nO (L.take i) + dB (G.take j) : Nat) : Int) + ((iG p : Nat) : Int) = ((1 + nO (L.take i) + dB (G.take (j + 1)) : Nat) : Int) := by rw [hst]; omega
   refine aD ?_;refine a8 (aC (a8 (ag [(0, .row j (gS p))] rfl ?_)));refine ag [(4, .pc (I .i64 (iG p : Nat)))] rfl ?_;refine ag [] rfl ?_;refine ⟨j + 1, hlt2, by dsimp only; omega, ?_⟩;dsimp only;rw [← hadd];exact sl
  have hge2 := geD hb hkG hj;subst hge2;rw [take_length];refine aO ?_;refine ag [] rfl ?_;refine ⟨i + 1, hlt, by dsimp only; omega, ?_⟩;dsimp only;rw [show 1 + nO (L.take (i + 1)) = 1 + nO (L.take i) + dB G by rw [hgt]; omega];exact sl
 have hge := geD hb hkL hi;subst hge;rw [take_length];refine aO ?_;refine a8 (ag [] rfl ?_);exact aI rtT
theorem aQj : ∀ (n : Nat) (c : Core), b6 c ≤ n → aL4 c
 | 0, c, h => by have := fI c; omega
 | n + 1, c, h => aBv c fun x hx => aQj n x (by omega)
def rH (o : List Str) (s : Str) : List Str := if s ∈ o then o else o ++ [s]
def mR (o l : List Str) : List Str := l.foldl rH o
theorem aJc (o : List Str) {l : List Str} {i : Nat} {s : Str} (h : l[i]? = some s) : mR o (l.take (i + 1)) = rH (mR o (l.take i)) s := by
 unfold mR; rw [fF h, foldl_append]; rfl
theorem aD2 (o : List Str) (s : Str) : (rH o s).length ≤ o.length + 1 := by unfold rH; split <;> simp
theorem qA (o : List Str) : ∀ l : List Str, (mR o l).length ≤ o.length + l.length := by
 intro l
 induction l generalizing o with
 | nil => exact le_refl _
 | cons s l ih =>
  have h1 := ih (rH o s);have h2 := aD2 o s;show (mR (rH o s) l).length ≤ _;rw [length_cons]; omega
def ouO (o : List Str) : AObj := .arr 9 1 (o.map bM) 1
def ouV (o : List Str) : V := .one (.hs 500 0 o.length o.length)
theorem uH (o l : List Str) (h : o.length + l.length ≤ 600000000000) : aV Tryz.prog 124 [ouV o, bU l] [(500, ouO o)] (ouV (mR o l)) [(500, ouO (mR o l))] := by
 have hkl : (l.map bM).length = l.length := length_map _;refine bT (n := 23) tok Tryz.func124 rfl rfl rfl ?_;refine a8 (ag [] rfl ?_);refine a8 (a8 (ag [] rfl ?_));refine aC ?_;refine aL (fun i : Nat => mk [(0, ouV (mR o (l.take i))), (7, bU l), (8, I .i64 ((l.map bM).length : Int)), (9, I .i64 i)] [(500, ouO (mR o (l.take i)))]) (fun i => i ≤ l.length) (fun i => l.length - i) 0 (zero_le _) sl ?_;intro i hi;refine a8 (ag [] rfl ?_);refine a8 (aA rfl (fun hb => ?_) (fun hb => ?_))
 ·have hlt := ltD hb hkl;obtain ⟨s, hs⟩ := aK hlt;have hs' := bO bM hs;have hst := aJc o hs;have hml := qA o (l.take i);rw [length_take] at hml;generalize mR o (l.take i) = x at hst hml ⊢;have hco := bX x s (by omega);refine aD ?_;refine a8 (aC ?_);refine a8 (ag [(0, .row i (bM s))] rfl ?_);refine AWp.sub (Sub.freeze (id := 500) rfl) ?_;refine a8 (ag [(2, .pc (B (decide (s ∈ x))))] rfl ?_);refine aA rfl (fun hb => ?_) (fun hb => ?_)
  ·have hin : ¬ s ∈ x := by simpa using hb
   rw [rH, if_neg hin] at hst;refine ag [] rfl ?_;refine ag [] rfl ?_;refine ⟨i + 1, hlt, by dsimp only; omega, ?_⟩;dsimp only;rw [hst];exact sl (he := ⟨Go.AM.hs_ren (by simp) (by simp), rfl, rfl, rfl, trivial⟩) (hh := ⟨⟨_, rfl, by first | exact Go.AM.Ole.arrE (by simp; rfl) | exact Go.AM.Ole.arrS (by simp; rfl)⟩, trivial⟩)
  ·have hin : s ∈ x := by simpa using hb
   rw [rH, if_pos hin] at hst;refine aD ?_;refine ag [] rfl ?_;refine ⟨i + 1, hlt, by dsimp only; omega, ?_⟩;dsimp only;rw [hst];exact sl
 have hge := geD hb hkl hi;subst hge;rw [take_length];refine aO ?_;refine a8 (ag [] rfl ?_);exact aI rtT
def aG2 (p : Str × List C) : List C := [.pt (.str p.1 :: p.2)]
def suO (s : Str) : AObj := .var 9 [.c (.str s)]
theorem aSu (p : Str × List C) (s : Str) : aV Tryz.prog 130 [.one (.c (.pt (.str p.1 :: p.2))), .one (.vp 9 0)] [(9, suO s)] (B (decide (p.1 = s))) [(9, suO s)] := by
 refine bT (n := 9) tok Tryz.func130 rfl rfl rfl ?_;refine a8 (ag [] rfl ?_);refine a8 (ag [] rfl ?_);exact aI rtT
theorem aWk (l : List (Str × List C)) (s : Str) (hl : l.length ≤ 600000000000) : aV Tryz.prog 175 [.one (.c (.sl 1 (l.map aG2))), .one (.clo 130 [.vp 9 0])] [(9, suO s)] (I .i64 (aPz (fun p => decide (p.1 = s)) l 0)) [(9, suO s)] := by
 have hkl : (l.map aG2).length = l.length := length_map _;generalize hP : (fun p : Str × List C => decide (p.1 = s)) = P;refine bT (n := 19) tok Tryz.func175 rfl rfl rfl ?_;refine a8 (ag [] rfl ?_);refine a8 (a8 (ag [] rfl ?_));refine aC ?_;refine aL (fun i : Nat => mk [(0, .one (.c (.sl 1 (l.map aG2)))), (1, .one (.clo 130 [.vp 9 0])), (7, I .i64 ((l.map aG2).length : Int)), (8, I .i64 i)] [(9, suO s)]) (fun i => i ≤ l.length ∧ aPz P l 0 = aPz P (l.drop i) i) (fun i => l.length - i) 0 ⟨zero_le _, rfl⟩ sl ?_;intro i ⟨hi, hid⟩;refine a8 (ag [] rfl ?_);refine a8 (aA rfl (fun hb => ?_) (fun hb => ?_))
 ·have hlt := ltD hb hkl;obtain ⟨p, hp⟩ := aK hlt;have hp' := bO aG2 hp;have hc : aV Tryz.prog 130 ([.one (.c (.pt (.str p.1 :: p.2)))] ++ ([.vp 9 0] : List R).map V.one) [(9, suO s)] (B (P p)) [(9, suO s)] := by rw [← hP]; exact aSu p s
  have hdr : l.drop i = p :: l.drop (i + 1) := by rw [drop_eq_getElem_cons hlt, (List.getElem?_eq_some_iff.1 hp).2]
  rw [hdr, aPz] at hid;refine aD ?_;refine a8 (aC (a8 (ag [] rfl ?_)));refine a8 (aE mixed ?_);refine ak 5 [(3, .row i (aG2 p))] rfl ?_;refine kv (args := [.one (.c (.pt (.str p.1 :: p.2)))]) hc ?_;refine az ?_;refine aA rfl (fun hb => ?_) (fun hb => ?_)
  ·have hb : P p = true := hb;rw [if_pos hb] at hid;rw [hid];refine a8 (ag [] rfl ?_);exact aI rtT
  ·have hb : P p = false := hb;rw [if_neg (by rw [hb]; exact Bool.false_ne_true)] at hid;refine aD ?_;refine ag [] rfl ?_;exact ⟨i + 1, ⟨hlt, hid⟩, by dsimp only; omega, sl⟩
 have hge := geD hb hkl hi;subst hge;rw [drop_length, aPz] at hid;rw [hid];refine aO ?_;refine a8 (ag [] rfl ?_);exact aI (rtT (v := I .i64 (-1)) (hc := .refl))
theorem aWm (l : List (Str × List C)) (s : Str) (hl : l.length ≤ 600000000000) : aV Tryz.prog 129 [.one (.c (.sl 1 (l.map aG2))), .one (.clo 130 [.vp 9 0])] [(9, suO s)] (B (decide (s ∈ l.map (·.1)))) [(9, suO s)] := by
 have h := aWk l s hl;have hany : decide (s ∈ l.map (·.1)) = l.any fun p => decide (p.1 = s) := by
  rw [Bool.eq_iff_iff];simp only [decide_eq_true_eq, List.any_eq_true, mem_map]
 rw [hany, ← aJz _ l 0];refine bT (n := 9) tok Tryz.func129 rfl rfl rfl ?_;refine a8 (ag [] rfl ?_);refine a8 (aE mixed ?_);refine ak 2 [] rfl ?_;refine kc h ?_;refine ak 2 [] rfl ?_;refine az ?_;exact aI rtT
set_option maxHeartbeats 4000000
def n5 (f : Int) (s : Str) (o : List Str) (x : Str) : List Str := if ¬ f = 7 ∨ ¬ x = s then mR o [x] else o
def aAn (f : Int) (s : Str) (o l : List Str) : List Str := l.foldl (n5 f s) o
mutual
def tyR : Core → List Str
 | .mk f _ s t ks bs al => mZ al (mK bs (o9 f s ks (mR [] (tfR t))))
def o9 (f : Int) (s : Str) : List Core → List Str → List Str
 | [], o => o
 | c :: l, o => o9 f s l (aAn f s o (tyR c))
def mK : List Bind → List Str → List Str
 | [], o => o
 | .mk _ t c :: l, o => mK l (mR (mR o (tfR t)) (tyR c))
def mZ : List Alt → List Str → List Str
 | [], o => o
 | .mk _ _ _ _ c :: l, o => mZ l (mR o (tyR c))
def cT : Core → Nat
 | .mk _ _ _ t ks bs al => fw t + aYz ks + aY0 bs + aY1 al
def aYz : List Core → Nat
 | [] => 0
 | c :: l => cT c + aYz l
def aY0 : List Bind → Nat
 | [] => 0
 | .mk _ t c :: l => fw t + cT c + aY0 l
def aY1 : List Alt → Nat
 | [] => 0
 | .mk _ _ _ _ c :: l => cT c + aY1 l
end
theorem aHb (f : Int) (s : Str) (o : List Str) (x : Str) : (n5 f s o x).length ≤ o.length + 1 := by
 unfold n5; split
 ·exact qA o [x]
 ·omega
theorem aCx (f : Int) (s : Str) : ∀ (l o : List Str), (aAn f s o l).length ≤ o.length + l.length
 | [], o => le_refl _
 | x :: l, o => by
  have h1 := aCx f s l (n5 f s o x);have h2 := aHb f s o x;show (aAn f s (n5 f s o x) l).length ≤ _;rw [length_cons]; omega
theorem aCn {f : Int} {s : Str} : ∀ {l : List Core} {o : List Str} {i : Nat} {c : Core}, l[i]? = some c → o9 f s (l.take (i + 1)) o = aAn f s (o9 f s (l.take i) o) (tyR c)
 | d :: l, o, 0, c, h => by simp at h; subst h; rw [take_succ_cons, take_zero, take_zero, o9, o9, o9]
 | d :: l, o, i + 1, c, h => by rw [take_succ_cons, take_succ_cons, o9, o9]; exact aCn (l := l) (by simpa using h)
theorem aCp : ∀ {l : List Bind} {o : List Str} {i : Nat} {b : Bind}, l[i]? = some b → mK (l.take (i + 1)) o = mR (mR (mK (l.take i) o) (tfR b.ty)) (tyR b.body)
 | .mk s t c :: l, o, 0, b, h => by simp at h; subst h; rw [take_succ_cons, take_zero, take_zero, mK, mK, mK]; rfl
 | .mk s t c :: l, o, i + 1, b, h => by rw [take_succ_cons, take_succ_cons, mK, mK]; exact aCp (l := l) (by simpa using h)
theorem aCr : ∀ {l : List Alt} {o : List Str} {i : Nat} {a : Alt}, l[i]? = some a → mZ (l.take (i + 1)) o = mR (mZ (l.take i) o) (tyR a.body)
 | .mk f n s v c :: l, o, 0, a, h => by simp at h; subst h; rw [take_succ_cons, take_zero, take_zero, mZ, mZ, mZ]; rfl
 | .mk f n s v c :: l, o, i + 1, a, h => by rw [take_succ_cons, take_succ_cons, mZ, mZ]; exact aCr (l := l) (by simpa using h)
theorem aHi {f : Int} {s : Str} {o l : List Str} {j : Nat} {x : Str} (h : l[j]? = some x) : aAn f s o (l.take (j + 1)) = n5 f s (aAn f s o (l.take j)) x := by
 unfold aAn; rw [take_add_one, h, foldl_append]; rfl
theorem aRx (o : List Str) (s : Str) : o.length ≤ (rH o s).length := by
 unfold rH; split
 ·exact le_refl _
 ·simp
theorem rG : ∀ (l o : List Str), o.length ≤ (mR o l).length
 | [], o => le_refl _
 | x :: l, o => le_trans (aRx o x) (rG l (rH o x))
theorem aHk (f : Int) (s : Str) : ∀ (l o : List Str), o.length ≤ (aAn f s o l).length
 | [], o => le_refl _
 | x :: l, o => by
  refine le_trans ?_ (aHk f s l (n5 f s o x));unfold n5; split
  ·exact rG [x] o
  ·exact le_refl _
theorem aO5 (f : Int) (s : Str) : ∀ (l : List Core) (o : List Str), o.length ≤ (o9 f s l o).length
 | [], o => by rw [o9]; exact le_refl _
 | c :: l, o => by rw [o9]; exact le_trans (aHk f s _ o) (aO5 f s l _)
theorem aHa : ∀ (l : List Bind) (o : List Str), o.length ≤ (mK l o).length
 | [], o => by rw [mK]; exact le_refl _
 | .mk s t c :: l, o => by rw [mK]; exact le_trans (le_trans (rG _ o) (rG _ _)) (aHa l _)
theorem aCs : ∀ (l : List Alt) (o : List Str), o.length ≤ (mZ l o).length
 | [], o => by rw [mZ]; exact le_refl _
 | .mk f n s v c :: l, o => by rw [mZ]; exact le_trans (rG _ o) (aCs l _)
theorem aCm (f : Int) (s : Str) : ∀ (l : List Core) (o : List Str) (i : Nat), (o9 f s (l.take i) o).length ≤ (o9 f s l o).length
 | [], o, i => by rw [List.take_nil]; exact le_refl _
 | c :: l, o, 0 => by rw [take_zero, o9]; exact aO5 f s _ o
 | c :: l, o, i + 1 => by rw [take_succ_cons, o9, o9]; exact aCm f s l _ i
theorem aCo : ∀ (l : List Bind) (o : List Str) (i : Nat), (mK (l.take i) o).length ≤ (mK l o).length
 | [], o, i => by rw [List.take_nil]; exact le_refl _
 | .mk s t c :: l, o, 0 => by rw [take_zero]; rw [show mK [] o = o from by rw [mK]]; exact aHa _ o
 | .mk s t c :: l, o, i + 1 => by rw [take_succ_cons, mK, mK]; exact aCo l _ i
theorem aCq : ∀ (l : List Alt) (o : List Str) (i : Nat), (mZ (l.take i) o).length ≤ (mZ l o).length
 | [], o, i => by rw [List.take_nil]; exact le_refl _
 | .mk f n s v c :: l, o, 0 => by rw [take_zero]; rw [show mZ [] o = o from by rw [mZ]]; exact aCs _ o
 | .mk f n s v c :: l, o, i + 1 => by rw [take_succ_cons, mZ, mZ]; exact aCq l _ i
mutual
def tyM : Core → Nat
 | .mk f n s t ks bs al => max (fw t) (max (tyR (.mk f n s t ks bs al)).length (max (aO6 ks) (max (aHe bs) (aMm al))))
def aO6 : List Core → Nat
 | [] => 0
 | c :: l => max (tyM c) (aO6 l)
def aHe : List Bind → Nat
 | [] => 0
 | .mk _ t c :: l => max (fw t) (max (tyM c) (aHe l))
def aMm : List Alt → Nat
 | [] => 0
 | .mk _ _ _ _ c :: l => max (tyM c) (aMm l)
end
theorem aTw {f n : Int} {s : Str} {t : Ty} {ks : List Core} {bs : List Bind} {al : List Alt} {K : Nat} (h : tyM (.mk f n s t ks bs al) ≤ K) : fw t ≤ K ∧ (tyR (.mk f n s t ks bs al)).length ≤ K ∧ aO6 ks ≤ K ∧ aHe bs ≤ K ∧ aMm al ≤ K := by
 rw [tyM] at h; omega
theorem aHg (c : Core) : (tyR c).length ≤ tyM c := by cases c; rw [tyM]; omega
theorem aCt : ∀ {l : List Core} {c : Core}, c ∈ l → tyM c ≤ aO6 l
 | d :: l, c, h => by
  rw [aO6];rcases mem_cons.1 h with rfl | h
  ·omega
  ·have := aCt h; omega
theorem aCu : ∀ {l : List Bind} {b : Bind}, b ∈ l → fw b.ty ≤ aHe l ∧ tyM b.body ≤ aHe l
 | .mk s t c :: l, b, h => by
  rw [aHe];rcases mem_cons.1 h with rfl | h
  ·show fw t ≤ _ ∧ tyM c ≤ _; omega
  ·have := aCu h; omega
theorem aCv : ∀ {l : List Alt} {a : Alt}, a ∈ l → tyM a.body ≤ aMm l
 | .mk f n s v c :: l, a, h => by
  rw [aMm];rcases mem_cons.1 h with rfl | h
  ·show tyM c ≤ _; omega
  ·have := aCv h; omega
def aB7 (c : Core) : Prop := b6 c ≤ 570000000000 → tyM c ≤ 400000000 → aV Tryz.prog 61 [.pa (aB c)] [] (bU (tyR c)) []
theorem wY (c : Core) (ih : ∀ x, b6 x < b6 c → aB7 x) : aB7 c := by
 intro hsz hcT;obtain ⟨f, n, s, t, ks, bs, al⟩ := c;obtain ⟨ihk, ihb, iha, hkl, hbl, hal⟩ := @mM f n s t ks bs al;obtain ⟨hMt, hMr, hMk, hMb, hMa⟩ := aTw hcT;rw [tyR] at hMr ⊢;have hkB : (aR bs).length = bs.length := by rw [bP, length_map]
 have hkK : (aQ ks).length = ks.length := by rw [bG, length_map]
 have hkA : (cB al).length = al.length := by rw [bI, length_map]
 have htf := aE1 t (by omega);have htl := aVw t;have hmo : aV Tryz.prog 124 [.one (.c .nl), bU (tfR t)] [] (ouV (mR [] (tfR t))) [(500, ouO (mR [] (tfR t)))] := aV.nilArg (pre := []) (post := [bU (tfR t)]) (hin := []) (uH [] (tfR t) (by simp; omega)) rfl;have hol := qA [] (tfR t);simp only [length_nil] at hol;generalize mR [] (tfR t) = o0 at hmo hol hMr ⊢;refine bT (n := 76) tok Tryz.func61 rfl rfl rfl ?_;refine a8 (ag [] rfl ?_);refine a8 (aE mixed ?_);refine ak 2 [] rfl ?_;refine kc htf ?_;refine kc hmo ?_;refine ak 1 [] rfl ?_;refine az ?_;refine a8 (a8 (ag [] rfl ?_));refine aC ?_;refine aL (fun i : Nat => mk [(1, .one (.vp 1 0)), (3, ouV (o9 f s (ks.take i) o0)), (17, .one (.c (.sl 10 (aQ ks)))), (18, I .i64 ((aQ ks).length : Int)), (19, I .i64 i)] [(500, ouO (o9 f s (ks.take i) o0)), (1, .var 37 (bD (.mk f n s t ks bs al)))]) (fun i => i ≤ ks.length) (fun i => ks.length - i) 0 (zero_le _) sl ?_;intro i hi;have hl1 : (o9 f s (ks.take i) o0).length ≤ 400000000 := le_trans (aCm f s ks o0 i) (le_trans (aHa bs _) (le_trans (aCs al _) hMr));refine a8 (ag [] rfl ?_);refine a8 (aA rfl (fun hb => ?_) (fun hb => ?_))
 ·have hlt := ltD hb hkK;obtain ⟨k, hki⟩ := aK hlt;have hki' := iQ hki;have hm := List.mem_of_getElem? hki;have hkm := aCt hm;have hc := ih k (ihk k hm) (by have := ihk k hm; omega) (by omega);have hkt : (tyR k).length ≤ 400000000 := by have := aHg k; omega
  have hst := aCn (f := f) (s := s) (o := o0) hki;generalize o9 f s (ks.take i) o0 = o at hst hl1 ⊢;have hkf : ((tyR k).map bM).length = (tyR k).length := length_map _;generalize tyR k = fk at hc hkt hst hkf;refine aD ?_;refine a8 (aC (a8 (ag [(0, .row i (aB k))] rfl ?_)));refine a8 (aE mixed ?_);refine ak 1 [] rfl ?_;refine kc hc ?_;refine ak 2 [] rfl ?_;refine az ?_;refine aC ?_;refine aL (fun j : Nat => mk [(1, .one (.vp 1 0)), (3, ouV (aAn f s o (fk.take j))), (17, .one (.c (.sl 10 (aQ ks)))), (18, I .i64 ((aQ ks).length : Int)), (19, I .i64 i), (24, bU fk), (25, I .i64 ((fk.map bM).length : Int)), (26, I .i64 j)] [(500, ouO (aAn f s o (fk.take j))), (1, .var 37 (bD (.mk f n s t ks bs al)))]) (fun j => j ≤ fk.length) (fun j => fk.length - j) 0 (zero_le _) sl ?_;intro j hj;refine a8 (ag [] rfl ?_);refine a8 (aA rfl (fun hb => ?_) (fun hb => ?_))
  ·have hlj := ltD hb hkf;obtain ⟨x, hx⟩ := aK hlj;have hx' := bO bM hx;have hsn := aHi (f := f) (s := s) (o := o) hx;have hpl := aCx f s (fk.take j) o;rw [length_take] at hpl;generalize aAn f s o (fk.take j) = q at hsn hpl ⊢;have hmq := uH q [x] (by simp; omega);refine aD ?_;refine a8 (aC (a8 (ag [(0, .row j (bM x))] rfl ?_)));refine a8 (agF 4 [] rfl rfl rfl ?_);refine aA rfl (fun hb => ?_) (fun hb => ?_)
   ·have hb' : ¬ f = 7 ∨ ¬ x = s := by
     by_cases h7 : f = 7
     ·refine .inr fun hxs => ?_
      subst h7 hxs;have hb2 : (bif !decide ((7 : Int) = 7) then true else !decide (x = x)) = true := hb;simp at hb2
     ·exact .inl h7
    rw [n5, if_pos hb'] at hsn;refine aE mixed ?_;refine ak 3 [(2, .all)] rfl ?_;refine kc hmq ?_;refine ak 1 [] rfl ?_;refine az ?_;refine ag [] rfl ?_;refine ⟨j + 1, hlj, by dsimp only; omega, ?_⟩;dsimp only;rw [hsn];exact sl
   ·have hb' : ¬ (¬ f = 7 ∨ ¬ x = s) := by
     intro h;by_cases h7 : f = 7
     ·have hxs := h.resolve_left (fun h => h h7);subst h7;simp at hb;exact hxs hb.2
     ·simp at hb;exact h7 hb.1
    rw [n5, if_neg hb'] at hsn;refine aD ?_;refine ag [] rfl ?_;refine ⟨j + 1, hlj, by dsimp only; omega, ?_⟩;dsimp only;rw [hsn];exact sl
  have hge := geD hb hkf hj;subst hge;rw [take_length];refine aO ?_;refine ag [] rfl ?_;refine ⟨i + 1, hlt, by dsimp only; omega, ?_⟩;dsimp only;rw [hst];exact sl
 have hge := geD hb hkK hi;subst hge;rw [take_length] at hl1 ⊢;generalize o9 f s ks o0 = o1 at hl1 hMr ⊢;refine aO ?_;refine a8 (a8 (ag [] rfl ?_));refine aC ?_;refine aL (fun i : Nat => mk [(1, .one (.vp 1 0)), (3, ouV (mK (bs.take i) o1)), (46, .one (.c (.sl 15 (aR bs)))), (47, I .i64 ((aR bs).length : Int)), (48, I .i64 i)] [(500, ouO (mK (bs.take i) o1)), (1, .var 37 (bD (.mk f n s t ks bs al)))]) (fun i => i ≤ bs.length) (fun i => bs.length - i) 0 (zero_le _) sl ?_;intro i hi;have hl3 : (mK (bs.take i) o1).length ≤ 400000000 := le_trans (aCo bs o1 i) (le_trans (aCs al _) hMr);refine a8 (ag [] rfl ?_);refine a8 (aA rfl (fun hb => ?_) (fun hb => ?_))
 ·have hlt := ltD hb hkB;obtain ⟨b, hbi⟩ := aK hlt;have hbi' := dG hbi;have hm := List.mem_of_getElem? hbi;have hbm := aCu hm;have hc := ih b.body (ihb b hm) (by have := ihb b hm; omega) (by omega);have hst := aCp (o := o1) hbi;obtain ⟨s', t', c'⟩ := b;have hbm : fw t' ≤ aHe bs ∧ tyM c' ≤ aHe bs := hbm;have hc : aV Tryz.prog 61 [.pa (aB c')] [] (bU (tyR c')) [] := hc;have hst : mK (bs.take (i + 1)) o1 = mR (mR (mK (bs.take i) o1) (tfR t')) (tyR c') := hst;have hf' := aE1 t' (by omega);have g1 := aVw t';have g2 : (tyR c').length ≤ 400000000 := by have := aHg c'; omega
  generalize mK (bs.take i) o1 = o at hst hl3 ⊢;have g3 := qA o (tfR t');have m1 := uH o (tfR t') (by omega);have m2 := uH (mR o (tfR t')) (tyR c') (by omega);refine aD ?_;refine a8 (aC (a8 (ag [(0, .row i (bA (.mk s' t' c')))] rfl ?_)));refine aE mixed ?_;refine ak 3 [] rfl ?_;refine kc hf' ?_;refine kc m1 ?_;refine ak 2 [] rfl ?_;refine kc hc ?_;refine kc m2 ?_;refine ak 1 [] rfl ?_;refine az ?_;refine ag [] rfl ?_;refine ⟨i + 1, hlt, by dsimp only; omega, ?_⟩;dsimp only;rw [hst];exact sl
 have hge := geD hb hkB hi;subst hge;rw [take_length] at hl3 ⊢;generalize mK bs o1 = o2 at hl3 hMr ⊢;refine aO ?_;refine a8 (a8 (ag [] rfl ?_));refine aC ?_;refine aL (fun i : Nat => mk [(3, ouV (mZ (al.take i) o2)), (63, .one (.c (.sl 14 (cB al)))), (64, I .i64 ((cB al).length : Int)), (65, I .i64 i)] [(500, ouO (mZ (al.take i) o2))]) (fun i => i ≤ al.length) (fun i => al.length - i) 0 (zero_le _) sl ?_;intro i hi;have hl5 : (mZ (al.take i) o2).length ≤ 400000000 := le_trans (aCq al o2 i) hMr;refine a8 (ag [] rfl ?_);refine a8 (aA rfl (fun hb => ?_) (fun hb => ?_))
 ·have hlt := ltD hb hkA;obtain ⟨a, hai⟩ := aK hlt;have hai' := uC hai;have hm := List.mem_of_getElem? hai;have ham := aCv hm;have hc := ih a.body (iha a hm) (by have := iha a hm; omega) (by omega);have hst := aCr (o := o2) hai;obtain ⟨f', n', s', v', c'⟩ := a;have ham : tyM c' ≤ aMm al := ham;have hc : aV Tryz.prog 61 [.pa (aB c')] [] (bU (tyR c')) [] := hc;have hst : mZ (al.take (i + 1)) o2 = mR (mZ (al.take i) o2) (tyR c') := hst;have g2 : (tyR c').length ≤ 400000000 := by have := aHg c'; omega
  generalize mZ (al.take i) o2 = o at hst hl5 ⊢;have m2 := uH o (tyR c') (by omega);refine aD ?_;refine a8 (aC (a8 (ag [(0, .row i (dQ (.mk f' n' s' v' c')))] rfl ?_)));refine aE mixed ?_;refine ak 3 [] rfl ?_;refine kc hc ?_;refine kc m2 ?_;refine ak 1 [] rfl ?_;refine az ?_;refine ag [] rfl ?_;refine ⟨i + 1, hlt, by dsimp only; omega, ?_⟩;dsimp only;rw [hst];exact sl
 have hge := geD hb hkA hi;subst hge;rw [take_length] at hl5 ⊢;refine aO ?_;refine AWp.sub (Sub.freeze (id := 500) rfl) ?_;refine a8 (ag [] rfl ?_);exact aI (rtT (hc := hs_all rfl rfl (by simp) rfl))
theorem zH : ∀ (n : Nat) (c : Core), b6 c ≤ n → aB7 c
 | 0, c, h => by have := fI c; omega
 | n + 1, c, h => wY c fun x hx => zH n x (by omega)
mutual
noncomputable def l7 : Ty → List (Str × Ty) → Ty
 | .mk f n s a, ps =>
  if f = 2 then (match ps.find? (fun p => decide (p.1 = s)) with | some p => p.2 | none => .mk f n s a)
  else if f = 4 then .mk 4 0 [] (fZ a ps)
  else if f = 5 then .mk 5 0 (unN s (a.headD zTy) ps) (fZ a (unP s (a.headD zTy) ps))
  else .mk f n s a
noncomputable def fZ : List Ty → List (Str × Ty) → List Ty
 | [], _ => []
 | t :: l, ps => l7 t ps :: fZ l ps
end
structure PsOk (ps : List (Str × Ty)) : Prop where
 nd : (ps.map (·.1)).Nodup
 ok : ∀ p ∈ ps, wfS p.2 = true ∧ fvm p.2 ≤ 700000
 len : ps.length ≤ 700000 + 1
theorem aKj : ∀ {ps : List (Str × Ty)} {s : Str} {u : Ty}, (ps.map (·.1)).Nodup → (s, u) ∈ ps → ps.find? (fun p => decide (p.1 = s)) = some (s, u)
 | p :: ps, s, u, hn, h => by
  rw [map_cons, nodup_cons] at hn;rcases mem_cons.1 h with h | h
  ·subst h;rw [List.find?_cons_of_pos (by simp)]
  ·have : ¬ p.1 = s := fun e => hn.1 (mem_map.2 ⟨_, h, e.symm⟩)
   rw [List.find?_cons_of_neg (by simpa using this)];exact aKj hn.2 h
theorem nT {ps : List (Str × Ty)} {s : Str} (h : ¬ s ∈ ps.map (·.1)) : ps.find? (fun p => decide (p.1 = s)) = none := by
 rw [List.find?_eq_none];intro p hp hb;exact h (mem_map.2 ⟨p, hp, by simpa using hb⟩)
theorem iW : ∀ (a b : List Str), a.Nodup → (∀ x ∈ a, x ∈ b) → a.length ≤ b.length := by
 intro a
 induction a with
 | nil => intro b _ _; simp
 | cons x a ih =>
  intro b hn hs;rw [nodup_cons] at hn;have h1 := ih (b.erase x) hn.2 fun y hy => (List.mem_erase_of_ne (by rintro rfl; exact hn.1 hy)).2 (hs y (mem_cons_of_mem _ hy))
  have hx := hs x mem_cons_self;rw [List.length_erase_of_mem hx] at h1;have := List.length_pos_of_mem hx;rw [length_cons]; omega
theorem aO4 {nm : Str} {body : Ty} {ps : List (Str × Ty)} (h : (ps.map (·.1)).Nodup) : ((unF nm body ps).map (·.1)).Nodup := List.Sublist.nodup ((List.filter_sublist (l := ps)).map _) h
theorem iF {nm : Str} {body : Ty} {ps : List (Str × Ty)} {p : Str × Ty} : p ∈ unF nm body ps ↔ p ∈ ps ∧ ¬ p.1 = nm ∧ p.1 ∈ tfR body := by
 unfold unF;rw [mem_filter, Bool.and_eq_true];simp
theorem aAl {nm : Str} {body : Ty} {ps : List (Str × Ty)} (h : (ps.map (·.1)).Nodup) : (unF nm body ps).length ≤ (tfR body).length := by
 have := iW _ (tfR body) (aO4 (nm := nm) (body := body) h) fun x hx => by
  obtain ⟨p, hp, rfl⟩ := mem_map.1 hx;exact (iF.1 hp).2.2
 rwa [length_map] at this
theorem pN : ∀ {l : List (Str × Ty)}, (∀ p ∈ l, fvm p.2 ≤ 700000) → (unC l).length ≤ l.length * 700000
 | [], _ => by simp [unC]
 | p :: l, h => by
  have h1 := pN (l := l) fun q hq => h q (mem_cons_of_mem _ hq)
  have h2 := h p mem_cons_self;have h3 := nQ p.2;unfold unC at h1 ⊢;rw [flatMap_cons, length_append, length_cons, Nat.succ_mul];omega
theorem aKe {n : Int} {z : Str} : fvm (.mk 2 n z []) = 1 := by
 rw [fvm, tfR, if_pos rfl, aKd]; rfl
theorem aG7 {n : Int} {z : Str} : wfS (.mk 2 n z []) = true := by
 rw [wfS, if_neg (by decide), if_neg (by decide), aAk]; rfl
theorem PsOk.un {ps : List (Str × Ty)} (h : PsOk ps) (nm : Str) (body : Ty) (hb : fvm body ≤ 700000) : PsOk (unP nm body ps) := by
 have h1 := aO4 (nm := nm) (body := body) h.nd;have h2 := aAl (nm := nm) (body := body) h.nd;have h3 := nQ body;have h4 : ∀ p ∈ unF nm body ps, wfS p.2 = true ∧ fvm p.2 ≤ 700000 := fun p hp => h.ok p (iF.1 hp).1
 unfold unP;split
 ·refine ⟨?_, fun p hp => ?_, by rw [length_append]; show _ + 1 ≤ _; omega⟩
  ·rw [map_append, nodup_append];refine ⟨h1, by simp, fun x hx y hy => ?_⟩;have hy : y = nm := by simpa using hy
   obtain ⟨p, hp, rfl⟩ := mem_map.1 hx;rw [hy];exact (iF.1 hp).2.1
  ·rcases mem_append.1 hp with hp | hp
   ·exact h4 p hp
   ·rw [mem_singleton.1 hp];exact ⟨aG7, by show fvm (.mk 2 0 _ []) ≤ _; rw [aKe]; decide⟩
 ·exact ⟨h1, h4, by omega⟩
theorem aQg (hI : dP 540000000000) : ∀ (k : Nat) (t : Ty), tn t ≤ k → wfS t = true → fvm t ≤ 700000 → ∀ ps, PsOk ps → wfS (l7 t ps) = true ∧ aV Tryz.prog 65 [tyV t, bU (ps.map (·.1)), aTe (ps.map (·.2))] [] (tyV (l7 t ps)) [] := by
 intro k
 induction k with
 | zero => intro t h; have := mD t; omega
 | succ k ih =>
 intro t h hw hf ps hps;obtain ⟨f, n, s, a⟩ := t;have hown := wU (tn (.mk f n s a)) (.mk f n s a) (le_refl _) hw;obtain ⟨_, hwa, w4, w5, w0⟩ := qO hw;have hfa : ∀ u ∈ a, fvm u ≤ 700000 := fun u hu => le_trans (wI hu) hf
 rw [tn] at h;rw [l7];by_cases h2 : f = 2
 ·subst h2;rw [if_pos rfl];have hix := aLb (ps.map (·.1)) s (by rw [length_map]; have := hps.len; omega);rcases uA s (ps.map (·.1)) 0 with ⟨i, e1, e2⟩ | ⟨e1, e2⟩
  ·rw [List.getElem?_map] at e2;obtain ⟨⟨s', u⟩, hu, e3⟩ := Option.map_eq_some_iff.1 e2;have e3 : s' = s := e3;subst e3;have hm := List.mem_of_getElem? hu;have hu' : ((ps.map (·.2)).map bB)[i]? = some (bB u) := bO bB (by rw [List.getElem?_map, hu]; rfl);obtain ⟨g2, g3⟩ := hps.ok _ hm;have ho := wU (tn u) u (le_refl _) g2;rw [e1, Int.zero_add] at hix;rw [aKj hps.nd hm];refine ⟨g2, ?_⟩;dsimp only;refine bT (n := 48) tok Tryz.func65 rfl rfl rfl ?_;refine a8 (ag [] rfl ?_);refine a8 (a8 (ag [] rfl ?_));refine aC (a8 (ag [] rfl ?_));refine aA rfl (fun _ => ?_) (fun hb => by cases hb);refine a8 (aE mixed ?_);refine ak 3 [] rfl ?_;refine kc hix ?_;refine ak 1 [] rfl ?_;refine az ?_;refine a8 (ag [] rfl ?_);refine aA rfl (fun _ => ?_) (fun hb => absurd (of_decide_eq_false hb) (by omega));refine a8 (aE mixed ?_);refine ak 4 [(2, .row i (bB u))] rfl ?_;refine kc ho ?_;refine ak 1 [] rfl ?_;refine az ?_;exact aI (rtC trw)
  ·rw [e2] at hix;rw [nT e1];refine ⟨hw, ?_⟩;dsimp only;refine bT (n := 48) tok Tryz.func65 rfl rfl rfl ?_;refine a8 (ag [] rfl ?_);refine a8 (a8 (ag [] rfl ?_));refine aC (a8 (ag [] rfl ?_));refine aA rfl (fun _ => ?_) (fun hb => by cases hb);refine a8 (aE mixed ?_);refine ak 3 [] rfl ?_;refine kc hix ?_;refine ak 1 [] rfl ?_;refine az ?_;refine a8 (ag [] rfl ?_);refine aA rfl (fun hb => absurd (of_decide_eq_true hb) (by omega)) (fun _ => ?_);refine aD ?_;refine a8 (aE mixed ?_);refine ak 1 [] rfl ?_;refine kc hown ?_;refine ak 1 [] rfl ?_;refine az ?_;exact aI (rtC trw)
 rw [if_neg h2];by_cases h4 : f = 4
 ·subst h4;obtain ⟨rfl, rfl, u, v, rfl⟩ := w4 rfl;rw [tns, tns, tns] at h;obtain ⟨a1, a4⟩ := ih u (by omega) (hwa u (by simp)) (hfa u (by simp)) ps hps;obtain ⟨b1, b4⟩ := ih v (by omega) (hwa v (by simp)) (hfa v (by simp)) ps hps;rw [if_pos rfl, fZ, fZ, fZ];have cA := aOf (l7 u ps) (l7 v ps);generalize l7 u ps = u' at *;generalize l7 v ps = v' at *;have cA : aV Tryz.prog 127 [tyV u', tyV v'] [] (tyV (.mk 4 0 [] [u', v'])) [] := cA;refine ⟨?_, ?_⟩
  ·rw [wfS, if_pos rfl, aAk, aAk, aAk, a1, b1]; rfl
  ·refine bT (n := 48) tok Tryz.func65 rfl rfl rfl ?_;refine a8 (ag [] rfl ?_);refine a8 (a8 (ag [] rfl ?_));refine aC (a8 (ag [] rfl ?_));refine aA rfl (fun hb => by cases hb) (fun _ => ?_);refine a8 (ag [] rfl ?_);refine aA rfl (fun _ => ?_) (fun hb => by cases hb);refine a8 (aE mixed ?_);refine ak 6 [(2, .row 0 (bB u))] rfl ?_;refine kc a4 ?_;refine ak 6 [(9, .row 1 (bB v))] rfl ?_;refine kc b4 ?_;refine kc cA ?_;refine ak 1 [] rfl ?_;refine az ?_;exact aI (rtC trw)
 rw [if_neg h4];by_cases h5 : f = 5
 ·subst h5;obtain ⟨rfl, body, rfl⟩ := w5 rfl;rw [tns, tns] at h;have hwb := hwa body (by simp);have hfb := hfa body (by simp);have hP := hps.un s body hfb;obtain ⟨a1, a4⟩ := ih body (by omega) hwb hfb (unP s body ps) hP;rw [if_pos rfl];show wfS (.mk 5 0 (unN s body ps) (fZ [body] (unP s body ps))) = true ∧ aV Tryz.prog _ _ _ (tyV (.mk 5 0 (unN s body ps) (fZ [body] (unP s body ps)))) _;rw [fZ, fZ];have hall := aSn (unN s body ps) (l7 body (unP s body ps)) (wU _ _ (le_refl _) a1);have hfl := nQ body;have hCl : ∀ l : List (Str × Ty), (∀ p ∈ l, p ∈ ps) → l.length ≤ ps.length → (unC (unF s body l)).length ≤ 540000000000 := fun l h1 h2 => by
   have h3 := pN (l := unF s body l) fun p hp => (hps.ok p (h1 p (iF.1 hp).1)).2
   have h4 : (unF s body l).length ≤ l.length := List.length_filter_le _ _;have h5 := hps.len;have h6 : (unF s body l).length * 700000 ≤ (700000 + 1) * 700000 := mul_le_mul_right _ (by omega);have h7 : (700000 + 1) * 700000 ≤ 540000000000 := by decide
   omega
  have hC1 := hCl ps (fun p hp => hp) (le_refl _);have hU : (unC (unF s body ps)).length + (tfR body).length ≤ 540000000000 := by
   have h3 := pN (l := unF s body ps) fun p hp => (hps.ok p (iF.1 hp).1).2
   have h4 := aAl (nm := s) (body := body) hps.nd;have h6 : (unF s body ps).length * 700000 ≤ 700000 * 700000 := mul_le_mul_right _ (by omega);have h7 : 700000 * 700000 = 490000000000 := by decide
   omega
  have cU := aOe s body (l7 body (unP s body ps)) ps (by have := hps.len; omega) (o4 _ body (le_refl _) hwb (le_trans hfb (by decide))) (by omega) hall
   (fun p hp => ⟨o4 _ p.2 (le_refl _) (hps.ok p hp).1 (le_trans (hps.ok p hp).2 (by decide)), le_trans (nQ p.2) (le_trans (hps.ok p hp).2 (by decide))⟩)
   ⟨hC1, fun i => hCl (ps.take i) (fun p hp => mem_of_mem_take hp) (by rw [length_take]; omega)⟩ (fun k hk => hI k (by omega)) a4
  generalize l7 body (unP s body ps) = b' at *;generalize unN s body ps = N at *;refine ⟨?_, ?_⟩
  ·rw [wfS, if_neg (by decide), if_pos rfl, aAk, aAk, a1]; rfl
  ·refine bT (n := 48) tok Tryz.func65 rfl rfl rfl ?_;refine a8 (ag [] rfl ?_);refine a8 (a8 (ag [] rfl ?_));refine aC (a8 (ag [] rfl ?_));refine aA rfl (fun hb => by cases hb) (fun _ => ?_);refine a8 (ag [] rfl ?_);refine aA rfl (fun hb => by cases hb) (fun _ => ?_);refine a8 (ag [] rfl ?_);refine aA rfl (fun _ => ?_) (fun hb => by cases hb);refine a8 (aE mixed ?_);refine ak 3 [] rfl ?_;refine kc cU ?_;refine ak 1 [] rfl ?_;refine az ?_;exact aI (rtC trw)
 rw [if_neg h5];refine ⟨hw, ?_⟩;refine bT (n := 48) tok Tryz.func65 rfl rfl rfl ?_;refine a8 (ag [] rfl ?_);refine a8 (a8 (ag [] rfl ?_));refine aC (a8 (ag [] rfl ?_));refine aA rfl (fun hb => absurd (of_decide_eq_true hb) h2) (fun _ => ?_);refine a8 (ag [] rfl ?_);refine aA rfl (fun hb => absurd (of_decide_eq_true hb) h4) (fun _ => ?_);refine a8 (ag [] rfl ?_);refine aA rfl (fun hb => absurd (of_decide_eq_true hb) h5) (fun _ => ?_);refine aD ?_;refine a8 (aE mixed ?_);refine ak 1 [] rfl ?_;refine kc hown ?_;refine ak 1 [] rfl ?_;refine az ?_;exact aI (rtC trw)
theorem aMk {nm : Str} {body : Ty} {ps : List (Str × Ty)} (h : ∀ p ∈ ps, p.1 ∈ tfR body → p.1 = nm) : unN nm body ps = nm ∧ unP nm body ps = [] := by
 have hF : unF nm body ps = [] := by
  unfold unF;rw [List.filter_eq_nil_iff];intro p hp hb;rw [Bool.and_eq_true] at hb;have h1 : ¬ p.1 = nm := by simpa using hb.1
  exact h1 (h p hp (of_decide_eq_true hb.2))
 have hC : unC (unF nm body ps) = [] := by rw [hF]; rfl
 exact ⟨by unfold unN; rw [hC, if_neg (by simp)], by unfold unP; rw [hC, if_neg (by simp), hF]⟩
theorem aAo : ∀ (k : Nat) (t : Ty), tn t ≤ k → wfS t = true → ∀ ps : List (Str × Ty), (∀ p ∈ ps, ¬ p.1 ∈ tfR t) → l7 t ps = t := by
 intro k
 induction k with
 | zero => intro t h; have := mD t; omega
 | succ k ih =>
 intro t h hw ps hp;obtain ⟨f, n, s, a⟩ := t;obtain ⟨_, hwa, w4, w5, w0⟩ := qO hw;rw [tn] at h;rw [l7];by_cases h2 : f = 2
 ·subst h2
  rw [if_pos rfl, nT fun hs => by
   obtain ⟨p, hp1, e⟩ := mem_map.1 hs
   exact hp p hp1 (by rw [tfR, if_pos rfl, e]; simp)]
 rw [if_neg h2];by_cases h4 : f = 4
 ·subst h4;obtain ⟨rfl, rfl, u, v, rfl⟩ := w4 rfl;rw [tns, tns, tns] at h;rw [if_pos rfl, fZ, fZ, fZ, ih u (by omega) (hwa u (by simp)) ps fun p hp1 hx => hp p hp1 (aQ8 hx), ih v (by omega) (hwa v (by simp)) ps fun p hp1 hx => hp p hp1 (aQ7 hx)]
 rw [if_neg h4];by_cases h5 : f = 5
 ·subst h5;obtain ⟨rfl, body, rfl⟩ := w5 rfl;rw [tns, tns] at h;obtain ⟨e1, e2⟩ := aMk (nm := s) (body := body) (ps := ps) fun p hp1 hx => Classical.byContradiction fun hne => hp p hp1 (aT5 hx hne)
  rw [if_pos rfl];show Ty.mk 5 0 (unN s body ps) (fZ [body] (unP s body ps)) = _;rw [e1, e2, fZ, fZ, ih body (by omega) (hwa body (by simp)) [] fun p hp1 => by cases hp1]
 rw [if_neg h5]
theorem aK1 (hI : dP 540000000000) (t : Ty) (hw : wfS t = true) (hf : fvm t ≤ 700000) : aV Tryz.prog 116 [tyV t] [] (tyV t) [] := by
 have h4 := (aQg hI (tn t) t (le_refl _) hw hf [] ⟨by simp, fun p hp => (by cases hp), by simp⟩).2
 rw [aAo (tn t) t (le_refl _) hw [] fun p hp => by cases hp] at h4;refine bT (n := 5) tok Tryz.func116 rfl rfl rfl ?_;refine a8 (ag [] rfl ?_);refine a8 (aE mixed ?_);refine ak 1 [] rfl ?_;refine kc h4 ?_;refine ak 1 [] rfl ?_;refine az ?_;exact aI (rtC trw)
theorem aHw {f : Int} {s : Str} {o : List Str} {x y : Str} (h : y ∈ gP f s o x) : y ∈ o ∨ (y = x ∧ (¬ f = 5 ∨ ¬ x = s)) := by
 unfold gP at h;split at h
 ·rename_i hx;rcases mem_append.1 h with h | h
  ·exact .inl h
  ·exact .inr ⟨mem_singleton.1 h, hx.2⟩
 ·exact .inl h
theorem aC7 {f : Int} {s : Str} : ∀ {l o : List Str} {y : Str}, y ∈ sS f s o l → y ∈ o ∨ (y ∈ l ∧ (¬ f = 5 ∨ ¬ y = s))
 | [], _, _, h => .inl h
 | x :: l, o, y, h => by
  rcases aC7 (l := l) (o := gP f s o x) h with h | ⟨h, hs⟩
  ·rcases aHw h with h | ⟨rfl, hs⟩
   ·exact .inl h
   ·exact .inr ⟨mem_cons_self, hs⟩
  ·exact .inr ⟨mem_cons_of_mem _ h, hs⟩
theorem aC6 {f : Int} {s : Str} : ∀ {l : List Ty} {o : List Str} {y : Str}, y ∈ oD f s l o → y ∈ o ∨ ∃ u ∈ l, y ∈ tfR u ∧ (¬ f = 5 ∨ ¬ y = s)
 | [], o, y, h => by rw [oD] at h; exact .inl h
 | t :: l, o, y, h => by
  rw [oD] at h;rcases aC6 h with h | ⟨u, hu, h⟩
  ·rcases aC7 h with h | ⟨h, hs⟩
   ·exact .inl h
   ·exact .inr ⟨t, mem_cons_self, h, hs⟩
  ·exact .inr ⟨u, mem_cons_of_mem _ hu, h⟩
theorem aC4 {f : Int} {s : Str} : ∀ {l : List Ty} {o : List Str} {y : Str}, y ∈ o → y ∈ oD f s l o
 | [], o, y, h => by rw [oD]; exact h
 | t :: l, o, y, h => by rw [oD]; exact aC4 (pQ h)
theorem aC5 {f : Int} {s : Str} : ∀ {l : List Ty} {o : List Str} {u : Ty} {y : Str}, u ∈ l → y ∈ tfR u → (¬ f = 5 ∨ ¬ y = s) → y ∈ oD f s l o
 | t :: l, o, u, y, h, hy, hs => by
  rw [oD];rcases mem_cons.1 h with rfl | h
  ·exact aC4 (n7 hy hs)
  ·exact aC5 h hy hs
theorem sR {f n : Int} {s : Str} {a : List Ty} {y : Str} (h2 : ¬ f = 2) (h : y ∈ tfR (.mk f n s a)) : ∃ u ∈ a, y ∈ tfR u ∧ (¬ f = 5 ∨ ¬ y = s) := by
 rw [tfR, if_neg h2] at h;rcases aC6 h with h | h
 ·cases h
 ·exact h
theorem qP {f n : Int} {s : Str} {a : List Ty} {u : Ty} {y : Str} (h2 : ¬ f = 2) (hu : u ∈ a) (hy : y ∈ tfR u) (hs : ¬ f = 5 ∨ ¬ y = s) : y ∈ tfR (.mk f n s a) := by
 rw [tfR, if_neg h2];exact aC5 hu hy hs
theorem aMo {f : Int} {s : Str} {o : List Str} {x : Str} (h : o.Nodup) : (gP f s o x).Nodup := by
 unfold gP; split
 ·rename_i hx;rw [nodup_append];exact ⟨h, by simp, fun a ha b hb e => by rw [mem_singleton.1 hb] at e; subst e; exact hx.1 ha⟩
 ·exact h
theorem aHz {f : Int} {s : Str} : ∀ {l o : List Str}, o.Nodup → (sS f s o l).Nodup
 | [], _, h => h
 | x :: l, o, h => aHz (l := l) (o := gP f s o x) (aMo h)
theorem aHt {f : Int} {s : Str} : ∀ {l : List Ty} {o : List Str}, o.Nodup → (oD f s l o).Nodup
 | [], o, h => by rw [oD]; exact h
 | t :: l, o, h => by rw [oD]; exact aHt (aHz h)
theorem aHr (t : Ty) : (tfR t).Nodup := by
 obtain ⟨f, n, s, a⟩ := t;rw [tfR]; split
 ·simp
 ·exact aHt nodup_nil
theorem lI (l : List Str) : ¬ b8 l ∈ l := oM l
theorem aQ5 {l : List (Str × Ty)} {x : Str} : x ∈ unC l ↔ ∃ p ∈ l, x ∈ tfR p.2 := by
 unfold unC; rw [mem_flatMap]
theorem aHo : ∀ (k : Nat) (t : Ty), tn t ≤ k → wfS t = true → ∀ (ps : List (Str × Ty)) (x : Str), x ∈ tfR (l7 t ps) → (x ∈ tfR t ∧ ¬ x ∈ ps.map (·.1)) ∨ ∃ p ∈ ps, p.1 ∈ tfR t ∧ x ∈ tfR p.2 := by
 intro k
 induction k with
 | zero => intro t h; have := mD t; omega
 | succ k ih =>
 intro t h hw ps x hx;obtain ⟨f, n, s, a⟩ := t;obtain ⟨_, hwa, w4, w5, w0⟩ := qO hw;rw [tn] at h;rw [l7] at hx;by_cases h2 : f = 2
 ·subst h2;rw [if_pos rfl] at hx;have hs : s ∈ tfR (.mk 2 n s a) := by rw [tfR, if_pos rfl]; simp
  cases hfd : ps.find? (fun p => decide (p.1 = s)) with
  | some p =>
   rw [hfd] at hx;have h1 : p.1 = s := by simpa using List.find?_some hfd
   exact .inr ⟨p, List.mem_of_find?_eq_some hfd, by rw [h1]; exact hs, hx⟩
  | none =>
   rw [hfd] at hx;refine .inl ⟨hx, fun hm => ?_⟩;have hxs : x = s := by
    have hx : x ∈ tfR (.mk 2 n s a) := hx;rw [tfR, if_pos rfl] at hx; simpa using hx
   obtain ⟨p, hp, e⟩ := mem_map.1 hm;have := List.find?_eq_none.1 hfd p hp;rw [e, hxs] at this;simp at this
 rw [if_neg h2] at hx;by_cases h4 : f = 4
 ·subst h4;obtain ⟨rfl, rfl, u, v, rfl⟩ := w4 rfl;rw [tns, tns, tns] at h;rw [if_pos rfl, fZ, fZ, fZ] at hx;obtain ⟨w, hw', hxw, _⟩ := sR (by decide) hx;have key : ∀ u', u' ∈ [u, v] → x ∈ tfR (l7 u' ps) → tn u' ≤ k → (x ∈ tfR (.mk 4 0 [] [u, v]) ∧ ¬ x ∈ ps.map (·.1)) ∨ ∃ p ∈ ps, p.1 ∈ tfR (.mk 4 0 [] [u, v]) ∧ x ∈ tfR p.2 := fun u' hu' hxu hk => by
   rcases ih u' hk (hwa u' hu') ps x hxu with ⟨h1, h2⟩ | ⟨p, hp, h1, h2⟩
   ·exact .inl ⟨qP (by decide) hu' h1 (.inl (by decide)), h2⟩
   ·exact .inr ⟨p, hp, qP (by decide) hu' h1 (.inl (by decide)), h2⟩
  rcases mem_cons.1 hw' with rfl | hw'
  ·exact key u (by simp) hxw (by omega)
  ·rw [mem_singleton.1 hw'] at hxw;exact key v (by simp) hxw (by omega)
 rw [if_neg h4] at hx;by_cases h5 : f = 5
 ·subst h5;obtain ⟨rfl, body, rfl⟩ := w5 rfl;rw [tns, tns] at h;rw [if_pos rfl] at hx;have hx : x ∈ tfR (.mk 5 0 (unN s body ps) (fZ [body] (unP s body ps))) := hx;rw [fZ, fZ] at hx;obtain ⟨w, hw', hxw, hne⟩ := sR (by decide) hx;rw [mem_singleton.1 hw'] at hxw;have hne : ¬ x = unN s body ps := hne.resolve_left (fun h => h rfl);by_cases hc : s ∈ unC (unF s body ps)
  ·have eN : unN s body ps = b8 (unC (unF s body ps) ++ tfR body) := by unfold unN; rw [if_pos hc]
   have eP : unP s body ps = unF s body ps ++ [(s, .mk 2 0 (unN s body ps) [])] := by unfold unP; rw [if_pos hc]
   rcases ih body (by omega) (hwa body (by simp)) (unP s body ps) x hxw with ⟨h1, h2⟩ | ⟨p, hp, h1, h2⟩
   ·rw [eP] at h2;have hxs : ¬ x = s := fun e => h2 (by rw [e]; simp)
    refine .inl ⟨qP (by decide) mem_cons_self h1 (.inr hxs), fun hm => h2 ?_⟩;obtain ⟨p, hp, e⟩ := mem_map.1 hm;rw [map_append];exact mem_append.2 (.inl (mem_map.2 ⟨p, iF.2 ⟨hp, by rw [e]; exact hxs, by rw [e]; exact h1⟩, e⟩))
   ·rw [eP] at hp;rcases mem_append.1 hp with hp | hp
    ·obtain ⟨g1, g2, g3⟩ := iF.1 hp;exact .inr ⟨p, g1, qP (by decide) mem_cons_self g3 (.inr g2), h2⟩
    ·rw [mem_singleton.1 hp] at h2;have h2 : x ∈ tfR (.mk 2 0 (unN s body ps) []) := h2;rw [tfR, if_pos rfl] at h2;exact absurd (mem_singleton.1 h2) hne
  ·have eN : unN s body ps = s := by unfold unN; rw [if_neg hc]
   have eP : unP s body ps = unF s body ps := by unfold unP; rw [if_neg hc]
   rw [eN] at hne;rcases ih body (by omega) (hwa body (by simp)) (unP s body ps) x hxw with ⟨h1, h2⟩ | ⟨p, hp, h1, h2⟩
   ·rw [eP] at h2;refine .inl ⟨qP (by decide) mem_cons_self h1 (.inr hne), fun hm => h2 ?_⟩;obtain ⟨p, hp, e⟩ := mem_map.1 hm;exact mem_map.2 ⟨p, iF.2 ⟨hp, by rw [e]; exact hne, by rw [e]; exact h1⟩, e⟩
   ·rw [eP] at hp;obtain ⟨g1, g2, g3⟩ := iF.1 hp;exact .inr ⟨p, g1, qP (by decide) mem_cons_self g3 (.inr g2), h2⟩
 rw [if_neg h5] at hx;rw [w0 h4 h5] at hx;obtain ⟨u, hu, _⟩ := sR h2 hx;cases hu
structure Alg where
 z : Nat
 j : Nat → Nat → Nat
 u : Str → Nat → Nat
 b : Str → Nat → Nat
 jm : ∀ {x x' y y' : Nat}, x ≤ x' → y ≤ y' → j x y ≤ j x' y'
 um : ∀ {s : Str} {x x' : Nat}, x ≤ x' → u s x ≤ u s x'
 bm : ∀ {s : Str} {x x' : Nat}, x ≤ x' → b s x ≤ b s x'
 ul : ∀ {s s' : Str} {x : Nat}, s.length ≤ 30 → u s x ≤ u s' x
def fO (ρ : Str → Nat) (s : Str) (v : Nat) : Str → Nat := fun x => if x = s then v else ρ x
mutual
def tW (A : Alg) : Ty → (Str → Nat) → Nat
 | .mk f _ s a, ρ => if f = 2 then ρ s else if f = 5 then A.u s (tWs A a (fO ρ s A.z)) else A.b s (tWs A a ρ)
def tWs (A : Alg) : List Ty → (Str → Nat) → Nat
 | [], _ => 0
 | t :: l, ρ => A.j (tW A t ρ) (tWs A l ρ)
end
theorem qU {A : Alg} : ∀ {l : List Ty} {ρ ρ' : Str → Nat}, (∀ u ∈ l, tW A u ρ = tW A u ρ') → tWs A l ρ = tWs A l ρ'
 | [], _, _, _ => by rw [tWs, tWs]
 | t :: l, ρ, ρ', h => by rw [tWs, tWs, h t mem_cons_self, qU fun u hu => h u (mem_cons_of_mem _ hu)]
theorem hJ {A : Alg} : ∀ (k : Nat) (t : Ty), tn t ≤ k → ∀ {ρ ρ' : Str → Nat}, (∀ x ∈ tfR t, ρ x = ρ' x) → tW A t ρ = tW A t ρ'
 | 0, t, h, _, _, _ => by have := mD t; omega
 | k + 1, .mk f n s a, h, ρ, ρ', hx => by
  rw [tn] at h;rw [tW, tW];by_cases h2 : f = 2
  ·rw [if_pos h2, if_pos h2];exact hx s (by rw [tfR, if_pos h2]; simp)
  rw [if_neg h2, if_neg h2];by_cases h5 : f = 5
  ·rw [if_pos h5, if_pos h5, qU fun u hu => hJ k u (by have := mL hu; omega) fun x hxu => ?_];unfold fO;by_cases e : x = s
   ·rw [if_pos e, if_pos e]
   ·rw [if_neg e, if_neg e]; exact hx x (qP h2 hu hxu (.inr e))
  ·rw [if_neg h5, if_neg h5, qU fun u hu => hJ k u (by have := mL hu; omega) fun x hxu => hx x (qP h2 hu hxu (.inl h5))]
mutual
theorem aAy {A : Alg} : ∀ (t : Ty) {ρ ρ' : Str → Nat}, (∀ x, ρ x ≤ ρ' x) → tW A t ρ ≤ tW A t ρ'
 | .mk f n s a, ρ, ρ', h => by
  rw [tW, tW];split
  ·exact h s
  ·split
   ·refine A.um (v7 a fun x => ?_);unfold fO; split
    ·exact le_refl _
    ·exact h x
   ·exact A.bm (v7 a h)
theorem v7 {A : Alg} : ∀ (l : List Ty) {ρ ρ' : Str → Nat}, (∀ x, ρ x ≤ ρ' x) → tWs A l ρ ≤ tWs A l ρ'
 | [], _, _, _ => by rw [tWs]; exact zero_le _
 | t :: l, ρ, ρ', h => by rw [tWs, tWs]; exact A.jm (aAy t h) (v7 l h)
end
def aId (A : Alg) (ρ : Str → Nat) (ps : List (Str × Ty)) : Str → Nat := fun x => match ps.find? (fun p => decide (p.1 = x)) with | some p => tW A p.2 ρ | none => ρ x
theorem rR {nm : Str} {body : Ty} {x : Str} (hx : ¬ x = nm) (hb : x ∈ tfR body) : ∀ ps : List (Str × Ty), (unF nm body ps).find? (fun p => decide (p.1 = x)) = ps.find? (fun p => decide (p.1 = x))
 | [] => rfl
 | p :: ps => by
  have ih := rR hx hb ps;by_cases e : p.1 = x
  ·have hk : (!decide (p.1 = nm) && decide (p.1 ∈ tfR body)) = true := by rw [e, decide_eq_false hx, decide_eq_true hb]; rfl
   unfold unF;rw [List.filter_cons_of_pos (p := fun p : Str × Ty => !decide (p.1 = nm) && decide (p.1 ∈ tfR body)) hk, List.find?_cons_of_pos (by simpa using e), List.find?_cons_of_pos (by simpa using e)]
  ·rw [List.find?_cons_of_neg (by simpa using e), ← ih];unfold unF;rw [filter_cons];split
   ·rw [List.find?_cons_of_neg (by simpa using e)]
   ·rfl
theorem oN (l : List Str) (h : l.length ≤ 540000000000) : (b8 l).length ≤ 30 := le_trans (jD l h) (by decide)
theorem PsOk.unl {ps : List (Str × Ty)} (h : PsOk ps) {nm : Str} {body : Ty} (hb : fvm body ≤ 700000) : (unC (unF nm body ps) ++ tfR body).length ≤ 540000000000 := by
 have h3 := pN (l := unF nm body ps) fun p hp => (h.ok p (iF.1 hp).1).2
 have h4 := aAl (nm := nm) (body := body) h.nd;have h5 := nQ body;have h6 : (unF nm body ps).length * 700000 ≤ 700000 * 700000 := mul_le_mul_right _ (by omega);rw [length_append];omega
theorem aTx (A : Alg) : ∀ (k : Nat) (t : Ty), tn t ≤ k → wfS t = true → fvm t ≤ 700000 → ∀ (ps : List (Str × Ty)), PsOk ps → ∀ ρ, tW A (l7 t ps) ρ ≤ tW A t (aId A ρ ps) := by
 intro k
 induction k with
 | zero => intro t h; have := mD t; omega
 | succ k ih =>
 intro t h hw hf ps hps ρ;obtain ⟨f, n, s, a⟩ := t;obtain ⟨_, hwa, w4, w5, w0⟩ := qO hw;have hfa : ∀ u ∈ a, fvm u ≤ 700000 := fun u hu => le_trans (wI hu) hf
 rw [tn] at h;rw [l7];by_cases h2 : f = 2
 ·subst h2;rw [if_pos rfl, tW, if_pos rfl];unfold aId;cases ps.find? (fun p => decide (p.1 = s)) with
  | some p => exact le_refl _
  | none =>
   show tW A (.mk 2 n s a) ρ ≤ _;rw [tW, if_pos rfl];exact le_refl _
 rw [if_neg h2];by_cases h4 : f = 4
 ·subst h4;obtain ⟨rfl, rfl, u, v, rfl⟩ := w4 rfl;rw [tns, tns, tns] at h;rw [if_pos rfl, fZ, fZ, fZ, tW, if_neg (by decide), if_neg (by decide), tW, if_neg (by decide), if_neg (by decide), tWs, tWs, tWs, tWs, tWs, tWs];exact A.bm (A.jm (ih u (by omega) (hwa u (by simp)) (hfa u (by simp)) ps hps ρ) (A.jm (ih v (by omega) (hwa v (by simp)) (hfa v (by simp)) ps hps ρ) (le_refl _)))
 rw [if_neg h4];by_cases h5 : f = 5
 ·subst h5;obtain ⟨rfl, body, rfl⟩ := w5 rfl;rw [tns, tns] at h;have hfb := hfa body (by simp);rw [if_pos rfl];show tW A (.mk 5 0 (unN s body ps) (fZ [body] (unP s body ps))) ρ ≤ _;rw [fZ, fZ, tW, if_neg (by decide), if_pos rfl, tW, if_neg (by decide), if_pos rfl, tWs, tWs, tWs, tWs];have hi := ih body (by omega) (hwa body (by simp)) hfb (unP s body ps) (hps.un s body hfb) (fO ρ (unN s body ps) A.z);have hcg : tW A body (aId A (fO ρ (unN s body ps) A.z) (unP s body ps)) = tW A body (fO (aId A ρ ps) s A.z) := by
   refine hJ (tn body) body (le_refl _) fun x hx => ?_
   have hout : ∀ p ∈ unF s body ps, ¬ unN s body ps ∈ tfR p.2 := fun p hp hin => by
    have hm : unN s body ps ∈ unC (unF s body ps) := aQ5.2 ⟨p, hp, hin⟩;unfold unN at hm;split at hm
    ·exact lI _ (mem_append.2 (.inl hm))
    ·rename_i hc; exact hc hm
   have hsame : ∀ p ∈ unF s body ps, tW A p.2 (fO ρ (unN s body ps) A.z) = tW A p.2 ρ := fun p hp => hJ (tn p.2) p.2 (le_refl _) fun y hy => by
    unfold fO;rw [if_neg fun e => hout p hp (by rw [← e]; exact hy)]
   by_cases hxs : x = s
   ·subst hxs;have e2 : fO (aId A ρ ps) x A.z x = A.z := by unfold fO; rw [if_pos rfl]
    rw [e2];have hno : ¬ x ∈ (unF x body ps).map (·.1) := fun hm => by
     obtain ⟨p, hp, e⟩ := mem_map.1 hm;exact (iF.1 hp).2.1 e
    unfold aId;by_cases hc : x ∈ unC (unF x body ps)
    ·have eP : unP x body ps = unF x body ps ++ [(x, .mk 2 0 (unN x body ps) [])] := by unfold unP; rw [if_pos hc]
     rw [eP, List.find?_append, nT hno];show (match (none : Option (Str × Ty)).or ([(x, Ty.mk 2 0 (unN x body ps) [])].find? fun p => decide (p.1 = x)) with | some p => tW A p.2 (fO ρ (unN x body ps) A.z) | none => fO ρ (unN x body ps) A.z x) = A.z;rw [List.find?_cons_of_pos (by simp)];show tW A (.mk 2 0 (unN x body ps) []) (fO ρ (unN x body ps) A.z) = A.z;rw [tW, if_pos rfl];unfold fO;rw [if_pos rfl]
    ·have eP : unP x body ps = unF x body ps := by unfold unP; rw [if_neg hc]
     have eN : unN x body ps = x := by unfold unN; rw [if_neg hc]
     rw [eP, nT hno, eN];unfold fO;rw [if_pos rfl]
   ·have e2 : fO (aId A ρ ps) s A.z x = aId A ρ ps x := by unfold fO; rw [if_neg hxs]
    rw [e2];have hff := rR (nm := s) (body := body) hxs hx ps;have hfP : (unP s body ps).find? (fun p => decide (p.1 = x)) = ps.find? (fun p => decide (p.1 = x)) := by
     rw [← hff];unfold unP;split
     ·rw [List.find?_append, List.find?_cons_of_neg (by simpa using fun e => hxs e.symm)];cases (unF s body ps).find? (fun p => decide (p.1 = x)) <;> rfl
     ·rfl
    have hNx : ¬ x = unN s body ps := fun e => by
     unfold unN at e;split at e
     ·exact lI _ (mem_append.2 (.inr (by rw [← e]; exact hx)))
     ·exact hxs e
    unfold aId;rw [hfP];cases hfd : ps.find? (fun p => decide (p.1 = x)) with
    | some p =>
     have hp : p ∈ unF s body ps := List.mem_of_find?_eq_some (hff.trans hfd);exact hsame p hp
    | none =>
     show fO ρ (unN s body ps) A.z x = ρ x;unfold fO;rw [if_neg hNx]
  rw [hcg] at hi;have hN : A.u (unN s body ps) (A.j (tW A (l7 body (unP s body ps)) (fO ρ (unN s body ps) A.z)) 0) ≤ A.u s (A.j (tW A (l7 body (unP s body ps)) (fO ρ (unN s body ps) A.z)) 0) := by
   generalize A.j (tW A (l7 body (unP s body ps)) (fO ρ (unN s body ps) A.z)) 0 = y;unfold unN;split
   ·exact A.ul (oN _ (hps.unl hfb))
   ·exact le_refl _
  exact le_trans hN (A.um (A.jm hi (le_refl _)))
 rw [if_neg h5, tW, if_neg h2, if_neg h5, tW, if_neg h2, if_neg h5, w0 h4 h5, tWs, tWs];exact le_refl _
def j6 : Alg := ⟨0, max, fun _ x => 1 + x, fun _ x => x, fun h1 h2 => by omega, fun h => by omega, fun h => h, fun _ => le_refl _⟩
def r0 : Str → Nat := fun _ => 0
theorem aH8 (s : Str) : fO r0 s 0 = r0 := by
 funext x; unfold fO r0; split <;> rfl
theorem rO : ∀ (k : Nat) (t : Ty), tn t ≤ k → wfS t = true → fvm t ≤ (tfR t).length + tW j6 t r0
 | 0, t, h, _ => by have := mD t; omega
 | k + 1, .mk f n s a, h, hw => by
  obtain ⟨_, hwa, w4, w5, w0⟩ := qO hw;rw [tn] at h;by_cases h4 : f = 4
  ·subst h4;obtain ⟨rfl, rfl, u, v, rfl⟩ := w4 rfl;rw [tns, tns, tns] at h;have h1 := rO k u (by omega) (hwa u (by simp));have h2 := rO k v (by omega) (hwa v (by simp));have e : tW j6 (.mk 4 0 [] [u, v]) r0 = max (tW j6 u r0) (max (tW j6 v r0) 0) := by rw [tW, if_neg (by decide), if_neg (by decide), tWs, tWs, tWs]; rfl
   have g1 := iW _ _ (aHr u) fun x hx => qP (f := 4) (n := 0) (s := []) (a := [u, v]) (by decide) (by simp) hx (.inl (by decide))
   have g2 := iW _ _ (aHr v) fun x hx => qP (f := 4) (n := 0) (s := []) (a := [u, v]) (by decide) (by simp) hx (.inl (by decide))
   rw [fvm, e, aKd, aKd, aKd];omega
  ·by_cases h5 : f = 5
   ·subst h5;obtain ⟨rfl, body, rfl⟩ := w5 rfl;rw [tns, tns] at h;have h1 := rO k body (by omega) (hwa body (by simp));have e : tW j6 (.mk 5 0 s [body]) r0 = 1 + max (tW j6 body r0) 0 := by
     rw [tW, if_neg (by decide), if_pos rfl, tWs, tWs];show 1 + max (tW j6 body (fO r0 s 0)) 0 = _;rw [aH8]
    have g1 := iW _ (s :: tfR (.mk 5 0 s [body])) (aHr body) fun x hx => by
     by_cases hxs : x = s
     ·rw [hxs]; exact mem_cons_self
     ·exact mem_cons_of_mem _ (qP (by decide) (by simp) hx (.inr hxs))
    rw [length_cons] at g1;rw [fvm, e, aKd, aKd];omega
   ·rw [fvm, w0 h4 h5, aKd];omega
def gm (c : Core) : List (List (Str × List C) × List Core) :=
 ((if c.form = 5 then [(c.name, (aB c).drop 3)] else []) ++ c.binds.map (fun b => (b.name, (bA b).drop 1)), c.kids ++ c.binds.map Bind.body) :: c.alts.map fun a => (a.vars.map (fun v => (v, [])), [a.body])
def gmG (g : List (Str × List C) × List Core) : List (List C) × List Core := (g.1.map aG2, g.2)
theorem aNy (c : Core) : gl c = (gm c).map gmG := by
 obtain ⟨f, n, s, t, ks, bs, al⟩ := c;unfold gl gm;rw [map_cons, map_map];congr 1
 ·unfold gmG;rw [map_append, map_map];congr 2;unfold nm0;split <;> rfl
 ·congr 1;funext a;unfold gmG;simp only [Function.comp, map_map];rfl
def pfG (G : List Str) (o : List Str) (s : Str) : List Str := if s ∈ G then o else rH o s
def pfP (G : List Str) (o l : List Str) : List Str := l.foldl (pfG G) o
def gvN (f : Int) (s : Str) (bs : List Bind) : List Str := (if f = 5 then [s] else []) ++ bs.map Bind.name
mutual
def pfR : Core → List Str
 | .mk f _ s _ ks bs al => if f = 1 then [s] else sG al (sC (gvN f s bs) bs (pW (gvN f s bs) ks []))
def pW (G : List Str) : List Core → List Str → List Str
 | [], o => o
 | c :: l, o => pW G l (pfP G o (pfR c))
def sC (G : List Str) : List Bind → List Str → List Str
 | [], o => o
 | .mk _ _ c :: l, o => sC G l (pfP G o (pfR c))
def sG : List Alt → List Str → List Str
 | [], o => o
 | .mk _ _ _ v c :: l, o => sG l (pfP v o (pfR c))
end
def pfL (G : List Str) (l : List Core) (o : List Str) : List Str := l.foldl (fun o c => pfP G o (pfR c)) o
def pfM (L : List (List (Str × List C) × List Core)) (o : List Str) : List Str := L.foldl (fun o g => pfL (g.1.map (·.1)) g.2 o) o
theorem aBf (G : List Str) : ∀ (l : List Core) (o : List Str), pW G l o = pfL G l o
 | [], o => by rw [pW]; rfl
 | c :: l, o => by rw [pW, aBf G l]; rfl
theorem aI1 (G : List Str) : ∀ (l : List Bind) (o : List Str), sC G l o = pfL G (l.map Bind.body) o
 | [], o => by rw [sC]; rfl
 | .mk s t c :: l, o => by rw [sC, aI1 G l]; rfl
theorem aI2 : ∀ (l : List Alt) (o : List Str), sG l o = pfM (l.map fun a => (a.vars.map (fun v => (v, [])), [a.body])) o
 | [], o => by rw [sG]; rfl
 | .mk f n s v c :: l, o => by
  rw [sG, aI2 l];have : (v.map (fun v => ((v, []) : Str × List C))).map (·.1) = v := by rw [map_map]; exact List.map_id _
  show _ = pfM _ (pfL ((v.map (fun v => ((v, []) : Str × List C))).map (·.1)) [c] o);rw [this];rfl
theorem aXz (c : Core) (h : ¬ c.form = 1) : pfR c = pfM (gm c) [] := by
 obtain ⟨f, n, s, t, ks, bs, al⟩ := c;have h : ¬ f = 1 := h;rw [pfR, if_neg h, aI2, aI1, aBf];unfold gm;show _ = pfM _ (pfL _ _ []);congr 1;unfold pfL;rw [foldl_append];have : gvN f s bs = (((if f = 5 then [((s, (aB (.mk f n s t ks bs al)).drop 3) : Str × List C)] else []) ++ bs.map (fun b => (b.name, (bA b).drop 1))).map (·.1)) := by
  unfold gvN;rw [map_append, map_map];congr 1;split <;> rfl
 rw [this];rfl
theorem aRr (G o : List Str) (s : Str) : (pfG G o s).length ≤ o.length + 1 := by
 unfold pfG; split
 ·omega
 ·exact aD2 o s
theorem vV (G o : List Str) : ∀ l : List Str, (pfP G o l).length ≤ o.length + l.length := by
 intro l
 induction l generalizing o with
 | nil => exact le_refl _
 | cons s l ih =>
  have h1 := ih (pfG G o s);have h2 := aRr G o s;show (pfP G (pfG G o s) l).length ≤ _;rw [length_cons]; omega
mutual
theorem aF5 : ∀ c : Core, (pfR c).length ≤ b6 c
 | .mk f n s t ks bs al => by
  rw [pfR, b6];split
  ·simp; omega
  ·have h1 := aIx (gvN f s bs) ks [];have h2 := aPn (gvN f s bs) bs (pW (gvN f s bs) ks []);have h3 := aPo al (sC (gvN f s bs) bs (pW (gvN f s bs) ks []));simp only [length_nil] at h1;omega
theorem aIx (G : List Str) : ∀ (l : List Core) (o : List Str), (pW G l o).length ≤ o.length + bH l
 | [], o => by rw [pW]; omega
 | c :: l, o => by
  rw [pW, bH];have h1 := aIx G l (pfP G o (pfR c));have h2 := vV G o (pfR c);have h3 := aF5 c;omega
theorem aPn (G : List Str) : ∀ (l : List Bind) (o : List Str), (sC G l o).length ≤ o.length + c9 l
 | [], o => by rw [sC]; omega
 | .mk s t c :: l, o => by
  rw [sC, c9, bsize];have h1 := aPn G l (pfP G o (pfR c));have h2 := vV G o (pfR c);have h3 := aF5 c;omega
theorem aPo : ∀ (l : List Alt) (o : List Str), (sG l o).length ≤ o.length + bZ l
 | [], o => by rw [sG]; omega
 | .mk f n s v c :: l, o => by
  rw [sG, bZ, lZ];have h1 := aPo l (pfP v o (pfR c));have h2 := vV v o (pfR c);have h3 := aF5 c;omega
end
theorem aNe (G o : List Str) {l : List Str} {i : Nat} {s : Str} (h : l[i]? = some s) : pfP G o (l.take (i + 1)) = pfG G (pfP G o (l.take i)) s := by
 unfold pfP; rw [fF h, foldl_append]; rfl
theorem aNg (G o : List Str) {l : List Core} {i : Nat} {c : Core} (h : l[i]? = some c) : pfL G (l.take (i + 1)) o = pfP G (pfL G (l.take i) o) (pfR c) := by
 unfold pfL; rw [fF h, foldl_append]; rfl
theorem aNf (o : List Str) {l : List (List (Str × List C) × List Core)} {i : Nat} {g : List (Str × List C) × List Core} (h : l[i]? = some g) : pfM (l.take (i + 1)) o = pfL (g.1.map (·.1)) g.2 (pfM (l.take i) o) := by
 unfold pfM; rw [fF h, foldl_append]; rfl
theorem aIz (G : List Str) : ∀ (l : List Core) (o : List Str), (pfL G l o).length ≤ o.length + bH l := fun l o => by rw [← aBf]; exact aIx G l o
def gcs : List (List (Str × List C) × List Core) → Nat
 | [] => 0
 | g :: l => bH g.2 + gcs l
theorem aIy : ∀ (L : List (List (Str × List C) × List Core)) (o : List Str), (pfM L o).length ≤ o.length + gcs L
 | [], o => le_refl _
 | g :: L, o => by
  have h1 := aIy L (pfL (g.1.map (·.1)) g.2 o);have h2 := aIz (g.1.map (·.1)) g.2 o;show (pfM L (pfL (g.1.map (·.1)) g.2 o)).length ≤ _;rw [gcs]; omega
theorem lO : ∀ a b : List Core, bH (a ++ b) = bH a + bH b
 | [], b => by rw [nil_append, bH, zero_add]
 | x :: a, b => by rw [cons_append, bH, bH, lO a b, add_assoc]
theorem yX : ∀ l : List Bind, bH (l.map Bind.body) ≤ c9 l
 | [] => by rw [map_nil, bH]; exact zero_le _
 | .mk s t c :: l => by rw [map_cons, bH, c9, bsize]; have := yX l; show b6 c + _ ≤ _; omega
theorem aP3 : ∀ l : List Alt, gcs (l.map fun a => (a.vars.map (fun v => (v, [])), [a.body])) ≤ bZ l
 | [] => by rw [map_nil, gcs]; exact zero_le _
 | .mk f n s v c :: l => by rw [map_cons, gcs, bZ, lZ, bH, bH]; have := aP3 l; show b6 c + 0 + _ ≤ _; omega
theorem aVs (c : Core) : gcs (gm c) ≤ b6 c := by
 obtain ⟨f, n, s, t, ks, bs, al⟩ := c;unfold gm;rw [gcs, b6];have h1 := lO ks (bs.map Bind.body);have h2 := yX bs;have h3 := aP3 al;show bH (ks ++ bs.map Bind.body) + gcs (al.map fun a => (a.vars.map (fun v => (v, [])), [a.body])) ≤ _;omega
theorem aBl : ∀ a b, gcs (a ++ b) = gcs a + gcs b
 | [], b => by rw [nil_append, gcs, zero_add]
 | x :: a, b => by rw [cons_append, gcs, gcs, aBl a b, add_assoc]
theorem aVt {L : List (List (Str × List C) × List Core)} {i : Nat} {g : List (Str × List C) × List Core} (h : L[i]? = some g) : gcs (L.take i) + bH g.2 ≤ gcs L := by
 have h1 := take_append_drop (i + 1) L;have h2 := aBl (L.take (i + 1)) (L.drop (i + 1));rw [h1, fF h, aBl] at h2;simp only [gcs] at h2;omega
theorem aKq {l : List Core} {i : Nat} {c : Core} (h : l[i]? = some c) : bH (l.take i) + b6 c ≤ bH l := by
 have h1 := take_append_drop (i + 1) l;have h2 := lO (l.take (i + 1)) (l.drop (i + 1));rw [h1, fF h, lO] at h2;simp only [bH] at h2;omega
def aFm (c : Core) : Prop := b6 c ≤ 570000000000 → aV Tryz.prog 67 [.pa (aB c)] [] (bU (pfR c)) []
theorem o5 (c : Core) (ih : ∀ x, b6 x < b6 c → aFm x) (hsz : b6 c ≤ 570000000000) : aV Tryz.prog 67 [.pa (aB c)] [] (ouV (pfR c)) [(500, ouO (pfR c))] := by
 by_cases h1 : c.form = 1
 ·obtain ⟨f, n, s, t, ks, bs, al⟩ := c;have h1 : f = 1 := h1;subst h1;rw [pfR, if_pos rfl];refine bT (n := 51) tok Tryz.func67 rfl rfl rfl ?_;refine a8 (ag [] rfl ?_);refine a8 (a8 (ag [] rfl ?_));refine aA rfl (fun _ => ?_) (fun hb => by cases hb);refine a8 (ag [(2, .id 500)] rfl ?_);exact aI rtT
 have hgr := zG c hsz;have hpf := aXz c h1;have hin : ∀ g ∈ gm c, ∀ x ∈ g.2, b6 x < b6 c := fun g hg x hx => aVq (g := gmG g) (by rw [aNy]; exact mem_map.2 ⟨g, hg, rfl⟩) hx
 obtain ⟨hgl, hgm⟩ := aP1 c;rw [aNy, length_map] at hgl;have hgm2 : ∀ g ∈ gm c, g.2.length ≤ b6 c ∧ g.1.length ≤ b6 c := fun g hg => by
  have := hgm (gmG g) (by rw [aNy]; exact mem_map.2 ⟨g, hg, rfl⟩);unfold gmG at this;rw [length_map] at this;exact this
 have hgc := aVs c;rw [pD, aNy, map_map] at hgr;rw [hpf];clear hpf hgm;generalize gm c = L at hgr hin hgl hgm2 hgc ⊢;have hkL : (L.map (jZ ∘ gmG)).length = L.length := length_map _;refine bT (n := 51) tok Tryz.func67 rfl rfl rfl ?_;refine a8 (ag [] rfl ?_);refine a8 (a8 (ag [] rfl ?_));refine aA rfl (fun hb => absurd (of_decide_eq_true hb) h1) (fun _ => ?_);refine aD ?_;refine a8 (ag [] rfl ?_);refine AWp.sub (Sub.fvar (id := 1) (l := aB c) rfl (by simp [keys])) ?_;refine AWp.sub (st2 := mk [(1, .one (.c (.pt (aB c)))), (3, .one (.c .nl))] []) sl ?_;refine AWp.sub (Sub.own (t := 3) (id := 500) 9 1 rfl rfl) ?_;refine a8 (a8 (aE mixed ?_));refine kc hgr ?_;refine ak 2 [] rfl ?_;refine az ?_;refine aC ?_;refine aL (fun i : Nat => mk [(3, ouV (pfM (L.take i) [])), (16, .one (.c (.sl 2 (L.map (jZ ∘ gmG))))), (17, I .i64 ((L.map (jZ ∘ gmG)).length : Int)), (18, I .i64 i)] [(500, ouO (pfM (L.take i) []))]) (fun i => i ≤ L.length) (fun i => L.length - i) 0 (zero_le _) sl ?_;intro i hi;refine a8 (ag [] rfl ?_);refine a8 (aA rfl (fun hb => ?_) (fun hb => ?_))
 ·have hlt := ltD hb hkL;obtain ⟨g, hg⟩ := aK hlt;have hg' := bO (jZ ∘ gmG) hg;have hgi := List.mem_of_getElem? hg;obtain ⟨hl1, hl2⟩ := hgm2 g hgi;have hst := aNf [] hg;have hml := aIy (L.take i) [];have hga := aVt hg;simp only [length_nil] at hml;have hinG := hin g hgi;have hkG : (g.2.map gS).length = g.2.length := length_map _;obtain ⟨G1, G⟩ := g;have hg' : (L.map (jZ ∘ gmG))[i]? = some [.sl 1 (G1.map aG2), .sl 1 (G.map gS)] := hg';dsimp only at hl1 hl2 hst hkG hga hinG;generalize hG0 : G1.map (·.1) = G0 at hst;generalize pfM (L.take i) [] = x0 at hst hml ⊢;refine aD ?_;refine a8 (aC (a8 (ag [(0, .row i [.sl 1 (G1.map aG2), .sl 1 (G.map gS)])] rfl ?_)));refine a8 (ag [] rfl ?_);refine aC ?_;refine aL (fun j : Nat => mk [(3, ouV (pfL G0 (G.take j) x0)), (5, .one (.vp 5 0)), (16, .one (.c (.sl 2 (L.map (jZ ∘ gmG))))), (17, I .i64 ((L.map (jZ ∘ gmG)).length : Int)), (18, I .i64 i), (23, .one (.c (.sl 1 (G.map gS)))), (24, I .i64 ((G.map gS).length : Int)), (25, I .i64 j)] [(5, .var 125 [.c (.sl 1 (G1.map aG2)), .c (.sl 1 (G.map gS))]), (500, ouO (pfL G0 (G.take j) x0))]) (fun j => j ≤ G.length) (fun j => G.length - j) 0 (zero_le _) sl ?_;intro j hj;refine a8 (ag [] rfl ?_);refine a8 (aA rfl (fun hb => ?_) (fun hb => ?_))
  ·have hlt2 := ltD hb hkG;obtain ⟨p, hp⟩ := aK hlt2;have hp' := bO gS hp;have hpi := List.mem_of_getElem? hp;have hpc := hinG p hpi;have hc := ih p hpc (by omega);have hst2 := aNg G0 x0 hp;have hml2 := aIz G0 (G.take j) x0;have hca := aKq hp;have hple := aF5 p;generalize pfL G0 (G.take j) x0 = x1 at hst2 hml2 ⊢;generalize pfR p = F at hc hst2 hple;have hkF : (F.map bM).length = F.length := length_map _;refine aD ?_;refine a8 (aC (a8 (ag [(0, .row j (gS p))] rfl ?_)));refine a8 (ag [(3, .pc (bU F))] rfl ?_);refine aC ?_;refine aL (fun k : Nat => mk [(3, ouV (pfP G0 x1 (F.take k))), (5, .one (.vp 5 0)), (16, .one (.c (.sl 2 (L.map (jZ ∘ gmG))))), (17, I .i64 ((L.map (jZ ∘ gmG)).length : Int)), (18, I .i64 i), (23, .one (.c (.sl 1 (G.map gS)))), (24, I .i64 ((G.map gS).length : Int)), (25, I .i64 j), (32, bU F), (33, I .i64 ((F.map bM).length : Int)), (34, I .i64 k)] [(5, .var 125 [.c (.sl 1 (G1.map aG2)), .c (.sl 1 (G.map gS))]), (500, ouO (pfP G0 x1 (F.take k)))]) (fun k => k ≤ F.length) (fun k => F.length - k) 0 (zero_le _) sl ?_;intro k hk;refine a8 (ag [] rfl ?_);refine a8 (aA rfl (fun hb => ?_) (fun hb => ?_))
   ·have hlt3 := ltD hb hkF;obtain ⟨s, hs⟩ := aK hlt3;have hs' := bO bM hs;have hst3 := aNe G0 x1 hs;have hml3 := vV G0 x1 (F.take k);rw [length_take] at hml3;generalize pfP G0 x1 (F.take k) = x2 at hst3 hml3 ⊢;have hcp := aWm G1 s (by omega);rw [hG0] at hcp;have hmo := uH x2 [s] (by simp; omega);rw [show mR x2 [s] = rH x2 s from rfl] at hmo;refine aD ?_;refine a8 (aC (a8 (ag [(0, .row k (bM s))] rfl ?_)));refine a8 (aE mixed ?_);refine ak 3 [] rfl ?_;refine kc hcp ?_;refine ak 1 [] rfl ?_;refine az ?_;refine aA rfl (fun hb => ?_) (fun hb => ?_)
    ·have hni : ¬ s ∈ G0 := by simpa using hb
     rw [pfG, if_neg hni] at hst3;refine aE mixed ?_;refine ak 3 [(2, .all)] rfl ?_;refine kc hmo ?_;refine ak 1 [] rfl ?_;refine az ?_;refine ag [] rfl ?_;refine ⟨k + 1, hlt3, by dsimp only; omega, ?_⟩;dsimp only;rw [hst3];exact sl
    ·have hni : s ∈ G0 := by simpa using hb
     rw [pfG, if_pos hni] at hst3;refine aD ?_;refine ag [] rfl ?_;refine ⟨k + 1, hlt3, by dsimp only; omega, ?_⟩;dsimp only;rw [hst3];exact sl
   have hge3 := geD hb hkF hk;subst hge3;rw [take_length, ← hst2];refine aO ?_;refine ag [] rfl ?_;exact ⟨j + 1, hlt2, by dsimp only; omega, sl⟩
  have hge2 := geD hb hkG hj;subst hge2;rw [take_length, ← hst];refine aO ?_;refine ag [] rfl ?_;exact ⟨i + 1, hlt, by dsimp only; omega, sl⟩
 have hge := geD hb hkL hi;subst hge;rw [take_length];refine aO ?_;refine a8 (ag [] rfl ?_);exact aI rtT
theorem zB (c : Core) (ih : ∀ x, b6 x < b6 c → aFm x) : aFm c := fun hsz => (o5 c ih hsz).plain (length_map _).symm
theorem oR : ∀ (n : Nat) (c : Core), b6 c ≤ n → aFm c
 | 0, c, h => by have := fI c; omega
 | n + 1, c, h => zB c fun x hx => oR n x (by omega)
def vC (z : Str) : Core := .mk 1 0 z zTy [] [] []
section
variable (sb : Core → Str → Core → Core)
noncomputable def fG (far : List Str) (st : List Str × List Core × List Str) (n : Str) : List Str × List Core × List Str :=
 if n ∈ far then (st.1 ++ [b8 st.2.2], st.2.1.map (fun p => sb p n (vC (b8 st.2.2))), st.2.2 ++ [b8 st.2.2]) else (st.1 ++ [n], st.2.1, st.2.2)
noncomputable def mU (far : List Str) (ns : List Str) (st : List Str × List Core × List Str) : List Str × List Core × List Str := ns.foldl (fG sb far) st
def aU2 (s : Str) (ns : List Str) (ps : List Core) : Prop := s ∈ ps.flatMap pfR ∧ ¬ s ∈ ns
open Classical in
noncomputable def dM (s : Str) (b : Core) (ns : List Str) (ps : List Core) : List Str × List Core :=
 if aU2 s ns ps then
  ((mU sb (pfR b) ns ([], ps, ps.flatMap pfR ++ ns ++ pfR b)).1, (mU sb (pfR b) ns ([], ps, ps.flatMap pfR ++ ns ++ pfR b)).2.1.map (fun p => sb p s b))
 else (ns, ps)
end
def mkB : List Ty → List Str → List Core → List Bind
 | t :: ts, n :: ns, p :: ps => .mk n t p :: mkB ts ns ps
 | _, _, _ => []
section
variable {sb : Core → Str → Core → Core}
theorem rL {far : List Str} {st : List Str × List Core × List Str} {n : Str} : (fG sb far st n).1.length = st.1.length + 1 ∧ (fG sb far st n).2.1.length = st.2.1.length ∧ (fG sb far st n).2.2.length ≤ st.2.2.length + 1 := by
 unfold fG;split <;> simp
theorem wH {far : List Str} : ∀ {ns : List Str} {st : List Str × List Core × List Str}, (mU sb far ns st).1.length = st.1.length + ns.length ∧ (mU sb far ns st).2.1.length = st.2.1.length ∧ (mU sb far ns st).2.2.length ≤ st.2.2.length + ns.length
 | [], st => by simp [mU]
 | n :: ns, st => by
  have h := wH (far := far) (ns := ns) (st := fG sb far st n);obtain ⟨g1, g2, g3⟩ := rL (sb := sb) (far := far) (st := st) (n := n);unfold mU at h ⊢;rw [foldl_cons, length_cons];omega
theorem aKa {far ns : List Str} {st : List Str × List Core × List Str} {i : Nat} {n : Str} (h : ns[i]? = some n) : mU sb far (ns.take (i + 1)) st = fG sb far (mU sb far (ns.take i) st) n := by
 unfold mU;rw [take_add_one, h, foldl_append]; rfl
theorem pV {s : Str} {b : Core} {ns : List Str} {ps : List Core} : (dM sb s b ns ps).1.length = ns.length ∧ (dM sb s b ns ps).2.length = ps.length := by
 unfold dM;split
 ·obtain ⟨h1, h2, _⟩ := wH (sb := sb) (far := pfR b) (ns := ns) (st := ([], ps, ps.flatMap pfR ++ ns ++ pfR b));exact ⟨by simpa using h1, by simpa using h2⟩
 ·exact ⟨rfl, rfl⟩
end
def aGa (sb : Core → Core) (ps : List Core) (j : Nat) : List Core := (ps.take j).map sb ++ ps.drop j
theorem aNm {sb : Core → Core} {ps : List Core} {j : Nat} : (aGa sb ps j).length = ps.length := by unfold aGa; simp; omega
theorem aRy {sb : Core → Core} {ps : List Core} {j : Nat} {p : Core} (h : ps[j]? = some p) : (aGa sb ps j)[j]? = some p := by
 have hlt : j < ps.length := (List.getElem?_eq_some_iff.1 h).1
 unfold aGa;rw [List.getElem?_append_right (by simp; omega), length_map, length_take, min_eq_left (by omega), sub_self, List.getElem?_drop, add_zero, h]
theorem aJf {sb : Core → Core} {ps : List Core} {j : Nat} {p : Core} (h : ps[j]? = some p) : aGa sb ps (j + 1) = (aGa sb ps j).set j (sb p) := by
 have hlt : j < ps.length := (List.getElem?_eq_some_iff.1 h).1
 unfold aGa;rw [oO h, qW (by simp; omega), take_add_one, h];simp
theorem aJe {sb : Core → Core} {ps : List Core} : aGa sb ps 0 = ps := by simp [aGa]
theorem aNn {sb : Core → Core} {ps : List Core} : aGa sb ps ps.length = ps.map sb := by simp [aGa]
theorem pE (l : List Core) (j : Nat) (x : Core) : (aQ l).set j (aB x) = aQ (l.set j x) := by
 rw [bG, bG, map_set]
theorem tU : ∀ {ts : List Ty} {ns : List Str} {ps : List Core} {j : Nat} {t : Ty} {n : Str} {p : Core}, ts[j]? = some t → ns[j]? = some n → ps[j]? = some p → (mkB ts ns ps)[j]? = some (.mk n t p)
 | t' :: ts, n' :: ns, p' :: ps, 0, t, n, p, h1, h2, h3 => by
  simp at h1 h2 h3; subst h1 h2 h3; rfl
 | t' :: ts, n' :: ns, p' :: ps, j + 1, t, n, p, h1, h2, h3 => by
  simp only [List.getElem?_cons_succ] at h1 h2 h3;simp only [mkB, List.getElem?_cons_succ];exact tU h1 h2 h3
theorem rI : ∀ {ts : List Ty} {ns : List Str} {ps : List Core}, ns.length = ts.length → ps.length = ts.length → (mkB ts ns ps).length = ts.length
 | [], _, _, _, _ => by unfold mkB; rfl
 | t :: ts, n :: ns, p :: ps, h1, h2 => by
  simp only [length_cons] at h1 h2;simp only [mkB, length_cons, rI (ts := ts) (ns := ns) (ps := ps) (by omega) (by omega)]
theorem aD4 : ∀ {ts : List Ty} {ns : List Str} {ps : List Core} {j : Nat} {t : Ty} {n : Str} (x : Core), ts[j]? = some t → ns[j]? = some n → j < ps.length → (mkB ts ns ps).set j (.mk n t x) = mkB ts ns (ps.set j x)
 | t' :: ts, n' :: ns, p' :: ps, 0, t, n, x, h1, h2, _ => by
  simp at h1 h2; subst h1 h2; rfl
 | t' :: ts, n' :: ns, p' :: ps, j + 1, t, n, x, h1, h2, h3 => by
  simp only [List.getElem?_cons_succ] at h1 h2;simp only [mkB, set_cons_succ];rw [aD4 x h1 h2 (by simpa using h3)]
theorem aD5 : ∀ {ts : List Ty} {ns : List Str} {ps : List Core} {j : Nat} {t : Ty} {p : Core} (z : Str), ts[j]? = some t → ps[j]? = some p → j < ns.length → (mkB ts ns ps).set j (.mk z t p) = mkB ts (ns.set j z) ps
 | t' :: ts, n' :: ns, p' :: ps, 0, t, p, z, h1, h2, _ => by
  simp at h1 h2; subst h1 h2; rfl
 | t' :: ts, n' :: ns, p' :: ps, j + 1, t, p, z, h1, h2, h3 => by
  simp only [List.getElem?_cons_succ] at h1 h2;simp only [mkB, set_cons_succ];rw [aD5 z h1 h2 (by simpa using h3)]
theorem j1 (l : List Bind) (j : Nat) (x : Bind) : (aR l).set j (bA x) = aR (l.set j x) := by
 rw [bP, bP, map_set]
theorem aVz {l : List Core} {j : Nat} {x : Core} (h : l[j]? = some x) : (aQ l)[j]? = some (aB x) := iQ h
def grO (nG : List R) (pG : List R) : AObj := .var 125 [.ras nG.length 1 nG, .ras pG.length 1 pG]
def tH (tys : List Ty) (nk : Nat) (ns : List Str) (ps : List Core) : List (Nat × AObj) := [(701, .arr 73 15 (aR (mkB tys ns (ps.drop nk))) 0), (702, .arr 37 10 (aQ (ps.take nk)) 0)]
def tN (nb : Nat) : List R := (nR false nb nb).flatten
def tP (nk nb : Nat) : List R := (pR nk nb nb).flatten
theorem lJ {es : Nat} : ∀ {l : List (List R)}, (∀ r ∈ l, r.length = es) → l.flatten.length = l.length * es
 | [], _ => by simp
 | r :: l, h => by
  rw [flatten_cons, length_append, lJ fun q hq => h q (mem_cons_of_mem _ hq), h r mem_cons_self, length_cons, add_mul];omega
theorem aPa {nk nb : Nat} : (tP nk nb).length = nk + nb := by unfold tP; rw [lJ tM, aI3]; omega
theorem aPc {nk nb j : Nat} (h : j < nk) : ((tP nk nb).drop (j * 1)).take 1 = [.ep 702 j 0 nk] := eE tM j _ (aI5 h)
theorem aPb {nk nb j : Nat} (h : j < nb) : ((tP nk nb).drop ((nk + j) * 1)).take 1 = [.ep 701 j 5 nb] := eE tM _ _ (aI4 h)
theorem aH2 {nb : Nat} : ∀ r ∈ nR false nb nb, r.length = 1 := fun r hr => by
 unfold nR at hr;exact qY (fun _ => rfl) r (by simpa [gNm] using hr)
theorem aT8 {nb : Nat} : (tN nb).length = nb := by
 unfold tN;rw [lJ aH2];unfold nR;rw [length_append, fX]; simp [gNm]
theorem aT9 {nb j : Nat} (h : j < nb) : ((tN nb).drop (j * 1)).take 1 = [.ep 701 j 0 nb] := eE aH2 j _ (by
 unfold nR;rw [List.getElem?_append_right (by simp [gNm])];simp only [gNm, length_nil, sub_zero]
 exact aDi h)
theorem v8 {nk nb : Nat} : ∀ x ∈ R.refsL (tP nk nb), x = 701 ∨ x = 702 := fun x hx => by
 unfold tP at hx;rw [dA] at hx;unfold pR at hx;rw [j9] at hx;rcases mem_append.1 hx with hx | hx
 ·exact .inr (l9 (L := fun x => x = 702) (fun j x hx => by simpa [R.refsL, R.refs] using hx) _ x hx)
 ·exact .inl (l9 (L := fun x => x = 701) (fun j x hx => by simpa [R.refsL, R.refs] using hx) _ x hx)
theorem aH1 {nb : Nat} : ∀ x ∈ R.refsL (tN nb), x = 701 := fun x hx => by
 unfold tN at hx;rw [dA] at hx;unfold nR at hx;rw [j9] at hx;rcases mem_append.1 hx with hx | hx
 ·simp [gNm, c8] at hx
 ·exact l9 (L := fun x => x = 701) (fun j x hx => by simpa [R.refsL, R.refs] using hx) _ x hx
theorem aAz {nk nb : Nat} : ∀ x ∈ (grO (tN nb) (tP nk nb)).refs, x = 701 ∨ x = 702 := fun x hx => by
 have hx : x ∈ R.refsL (tN nb) ++ (R.refsL (tP nk nb) ++ []) := hx;rw [append_nil] at hx;rcases mem_append.1 hx with hx | hx
 ·exact .inl (aH1 x hx)
 ·exact v8 x hx
abbrev tG (tys : List Ty) (nk : Nat) (ns : List Str) (ps : List Core) : List (Nat × AObj) := (3, grO (tN tys.length) (tP nk tys.length)) :: tH tys nk ns ps
theorem tGW {tys : List Ty} {nk : Nat} {ns : List Str} {ps : List Core} : GW (tG tys nk ns ps) [] := ⟨⟨fun _ h => (by cases h), nodup_nil, fun _ h => (by cases h)⟩, fun x hx => by
 have hx : x ∈ (grO (tN tys.length) (tP nk tys.length)).refs ++ [] := hx;rw [append_nil] at hx;rcases aAz x hx with rfl | rfl
 ·exact .inl (by simp [tG, tH, keys])
 ·exact .inl (by simp [tG, tH, keys]), rfl, rfl⟩
theorem aQp (tys : List Ty) (nk : Nat) (ns : List Str) (ps : List Core) (nm : Str) (b : Core) (sb : Core → Core) (hn : ns.length = tys.length) (hp : ps.length = nk + tys.length) (hb : ps.length ≤ 570000000000)
  (hs : ∀ p ∈ ps, aV Tryz.prog 25 [.pa (aB p), Go.AM.T nm, .pa (aB b)] [] (.pa (aB (sb p))) []) :
  aV Tryz.prog 131 [Go.AM.T nm, .pa (aB b), .one (.vp 3 0)] (tG tys nk ns ps ++ []) (.tup []) (tG tys nk ns (ps.map sb) ++ []) := by
 have hF : TF [] := tGW (tys := tys) (nk := nk) (ns := ns) (ps := ps).tf;have hpl := aPa (nk := nk) (nb := tys.length);have hkr : ∀ x ∈ R.refsL (tP nk tys.length), Kn [(4, .var 37 (bD b))] (tG tys nk ns ps) [] x := fun x hx => by
  rcases v8 x hx with rfl | rfl
  ·exact .inr (.inl (by simp [tG, tH, keys]))
  ·exact .inr (.inl (by simp [tG, tH, keys]))
 refine sK hF (n := 23) tok Tryz.func131 rfl rfl rfl ?_;refine a8 (ag [] rfl ?_);refine a8 (ag [] rfl ?_);refine aC ?_;refine aL (fun j : Nat => mkt [(0, Go.AM.T nm), (2, .one (.vp 3 0)), (4, .one (.vp 4 0)), (8, .one (.ras (tP nk tys.length).length 1 (tP nk tys.length))), (9, I .i64 (((tP nk tys.length).length : Nat) : Int)), (10, I .i64 j)] ([(4, .var 37 (bD b))] ++ tG tys nk ns (aGa sb ps j)) []) (fun j => j ≤ (tP nk tys.length).length) (fun j => (tP nk tys.length).length - j) 0 (zero_le _) ?_ ?_
 ·rw [aJe];exact slG tGW (h1 := Kn.app Kn.nil (Kn.app (Kn.of rfl) (Kn.app (Kn.of rfl) (Kn.app hkr Kn.nil))))
 intro j hj;have hkr : ∀ ps', ∀ x ∈ R.refsL (tP nk tys.length), Kn [(4, .var 37 (bD b))] (tG tys nk ns ps') [] x := fun ps' x hx => by
  rcases v8 x hx with rfl | rfl
  ·exact .inr (.inl (by simp [tG, tH, keys]))
  ·exact .inr (.inl (by simp [tG, tH, keys]))
 refine a8 (ag [] rfl ?_);refine a8 (aA rfl (fun hb => ?_) (fun hb => ?_))
 ·have hlt : j < (tP nk tys.length).length := by
   have : (j : Int) < ((tP nk tys.length).length : Int) := of_decide_eq_true hb;omega
  obtain ⟨p, hpj⟩ := aK (show j < ps.length by omega);have hc := hs p (List.mem_of_getElem? hpj);have hmj := aRy (sb := sb) hpj;have hms := aJf (sb := sb) hpj;have hml := aNm (sb := sb) (ps := ps) (j := j);generalize aGa sb ps j = qs at hmj hms hml ⊢;have hsz1 : nk = (aQ (qs.take nk)).length := by rw [bG, length_map, length_take]; omega
  have hsz2 : tys.length = (aR (mkB tys ns (qs.drop nk))).length := by rw [bP, length_map, rI hn (by rw [length_drop]; omega)]
  refine aD ?_;by_cases hjk : j < nk
  ·have ht1 := aPc (nb := tys.length) hjk;have hrow : (aQ (qs.take nk))[j]? = some (aB p) := aVz (by rw [List.getElem?_take, if_pos hjk, hmj]);refine a8 (aC (a8 (ag [(0, .rowR j [.ep 702 j 0 nk])] rfl ?_)));refine aE mixed ?_;refine ak 6 [(3, .row j (aB p))] rfl ?_;refine kc hc ?_;refine ak 2 [(8, .row j (aB p))] rfl ?_;refine az ?_;refine ag [] rfl ?_;refine ⟨j + 1, hlt, by dsimp only; omega, ?_⟩;dsimp only;rw [hms];refine slG tGW (fun i hi => GW.kf i hi) (h1 := Kn.app Kn.nil (Kn.app (Kn.of rfl) (Kn.app (Kn.of rfl) (Kn.app (hkr _) Kn.nil)))) (hh := ⟨⟨_, rfl, .varS rfl⟩, ⟨_, rfl, .varS rfl⟩, ⟨_, rfl, .arrS ?_⟩, ⟨_, rfl, .arrS ?_⟩, trivial⟩)
   ·rw [List.drop_set_of_lt hjk]
   ·rw [List.take_set];exact pE _ _ _
  ·obtain ⟨j', rfl⟩ : ∃ j', j = nk + j' := ⟨j - nk, by omega⟩
   have hjb : j' < tys.length := by omega
   obtain ⟨t, ht⟩ := aK hjb;obtain ⟨n, hnn⟩ := aK (show j' < ns.length by omega);have hd : (qs.drop nk)[j']? = some p := by rw [List.getElem?_drop]; exact hmj
   have ht1 := aPb (nk := nk) hjb;have hrow : (aR (mkB tys ns (qs.drop nk)))[j']? = some (bA (.mk n t p)) := dG (tU ht hnn hd);refine a8 (aC (a8 (ag [(0, .rowR (nk + j') [.ep 701 j' 5 tys.length])] rfl ?_)));refine aE mixed ?_;refine ak 6 [(3, .row j' (bA (.mk n t p)))] rfl ?_;refine kc hc ?_;refine ak 2 [(8, .row j' (bA (.mk n t p)))] rfl ?_;refine az ?_;refine ag [] rfl ?_;refine ⟨nk + j' + 1, hlt, by dsimp only; omega, ?_⟩;dsimp only;rw [hms];refine slG tGW (fun i hi => GW.kf i hi) (h1 := Kn.app Kn.nil (Kn.app (Kn.of rfl) (Kn.app (Kn.of rfl) (Kn.app (hkr _) Kn.nil)))) (hh := ⟨⟨_, rfl, .varS rfl⟩, ⟨_, rfl, .varS rfl⟩, ⟨_, rfl, .arrS ?_⟩, ⟨_, rfl, .arrS ?_⟩, trivial⟩)
   ·rw [List.drop_set, if_neg (by omega), Nat.add_sub_cancel_left, ← aD4 _ ht hnn (by rw [length_drop]; omega), ← j1];rfl
   ·rw [List.take_set_of_le (by omega)]
 have hge : j = ps.length := by
  have : ¬ (j : Int) < ((tP nk tys.length).length : Int) := of_decide_eq_false hb;omega
 subst hge;rw [aNn];refine aO ?_;exact ⟨.inl rfl, aBq (hl := tG tys nk ns (ps.map sb)) hF (by repeat (first | exact FarEq.raw hF | (refine FarEq.updL hF ?_) | (refine FarEq.upd hF ?_))) ⟨[], [], .nil, .nil, rfl⟩ (fun _ h => by cases h) tGW.refs (fun i hi => GW.kf i hi) (fun p hp => by rcases mem_append.1 hp with hp | hp; exact (all_eq_true.1 (tGW (tys := tys) (nk := nk) (ns := ns) (ps := ps)).plain) p hp; cases hp)⟩
theorem rY (s : Str) : aV Tryz.prog 52 [Go.AM.T s] [] (.pa (aB (vC s))) [] := by
 refine bT (n := 5) tok Tryz.func52 rfl rfl rfl ?_;refine a8 (ag [] rfl ?_);refine a8 (ag [] rfl ?_);exact aI (rtC trw)
theorem aR8 {l : List Core} {j : Nat} {p : Core} (h : l[j]? = some p) : (l.take (j + 1)).flatMap pfR = (l.take j).flatMap pfR ++ pfR p := by
 rw [take_add_one, h, flatMap_append];simp
theorem aVy (l : List Core) (j : Nat) : ((l.take j).flatMap pfR).length ≤ (l.flatMap pfR).length := by
 have : l.flatMap pfR = (l.take j).flatMap pfR ++ (l.drop j).flatMap pfR := by rw [← flatMap_append, take_append_drop]
 rw [this, length_append]; omega
structure PutOk (sb : Core → Str → Core → Core) (P : Core → Prop) (s : Str) (b : Core) (ps : List Core) : Prop where
 in_ : ∀ p ∈ ps, P p
 free : ∀ p ∈ ps, aV Tryz.prog 67 [.pa (aB p)] [] (bU (pfR p)) []
 far : aV Tryz.prog 67 [.pa (aB b)] [] (bU (pfR b)) []
 ren : ∀ p n z, P p → z.length ≤ 30 → P (sb p n (vC z))
 subz : ∀ p n z, P p → z.length ≤ 30 → aV Tryz.prog 25 [.pa (aB p), Go.AM.T n, .pa (aB (vC z))] [] (.pa (aB (sb p n (vC z)))) []
 subb : ∀ p, P p → aV Tryz.prog 25 [.pa (aB p), Go.AM.T s, .pa (aB b)] [] (.pa (aB (sb p s b))) []
 itoa : dP 540000000000
noncomputable def gSt (sb : Core → Str → Core → Core) (b : Core) (ns : List Str) (ps : List Core) (i : Nat) : List Str × List Core × List Str := mU sb (pfR b) (ns.take i) ([], ps, ps.flatMap pfR ++ ns ++ pfR b)
noncomputable def gNs (sb : Core → Str → Core → Core) (b : Core) (ns : List Str) (ps : List Core) (i : Nat) : List Str := (gSt sb b ns ps i).1 ++ ns.drop i
section
variable {sb : Core → Str → Core → Core} {b : Core} {ns : List Str} {ps : List Core} {i : Nat} {n : Str}
theorem gO (hi : i ≤ ns.length) : (gSt sb b ns ps i).1.length = i ∧ (gSt sb b ns ps i).2.1.length = ps.length ∧ (gSt sb b ns ps i).2.2.length ≤ (ps.flatMap pfR ++ ns ++ pfR b).length + i := by
 obtain ⟨h1, h2, h3⟩ := wH (sb := sb) (far := pfR b) (ns := ns.take i) (st := ([], ps, ps.flatMap pfR ++ ns ++ pfR b));rw [length_take, min_eq_left hi] at h1 h3;exact ⟨by unfold gSt; simpa using h1, h2, h3⟩
theorem aJ8 (hi : i ≤ ns.length) : (gNs sb b ns ps i).length = ns.length := by
 unfold gNs;rw [length_append, (gO hi).1, length_drop]; omega
theorem aP5 (h : ns[i]? = some n) : (gNs sb b ns ps i)[i]? = some n := by
 have hlt : i < ns.length := (List.getElem?_eq_some_iff.1 h).1
 unfold gNs;rw [List.getElem?_append_right (by rw [(gO (le_of_lt hlt)).1]; exact le_refl _), (gO (le_of_lt hlt)).1, sub_self, List.getElem?_drop, add_zero, h]
theorem nP (h : ns[i]? = some n) : gSt sb b ns ps (i + 1) = fG sb (pfR b) (gSt sb b ns ps i) n := aKa h
theorem aP4 (h : ns[i]? = some n) (hf : n ∈ pfR b) : gNs sb b ns ps (i + 1) = (gNs sb b ns ps i).set i (b8 (gSt sb b ns ps i).2.2) := by
 have hlt : i < ns.length := (List.getElem?_eq_some_iff.1 h).1
 have hl := (gO (sb := sb) (b := b) (ps := ps) (le_of_lt hlt)).1
 unfold gNs;rw [nP h, oO h, qW hl];unfold fG;rw [if_pos hf];simp
theorem aJ7 (h : ns[i]? = some n) (hf : ¬ n ∈ pfR b) : gNs sb b ns ps (i + 1) = gNs sb b ns ps i := by
 unfold gNs;rw [nP h, oO h];unfold fG;rw [if_neg hf];simp
theorem aEk : gNs sb b ns ps 0 = ns := by unfold gNs gSt mU; simp
theorem wF : gSt sb b ns ps 0 = ([], ps, ps.flatMap pfR ++ ns ++ pfR b) := by unfold gSt mU; simp
theorem aJ9 : gNs sb b ns ps ns.length = (gSt sb b ns ps ns.length).1 := by unfold gNs; simp
theorem aJ5 : gSt sb b ns ps ns.length = mU sb (pfR b) ns ([], ps, ps.flatMap pfR ++ ns ++ pfR b) := by unfold gSt; rw [take_length]
theorem aJ6 {P : Core → Prop} {s : Str} (h : PutOk sb P s b ps) : ∀ {i : Nat}, i ≤ ns.length → (gSt sb b ns ps i).2.2.length ≤ 540000000000 → (∀ j, j ≤ i → (gSt sb b ns ps j).2.2.length ≤ 540000000000) → ∀ p ∈ (gSt sb b ns ps i).2.1, P p
 | 0, _, _, _ => by rw [wF]; exact h.in_
 | i + 1, hi, _, hb => by
  obtain ⟨n, hn⟩ := aK (show i < ns.length by omega);have ih := aJ6 h (i := i) (by omega) (hb i (by omega)) fun j hj => hb j (by omega)
  rw [nP hn];unfold fG;split
  ·intro p hp;obtain ⟨q, hq, rfl⟩ := mem_map.1 hp;exact h.ren q n _ (ih q hq) (le_trans (jD _ (hb i (by omega))) (by omega))
  ·exact ih
end
end Go.Proofs.YtmoekkcdkjopgaaGreatDoor
