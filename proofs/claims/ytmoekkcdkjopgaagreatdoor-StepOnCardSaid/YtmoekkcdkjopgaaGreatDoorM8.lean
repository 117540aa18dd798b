/-
  Texts Lc5 to Lg7 in one.
-/
import Derived.Test.YtmoekkcdkjopgaaGreatDoorM7
open List (all_eq_true append_assoc append_nil cons_append drop_eq_getElem_cons drop_length filter_cons flatMap_append flatMap_cons flatten_cons foldl_append foldl_cons length_append length_cons length_drop length_map length_nil length_take map_append map_cons map_map map_nil map_set mem_append mem_cons mem_cons_of_mem mem_cons_self mem_filter mem_flatMap mem_map mem_of_mem_take mem_singleton nil_append nodup_append nodup_cons nodup_nil set_cons_succ take_add_one take_append_drop take_length take_succ_cons take_zero)
open Nat (add_assoc add_mul add_zero le_of_lt le_refl le_trans min_eq_left mul_le_mul_right sub_self sub_zero zero_add zero_le)
namespace Go.Proofs.YtmoekkcdkjopgaaGreatDoor
open Go Go.AM
set_option maxRecDepth 20000
def nm0 (c : Core) : List (List C) := if c.form = 5 then [[.pt ((aC c).drop 2)]] else []
def aB4 (b : Bind) : List C := [.pt ((bA b).drop 0)]
def aGv (b : Bind) : List C := [.pt ((bA b).drop 5)]
def gS (k : Core) : List C := [.pt (aC k)]
def xI (v : Str) : List C := [.pt (bN v)]
def aCb (a : Alt) : List C := [.sl 1 (a.vars.map xI), .sl 1 [[.pt ((dQ a).drop 4)]]]
def aVz (c : Core) : List C := [.sl 1 (nm0 c ++ c.binds.map aB4), .sl 1 (c.kids.map gS ++ c.binds.map aGv)]
def nT (c : Core) : List (List C) := aVz c :: c.alts.map aCb
theorem qP {α : Type} (f : α → List C) (w : List (List C)) {l : List α} {i : Nat} {x : α} (h : l[i]? = some x) : w ++ (l.take i).map f ++ [f x] = w ++ (l.take (i + 1)).map f := by
 rw [fG h, map_append, append_assoc]; rfl
theorem zG (c : Core) (hsz : b6 c ≤ 570000000000) : aU Tryz.prog 66 [.one (.c (.pt (aC c)))] [] (.one (.c (.sl 2 (nT c)))) [] := by
 obtain ⟨f, n, s, t, ks, bs, al⟩ := c;obtain ⟨ihk, ihb, iha, hkl, hbl, hal⟩ := @kA f n s t ks bs al;have hkB : (aR bs).length = bs.length := by rw [bO, length_map]
 have hkK : (aQ ks).length = ks.length := by rw [bC, length_map]
 have hkA : (c9 al).length = al.length := by rw [bH, length_map]
 have hW : (nm0 (.mk f n s t ks bs al)).length ≤ 1 := by unfold nm0; split <;> simp
 have hW5 : nm0 (.mk f n s t ks bs al) = if f = 5 then [[.pt ((aC (.mk f n s t ks bs al)).drop 2)]] else [] := rfl
 have hEG : nT (.mk f n s t ks bs al) = [.sl 1 (nm0 (.mk f n s t ks bs al) ++ bs.map aB4), .sl 1 (ks.map gS ++ bs.map aGv)] :: al.map aCb := rfl;rw [hEG];generalize nm0 (.mk f n s t ks bs al) = W at hW hW5 ⊢;refine bT (n := 123) tok Tryz.func66 rfl rfl rfl ?_;refine a8 (ag [] rfl ?_);refine a8 (ag [] rfl ?_);refine AWp.sub (Sub.ownCell (x := 3) (k := 1) (id := 712) 116 1 rfl rfl rfl) (AWp.sub (Sub.ownCell (x := 3) (k := 0) (id := 711) 167 1 rfl rfl rfl) ?_);refine a8 (a8 (ag [] rfl ?_));refine aB ?_;refine aL (fun i : Nat => mk [(0, .one (.c (.pt (aC (.mk f n s t ks bs al))))), (3, .one (.vp 3 0)), (16, I .i64 ((aQ ks).length : Int)), (17, I .i64 i)] [(3, .var 125 [.hs 711 0 0 0, .hs 712 0 i i]), (711, .arr 167 1 [] 0), (712, .arr 116 1 ((ks.take i).map gS) 0)]) (fun i => i ≤ ks.length) (fun i => ks.length - i) 0 (zero_le _) sl ?_;intro i hi;refine a8 (ag [] rfl ?_);refine a8 (aA rfl (fun hb => ?_) (fun hb => ?_))
 ·have hlt := ltD hb hkK;obtain ⟨k, hki⟩ := aK hlt;have hki' := iP hki;have hrows := qQ gS hki;refine aD ?_;refine a8 (aB (a8 (ag [] rfl ?_)));refine ag [(7, .row i (aC k))] rfl ?_;refine ag [] rfl ?_;exact ⟨i + 1, hlt, by dsimp only; omega, sl⟩
 have hge := geD hb hkK hi;subst hge;rw [take_length];refine aM ?_;refine a8 (AWp.cut (mk [(0, .one (.c (.pt (aC (.mk f n s t ks bs al))))), (3, .one (.vp 3 0))] [(3, .var 125 [.hs 711 0 W.length W.length, .hs 712 0 ks.length ks.length]), (711, .arr 167 1 W 0), (712, .arr 116 1 (ks.map gS) 0)]) ?_ ?_)
 ·refine a8 (ag [] rfl ?_);refine aA rfl (fun hb => ?_) (fun hb => ?_)
  ·have h5 : f = 5 := of_decide_eq_true hb;rw [if_pos h5] at hW5;subst hW5;exact ag [] rfl sl
  ·have h5 : ¬ f = 5 := of_decide_eq_false hb;rw [if_neg h5] at hW5;subst hW5;exact aD sl
 clear hW5;refine a8 (a8 (ag [] rfl ?_));refine aB ?_;refine aL (fun i : Nat => mk [(0, .one (.c (.pt (aC (.mk f n s t ks bs al))))), (3, .one (.vp 3 0)), (49, I .i64 ((aR bs).length : Int)), (50, I .i64 i)] [(3, .var 125 [.hs 711 0 (W.length + i) (W.length + i), .hs 712 0 (ks.length + i) (ks.length + i)]), (711, .arr 167 1 (W ++ (bs.take i).map aB4) 0), (712, .arr 116 1 (ks.map gS ++ (bs.take i).map aGv) 0)]) (fun i => i ≤ bs.length) (fun i => bs.length - i) 0 (zero_le _) sl ?_;intro i hi;refine a8 (ag [] rfl ?_);refine a8 (aA rfl (fun hb => ?_) (fun hb => ?_))
 ·have hlt := ltD hb hkB;obtain ⟨b, hbi⟩ := aK hlt;have hbi' := dC hbi;have hr1 := qP aB4 W hbi;have hr2 := qP aGv (ks.map gS) hbi;refine aD ?_;refine a8 (aB (a8 (ag [] rfl ?_)));refine a8 (ag [(5, .row i (bA b))] rfl ?_);refine ag [] rfl ?_;refine ag [] rfl ?_;exact ⟨i + 1, hlt, by dsimp only; omega, sl⟩
 have hge := geD hb hkB hi;subst hge;rw [take_length];have hl1 : (W ++ bs.map aB4).length = W.length + bs.length := by simp
 have hl2 : (ks.map gS ++ bs.map aGv).length = ks.length + bs.length := by simp
 rw [← hl1, ← hl2];generalize W ++ bs.map aB4 = N0;generalize ks.map gS ++ bs.map aGv = P0;refine aM ?_;refine AWp.sub (Sub.freeze (id := 711) rfl) (AWp.sub (Sub.freeze (id := 712) rfl) (AWp.sub (vp 3 [.sl 1 N0, .sl 1 P0]) ?_));refine a8 (ag [(1, .id 500)] rfl ?_);refine a8 (a8 (ag [] rfl ?_));refine aB ?_;refine aL (fun i : Nat => mk [(0, .one (.c (.pt (aC (.mk f n s t ks bs al))))), (7, .one (.hs 500 0 (1 + i) (1 + i))), (82, I .i64 ((c9 al).length : Int)), (83, I .i64 i)] [(500, .arr 125 2 ([[.sl 1 N0, .sl 1 P0]] ++ (al.take i).map aCb) 0)]) (fun i => i ≤ al.length) (fun i => al.length - i) 0 (zero_le _) sl ?_;intro i hi;refine a8 (ag [] rfl ?_);refine a8 (aA rfl (fun hb => ?_) (fun hb => ?_))
 ·have hlt := ltD hb hkA;obtain ⟨a, hai⟩ := aK hlt;have hai' := oM hai;have hav := fR (List.mem_of_getElem? hai);have hvl := oA a;have hrows := qP aCb [[.sl 1 N0, .sl 1 P0]] hai;have hvk : (a.vars.map bN).length = a.vars.length := length_map _;have hgl : (([[.sl 1 N0, .sl 1 P0]] : List (List C)) ++ (al.take i).map aCb).length = 1 + i := by
   rw [length_append, length_map, length_take];show 1 + min i al.length = _;omega
  have hall : al.length ≤ 570000000000 := by omega
  generalize ([[.sl 1 N0, .sl 1 P0]] : List (List C)) ++ (al.take i).map aCb = G at hgl hrows ⊢;rw [b6] at hsz;refine aD ?_;refine a8 (aB (a8 (ag [] rfl ?_)));refine a8 (ag [(5, .row i (dQ a))] rfl ?_);refine a8 (ag [(3, .all)] rfl ?_);refine AWp.sub (Sub.ownCell (x := 10) (k := 0) (id := 721) 167 1 rfl rfl rfl) ?_;refine a8 (a8 (ag [] rfl ?_));refine aB ?_;refine aL (fun j : Nat => mk [(0, .one (.c (.pt (aC (.mk f n s t ks bs al))))), (7, .one (.hs 500 0 (1 + i) (1 + i))), (9, .one (.c (.pt (dQ a)))), (10, .one (.vp 10 0)), (82, I .i64 ((c9 al).length : Int)), (83, I .i64 i), (101, I .i64 ((a.vars.map bN).length : Int)), (102, I .i64 j)] [(500, .arr 125 2 G 0), (10, .var 125 [.hs 721 0 j j, .c (.sl 1 [[.pt ((dQ a).drop 4)]])]), (721, .arr 167 1 ((a.vars.take j).map xI) 0)]) (fun j => j ≤ a.vars.length) (fun j => a.vars.length - j) 0 (zero_le _) sl ?_;intro j hj;refine a8 (ag [] rfl ?_);refine a8 (aA rfl (fun hb => ?_) (fun hb => ?_))
  ·have hlt2 := ltD hb hvk;obtain ⟨v, hv⟩ := aK hlt2;have hv' := bQ bN hv;have hr3 := qQ xI hv;refine aD ?_;refine a8 (aB (a8 (ag [] rfl ?_)));refine ag [(7, .row j (bN v))] rfl ?_;refine ag [] rfl ?_;exact ⟨j + 1, hlt2, by dsimp only; omega, sl⟩
  have hge2 := geD hb hvk hj;subst hge2;rw [take_length];have hlv : a.vars.length = (a.vars.map xI).length := (length_map _).symm;refine aM ?_;refine AWp.sub (Sub.freeze (id := 721) rfl) (AWp.sub (vp 10 (aCb a)) ?_);refine ag [(2, .all)] rfl ?_;refine ag [] rfl ?_;exact ⟨i + 1, hlt, by dsimp only; omega, sl⟩
 have hge := geD hb hkA hi;subst hge;rw [take_length];refine aM ?_;refine a8 (ag [] rfl ?_);refine AWp.sub (Sub.freeze (id := 500) rfl) ?_;exact aI (rtT (hc := hs_all rfl rfl (by simp; omega) rfl))
def gl (c : Core) : List (List (List C) × List Core) := (nm0 c ++ c.binds.map aB4, c.kids ++ c.binds.map Bind.body) :: c.alts.map fun a => (a.vars.map xI, [a.body])
def jY (g : List (List C) × List Core) : List C := [.sl 1 g.1, .sl 1 (g.2.map gS)]
theorem pB (c : Core) : nT c = (gl c).map jY := by
 obtain ⟨f, n, s, t, ks, bs, al⟩ := c;unfold nT gl;rw [map_cons, map_map];congr 1;unfold aVz jY;rw [map_append, map_map];rfl
mutual
def eU : Core → Nat
 | .mk _ _ _ _ ks bs al => 1 + (bK ks + (dL bs + dS al))
def bK : List Core → Nat
 | [] => 0
 | c :: l => eU c + bK l
def dL : List Bind → Nat
 | [] => 0
 | .mk _ _ c :: l => eU c + dL l
def dS : List Alt → Nat
 | [] => 0
 | .mk _ _ _ _ c :: l => eU c + dS l
end
theorem oF : ∀ a b, bK (a ++ b) = bK a + bK b
 | [], b => by rw [nil_append, bK, zero_add]
 | x :: a, b => by rw [cons_append, bK, bK, oF a b, add_assoc]
theorem sT : ∀ l : List Bind, bK (l.map Bind.body) = dL l
 | [] => by rw [map_nil, bK, dL]
 | .mk s t c :: l => by rw [map_cons, bK, dL, sT l]; rfl
def nM : List (List (List C) × List Core) → Nat
 | [] => 0
 | g :: l => bK g.2 + nM l
theorem yQ : ∀ l : List Alt, nM (l.map fun a => (a.vars.map xI, [a.body])) = dS l
 | [] => by rw [map_nil, nM, dS]
 | .mk f n s v c :: l => by rw [map_cons, nM, dS, yQ l, bK, bK]; rfl
theorem aRn (c : Core) : eU c = 1 + nM (gl c) := by
 obtain ⟨f, n, s, t, ks, bs, al⟩ := c;unfold gl;rw [nM, eU];show _ = 1 + (bK (ks ++ bs.map Bind.body) + nM (al.map fun a => (a.vars.map xI, [a.body])));rw [oF, sT, yQ];omega
mutual
theorem size_le : ∀ c : Core, eU c ≤ b6 c
 | .mk f n s t ks bs al => by rw [eU, b6]; have := aDh ks; have := aDi bs; have := aDj al; omega
theorem aDh : ∀ l : List Core, bK l ≤ bJ l
 | [] => by rw [bK]; exact zero_le _
 | c :: l => by rw [bK, bJ]; have := size_le c; have := aDh l; omega
theorem aDi : ∀ l : List Bind, dL l ≤ cB l
 | [] => by rw [dL]; exact zero_le _
 | .mk s t c :: l => by rw [dL, cB, bsize]; have := size_le c; have := aDi l; omega
theorem aDj : ∀ l : List Alt, dS l ≤ bZ l
 | [] => by rw [dS]; exact zero_le _
 | .mk f n s v c :: l => by rw [dS, bZ, lZ]; have := size_le c; have := aDj l; omega
end
theorem aV0 {c : Core} {g : List (List C) × List Core} (h : g ∈ gl c) {x : Core} (hx : x ∈ g.2) : b6 x < b6 c := by
 obtain ⟨f, n, s, t, ks, bs, al⟩ := c;obtain ⟨ihk, ihb, iha, hkl, hbl, hal⟩ := @kA f n s t ks bs al;unfold gl at h;rcases mem_cons.1 h with rfl | h
 ·rcases mem_append.1 hx with hx | hx
  ·exact ihk x hx
  ·obtain ⟨b, hb, rfl⟩ := mem_map.1 hx;exact ihb b hb
 ·obtain ⟨a, ha, rfl⟩ := mem_map.1 h;rw [mem_singleton.1 hx];exact iha a ha
theorem aQa (c : Core) : (gl c).length ≤ b6 c ∧ ∀ g ∈ gl c, g.2.length ≤ b6 c ∧ g.1.length ≤ b6 c := by
 obtain ⟨f, n, s, t, ks, bs, al⟩ := c;have h1 := lO ks;have h2 := lR bs;have h3 := lS al;have hW : (nm0 (.mk f n s t ks bs al)).length ≤ 1 := by unfold nm0; split <;> simp
 rw [b6];unfold gl;refine ⟨?_, fun g hg => ?_⟩
 ·rw [length_cons, length_map];show al.length + 1 ≤ _;omega
 ·rcases mem_cons.1 hg with rfl | hg
  ·rw [length_append, length_append, length_map, length_map];show ks.length + bs.length ≤ _ ∧ _ + bs.length ≤ _;omega
  ·obtain ⟨a, ha, rfl⟩ := mem_map.1 hg;have h4 := fR (show a ∈ al from ha);have h5 := oA a;have h6 : 1 ≤ lZ a := by obtain ⟨f, n, s, v, c⟩ := a; rw [lZ]; omega
   show [a.body].length ≤ _ ∧ (a.vars.map xI).length ≤ _;rw [length_map, List.length_singleton];omega
theorem aJ9 {l : List (List (List C) × List Core)} {i : Nat} {g : List (List C) × List Core} (h : l[i]? = some g) : nM (l.take (i + 1)) = nM (l.take i) + bK g.2 := by
 have app : ∀ a b, nM (a ++ b) = nM a + nM b := by
  intro a b
  induction a with
  | nil => rw [nil_append, nM, zero_add]
  | cons x a ih => rw [cons_append, nM, nM, ih, add_assoc]
 rw [fG h, app, nM, nM, add_zero]
theorem aA3 {l : List Core} {i : Nat} {x : Core} (h : l[i]? = some x) : bK (l.take (i + 1)) = bK (l.take i) + eU x := by
 rw [fG h, oF, bK, bK, add_zero]
theorem aSf (l : List (List (List C) × List Core)) (i : Nat) : nM (l.take i) ≤ nM l := by
 induction l generalizing i with
 | nil => simp
 | cons g l ih =>
  cases i with
  | zero => simp [nM]
  | succ i => rw [take_succ_cons, nM, nM]; have := ih i; omega
theorem aId (l : List Core) (i : Nat) : bK (l.take i) ≤ bK l := by
 induction l generalizing i with
 | nil => simp
 | cons g l ih =>
  cases i with
  | zero => simp [bK]
  | succ i => rw [take_succ_cons, bK, bK]; have := ih i; omega
def aMe (c : Core) : Prop := b6 c ≤ 570000000000 → aU Tryz.prog 79 [.pa (aC c)] [] (I .i64 (eU c : Nat)) []
theorem aB1 (c : Core) (ih : ∀ x, b6 x < b6 c → aMe x) : aMe c := by
 intro hsz;have hgr := zG c hsz;have hsi := aRn c;have hsl := size_le c;have hin := fun {g} (h : g ∈ gl c) {x} hx => @aV0 c g h x hx
 obtain ⟨hgl, hgm⟩ := aQa c;rw [pB] at hgr;rw [hsi] at hsl ⊢;generalize gl c = L at hgr hsi hsl hin hgl hgm ⊢;have hkL : (L.map jY).length = L.length := length_map _;refine bT (n := 30) tok Tryz.func79 rfl rfl rfl ?_;refine a8 (ag [] rfl ?_);refine a8 (ag [] rfl ?_);refine AWp.sub (Sub.fvar (id := 1) (l := aC c) rfl (by simp [keys])) ?_;refine AWp.sub (st2 := mk [(1, .one (.c (.pt (aC c)))), (3, I .i64 1)] []) sl ?_;refine a8 (a8 (aE mixed ?_));refine kc hgr ?_;refine ak 2 [] rfl ?_;refine az ?_;refine aB ?_;refine aL (fun i : Nat => mk [(3, I .i64 ((1 + nM (L.take i) : Nat) : Int)), (8, .one (.c (.sl 2 (L.map jY)))), (9, I .i64 ((L.map jY).length : Int)), (10, I .i64 i)] []) (fun i => i ≤ L.length) (fun i => L.length - i) 0 (zero_le _) sl ?_;intro i hi;refine a8 (ag [] rfl ?_);refine a8 (aA rfl (fun hb => ?_) (fun hb => ?_))
 ·have hlt := ltD hb hkL;obtain ⟨g, hg⟩ := aK hlt;have hg' := bQ jY hg;have hgi := List.mem_of_getElem? hg;obtain ⟨hl1, hl2⟩ := hgm g hgi;have hgt := aJ9 hg;have hgl1 := aSf L (i + 1);have hkG : (g.2.map gS).length = g.2.length := length_map _;obtain ⟨G1, G⟩ := g;dsimp only at hl1 hl2 hgt hkG;refine aD ?_;refine a8 (aB (a8 (ag [(0, .row i (jY (G1, G)))] rfl ?_)));refine a8 (ag [] rfl ?_);refine aB ?_;refine aL (fun j : Nat => mk [(3, I .i64 ((1 + nM (L.take i) + bK (G.take j) : Nat) : Int)), (8, .one (.c (.sl 2 (L.map jY)))), (9, I .i64 ((L.map jY).length : Int)), (10, I .i64 i), (15, .one (.c (.sl 1 (G.map gS)))), (16, I .i64 ((G.map gS).length : Int)), (17, I .i64 j)] []) (fun j => j ≤ G.length) (fun j => G.length - j) 0 (zero_le _) sl ?_;intro j hj;refine a8 (ag [] rfl ?_);refine a8 (aA rfl (fun hb => ?_) (fun hb => ?_))
  ·have hlt2 := ltD hb hkG;obtain ⟨p, hp⟩ := aK hlt2;have hp' := bQ gS hp;have hpc := hin hgi (List.mem_of_getElem? hp);have hc := ih p hpc (by omega);have hst := aA3 hp;have hsl2 := aId G (j + 1);have hadd : ((1 + nM (L.take i) + bK (G.take j) : Nat) : Int) + ((eU p : Nat) : Int) = ((1 + nM (L.take i) + bK (G.take (j + 1)) : Nat) : Int) := by rw [hst]; omega
   refine aD ?_;refine a8 (aB (a8 (ag [(0, .row j (gS p))] rfl ?_)));refine ag [(4, .pc (I .i64 (eU p : Nat)))] rfl ?_;refine ag [] rfl ?_;refine ⟨j + 1, hlt2, by dsimp only; omega, ?_⟩;dsimp only;rw [← hadd];exact sl
  have hge2 := geD hb hkG hj;subst hge2;rw [take_length];refine aM ?_;refine ag [] rfl ?_;refine ⟨i + 1, hlt, by dsimp only; omega, ?_⟩;dsimp only;rw [show 1 + nM (L.take (i + 1)) = 1 + nM (L.take i) + bK G by rw [hgt]; omega];exact sl
 have hge := geD hb hkL hi;subst hge;rw [take_length];refine aM ?_;refine a8 (ag [] rfl ?_);exact aI rtT
theorem aQs : ∀ (n : Nat) (c : Core), b6 c ≤ n → aMe c
 | 0, c, h => by have := eZ c; omega
 | n + 1, c, h => aB1 c fun x hx => aQs n x (by omega)
def rD (o : List Str) (s : Str) : List Str := if s ∈ o then o else o ++ [s]
def mR (o l : List Str) : List Str := l.foldl rD o
theorem aJl (o : List Str) {l : List Str} {i : Nat} {s : Str} (h : l[i]? = some s) : mR o (l.take (i + 1)) = rD (mR o (l.take i)) s := by
 unfold mR; rw [fG h, foldl_append]; rfl
theorem aD8 (o : List Str) (s : Str) : (rD o s).length ≤ o.length + 1 := by unfold rD; split <;> simp
theorem pZ (o : List Str) : ∀ l : List Str, (mR o l).length ≤ o.length + l.length := by
 intro l
 induction l generalizing o with
 | nil => exact le_refl _
 | cons s l ih =>
  have h1 := ih (rD o s);have h2 := aD8 o s;show (mR (rD o s) l).length ≤ _;rw [length_cons]; omega
def ouO (o : List Str) : AObj := .arr 9 1 (o.map bN) 1
def ouV (o : List Str) : V := .one (.hs 500 0 o.length o.length)
theorem uF (o l : List Str) (h : o.length + l.length ≤ 600000000000) : aU Tryz.prog 124 [ouV o, bU l] [(500, ouO o)] (ouV (mR o l)) [(500, ouO (mR o l))] := by
 have hkl : (l.map bN).length = l.length := length_map _;refine bT (n := 23) tok Tryz.func124 rfl rfl rfl ?_;refine a8 (ag [] rfl ?_);refine a8 (a8 (ag [] rfl ?_));refine aB ?_;refine aL (fun i : Nat => mk [(0, ouV (mR o (l.take i))), (7, bU l), (8, I .i64 ((l.map bN).length : Int)), (9, I .i64 i)] [(500, ouO (mR o (l.take i)))]) (fun i => i ≤ l.length) (fun i => l.length - i) 0 (zero_le _) sl ?_;intro i hi;refine a8 (ag [] rfl ?_);refine a8 (aA rfl (fun hb => ?_) (fun hb => ?_))
 ·have hlt := ltD hb hkl;obtain ⟨s, hs⟩ := aK hlt;have hs' := bQ bN hs;have hst := aJl o hs;have hml := pZ o (l.take i);rw [length_take] at hml;generalize mR o (l.take i) = x at hst hml ⊢;have hco := bW x s (by omega);refine aD ?_;refine a8 (aB ?_);refine a8 (ag [(0, .row i (bN s))] rfl ?_);refine AWp.sub (Sub.freeze (id := 500) rfl) ?_;refine a8 (ag [(2, .pc (B (decide (s ∈ x))))] rfl ?_);refine aA rfl (fun hb => ?_) (fun hb => ?_)
  ·have hin : ¬ s ∈ x := by simpa using hb
   rw [rD, if_neg hin] at hst;refine ag [] rfl ?_;refine ag [] rfl ?_;refine ⟨i + 1, hlt, by dsimp only; omega, ?_⟩;dsimp only;rw [hst];exact sl (he := ⟨Go.AM.hs_ren (by simp) (by simp), rfl, rfl, rfl, trivial⟩) (hh := ⟨⟨_, rfl, by first | exact Go.AM.Ole.arrE (by simp; rfl) | exact Go.AM.Ole.arrS (by simp; rfl)⟩, trivial⟩)
  ·have hin : s ∈ x := by simpa using hb
   rw [rD, if_pos hin] at hst;refine aD ?_;refine ag [] rfl ?_;refine ⟨i + 1, hlt, by dsimp only; omega, ?_⟩;dsimp only;rw [hst];exact sl
 have hge := geD hb hkl hi;subst hge;rw [take_length];refine aM ?_;refine a8 (ag [] rfl ?_);exact aI rtT
def aG8 (p : Str × List C) : List C := [.pt (.str p.1 :: p.2)]
def suO (s : Str) : AObj := .var 9 [.c (.str s)]
theorem aS5 (p : Str × List C) (s : Str) : aU Tryz.prog 130 [.one (.c (.pt (.str p.1 :: p.2))), .one (.vp 9 0)] [(9, suO s)] (B (decide (p.1 = s))) [(9, suO s)] := by
 refine bT (n := 9) tok Tryz.func130 rfl rfl rfl ?_;refine a8 (ag [] rfl ?_);refine a8 (ag [] rfl ?_);exact aI rtT
theorem aWv (l : List (Str × List C)) (s : Str) (hl : l.length ≤ 600000000000) : aU Tryz.prog 175 [.one (.c (.sl 1 (l.map aG8))), .one (.clo 130 [.vp 9 0])] [(9, suO s)] (I .i64 (aP7 (fun p => decide (p.1 = s)) l 0)) [(9, suO s)] := by
 have hkl : (l.map aG8).length = l.length := length_map _;generalize hP : (fun p : Str × List C => decide (p.1 = s)) = P;refine bT (n := 19) tok Tryz.func175 rfl rfl rfl ?_;refine a8 (ag [] rfl ?_);refine a8 (a8 (ag [] rfl ?_));refine aB ?_;refine aL (fun i : Nat => mk [(0, .one (.c (.sl 1 (l.map aG8)))), (1, .one (.clo 130 [.vp 9 0])), (7, I .i64 ((l.map aG8).length : Int)), (8, I .i64 i)] [(9, suO s)]) (fun i => i ≤ l.length ∧ aP7 P l 0 = aP7 P (l.drop i) i) (fun i => l.length - i) 0 ⟨zero_le _, rfl⟩ sl ?_;intro i ⟨hi, hid⟩;refine a8 (ag [] rfl ?_);refine a8 (aA rfl (fun hb => ?_) (fun hb => ?_))
 ·have hlt := ltD hb hkl;obtain ⟨p, hp⟩ := aK hlt;have hp' := bQ aG8 hp;have hc : aU Tryz.prog 130 ([.one (.c (.pt (.str p.1 :: p.2)))] ++ ([.vp 9 0] : List R).map V.one) [(9, suO s)] (B (P p)) [(9, suO s)] := by rw [← hP]; exact aS5 p s
  have hdr : l.drop i = p :: l.drop (i + 1) := by rw [drop_eq_getElem_cons hlt, (List.getElem?_eq_some_iff.1 hp).2]
  rw [hdr, aP7] at hid;refine aD ?_;refine a8 (aB (a8 (ag [] rfl ?_)));refine a8 (aE mixed ?_);refine ak 5 [(3, .row i (aG8 p))] rfl ?_;refine kv (args := [.one (.c (.pt (.str p.1 :: p.2)))]) hc ?_;refine az ?_;refine aA rfl (fun hb => ?_) (fun hb => ?_)
  ·have hb : P p = true := hb;rw [if_pos hb] at hid;rw [hid];refine a8 (ag [] rfl ?_);exact aI rtT
  ·have hb : P p = false := hb;rw [if_neg (by rw [hb]; exact Bool.false_ne_true)] at hid;refine aD ?_;refine ag [] rfl ?_;exact ⟨i + 1, ⟨hlt, hid⟩, by dsimp only; omega, sl⟩
 have hge := geD hb hkl hi;subst hge;rw [drop_length, aP7] at hid;rw [hid];refine aM ?_;refine a8 (ag [] rfl ?_);exact aI (rtT (v := I .i64 (-1)) (hc := .refl))
theorem aWx (l : List (Str × List C)) (s : Str) (hl : l.length ≤ 600000000000) : aU Tryz.prog 129 [.one (.c (.sl 1 (l.map aG8))), .one (.clo 130 [.vp 9 0])] [(9, suO s)] (B (decide (s ∈ l.map (·.1)))) [(9, suO s)] := by
 have h := aWv l s hl;have hany : decide (s ∈ l.map (·.1)) = l.any fun p => decide (p.1 = s) := by
  rw [Bool.eq_iff_iff];simp only [decide_eq_true_eq, List.any_eq_true, mem_map]
 rw [hany, ← aJ7 _ l 0];refine bT (n := 9) tok Tryz.func129 rfl rfl rfl ?_;refine a8 (ag [] rfl ?_);refine a8 (aE mixed ?_);refine ak 2 [] rfl ?_;refine kc h ?_;refine ak 2 [] rfl ?_;refine az ?_;exact aI rtT
set_option maxHeartbeats 4000000
def n0 (f : Int) (s : Str) (o : List Str) (x : Str) : List Str := if ¬ f = 7 ∨ ¬ x = s then mR o [x] else o
def aAp (f : Int) (s : Str) (o l : List Str) : List Str := l.foldl (n0 f s) o
mutual
def tyR : Core → List Str
 | .mk f _ s t ks bs al => mZ al (mL bs (o8 f s ks (mR [] (tfR t))))
def o8 (f : Int) (s : Str) : List Core → List Str → List Str
 | [], o => o
 | c :: l, o => o8 f s l (aAp f s o (tyR c))
def mL : List Bind → List Str → List Str
 | [], o => o
 | .mk _ t c :: l, o => mL l (mR (mR o (tfR t)) (tyR c))
def mZ : List Alt → List Str → List Str
 | [], o => o
 | .mk _ _ _ _ c :: l, o => mZ l (mR o (tyR c))
def cT : Core → Nat
 | .mk _ _ _ t ks bs al => fw t + aY9 ks + aZa bs + aZb al
def aY9 : List Core → Nat
 | [] => 0
 | c :: l => cT c + aY9 l
def aZa : List Bind → Nat
 | [] => 0
 | .mk _ t c :: l => fw t + cT c + aZa l
def aZb : List Alt → Nat
 | [] => 0
 | .mk _ _ _ _ c :: l => cT c + aZb l
end
theorem aHh (f : Int) (s : Str) (o : List Str) (x : Str) : (n0 f s o x).length ≤ o.length + 1 := by
 unfold n0; split
 ·exact pZ o [x]
 ·omega
theorem aC2 (f : Int) (s : Str) : ∀ (l o : List Str), (aAp f s o l).length ≤ o.length + l.length
 | [], o => le_refl _
 | x :: l, o => by
  have h1 := aC2 f s l (n0 f s o x);have h2 := aHh f s o x;show (aAp f s (n0 f s o x) l).length ≤ _;rw [length_cons]; omega
theorem aCs {f : Int} {s : Str} : ∀ {l : List Core} {o : List Str} {i : Nat} {c : Core}, l[i]? = some c → o8 f s (l.take (i + 1)) o = aAp f s (o8 f s (l.take i) o) (tyR c)
 | d :: l, o, 0, c, h => by simp at h; subst h; rw [take_succ_cons, take_zero, take_zero, o8, o8, o8]
 | d :: l, o, i + 1, c, h => by rw [take_succ_cons, take_succ_cons, o8, o8]; exact aCs (l := l) (by simpa using h)
theorem aCu : ∀ {l : List Bind} {o : List Str} {i : Nat} {b : Bind}, l[i]? = some b → mL (l.take (i + 1)) o = mR (mR (mL (l.take i) o) (tfR b.ty)) (tyR b.body)
 | .mk s t c :: l, o, 0, b, h => by simp at h; subst h; rw [take_succ_cons, take_zero, take_zero, mL, mL, mL]; rfl
 | .mk s t c :: l, o, i + 1, b, h => by rw [take_succ_cons, take_succ_cons, mL, mL]; exact aCu (l := l) (by simpa using h)
theorem aCw : ∀ {l : List Alt} {o : List Str} {i : Nat} {a : Alt}, l[i]? = some a → mZ (l.take (i + 1)) o = mR (mZ (l.take i) o) (tyR a.body)
 | .mk f n s v c :: l, o, 0, a, h => by simp at h; subst h; rw [take_succ_cons, take_zero, take_zero, mZ, mZ, mZ]; rfl
 | .mk f n s v c :: l, o, i + 1, a, h => by rw [take_succ_cons, take_succ_cons, mZ, mZ]; exact aCw (l := l) (by simpa using h)
theorem aHo {f : Int} {s : Str} {o l : List Str} {j : Nat} {x : Str} (h : l[j]? = some x) : aAp f s o (l.take (j + 1)) = n0 f s (aAp f s o (l.take j)) x := by
 unfold aAp; rw [take_add_one, h, foldl_append]; rfl
theorem aR8 (o : List Str) (s : Str) : o.length ≤ (rD o s).length := by
 unfold rD; split
 ·exact le_refl _
 ·simp
theorem rC : ∀ (l o : List Str), o.length ≤ (mR o l).length
 | [], o => le_refl _
 | x :: l, o => le_trans (aR8 o x) (rC l (rD o x))
theorem aHq (f : Int) (s : Str) : ∀ (l o : List Str), o.length ≤ (aAp f s o l).length
 | [], o => le_refl _
 | x :: l, o => by
  refine le_trans ?_ (aHq f s l (n0 f s o x));unfold n0; split
  ·exact rC [x] o
  ·exact le_refl _
theorem aPd (f : Int) (s : Str) : ∀ (l : List Core) (o : List Str), o.length ≤ (o8 f s l o).length
 | [], o => by rw [o8]; exact le_refl _
 | c :: l, o => by rw [o8]; exact le_trans (aHq f s _ o) (aPd f s l _)
theorem aHg : ∀ (l : List Bind) (o : List Str), o.length ≤ (mL l o).length
 | [], o => by rw [mL]; exact le_refl _
 | .mk s t c :: l, o => by rw [mL]; exact le_trans (le_trans (rC _ o) (rC _ _)) (aHg l _)
theorem aCx : ∀ (l : List Alt) (o : List Str), o.length ≤ (mZ l o).length
 | [], o => by rw [mZ]; exact le_refl _
 | .mk f n s v c :: l, o => by rw [mZ]; exact le_trans (rC _ o) (aCx l _)
theorem aCr (f : Int) (s : Str) : ∀ (l : List Core) (o : List Str) (i : Nat), (o8 f s (l.take i) o).length ≤ (o8 f s l o).length
 | [], o, i => by rw [List.take_nil]; exact le_refl _
 | c :: l, o, 0 => by rw [take_zero, o8]; exact aPd f s _ o
 | c :: l, o, i + 1 => by rw [take_succ_cons, o8, o8]; exact aCr f s l _ i
theorem aCt : ∀ (l : List Bind) (o : List Str) (i : Nat), (mL (l.take i) o).length ≤ (mL l o).length
 | [], o, i => by rw [List.take_nil]; exact le_refl _
 | .mk s t c :: l, o, 0 => by rw [take_zero]; rw [show mL [] o = o from by rw [mL]]; exact aHg _ o
 | .mk s t c :: l, o, i + 1 => by rw [take_succ_cons, mL, mL]; exact aCt l _ i
theorem aCv : ∀ (l : List Alt) (o : List Str) (i : Nat), (mZ (l.take i) o).length ≤ (mZ l o).length
 | [], o, i => by rw [List.take_nil]; exact le_refl _
 | .mk f n s v c :: l, o, 0 => by rw [take_zero]; rw [show mZ [] o = o from by rw [mZ]]; exact aCx _ o
 | .mk f n s v c :: l, o, i + 1 => by rw [take_succ_cons, mZ, mZ]; exact aCv l _ i
mutual
def tyM : Core → Nat
 | .mk f n s t ks bs al => max (fw t) (max (tyR (.mk f n s t ks bs al)).length (max (aPe ks) (max (aHk bs) (aMw al))))
def aPe : List Core → Nat
 | [] => 0
 | c :: l => max (tyM c) (aPe l)
def aHk : List Bind → Nat
 | [] => 0
 | .mk _ t c :: l => max (fw t) (max (tyM c) (aHk l))
def aMw : List Alt → Nat
 | [] => 0
 | .mk _ _ _ _ c :: l => max (tyM c) (aMw l)
end
theorem aT6 {f n : Int} {s : Str} {t : Ty} {ks : List Core} {bs : List Bind} {al : List Alt} {K : Nat} (h : tyM (.mk f n s t ks bs al) ≤ K) : fw t ≤ K ∧ (tyR (.mk f n s t ks bs al)).length ≤ K ∧ aPe ks ≤ K ∧ aHk bs ≤ K ∧ aMw al ≤ K := by
 rw [tyM] at h; omega
theorem aHm (c : Core) : (tyR c).length ≤ tyM c := by cases c; rw [tyM]; omega
theorem aCy : ∀ {l : List Core} {c : Core}, c ∈ l → tyM c ≤ aPe l
 | d :: l, c, h => by
  rw [aPe];rcases mem_cons.1 h with rfl | h
  ·omega
  ·have := aCy h; omega
theorem aCz : ∀ {l : List Bind} {b : Bind}, b ∈ l → fw b.ty ≤ aHk l ∧ tyM b.body ≤ aHk l
 | .mk s t c :: l, b, h => by
  rw [aHk];rcases mem_cons.1 h with rfl | h
  ·show fw t ≤ _ ∧ tyM c ≤ _; omega
  ·have := aCz h; omega
theorem aC0 : ∀ {l : List Alt} {a : Alt}, a ∈ l → tyM a.body ≤ aMw l
 | .mk f n s v c :: l, a, h => by
  rw [aMw];rcases mem_cons.1 h with rfl | h
  ·show tyM c ≤ _; omega
  ·have := aC0 h; omega
def aCd (c : Core) : Prop := b6 c ≤ 570000000000 → tyM c ≤ 400000000 → aU Tryz.prog 61 [.pa (aC c)] [] (bU (tyR c)) []
theorem wX (c : Core) (ih : ∀ x, b6 x < b6 c → aCd x) : aCd c := by
 intro hsz hcT;obtain ⟨f, n, s, t, ks, bs, al⟩ := c;obtain ⟨ihk, ihb, iha, hkl, hbl, hal⟩ := @kA f n s t ks bs al;obtain ⟨hMt, hMr, hMk, hMb, hMa⟩ := aT6 hcT;rw [tyR] at hMr ⊢;have hkB : (aR bs).length = bs.length := by rw [bO, length_map]
 have hkK : (aQ ks).length = ks.length := by rw [bC, length_map]
 have hkA : (c9 al).length = al.length := by rw [bH, length_map]
 have htf := aE7 t (by omega);have htl := aV6 t;have hmo : aU Tryz.prog 124 [.one (.c .nl), bU (tfR t)] [] (ouV (mR [] (tfR t))) [(500, ouO (mR [] (tfR t)))] := aU.nilArg (pre := []) (post := [bU (tfR t)]) (hin := []) (uF [] (tfR t) (by simp; omega)) rfl;have hol := pZ [] (tfR t);simp only [length_nil] at hol;generalize mR [] (tfR t) = o0 at hmo hol hMr ⊢;refine bT (n := 76) tok Tryz.func61 rfl rfl rfl ?_;refine a8 (ag [] rfl ?_);refine a8 (aE mixed ?_);refine ak 2 [] rfl ?_;refine kc htf ?_;refine kc hmo ?_;refine ak 1 [] rfl ?_;refine az ?_;refine a8 (a8 (ag [] rfl ?_));refine aB ?_;refine aL (fun i : Nat => mk [(1, .one (.vp 1 0)), (3, ouV (o8 f s (ks.take i) o0)), (17, .one (.c (.sl 10 (aQ ks)))), (18, I .i64 ((aQ ks).length : Int)), (19, I .i64 i)] [(500, ouO (o8 f s (ks.take i) o0)), (1, .var 37 (bB (.mk f n s t ks bs al)))]) (fun i => i ≤ ks.length) (fun i => ks.length - i) 0 (zero_le _) sl ?_;intro i hi;have hl1 : (o8 f s (ks.take i) o0).length ≤ 400000000 := le_trans (aCr f s ks o0 i) (le_trans (aHg bs _) (le_trans (aCx al _) hMr));refine a8 (ag [] rfl ?_);refine a8 (aA rfl (fun hb => ?_) (fun hb => ?_))
 ·have hlt := ltD hb hkK;obtain ⟨k, hki⟩ := aK hlt;have hki' := iP hki;have hm := List.mem_of_getElem? hki;have hkm := aCy hm;have hc := ih k (ihk k hm) (by have := ihk k hm; omega) (by omega);have hkt : (tyR k).length ≤ 400000000 := by have := aHm k; omega
  have hst := aCs (f := f) (s := s) (o := o0) hki;generalize o8 f s (ks.take i) o0 = o at hst hl1 ⊢;have hkf : ((tyR k).map bN).length = (tyR k).length := length_map _;generalize tyR k = fk at hc hkt hst hkf;refine aD ?_;refine a8 (aB (a8 (ag [(0, .row i (aC k))] rfl ?_)));refine a8 (aE mixed ?_);refine ak 1 [] rfl ?_;refine kc hc ?_;refine ak 2 [] rfl ?_;refine az ?_;refine aB ?_;refine aL (fun j : Nat => mk [(1, .one (.vp 1 0)), (3, ouV (aAp f s o (fk.take j))), (17, .one (.c (.sl 10 (aQ ks)))), (18, I .i64 ((aQ ks).length : Int)), (19, I .i64 i), (24, bU fk), (25, I .i64 ((fk.map bN).length : Int)), (26, I .i64 j)] [(500, ouO (aAp f s o (fk.take j))), (1, .var 37 (bB (.mk f n s t ks bs al)))]) (fun j => j ≤ fk.length) (fun j => fk.length - j) 0 (zero_le _) sl ?_;intro j hj;refine a8 (ag [] rfl ?_);refine a8 (aA rfl (fun hb => ?_) (fun hb => ?_))
  ·have hlj := ltD hb hkf;obtain ⟨x, hx⟩ := aK hlj;have hx' := bQ bN hx;have hsn := aHo (f := f) (s := s) (o := o) hx;have hpl := aC2 f s (fk.take j) o;rw [length_take] at hpl;generalize aAp f s o (fk.take j) = q at hsn hpl ⊢;have hmq := uF q [x] (by simp; omega);refine aD ?_;refine a8 (aB (a8 (ag [(0, .row j (bN x))] rfl ?_)));refine a8 (agF 4 [] rfl rfl rfl ?_);refine aA rfl (fun hb => ?_) (fun hb => ?_)
   ·have hb' : ¬ f = 7 ∨ ¬ x = s := by
     by_cases h7 : f = 7
     ·refine .inr fun hxs => ?_
      subst h7 hxs;have hb2 : (bif !decide ((7 : Int) = 7) then true else !decide (x = x)) = true := hb;simp at hb2
     ·exact .inl h7
    rw [n0, if_pos hb'] at hsn;refine aE mixed ?_;refine ak 3 [(2, .all)] rfl ?_;refine kc hmq ?_;refine ak 1 [] rfl ?_;refine az ?_;refine ag [] rfl ?_;refine ⟨j + 1, hlj, by dsimp only; omega, ?_⟩;dsimp only;rw [hsn];exact sl
   ·have hb' : ¬ (¬ f = 7 ∨ ¬ x = s) := by
     intro h;by_cases h7 : f = 7
     ·have hxs := h.resolve_left (fun h => h h7);subst h7;simp at hb;exact hxs hb.2
     ·simp at hb;exact h7 hb.1
    rw [n0, if_neg hb'] at hsn;refine aD ?_;refine ag [] rfl ?_;refine ⟨j + 1, hlj, by dsimp only; omega, ?_⟩;dsimp only;rw [hsn];exact sl
  have hge := geD hb hkf hj;subst hge;rw [take_length];refine aM ?_;refine ag [] rfl ?_;refine ⟨i + 1, hlt, by dsimp only; omega, ?_⟩;dsimp only;rw [hst];exact sl
 have hge := geD hb hkK hi;subst hge;rw [take_length] at hl1 ⊢;generalize o8 f s ks o0 = o1 at hl1 hMr ⊢;refine aM ?_;refine a8 (a8 (ag [] rfl ?_));refine aB ?_;refine aL (fun i : Nat => mk [(1, .one (.vp 1 0)), (3, ouV (mL (bs.take i) o1)), (46, .one (.c (.sl 15 (aR bs)))), (47, I .i64 ((aR bs).length : Int)), (48, I .i64 i)] [(500, ouO (mL (bs.take i) o1)), (1, .var 37 (bB (.mk f n s t ks bs al)))]) (fun i => i ≤ bs.length) (fun i => bs.length - i) 0 (zero_le _) sl ?_;intro i hi;have hl3 : (mL (bs.take i) o1).length ≤ 400000000 := le_trans (aCt bs o1 i) (le_trans (aCx al _) hMr);refine a8 (ag [] rfl ?_);refine a8 (aA rfl (fun hb => ?_) (fun hb => ?_))
 ·have hlt := ltD hb hkB;obtain ⟨b, hbi⟩ := aK hlt;have hbi' := dC hbi;have hm := List.mem_of_getElem? hbi;have hbm := aCz hm;have hc := ih b.body (ihb b hm) (by have := ihb b hm; omega) (by omega);have hst := aCu (o := o1) hbi;obtain ⟨s', t', c'⟩ := b;have hbm : fw t' ≤ aHk bs ∧ tyM c' ≤ aHk bs := hbm;have hc : aU Tryz.prog 61 [.pa (aC c')] [] (bU (tyR c')) [] := hc;have hst : mL (bs.take (i + 1)) o1 = mR (mR (mL (bs.take i) o1) (tfR t')) (tyR c') := hst;have hf' := aE7 t' (by omega);have g1 := aV6 t';have g2 : (tyR c').length ≤ 400000000 := by have := aHm c'; omega
  generalize mL (bs.take i) o1 = o at hst hl3 ⊢;have g3 := pZ o (tfR t');have m1 := uF o (tfR t') (by omega);have m2 := uF (mR o (tfR t')) (tyR c') (by omega);refine aD ?_;refine a8 (aB (a8 (ag [(0, .row i (bA (.mk s' t' c')))] rfl ?_)));refine aE mixed ?_;refine ak 3 [] rfl ?_;refine kc hf' ?_;refine kc m1 ?_;refine ak 2 [] rfl ?_;refine kc hc ?_;refine kc m2 ?_;refine ak 1 [] rfl ?_;refine az ?_;refine ag [] rfl ?_;refine ⟨i + 1, hlt, by dsimp only; omega, ?_⟩;dsimp only;rw [hst];exact sl
 have hge := geD hb hkB hi;subst hge;rw [take_length] at hl3 ⊢;generalize mL bs o1 = o2 at hl3 hMr ⊢;refine aM ?_;refine a8 (a8 (ag [] rfl ?_));refine aB ?_;refine aL (fun i : Nat => mk [(3, ouV (mZ (al.take i) o2)), (63, .one (.c (.sl 14 (c9 al)))), (64, I .i64 ((c9 al).length : Int)), (65, I .i64 i)] [(500, ouO (mZ (al.take i) o2))]) (fun i => i ≤ al.length) (fun i => al.length - i) 0 (zero_le _) sl ?_;intro i hi;have hl5 : (mZ (al.take i) o2).length ≤ 400000000 := le_trans (aCv al o2 i) hMr;refine a8 (ag [] rfl ?_);refine a8 (aA rfl (fun hb => ?_) (fun hb => ?_))
 ·have hlt := ltD hb hkA;obtain ⟨a, hai⟩ := aK hlt;have hai' := oM hai;have hm := List.mem_of_getElem? hai;have ham := aC0 hm;have hc := ih a.body (iha a hm) (by have := iha a hm; omega) (by omega);have hst := aCw (o := o2) hai;obtain ⟨f', n', s', v', c'⟩ := a;have ham : tyM c' ≤ aMw al := ham;have hc : aU Tryz.prog 61 [.pa (aC c')] [] (bU (tyR c')) [] := hc;have hst : mZ (al.take (i + 1)) o2 = mR (mZ (al.take i) o2) (tyR c') := hst;have g2 : (tyR c').length ≤ 400000000 := by have := aHm c'; omega
  generalize mZ (al.take i) o2 = o at hst hl5 ⊢;have m2 := uF o (tyR c') (by omega);refine aD ?_;refine a8 (aB (a8 (ag [(0, .row i (dQ (.mk f' n' s' v' c')))] rfl ?_)));refine aE mixed ?_;refine ak 3 [] rfl ?_;refine kc hc ?_;refine kc m2 ?_;refine ak 1 [] rfl ?_;refine az ?_;refine ag [] rfl ?_;refine ⟨i + 1, hlt, by dsimp only; omega, ?_⟩;dsimp only;rw [hst];exact sl
 have hge := geD hb hkA hi;subst hge;rw [take_length] at hl5 ⊢;refine aM ?_;refine AWp.sub (Sub.freeze (id := 500) rfl) ?_;refine a8 (ag [] rfl ?_);exact aI (rtT (hc := hs_all rfl rfl (by simp) rfl))
theorem zH : ∀ (n : Nat) (c : Core), b6 c ≤ n → aCd c
 | 0, c, h => by have := eZ c; omega
 | n + 1, c, h => wX c fun x hx => zH n x (by omega)
mutual
noncomputable def l8 : Ty → List (Str × Ty) → Ty
 | .mk f n s a, ps =>
  if f = 2 then (match ps.find? (fun p => decide (p.1 = s)) with | some p => p.2 | none => .mk f n s a)
  else if f = 4 then .mk 4 0 [] (fZ a ps)
  else if f = 5 then .mk 5 0 (unN s (a.headD zTy) ps) (fZ a (unP s (a.headD zTy) ps))
  else .mk f n s a
noncomputable def fZ : List Ty → List (Str × Ty) → List Ty
 | [], _ => []
 | t :: l, ps => l8 t ps :: fZ l ps
end
structure PsOk (ps : List (Str × Ty)) : Prop where
 nd : (ps.map (·.1)).Nodup
 ok : ∀ p ∈ ps, wfS p.2 = true ∧ fvm p.2 ≤ 700000
 len : ps.length ≤ 700000 + 1
theorem aKq : ∀ {ps : List (Str × Ty)} {s : Str} {u : Ty}, (ps.map (·.1)).Nodup → (s, u) ∈ ps → ps.find? (fun p => decide (p.1 = s)) = some (s, u)
 | p :: ps, s, u, hn, h => by
  rw [map_cons, nodup_cons] at hn;rcases mem_cons.1 h with h | h
  ·subst h;rw [List.find?_cons_of_pos (by simp)]
  ·have : ¬ p.1 = s := fun e => hn.1 (mem_map.2 ⟨_, h, e.symm⟩)
   rw [List.find?_cons_of_neg (by simpa using this)];exact aKq hn.2 h
theorem nQ {ps : List (Str × Ty)} {s : Str} (h : ¬ s ∈ ps.map (·.1)) : ps.find? (fun p => decide (p.1 = s)) = none := by
 rw [List.find?_eq_none];intro p hp hb;exact h (mem_map.2 ⟨p, hp, by simpa using hb⟩)
theorem iV : ∀ (a b : List Str), a.Nodup → (∀ x ∈ a, x ∈ b) → a.length ≤ b.length := by
 intro a
 induction a with
 | nil => intro b _ _; simp
 | cons x a ih =>
  intro b hn hs;rw [nodup_cons] at hn;have h1 := ih (b.erase x) hn.2 fun y hy => (List.mem_erase_of_ne (by rintro rfl; exact hn.1 hy)).2 (hs y (mem_cons_of_mem _ hy))
  have hx := hs x mem_cons_self;rw [List.length_erase_of_mem hx] at h1;have := List.length_pos_of_mem hx;rw [length_cons]; omega
theorem aPc {nm : Str} {body : Ty} {ps : List (Str × Ty)} (h : (ps.map (·.1)).Nodup) : ((unF nm body ps).map (·.1)).Nodup := List.Sublist.nodup ((List.filter_sublist (l := ps)).map _) h
theorem iD {nm : Str} {body : Ty} {ps : List (Str × Ty)} {p : Str × Ty} : p ∈ unF nm body ps ↔ p ∈ ps ∧ ¬ p.1 = nm ∧ p.1 ∈ tfR body := by
 unfold unF;rw [mem_filter, Bool.and_eq_true];simp
theorem aAn {nm : Str} {body : Ty} {ps : List (Str × Ty)} (h : (ps.map (·.1)).Nodup) : (unF nm body ps).length ≤ (tfR body).length := by
 have := iV _ (tfR body) (aPc (nm := nm) (body := body) h) fun x hx => by
  obtain ⟨p, hp, rfl⟩ := mem_map.1 hx;exact (iD.1 hp).2.2
 rwa [length_map] at this
theorem pL : ∀ {l : List (Str × Ty)}, (∀ p ∈ l, fvm p.2 ≤ 700000) → (unC l).length ≤ l.length * 700000
 | [], _ => by simp [unC]
 | p :: l, h => by
  have h1 := pL (l := l) fun q hq => h q (mem_cons_of_mem _ hq)
  have h2 := h p mem_cons_self;have h3 := nO p.2;unfold unC at h1 ⊢;rw [flatMap_cons, length_append, length_cons, Nat.succ_mul];omega
theorem aKl {n : Int} {z : Str} : fvm (.mk 2 n z []) = 1 := by
 rw [fvm, tfR, if_pos rfl, aKk]; rfl
theorem aHd {n : Int} {z : Str} : wfS (.mk 2 n z []) = true := by
 rw [wfS, if_neg (by decide), if_neg (by decide), aAm]; rfl
theorem PsOk.un {ps : List (Str × Ty)} (h : PsOk ps) (nm : Str) (body : Ty) (hb : fvm body ≤ 700000) : PsOk (unP nm body ps) := by
 have h1 := aPc (nm := nm) (body := body) h.nd;have h2 := aAn (nm := nm) (body := body) h.nd;have h3 := nO body;have h4 : ∀ p ∈ unF nm body ps, wfS p.2 = true ∧ fvm p.2 ≤ 700000 := fun p hp => h.ok p (iD.1 hp).1
 unfold unP;split
 ·refine ⟨?_, fun p hp => ?_, by rw [length_append]; show _ + 1 ≤ _; omega⟩
  ·rw [map_append, nodup_append];refine ⟨h1, by simp, fun x hx y hy => ?_⟩;have hy : y = nm := by simpa using hy
   obtain ⟨p, hp, rfl⟩ := mem_map.1 hx;rw [hy];exact (iD.1 hp).2.1
  ·rcases mem_append.1 hp with hp | hp
   ·exact h4 p hp
   ·rw [mem_singleton.1 hp];exact ⟨aHd, by show fvm (.mk 2 0 _ []) ≤ _; rw [aKl]; decide⟩
 ·exact ⟨h1, h4, by omega⟩
theorem aQp (hI : dR 540000000000) : ∀ (k : Nat) (t : Ty), tn t ≤ k → wfS t = true → fvm t ≤ 700000 → ∀ ps, PsOk ps → wfS (l8 t ps) = true ∧ aU Tryz.prog 65 [tyV t, bU (ps.map (·.1)), aTp (ps.map (·.2))] [] (tyV (l8 t ps)) [] := by
 intro k
 induction k with
 | zero => intro t h; have := mE t; omega
 | succ k ih =>
 intro t h hw hf ps hps;obtain ⟨f, n, s, a⟩ := t;have hown := wS (tn (.mk f n s a)) (.mk f n s a) (le_refl _) hw;obtain ⟨_, hwa, w4, w5, w0⟩ := qL hw;have hfa : ∀ u ∈ a, fvm u ≤ 700000 := fun u hu => le_trans (wG hu) hf
 rw [tn] at h;rw [l8];by_cases h2 : f = 2
 ·subst h2;rw [if_pos rfl];have hix := aLk (ps.map (·.1)) s (by rw [length_map]; have := hps.len; omega);rcases u9 s (ps.map (·.1)) 0 with ⟨i, e1, e2⟩ | ⟨e1, e2⟩
  ·rw [List.getElem?_map] at e2;obtain ⟨⟨s', u⟩, hu, e3⟩ := Option.map_eq_some_iff.1 e2;have e3 : s' = s := e3;subst e3;have hm := List.mem_of_getElem? hu;have hu' : ((ps.map (·.2)).map bD)[i]? = some (bD u) := bQ bD (by rw [List.getElem?_map, hu]; rfl);obtain ⟨g2, g3⟩ := hps.ok _ hm;have ho := wS (tn u) u (le_refl _) g2;rw [e1, Int.zero_add] at hix;rw [aKq hps.nd hm];refine ⟨g2, ?_⟩;dsimp only;refine bT (n := 48) tok Tryz.func65 rfl rfl rfl ?_;refine a8 (ag [] rfl ?_);refine a8 (a8 (ag [] rfl ?_));refine aB (a8 (ag [] rfl ?_));refine aA rfl (fun _ => ?_) (fun hb => by cases hb);refine a8 (aE mixed ?_);refine ak 3 [] rfl ?_;refine kc hix ?_;refine ak 1 [] rfl ?_;refine az ?_;refine a8 (ag [] rfl ?_);refine aA rfl (fun _ => ?_) (fun hb => absurd (of_decide_eq_false hb) (by omega));refine a8 (aE mixed ?_);refine ak 4 [(2, .row i (bD u))] rfl ?_;refine kc ho ?_;refine ak 1 [] rfl ?_;refine az ?_;exact aI (rtC trw)
  ·rw [e2] at hix;rw [nQ e1];refine ⟨hw, ?_⟩;dsimp only;refine bT (n := 48) tok Tryz.func65 rfl rfl rfl ?_;refine a8 (ag [] rfl ?_);refine a8 (a8 (ag [] rfl ?_));refine aB (a8 (ag [] rfl ?_));refine aA rfl (fun _ => ?_) (fun hb => by cases hb);refine a8 (aE mixed ?_);refine ak 3 [] rfl ?_;refine kc hix ?_;refine ak 1 [] rfl ?_;refine az ?_;refine a8 (ag [] rfl ?_);refine aA rfl (fun hb => absurd (of_decide_eq_true hb) (by omega)) (fun _ => ?_);refine aD ?_;refine a8 (aE mixed ?_);refine ak 1 [] rfl ?_;refine kc hown ?_;refine ak 1 [] rfl ?_;refine az ?_;exact aI (rtC trw)
 rw [if_neg h2];by_cases h4 : f = 4
 ·subst h4;obtain ⟨rfl, rfl, u, v, rfl⟩ := w4 rfl;rw [tns, tns, tns] at h;obtain ⟨a1, a4⟩ := ih u (by omega) (hwa u (by simp)) (hfa u (by simp)) ps hps;obtain ⟨b1, b4⟩ := ih v (by omega) (hwa v (by simp)) (hfa v (by simp)) ps hps;rw [if_pos rfl, fZ, fZ, fZ];have cA := aOn (l8 u ps) (l8 v ps);generalize l8 u ps = u' at *;generalize l8 v ps = v' at *;have cA : aU Tryz.prog 127 [tyV u', tyV v'] [] (tyV (.mk 4 0 [] [u', v'])) [] := cA;refine ⟨?_, ?_⟩
  ·rw [wfS, if_pos rfl, aAm, aAm, aAm, a1, b1]; rfl
  ·refine bT (n := 48) tok Tryz.func65 rfl rfl rfl ?_;refine a8 (ag [] rfl ?_);refine a8 (a8 (ag [] rfl ?_));refine aB (a8 (ag [] rfl ?_));refine aA rfl (fun hb => by cases hb) (fun _ => ?_);refine a8 (ag [] rfl ?_);refine aA rfl (fun _ => ?_) (fun hb => by cases hb);refine a8 (aE mixed ?_);refine ak 6 [(2, .row 0 (bD u))] rfl ?_;refine kc a4 ?_;refine ak 6 [(9, .row 1 (bD v))] rfl ?_;refine kc b4 ?_;refine kc cA ?_;refine ak 1 [] rfl ?_;refine az ?_;exact aI (rtC trw)
 rw [if_neg h4];by_cases h5 : f = 5
 ·subst h5;obtain ⟨rfl, body, rfl⟩ := w5 rfl;rw [tns, tns] at h;have hwb := hwa body (by simp);have hfb := hfa body (by simp);have hP := hps.un s body hfb;obtain ⟨a1, a4⟩ := ih body (by omega) hwb hfb (unP s body ps) hP;rw [if_pos rfl];show wfS (.mk 5 0 (unN s body ps) (fZ [body] (unP s body ps))) = true ∧ aU Tryz.prog _ _ _ (tyV (.mk 5 0 (unN s body ps) (fZ [body] (unP s body ps)))) _;rw [fZ, fZ];have hall := aSy (unN s body ps) (l8 body (unP s body ps)) (wS _ _ (le_refl _) a1);have hfl := nO body;have hCl : ∀ l : List (Str × Ty), (∀ p ∈ l, p ∈ ps) → l.length ≤ ps.length → (unC (unF s body l)).length ≤ 540000000000 := fun l h1 h2 => by
   have h3 := pL (l := unF s body l) fun p hp => (hps.ok p (h1 p (iD.1 hp).1)).2
   have h4 : (unF s body l).length ≤ l.length := List.length_filter_le _ _;have h5 := hps.len;have h6 : (unF s body l).length * 700000 ≤ (700000 + 1) * 700000 := mul_le_mul_right _ (by omega);have h7 : (700000 + 1) * 700000 ≤ 540000000000 := by decide
   omega
  have hC1 := hCl ps (fun p hp => hp) (le_refl _);have hU : (unC (unF s body ps)).length + (tfR body).length ≤ 540000000000 := by
   have h3 := pL (l := unF s body ps) fun p hp => (hps.ok p (iD.1 hp).1).2
   have h4 := aAn (nm := s) (body := body) hps.nd;have h6 : (unF s body ps).length * 700000 ≤ 700000 * 700000 := mul_le_mul_right _ (by omega);have h7 : 700000 * 700000 = 490000000000 := by decide
   omega
  have cU := aOm s body (l8 body (unP s body ps)) ps (by have := hps.len; omega) (nZ _ body (le_refl _) hwb (le_trans hfb (by decide))) (by omega) hall
   (fun p hp => ⟨nZ _ p.2 (le_refl _) (hps.ok p hp).1 (le_trans (hps.ok p hp).2 (by decide)), le_trans (nO p.2) (le_trans (hps.ok p hp).2 (by decide))⟩)
   ⟨hC1, fun i => hCl (ps.take i) (fun p hp => mem_of_mem_take hp) (by rw [length_take]; omega)⟩ (fun k hk => hI k (by omega)) a4
  generalize l8 body (unP s body ps) = b' at *;generalize unN s body ps = N at *;refine ⟨?_, ?_⟩
  ·rw [wfS, if_neg (by decide), if_pos rfl, aAm, aAm, a1]; rfl
  ·refine bT (n := 48) tok Tryz.func65 rfl rfl rfl ?_;refine a8 (ag [] rfl ?_);refine a8 (a8 (ag [] rfl ?_));refine aB (a8 (ag [] rfl ?_));refine aA rfl (fun hb => by cases hb) (fun _ => ?_);refine a8 (ag [] rfl ?_);refine aA rfl (fun hb => by cases hb) (fun _ => ?_);refine a8 (ag [] rfl ?_);refine aA rfl (fun _ => ?_) (fun hb => by cases hb);refine a8 (aE mixed ?_);refine ak 3 [] rfl ?_;refine kc cU ?_;refine ak 1 [] rfl ?_;refine az ?_;exact aI (rtC trw)
 rw [if_neg h5];refine ⟨hw, ?_⟩;refine bT (n := 48) tok Tryz.func65 rfl rfl rfl ?_;refine a8 (ag [] rfl ?_);refine a8 (a8 (ag [] rfl ?_));refine aB (a8 (ag [] rfl ?_));refine aA rfl (fun hb => absurd (of_decide_eq_true hb) h2) (fun _ => ?_);refine a8 (ag [] rfl ?_);refine aA rfl (fun hb => absurd (of_decide_eq_true hb) h4) (fun _ => ?_);refine a8 (ag [] rfl ?_);refine aA rfl (fun hb => absurd (of_decide_eq_true hb) h5) (fun _ => ?_);refine aD ?_;refine a8 (aE mixed ?_);refine ak 1 [] rfl ?_;refine kc hown ?_;refine ak 1 [] rfl ?_;refine az ?_;exact aI (rtC trw)
theorem aMu {nm : Str} {body : Ty} {ps : List (Str × Ty)} (h : ∀ p ∈ ps, p.1 ∈ tfR body → p.1 = nm) : unN nm body ps = nm ∧ unP nm body ps = [] := by
 have hF : unF nm body ps = [] := by
  unfold unF;rw [List.filter_eq_nil_iff];intro p hp hb;rw [Bool.and_eq_true] at hb;have h1 : ¬ p.1 = nm := by simpa using hb.1
  exact h1 (h p hp (of_decide_eq_true hb.2))
 have hC : unC (unF nm body ps) = [] := by rw [hF]; rfl
 exact ⟨by unfold unN; rw [hC, if_neg (by simp)], by unfold unP; rw [hC, if_neg (by simp), hF]⟩
theorem aAq : ∀ (k : Nat) (t : Ty), tn t ≤ k → wfS t = true → ∀ ps : List (Str × Ty), (∀ p ∈ ps, ¬ p.1 ∈ tfR t) → l8 t ps = t := by
 intro k
 induction k with
 | zero => intro t h; have := mE t; omega
 | succ k ih =>
 intro t h hw ps hp;obtain ⟨f, n, s, a⟩ := t;obtain ⟨_, hwa, w4, w5, w0⟩ := qL hw;rw [tn] at h;rw [l8];by_cases h2 : f = 2
 ·subst h2
  rw [if_pos rfl, nQ fun hs => by
   obtain ⟨p, hp1, e⟩ := mem_map.1 hs
   exact hp p hp1 (by rw [tfR, if_pos rfl, e]; simp)]
 rw [if_neg h2];by_cases h4 : f = 4
 ·subst h4;obtain ⟨rfl, rfl, u, v, rfl⟩ := w4 rfl;rw [tns, tns, tns] at h;rw [if_pos rfl, fZ, fZ, fZ, ih u (by omega) (hwa u (by simp)) ps fun p hp1 hx => hp p hp1 (aRi hx), ih v (by omega) (hwa v (by simp)) ps fun p hp1 hx => hp p hp1 (aRh hx)]
 rw [if_neg h4];by_cases h5 : f = 5
 ·subst h5;obtain ⟨rfl, body, rfl⟩ := w5 rfl;rw [tns, tns] at h;obtain ⟨e1, e2⟩ := aMu (nm := s) (body := body) (ps := ps) fun p hp1 hx => Classical.byContradiction fun hne => hp p hp1 (aUf hx hne)
  rw [if_pos rfl];show Ty.mk 5 0 (unN s body ps) (fZ [body] (unP s body ps)) = _;rw [e1, e2, fZ, fZ, ih body (by omega) (hwa body (by simp)) [] fun p hp1 => by cases hp1]
 rw [if_neg h5]
theorem aLa (hI : dR 540000000000) (t : Ty) (hw : wfS t = true) (hf : fvm t ≤ 700000) : aU Tryz.prog 116 [tyV t] [] (tyV t) [] := by
 have h4 := (aQp hI (tn t) t (le_refl _) hw hf [] ⟨by simp, fun p hp => (by cases hp), by simp⟩).2
 rw [aAq (tn t) t (le_refl _) hw [] fun p hp => by cases hp] at h4;refine bT (n := 5) tok Tryz.func116 rfl rfl rfl ?_;refine a8 (ag [] rfl ?_);refine a8 (aE mixed ?_);refine ak 1 [] rfl ?_;refine kc h4 ?_;refine ak 1 [] rfl ?_;refine az ?_;exact aI (rtC trw)
theorem aH2 {f : Int} {s : Str} {o : List Str} {x y : Str} (h : y ∈ gP f s o x) : y ∈ o ∨ (y = x ∧ (¬ f = 5 ∨ ¬ x = s)) := by
 unfold gP at h;split at h
 ·rename_i hx;rcases mem_append.1 h with h | h
  ·exact .inl h
  ·exact .inr ⟨mem_singleton.1 h, hx.2⟩
 ·exact .inl h
theorem aDc {f : Int} {s : Str} : ∀ {l o : List Str} {y : Str}, y ∈ sP f s o l → y ∈ o ∨ (y ∈ l ∧ (¬ f = 5 ∨ ¬ y = s))
 | [], _, _, h => .inl h
 | x :: l, o, y, h => by
  rcases aDc (l := l) (o := gP f s o x) h with h | ⟨h, hs⟩
  ·rcases aH2 h with h | ⟨rfl, hs⟩
   ·exact .inl h
   ·exact .inr ⟨mem_cons_self, hs⟩
  ·exact .inr ⟨mem_cons_of_mem _ h, hs⟩
theorem aDb {f : Int} {s : Str} : ∀ {l : List Ty} {o : List Str} {y : Str}, y ∈ oC f s l o → y ∈ o ∨ ∃ u ∈ l, y ∈ tfR u ∧ (¬ f = 5 ∨ ¬ y = s)
 | [], o, y, h => by rw [oC] at h; exact .inl h
 | t :: l, o, y, h => by
  rw [oC] at h;rcases aDb h with h | ⟨u, hu, h⟩
  ·rcases aDc h with h | ⟨h, hs⟩
   ·exact .inl h
   ·exact .inr ⟨t, mem_cons_self, h, hs⟩
  ·exact .inr ⟨u, mem_cons_of_mem _ hu, h⟩
theorem aC9 {f : Int} {s : Str} : ∀ {l : List Ty} {o : List Str} {y : Str}, y ∈ o → y ∈ oC f s l o
 | [], o, y, h => by rw [oC]; exact h
 | t :: l, o, y, h => by rw [oC]; exact aC9 (pO h)
theorem aDa {f : Int} {s : Str} : ∀ {l : List Ty} {o : List Str} {u : Ty} {y : Str}, u ∈ l → y ∈ tfR u → (¬ f = 5 ∨ ¬ y = s) → y ∈ oC f s l o
 | t :: l, o, u, y, h, hy, hs => by
  rw [oC];rcases mem_cons.1 h with rfl | h
  ·exact aC9 (n6 hy hs)
  ·exact aDa h hy hs
theorem sO {f n : Int} {s : Str} {a : List Ty} {y : Str} (h2 : ¬ f = 2) (h : y ∈ tfR (.mk f n s a)) : ∃ u ∈ a, y ∈ tfR u ∧ (¬ f = 5 ∨ ¬ y = s) := by
 rw [tfR, if_neg h2] at h;rcases aDb h with h | h
 ·cases h
 ·exact h
theorem qN {f n : Int} {s : Str} {a : List Ty} {u : Ty} {y : Str} (h2 : ¬ f = 2) (hu : u ∈ a) (hy : y ∈ tfR u) (hs : ¬ f = 5 ∨ ¬ y = s) : y ∈ tfR (.mk f n s a) := by
 rw [tfR, if_neg h2];exact aDa hu hy hs
theorem aMy {f : Int} {s : Str} {o : List Str} {x : Str} (h : o.Nodup) : (gP f s o x).Nodup := by
 unfold gP; split
 ·rename_i hx;rw [nodup_append];exact ⟨h, by simp, fun a ha b hb e => by rw [mem_singleton.1 hb] at e; subst e; exact hx.1 ha⟩
 ·exact h
theorem aH5 {f : Int} {s : Str} : ∀ {l o : List Str}, o.Nodup → (sP f s o l).Nodup
 | [], _, h => h
 | x :: l, o, h => aH5 (l := l) (o := gP f s o x) (aMy h)
theorem aHz {f : Int} {s : Str} : ∀ {l : List Ty} {o : List Str}, o.Nodup → (oC f s l o).Nodup
 | [], o, h => by rw [oC]; exact h
 | t :: l, o, h => by rw [oC]; exact aHz (aH5 h)
theorem aHx (t : Ty) : (tfR t).Nodup := by
 obtain ⟨f, n, s, a⟩ := t;rw [tfR]; split
 ·simp
 ·exact aHz nodup_nil
theorem lJ (l : List Str) : ¬ b8 l ∈ l := oK l
theorem aRf {l : List (Str × Ty)} {x : Str} : x ∈ unC l ↔ ∃ p ∈ l, x ∈ tfR p.2 := by
 unfold unC; rw [mem_flatMap]
theorem aHu : ∀ (k : Nat) (t : Ty), tn t ≤ k → wfS t = true → ∀ (ps : List (Str × Ty)) (x : Str), x ∈ tfR (l8 t ps) → (x ∈ tfR t ∧ ¬ x ∈ ps.map (·.1)) ∨ ∃ p ∈ ps, p.1 ∈ tfR t ∧ x ∈ tfR p.2 := by
 intro k
 induction k with
 | zero => intro t h; have := mE t; omega
 | succ k ih =>
 intro t h hw ps x hx;obtain ⟨f, n, s, a⟩ := t;obtain ⟨_, hwa, w4, w5, w0⟩ := qL hw;rw [tn] at h;rw [l8] at hx;by_cases h2 : f = 2
 ·subst h2;rw [if_pos rfl] at hx;have hs : s ∈ tfR (.mk 2 n s a) := by rw [tfR, if_pos rfl]; simp
  cases hfd : ps.find? (fun p => decide (p.1 = s)) with
  | some p =>
   rw [hfd] at hx;have h1 : p.1 = s := by simpa using List.find?_some hfd
   exact .inr ⟨p, List.mem_of_find?_eq_some hfd, by rw [h1]; exact hs, hx⟩
  | none =>
   rw [hfd] at hx;refine .inl ⟨hx, fun hm => ?_⟩;have hxs : x = s := by
    have hx : x ∈ tfR (.mk 2 n s a) := hx;rw [tfR, if_pos rfl] at hx; simpa using hx
   obtain ⟨p, hp, e⟩ := mem_map.1 hm;have := List.find?_eq_none.1 hfd p hp;rw [e, hxs] at this;simp at this
 rw [if_neg h2] at hx;by_cases h4 : f = 4
 ·subst h4;obtain ⟨rfl, rfl, u, v, rfl⟩ := w4 rfl;rw [tns, tns, tns] at h;rw [if_pos rfl, fZ, fZ, fZ] at hx;obtain ⟨w, hw', hxw, _⟩ := sO (by decide) hx;have key : ∀ u', u' ∈ [u, v] → x ∈ tfR (l8 u' ps) → tn u' ≤ k → (x ∈ tfR (.mk 4 0 [] [u, v]) ∧ ¬ x ∈ ps.map (·.1)) ∨ ∃ p ∈ ps, p.1 ∈ tfR (.mk 4 0 [] [u, v]) ∧ x ∈ tfR p.2 := fun u' hu' hxu hk => by
   rcases ih u' hk (hwa u' hu') ps x hxu with ⟨h1, h2⟩ | ⟨p, hp, h1, h2⟩
   ·exact .inl ⟨qN (by decide) hu' h1 (.inl (by decide)), h2⟩
   ·exact .inr ⟨p, hp, qN (by decide) hu' h1 (.inl (by decide)), h2⟩
  rcases mem_cons.1 hw' with rfl | hw'
  ·exact key u (by simp) hxw (by omega)
  ·rw [mem_singleton.1 hw'] at hxw;exact key v (by simp) hxw (by omega)
 rw [if_neg h4] at hx;by_cases h5 : f = 5
 ·subst h5;obtain ⟨rfl, body, rfl⟩ := w5 rfl;rw [tns, tns] at h;rw [if_pos rfl] at hx;have hx : x ∈ tfR (.mk 5 0 (unN s body ps) (fZ [body] (unP s body ps))) := hx;rw [fZ, fZ] at hx;obtain ⟨w, hw', hxw, hne⟩ := sO (by decide) hx;rw [mem_singleton.1 hw'] at hxw;have hne : ¬ x = unN s body ps := hne.resolve_left (fun h => h rfl);by_cases hc : s ∈ unC (unF s body ps)
  ·have eN : unN s body ps = b8 (unC (unF s body ps) ++ tfR body) := by unfold unN; rw [if_pos hc]
   have eP : unP s body ps = unF s body ps ++ [(s, .mk 2 0 (unN s body ps) [])] := by unfold unP; rw [if_pos hc]
   rcases ih body (by omega) (hwa body (by simp)) (unP s body ps) x hxw with ⟨h1, h2⟩ | ⟨p, hp, h1, h2⟩
   ·rw [eP] at h2;have hxs : ¬ x = s := fun e => h2 (by rw [e]; simp)
    refine .inl ⟨qN (by decide) mem_cons_self h1 (.inr hxs), fun hm => h2 ?_⟩;obtain ⟨p, hp, e⟩ := mem_map.1 hm;rw [map_append];exact mem_append.2 (.inl (mem_map.2 ⟨p, iD.2 ⟨hp, by rw [e]; exact hxs, by rw [e]; exact h1⟩, e⟩))
   ·rw [eP] at hp;rcases mem_append.1 hp with hp | hp
    ·obtain ⟨g1, g2, g3⟩ := iD.1 hp;exact .inr ⟨p, g1, qN (by decide) mem_cons_self g3 (.inr g2), h2⟩
    ·rw [mem_singleton.1 hp] at h2;have h2 : x ∈ tfR (.mk 2 0 (unN s body ps) []) := h2;rw [tfR, if_pos rfl] at h2;exact absurd (mem_singleton.1 h2) hne
  ·have eN : unN s body ps = s := by unfold unN; rw [if_neg hc]
   have eP : unP s body ps = unF s body ps := by unfold unP; rw [if_neg hc]
   rw [eN] at hne;rcases ih body (by omega) (hwa body (by simp)) (unP s body ps) x hxw with ⟨h1, h2⟩ | ⟨p, hp, h1, h2⟩
   ·rw [eP] at h2;refine .inl ⟨qN (by decide) mem_cons_self h1 (.inr hne), fun hm => h2 ?_⟩;obtain ⟨p, hp, e⟩ := mem_map.1 hm;exact mem_map.2 ⟨p, iD.2 ⟨hp, by rw [e]; exact hne, by rw [e]; exact h1⟩, e⟩
   ·rw [eP] at hp;obtain ⟨g1, g2, g3⟩ := iD.1 hp;exact .inr ⟨p, g1, qN (by decide) mem_cons_self g3 (.inr g2), h2⟩
 rw [if_neg h5] at hx;rw [w0 h4 h5] at hx;obtain ⟨u, hu, _⟩ := sO h2 hx;cases hu
structure Alg where
 z : Nat
 j : Nat → Nat → Nat
 u : Str → Nat → Nat
 b : Str → Nat → Nat
 jm : ∀ {x x' y y' : Nat}, x ≤ x' → y ≤ y' → j x y ≤ j x' y'
 um : ∀ {s : Str} {x x' : Nat}, x ≤ x' → u s x ≤ u s x'
 bm : ∀ {s : Str} {x x' : Nat}, x ≤ x' → b s x ≤ b s x'
 ul : ∀ {s s' : Str} {x : Nat}, s.length ≤ 30 → u s x ≤ u s' x
def fO (ρ : Str → Nat) (s : Str) (v : Nat) : Str → Nat := fun x => if x = s then v else ρ x
mutual
def tW (A : Alg) : Ty → (Str → Nat) → Nat
 | .mk f _ s a, ρ => if f = 2 then ρ s else if f = 5 then A.u s (tWs A a (fO ρ s A.z)) else A.b s (tWs A a ρ)
def tWs (A : Alg) : List Ty → (Str → Nat) → Nat
 | [], _ => 0
 | t :: l, ρ => A.j (tW A t ρ) (tWs A l ρ)
end
theorem qS {A : Alg} : ∀ {l : List Ty} {ρ ρ' : Str → Nat}, (∀ u ∈ l, tW A u ρ = tW A u ρ') → tWs A l ρ = tWs A l ρ'
 | [], _, _, _ => by rw [tWs, tWs]
 | t :: l, ρ, ρ', h => by rw [tWs, tWs, h t mem_cons_self, qS fun u hu => h u (mem_cons_of_mem _ hu)]
theorem gZ {A : Alg} : ∀ (k : Nat) (t : Ty), tn t ≤ k → ∀ {ρ ρ' : Str → Nat}, (∀ x ∈ tfR t, ρ x = ρ' x) → tW A t ρ = tW A t ρ'
 | 0, t, h, _, _, _ => by have := mE t; omega
 | k + 1, .mk f n s a, h, ρ, ρ', hx => by
  rw [tn] at h;rw [tW, tW];by_cases h2 : f = 2
  ·rw [if_pos h2, if_pos h2];exact hx s (by rw [tfR, if_pos h2]; simp)
  rw [if_neg h2, if_neg h2];by_cases h5 : f = 5
  ·rw [if_pos h5, if_pos h5, qS fun u hu => gZ k u (by have := mM hu; omega) fun x hxu => ?_];unfold fO;by_cases e : x = s
   ·rw [if_pos e, if_pos e]
   ·rw [if_neg e, if_neg e]; exact hx x (qN h2 hu hxu (.inr e))
  ·rw [if_neg h5, if_neg h5, qS fun u hu => gZ k u (by have := mM hu; omega) fun x hxu => hx x (qN h2 hu hxu (.inl h5))]
mutual
theorem aA1 {A : Alg} : ∀ (t : Ty) {ρ ρ' : Str → Nat}, (∀ x, ρ x ≤ ρ' x) → tW A t ρ ≤ tW A t ρ'
 | .mk f n s a, ρ, ρ', h => by
  rw [tW, tW];split
  ·exact h s
  ·split
   ·refine A.um (uX a fun x => ?_);unfold fO; split
    ·exact le_refl _
    ·exact h x
   ·exact A.bm (uX a h)
theorem uX {A : Alg} : ∀ (l : List Ty) {ρ ρ' : Str → Nat}, (∀ x, ρ x ≤ ρ' x) → tWs A l ρ ≤ tWs A l ρ'
 | [], _, _, _ => by rw [tWs]; exact zero_le _
 | t :: l, ρ, ρ', h => by rw [tWs, tWs]; exact A.jm (aA1 t h) (uX l h)
end
def aIl (A : Alg) (ρ : Str → Nat) (ps : List (Str × Ty)) : Str → Nat := fun x => match ps.find? (fun p => decide (p.1 = x)) with | some p => tW A p.2 ρ | none => ρ x
theorem rO {nm : Str} {body : Ty} {x : Str} (hx : ¬ x = nm) (hb : x ∈ tfR body) : ∀ ps : List (Str × Ty), (unF nm body ps).find? (fun p => decide (p.1 = x)) = ps.find? (fun p => decide (p.1 = x))
 | [] => rfl
 | p :: ps => by
  have ih := rO hx hb ps;by_cases e : p.1 = x
  ·have hk : (!decide (p.1 = nm) && decide (p.1 ∈ tfR body)) = true := by rw [e, decide_eq_false hx, decide_eq_true hb]; rfl
   unfold unF;rw [List.filter_cons_of_pos (p := fun p : Str × Ty => !decide (p.1 = nm) && decide (p.1 ∈ tfR body)) hk, List.find?_cons_of_pos (by simpa using e), List.find?_cons_of_pos (by simpa using e)]
  ·rw [List.find?_cons_of_neg (by simpa using e), ← ih];unfold unF;rw [filter_cons];split
   ·rw [List.find?_cons_of_neg (by simpa using e)]
   ·rfl
theorem oL (l : List Str) (h : l.length ≤ 540000000000) : (b8 l).length ≤ 30 := le_trans (jD l h) (by decide)
theorem PsOk.unl {ps : List (Str × Ty)} (h : PsOk ps) {nm : Str} {body : Ty} (hb : fvm body ≤ 700000) : (unC (unF nm body ps) ++ tfR body).length ≤ 540000000000 := by
 have h3 := pL (l := unF nm body ps) fun p hp => (h.ok p (iD.1 hp).1).2
 have h4 := aAn (nm := nm) (body := body) h.nd;have h5 := nO body;have h6 : (unF nm body ps).length * 700000 ≤ 700000 * 700000 := mul_le_mul_right _ (by omega);rw [length_append];omega
theorem aT7 (A : Alg) : ∀ (k : Nat) (t : Ty), tn t ≤ k → wfS t = true → fvm t ≤ 700000 → ∀ (ps : List (Str × Ty)), PsOk ps → ∀ ρ, tW A (l8 t ps) ρ ≤ tW A t (aIl A ρ ps) := by
 intro k
 induction k with
 | zero => intro t h; have := mE t; omega
 | succ k ih =>
 intro t h hw hf ps hps ρ;obtain ⟨f, n, s, a⟩ := t;obtain ⟨_, hwa, w4, w5, w0⟩ := qL hw;have hfa : ∀ u ∈ a, fvm u ≤ 700000 := fun u hu => le_trans (wG hu) hf
 rw [tn] at h;rw [l8];by_cases h2 : f = 2
 ·subst h2;rw [if_pos rfl, tW, if_pos rfl];unfold aIl;cases ps.find? (fun p => decide (p.1 = s)) with
  | some p => exact le_refl _
  | none =>
   show tW A (.mk 2 n s a) ρ ≤ _;rw [tW, if_pos rfl];exact le_refl _
 rw [if_neg h2];by_cases h4 : f = 4
 ·subst h4;obtain ⟨rfl, rfl, u, v, rfl⟩ := w4 rfl;rw [tns, tns, tns] at h;rw [if_pos rfl, fZ, fZ, fZ, tW, if_neg (by decide), if_neg (by decide), tW, if_neg (by decide), if_neg (by decide), tWs, tWs, tWs, tWs, tWs, tWs];exact A.bm (A.jm (ih u (by omega) (hwa u (by simp)) (hfa u (by simp)) ps hps ρ) (A.jm (ih v (by omega) (hwa v (by simp)) (hfa v (by simp)) ps hps ρ) (le_refl _)))
 rw [if_neg h4];by_cases h5 : f = 5
 ·subst h5;obtain ⟨rfl, body, rfl⟩ := w5 rfl;rw [tns, tns] at h;have hfb := hfa body (by simp);rw [if_pos rfl];show tW A (.mk 5 0 (unN s body ps) (fZ [body] (unP s body ps))) ρ ≤ _;rw [fZ, fZ, tW, if_neg (by decide), if_pos rfl, tW, if_neg (by decide), if_pos rfl, tWs, tWs, tWs, tWs];have hi := ih body (by omega) (hwa body (by simp)) hfb (unP s body ps) (hps.un s body hfb) (fO ρ (unN s body ps) A.z);have hcg : tW A body (aIl A (fO ρ (unN s body ps) A.z) (unP s body ps)) = tW A body (fO (aIl A ρ ps) s A.z) := by
   refine gZ (tn body) body (le_refl _) fun x hx => ?_
   have hout : ∀ p ∈ unF s body ps, ¬ unN s body ps ∈ tfR p.2 := fun p hp hin => by
    have hm : unN s body ps ∈ unC (unF s body ps) := aRf.2 ⟨p, hp, hin⟩;unfold unN at hm;split at hm
    ·exact lJ _ (mem_append.2 (.inl hm))
    ·rename_i hc; exact hc hm
   have hsame : ∀ p ∈ unF s body ps, tW A p.2 (fO ρ (unN s body ps) A.z) = tW A p.2 ρ := fun p hp => gZ (tn p.2) p.2 (le_refl _) fun y hy => by
    unfold fO;rw [if_neg fun e => hout p hp (by rw [← e]; exact hy)]
   by_cases hxs : x = s
   ·subst hxs;have e2 : fO (aIl A ρ ps) x A.z x = A.z := by unfold fO; rw [if_pos rfl]
    rw [e2];have hno : ¬ x ∈ (unF x body ps).map (·.1) := fun hm => by
     obtain ⟨p, hp, e⟩ := mem_map.1 hm;exact (iD.1 hp).2.1 e
    unfold aIl;by_cases hc : x ∈ unC (unF x body ps)
    ·have eP : unP x body ps = unF x body ps ++ [(x, .mk 2 0 (unN x body ps) [])] := by unfold unP; rw [if_pos hc]
     rw [eP, List.find?_append, nQ hno];show (match (none : Option (Str × Ty)).or ([(x, Ty.mk 2 0 (unN x body ps) [])].find? fun p => decide (p.1 = x)) with | some p => tW A p.2 (fO ρ (unN x body ps) A.z) | none => fO ρ (unN x body ps) A.z x) = A.z;rw [List.find?_cons_of_pos (by simp)];show tW A (.mk 2 0 (unN x body ps) []) (fO ρ (unN x body ps) A.z) = A.z;rw [tW, if_pos rfl];unfold fO;rw [if_pos rfl]
    ·have eP : unP x body ps = unF x body ps := by unfold unP; rw [if_neg hc]
     have eN : unN x body ps = x := by unfold unN; rw [if_neg hc]
     rw [eP, nQ hno, eN];unfold fO;rw [if_pos rfl]
   ·have e2 : fO (aIl A ρ ps) s A.z x = aIl A ρ ps x := by unfold fO; rw [if_neg hxs]
    rw [e2];have hff := rO (nm := s) (body := body) hxs hx ps;have hfP : (unP s body ps).find? (fun p => decide (p.1 = x)) = ps.find? (fun p => decide (p.1 = x)) := by
     rw [← hff];unfold unP;split
     ·rw [List.find?_append, List.find?_cons_of_neg (by simpa using fun e => hxs e.symm)];cases (unF s body ps).find? (fun p => decide (p.1 = x)) <;> rfl
     ·rfl
    have hNx : ¬ x = unN s body ps := fun e => by
     unfold unN at e;split at e
     ·exact lJ _ (mem_append.2 (.inr (by rw [← e]; exact hx)))
     ·exact hxs e
    unfold aIl;rw [hfP];cases hfd : ps.find? (fun p => decide (p.1 = x)) with
    | some p =>
     have hp : p ∈ unF s body ps := List.mem_of_find?_eq_some (hff.trans hfd);exact hsame p hp
    | none =>
     show fO ρ (unN s body ps) A.z x = ρ x;unfold fO;rw [if_neg hNx]
  rw [hcg] at hi;have hN : A.u (unN s body ps) (A.j (tW A (l8 body (unP s body ps)) (fO ρ (unN s body ps) A.z)) 0) ≤ A.u s (A.j (tW A (l8 body (unP s body ps)) (fO ρ (unN s body ps) A.z)) 0) := by
   generalize A.j (tW A (l8 body (unP s body ps)) (fO ρ (unN s body ps) A.z)) 0 = y;unfold unN;split
   ·exact A.ul (oL _ (hps.unl hfb))
   ·exact le_refl _
  exact le_trans hN (A.um (A.jm hi (le_refl _)))
 rw [if_neg h5, tW, if_neg h2, if_neg h5, tW, if_neg h2, if_neg h5, w0 h4 h5, tWs, tWs];exact le_refl _
def j6 : Alg := ⟨0, max, fun _ x => 1 + x, fun _ x => x, fun h1 h2 => by omega, fun h => by omega, fun h => h, fun _ => le_refl _⟩
def r0 : Str → Nat := fun _ => 0
theorem aIg (s : Str) : fO r0 s 0 = r0 := by
 funext x; unfold fO r0; split <;> rfl
theorem rL : ∀ (k : Nat) (t : Ty), tn t ≤ k → wfS t = true → fvm t ≤ (tfR t).length + tW j6 t r0
 | 0, t, h, _ => by have := mE t; omega
 | k + 1, .mk f n s a, h, hw => by
  obtain ⟨_, hwa, w4, w5, w0⟩ := qL hw;rw [tn] at h;by_cases h4 : f = 4
  ·subst h4;obtain ⟨rfl, rfl, u, v, rfl⟩ := w4 rfl;rw [tns, tns, tns] at h;have h1 := rL k u (by omega) (hwa u (by simp));have h2 := rL k v (by omega) (hwa v (by simp));have e : tW j6 (.mk 4 0 [] [u, v]) r0 = max (tW j6 u r0) (max (tW j6 v r0) 0) := by rw [tW, if_neg (by decide), if_neg (by decide), tWs, tWs, tWs]; rfl
   have g1 := iV _ _ (aHx u) fun x hx => qN (f := 4) (n := 0) (s := []) (a := [u, v]) (by decide) (by simp) hx (.inl (by decide))
   have g2 := iV _ _ (aHx v) fun x hx => qN (f := 4) (n := 0) (s := []) (a := [u, v]) (by decide) (by simp) hx (.inl (by decide))
   rw [fvm, e, aKk, aKk, aKk];omega
  ·by_cases h5 : f = 5
   ·subst h5;obtain ⟨rfl, body, rfl⟩ := w5 rfl;rw [tns, tns] at h;have h1 := rL k body (by omega) (hwa body (by simp));have e : tW j6 (.mk 5 0 s [body]) r0 = 1 + max (tW j6 body r0) 0 := by
     rw [tW, if_neg (by decide), if_pos rfl, tWs, tWs];show 1 + max (tW j6 body (fO r0 s 0)) 0 = _;rw [aIg]
    have g1 := iV _ (s :: tfR (.mk 5 0 s [body])) (aHx body) fun x hx => by
     by_cases hxs : x = s
     ·rw [hxs]; exact mem_cons_self
     ·exact mem_cons_of_mem _ (qN (by decide) (by simp) hx (.inr hxs))
    rw [length_cons] at g1;rw [fvm, e, aKk, aKk];omega
   ·rw [fvm, w0 h4 h5, aKk];omega
def gm (c : Core) : List (List (Str × List C) × List Core) :=
 ((if c.form = 5 then [(c.name, (aC c).drop 3)] else []) ++ c.binds.map (fun b => (b.name, (bA b).drop 1)), c.kids ++ c.binds.map Bind.body) :: c.alts.map fun a => (a.vars.map (fun v => (v, [])), [a.body])
def gmG (g : List (Str × List C) × List Core) : List (List C) × List Core := (g.1.map aG8, g.2)
theorem aN7 (c : Core) : gl c = (gm c).map gmG := by
 obtain ⟨f, n, s, t, ks, bs, al⟩ := c;unfold gl gm;rw [map_cons, map_map];congr 1
 ·unfold gmG;rw [map_append, map_map];congr 2;unfold nm0;split <;> rfl
 ·congr 1;funext a;unfold gmG;simp only [Function.comp, map_map];rfl
def pfG (G : List Str) (o : List Str) (s : Str) : List Str := if s ∈ G then o else rD o s
def pfP (G : List Str) (o l : List Str) : List Str := l.foldl (pfG G) o
def gvN (f : Int) (s : Str) (bs : List Bind) : List Str := (if f = 5 then [s] else []) ++ bs.map Bind.name
mutual
def pfR : Core → List Str
 | .mk f _ s _ ks bs al => if f = 1 then [s] else sC al (s9 (gvN f s bs) bs (pU (gvN f s bs) ks []))
def pU (G : List Str) : List Core → List Str → List Str
 | [], o => o
 | c :: l, o => pU G l (pfP G o (pfR c))
def s9 (G : List Str) : List Bind → List Str → List Str
 | [], o => o
 | .mk _ _ c :: l, o => s9 G l (pfP G o (pfR c))
def sC : List Alt → List Str → List Str
 | [], o => o
 | .mk _ _ _ v c :: l, o => sC l (pfP v o (pfR c))
end
def pfL (G : List Str) (l : List Core) (o : List Str) : List Str := l.foldl (fun o c => pfP G o (pfR c)) o
def pfM (L : List (List (Str × List C) × List Core)) (o : List Str) : List Str := L.foldl (fun o g => pfL (g.1.map (·.1)) g.2 o) o
theorem aBl (G : List Str) : ∀ (l : List Core) (o : List Str), pU G l o = pfL G l o
 | [], o => by rw [pU]; rfl
 | c :: l, o => by rw [pU, aBl G l]; rfl
theorem aJa (G : List Str) : ∀ (l : List Bind) (o : List Str), s9 G l o = pfL G (l.map Bind.body) o
 | [], o => by rw [s9]; rfl
 | .mk s t c :: l, o => by rw [s9, aJa G l]; rfl
theorem aJb : ∀ (l : List Alt) (o : List Str), sC l o = pfM (l.map fun a => (a.vars.map (fun v => (v, [])), [a.body])) o
 | [], o => by rw [sC]; rfl
 | .mk f n s v c :: l, o => by
  rw [sC, aJb l];have : (v.map (fun v => ((v, []) : Str × List C))).map (·.1) = v := by rw [map_map]; exact List.map_id _
  show _ = pfM _ (pfL ((v.map (fun v => ((v, []) : Str × List C))).map (·.1)) [c] o);rw [this];rfl
theorem aYa (c : Core) (h : ¬ c.form = 1) : pfR c = pfM (gm c) [] := by
 obtain ⟨f, n, s, t, ks, bs, al⟩ := c;have h : ¬ f = 1 := h;rw [pfR, if_neg h, aJb, aJa, aBl];unfold gm;show _ = pfM _ (pfL _ _ []);congr 1;unfold pfL;rw [foldl_append];have : gvN f s bs = (((if f = 5 then [((s, (aC (.mk f n s t ks bs al)).drop 3) : Str × List C)] else []) ++ bs.map (fun b => (b.name, (bA b).drop 1))).map (·.1)) := by
  unfold gvN;rw [map_append, map_map];congr 1;split <;> rfl
 rw [this];rfl
theorem aR2 (G o : List Str) (s : Str) : (pfG G o s).length ≤ o.length + 1 := by
 unfold pfG; split
 ·omega
 ·exact aD8 o s
theorem vS (G o : List Str) : ∀ l : List Str, (pfP G o l).length ≤ o.length + l.length := by
 intro l
 induction l generalizing o with
 | nil => exact le_refl _
 | cons s l ih =>
  have h1 := ih (pfG G o s);have h2 := aR2 G o s;show (pfP G (pfG G o s) l).length ≤ _;rw [length_cons]; omega
mutual
theorem aGc : ∀ c : Core, (pfR c).length ≤ b6 c
 | .mk f n s t ks bs al => by
  rw [pfR, b6];split
  ·simp; omega
  ·have h1 := aI6 (gvN f s bs) ks [];have h2 := aPv (gvN f s bs) bs (pU (gvN f s bs) ks []);have h3 := aPw al (s9 (gvN f s bs) bs (pU (gvN f s bs) ks []));simp only [length_nil] at h1;omega
theorem aI6 (G : List Str) : ∀ (l : List Core) (o : List Str), (pU G l o).length ≤ o.length + bJ l
 | [], o => by rw [pU]; omega
 | c :: l, o => by
  rw [pU, bJ];have h1 := aI6 G l (pfP G o (pfR c));have h2 := vS G o (pfR c);have h3 := aGc c;omega
theorem aPv (G : List Str) : ∀ (l : List Bind) (o : List Str), (s9 G l o).length ≤ o.length + cB l
 | [], o => by rw [s9]; omega
 | .mk s t c :: l, o => by
  rw [s9, cB, bsize];have h1 := aPv G l (pfP G o (pfR c));have h2 := vS G o (pfR c);have h3 := aGc c;omega
theorem aPw : ∀ (l : List Alt) (o : List Str), (sC l o).length ≤ o.length + bZ l
 | [], o => by rw [sC]; omega
 | .mk f n s v c :: l, o => by
  rw [sC, bZ, lZ];have h1 := aPw l (pfP v o (pfR c));have h2 := vS v o (pfR c);have h3 := aGc c;omega
end
theorem aNn (G o : List Str) {l : List Str} {i : Nat} {s : Str} (h : l[i]? = some s) : pfP G o (l.take (i + 1)) = pfG G (pfP G o (l.take i)) s := by
 unfold pfP; rw [fG h, foldl_append]; rfl
theorem aNp (G o : List Str) {l : List Core} {i : Nat} {c : Core} (h : l[i]? = some c) : pfL G (l.take (i + 1)) o = pfP G (pfL G (l.take i) o) (pfR c) := by
 unfold pfL; rw [fG h, foldl_append]; rfl
theorem aNo (o : List Str) {l : List (List (Str × List C) × List Core)} {i : Nat} {g : List (Str × List C) × List Core} (h : l[i]? = some g) : pfM (l.take (i + 1)) o = pfL (g.1.map (·.1)) g.2 (pfM (l.take i) o) := by
 unfold pfM; rw [fG h, foldl_append]; rfl
theorem aI8 (G : List Str) : ∀ (l : List Core) (o : List Str), (pfL G l o).length ≤ o.length + bJ l := fun l o => by rw [← aBl]; exact aI6 G l o
def gcs : List (List (Str × List C) × List Core) → Nat
 | [] => 0
 | g :: l => bJ g.2 + gcs l
theorem aI7 : ∀ (L : List (List (Str × List C) × List Core)) (o : List Str), (pfM L o).length ≤ o.length + gcs L
 | [], o => le_refl _
 | g :: L, o => by
  have h1 := aI7 L (pfL (g.1.map (·.1)) g.2 o);have h2 := aI8 (g.1.map (·.1)) g.2 o;show (pfM L (pfL (g.1.map (·.1)) g.2 o)).length ≤ _;rw [gcs]; omega
theorem lQ : ∀ a b : List Core, bJ (a ++ b) = bJ a + bJ b
 | [], b => by rw [nil_append, bJ, zero_add]
 | x :: a, b => by rw [cons_append, bJ, bJ, lQ a b, add_assoc]
theorem yX : ∀ l : List Bind, bJ (l.map Bind.body) ≤ cB l
 | [] => by rw [map_nil, bJ]; exact zero_le _
 | .mk s t c :: l => by rw [map_cons, bJ, cB, bsize]; have := yX l; show b6 c + _ ≤ _; omega
theorem aQc : ∀ l : List Alt, gcs (l.map fun a => (a.vars.map (fun v => (v, [])), [a.body])) ≤ bZ l
 | [] => by rw [map_nil, gcs]; exact zero_le _
 | .mk f n s v c :: l => by rw [map_cons, gcs, bZ, lZ, bJ, bJ]; have := aQc l; show b6 c + 0 + _ ≤ _; omega
theorem aV2 (c : Core) : gcs (gm c) ≤ b6 c := by
 obtain ⟨f, n, s, t, ks, bs, al⟩ := c;unfold gm;rw [gcs, b6];have h1 := lQ ks (bs.map Bind.body);have h2 := yX bs;have h3 := aQc al;show bJ (ks ++ bs.map Bind.body) + gcs (al.map fun a => (a.vars.map (fun v => (v, [])), [a.body])) ≤ _;omega
theorem aBr : ∀ a b, gcs (a ++ b) = gcs a + gcs b
 | [], b => by rw [nil_append, gcs, zero_add]
 | x :: a, b => by rw [cons_append, gcs, gcs, aBr a b, add_assoc]
theorem aV3 {L : List (List (Str × List C) × List Core)} {i : Nat} {g : List (Str × List C) × List Core} (h : L[i]? = some g) : gcs (L.take i) + bJ g.2 ≤ gcs L := by
 have h1 := take_append_drop (i + 1) L;have h2 := aBr (L.take (i + 1)) (L.drop (i + 1));rw [h1, fG h, aBr] at h2;simp only [gcs] at h2;omega
theorem aKz {l : List Core} {i : Nat} {c : Core} (h : l[i]? = some c) : bJ (l.take i) + b6 c ≤ bJ l := by
 have h1 := take_append_drop (i + 1) l;have h2 := lQ (l.take (i + 1)) (l.drop (i + 1));rw [h1, fG h, lQ] at h2;simp only [bJ] at h2;omega
def aFt (c : Core) : Prop := b6 c ≤ 570000000000 → aU Tryz.prog 67 [.pa (aC c)] [] (bU (pfR c)) []
theorem o4 (c : Core) (ih : ∀ x, b6 x < b6 c → aFt x) (hsz : b6 c ≤ 570000000000) : aU Tryz.prog 67 [.pa (aC c)] [] (ouV (pfR c)) [(500, ouO (pfR c))] := by
 by_cases h1 : c.form = 1
 ·obtain ⟨f, n, s, t, ks, bs, al⟩ := c;have h1 : f = 1 := h1;subst h1;rw [pfR, if_pos rfl];refine bT (n := 51) tok Tryz.func67 rfl rfl rfl ?_;refine a8 (ag [] rfl ?_);refine a8 (a8 (ag [] rfl ?_));refine aA rfl (fun _ => ?_) (fun hb => by cases hb);refine a8 (ag [(2, .id 500)] rfl ?_);exact aI rtT
 have hgr := zG c hsz;have hpf := aYa c h1;have hin : ∀ g ∈ gm c, ∀ x ∈ g.2, b6 x < b6 c := fun g hg x hx => aV0 (g := gmG g) (by rw [aN7]; exact mem_map.2 ⟨g, hg, rfl⟩) hx
 obtain ⟨hgl, hgm⟩ := aQa c;rw [aN7, length_map] at hgl;have hgm2 : ∀ g ∈ gm c, g.2.length ≤ b6 c ∧ g.1.length ≤ b6 c := fun g hg => by
  have := hgm (gmG g) (by rw [aN7]; exact mem_map.2 ⟨g, hg, rfl⟩);unfold gmG at this;rw [length_map] at this;exact this
 have hgc := aV2 c;rw [pB, aN7, map_map] at hgr;rw [hpf];clear hpf hgm;generalize gm c = L at hgr hin hgl hgm2 hgc ⊢;have hkL : (L.map (jY ∘ gmG)).length = L.length := length_map _;refine bT (n := 51) tok Tryz.func67 rfl rfl rfl ?_;refine a8 (ag [] rfl ?_);refine a8 (a8 (ag [] rfl ?_));refine aA rfl (fun hb => absurd (of_decide_eq_true hb) h1) (fun _ => ?_);refine aD ?_;refine a8 (ag [] rfl ?_);refine AWp.sub (Sub.fvar (id := 1) (l := aC c) rfl (by simp [keys])) ?_;refine AWp.sub (st2 := mk [(1, .one (.c (.pt (aC c)))), (3, .one (.c .nl))] []) sl ?_;refine AWp.sub (Sub.own (t := 3) (id := 500) 9 1 rfl rfl) ?_;refine a8 (a8 (aE mixed ?_));refine kc hgr ?_;refine ak 2 [] rfl ?_;refine az ?_;refine aB ?_;refine aL (fun i : Nat => mk [(3, ouV (pfM (L.take i) [])), (16, .one (.c (.sl 2 (L.map (jY ∘ gmG))))), (17, I .i64 ((L.map (jY ∘ gmG)).length : Int)), (18, I .i64 i)] [(500, ouO (pfM (L.take i) []))]) (fun i => i ≤ L.length) (fun i => L.length - i) 0 (zero_le _) sl ?_;intro i hi;refine a8 (ag [] rfl ?_);refine a8 (aA rfl (fun hb => ?_) (fun hb => ?_))
 ·have hlt := ltD hb hkL;obtain ⟨g, hg⟩ := aK hlt;have hg' := bQ (jY ∘ gmG) hg;have hgi := List.mem_of_getElem? hg;obtain ⟨hl1, hl2⟩ := hgm2 g hgi;have hst := aNo [] hg;have hml := aI7 (L.take i) [];have hga := aV3 hg;simp only [length_nil] at hml;have hinG := hin g hgi;have hkG : (g.2.map gS).length = g.2.length := length_map _;obtain ⟨G1, G⟩ := g;have hg' : (L.map (jY ∘ gmG))[i]? = some [.sl 1 (G1.map aG8), .sl 1 (G.map gS)] := hg';dsimp only at hl1 hl2 hst hkG hga hinG;generalize hG0 : G1.map (·.1) = G0 at hst;generalize pfM (L.take i) [] = x0 at hst hml ⊢;refine aD ?_;refine a8 (aB (a8 (ag [(0, .row i [.sl 1 (G1.map aG8), .sl 1 (G.map gS)])] rfl ?_)));refine a8 (ag [] rfl ?_);refine aB ?_;refine aL (fun j : Nat => mk [(3, ouV (pfL G0 (G.take j) x0)), (5, .one (.vp 5 0)), (16, .one (.c (.sl 2 (L.map (jY ∘ gmG))))), (17, I .i64 ((L.map (jY ∘ gmG)).length : Int)), (18, I .i64 i), (23, .one (.c (.sl 1 (G.map gS)))), (24, I .i64 ((G.map gS).length : Int)), (25, I .i64 j)] [(5, .var 125 [.c (.sl 1 (G1.map aG8)), .c (.sl 1 (G.map gS))]), (500, ouO (pfL G0 (G.take j) x0))]) (fun j => j ≤ G.length) (fun j => G.length - j) 0 (zero_le _) sl ?_;intro j hj;refine a8 (ag [] rfl ?_);refine a8 (aA rfl (fun hb => ?_) (fun hb => ?_))
  ·have hlt2 := ltD hb hkG;obtain ⟨p, hp⟩ := aK hlt2;have hp' := bQ gS hp;have hpi := List.mem_of_getElem? hp;have hpc := hinG p hpi;have hc := ih p hpc (by omega);have hst2 := aNp G0 x0 hp;have hml2 := aI8 G0 (G.take j) x0;have hca := aKz hp;have hple := aGc p;generalize pfL G0 (G.take j) x0 = x1 at hst2 hml2 ⊢;generalize pfR p = F at hc hst2 hple;have hkF : (F.map bN).length = F.length := length_map _;refine aD ?_;refine a8 (aB (a8 (ag [(0, .row j (gS p))] rfl ?_)));refine a8 (ag [(3, .pc (bU F))] rfl ?_);refine aB ?_;refine aL (fun k : Nat => mk [(3, ouV (pfP G0 x1 (F.take k))), (5, .one (.vp 5 0)), (16, .one (.c (.sl 2 (L.map (jY ∘ gmG))))), (17, I .i64 ((L.map (jY ∘ gmG)).length : Int)), (18, I .i64 i), (23, .one (.c (.sl 1 (G.map gS)))), (24, I .i64 ((G.map gS).length : Int)), (25, I .i64 j), (32, bU F), (33, I .i64 ((F.map bN).length : Int)), (34, I .i64 k)] [(5, .var 125 [.c (.sl 1 (G1.map aG8)), .c (.sl 1 (G.map gS))]), (500, ouO (pfP G0 x1 (F.take k)))]) (fun k => k ≤ F.length) (fun k => F.length - k) 0 (zero_le _) sl ?_;intro k hk;refine a8 (ag [] rfl ?_);refine a8 (aA rfl (fun hb => ?_) (fun hb => ?_))
   ·have hlt3 := ltD hb hkF;obtain ⟨s, hs⟩ := aK hlt3;have hs' := bQ bN hs;have hst3 := aNn G0 x1 hs;have hml3 := vS G0 x1 (F.take k);rw [length_take] at hml3;generalize pfP G0 x1 (F.take k) = x2 at hst3 hml3 ⊢;have hcp := aWx G1 s (by omega);rw [hG0] at hcp;have hmo := uF x2 [s] (by simp; omega);rw [show mR x2 [s] = rD x2 s from rfl] at hmo;refine aD ?_;refine a8 (aB (a8 (ag [(0, .row k (bN s))] rfl ?_)));refine a8 (aE mixed ?_);refine ak 3 [] rfl ?_;refine kc hcp ?_;refine ak 1 [] rfl ?_;refine az ?_;refine aA rfl (fun hb => ?_) (fun hb => ?_)
    ·have hni : ¬ s ∈ G0 := by simpa using hb
     rw [pfG, if_neg hni] at hst3;refine aE mixed ?_;refine ak 3 [(2, .all)] rfl ?_;refine kc hmo ?_;refine ak 1 [] rfl ?_;refine az ?_;refine ag [] rfl ?_;refine ⟨k + 1, hlt3, by dsimp only; omega, ?_⟩;dsimp only;rw [hst3];exact sl
    ·have hni : s ∈ G0 := by simpa using hb
     rw [pfG, if_pos hni] at hst3;refine aD ?_;refine ag [] rfl ?_;refine ⟨k + 1, hlt3, by dsimp only; omega, ?_⟩;dsimp only;rw [hst3];exact sl
   have hge3 := geD hb hkF hk;subst hge3;rw [take_length, ← hst2];refine aM ?_;refine ag [] rfl ?_;exact ⟨j + 1, hlt2, by dsimp only; omega, sl⟩
  have hge2 := geD hb hkG hj;subst hge2;rw [take_length, ← hst];refine aM ?_;refine ag [] rfl ?_;exact ⟨i + 1, hlt, by dsimp only; omega, sl⟩
 have hge := geD hb hkL hi;subst hge;rw [take_length];refine aM ?_;refine a8 (ag [] rfl ?_);exact aI rtT
theorem zB (c : Core) (ih : ∀ x, b6 x < b6 c → aFt x) : aFt c := fun hsz => (o4 c ih hsz).plain (length_map _).symm
theorem oQ : ∀ (n : Nat) (c : Core), b6 c ≤ n → aFt c
 | 0, c, h => by have := eZ c; omega
 | n + 1, c, h => zB c fun x hx => oQ n x (by omega)
def vC (z : Str) : Core := .mk 1 0 z zTy [] [] []
section
variable (sb : Core → Str → Core → Core)
noncomputable def fI (far : List Str) (st : List Str × List Core × List Str) (n : Str) : List Str × List Core × List Str :=
 if n ∈ far then (st.1 ++ [b8 st.2.2], st.2.1.map (fun p => sb p n (vC (b8 st.2.2))), st.2.2 ++ [b8 st.2.2]) else (st.1 ++ [n], st.2.1, st.2.2)
noncomputable def mU (far : List Str) (ns : List Str) (st : List Str × List Core × List Str) : List Str × List Core × List Str := ns.foldl (fI sb far) st
def aVc (s : Str) (ns : List Str) (ps : List Core) : Prop := s ∈ ps.flatMap pfR ∧ ¬ s ∈ ns
open Classical in
noncomputable def dN (s : Str) (b : Core) (ns : List Str) (ps : List Core) : List Str × List Core :=
 if aVc s ns ps then
  ((mU sb (pfR b) ns ([], ps, ps.flatMap pfR ++ ns ++ pfR b)).1, (mU sb (pfR b) ns ([], ps, ps.flatMap pfR ++ ns ++ pfR b)).2.1.map (fun p => sb p s b))
 else (ns, ps)
end
def mkB : List Ty → List Str → List Core → List Bind
 | t :: ts, n :: ns, p :: ps => .mk n t p :: mkB ts ns ps
 | _, _, _ => []
section
variable {sb : Core → Str → Core → Core}
theorem rI {far : List Str} {st : List Str × List Core × List Str} {n : Str} : (fI sb far st n).1.length = st.1.length + 1 ∧ (fI sb far st n).2.1.length = st.2.1.length ∧ (fI sb far st n).2.2.length ≤ st.2.2.length + 1 := by
 unfold fI;split <;> simp
theorem wF {far : List Str} : ∀ {ns : List Str} {st : List Str × List Core × List Str}, (mU sb far ns st).1.length = st.1.length + ns.length ∧ (mU sb far ns st).2.1.length = st.2.1.length ∧ (mU sb far ns st).2.2.length ≤ st.2.2.length + ns.length
 | [], st => by simp [mU]
 | n :: ns, st => by
  have h := wF (far := far) (ns := ns) (st := fI sb far st n);obtain ⟨g1, g2, g3⟩ := rI (sb := sb) (far := far) (st := st) (n := n);unfold mU at h ⊢;rw [foldl_cons, length_cons];omega
theorem aKh {far ns : List Str} {st : List Str × List Core × List Str} {i : Nat} {n : Str} (h : ns[i]? = some n) : mU sb far (ns.take (i + 1)) st = fI sb far (mU sb far (ns.take i) st) n := by
 unfold mU;rw [take_add_one, h, foldl_append]; rfl
theorem pT {s : Str} {b : Core} {ns : List Str} {ps : List Core} : (dN sb s b ns ps).1.length = ns.length ∧ (dN sb s b ns ps).2.length = ps.length := by
 unfold dN;split
 ·obtain ⟨h1, h2, _⟩ := wF (sb := sb) (far := pfR b) (ns := ns) (st := ([], ps, ps.flatMap pfR ++ ns ++ pfR b));exact ⟨by simpa using h1, by simpa using h2⟩
 ·exact ⟨rfl, rfl⟩
end
def aGj (sb : Core → Core) (ps : List Core) (j : Nat) : List Core := (ps.take j).map sb ++ ps.drop j
theorem aNv {sb : Core → Core} {ps : List Core} {j : Nat} : (aGj sb ps j).length = ps.length := by unfold aGj; simp; omega
theorem aR9 {sb : Core → Core} {ps : List Core} {j : Nat} {p : Core} (h : ps[j]? = some p) : (aGj sb ps j)[j]? = some p := by
 have hlt : j < ps.length := (List.getElem?_eq_some_iff.1 h).1
 unfold aGj;rw [List.getElem?_append_right (by simp; omega), length_map, length_take, min_eq_left (by omega), sub_self, List.getElem?_drop, add_zero, h]
theorem aJo {sb : Core → Core} {ps : List Core} {j : Nat} {p : Core} (h : ps[j]? = some p) : aGj sb ps (j + 1) = (aGj sb ps j).set j (sb p) := by
 have hlt : j < ps.length := (List.getElem?_eq_some_iff.1 h).1
 unfold aGj;rw [oN h, qT (by simp; omega), take_add_one, h];simp
theorem aJn {sb : Core → Core} {ps : List Core} : aGj sb ps 0 = ps := by simp [aGj]
theorem aNw {sb : Core → Core} {ps : List Core} : aGj sb ps ps.length = ps.map sb := by simp [aGj]
theorem pC (l : List Core) (j : Nat) (x : Core) : (aQ l).set j (aC x) = aQ (l.set j x) := by
 rw [bC, bC, map_set]
theorem tS : ∀ {ts : List Ty} {ns : List Str} {ps : List Core} {j : Nat} {t : Ty} {n : Str} {p : Core}, ts[j]? = some t → ns[j]? = some n → ps[j]? = some p → (mkB ts ns ps)[j]? = some (.mk n t p)
 | t' :: ts, n' :: ns, p' :: ps, 0, t, n, p, h1, h2, h3 => by
  simp at h1 h2 h3; subst h1 h2 h3; rfl
 | t' :: ts, n' :: ns, p' :: ps, j + 1, t, n, p, h1, h2, h3 => by
  simp only [List.getElem?_cons_succ] at h1 h2 h3;simp only [mkB, List.getElem?_cons_succ];exact tS h1 h2 h3
theorem rE : ∀ {ts : List Ty} {ns : List Str} {ps : List Core}, ns.length = ts.length → ps.length = ts.length → (mkB ts ns ps).length = ts.length
 | [], _, _, _, _ => by unfold mkB; rfl
 | t :: ts, n :: ns, p :: ps, h1, h2 => by
  simp only [length_cons] at h1 h2;simp only [mkB, length_cons, rE (ts := ts) (ns := ns) (ps := ps) (by omega) (by omega)]
theorem aEa : ∀ {ts : List Ty} {ns : List Str} {ps : List Core} {j : Nat} {t : Ty} {n : Str} (x : Core), ts[j]? = some t → ns[j]? = some n → j < ps.length → (mkB ts ns ps).set j (.mk n t x) = mkB ts ns (ps.set j x)
 | t' :: ts, n' :: ns, p' :: ps, 0, t, n, x, h1, h2, _ => by
  simp at h1 h2; subst h1 h2; rfl
 | t' :: ts, n' :: ns, p' :: ps, j + 1, t, n, x, h1, h2, h3 => by
  simp only [List.getElem?_cons_succ] at h1 h2;simp only [mkB, set_cons_succ];rw [aEa x h1 h2 (by simpa using h3)]
theorem aEb : ∀ {ts : List Ty} {ns : List Str} {ps : List Core} {j : Nat} {t : Ty} {p : Core} (z : Str), ts[j]? = some t → ps[j]? = some p → j < ns.length → (mkB ts ns ps).set j (.mk z t p) = mkB ts (ns.set j z) ps
 | t' :: ts, n' :: ns, p' :: ps, 0, t, p, z, h1, h2, _ => by
  simp at h1 h2; subst h1 h2; rfl
 | t' :: ts, n' :: ns, p' :: ps, j + 1, t, p, z, h1, h2, h3 => by
  simp only [List.getElem?_cons_succ] at h1 h2;simp only [mkB, set_cons_succ];rw [aEb z h1 h2 (by simpa using h3)]
theorem j0 (l : List Bind) (j : Nat) (x : Bind) : (aR l).set j (bA x) = aR (l.set j x) := by
 rw [bO, bO, map_set]
theorem aWa {l : List Core} {j : Nat} {x : Core} (h : l[j]? = some x) : (aQ l)[j]? = some (aC x) := iP h
def grO (nG : List R) (pG : List R) : AObj := .var 125 [.ras nG.length 1 nG, .ras pG.length 1 pG]
def tH (tys : List Ty) (nk : Nat) (ns : List Str) (ps : List Core) : List (Nat × AObj) := [(701, .arr 73 15 (aR (mkB tys ns (ps.drop nk))) 0), (702, .arr 37 10 (aQ (ps.take nk)) 0)]
def tN (nb : Nat) : List R := (nR false nb nb).flatten
def tP (nk nb : Nat) : List R := (pR nk nb nb).flatten
theorem lL {es : Nat} : ∀ {l : List (List R)}, (∀ r ∈ l, r.length = es) → l.flatten.length = l.length * es
 | [], _ => by simp
 | r :: l, h => by
  rw [flatten_cons, length_append, lL fun q hq => h q (mem_cons_of_mem _ hq), h r mem_cons_self, length_cons, add_mul];omega
theorem aPi {nk nb : Nat} : (tP nk nb).length = nk + nb := by unfold tP; rw [lL tJ, aJc]; omega
theorem aPk {nk nb j : Nat} (h : j < nk) : ((tP nk nb).drop (j * 1)).take 1 = [.ep 702 j 0 nk] := eI tJ j _ (aJe h)
theorem aPj {nk nb j : Nat} (h : j < nb) : ((tP nk nb).drop ((nk + j) * 1)).take 1 = [.ep 701 j 5 nb] := eI tJ _ _ (aJd h)
theorem aH8 {nb : Nat} : ∀ r ∈ nR false nb nb, r.length = 1 := fun r hr => by
 unfold nR at hr;exact qV (fun _ => rfl) r (by simpa [gNm] using hr)
theorem aUi {nb : Nat} : (tN nb).length = nb := by
 unfold tN;rw [lL aH8];unfold nR;rw [length_append, fX]; simp [gNm]
theorem aUj {nb j : Nat} (h : j < nb) : ((tN nb).drop (j * 1)).take 1 = [.ep 701 j 0 nb] := eI aH8 j _ (by
 unfold nR;rw [List.getElem?_append_right (by simp [gNm])];simp only [gNm, length_nil, sub_zero]
 exact aDn h)
theorem uY {nk nb : Nat} : ∀ x ∈ R.refsL (tP nk nb), x = 701 ∨ x = 702 := fun x hx => by
 unfold tP at hx;rw [dB] at hx;unfold pR at hx;rw [j9] at hx;rcases mem_append.1 hx with hx | hx
 ·exact .inr (lC (L := fun x => x = 702) (fun j x hx => by simpa [R.refsL, R.refs] using hx) _ x hx)
 ·exact .inl (lC (L := fun x => x = 701) (fun j x hx => by simpa [R.refsL, R.refs] using hx) _ x hx)
theorem aH7 {nb : Nat} : ∀ x ∈ R.refsL (tN nb), x = 701 := fun x hx => by
 unfold tN at hx;rw [dB] at hx;unfold nR at hx;rw [j9] at hx;rcases mem_append.1 hx with hx | hx
 ·simp [gNm, c8] at hx
 ·exact lC (L := fun x => x = 701) (fun j x hx => by simpa [R.refsL, R.refs] using hx) _ x hx
theorem aA2 {nk nb : Nat} : ∀ x ∈ (grO (tN nb) (tP nk nb)).refs, x = 701 ∨ x = 702 := fun x hx => by
 have hx : x ∈ R.refsL (tN nb) ++ (R.refsL (tP nk nb) ++ []) := hx;rw [append_nil] at hx;rcases mem_append.1 hx with hx | hx
 ·exact .inl (aH7 x hx)
 ·exact uY x hx
abbrev tG (tys : List Ty) (nk : Nat) (ns : List Str) (ps : List Core) : List (Nat × AObj) := (3, grO (tN tys.length) (tP nk tys.length)) :: tH tys nk ns ps
theorem tGW {tys : List Ty} {nk : Nat} {ns : List Str} {ps : List Core} : GW (tG tys nk ns ps) [] := ⟨⟨fun _ h => (by cases h), nodup_nil, fun _ h => (by cases h)⟩, fun x hx => by
 have hx : x ∈ (grO (tN tys.length) (tP nk tys.length)).refs ++ [] := hx;rw [append_nil] at hx;rcases aA2 x hx with rfl | rfl
 ·exact .inl (by simp [tG, tH, keys])
 ·exact .inl (by simp [tG, tH, keys]), rfl, rfl⟩
theorem aQy (tys : List Ty) (nk : Nat) (ns : List Str) (ps : List Core) (nm : Str) (b : Core) (sb : Core → Core) (hn : ns.length = tys.length) (hp : ps.length = nk + tys.length) (hb : ps.length ≤ 570000000000)
  (hs : ∀ p ∈ ps, aU Tryz.prog 25 [.pa (aC p), Go.AM.T nm, .pa (aC b)] [] (.pa (aC (sb p))) []) :
  aU Tryz.prog 131 [Go.AM.T nm, .pa (aC b), .one (.vp 3 0)] (tG tys nk ns ps ++ []) (.tup []) (tG tys nk ns (ps.map sb) ++ []) := by
 have hF : TF [] := tGW (tys := tys) (nk := nk) (ns := ns) (ps := ps).tf;have hpl := aPi (nk := nk) (nb := tys.length);have hkr : ∀ x ∈ R.refsL (tP nk tys.length), Kn [(4, .var 37 (bB b))] (tG tys nk ns ps) [] x := fun x hx => by
  rcases uY x hx with rfl | rfl
  ·exact .inr (.inl (by simp [tG, tH, keys]))
  ·exact .inr (.inl (by simp [tG, tH, keys]))
 refine sG hF (n := 23) tok Tryz.func131 rfl rfl rfl ?_;refine a8 (ag [] rfl ?_);refine a8 (ag [] rfl ?_);refine aB ?_;refine aL (fun j : Nat => mkt [(0, Go.AM.T nm), (2, .one (.vp 3 0)), (4, .one (.vp 4 0)), (8, .one (.ras (tP nk tys.length).length 1 (tP nk tys.length))), (9, I .i64 (((tP nk tys.length).length : Nat) : Int)), (10, I .i64 j)] ([(4, .var 37 (bB b))] ++ tG tys nk ns (aGj sb ps j)) []) (fun j => j ≤ (tP nk tys.length).length) (fun j => (tP nk tys.length).length - j) 0 (zero_le _) ?_ ?_
 ·rw [aJn];exact slG tGW (h1 := Kn.app Kn.nil (Kn.app (Kn.of rfl) (Kn.app (Kn.of rfl) (Kn.app hkr Kn.nil))))
 intro j hj;have hkr : ∀ ps', ∀ x ∈ R.refsL (tP nk tys.length), Kn [(4, .var 37 (bB b))] (tG tys nk ns ps') [] x := fun ps' x hx => by
  rcases uY x hx with rfl | rfl
  ·exact .inr (.inl (by simp [tG, tH, keys]))
  ·exact .inr (.inl (by simp [tG, tH, keys]))
 refine a8 (ag [] rfl ?_);refine a8 (aA rfl (fun hb => ?_) (fun hb => ?_))
 ·have hlt : j < (tP nk tys.length).length := by
   have : (j : Int) < ((tP nk tys.length).length : Int) := of_decide_eq_true hb;omega
  obtain ⟨p, hpj⟩ := aK (show j < ps.length by omega);have hc := hs p (List.mem_of_getElem? hpj);have hmj := aR9 (sb := sb) hpj;have hms := aJo (sb := sb) hpj;have hml := aNv (sb := sb) (ps := ps) (j := j);generalize aGj sb ps j = qs at hmj hms hml ⊢;have hsz1 : nk = (aQ (qs.take nk)).length := by rw [bC, length_map, length_take]; omega
  have hsz2 : tys.length = (aR (mkB tys ns (qs.drop nk))).length := by rw [bO, length_map, rE hn (by rw [length_drop]; omega)]
  refine aD ?_;by_cases hjk : j < nk
  ·have ht1 := aPk (nb := tys.length) hjk;have hrow : (aQ (qs.take nk))[j]? = some (aC p) := aWa (by rw [List.getElem?_take, if_pos hjk, hmj]);refine a8 (aB (a8 (ag [(0, .rowR j [.ep 702 j 0 nk])] rfl ?_)));refine aE mixed ?_;refine ak 6 [(3, .row j (aC p))] rfl ?_;refine kc hc ?_;refine ak 2 [(8, .row j (aC p))] rfl ?_;refine az ?_;refine ag [] rfl ?_;refine ⟨j + 1, hlt, by dsimp only; omega, ?_⟩;dsimp only;rw [hms];refine slG tGW (fun i hi => GW.kf i hi) (h1 := Kn.app Kn.nil (Kn.app (Kn.of rfl) (Kn.app (Kn.of rfl) (Kn.app (hkr _) Kn.nil)))) (hh := ⟨⟨_, rfl, .varS rfl⟩, ⟨_, rfl, .varS rfl⟩, ⟨_, rfl, .arrS ?_⟩, ⟨_, rfl, .arrS ?_⟩, trivial⟩)
   ·rw [List.drop_set_of_lt hjk]
   ·rw [List.take_set];exact pC _ _ _
  ·obtain ⟨j', rfl⟩ : ∃ j', j = nk + j' := ⟨j - nk, by omega⟩
   have hjb : j' < tys.length := by omega
   obtain ⟨t, ht⟩ := aK hjb;obtain ⟨n, hnn⟩ := aK (show j' < ns.length by omega);have hd : (qs.drop nk)[j']? = some p := by rw [List.getElem?_drop]; exact hmj
   have ht1 := aPj (nk := nk) hjb;have hrow : (aR (mkB tys ns (qs.drop nk)))[j']? = some (bA (.mk n t p)) := dC (tS ht hnn hd);refine a8 (aB (a8 (ag [(0, .rowR (nk + j') [.ep 701 j' 5 tys.length])] rfl ?_)));refine aE mixed ?_;refine ak 6 [(3, .row j' (bA (.mk n t p)))] rfl ?_;refine kc hc ?_;refine ak 2 [(8, .row j' (bA (.mk n t p)))] rfl ?_;refine az ?_;refine ag [] rfl ?_;refine ⟨nk + j' + 1, hlt, by dsimp only; omega, ?_⟩;dsimp only;rw [hms];refine slG tGW (fun i hi => GW.kf i hi) (h1 := Kn.app Kn.nil (Kn.app (Kn.of rfl) (Kn.app (Kn.of rfl) (Kn.app (hkr _) Kn.nil)))) (hh := ⟨⟨_, rfl, .varS rfl⟩, ⟨_, rfl, .varS rfl⟩, ⟨_, rfl, .arrS ?_⟩, ⟨_, rfl, .arrS ?_⟩, trivial⟩)
   ·rw [List.drop_set, if_neg (by omega), Nat.add_sub_cancel_left, ← aEa _ ht hnn (by rw [length_drop]; omega), ← j0];rfl
   ·rw [List.take_set_of_le (by omega)]
 have hge : j = ps.length := by
  have : ¬ (j : Int) < ((tP nk tys.length).length : Int) := of_decide_eq_false hb;omega
 subst hge;rw [aNw];refine aM ?_;exact ⟨.inl rfl, aBw (hl := tG tys nk ns (ps.map sb)) hF (by repeat (first | exact FarEq.raw hF | (refine FarEq.updL hF ?_) | (refine FarEq.upd hF ?_))) ⟨[], [], .nil, .nil, rfl⟩ (fun _ h => by cases h) tGW.refs (fun i hi => GW.kf i hi) (fun p hp => by rcases mem_append.1 hp with hp | hp; exact (all_eq_true.1 (tGW (tys := tys) (nk := nk) (ns := ns) (ps := ps)).plain) p hp; cases hp)⟩
theorem rV (s : Str) : aU Tryz.prog 52 [Go.AM.T s] [] (.pa (aC (vC s))) [] := by
 refine bT (n := 5) tok Tryz.func52 rfl rfl rfl ?_;refine a8 (ag [] rfl ?_);refine a8 (ag [] rfl ?_);exact aI (rtC trw)
theorem aSj {l : List Core} {j : Nat} {p : Core} (h : l[j]? = some p) : (l.take (j + 1)).flatMap pfR = (l.take j).flatMap pfR ++ pfR p := by
 rw [take_add_one, h, flatMap_append];simp
theorem aV8 (l : List Core) (j : Nat) : ((l.take j).flatMap pfR).length ≤ (l.flatMap pfR).length := by
 have : l.flatMap pfR = (l.take j).flatMap pfR ++ (l.drop j).flatMap pfR := by rw [← flatMap_append, take_append_drop]
 rw [this, length_append]; omega
structure PutOk (sb : Core → Str → Core → Core) (P : Core → Prop) (s : Str) (b : Core) (ps : List Core) : Prop where
 in_ : ∀ p ∈ ps, P p
 free : ∀ p ∈ ps, aU Tryz.prog 67 [.pa (aC p)] [] (bU (pfR p)) []
 far : aU Tryz.prog 67 [.pa (aC b)] [] (bU (pfR b)) []
 ren : ∀ p n z, P p → z.length ≤ 30 → P (sb p n (vC z))
 subz : ∀ p n z, P p → z.length ≤ 30 → aU Tryz.prog 25 [.pa (aC p), Go.AM.T n, .pa (aC (vC z))] [] (.pa (aC (sb p n (vC z)))) []
 subb : ∀ p, P p → aU Tryz.prog 25 [.pa (aC p), Go.AM.T s, .pa (aC b)] [] (.pa (aC (sb p s b))) []
 itoa : dR 540000000000
noncomputable def gSt (sb : Core → Str → Core → Core) (b : Core) (ns : List Str) (ps : List Core) (i : Nat) : List Str × List Core × List Str := mU sb (pfR b) (ns.take i) ([], ps, ps.flatMap pfR ++ ns ++ pfR b)
noncomputable def gNs (sb : Core → Str → Core → Core) (b : Core) (ns : List Str) (ps : List Core) (i : Nat) : List Str := (gSt sb b ns ps i).1 ++ ns.drop i
section
variable {sb : Core → Str → Core → Core} {b : Core} {ns : List Str} {ps : List Core} {i : Nat} {n : Str}
theorem gO (hi : i ≤ ns.length) : (gSt sb b ns ps i).1.length = i ∧ (gSt sb b ns ps i).2.1.length = ps.length ∧ (gSt sb b ns ps i).2.2.length ≤ (ps.flatMap pfR ++ ns ++ pfR b).length + i := by
 obtain ⟨h1, h2, h3⟩ := wF (sb := sb) (far := pfR b) (ns := ns.take i) (st := ([], ps, ps.flatMap pfR ++ ns ++ pfR b));rw [length_take, min_eq_left hi] at h1 h3;exact ⟨by unfold gSt; simpa using h1, h2, h3⟩
theorem aKf (hi : i ≤ ns.length) : (gNs sb b ns ps i).length = ns.length := by
 unfold gNs;rw [length_append, (gO hi).1, length_drop]; omega
theorem aQe (h : ns[i]? = some n) : (gNs sb b ns ps i)[i]? = some n := by
 have hlt : i < ns.length := (List.getElem?_eq_some_iff.1 h).1
 unfold gNs;rw [List.getElem?_append_right (by rw [(gO (le_of_lt hlt)).1]; exact le_refl _), (gO (le_of_lt hlt)).1, sub_self, List.getElem?_drop, add_zero, h]
theorem nN (h : ns[i]? = some n) : gSt sb b ns ps (i + 1) = fI sb (pfR b) (gSt sb b ns ps i) n := aKh h
theorem aQd (h : ns[i]? = some n) (hf : n ∈ pfR b) : gNs sb b ns ps (i + 1) = (gNs sb b ns ps i).set i (b8 (gSt sb b ns ps i).2.2) := by
 have hlt : i < ns.length := (List.getElem?_eq_some_iff.1 h).1
 have hl := (gO (sb := sb) (b := b) (ps := ps) (le_of_lt hlt)).1
 unfold gNs;rw [nN h, oN h, qT hl];unfold fI;rw [if_pos hf];simp
theorem aKe (h : ns[i]? = some n) (hf : ¬ n ∈ pfR b) : gNs sb b ns ps (i + 1) = gNs sb b ns ps i := by
 unfold gNs;rw [nN h, oN h];unfold fI;rw [if_neg hf];simp
theorem aEq : gNs sb b ns ps 0 = ns := by unfold gNs gSt mU; simp
theorem wD : gSt sb b ns ps 0 = ([], ps, ps.flatMap pfR ++ ns ++ pfR b) := by unfold gSt mU; simp
theorem aKg : gNs sb b ns ps ns.length = (gSt sb b ns ps ns.length).1 := by unfold gNs; simp
theorem aKc : gSt sb b ns ps ns.length = mU sb (pfR b) ns ([], ps, ps.flatMap pfR ++ ns ++ pfR b) := by unfold gSt; rw [take_length]
theorem aKd {P : Core → Prop} {s : Str} (h : PutOk sb P s b ps) : ∀ {i : Nat}, i ≤ ns.length → (gSt sb b ns ps i).2.2.length ≤ 540000000000 → (∀ j, j ≤ i → (gSt sb b ns ps j).2.2.length ≤ 540000000000) → ∀ p ∈ (gSt sb b ns ps i).2.1, P p
 | 0, _, _, _ => by rw [wD]; exact h.in_
 | i + 1, hi, _, hb => by
  obtain ⟨n, hn⟩ := aK (show i < ns.length by omega);have ih := aKd h (i := i) (by omega) (hb i (by omega)) fun j hj => hb j (by omega)
  rw [nN hn];unfold fI;split
  ·intro p hp;obtain ⟨q, hq, rfl⟩ := mem_map.1 hp;exact h.ren q n _ (ih q hq) (le_trans (jD _ (hb i (by omega))) (by omega))
  ·exact ih
end
end Go.Proofs.YtmoekkcdkjopgaaGreatDoor
