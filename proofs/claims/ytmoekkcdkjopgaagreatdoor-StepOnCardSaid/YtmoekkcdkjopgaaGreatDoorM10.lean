/-
  Texts Lg19 to Ly4 in one.
-/
import Derived.Test.YtmoekkcdkjopgaaGreatDoorM9
open List (append_nil drop_left flatMap_cons flatMap_nil length_append length_cons length_drop length_eq_one_iff length_eq_zero_iff length_map length_nil length_set length_take map_congr_left map_cons map_map map_nil mem_append mem_cons mem_cons_of_mem mem_cons_self mem_map mem_of_mem_drop mem_of_mem_take mem_singleton nil_append nodup_append nodup_nil not_mem_nil take_left take_length)
open Nat (add_assoc add_mul add_zero beq_refl le_max_left le_max_right le_mul_of_pos_right le_of_eq le_refl le_trans max_le mul_le_mul_right zero_add zero_le)
namespace Go.Proofs.YtmoekkcdkjopgaaGreatDoor
open Go Go.AM
set_option maxRecDepth 20000
theorem aLd (f n : Int) (nm name : Str) (t by_ : Ty) (ks : List Core) (bs : List Bind) (al : List Alt)
  (hcs : b6 (.mk f n nm t ks bs al) ≤ 570000000000) (hT : allT TyG (.mk f n nm t ks bs al)) (h7 : f = 7)
  (hs : nm = name ∨ (nm ≠ name ∧ ∃ tl : List Str, aU Tryz.prog 61 [.pa (aC (.mk f n nm t ks bs al))] [] (bU tl) [] ∧ ¬ name ∈ tl ∧ tl.length ≤ 540000000000)) :
  aU Tryz.prog 23 [.pa (aC (.mk f n nm t ks bs al)), Go.AM.T name, tyV by_] [] (.pa (aC (.mk f n nm t ks bs al))) [] := by
 have hob := rS (b6 (.mk f n nm t ks bs al)) _ (le_refl _) hcs hT;have hob : aU Tryz.prog 59 [.pa (aC (.mk f n nm t ks bs al))] [] (.pa (aC (.mk f n nm t ks bs al))) [] := hob;have hd7 : decide (f = 7) = true := decide_eq_true h7;refine bT (n := 84) tok Tryz.func23 rfl rfl rfl ?_;refine a8 (ag [] rfl ?_);refine a8 (aE mixed ?_);refine ak 1 [] rfl ?_;refine kc hob ?_;refine ak 2 [] rfl ?_;refine az ?_;refine a8 (a8 (ag [] rfl ?_));refine aA rfl (fun _ => ?_) (fun hb => ?_)
 ·refine a8 (a8 ?_);rcases hs with h | ⟨h, tl, hty, hn, hl⟩
  ·have hd : decide (nm = name) = true := decide_eq_true h;refine ag [(4, .bv true), (10, .bv true)] rfl ?_;refine aA rfl (fun _ => ?_) (fun hb => by cases hb);refine a8 (ag [] rfl ?_);exact aI (rtC trw)
  ·have hd : decide (nm = name) = false := decide_eq_false h;have hct := bW tl name (by omega);rw [decide_eq_false hn] at hct;refine aE mixed ?_;refine ak 6 [(4, .bv false)] rfl ?_;refine kcG hty ?_;refine ak 1 [(4, .bv false)] rfl ?_;refine kcG hct ?_;refine ak 2 [(4, .bv false), (10, .bv false)] rfl ?_;refine az ?_;refine aA rfl (fun _ => ?_) (fun hb => by cases hb);refine a8 (ag [] rfl ?_);exact aI (rtC trw)
 ·exact absurd (show decide (f = 7) = false from hb) (by rw [hd7]; decide)
def gHm (f n : Int) (s : Str) (t : Ty) (nk nb na : Nat) (ks : List Core) (bs : List Bind) (al : List Alt) : List (Nat × AObj) :=
 [(700, .var 37 (eD f n s t nk nb na)), (701, .arr 73 15 (aR bs) 0), (702, .arr 37 10 (aQ ks) 0), (703, .rarr 78 14 (aS 0 al))]
theorem gWm {f n : Int} {s : Str} {t : Ty} {nk nb na : Nat} {ks : List Core} {bs : List Bind} {al A : List Alt} (h : fam 0 A = fam 0 al) : GW (gHm f n s t nk nb na ks bs A) (fam 0 al) := by
 rw [← h];refine ⟨fJ, fun x hx => ?_, rfl, rfl⟩;simp only [gHm, dG, AObj.refs, eD, R.refsL, R.refs, nil_append, append_nil, mem_append, mem_cons, not_mem_nil, or_false, false_or] at hx;rcases hx with (rfl | rfl | rfl) | hx
 ·exact .inl (by simp [gHm, keys])
 ·exact .inl (by simp [gHm, keys])
 ·exact .inl (by simp [gHm, keys])
 ·exact .inr (cR x hx)
def gK (sb : Core → Core) (ks : List Core) : Nat → List Core
 | 0 => ks
 | _ + 1 => ks.map sb
def gB (sb : Core → Core) (bs : List Bind) : Nat → List Bind
 | 0 => bs
 | _ + 1 => bs.map (sbB sb)
def gA (sb : Core → Core) (al : List Alt) : Nat → List Alt
 | 0 => al
 | i + 1 => kM (sbA sb) al i
theorem aKi {sb : Core → Core} {al : List Alt} : ∀ g, fam 0 (gA sb al g) = fam 0 al
 | 0 => rfl
 | i + 1 => aEx sb al 0 i
theorem kbE (l : List Bind) : l.length = (aR l).length := by rw [bO, length_map]
theorem kcE (l : List Core) : l.length = (aQ l).length := by rw [bC, length_map]
theorem zA (f n : Int) (nm nm1 name : Str) (t by_ : Ty) (ks ks1 : List Core) (bs : List Bind) (al : List Alt) (ts : Ty → Ty) (sb : Core → Core)
  (hcs : b6 (.mk f n nm t ks bs al) ≤ 570000000000) (hT : allT TyG (.mk f n nm t ks bs al)) (hkl : ks1.length = ks.length)
  (h7 : f = 7 → nm ≠ name ∧ bs = [] ∧ al = [] ∧ ∃ tl fr : List Str, aU Tryz.prog 61 [.pa (aC (.mk f n nm t ks bs al))] [] (bU tl) [] ∧ name ∈ tl ∧ tl.length ≤ 540000000000 ∧ aU Tryz.prog 63 [tyV by_] [] (bU fr) [] ∧
   aU Tryz.prog 62 [.one (.vp 700 0), bU fr] (gHl f n nm t ks [] []) (.tup []) (gHl f n nm1 t ks1 [] []))
  (hn7 : f ≠ 7 → nm1 = nm ∧ ks1 = ks)
  (hts : ∀ u, (u = t ∨ ∃ b ∈ bs, u = b.ty) → aU Tryz.prog 65 [tyV u, bU [name], .one (.c (.sl 4 [bD by_]))] [] (tyV (ts u)) [])
  (hsb : ∀ x, (x ∈ ks1 ∨ (∃ b ∈ bs, x = b.body) ∨ ∃ a ∈ al, x = a.body) → aU Tryz.prog 23 [.pa (aC x), Go.AM.T name, tyV by_] [] (.pa (aC (sb x))) []) :
  aU Tryz.prog 23 [.pa (aC (.mk f n nm t ks bs al)), Go.AM.T name, tyV by_] [] (.pa (aC (iR ts sb (.mk f n nm1 t ks1 bs al)))) [] := by
 have hog := aQt (.mk f n nm t ks bs al) hcs hT;have hog : aU Tryz.prog 59 [.pa (aC (.mk f n nm t ks bs al))] [] (.ma (eD f n nm t ks.length bs.length al.length)) (oHl ks bs al ++ fam 0 al) := hog;have hF : TF (fam 0 al) := fJ;refine bT (n := 84) tok Tryz.func23 rfl rfl rfl ?_;refine a8 (ag [] rfl ?_);refine a8 (aE mixed ?_);refine ak 1 [] rfl ?_;refine kc hog ?_ (hout' := eQ.app ⟨.inr rfl, .inr rfl, .inr rfl, trivial⟩ (eQ.of fun p hp => .inr ((show gM _ by repeat (first | exact gM.nil | (refine gM.updL ?_) | (refine gM.upd ?_))) p.1 (hF.far p hp))));rw [qF hF];refine ak 2 [(2, .id 700)] rfl ?_;refine az ?_;refine AWp.sub (st2 := mkt [(3, .one (.vp 3 0)), (4, .one (.vp 4 0)), (5, .one (.vp 5 0)), (6, .one (.vp 6 0)), (7, .one (.vp 700 0))] ([(3, .var 37 (bB (.mk f n nm t ks bs al))), (4, .var 9 [.c (.str name)]), (5, .var 33 ((bD by_).map R.c)), (6, .var 37 bS)] ++ gHl f n nm t ks bs al) (fam 0 al)) (slG gW (fun _ h => by cases h) (by repeat (first | exact FarEq.bif hF (FarEq.outs hF) | (refine FarEq.updL hF ?_) | (refine FarEq.upd hF ?_)))) ?_;refine a8 (AWp.cut (mkt [(4, .one (.vp 4 0)), (5, .one (.vp 5 0)), (6, .one (.vp 6 0)), (7, .one (.vp 700 0))] ([(4, .var 9 [.c (.str name)]), (5, .var 33 ((bD by_).map R.c)), (6, .var 37 bS)] ++ gHl f n nm1 t ks1 bs al) (fam 0 al)) ?_ ?_)
 ·refine a8 (ag [] rfl ?_);refine aA rfl (fun hb => ?_) (fun hb => ?_)
  ·have hf : f = 7 := of_decide_eq_true (show decide (f = 7) = true from hb);obtain ⟨hne, rfl, rfl, tl, fr, hty, hin, hl, hfr, hcl⟩ := h7 hf;have hd : decide (nm = name) = false := decide_eq_false hne;have hct := bW tl name (by omega);rw [decide_eq_true hin] at hct;refine a8 (a8 (aE mixed ?_));refine ak 6 [(4, .bv false)] rfl ?_;refine kcG hty ?_;refine ak 1 [(4, .bv false)] rfl ?_;refine kcG hct ?_;refine ak 2 [(4, .bv false), (10, .bv false)] rfl ?_;refine az ?_;refine aA rfl (fun hb => by cases hb) (fun _ => ?_);refine aD ?_;refine aE mixed ?_;refine ak 1 [] rfl ?_;refine kc hfr ?_;refine kc hcl ?_;refine az ?_;exact slG gW (fun _ h => by cases h) (fun p hp => by cases hp)
  ·have hf : f ≠ 7 := of_decide_eq_false (show decide (f = 7) = false from hb);obtain ⟨rfl, rfl⟩ := hn7 hf;exact aD (slG gW (fun _ h => by cases h) (by repeat (first | exact FarEq.raw hF | (refine FarEq.updL hF ?_) | (refine FarEq.upd hF ?_))))
 have hbK : ∀ j, (kM (fun b : Bind => tsB ts b) bs j).length = bs.length := fun j => lI
 have h1 : ∀ u, (u = t ∨ ∃ b ∈ bs, u = b.ty) → aU Tryz.prog 64 ([tyV u] ++ [R.vp 4 0, R.vp 5 0].map V.one) [(4, .var 9 [.c (.str name)]), (5, .var 33 ((bD by_).map R.c))] (tyV (ts u)) [(4, .var 9 [.c (.str name)]), (5, .var 33 ((bD by_).map R.c))] := fun u hu => aYr name by_ u (ts u) (hts u hu)
 have ht := h1 t (.inl rfl);have hbE := kbE bs;obtain ⟨ihk, ihb, iha, hkl', hbl, hal⟩ := @kA f n nm t ks bs al;have hbl' : bs.length ≤ 570000000000 := by omega
 refine a8 (ag [] rfl ?_);refine a8 (aE mixed ?_);refine ak 3 [] rfl ?_;refine kv (args := [tyV t]) ht ?_;refine ak 2 [] rfl ?_;refine az ?_;refine a8 (a8 (ag [] rfl ?_));refine aB ?_;have hm0 : kM (fun b : Bind => tsB ts b) bs 0 = bs := kL;refine aL (fun i : Nat => mkt [(4, .one (.vp 4 0)), (5, .one (.vp 5 0)), (6, .one (.vp 6 0)), (7, .one (.vp 700 0)), (8, .one (.clo 64 [.vp 4 0, .vp 5 0])), (42, I .i64 ((bs.length : Nat) : Int)), (43, I .i64 i)] ([(4, .var 9 [.c (.str name)]), (5, .var 33 ((bD by_).map R.c)), (6, .var 37 bS)] ++ gHl f n nm1 (ts t) ks1 (kM (fun b : Bind => tsB ts b) bs i) al) (fam 0 al)) (fun i => i ≤ bs.length) (fun i => bs.length - i) 0 (zero_le _) ?_ ?_
 ·rw [hm0];exact slG gW (fun _ h => by cases h) (by repeat (first | exact FarEq.raw hF | (refine FarEq.updL hF ?_) | (refine FarEq.upd hF ?_)))
 intro i hi;have hBl := lI (g := fun b : Bind => tsB ts b) (bs := bs) (j := i);have hBe := kbE (kM (fun b : Bind => tsB ts b) bs i);refine a8 (ag [] rfl ?_);refine a8 (aA rfl (fun hb => ?_) (fun hb => ?_))
 ·have hlt : i < bs.length := by
   have : (i : Int) < (bs.length : Int) := of_decide_eq_true hb;omega
  obtain ⟨b, hbi⟩ := aK hlt;have hat := dC (vZ (g := fun b : Bind => tsB ts b) hbi);have hst := nH (g := fun b : Bind => tsB ts b) hbi;have hl2 := lI (g := fun b : Bind => tsB ts b) (bs := bs) (j := i + 1);have hbt := h1 b.ty (.inr ⟨b, List.mem_of_getElem? hbi, rfl⟩);rw [hst] at hl2;generalize kM (fun b : Bind => tsB ts b) bs i = B at *;have hltB : i < B.length := by omega
  refine aD ?_;refine a8 (aB (a8 (ag [] rfl ?_)));refine aE mixed ?_;refine ak 10 [(9, .row i (bA b))] rfl ?_;refine kv (args := [tyV b.ty]) hbt ?_;refine ak 3 [(13, .row i (bA b))] rfl ?_;refine az ?_;refine ag [] rfl ?_;refine ⟨i + 1, hlt, by dsimp only; omega, ?_⟩;dsimp only;rw [hst];refine slG gW (fun _ h => by cases h) (hh := ⟨⟨_, rfl, .var rfl⟩, ⟨_, rfl, .var rfl⟩, ⟨_, rfl, .var rfl⟩, ⟨_, rfl, .varS ?_⟩, ⟨_, rfl, .arrS ?_⟩, ⟨_, rfl, .arr⟩, ⟨_, rfl, .rarrS rfl⟩, trivial⟩)
  ·rw [length_set]
  ·exact j0 B i (tsB ts b)
 refine aM ?_;have hge : bs.length ≤ i := by
  have : ¬ (i : Int) < (bs.length : Int) := of_decide_eq_false hb;omega
 rw [vY hge] at hBl hBe ⊢;have hsbB : ∀ x ∈ bs.map (fun b : Bind => tsB ts b), aU Tryz.prog 23 [.pa (aC x.body), Go.AM.T name, tyV by_] [] (.pa (aC (sb x.body))) [] := fun x hx => by
  obtain ⟨b, hb, rfl⟩ := mem_map.1 hx;exact hsb b.body (.inr (.inl ⟨b, hb, rfl⟩))
 have eR : aC (iR ts sb (.mk f n nm1 t ks1 bs al)) = aC (.mk f n nm1 (ts t) (ks1.map sb) ((bs.map fun b : Bind => tsB ts b).map (sbB sb)) (al.map (sbA sb))) := by
  rw [map_map]; rfl
 rw [eR];have hB1l : (bs.map fun b : Bind => tsB ts b).length ≤ 570000000000 := by rw [length_map]; exact hbl'
 clear hBl hge hb hbK hm0 ht h1 hog eR hbE;generalize (bs.map fun b : Bind => tsB ts b) = B1 at *;generalize ts t = t1 at *;have hk1l : ks1.length ≤ 570000000000 := by omega
 have hal' : al.length ≤ 570000000000 := by omega
 have hgr := rT (decide (f = 5)) f n nm1 t1 ks1 B1 al rfl (by omega) (by omega) (by omega) (fun a ha => by
  have hav := fR ha;have hvl := oA a
  rw [b6] at hcs; omega)
 have hrows := mT (f := f) (n := n) (s := nm1) (t := t1) (ks := ks1) (bs := B1) (al := al) (decide (f = 5)) al.length;rw [take_length] at hrows;have hgl : (c6 (decide (f = 5)) ks1.length B1.length al.length al).length = 1 + al.length := aSg;have hra : gfo f n nm1 t1 ks1 B1 al (R.refsL (c6 (decide (f = 5)) ks1.length B1.length al.length al).flatten) := by rw [dB]; exact hrows
 have hg0 : (c6 (decide (f = 5)) ks1.length B1.length al.length al)[0]? = some (oJ (decide (f = 5)) ks1.length B1.length) := aSi;have hgA : ∀ i a, al[i]? = some a → (c6 (decide (f = 5)) ks1.length B1.length al.length al)[i + 1]? = some (l7 al.length i a) := fun i a h => aSh h
 have htk : ∀ k r, (c6 (decide (f = 5)) ks1.length B1.length al.length al)[k]? = some r → ((c6 (decide (f = 5)) ks1.length B1.length al.length al).flatten.drop (k * 2)).take 2 = r := eI aBs;generalize c6 (decide (f = 5)) ks1.length B1.length al.length al = G at hgr hgl hra hg0 hgA htk;generalize decide (f = 5) = b5 at hg0;refine a8 (a8 (aE mixed ?_));refine kc hgr ?_ (hin' := eQ.app ⟨rfl, rfl, rfl, rfl, trivial⟩ (FarEq.raw hF).all) (hout' := eQ.of fun p hp => .inl (mem_map.2 ⟨p, hp, rfl⟩)) (hok := mY hF (fun x hx => .inl (bP (show subset _ _ = true from rfl) x hx)) qD);refine ak 2 [] rfl ?_;refine az ?_;refine AWp.sub (Sub.outsT hF) ?_;refine aB ?_;have hel : ∀ K B A ex, ∀ x ∈ R.refsL G.flatten, Kn ex (gHm f n nm1 t1 ks1.length B1.length al.length K B A) (fam 0 al) x := fun K B A ex => Kn.gf hra
 refine aL (fun g : Nat => mkt [(4, .one (.vp 4 0)), (5, .one (.vp 5 0)), (6, .one (.vp 6 0)), (7, .one (.vp 700 0)), (60, .one (.ras G.length 2 G.flatten)), (61, I .i64 ((G.length : Nat) : Int)), (62, I .i64 g)] ([(4, .var 9 [.c (.str name)]), (5, .var 33 ((bD by_).map R.c)), (6, .var 37 bS)] ++ gHm f n nm1 t1 ks1.length B1.length al.length (gK sb ks1 g) (gB sb B1 g) (gA sb al g)) (fam 0 al)) (fun g => g ≤ G.length) (fun g => G.length - g) 0 (zero_le _) (slG (gWm rfl) (fun _ h => by cases h) (FarEq.bif hF (FarEq.outs hF)) (h1 := Kn.app (Kn.of rfl) (Kn.app (Kn.of rfl) (Kn.app (Kn.of rfl) (Kn.app (Kn.of rfl) (Kn.app (hel _ _ _ _) Kn.nil)))))) ?_;intro g hg;refine a8 (ag [] rfl ?_);refine a8 (aA rfl (fun hb => ?_) (fun hb => ?_))
 ·have hlt : g < G.length := by
   have : (g : Int) < (G.length : Int) := of_decide_eq_true hb;omega
  refine aD ?_;cases g with
  | zero =>
   have ht0 := htk 0 _ hg0;have hpl : (pR ks1.length B1.length B1.length).length = ks1.length + B1.length := aJc;have hpr0 : gfo f n nm1 t1 ks1 B1 al (R.refsL (pR ks1.length B1.length B1.length).flatten) := by rw [dB]; exact aMr _ _ _
   have hpr : ∀ K B A ex, ∀ x ∈ R.refsL (pR ks1.length B1.length B1.length).flatten, Kn ex (gHm f n nm1 t1 ks1.length B1.length al.length K B A) (fam 0 al) x := fun K B A ex => Kn.gf hpr0
   have hpt : ∀ k r, (pR ks1.length B1.length B1.length)[k]? = some r → ((pR ks1.length B1.length B1.length).flatten.drop (k * 1)).take 1 = r := eI tJ;have hp1 : ∀ j, j < ks1.length → (pR ks1.length B1.length B1.length)[j]? = some [.ep 702 j 0 ks1.length] := fun j h => aJe h
   have hp2 : ∀ j, j < B1.length → (pR ks1.length B1.length B1.length)[ks1.length + j]? = some [.ep 701 j 5 B1.length] := fun j h => aJd h
   refine a8 (aB (a8 (ag [(0, .rowR 0 (oJ b5 ks1.length B1.length))] rfl ?_)));refine a8 (ag [] rfl ?_);refine aB ?_;have e0K : kM sb ks1 0 = ks1 := kL;have e0B : kM (sbB sb) B1 (0 - ks1.length) = B1 := by rw [Nat.zero_sub]; exact kL
   refine aL (fun j : Nat => mkt [(4, .one (.vp 4 0)), (5, .one (.vp 5 0)), (6, .one (.vp 6 0)), (7, .one (.vp 700 0)), (60, .one (.ras G.length 2 G.flatten)), (61, I .i64 ((G.length : Nat) : Int)), (62, I .i64 (0 : Nat)), (67, .one (.ras (pR ks1.length B1.length B1.length).length 1 (pR ks1.length B1.length B1.length).flatten)), (68, I .i64 (((pR ks1.length B1.length B1.length).length : Nat) : Int)), (69, I .i64 j)] ([(4, .var 9 [.c (.str name)]), (5, .var 33 ((bD by_).map R.c)), (6, .var 37 bS)] ++ gHm f n nm1 t1 ks1.length B1.length al.length (kM sb ks1 j) (kM (sbB sb) B1 (j - ks1.length)) al) (fam 0 al)) (fun j => j ≤ (pR ks1.length B1.length B1.length).length) (fun j => (pR ks1.length B1.length B1.length).length - j) 0 (zero_le _) ?_ ?_
   ·rw [e0K, e0B];exact slG (gWm rfl) (fun _ h => by cases h) (h1 := Kn.app (Kn.of rfl) (Kn.app (Kn.of rfl) (Kn.app (Kn.of rfl) (Kn.app (Kn.of rfl) (Kn.app (hel _ _ _ _) (Kn.app Kn.nil (Kn.app Kn.nil (Kn.app (hpr _ _ _ _) Kn.nil))))))))
   intro j hj;refine a8 (ag [] rfl ?_);refine a8 (aA rfl (fun hb => ?_) (fun hb => ?_))
   ·have hlt2 : j < (pR ks1.length B1.length B1.length).length := by
     have : (j : Int) < ((pR ks1.length B1.length B1.length).length : Int) := of_decide_eq_true hb;omega
    refine aD ?_;by_cases hjk : j < ks1.length
    ·obtain ⟨k, hki⟩ := aK hjk;have hki' := iP (vZ (g := sb) hki);have hst := nH (g := sb) hki;have hc := hsb k (.inl (List.mem_of_getElem? hki));have ht1 := hpt j _ (hp1 j hjk);have hle := (lI (g := sb) (bs := ks1) (j := j)).symm.trans (kcE (kM sb ks1 j));have hj0 : j + 1 - ks1.length = j - ks1.length := by omega
     have hset := pC (kM sb ks1 j) j (sb k);refine a8 (aB (a8 (ag [(0, .rowR j [.ep 702 j 0 ks1.length])] rfl ?_)));refine aE mixed ?_;refine ak 6 [(3, .row j (aC k))] rfl ?_;refine kc hc ?_;refine ak 2 [(8, .row j (aC k))] rfl ?_;refine az ?_;refine ag [] rfl ?_;refine ⟨j + 1, hlt2, by dsimp only; omega, ?_⟩;dsimp only;rw [hj0, hst];exact slG (gWm rfl) (fun _ h => by cases h) (h1 := Kn.app (Kn.of rfl) (Kn.app (Kn.of rfl) (Kn.app (Kn.of rfl) (Kn.app (Kn.of rfl) (Kn.app (hel _ _ _ _) (Kn.app Kn.nil (Kn.app Kn.nil (Kn.app (hpr _ _ _ _) Kn.nil)))))))) (hh := ⟨⟨_, rfl, .var rfl⟩, ⟨_, rfl, .var rfl⟩, ⟨_, rfl, .var rfl⟩, ⟨_, rfl, .var rfl⟩, ⟨_, rfl, .arr⟩, ⟨_, rfl, .arrS hset⟩, ⟨_, rfl, .rarrS rfl⟩, trivial⟩)
    ·obtain ⟨j', rfl⟩ : ∃ j', j = ks1.length + j' := ⟨j - ks1.length, by omega⟩
     have hjb : j' < B1.length := by omega
     obtain ⟨x, hbi⟩ := aK hjb;have eK : ∀ j', kM sb ks1 (ks1.length + j') = ks1.map sb := fun j' => vY (by omega)
     have e1 : ks1.length + j' - ks1.length = j' := by omega
     have e2 : ks1.length + j' + 1 - ks1.length = j' + 1 := by omega
     have hbi' := dC (vZ (g := sbB sb) hbi);have hst := nH (g := sbB sb) hbi;have hc := hsbB x (List.mem_of_getElem? hbi);have ht1 := hpt (ks1.length + j') _ (hp2 j' hjb);have hle := (lI (g := sbB sb) (bs := B1) (j := j')).symm.trans (kbE (kM (sbB sb) B1 j'));have hset := j0 (kM (sbB sb) B1 j') j' (sbB sb x);rw [e1];refine a8 (aB (a8 (ag [(0, .rowR (ks1.length + j') [.ep 701 j' 5 B1.length])] rfl ?_)));refine aE mixed ?_;refine ak 6 [(3, .row j' (bA x))] rfl ?_;refine kc hc ?_;refine ak 2 [(8, .row j' (bA x))] rfl ?_;refine az ?_;refine ag [] rfl ?_;refine ⟨ks1.length + j' + 1, hlt2, by dsimp only; omega, ?_⟩;dsimp only;rw [e2, hst, eK, add_assoc, eK];refine slG (gWm rfl) (fun _ h => by cases h) (h1 := Kn.app (Kn.of rfl) (Kn.app (Kn.of rfl) (Kn.app (Kn.of rfl) (Kn.app (Kn.of rfl) (Kn.app (hel _ _ _ _) (Kn.app Kn.nil (Kn.app Kn.nil (Kn.app (hpr _ _ _ _) Kn.nil)))))))) (hh := ⟨⟨_, rfl, .var rfl⟩, ⟨_, rfl, .var rfl⟩, ⟨_, rfl, .var rfl⟩, ⟨_, rfl, .var rfl⟩, ⟨_, rfl, .arrS hset⟩, ⟨_, rfl, .arr⟩, ⟨_, rfl, .rarrS rfl⟩, trivial⟩)
   refine aM ?_;have hge : j = ks1.length + B1.length := by
    have : ¬ (j : Int) < ((pR ks1.length B1.length B1.length).length : Int) := of_decide_eq_false hb;omega
   have eK : kM sb ks1 j = ks1.map sb := vY (by omega);have eB : kM (sbB sb) B1 (j - ks1.length) = B1.map (sbB sb) := vY (by omega);have eA : gA sb al 1 = al := kL;rw [eK, eB];refine ag [] rfl ?_;refine ⟨1, by omega, by dsimp only; omega, ?_⟩;dsimp only;rw [eA];exact slG (gWm rfl) (fun _ h => by cases h) (h1 := Kn.app (Kn.of rfl) (Kn.app (Kn.of rfl) (Kn.app (Kn.of rfl) (Kn.app (Kn.of rfl) (Kn.app (hel _ _ _ _) Kn.nil)))))
  | succ i =>
   have hia : i < al.length := by omega
   obtain ⟨a, hai⟩ := aK hia;have ht0 := htk (i + 1) _ (hgA i a hai);have hf1 : fam 0 (gA sb al (i + 1)) = fam 0 al := aKi (i + 1);have hf2 : fam 0 (gA sb al (i + 1 + 1)) = fam 0 al := aKi (i + 1 + 1);have hrow : (aS 0 (gA sb al (i + 1)))[i]? = some (dH i a) := by
    have := lT (k := 0) (vZ (g := sbA sb) hai);rwa [zero_add] at this
   have hle : al.length = (aS 0 (gA sb al (i + 1))).length := by rw [eC]; exact (lI (g := sbA sb)).symm
   have hc := hsb a.body (.inr (.inr ⟨a, List.mem_of_getElem? hai, rfl⟩));have hset : aS 0 (gA sb al (i + 1 + 1)) = (aS 0 (gA sb al (i + 1))).set i (dH i (sbA sb a)) := by
    show aS 0 (kM (sbA sb) al (i + 1)) = _;rw [nH hai, s4, zero_add]; rfl
   have z1 : gK sb ks1 (i + 1 + 1) = gK sb ks1 (i + 1) := rfl;have z2 : gB sb B1 (i + 1 + 1) = gB sb B1 (i + 1) := rfl;refine a8 (aB (a8 (ag [(0, .rowR (i + 1) (l7 al.length i a))] rfl ?_)));refine a8 (ag [] rfl ?_);refine aB ?_;refine aL (fun j : Nat => mkt [(4, .one (.vp 4 0)), (5, .one (.vp 5 0)), (6, .one (.vp 6 0)), (7, .one (.vp 700 0)), (60, .one (.ras G.length 2 G.flatten)), (61, I .i64 ((G.length : Nat) : Int)), (62, I .i64 ((i + 1 : Nat) : Int)), (67, .one (.ras 1 1 [.rp 703 i 4 al.length])), (68, I .i64 ((1 : Nat) : Int)), (69, I .i64 j)] ([(4, .var 9 [.c (.str name)]), (5, .var 33 ((bD by_).map R.c)), (6, .var 37 bS)] ++ gHm f n nm1 t1 ks1.length B1.length al.length (gK sb ks1 (i + 1)) (gB sb B1 (i + 1)) (gA sb al (i + 1 + j))) (fam 0 al)) (fun j => j ≤ 1) (fun j => 1 - j) 0 (zero_le _) (slG (gWm hf1) (fun _ h => by cases h) (h1 := Kn.app (Kn.of rfl) (Kn.app (Kn.of rfl) (Kn.app (Kn.of rfl) (Kn.app (Kn.of rfl) (Kn.app (hel _ _ _ _) (Kn.of rfl))))))) ?_;intro j hj;refine a8 (ag [] rfl ?_);refine a8 (aA rfl (fun hb => ?_) (fun hb => ?_))
   ·have hj0 : j = 0 := by
     have : (j : Int) < ((1 : Nat) : Int) := of_decide_eq_true hb;omega
    subst hj0;refine aD ?_;refine a8 (aB (a8 (ag [] rfl ?_)));refine aE mixed ?_;refine ak 6 [(3, .rr (dH i a))] rfl ?_;refine kc hc ?_;refine ak 2 [(8, .rr (dH i a))] rfl ?_;refine az ?_;refine ag [] rfl ?_;refine ⟨1, le_refl _, by dsimp only; omega, ?_⟩;exact slG (gWm hf2) (fun _ h => by cases h) (h1 := Kn.app (Kn.of rfl) (Kn.app (Kn.of rfl) (Kn.app (Kn.of rfl) (Kn.app (Kn.of rfl) (Kn.app (hel _ _ _ _) (Kn.of rfl)))))) (hh := ⟨⟨_, rfl, .var rfl⟩, ⟨_, rfl, .var rfl⟩, ⟨_, rfl, .var rfl⟩, ⟨_, rfl, .var rfl⟩, ⟨_, rfl, .arr⟩, ⟨_, rfl, .arr⟩, ⟨_, rfl, .rarrS hset.symm⟩, trivial⟩)
   refine aM ?_;have hj1 : j = 1 := by
    have : ¬ (j : Int) < ((1 : Nat) : Int) := of_decide_eq_false hb;omega
   subst hj1;refine ag [] rfl ?_;refine ⟨i + 1 + 1, by omega, by dsimp only; omega, ?_⟩;exact slG (gWm hf2) (fun _ h => by cases h) (h1 := Kn.app (Kn.of rfl) (Kn.app (Kn.of rfl) (Kn.app (Kn.of rfl) (Kn.app (Kn.of rfl) (Kn.app (hel _ _ _ _) Kn.nil)))))
 have hgs : g = al.length + 1 := by
  have : ¬ (g : Int) < (G.length : Int) := of_decide_eq_false hb;omega
 subst hgs;refine aM ?_;have eA : gA sb al (al.length + 1) = al.map (sbA sb) := aNx;have eF : fam 0 (al.map (sbA sb)) = fam 0 al := by rw [← eA]; exact aKi _
 have lA : (al.map (sbA sb)).length = al.length := length_map _;have lB : (B1.map (sbB sb)).length = B1.length := length_map _;have lK : (ks1.map sb).length = ks1.length := length_map _;rw [eA];have z1 : gK sb ks1 (al.length + 1) = ks1.map sb := rfl;have z2 : gB sb B1 (al.length + 1) = B1.map (sbB sb) := rfl;rw [z1, z2];generalize al.map (sbA sb) = A2 at *;generalize B1.map (sbB sb) = B2 at *;generalize ks1.map sb = K2 at *;refine AWp.sub (aM3 (f := f) (n := n) (nm := nm1) (t := t1) (ks := K2) (bs := B2) (al := A2) (r := 6) (v := 7) rfl rfl (by rw [eF]; repeat (first | exact FarEq.raw hF | (refine FarEq.updL hF ?_) | (refine FarEq.upd hF ?_))) ⟨rfl, rfl, trivial⟩ ⟨⟨_, rfl, .varS (by rw [lK, lB, lA])⟩, ⟨_, rfl, .arr⟩, ⟨_, rfl, .arr⟩, ⟨_, rfl, .rarrS rfl⟩, trivial⟩ ⟨_, rfl, .var rfl⟩ rfl (by decide)) ?_;refine a8 (ag [] rfl ?_);exact aI (rtC trw)
theorem aD4 {l : List Str} {k : Nat} (h : ∀ s ∈ l, s.length ≤ k) (n : Int) : (oneOf l n).length ≤ k := by
 unfold oneOf;cases hx : l[(jX n l.length).toNat]? with
 | none => exact zero_le _
 | some s => exact h s (List.mem_of_getElem? hx)
theorem o9 {f n : Int} {s : Str} (h4 : ¬ f = 4) (h5 : ¬ f = 5) : wfT (.mk f n s []) = true := by rw [wfT, if_neg h4, if_neg h5, aPa]; rfl
theorem aAu {f n : Int} {s : Str} : tn (.mk f n s []) = 1 + s.length := by rw [tn, tns, add_zero]
theorem aAl {a b : Ty} (ha : wfT a = true) (hb : wfT b = true) : wfT (tapp a b) = true := by
 unfold tapp;rw [wfT, if_pos rfl, aPa, aPa, aPa, ha, hb]; rfl
theorem aAt (a b : Ty) : tn (tapp a b) = 1 + tn a + tn b := by unfold tapp; rw [tn, tns, tns, tns]; simp; omega
def tsm : Nat → Nat
 | 0 => 6
 | f + 1 => 2 * tsm f + 6
theorem aT8 : ∀ f, 6 ≤ tsm f
 | 0 => le_refl _
 | f + 1 => by rw [tsm]; omega
theorem aY2 : ∀ s ∈ l9, s.length ≤ 1 := by decide
theorem aAo : ∀ (f : Nat) (l : List Int), wfT (cD f l).1 = true ∧ tn (cD f l).1 ≤ tsm f
 | 0, l => by
  have h1 := aD4 aY2 ((aT l).1 / 6);unfold cD;split
  ·exact ⟨o9 (by decide) (by decide), by rw [aAu, tsm]; omega⟩
  ·exact ⟨o9 (by decide) (by decide), by show tn uZ ≤ 6; decide⟩
 | f + 1, l => by
  have h1 := aD4 aY2 ((aT l).1 / 6);obtain ⟨a1, a2⟩ := aAo f (aT l).2;obtain ⟨b1, b2⟩ := aAo f (cD f (aT l).2).2;have hg := aT8 f;unfold cD;split
  ·exact ⟨o9 (by decide) (by decide), by rw [aAu, tsm]; omega⟩
  ·split
   ·have h4 : tn uZ = 4 := by decide
    exact ⟨o9 (by decide) (by decide), by rw [tsm]; show tn uZ ≤ _; omega⟩
   ·split
    ·refine ⟨aAl (aAl (o9 (by decide) (by decide)) a1) b1, ?_⟩;dsimp only [i7];rw [aAt, aAt, aAu, tsm];have : arrow.length = 2 := rfl;omega
    ·split
     ·refine ⟨aAl (o9 (by decide) (by decide)) a1, ?_⟩;dsimp only;rw [aAt, tsm];have : tn tL = 2 := by decide
      omega
     ·refine ⟨?_, ?_⟩
      ·dsimp only;rw [wfT, if_neg (by decide), if_pos rfl, aPa, aPa, a1]; rfl
      ·dsimp only;rw [tn, tns, tns, tsm]; omega
mutual
def skT : Core → Core
 | .mk f n s _ ks bs al => .mk f n (if f = 7 then [] else s) zTy (aTs ks) (aM6 bs) (aTt al)
def aTs : List Core → List Core
 | [] => []
 | c :: l => skT c :: aTs l
def aM6 : List Bind → List Bind
 | [] => []
 | .mk s _ c :: l => .mk s zTy (skT c) :: aM6 l
def aTt : List Alt → List Alt
 | [] => []
 | .mk f n s vs c :: l => .mk f n s vs (skT c) :: aTt l
end
def skB (b : Bind) : Bind := .mk b.name zTy (skT b.body)
def skA (a : Alt) : Alt := .mk a.form a.n a.name a.vars (skT a.body)
theorem vG : ∀ l : List Core, aTs l = l.map skT
 | [] => rfl
 | c :: l => by rw [aTs, vG l]; rfl
theorem vH : ∀ l : List Bind, aM6 l = l.map skB
 | [] => rfl
 | .mk s t c :: l => by rw [aM6, vH l]; rfl
theorem vI : ∀ l : List Alt, aTt l = l.map skA
 | [] => rfl
 | .mk f n s vs c :: l => by rw [aTt, vI l]; rfl
mutual
def wfC : Core → Bool
 | .mk f _ _ _ ks bs al => (!decide (f = 5 ∨ f = 6 ∨ f = 7) || (ks.length == 1 && bs.isEmpty && al.isEmpty)) && (!decide (f = 1) || (ks.isEmpty && bs.isEmpty && al.isEmpty)) && xH ks && oX bs && oY al
def xH : List Core → Bool
 | [] => true
 | c :: l => wfC c && xH l
def oX : List Bind → Bool
 | [] => true
 | .mk _ _ c :: l => wfC c && oX l
def oY : List Alt → Bool
 | [] => true
 | .mk _ _ _ _ c :: l => wfC c && oY l
end
theorem aCh : ∀ {l : List Core}, xH l = true ↔ ∀ x ∈ l, wfC x = true
 | [] => by simp [xH]
 | c :: l => by rw [xH, Bool.and_eq_true, aCh (l := l)]; simp
theorem aCi : ∀ {l : List Bind}, oX l = true ↔ ∀ x ∈ l, wfC x.body = true
 | [] => by simp [oX]
 | .mk s t c :: l => by rw [oX, Bool.and_eq_true, aCi (l := l)]; simp [Bind.body]
theorem aCk : ∀ {l : List Alt}, oY l = true ↔ ∀ x ∈ l, wfC x.body = true
 | [] => by simp [oY]
 | .mk f n s vs c :: l => by rw [oY, Bool.and_eq_true, aCk (l := l)]; simp [Alt.body]
theorem aPb {f n : Int} {nm : Str} {t : Ty} {ks : List Core} {bs : List Bind} {al : List Alt} (h1 : f = 5 ∨ f = 6 ∨ f = 7 → (∃ k, ks = [k]) ∧ bs = [] ∧ al = []) (h0 : f = 1 → ks = [] ∧ bs = [] ∧ al = [])
  (h3 : ∀ x ∈ ks, wfC x = true) (h4 : ∀ x ∈ bs, wfC x.body = true) (h5 : ∀ x ∈ al, wfC x.body = true) : wfC (.mk f n nm t ks bs al) = true := by
 rw [wfC, Bool.and_eq_true, Bool.and_eq_true, Bool.and_eq_true, Bool.and_eq_true];refine ⟨⟨⟨⟨?_, ?_⟩, aCh.2 h3⟩, aCi.2 h4⟩, aCk.2 h5⟩
 ·by_cases hf : f = 5 ∨ f = 6 ∨ f = 7
  ·obtain ⟨⟨k, rfl⟩, rfl, rfl⟩ := h1 hf;simp
  ·rw [decide_eq_false hf]; rfl
 ·by_cases hf : f = 1
  ·obtain ⟨rfl, rfl, rfl⟩ := h0 hf;simp
  ·rw [decide_eq_false hf]; rfl
theorem sS : ∀ l : List Bind, (aM6 l).map Bind.name = l.map Bind.name
 | [] => rfl
 | .mk s t c :: l => by rw [aM6, map_cons, map_cons, sS l]; rfl
theorem aYf (f : Int) (s : Str) (bs : List Bind) : gvN f (if f = 7 then [] else s) (aM6 bs) = gvN f s bs := by
 unfold gvN;rw [sS];by_cases h5 : f = 5
 ·rw [if_neg (show ¬ f = 7 by omega)]
 ·rw [if_neg h5, if_neg h5]
mutual
theorem aI5 : ∀ c : Core, pfR (skT c) = pfR c
 | .mk f n s t ks bs al => by
  rw [skT, pfR, pfR, aYf, aPs _ ks, aPt _ bs, aPu al];by_cases h1 : f = 1
  ·rw [if_pos h1, if_pos h1, if_neg (show ¬ f = 7 by omega)]
  ·rw [if_neg h1, if_neg h1]
theorem aPs (G : List Str) : ∀ (l : List Core) (o : List Str), pU G (aTs l) o = pU G l o
 | [], _ => rfl
 | c :: l, o => by rw [aTs, pU, pU, aI5 c, aPs G l]
theorem aPt (G : List Str) : ∀ (l : List Bind) (o : List Str), s9 G (aM6 l) o = s9 G l o
 | [], _ => rfl
 | .mk s t c :: l, o => by rw [aM6, s9, s9, aI5 c, aPt G l]
theorem aPu : ∀ (l : List Alt) (o : List Str), sC (aTt l) o = sC l o
 | [], _ => rfl
 | .mk f n s vs c :: l, o => by rw [aTt, sC, sC, aI5 c, aPu l]
end
theorem aIb {ts : Ty → Ty} {sb : Core → Core} {f n : Int} {nm nm1 : Str} {t : Ty} {ks ks1 : List Core} {bs : List Bind} {al : List Alt} (hn : f ≠ 7 → nm1 = nm) (hk : ks1.map skT = ks.map skT)
  (h1 : ∀ x ∈ ks1, skT (sb x) = skT x) (h2 : ∀ b ∈ bs, skT (sb b.body) = skT b.body) (h3 : ∀ a ∈ al, skT (sb a.body) = skT a.body) :
  skT (iR ts sb (.mk f n nm1 t ks1 bs al)) = skT (.mk f n nm t ks bs al) := by
 rw [iR, skT, skT, vG, vG, vH, vH, vI, vI, map_map, map_map, map_map];have e1 : ks1.map (skT ∘ sb) = ks.map skT := by rw [← hk]; exact map_congr_left h1
 have e2 : bs.map (skB ∘ fun b => Bind.mk b.name (ts b.ty) (sb b.body)) = bs.map skB := map_congr_left fun b hb => by
  show Bind.mk b.name zTy (skT (sb b.body)) = _;rw [h2 b hb]; rfl
 have e3 : al.map (skA ∘ fun a => Alt.mk a.form a.n a.name a.vars (sb a.body)) = al.map skA := map_congr_left fun a ha => by
  show Alt.mk a.form a.n a.name a.vars (skT (sb a.body)) = _;rw [h3 a ha]; rfl
 rw [e1, e2, e3];by_cases h7 : f = 7
 ·rw [if_pos h7, if_pos h7]
 ·rw [if_neg h7, if_neg h7, hn h7]
theorem aEg {g : Core → Core} : ∀ {l : List Core}, (∀ x ∈ l, m30 (g x) ≤ m30 x) → cZ (l.map g) ≤ cZ l
 | [], _ => le_refl _
 | c :: l, h => by
  rw [map_cons, cZ, cZ];have := h c mem_cons_self;have := aEg (l := l) fun x hx => h x (mem_cons_of_mem _ hx)
  omega
theorem aEj {ts : Ty → Ty} {g : Core → Core} : ∀ {l : List Bind}, (∀ x ∈ l, m30 (g x.body) ≤ m30 x.body) → fV (l.map fun b => .mk b.name (ts b.ty) (g b.body)) ≤ fV l
 | [], _ => le_refl _
 | .mk s t c :: l, h => by
  rw [map_cons, fV, fV];have h1 := h _ mem_cons_self;have h2 := aEj (ts := ts) (l := l) fun x hx => h x (mem_cons_of_mem _ hx)
  simp only [Bind.body, Bind.name] at h1 h2 ⊢;omega
theorem aEk {g : Core → Core} : ∀ {l : List Alt}, (∀ x ∈ l, m30 (g x.body) ≤ m30 x.body) → hY (l.map fun a => .mk a.form a.n a.name a.vars (g a.body)) ≤ hY l
 | [], _ => le_refl _
 | .mk f n s vs c :: l, h => by
  rw [map_cons, hY, hY];have h1 := h _ mem_cons_self;have h2 := aEk (l := l) fun x hx => h x (mem_cons_of_mem _ hx)
  simp only [Alt.body, Alt.name, Alt.vars] at h1 h2 ⊢;omega
theorem aJy {ts : Ty → Ty} {sb : Core → Core} {f n : Int} {nm nm1 : Str} {t : Ty} {ks ks1 : List Core} {bs : List Bind} {al : List Alt} (hn : w30 nm1 ≤ w30 nm) (hk : cZ ks1 ≤ cZ ks)
  (h1 : ∀ x ∈ ks1, m30 (sb x) ≤ m30 x) (h2 : ∀ b ∈ bs, m30 (sb b.body) ≤ m30 b.body) (h3 : ∀ a ∈ al, m30 (sb a.body) ≤ m30 a.body) :
  m30 (iR ts sb (.mk f n nm1 t ks1 bs al)) ≤ m30 (.mk f n nm t ks bs al) := by
 rw [iR, m30, m30];have := aEg h1;have := aEj (ts := ts) h2;have := aEk h3;omega
def TOk (K : Nat) (t : Ty) : Prop := wfT t = true ∧ t30 t ≤ K
noncomputable def x6 (sb : Core → Str → Core → Core) (s : Str) (b : Core) : Core → Core
 | .mk f n nm t ks bs al => .mk f n (zNm sb f nm s b ks bs 1) t (zKs sb f nm s b ks bs 1) (zBs sb f nm s b ks bs 1) (al.map (nD sb s b))
theorem aLc (f n : Int) (nm : Str) (t : Ty) (ks : List Core) (bs : List Bind) (al : List Alt) (s : Str) (b : Core) (hv : f = 1 ∧ nm = s) (hcb : b6 b ≤ 570000000000) (hTb : allT TyG b) :
  aU Tryz.prog 25 [.pa (aC (.mk f n nm t ks bs al)), Go.AM.T s, .pa (aC b)] [] (.pa (aC b)) [] := by
 have hob := rS (b6 b) b (le_refl _) hcb hTb;have hob : aU Tryz.prog 59 [.pa (aC b)] [] (.pa (aC b)) [] := hob;have hd1 : decide (f = 1) = true := decide_eq_true hv.1;have hd2 : decide (nm = s) = true := decide_eq_true hv.2;refine bT (n := 47) tok Tryz.func25 rfl rfl rfl ?_;refine a8 (ag [] rfl ?_);refine a8 (a8 (ag [(3, .bv true), (8, .bv true)] rfl ?_));refine aA rfl (fun _ => ?_) (fun hb => ?_)
 ·refine a8 (aE mixed ?_);refine ak 1 [] rfl ?_;refine kc hob ?_;refine ak 1 [] rfl ?_;refine az ?_;exact aI (rtC trw)
 ·exact absurd (show decide (nm = s) = false from hb) (by rw [hd2]; decide)
theorem oP (sb : Core → Str → Core → Core) (P : Core → Prop) (f n : Int) (nm0 nm : Str) (t : Ty) (ks0 ks : List Core) (bs : List Bind) (al : List Alt) (s : Str) (b : Core)
  (hcs : b6 (.mk f n nm0 t ks0 bs al) ≤ 570000000000) (hT : allT TyG (.mk f n nm0 t ks0 bs al)) (hv : ¬ (f = 1 ∧ nm0 = s)) (hkl0 : ks.length = ks0.length)
  (w2 : f = 5 → (∃ k, ks = [k]) ∧ bs = [] ∧ al = [])
  (h7 : f = 7 → bs = [] ∧ al = [] ∧ ∃ fl : List Str, aU Tryz.prog 67 [.pa (aC (.mk f n nm0 t ks0 bs al))] [] (bU fl) [] ∧ fl.length ≤ 540000000000 ∧
   (s ∈ fl → ∃ tl : List Str, aU Tryz.prog 61 [.pa (aC b)] [] (bU tl) [] ∧ aU Tryz.prog 62 [.one (.vp 700 0), bU tl] (gHl f n nm0 t ks0 [] []) (.tup []) (gHl f n nm t ks [] [])) ∧
   (¬ s ∈ fl → nm = nm0 ∧ ks = ks0))
  (hn7 : f ≠ 7 → nm = nm0 ∧ ks = ks0)
  (hok : PutOk sb P s b (ks ++ bs.map Bind.body)) (hokA : ∀ a ∈ al, PutOk sb P s b [a.body])
  (hM : ((ks ++ bs.map Bind.body).flatMap pfR).length + 2 * (1 + bs.length) + (pfR b).length + (ks.length + bs.length) ≤ 540000000000)
  (hMA : ∀ a ∈ al, (pfR a.body).length + 2 * a.vars.length + (pfR b).length + 1 ≤ 540000000000) :
  aU Tryz.prog 25 [.pa (aC (.mk f n nm0 t ks0 bs al)), Go.AM.T s, .pa (aC b)] [] (.pa (aC (x6 sb s b (.mk f n nm t ks bs al)))) [] := by
 have hog := aQt _ hcs hT;have hog : aU Tryz.prog 59 [.pa (aC (.mk f n nm0 t ks0 bs al))] [] (.ma (eD f n nm0 t ks0.length bs.length al.length)) (oHl ks0 bs al ++ fam 0 al) := hog;refine bT (n := 47) tok Tryz.func25 rfl rfl rfl ?_;refine a8 (ag [] rfl ?_);refine a8 (AWp.cut (mk [(1, Go.AM.T s), (3, .one (.vp 3 0)), (5, .one (.vp 5 0)), (6, .one (.vp 6 0))] [(3, .var 37 (bB (.mk f n nm0 t ks0 bs al))), (5, .var 37 (bB b)), (6, .var 37 bS)]) ?_ ?_)
 ·by_cases hf1 : f = 1
  ·have hd1 : decide (f = 1) = true := decide_eq_true hf1;have hd2 : decide (nm0 = s) = false := decide_eq_false fun h => hv ⟨hf1, h⟩
   refine a8 (ag [(3, .bv true), (8, .bv true)] rfl ?_);refine aA rfl (fun hb => ?_) (fun _ => aD sl);exact absurd (show decide (nm0 = s) = true from hb) (by rw [hd2]; decide)
  ·have hd1 : decide (f = 1) = false := decide_eq_false hf1;refine a8 (ag [(3, .bv false), (8, .bv false)] rfl ?_);exact aA rfl (fun hb => by cases hb) (fun _ => aD sl)
 have hF : TF (fam 0 al) := fJ;refine a8 (aE mixed ?_);refine ak 1 [] rfl ?_;refine kc hog ?_ (hout' := eQ.app ⟨.inr rfl, .inr rfl, .inr rfl, trivial⟩ (eQ.of fun p hp => .inr ((show gM _ by repeat (first | exact gM.nil | (refine gM.updL ?_) | (refine gM.upd ?_))) p.1 (hF.far p hp))));rw [qF hF];refine ak 2 [(2, .id 700)] rfl ?_;refine az ?_;refine AWp.sub (st2 := mkt [(1, Go.AM.T s), (3, .one (.vp 3 0)), (5, .one (.vp 5 0)), (6, .one (.vp 6 0)), (7, .one (.vp 700 0))] ([(3, .var 37 (bB (.mk f n nm0 t ks0 bs al))), (5, .var 37 (bB b)), (6, .var 37 bS)] ++ gHl f n nm0 t ks0 bs al) (fam 0 al)) (slG gW (fun _ h => by cases h) (by repeat (first | exact FarEq.bif hF (FarEq.outs hF) | (refine FarEq.updL hF ?_) | (refine FarEq.upd hF ?_)))) ?_;refine a8 (AWp.cut (mkt [(1, Go.AM.T s), (3, .one (.vp 3 0)), (5, .one (.vp 5 0)), (6, .one (.vp 6 0)), (7, .one (.vp 700 0))] ([(3, .var 37 (bB (.mk f n nm0 t ks0 bs al))), (5, .var 37 (bB b)), (6, .var 37 bS)] ++ gHl f n nm t ks bs al) (fam 0 al)) ?_ ?_)
 ·by_cases hf7 : f = 7
  ·have hd7 : decide (f = 7) = true := decide_eq_true hf7;obtain ⟨rfl, rfl, fl, hfr, hfl, hy, hn⟩ := h7 hf7;have hct := bW fl s (by omega);refine a8 (aE mixed ?_);refine ak 5 [(3, .bv true)] rfl ?_;refine kcG hfr ?_;refine ak 1 [(3, .bv true)] rfl ?_;by_cases hin : s ∈ fl
   ·rw [decide_eq_true hin] at hct;obtain ⟨tl, hty, hcl⟩ := hy hin;refine kcG hct ?_;refine ak 1 [(3, .bv true), (8, .bv true)] rfl ?_;refine az ?_;refine aA rfl (fun _ => ?_) (fun hb => by cases hb);refine aE mixed ?_;refine ak 1 [] rfl ?_;refine kc hty ?_;refine kc hcl ?_;refine az ?_;exact slG gW (fun _ h => by cases h) (fun p hp => by cases hp)
   ·rw [decide_eq_false hin] at hct;obtain ⟨rfl, rfl⟩ := hn hin;refine kcG hct ?_;refine ak 1 [(3, .bv true), (8, .bv true)] rfl ?_;refine az ?_;refine aA rfl (fun hb => by cases hb) (fun _ => ?_);exact aD (slG gW (fun _ h => by cases h) (fun p hp => by cases hp))
  ·have hd7 : decide (f = 7) = false := decide_eq_false hf7;obtain ⟨rfl, rfl⟩ := hn7 hf7;refine a8 (ag [(3, .bv false), (8, .bv false)] rfl ?_);refine aA rfl (fun hb => by cases hb) (fun _ => ?_);exact aD (slG gW (fun _ h => by cases h) (by repeat (first | exact FarEq.raw hF | (refine FarEq.updL hF ?_) | (refine FarEq.upd hF ?_))))
 have hR := pT (sb := sb) (s := s) (b := b) (ns := gvN f nm bs) (ps := ks ++ bs.map Bind.body);have hN1 : ∀ g, (zKs sb f nm s b ks bs g).length = ks.length := fun g => by
  cases g with
  | zero => rfl
  | succ g => show (List.take _ _).length = _; rw [length_take, hR.2, length_append]; omega
 have hbsl : (bs.map Bind.ty).length = bs.length := length_map _;have hN2 : ∀ g, (zBs sb f nm s b ks bs g).length = bs.length := fun g => by
  cases g with
  | zero => rfl
  | succ g =>
   show (mkB _ _ _).length = _;by_cases hf5 : f = 5
   ·obtain ⟨_, rfl, _⟩ := w2 hf5;rfl
   ·rw [rE, hbsl]
    ·rw [hR.1]; unfold gvN; rw [if_neg hf5]; simp
    ·rw [length_drop, hR.2, length_append]; simp
 have hN3 : ∀ g, (zAs sb s b al g).length = al.length := fun g => by
  cases g with
  | zero => rfl
  | succ g => exact x8
 have hcm := hcs;rw [b6] at hcm;have hkl := lO ks0;have hbl := lR bs;have hall := lS al
 have hgr := rT (decide (f = 5)) f n nm t ks bs al rfl (by omega) (by omega) (by omega) (fun a ha => by
  have hav := fR ha;have hvl := oA a
  omega)
 have hrows := mT (f := f) (n := n) (s := nm) (t := t) (ks := ks) (bs := bs) (al := al) (decide (f = 5)) al.length;rw [take_length] at hrows;have hgl : (c6 (decide (f = 5)) ks.length bs.length al.length al).length = 1 + al.length := aSg;have hra : gfo f n nm t ks bs al (R.refsL (c6 (decide (f = 5)) ks.length bs.length al.length al).flatten) := by rw [dB]; exact hrows
 have hg0 : (c6 (decide (f = 5)) ks.length bs.length al.length al)[0]? = some (oJ (decide (f = 5)) ks.length bs.length) := aSi;have hgA : ∀ i a, al[i]? = some a → (c6 (decide (f = 5)) ks.length bs.length al.length al)[i + 1]? = some (l7 al.length i a) := fun i a h => aSh h
 have htk : ∀ k r, (c6 (decide (f = 5)) ks.length bs.length al.length al)[k]? = some r → ((c6 (decide (f = 5)) ks.length bs.length al.length al).flatten.drop (k * 2)).take 2 = r := eI aBs;generalize c6 (decide (f = 5)) ks.length bs.length al.length al = G at hgr hgl hra hg0 hgA htk;refine a8 (a8 (aE mixed ?_));refine kc hgr ?_ (hin' := eQ.app ⟨rfl, rfl, rfl, rfl, trivial⟩ (FarEq.raw hF).all) (hout' := eQ.of fun p hp => .inl (mem_map.2 ⟨p, hp, rfl⟩)) (hok := mY hF (fun x hx => .inl (bP (show subset _ _ = true from rfl) x hx)) qD);refine ak 2 [] rfl ?_;refine az ?_;refine AWp.sub (Sub.outsT hF) ?_;refine aB ?_;have hel : ∀ g ex, ∀ x ∈ R.refsL G.flatten, Kn ex (gHl f n (zNm sb f nm s b ks bs g) t (zKs sb f nm s b ks bs g) (zBs sb f nm s b ks bs g) (zAs sb s b al g)) (fam 0 (zAs sb s b al g)) x := fun g ex x hx => by
  rcases hra x hx with h | h
  ·exact .inr (.inl (by simpa [gHl, keys] using h))
  ·exact .inr (.inr (by rw [wK (hN3 g)]; exact h))
 have hTF : ∀ g, TF (fam 0 (zAs sb s b al g)) := fun g => fJ
 refine aL (fun g : Nat => mkt [(1, Go.AM.T s), (5, .one (.vp 5 0)), (6, .one (.vp 6 0)), (7, .one (.vp 700 0)), (35, .one (.ras G.length 2 G.flatten)), (36, I .i64 ((G.length : Nat) : Int)), (37, I .i64 g)] ([(5, .var 37 (bB b)), (6, .var 37 bS)] ++ gHl f n (zNm sb f nm s b ks bs g) t (zKs sb f nm s b ks bs g) (zBs sb f nm s b ks bs g) (zAs sb s b al g)) (fam 0 (zAs sb s b al g))) (fun g => g ≤ G.length) (fun g => G.length - g) 0 (zero_le _) (slG gW (fun _ h => by cases h) (FarEq.bif hF (FarEq.outs hF)) (h1 := Kn.app Kn.nil (Kn.app (Kn.of rfl) (Kn.app (Kn.of rfl) (Kn.app (Kn.of rfl) (Kn.app (hel 0 _) Kn.nil)))))) ?_;intro g hg;have hFg := hTF g;refine a8 (ag [] rfl ?_);refine a8 (aA rfl (fun hb => ?_) (fun hb => ?_))
 ·have hlt : g < G.length := by
   have : (g : Int) < (G.length : Int) := of_decide_eq_true hb;omega
  refine aD ?_;cases g with
  | zero =>
   have ht0 := htk 0 _ hg0;by_cases hf5 : f = 5
   ·have hd5 : decide (f = 5) = true := decide_eq_true hf5;obtain ⟨⟨x, rfl⟩, rfl, rfl⟩ := w2 hf5;subst hf5;have hM' := hM;simp only [map_nil, append_nil, flatMap_cons, flatMap_nil, length_cons, length_nil] at hM';obtain ⟨x', q, hq, hput⟩ := aWn n t nm x s b sb _ hok (by omega);have hgv : gvN 5 nm [] = [nm] := rfl;have e1 : zNm sb 5 nm s b [x] [] 1 = x' := by
     show (if (5 : Int) = 5 then (dN sb s b (gvN 5 nm []) ([x] ++ [].map Bind.body)).1.headD nm else nm) = x';rw [if_pos rfl, hgv];show (dN sb s b [nm] [x]).1.headD nm = x';rw [hq]; rfl
    have e2 : zKs sb 5 nm s b [x] [] 1 = [q] := by
     show (dN sb s b (gvN 5 nm []) ([x] ++ [].map Bind.body)).2.take 1 = [q];rw [hgv];show (dN sb s b [nm] [x]).2.take 1 = [q];rw [hq]; rfl
    have e3 : zBs sb 5 nm s b [x] [] 1 = [] := rfl;have e4 : zAs sb s b [] 1 = [] := rfl;refine a8 (aB (a8 (ag [(0, .rowR 0 (oJ true 1 0))] rfl ?_)));refine aE mixed ?_;refine ak 3 [] rfl ?_;refine kc hput ?_;refine az ?_;refine ag [] rfl ?_;refine ⟨1, hlt, by dsimp only; omega, ?_⟩;have hel1 := hel 1;rw [e1, e2, e3, e4] at hel1;dsimp only;rw [e1, e2, e3, e4];exact slG gW (fun _ h => by cases h) (fun p hp => by cases hp) (h1 := Kn.app Kn.nil (Kn.app (Kn.of rfl) (Kn.app (Kn.of rfl) (Kn.app (Kn.of rfl) (Kn.app (hel1 _) Kn.nil)))))
   ·have hd5 : decide (f = 5) = false := decide_eq_false hf5;have hgv : gvN f nm bs = bs.map Bind.name := by unfold gvN; rw [if_neg hf5]; rfl
    have hput := aWm (bs.map Bind.ty) ks.length (bs.map Bind.name) (ks ++ bs.map Bind.body) s b sb _ (by simp) (by simp) hok (by simp only [length_map, length_append]; omega);have eH : tH (bs.map Bind.ty) ks.length (bs.map Bind.name) (ks ++ bs.map Bind.body) = [(701, .arr 73 15 (aR bs) 0), (702, .arr 37 10 (aQ ks) 0)] := by
     unfold tH;rw [drop_left, take_left, aP0]
    rw [eH, hbsl] at hput;have hr0 : oJ (decide (f = 5)) ks.length bs.length = [.ras (tN bs.length).length 1 (tN bs.length), .ras (tP ks.length bs.length).length 1 (tP ks.length bs.length)] := aYh hd5;rw [hr0] at hg0 ht0;have eB : aR (zBs sb f nm s b ks bs 1) = aR (mkB (bs.map Bind.ty) (dN sb s b (bs.map Bind.name) (ks ++ bs.map Bind.body)).1 ((dN sb s b (bs.map Bind.name) (ks ++ bs.map Bind.body)).2.drop ks.length)) := by
     show aR (mkB _ _ _) = _;rw [hgv]
    have eK : aQ (zKs sb f nm s b ks bs 1) = aQ ((dN sb s b (bs.map Bind.name) (ks ++ bs.map Bind.body)).2.take ks.length) := by
     show aQ (List.take _ _) = _;rw [hgv]
    have eN : zNm sb f nm s b ks bs 1 = nm := by show (if f = 5 then _ else nm) = nm; rw [if_neg hf5]
    have eA : zAs sb s b al 1 = al := aL5;have l1 := hN1 1;have l2 := hN2 1;refine a8 (aB (a8 (ag [(0, .rowR 0 [.ras (tN bs.length).length 1 (tN bs.length), .ras (tP ks.length bs.length).length 1 (tP ks.length bs.length)])] rfl ?_)));refine aE mixed ?_;refine ak 3 [] rfl ?_;refine kc hput ?_ (hok := ?_);refine az ?_;refine ag [] rfl ?_;refine ⟨1, hlt, by dsimp only; omega, ?_⟩;have hel1 := hel 1;dsimp only;rw [eN, eA] at hel1 ⊢;refine slG gW (fun _ h => by cases h) (by repeat (first | exact FarEq.raw hF | (refine FarEq.updL hF ?_) | (refine FarEq.upd hF ?_))) (h1 := Kn.app Kn.nil (Kn.app (Kn.of rfl) (Kn.app (Kn.of rfl) (Kn.app (Kn.of rfl) (Kn.app (hel1 _) Kn.nil))))) (hh := ⟨⟨_, rfl, .varS rfl⟩, ⟨_, rfl, .varS rfl⟩, ⟨_, rfl, .varS ?_⟩, ⟨_, rfl, .arrS ?_⟩, ⟨_, rfl, .arrS ?_⟩, ⟨_, rfl, .rarrS rfl⟩, trivial⟩)
    ·rw [l1, l2]; rfl
    ·exact eB.symm
    ·exact eK.symm
    ·refine mY (F := []) ⟨fun _ h => (by cases h), nodup_nil, fun _ h => (by cases h)⟩ (fun x hx => .inl ?_) (fun x hx => by cases hx);have hx : x ∈ (grO (tN bs.length) (tP ks.length bs.length)).refs := by simpa [grO, gpV, AObj.refs, V.refsL, V.refs, R.refsL, R.refs] using hx
     rcases aA2 x hx with rfl | rfl
     ·simp [keys]
     ·simp [keys]
  | succ i =>
   have hia : i < al.length := by omega
   obtain ⟨a, hai⟩ := aK hia;have ht0 := htk (i + 1) _ (hgA i a hai);have hm := List.mem_of_getElem? hai;have hok := hokA a hm;have hMa := hMA a hm;have hz1 : zAs sb s b al (i + 1) = s5 sb s b al i := rfl;have hz2 : zAs sb s b al (i + 1 + 1) = (s5 sb s b al i).set i (nD sb s b a) := aL6 hai;have hz3 : zNm sb f nm s b ks bs (i + 1 + 1) = zNm sb f nm s b ks bs (i + 1) := rfl;have hz4 : zKs sb f nm s b ks bs (i + 1 + 1) = zKs sb f nm s b ks bs (i + 1) := rfl;have hz5 : zBs sb f nm s b ks bs (i + 1 + 1) = zBs sb f nm s b ks bs (i + 1) := rfl;obtain ⟨q, hq, hput⟩ := aS2 (s5 sb s b al i) i a (aTk hai) s b sb _ hok (by omega) (vR i a.vars.length a.vars.length).length (fX _ _) al.length x8.symm;have hnew : (Alt.mk a.form a.n a.name (dN sb s b a.vars [a.body]).1 q) = nD sb s b a := by unfold nD; rw [hq]; rfl
   rw [hnew] at hput;have hvl : (vR i a.vars.length a.vars.length).length = a.vars.length := fX _ _;have hel2 := hel (i + 1 + 1);have hTF2 := hTF (i + 1 + 1);have hA3 := hN3 (i + 1 + 1);rw [hz2] at hel2 hTF2 hA3;rw [hz3, hz4, hz5] at hel2;have hA4 : (s5 sb s b al i).length = al.length := x8;generalize hNm : zNm sb f nm s b ks bs (i + 1) = nm1 at *;generalize hKs : zKs sb f nm s b ks bs (i + 1) = ks1 at *;generalize hBs : zBs sb f nm s b ks bs (i + 1) = bs1 at *;rw [hz1] at hFg ⊢;have halR : l7 al.length i a = [.ras (vR i a.vars.length a.vars.length).length 1 (vR i a.vars.length a.vars.length).flatten, .ras 1 1 [.rp 703 i 4 al.length]] := rfl;rw [halR] at ht0;rw [hvl] at ht0 hput;refine a8 (aB (a8 (ag [(0, .rowR (i + 1) [.ras a.vars.length 1 (vR i a.vars.length a.vars.length).flatten, .ras 1 1 [.rp 703 i 4 al.length]])] rfl ?_)));refine aE mixed ?_;refine ak 3 [] rfl ?_;refine kc hput ?_ (hin' := ⟨rfl, FarEq.all (by repeat (first | exact FarEq.raw hFg | (refine FarEq.updL hFg ?_) | (refine FarEq.upd hFg ?_)))⟩) (hout' := ?_) (hok := ?_)
   ·have hcons : ∀ (o : AObj) (F : List (Nat × AObj)), ((703, o) :: F) = [(703, o)] ++ F := fun _ _ => rfl
    rw [hcons, qF hTF2];refine az ?_;refine ag [] rfl ?_;refine ⟨i + 1 + 1, by omega, by dsimp only; omega, ?_⟩;dsimp only;rw [hz2, hz3, hz4, hz5];refine slG gW (fun _ h => by cases h) (FarEq.bif hTF2 (FarEq.outs hTF2)) (h1 := Kn.app Kn.nil (Kn.app (Kn.of rfl) (Kn.app (Kn.of rfl) (Kn.app (Kn.of rfl) (Kn.app (hel2 _) Kn.nil))))) (hh := ⟨⟨_, rfl, .varS rfl⟩, ⟨_, rfl, .varS rfl⟩, ⟨_, rfl, .varS ?_⟩, ⟨_, rfl, .arr⟩, ⟨_, rfl, .arr⟩, ⟨_, rfl, .rarrS rfl⟩, trivial⟩);rw [hA3, hA4]
   ·refine eQ.of fun p hp => .inl ?_
    have hp1 : p.1 ∈ keys ((703, AObj.rarr 78 14 (aS 0 ((s5 sb s b al i).set i (nD sb s b a)))) :: fam 0 ((s5 sb s b al i).set i (nD sb s b a))) := mem_map.2 ⟨p, hp, rfl⟩;show p.1 ∈ 703 :: keys (fam 0 (s5 sb s b al i));rw [wK (m := (s5 sb s b al i).set i (nD sb s b a)) (by rw [length_set])];exact hp1
   ·refine mY (hl := [(703, .rarr 78 14 (aS 0 (s5 sb s b al i)))]) hFg (fun x hx => ?_) (fun x hx => .inr (cR x (by simpa [dG, AObj.refs] using hx)));have hx : x ∈ R.refsL (vR i a.vars.length a.vars.length).flatten ++ [703] := by simpa [V.refsL, V.refs, R.refsL, R.refs] using hx
    rcases mem_append.1 hx with hx | hx
    ·rw [dB] at hx;have := lC (L := fun x => x = i + 800) (fun j x hx => by simpa [R.refsL, R.refs] using hx) _ x hx;rw [this];have hk := aKs (l := s5 sb s b al i) (k := 0) (i := i) (by omega);rw [zero_add] at hk;exact .inr hk
    ·rw [mem_singleton.1 hx]; exact .inl (by simp [keys])
 have hge : g = 1 + al.length := by
  have : ¬ (g : Int) < (G.length : Int) := of_decide_eq_false hb;omega
 have hgs : g = al.length + 1 := by omega
 subst hgs;clear hge hb;have e : x6 sb s b (.mk f n nm t ks bs al) = .mk f n (zNm sb f nm s b ks bs (al.length + 1)) t (zKs sb f nm s b ks bs (al.length + 1)) (zBs sb f nm s b ks bs (al.length + 1)) (zAs sb s b al (al.length + 1)) := by
  rw [x6];show _ = Core.mk _ _ _ _ _ _ (s5 sb s b al al.length);rw [aO6];rfl
 rw [e];have m1 := hN1 (al.length + 1);have m2 := hN2 (al.length + 1);have m3 := hN3 (al.length + 1);generalize zNm sb f nm s b ks bs (al.length + 1) = nm1 at *;generalize zKs sb f nm s b ks bs (al.length + 1) = ks1 at *;generalize zBs sb f nm s b ks bs (al.length + 1) = bs1 at *;generalize zAs sb s b al (al.length + 1) = al1 at *;refine aM ?_;refine AWp.sub (st2 := mkt [(6, .one (.vp 6 0)), (7, .one (.vp 700 0))] (oHl ks1 bs1 al1 ++ [(700, .var 37 (eD f n nm1 t ks1.length bs1.length al1.length)), (6, .var 37 bS)]) (fam 0 al1)) (slT hFg (by repeat (first | exact FarEq.raw hFg | (refine FarEq.updL hFg ?_) | (refine FarEq.upd hFg ?_))) (fun x hx => .inl (bP (show subset _ _ = true from rfl) x hx)) (fun x hx => ?_) (fun _ h => by cases h)) ?_
 ·rw [iF] at hx;rcases mem_append.1 hx with hx | hx
  ·exact .inr (cR x (by simpa [oHl, dG, AObj.refs] using hx))
  ·refine .inl ?_;have hx : x = 702 ∨ x = 701 ∨ x = 703 := by simpa [dG, AObj.refs, eD, bS, R.refsL, R.refs] using hx
   rcases hx with rfl | rfl | rfl <;> simp [oHl, keys]
 refine AWp.sub (oD (by simp [keys]) (Kn.of rfl) ⟨Kn.of rfl, Kn.of rfl, trivial⟩ (fun _ h => by cases h) rfl rfl (by simp) (fun p hp => by
  rcases mem_cons.1 hp with rfl | hp
  ·rfl
  ·rw [mem_singleton.1 hp]; rfl)) ?_
 have e1 : fzH 703 (.ra al1.length 14 (aS 0 al1).flatten) ([(701, .arr 73 15 (aR bs1) 2), (702, .arr 37 10 (aQ ks1) 2)] ++ [(700, .var 37 (eD f n nm1 t ks1.length bs1.length al1.length)), (6, .var 37 bS)])
   = [(701, .arr 73 15 (aR bs1) 2), (702, .arr 37 10 (aQ ks1) 2), (700, .var 37 (j2 f n nm1 t ks1.length bs1.length al1)), (6, .var 37 bS)] := by
  unfold eD j2;show [(701, _), (702, _), (700, AObj.var _ (R.fzL _ _ _)), (6, AObj.var _ (R.fzL _ _ _))] = _;simp only [R.fzL, R.fz, beq_refl, if_true, Bool.and_self];rfl
 rw [e1];have hFz : TF (wH (fam 0 al1)) := hFg.frz;obtain ⟨ids, hp⟩ := r3 (h := (mkt [] [(701, .arr 73 15 (aR bs1) 2), (702, .arr 37 10 (aQ ks1) 2), (700, .var 37 (j2 f n nm1 t ks1.length bs1.length al1)), (6, .var 37 bS)] (wH (fam 0 al1))).h) (f := f) (n := n) (s := nm1) (t := t) (ks := ks1) (bs := bs1) (al := al1) rfl rfl (FarEq.mkt hFz rfl);refine AWp.sub (Sub.varPure (x := 700) rfl hp) ?_;refine a8 (ag [] rfl ?_);exact aI (rtC trw)
theorem aSx (s : Str) : aU Tryz.prog 51 [Go.AM.T s] [] (tyV (.mk 3 0 s [])) [] := by
 refine bT (n := 5) tok Tryz.func51 rfl rfl rfl ?_;refine a8 (ag [] rfl ?_);refine a8 (ag [] rfl ?_);exact aI (rtC trw)
theorem aLl (n : Int) : aU Tryz.prog 33 [I .i64 n] [] (.pa (aC (.mk 3 n [] zTy [] [] []))) [] := by
 refine bT (n := 5) tok Tryz.func33 rfl rfl rfl ?_;refine a8 (ag [] rfl ?_);refine a8 (ag [] rfl ?_);exact aI (rtC trw)
def nW (f n : Int) (s : Str) (t : Ty) (nk nb na : Nat) : List R := [.c (.int .i64 f), .c (.int .i64 n), .c (.str s), .c (.int .i64 t.form), .c (.int .i64 t.n), .c (.str t.name), .c (.sl 4 (gG t)), .hs 702 0 nk nk, .hs 701 0 nb nb, .hs 703 0 na na]
theorem aR6 {o : List Str} {s : Str} (h : o.Nodup) : (rD o s).Nodup := by
 unfold rD;split
 ·exact h
 ·rename_i hs;rw [nodup_append];exact ⟨h, by simp, fun a ha b hb e => by rw [mem_singleton.1 hb] at e; subst e; exact hs ha⟩
theorem aR7 {o : List Str} {x y : Str} (h : y ∈ o) : y ∈ rD o x := by
 unfold rD;split
 ·exact h
 ·exact mem_append.2 (.inl h)
theorem aNu {o : List Str} {x : Str} : x ∈ rD o x := by
 unfold rD;split
 ·assumption
 ·exact mem_append.2 (.inr (by simp))
theorem aVf {G o : List Str} {x y : Str} (h : y ∈ o) : y ∈ pfG G o x := by
 unfold pfG;split
 ·exact h
 ·exact aR7 h
theorem yD {G : List Str} : ∀ {l o : List Str} {y : Str}, y ∈ o → y ∈ pfP G o l
 | [], _, _, h => h
 | x :: l, o, y, h => yD (G := G) (l := l) (o := pfG G o x) (aVf h)
theorem r9 {G : List Str} : ∀ {l o : List Str} {y : Str}, y ∈ l → ¬ y ∈ G → y ∈ pfP G o l
 | x :: l, o, y, h, hG => by
  rcases mem_cons.1 h with rfl | h
  ·refine yD (G := G) (l := l) (o := pfG G o y) ?_;unfold pfG;rw [if_neg hG]; exact aNu
  ·exact r9 (l := l) (o := pfG G o x) h hG
theorem aI9 {G : List Str} : ∀ {l : List Core} {o : List Str} {y : Str}, y ∈ o → y ∈ pU G l o
 | [], _, _, h => by rw [pU]; exact h
 | c :: l, o, y, h => by rw [pU]; exact aI9 (yD h)
theorem aBm {G : List Str} : ∀ {l : List Bind} {o : List Str} {y : Str}, y ∈ o → y ∈ s9 G l o
 | [], _, _, h => by rw [s9]; exact h
 | .mk s t c :: l, o, y, h => by rw [s9]; exact aBm (yD h)
theorem aBn : ∀ {l : List Alt} {o : List Str} {y : Str}, y ∈ o → y ∈ sC l o
 | [], _, _, h => by rw [sC]; exact h
 | .mk f n s vs c :: l, o, y, h => by rw [sC]; exact aBn (yD h)
theorem aDw {G : List Str} : ∀ {l : List Core} {o : List Str} {y : Str} {c : Core}, c ∈ l → y ∈ pfR c → ¬ y ∈ G → y ∈ pU G l o
 | d :: l, o, y, c, h, hy, hG => by
  rw [pU];rcases mem_cons.1 h with rfl | h
  ·exact aI9 (r9 hy hG)
  ·exact aDw h hy hG
theorem aDy {G : List Str} : ∀ {l : List Bind} {o : List Str} {y : Str} {c : Bind}, c ∈ l → y ∈ pfR c.body → ¬ y ∈ G → y ∈ s9 G l o
 | .mk s t d :: l, o, y, c, h, hy, hG => by
  rw [s9];rcases mem_cons.1 h with rfl | h
  ·exact aBm (r9 hy hG)
  ·exact aDy h hy hG
theorem aD0 : ∀ {l : List Alt} {o : List Str} {y : Str} {c : Alt}, c ∈ l → y ∈ pfR c.body → ¬ y ∈ c.vars → y ∈ sC l o
 | .mk f n s vs d :: l, o, y, c, h, hy, hG => by
  rw [sC];rcases mem_cons.1 h with rfl | h
  ·exact aBn (r9 hy hG)
  ·exact aD0 h hy hG
section
variable {sb sb' : Core → Str → Core → Core} {P : Core → Prop} {e : Core → Core}
end
structure PK (B : Nat) (T : Ty → Prop) (ns : List Str) (ps : List Core) (r : List Str × List Core) : Prop where
 len1 : r.1.length = ns.length
 len2 : r.2.length = ps.length
 wf : ∀ q ∈ r.2, wfC q = true ∧ allT T q
 sm : A2 (fun p q => m30 q ≤ m30 p * B) ps r.2
 nm : A2 NR ns r.1
theorem aBg {sb : Core → Str → Core → Core} {P : Core → Prop} {B : Nat} {T : Ty → Prop} {s : Str} {b : Core} {ns : List Str} {ps : List Core} (hB : 1 ≤ B) (hP : ∀ p ∈ ps, P p)
  (hz : ∀ p n z, P p → z.length ≤ 30 → P (sb p n (vC z)) ∧ m30 (sb p n (vC z)) ≤ m30 p) (hPQ : ∀ p, P p → wfC p = true ∧ allT T p) (hs : ∀ p, P p → wfC (sb p s b) = true ∧ allT T (sb p s b) ∧ m30 (sb p s b) ≤ m30 p * B)
  (hl : (ps.flatMap pfR).length + 2 * ns.length + (pfR b).length ≤ 540000000000) : PK B T ns ps (dN sb s b ns ps) := by
 obtain ⟨l1, l2⟩ := pT (sb := sb) (s := s) (b := b) (ns := ns) (ps := ps);obtain ⟨⟨qs, h1, h2⟩, h3⟩ := aDu (sb := sb) (Rel := fun p q => P p → (P q ∧ m30 q ≤ m30 p)) (fun p h => ⟨h, le_refl _⟩)
  (fun p q r hpq hqr h => by
   obtain ⟨a1, a2⟩ := hpq h;obtain ⟨b1, b2⟩ := hqr a1
   exact ⟨b1, le_trans b2 a2⟩) (s := s) (b := b) (ns := ns) (ps := ps) (fun p n z hzl h => hz p n z h hzl) hl
 have hq : ∀ q ∈ qs, P q := fun q hq => by
  obtain ⟨p, hp, hpq⟩ := h1.mem q hq;exact (hpq (hP p hp)).1
 have hA : A2 (fun p q => m30 q ≤ m30 p) ps qs := by
  clear h2 hq hl h3 l1 l2
  induction h1 with
  | nil => exact .nil
  | cons r _ ih2 => exact .cons (r (hP _ mem_cons_self)).2 (ih2 fun p hp => hP p (mem_cons_of_mem _ hp))
 have hup : ∀ k : Nat, k ≤ k * B := fun k => le_mul_of_pos_right _ hB
 refine ⟨l1, l2, fun x hx => ?_, ?_, h3⟩
 ·rcases h2 with h2 | h2
  ·rw [h2] at hx; exact hPQ x (hq x hx)
  ·rw [h2] at hx;obtain ⟨q, hq', rfl⟩ := mem_map.1 hx;exact ⟨(hs q (hq q hq')).1, (hs q (hq q hq')).2.1⟩
 ·rcases h2 with h2 | h2
  ·rw [h2]; exact A2.mono (fun p q h => le_trans h (hup _)) hA
  ·rw [h2];clear h2 h3 l1 l2 hl h1;have key : ∀ {ps qs : List Core}, A2 (fun p q => m30 q ≤ m30 p) ps qs → (∀ q ∈ qs, P q) → A2 (fun p q => m30 q ≤ m30 p * B) ps (qs.map fun p => sb p s b) := by
    intro ps qs h
    induction h with
    | nil => intro _; exact .nil
    | cons r _ ih => exact fun hq => .cons (le_trans (hs _ (hq _ mem_cons_self)).2.2 (mul_le_mul_right _ r)) (ih fun q h => hq q (mem_cons_of_mem _ h))
   exact key hA hq
theorem aEi {B : Nat} {ps qs : List Core} (h : A2 (fun p q => m30 q ≤ m30 p * B) ps qs) : cZ qs ≤ cZ ps * B := by
 induction h with
 | nil => rw [cZ]; exact zero_le _
 | cons r _ ih => rw [cZ, cZ, add_mul]; omega
theorem aEc {B : Nat} (hB : 1 ≤ B) : ∀ {ts : List Ty} {ns : List Str} {ps : List Core} {bs : List Bind}, A2 (fun (b : Bind) n => w30 n ≤ w30 b.name) bs ns → A2 (fun (b : Bind) p => m30 p ≤ m30 b.body * B) bs ps → fV (mkB ts ns ps) ≤ fV bs * B
 | [], _, _, _, _, _ => by unfold mkB; rw [fV]; exact zero_le _
 | t :: ts, _, _, _, .nil, .nil => by unfold mkB; rw [fV]; exact zero_le _
 | t :: ts, n :: ns, p :: ps, .mk s ty c :: bs, .cons h1 h2, .cons h3 h4 => by
  unfold mkB;rw [fV, fV];have := aEc hB (ts := ts) h2 h4;have h1 : w30 n ≤ w30 s := h1;have h3 : m30 p ≤ m30 c * B := h3;have h5 : 1 + w30 s ≤ (1 + w30 s) * B := le_mul_of_pos_right _ hB;rw [add_mul, add_mul];omega
section
variable {sb : Core → Str → Core → Core} {B : Nat} {T : Ty → Prop} {f n : Int} {nm : Str} {t : Ty} {ks : List Core} {bs : List Bind} {al : List Alt} {s : Str} {b : Core}
theorem aNt (hB : 1 ≤ B) {l : List Alt} (h : ∀ a ∈ l, A2 (fun p q => m30 q ≤ m30 p * B) [a.body] (dN sb s b a.vars [a.body]).2 ∧ A2 NR a.vars (dN sb s b a.vars [a.body]).1) : hY (l.map (nD sb s b)) ≤ hY l * B := by
 induction l with
 | nil => exact zero_le _
 | cons a l ihl =>
  obtain ⟨af, an, anm, vs, ab⟩ := a;obtain ⟨g1, g2⟩ := h _ mem_cons_self;have := ihl fun x hx => h x (mem_cons_of_mem _ hx)
  have g1 : A2 (fun p q => m30 q ≤ m30 p * B) [ab] (dN sb s b vs [ab]).2 := g1;have g2 : A2 NR vs (dN sb s b vs [ab]).1 := g2;have g4 := aDg g2;have g3 : m30 ((dN sb s b vs [ab]).2.headD ab) ≤ m30 ab * B := by
   cases hx : (dN sb s b vs [ab]).2 with
   | nil => rw [hx] at g1; cases g1
   | cons y l' =>
    rw [hx] at g1;cases g1 with
    | cons h _ => exact h
  have e : nD sb s b (Alt.mk af an anm vs ab) = .mk af an anm (dN sb s b vs [ab]).1 ((dN sb s b vs [ab]).2.headD ab) := rfl;rw [map_cons, e, hY, hY];have g5 : 1 + w30 anm + (vs.map fun v => 1 + w30 v).sum ≤ (1 + w30 anm + (vs.map fun v => 1 + w30 v).sum) * B := le_mul_of_pos_right _ hB;rw [add_mul, add_mul (1 + w30 anm + _)];omega
theorem aL4 (hB : 1 ≤ B) (hg : PK B T (gvN f nm bs) (ks ++ bs.map Bind.body) (dN sb s b (gvN f nm bs) (ks ++ bs.map Bind.body))) (ha : ∀ a ∈ al, PK B T a.vars [a.body] (dN sb s b a.vars [a.body]))
  (h0 : T t) (hb : ∀ x ∈ bs, T x.ty) (w1 : f = 5 ∨ f = 6 ∨ f = 7 → (∃ k, ks = [k]) ∧ bs = [] ∧ al = []) (w0 : f = 1 → ks = [] ∧ bs = [] ∧ al = []) :
  wfC (x6 sb s b (.mk f n nm t ks bs al)) = true ∧ allT T (x6 sb s b (.mk f n nm t ks bs al)) ∧ m30 (x6 sb s b (.mk f n nm t ks bs al)) ≤ m30 (.mk f n nm t ks bs al) * B := by
 have hN : ∀ a ∈ al, wfC (nD sb s b a).body = true ∧ allT T (nD sb s b a).body := fun a ha' => by
  show wfC ((dN sb s b a.vars [a.body]).2.headD a.body) = true ∧ allT T ((dN sb s b a.vars [a.body]).2.headD a.body);obtain ⟨y, hy⟩ := length_eq_one_iff.1 (ha a ha').len2;rw [hy];exact (ha a ha').wf y (by rw [hy]; exact mem_singleton.2 rfl)
 have e4 : hY (al.map (nD sb s b)) ≤ hY al * B := aNt hB fun a ha' => ⟨(ha a ha').sm, (ha a ha').nm⟩
 rw [x6];unfold zNm zKs zBs;generalize dN sb s b (gvN f nm bs) (ks ++ bs.map Bind.body) = r at hg ⊢;obtain ⟨r1, r2⟩ := r;obtain ⟨l1, l2, q2, q1, q4⟩ := hg;dsimp only at *;refine ⟨aPb (fun hf => ?_) (fun hf => ?_) (fun x hx => (q2 x (mem_of_mem_take hx)).1) (fun x hx => (q2 _ (mem_of_mem_drop (oH hx).1)).1) (fun x hx => ?_), ?_, ?_⟩
 ·obtain ⟨⟨y, rfl⟩, rfl, rfl⟩ := w1 hf;obtain ⟨y', rfl⟩ := length_eq_one_iff.1 (show r2.length = 1 from l2);exact ⟨⟨y', rfl⟩, rfl, rfl⟩
 ·obtain ⟨rfl, rfl, rfl⟩ := w0 hf;exact ⟨rfl, rfl, rfl⟩
 ·obtain ⟨a, ha', rfl⟩ := mem_map.1 hx;exact (hN a ha').1
 ·rw [allT];refine ⟨h0, s6.2 fun x hx => (q2 x (mem_of_mem_take hx)).2, kY.2 fun x hx => ?_, kZ.2 fun x hx => ?_⟩
  ·obtain ⟨h1, h2⟩ := oH hx;obtain ⟨y, hy, hyt⟩ := mem_map.1 h2;exact ⟨by rw [← hyt]; exact hb y hy, (q2 _ (mem_of_mem_drop h1)).2⟩
  ·obtain ⟨a, ha', rfl⟩ := mem_map.1 hx;exact (hN a ha').2
 ·rw [m30, m30];have e1 : w30 (if f = 5 then r1.headD nm else nm) ≤ w30 nm := by
   split
   ·rename_i hf;unfold gvN at q4;rw [if_pos hf] at q4;cases q4 with
    | cons h _ => exact h.w
   ·exact le_refl _
  have e2 : cZ (r2.take ks.length) ≤ cZ ks * B := by
   have := (q1.take ks.length)
   rw [take_left] at this;exact aEi this
  have e3 : fV (mkB (bs.map Bind.ty) r1 (r2.drop ks.length)) ≤ fV bs * B := by
   by_cases hf : f = 5
   ·obtain ⟨_, rfl, _⟩ := w1 (.inl hf);show fV (mkB [] _ _) ≤ _;unfold mkB; rw [fV]; exact zero_le _
   ·have h4 := q4;unfold gvN at h4;rw [if_neg hf, nil_append] at h4;have h5 := q1.drop ks.length;rw [drop_left] at h5;exact aEc hB (A2.mapL (A2.mono (fun a b h => h.w) h4)) (A2.mapL h5)
  have e5 : 1 + w30 nm ≤ (1 + w30 nm) * B := le_mul_of_pos_right _ hB;rw [add_mul, add_mul, add_mul];omega
end
abbrev Loc : Type := Int → Str → Ty → Nat → List (Str × Ty) → List (Str × List Str) → Prop
def bhd (b : Bind) : Str × Ty := (b.name, b.ty)
def ahd (a : Alt) : Str × List Str := (a.name, a.vars)
mutual
def fF (q : Loc) : Core → Prop
 | .mk f _ s t ks bs al => q f s t ks.length (bs.map bhd) (al.map ahd) ∧ aL8 q ks ∧ aL9 q bs ∧ aMa q al
def aL8 (q : Loc) : List Core → Prop
 | [] => True
 | c :: l => fF q c ∧ aL8 q l
def aL9 (q : Loc) : List Bind → Prop
 | [] => True
 | .mk _ _ c :: l => fF q c ∧ aL9 q l
def aMa (q : Loc) : List Alt → Prop
 | [] => True
 | .mk _ _ _ _ c :: l => fF q c ∧ aMa q l
end
theorem aAd {q : Loc} : ∀ {l : List Core}, aL8 q l ↔ ∀ x ∈ l, fF q x
 | [] => by simp [aL8]
 | c :: l => by rw [aL8, aAd (l := l)]; simp
theorem aAe {q : Loc} : ∀ {l : List Bind}, aL9 q l ↔ ∀ x ∈ l, fF q x.body
 | [] => by simp [aL9]
 | .mk s t c :: l => by rw [aL9, aAe (l := l)]; simp [Bind.body]
theorem aAf {q : Loc} : ∀ {l : List Alt}, aMa q l ↔ ∀ x ∈ l, fF q x.body
 | [] => by simp [aMa]
 | .mk f n s v c :: l => by rw [aMa, aAf (l := l)]; simp [Alt.body]
theorem bE {q : Loc} {f n : Int} {s : Str} {t : Ty} {ks : List Core} {bs : List Bind} {al : List Alt} :
  fF q (.mk f n s t ks bs al) ↔ q f s t ks.length (bs.map bhd) (al.map ahd) ∧ (∀ x ∈ ks, fF q x) ∧ (∀ x ∈ bs, fF q x.body) ∧ ∀ x ∈ al, fF q x.body := by
 rw [fF, aAd, aAe, aAf]
def okF (f : Int) (nk nb na : Nat) : Bool :=
 if f = 4 ∨ f = 10 then decide (nk = 2 ∧ nb = 0 ∧ na = 0)
 else if f = 5 ∨ f = 6 ∨ f = 7 then decide (nk = 1 ∧ nb = 0 ∧ na = 0)
 else if f = 8 then decide (nk = 1 ∧ na = 0)
 else if f = 9 then decide (nk = 1 ∧ nb = 0)
 else decide (nk = 0 ∧ nb = 0 ∧ na = 0)
def lw (s : Str) (bh : List (Str × Ty)) (ah : List (Str × List Str)) : Nat :=
 1 + w30 s + (bh.map fun p => 1 + w30 p.1).sum + (ah.map fun p => 1 + w30 p.1 + (p.2.map fun v => 1 + w30 v).sum).sum
theorem aGo (n : Nat) : ¬ bR n = [] := by unfold bR; split <;> simp
theorem wI (l : List Str) : ¬ b8 l = [] := aGo _
def QL (X : Nat) : Loc := fun f s t nk bh ah => okF f nk bh.length ah.length = true ∧ (f = 7 → t = zTy ∧ ¬ s = []) ∧ wfS t = true ∧ (∀ p ∈ bh, wfS p.2 = true) ∧ lw s bh ah ≤ X ∧ (f = 5 → nh s) ∧ (∀ p ∈ bh, nh p.1) ∧ ∀ p ∈ ah, ∀ v ∈ p.2, nh v
theorem aPx {f : Int} {nk nb na : Nat} (h : okF f nk nb na = true) : (f = 5 ∨ f = 6 ∨ f = 7 → nk = 1 ∧ nb = 0 ∧ na = 0) ∧ (f = 1 → nk = 0 ∧ nb = 0 ∧ na = 0) := by
 unfold okF at h;refine ⟨fun hf => ?_, fun hf => ?_⟩
 ·rw [if_neg (by omega), if_pos hf] at h;exact of_decide_eq_true h
 ·rw [if_neg (by omega), if_neg (by omega), if_neg (by omega), if_neg (by omega)] at h;exact of_decide_eq_true h
section
variable {X : Nat} {f n : Int} {s : Str} {t : Ty} {ks : List Core} {bs : List Bind} {al : List Alt}
theorem fK (h : fF (QL X) (.mk f n s t ks bs al)) (hf : f = 5 ∨ f = 6 ∨ f = 7) : (∃ k, ks = [k]) ∧ bs = [] ∧ al = [] := by
 obtain ⟨h1, _⟩ := bE.1 h;obtain ⟨g1, g2, g3⟩ := (aPx h1.1).1 hf;rw [length_map] at g2 g3;exact ⟨length_eq_one_iff.1 g1, length_eq_zero_iff.1 g2, length_eq_zero_iff.1 g3⟩
theorem aFq (h : fF (QL X) (.mk f n s t ks bs al)) (hf : f = 1) : ks = [] ∧ bs = [] ∧ al = [] := by
 obtain ⟨h1, _⟩ := bE.1 h;obtain ⟨g1, g2, g3⟩ := (aPx h1.1).2 hf;rw [length_map] at g2 g3;exact ⟨length_eq_zero_iff.1 g1, length_eq_zero_iff.1 g2, length_eq_zero_iff.1 g3⟩
end
mutual
theorem aAg {X : Nat} : ∀ c : Core, fF (QL X) c → wfC c = true
 | .mk f n s t ks bs al, h => by
  obtain ⟨h1, h2, h3, h4⟩ := bE.1 h;exact aPb (fun hf => fK h hf) (fun hf => aFq h hf) (fun x hx => aMh ks h2 x hx) (fun x hx => aMi bs h3 x hx) (fun x hx => aMj al h4 x hx)
theorem aMh {X : Nat} : ∀ l : List Core, (∀ x ∈ l, fF (QL X) x) → ∀ x ∈ l, wfC x = true
 | c :: l, h, x, hx => by
  rcases mem_cons.1 hx with e | hx
  ·rw [e]; exact aAg c (h _ mem_cons_self)
  ·exact aMh l (fun x hx => h x (mem_cons_of_mem _ hx)) x hx
theorem aMi {X : Nat} : ∀ l : List Bind, (∀ x ∈ l, fF (QL X) x.body) → ∀ x ∈ l, wfC x.body = true
 | .mk s t c :: l, h, x, hx => by
  rcases mem_cons.1 hx with e | hx
  ·rw [e]; exact aAg c (h _ mem_cons_self)
  ·exact aMi l (fun x hx => h x (mem_cons_of_mem _ hx)) x hx
theorem aMj {X : Nat} : ∀ l : List Alt, (∀ x ∈ l, fF (QL X) x.body) → ∀ x ∈ l, wfC x.body = true
 | .mk f n s v c :: l, h, x, hx => by
  rcases mem_cons.1 hx with e | hx
  ·rw [e]; exact aAg c (h _ mem_cons_self)
  ·exact aMj l (fun x hx => h x (mem_cons_of_mem _ hx)) x hx
end
theorem vX {o : List Str} {x y : Str} : y ∈ rD o x ↔ y ∈ o ∨ y = x := by
 unfold rD;split
 ·rename_i h;exact ⟨.inl, fun h' => h'.elim id fun e => by rw [e]; exact h⟩
 ·rw [mem_append, mem_singleton]
theorem lF {y : Str} : ∀ {l o : List Str}, y ∈ mR o l ↔ y ∈ o ∨ y ∈ l
 | [], o => by simp [mR]
 | x :: l, o => by
  show y ∈ mR (rD o x) l ↔ _;rw [lF (l := l), vX, mem_cons, or_assoc]
theorem aC3 {f : Int} {s y : Str} : ∀ {l o : List Str}, y ∈ aAp f s o l ↔ y ∈ o ∨ (y ∈ l ∧ (¬ f = 7 ∨ ¬ y = s))
 | [], o => by simp [aAp]
 | x :: l, o => by
  show y ∈ aAp f s (n0 f s o x) l ↔ _;rw [aC3 (l := l)];unfold n0;split
  ·rename_i h;rw [lF, mem_singleton, mem_cons];constructor
   ·rintro ((h1 | h1) | h1)
    ·exact .inl h1
    ·exact .inr ⟨.inl h1, by rw [h1]; exact h⟩
    ·exact .inr ⟨.inr h1.1, h1.2⟩
   ·rintro (h1 | ⟨h1 | h1, h2⟩)
    ·exact .inl (.inl h1)
    ·exact .inl (.inr h1)
    ·exact .inr ⟨h1, h2⟩
  ·rename_i h;rw [mem_cons];constructor
   ·rintro (h1 | h1)
    ·exact .inl h1
    ·exact .inr ⟨.inr h1.1, h1.2⟩
   ·rintro (h1 | ⟨h1 | h1, h2⟩)
    ·exact .inl h1
    ·exact absurd (by rw [← h1]; exact h2) h
    ·exact .inr ⟨h1, h2⟩
theorem aC1 {f : Int} {s y : Str} : ∀ {l : List Core} {o : List Str}, y ∈ o8 f s l o ↔ y ∈ o ∨ ∃ k ∈ l, y ∈ tyR k ∧ (¬ f = 7 ∨ ¬ y = s)
 | [], o => by rw [o8]; simp
 | c :: l, o => by
  rw [o8, aC1 (l := l), aC3, or_assoc];simp
theorem aC4 {y : Str} : ∀ {l : List Bind} {o : List Str}, y ∈ mL l o ↔ y ∈ o ∨ ∃ b ∈ l, y ∈ tfR b.ty ∨ y ∈ tyR b.body
 | [], o => by rw [mL]; simp
 | .mk s t c :: l, o => by
  rw [mL, aC4 (l := l), lF, lF];simp only [mem_cons, exists_eq_or_imp, Bind.ty, Bind.body, or_assoc]
theorem aC5 {y : Str} : ∀ {l : List Alt} {o : List Str}, y ∈ mZ l o ↔ y ∈ o ∨ ∃ a ∈ l, y ∈ tyR a.body
 | [], o => by rw [mZ]; simp
 | .mk f n s v c :: l, o => by
  rw [mZ, aC5 (l := l), lF];simp only [mem_cons, exists_eq_or_imp, Alt.body, or_assoc]
theorem bM {f n : Int} {s : Str} {t : Ty} {ks : List Core} {bs : List Bind} {al : List Alt} {y : Str} :
  y ∈ tyR (.mk f n s t ks bs al) ↔ y ∈ tfR t ∨ (∃ k ∈ ks, y ∈ tyR k ∧ (¬ f = 7 ∨ ¬ y = s)) ∨ (∃ b ∈ bs, y ∈ tfR b.ty ∨ y ∈ tyR b.body) ∨ ∃ a ∈ al, y ∈ tyR a.body := by
 rw [tyR, aC5, aC4, aC1, lF];simp [or_assoc]
theorem oG : ∀ {l o : List Str}, o.Nodup → (mR o l).Nodup
 | [], _, h => h
 | x :: l, o, h => oG (l := l) (o := rD o x) (aR6 h)
theorem aHp {f : Int} {s : Str} : ∀ {l o : List Str}, o.Nodup → (aAp f s o l).Nodup
 | [], _, h => h
 | x :: l, o, h => aHp (l := l) (o := n0 f s o x) (by unfold n0; split; exact oG h; exact h)
theorem aHn {f : Int} {s : Str} : ∀ {l : List Core} {o : List Str}, o.Nodup → (o8 f s l o).Nodup
 | [], o, h => by rw [o8]; exact h
 | c :: l, o, h => by rw [o8]; exact aHn (aHp h)
theorem aHr : ∀ {l : List Bind} {o : List Str}, o.Nodup → (mL l o).Nodup
 | [], o, h => by rw [mL]; exact h
 | .mk s t c :: l, o, h => by rw [mL]; exact aHr (oG (oG h))
theorem aHs : ∀ {l : List Alt} {o : List Str}, o.Nodup → (mZ l o).Nodup
 | [], o, h => by rw [mZ]; exact h
 | .mk f n s v c :: l, o, h => by rw [mZ]; exact aHs (oG h)
theorem aXs (c : Core) : (tyR c).Nodup := by
 obtain ⟨f, n, s, t, ks, bs, al⟩ := c;rw [tyR];exact aHs (aHr (aHn (oG nodup_nil)))
theorem dM {a : List Str} {c : Core} (h : ∀ x ∈ tyR c, x ∈ a) : (tyR c).length ≤ a.length := iV _ _ (aXs c) h
mutual
def tlC : Core → Nat
 | .mk f _ _ _ ks bs al => (if f = 7 then 1 else 0) + max (jI ks) (max (pN bs) (oZ al))
def jI : List Core → Nat
 | [] => 0
 | c :: l => max (tlC c) (jI l)
def pN : List Bind → Nat
 | [] => 0
 | .mk _ _ c :: l => max (tlC c) (pN l)
def oZ : List Alt → Nat
 | [] => 0
 | .mk _ _ _ _ c :: l => max (tlC c) (oZ l)
end
theorem aAv {K : Nat} : ∀ {l : List Core}, jI l ≤ K ↔ ∀ x ∈ l, tlC x ≤ K
 | [] => by simp [jI]
 | c :: l => by rw [jI, max_le, aAv (l := l)]; simp
theorem aAw {K : Nat} : ∀ {l : List Bind}, pN l ≤ K ↔ ∀ x ∈ l, tlC x.body ≤ K
 | [] => by simp [pN]
 | .mk s t c :: l => by rw [pN, max_le, aAw (l := l)]; simp [Bind.body]
theorem aAx {K : Nat} : ∀ {l : List Alt}, oZ l ≤ K ↔ ∀ x ∈ l, tlC x.body ≤ K
 | [] => by simp [oZ]
 | .mk f n s v c :: l => by rw [oZ, max_le, aAx (l := l)]; simp [Alt.body]
theorem xO {K : Nat} {f n : Int} {s : Str} {t : Ty} {ks : List Core} {bs : List Bind} {al : List Alt} :
  tlC (.mk f n s t ks bs al) ≤ (if f = 7 then 1 else 0) + K ↔ (∀ x ∈ ks, tlC x ≤ K) ∧ (∀ x ∈ bs, tlC x.body ≤ K) ∧ ∀ x ∈ al, tlC x.body ≤ K := by
 rw [tlC, Nat.add_le_add_iff_left, max_le, max_le, aAv, aAw, aAx]
theorem k7 {f n : Int} {s : Str} {t : Ty} {ks : List Core} {bs : List Bind} {al : List Alt} :
  (∀ x ∈ ks, tlC x + (if f = 7 then 1 else 0) ≤ tlC (.mk f n s t ks bs al)) ∧ (∀ x ∈ bs, tlC x.body ≤ tlC (.mk f n s t ks bs al)) ∧ ∀ x ∈ al, tlC x.body ≤ tlC (.mk f n s t ks bs al) := by
 have h := (xO (K := max (jI ks) (max (pN bs) (oZ al))) (f := f) (n := n) (s := s) (t := t) (ks := ks) (bs := bs) (al := al)).1 (by rw [tlC]; exact le_refl _)
 rw [tlC];exact ⟨fun x hx => by have := h.1 x hx; omega, fun x hx => by have := h.2.1 x hx; omega, fun x hx => by have := h.2.2 x hx; omega⟩
def Alg.k (A : Alg) : Nat := tW A zTy r0
mutual
def cw (A : Alg) (E : Nat) : Core → (Str → Nat) → Nat
 | .mk f _ s t ks bs al, ρ => max A.k (max (tW A t ρ) (max (cws A E ks (if f = 7 then fO ρ s E else ρ)) (max (cwb A E bs ρ) (cwa A E al ρ))))
def cws (A : Alg) (E : Nat) : List Core → (Str → Nat) → Nat
 | [], _ => 0
 | c :: l, ρ => max (cw A E c ρ) (cws A E l ρ)
def cwb (A : Alg) (E : Nat) : List Bind → (Str → Nat) → Nat
 | [], _ => 0
 | .mk _ t c :: l, ρ => max (max (tW A t ρ) (cw A E c ρ)) (cwb A E l ρ)
def cwa (A : Alg) (E : Nat) : List Alt → (Str → Nat) → Nat
 | [], _ => 0
 | .mk _ _ _ _ c :: l, ρ => max (cw A E c ρ) (cwa A E l ρ)
end
section
variable {A : Alg} {E K : Nat} {ρ ρ' : Str → Nat}
theorem aQk : ∀ {l : List Core}, cws A E l ρ ≤ K ↔ ∀ x ∈ l, cw A E x ρ ≤ K
 | [] => by simp [cws]
 | c :: l => by rw [cws, max_le, aQk (l := l)]; simp
theorem aQl : ∀ {l : List Bind}, cwb A E l ρ ≤ K ↔ ∀ x ∈ l, tW A x.ty ρ ≤ K ∧ cw A E x.body ρ ≤ K
 | [] => by simp [cwb]
 | .mk s t c :: l => by rw [cwb, max_le, max_le, aQl (l := l)]; simp [Bind.body, Bind.ty]
theorem aQm : ∀ {l : List Alt}, cwa A E l ρ ≤ K ↔ ∀ x ∈ l, cw A E x.body ρ ≤ K
 | [] => by simp [cwa]
 | .mk f n s v c :: l => by rw [cwa, max_le, aQm (l := l)]; simp [Alt.body]
theorem fU {f n : Int} {s : Str} {t : Ty} {ks : List Core} {bs : List Bind} {al : List Alt} :
  cw A E (.mk f n s t ks bs al) ρ ≤ K ↔ A.k ≤ K ∧ tW A t ρ ≤ K ∧ (∀ x ∈ ks, cw A E x (if f = 7 then fO ρ s E else ρ) ≤ K) ∧ (∀ x ∈ bs, tW A x.ty ρ ≤ K ∧ cw A E x.body ρ ≤ K) ∧ ∀ x ∈ al, cw A E x.body ρ ≤ K := by
 rw [cw, max_le, max_le, max_le, max_le, aQk, aQl, aQm]
end
theorem aY6 {A : Alg} {E : Nat} {ρ : Str → Nat} (c : Core) : A.k ≤ cw A E c ρ := by cases c; exact (fU.1 (le_refl _)).1
theorem kU {A : Alg} {E : Nat} : ∀ (k : Nat) (c : Core), b6 c ≤ k → ∀ {ρ ρ' : Str → Nat} {K : Nat}, (∀ x ∈ tyR c, ρ x = ρ' x) → cw A E c ρ' ≤ K → cw A E c ρ ≤ K
 | 0, c, h, _, _, _, _, _ => by have := eZ c; omega
 | k + 1, .mk f n s t ks bs al, h, ρ, ρ', K, hx, hK => by
  obtain ⟨ihk, ihb, iha, _⟩ := @kA f n s t ks bs al;obtain ⟨g0, g1, g2, g3, g4⟩ := fU.1 hK;refine fU.2 ⟨g0, ?_, fun x hm => ?_, fun x hm => ⟨?_, ?_⟩, fun x hm => ?_⟩
  ·rw [gZ (tn t) t (le_refl _) fun y hy => hx y (bM.2 (.inl hy))]; exact g1
  ·refine kU k x (by have := ihk x hm; omega) (fun y hy => ?_) (g2 x hm);by_cases h7 : f = 7
   ·rw [if_pos h7, if_pos h7];unfold fO;by_cases e : y = s
    ·rw [if_pos e, if_pos e]
    ·rw [if_neg e, if_neg e]; exact hx y (bM.2 (.inr (.inl ⟨x, hm, hy, .inr e⟩)))
   ·rw [if_neg h7, if_neg h7]; exact hx y (bM.2 (.inr (.inl ⟨x, hm, hy, .inl h7⟩)))
  ·rw [gZ (tn x.ty) x.ty (le_refl _) fun y hy => hx y (bM.2 (.inr (.inr (.inl ⟨x, hm, .inl hy⟩))))]; exact (g3 x hm).1
  ·exact kU k x.body (by have := ihb x hm; omega) (fun y hy => hx y (bM.2 (.inr (.inr (.inl ⟨x, hm, .inr hy⟩))))) (g3 x hm).2
  ·exact kU k x.body (by have := iha x hm; omega) (fun y hy => hx y (bM.2 (.inr (.inr (.inr ⟨x, hm, hy⟩))))) (g4 x hm)
theorem nU {A : Alg} {E : Nat} {c : Core} {ρ ρ' : Str → Nat} (h : ∀ x ∈ tyR c, ρ x = ρ' x) : cw A E c ρ = cw A E c ρ' :=
 Nat.le_antisymm (kU _ c (le_refl _) h (le_refl _)) (kU _ c (le_refl _) (fun x hx => (h x hx).symm) (le_refl _))
theorem qG {A : Alg} {E E' : Nat} (hE : E ≤ E') : ∀ (k : Nat) (c : Core), b6 c ≤ k → ∀ {ρ ρ' : Str → Nat} {K : Nat}, (∀ x, ρ x ≤ ρ' x) → cw A E' c ρ' ≤ K → cw A E c ρ ≤ K
 | 0, c, h, _, _, _, _, _ => by have := eZ c; omega
 | k + 1, .mk f n s t ks bs al, h, ρ, ρ', K, hx, hK => by
  obtain ⟨ihk, ihb, iha, _⟩ := @kA f n s t ks bs al;obtain ⟨g0, g1, g2, g3, g4⟩ := fU.1 hK;refine fU.2 ⟨g0, le_trans (aA1 t hx) g1, fun x hm => ?_, fun x hm => ⟨le_trans (aA1 x.ty hx) (g3 x hm).1, ?_⟩, fun x hm => ?_⟩
  ·refine qG hE k x (by have := ihk x hm; omega) (fun y => ?_) (g2 x hm);by_cases h7 : f = 7
   ·rw [if_pos h7, if_pos h7];unfold fO;split
    ·exact hE
    ·exact hx y
   ·rw [if_neg h7, if_neg h7]; exact hx y
  ·exact qG hE k x.body (by have := ihb x hm; omega) hx (g3 x hm).2
  ·exact qG hE k x.body (by have := iha x hm; omega) hx (g4 x hm)
theorem rQ {A : Alg} {E E' : Nat} (hE : E ≤ E') {c : Core} {ρ ρ' : Str → Nat} (h : ∀ x, ρ x ≤ ρ' x) : cw A E c ρ ≤ cw A E' c ρ' := qG hE _ c (le_refl _) h (le_refl _)
set_option maxHeartbeats 4000000
structure CG (D M X : Nat) (c : Core) : Prop where
 q : fF (QL X) c
 dep : cw j6 0 c r0 ≤ D
 sc : (tyR c).length + 2 * tlC c ≤ M
 sz : m30 c ≤ Big
section
variable {D M X : Nat} {f n : Int} {s : Str} {t : Ty} {ks : List Core} {bs : List Bind} {al : List Alt}
theorem aYd (p : Prop) [Decidable p] : (if p then fO r0 s 0 else r0) = r0 := by split; exact aIg s; rfl
theorem CG.kid (h : CG D M X (.mk f n s t ks bs al)) {x : Core} (hx : x ∈ ks) : CG D M X x ∧ ((tyR x).length + 2 * tlC x + (if f = 7 then 1 else 0) ≤ M) ∧ m30 x < m30 (.mk f n s t ks bs al) := by
 obtain ⟨h1, h2, h3, h4⟩ := h;have g := hJ hx;have gl : m30 x < m30 (.mk f n s t ks bs al) := by rw [m30]; omega
 have g2 := (k7 (f := f) (n := n) (s := s) (t := t) (ks := ks) (bs := bs) (al := al)).1 x hx;have g3 := (fU.1 h2).2.2.1 x hx;rw [aYd] at g3;have g4 : (tyR x).length ≤ (tyR (.mk f n s t ks bs al)).length + (if f = 7 then 1 else 0) := by
  by_cases h7 : f = 7
  ·rw [if_pos h7];refine dM (a := s :: tyR (.mk f n s t ks bs al)) fun y hy => ?_
   by_cases e : y = s
   ·rw [e]; exact mem_cons_self
   ·exact mem_cons_of_mem _ (bM.2 (.inr (.inl ⟨x, hx, hy, .inr e⟩)))
  ·rw [if_neg h7];exact dM fun y hy => bM.2 (.inr (.inl ⟨x, hx, hy, .inl h7⟩))
 have g5 : (tyR x).length + 2 * tlC x + (if f = 7 then 1 else 0) ≤ M := by split at g2 <;> split at g4 <;> simp_all <;> omega
 exact ⟨⟨(bE.1 h1).2.1 x hx, g3, by omega, by omega⟩, g5, gl⟩
theorem CG.bind (h : CG D M X (.mk f n s t ks bs al)) {x : Bind} (hx : x ∈ bs) : CG D M X x.body ∧ m30 x.body < m30 (.mk f n s t ks bs al) := by
 obtain ⟨h1, h2, h3, h4⟩ := h;have g := nI hx;have gl : m30 x.body < m30 (.mk f n s t ks bs al) := by rw [m30]; omega
 have g2 := (k7 (f := f) (n := n) (s := s) (t := t) (ks := ks) (bs := bs) (al := al)).2.1 x hx;have g4 : (tyR x.body).length ≤ (tyR (.mk f n s t ks bs al)).length := dM fun y hy => bM.2 (.inr (.inr (.inl ⟨x, hx, .inr hy⟩)))
 exact ⟨⟨(bE.1 h1).2.2.1 x hx, ((fU.1 h2).2.2.2.1 x hx).2, by omega, by omega⟩, gl⟩
theorem CG.alt (h : CG D M X (.mk f n s t ks bs al)) {x : Alt} (hx : x ∈ al) : CG D M X x.body ∧ m30 x.body < m30 (.mk f n s t ks bs al) := by
 obtain ⟨h1, h2, h3, h4⟩ := h;have g := iW hx;have gl : m30 x.body < m30 (.mk f n s t ks bs al) := by rw [m30]; omega
 have g2 := (k7 (f := f) (n := n) (s := s) (t := t) (ks := ks) (bs := bs) (al := al)).2.2 x hx;have g4 : (tyR x.body).length ≤ (tyR (.mk f n s t ks bs al)).length := dM fun y hy => bM.2 (.inr (.inr (.inr ⟨x, hx, hy⟩)))
 exact ⟨⟨(bE.1 h1).2.2.2 x hx, (fU.1 h2).2.2.2.2 x hx, by omega, by omega⟩, gl⟩
theorem CG.ty (h : CG D M X (.mk f n s t ks bs al)) : wfS t = true ∧ fvm t ≤ M + D ∧ ∀ b ∈ bs, wfS b.ty = true ∧ fvm b.ty ≤ M + D := by
 obtain ⟨h1, h2, h3, h4⟩ := h;obtain ⟨⟨_, _, q3, q4, _⟩, _⟩ := bE.1 h1;obtain ⟨_, c1, _, c3, _⟩ := fU.1 h2;refine ⟨q3, ?_, fun b hb => ?_⟩
 ·have g1 := rL (tn t) t (le_refl _) q3;have g2 : (tfR t).length ≤ (tyR (.mk f n s t ks bs al)).length := iV _ _ (aHx t) fun y hy => bM.2 (.inl hy)
  omega
 ·have q5 := q4 (bhd b) (mem_map.2 ⟨b, hb, rfl⟩);have g1 := rL (tn b.ty) b.ty (le_refl _) q5;have g2 : (tfR b.ty).length ≤ (tyR (.mk f n s t ks bs al)).length := iV _ _ (aHx b.ty) fun y hy => bM.2 (.inr (.inr (.inl ⟨b, hb, .inl hy⟩)))
  have g3 := (c3 b hb).1
  exact ⟨q5, by omega⟩
end
theorem aHi {K : Nat} : ∀ {l : List Core}, (∀ x ∈ l, tyM x ≤ K) → aPe l ≤ K
 | [], _ => by rw [aPe]; exact zero_le _
 | c :: l, h => by
  rw [aPe];have := h c mem_cons_self;have := aHi (l := l) fun x hx => h x (mem_cons_of_mem _ hx)
  omega
theorem aHj {K : Nat} : ∀ {l : List Bind}, (∀ x ∈ l, fw x.ty ≤ K ∧ tyM x.body ≤ K) → aHk l ≤ K
 | [], _ => by rw [aHk]; exact zero_le _
 | .mk s t c :: l, h => by
  rw [aHk];have h1 : fw t ≤ K ∧ tyM c ≤ K := h _ mem_cons_self;have := aHj (l := l) fun x hx => h x (mem_cons_of_mem _ hx)
  omega
theorem aHl {K : Nat} : ∀ {l : List Alt}, (∀ x ∈ l, tyM x.body ≤ K) → aMw l ≤ K
 | [], _ => by rw [aMw]; exact zero_le _
 | .mk f n s v c :: l, h => by
  rw [aMw];have h1 : tyM c ≤ K := h _ mem_cons_self;have := aHl (l := l) fun x hx => h x (mem_cons_of_mem _ hx)
  omega
theorem CG.tyM {D M X : Nat} : ∀ (k : Nat) (c : Core), m30 c ≤ k → CG D M X c → tyM c ≤ M + D
 | 0, c, h, _ => by have := fE c; omega
 | k + 1, .mk f n s t ks bs al, h, hc => by
  obtain ⟨h1, h2, h3⟩ := hc.ty;have g1 := aQf h1;have g2 := hc.sc;have g3 := aHi (K := M + D) (l := ks) fun x hx => CG.tyM k x (by have := (hc.kid hx).2.2; omega) (hc.kid hx).1
  have g4 := aHj (K := M + D) (l := bs) fun x hx => ⟨le_trans (aQf (h3 x hx).1) (h3 x hx).2, CG.tyM k x.body (by have := (hc.bind hx).2; omega) (hc.bind hx).1⟩
  have g5 := aHl (K := M + D) (l := al) fun x hx => CG.tyM k x.body (by have := (hc.alt hx).2; omega) (hc.alt hx).1
  rw [Go.Proofs.YtmoekkcdkjopgaaGreatDoor.tyM];omega
theorem CG.allT {D M X : Nat} {p : Ty → Prop} (hp : ∀ t, wfS t = true → fvm t ≤ M + D → p t) : ∀ (k : Nat) (c : Core), m30 c ≤ k → CG D M X c → allT p c
 | 0, c, h, _ => by have := fE c; omega
 | k + 1, .mk f n s t ks bs al, h, hc => by
  obtain ⟨h1, h2, h3⟩ := hc.ty;rw [Go.Proofs.YtmoekkcdkjopgaaGreatDoor.allT]
  exact ⟨hp t h1 h2, s6.2 fun x hx => CG.allT hp k x (by have := (hc.kid hx).2.2; omega) (hc.kid hx).1,
   kY.2 fun x hx => ⟨hp x.ty (h3 x hx).1 (h3 x hx).2, CG.allT hp k x.body (by have := (hc.bind hx).2; omega) (hc.bind hx).1⟩,
   kZ.2 fun x hx => CG.allT hp k x.body (by have := (hc.alt hx).2; omega) (hc.alt hx).1⟩
theorem CG.tyG {D M X : Nat} (hI : dR 540000000000) (hMD : M + D ≤ 700000) {c : Core} (hc : CG D M X c) : Go.Proofs.YtmoekkcdkjopgaaGreatDoor.allT TyG c := hc.allT (fun t h1 h2 => aLa hI t h1 (by omega)) _ c (le_refl _)
theorem CG.types {D M X : Nat} (hMD : M + D ≤ 700000) {c : Core} (hc : CG D M X c) : aU Tryz.prog 61 [.pa (aC c)] [] (bU (tyR c)) [] ∧ (tyR c).length ≤ 700000 := by
 have h1 := hc.tyM _ c (le_refl _);have h2 := dA c;have h3 := hc.sz;have h4 : Big = 250000000000 := rfl;exact ⟨zH _ c (le_refl _) (by omega) (by omega), by have := hc.sc; omega⟩
noncomputable def sTR : Nat → Core → Str → Ty → Core
 | 0, c, _, _ => c
 | k + 1, .mk f n nm t ks bs al, name, u =>
  if f = 7 ∧ (nm = name ∨ ¬ name ∈ tyR (.mk f n nm t ks bs al)) then .mk f n nm t ks bs al
  else if f = 7 ∧ nm ∈ tfR u then
   iR (fun t => l8 t [(name, u)]) (fun x => sTR k x name u) (.mk f n (b8 (tfR u ++ ks.flatMap tyR)) t (ks.map fun x => sTR k x nm (vT (b8 (tfR u ++ ks.flatMap tyR)))) bs al)
  else iR (fun t => l8 t [(name, u)]) (fun x => sTR k x name u) (.mk f n nm t ks bs al)
structure UOk (u : Ty) : Prop where
 wf : wfS u = true
 fv : fvm u ≤ 700000
theorem UOk.ps {u : Ty} (h : UOk u) (name : Str) : PsOk [(name, u)] := ⟨by simp, fun p hp => by rw [mem_singleton.1 hp]; exact ⟨h.wf, h.fv⟩, by simp⟩
theorem UOk.var (z : Str) : UOk (vT z) := ⟨aHd, by unfold vT; rw [aKl]; decide⟩
theorem sN (ps : List (Str × Ty)) : l8 zTy ps = zTy := aAq (tn zTy) zTy (le_refl _) rfl ps fun p _ h => by
 have : tfR zTy = [] := rfl;rw [this] at h; cases h
theorem aXw (A : Alg) (ρ : Str → Nat) (name : Str) (u : Ty) : aIl A ρ [(name, u)] = fO ρ name (tW A u ρ) := by
 funext x;unfold aIl fO;by_cases e : x = name
 ·rw [if_pos e, List.find?_cons_of_pos (by simp [e])]
 ·rw [if_neg e, List.find?_cons_of_neg (by simp; exact fun h => e h.symm)]; rfl
structure SB (X : Nat) (c : Core) (name : Str) (u : Ty) (r : Core) : Prop where
 imp : aU Tryz.prog 23 [.pa (aC c), Go.AM.T name, tyV u] [] (.pa (aC r)) []
 q : fF (QL X) r
 cw : ∀ (A : Alg) (E : Nat) (ρ : Str → Nat), cw A E r ρ ≤ cw A E c (fO ρ name (tW A u ρ))
 ty : ∀ x ∈ tyR r, x ∈ tyR c ∨ x ∈ tfR u
 tl : tlC r ≤ tlC c
 sz : m30 r ≤ m30 c
theorem w8 {s s' : Str} {bh bh' : List (Str × Ty)} {ah ah' : List (Str × List Str)} (hs : w30 s' ≤ w30 s) (hb : bh'.map (·.1) = bh.map (·.1)) (ha : ah' = ah) : lw s' bh' ah' ≤ lw s bh ah := by
 subst ha;unfold lw;have e : ∀ l : List (Str × Ty), (l.map fun p => 1 + w30 p.1) = (l.map (·.1)).map fun x => 1 + w30 x := fun l => by rw [map_map]; rfl
 rw [e bh, e bh', hb];omega
section
variable {X : Nat} {ts : Ty → Ty} {sb : Core → Core} {f n : Int} {nm nm1 : Str} {t : Ty} {ks ks1 : List Core} {bs : List Bind} {al : List Alt}
theorem aFs (h : QL X f nm t ks.length (bs.map bhd) (al.map ahd)) (hn : w30 nm1 ≤ w30 nm) (hn5 : f = 5 → nm1 = nm) (hn7 : f = 7 → ¬ nm1 = []) (hk : ks1.length = ks.length) (hz : ts zTy = zTy) (h0 : wfS (ts t) = true) (hb : ∀ b ∈ bs, wfS (ts b.ty) = true)
  (h1 : ∀ x ∈ ks1, fF (QL X) (sb x)) (h2 : ∀ b ∈ bs, fF (QL X) (sb b.body)) (h3 : ∀ a ∈ al, fF (QL X) (sb a.body)) : fF (QL X) (iR ts sb (.mk f n nm1 t ks1 bs al)) := by
 obtain ⟨g1, g2, g3, g4, g5, g6, g7, g8⟩ := h;rw [iR];have ea : (al.map fun a => Alt.mk a.form a.n a.name a.vars (sb a.body)).map ahd = al.map ahd := by rw [map_map]; rfl
 have eb : ((bs.map fun b => Bind.mk b.name (ts b.ty) (sb b.body)).map bhd).map (·.1) = (bs.map bhd).map (·.1) := by rw [map_map, map_map, map_map]; rfl
 refine bE.2 ⟨⟨?_, fun h7 => ⟨by rw [(g2 h7).1]; exact hz, hn7 h7⟩, h0, fun p hp => ?_, le_trans (w8 hn eb ea) g5, fun h5 => by rw [hn5 h5]; exact g6 h5, fun p hp => ?_, by rw [ea]; exact g8⟩, fun x hx => ?_, fun x hx => ?_, fun x hx => ?_⟩
 ·rw [length_map, length_map, length_map, length_map, length_map, hk];rw [length_map, length_map] at g1;exact g1
 ·obtain ⟨b, hb', rfl⟩ := mem_map.1 hp;obtain ⟨b0, hb0, rfl⟩ := mem_map.1 hb';exact hb b0 hb0
 ·obtain ⟨b, hb', rfl⟩ := mem_map.1 hp;obtain ⟨b0, hb0, rfl⟩ := mem_map.1 hb';exact g7 (bhd b0) (mem_map.2 ⟨b0, hb0, rfl⟩)
 ·obtain ⟨y, hy, rfl⟩ := mem_map.1 hx; exact h1 y hy
 ·obtain ⟨y, hy, rfl⟩ := mem_map.1 hx; exact h2 y hy
 ·obtain ⟨y, hy, rfl⟩ := mem_map.1 hx; exact h3 y hy
theorem aC8 (hf : tlC (.mk f n nm1 t ks1 bs al) ≤ tlC (.mk f n nm t ks bs al)) (h1 : ∀ x ∈ ks1, tlC (sb x) ≤ tlC x) (h2 : ∀ b ∈ bs, tlC (sb b.body) ≤ tlC b.body) (h3 : ∀ a ∈ al, tlC (sb a.body) ≤ tlC a.body) :
  tlC (iR ts sb (.mk f n nm1 t ks1 bs al)) ≤ tlC (.mk f n nm t ks bs al) := by
 refine le_trans ?_ hf;rw [iR]
 conv => rhs; rw [tlC]
 refine xO.2 ⟨fun x hx => ?_, fun x hx => ?_, fun x hx => ?_⟩
 ·obtain ⟨y, hy, rfl⟩ := mem_map.1 hx;exact le_trans (h1 y hy) (le_trans (aAv.1 (le_refl _) y hy) (le_max_left ..))
 ·obtain ⟨y, hy, rfl⟩ := mem_map.1 hx;exact le_trans (h2 y hy) (le_trans (aAw.1 (le_refl _) y hy) (le_trans (le_max_left ..) (le_max_right ..)))
 ·obtain ⟨y, hy, rfl⟩ := mem_map.1 hx;exact le_trans (h3 y hy) (le_trans (aAx.1 (le_refl _) y hy) (le_trans (le_max_right ..) (le_max_right ..)))
end
theorem aFw {z : Str} : tfR (vT z) = [z] := by unfold vT; rw [tfR, if_pos rfl]
theorem aB2 (hI : dR 540000000000) {D M X : Nat} (hMD : M + D ≤ 700000) : ∀ (k : Nat) (c : Core), m30 c ≤ k → CG D M X c → ∀ (name : Str) (u : Ty), UOk u → SB X c name u (sTR k c name u) := by
 intro k
 induction k with
 | zero => intro c h; have := fE c; omega
 | succ k ih =>
 intro c h hc name u hu;have hTG := hc.tyG hI hMD;obtain ⟨hty, htl⟩ := hc.types hMD;have hcs := dA c;have hsz := hc.sz;have hBig : Big = 250000000000 := rfl;have hfr := nZ (tn u) u (le_refl _) hu.wf (le_trans hu.fv (by decide));have hfl := nO u;have hufv := hu.fv;obtain ⟨f, n, nm, t, ks, bs, al⟩ := c;obtain ⟨ht0, ht1, htb⟩ := hc.ty;have hq := hc.q;obtain ⟨q1, q2, q3, q4⟩ := bE.1 hq;rw [sTR];have hps := hu.ps name;have htt : ∀ v, wfS v = true → fvm v ≤ M + D → wfS (l8 v [(name, u)]) = true ∧ aU Tryz.prog 65 [tyV v, bU [name], .one (.c (.sl 4 [bD u]))] [] (tyV (l8 v [(name, u)])) [] := fun v h1 h2 => aQp hI (tn v) v (le_refl _) h1 (by omega) _ hps
 have hcwt : ∀ v, wfS v = true → fvm v ≤ M + D → ∀ A ρ, tW A (l8 v [(name, u)]) ρ ≤ tW A v (fO ρ name (tW A u ρ)) := fun v h1 h2 A ρ => by
  have := aT7 A (tn v) v (le_refl _) h1 (by omega) _ hps ρ;rwa [aXw] at this
 have htft : ∀ v, wfS v = true → ∀ x ∈ tfR (l8 v [(name, u)]), x ∈ tfR v ∨ x ∈ tfR u := fun v h1 x hx => by
  rcases aHu (tn v) v (le_refl _) h1 _ x hx with h | ⟨p, hp, _, h⟩
  ·exact .inl h.1
  ·rw [mem_singleton.1 hp] at h; exact .inr h
 by_cases h7 : f = 7
 ·subst h7;obtain ⟨⟨kid, rfl⟩, rfl, rfl⟩ := fK hq (.inr (.inr rfl));obtain ⟨g1, g2, g3⟩ := hc.kid (x := kid) mem_cons_self;rw [if_pos rfl] at g2;obtain rfl : t = zTy := (q1.2.1 rfl).1
  have hz0 : tfR zTy = [] := rfl;by_cases hs : nm = name ∨ ¬ name ∈ tyR (.mk 7 n nm zTy [kid] [] [])
  ·rw [if_pos ⟨rfl, hs⟩];have hno : ¬ name ∈ tyR (.mk 7 n nm zTy [kid] [] []) := by
    rcases hs with rfl | hs
    ·intro hin;rcases bM.1 hin with h | ⟨x, _, _, h | h⟩ | ⟨b, hb, _⟩ | ⟨a, ha, _⟩
     ·rw [hz0] at h; cases h
     ·exact h rfl
     ·exact h rfl
     ·cases hb
     ·cases ha
    ·exact hs
   refine ⟨aLd 7 n nm name zTy u [kid] [] [] (by omega) hTG rfl ?_, hq, fun A E ρ => ?_, fun x hx => .inl hx, le_refl _, le_refl _⟩
   ·by_cases e : nm = name
    ·exact .inl e
    ·exact .inr ⟨e, _, hty, hno, by omega⟩
   ·refine le_of_eq (nU fun x hx => ?_);unfold fO;rw [if_neg fun e => hno (by rw [← e]; exact hx)]
  have hne : nm ≠ name := fun e => hs (.inl e)
  have hin : name ∈ tyR (.mk 7 n nm zTy [kid] [] []) := Classical.byContradiction fun e => hs (.inr e)
  have hink : name ∈ tyR kid := by
   rcases bM.1 hin with h | ⟨x, hx, h, _⟩ | ⟨b, hb, _⟩ | ⟨a, ha, _⟩
   ·rw [hz0] at h; cases h
   ·rw [← mem_singleton.1 hx]; exact h
   ·cases hb
   ·cases ha
  rw [if_neg fun e => hs e.2];obtain ⟨hkty, hktl⟩ := g1.types hMD;have hend : ∀ (nm1 : Str) (kid1 : Core), w30 nm1 ≤ w30 nm → CG D M X kid1 → m30 kid1 ≤ m30 kid → tlC kid1 ≤ tlC kid → (∀ x ∈ tyR kid1, x = nm1 ∨ x ∈ tyR kid ∨ x ∈ tfR u) → (∀ x ∈ tyR kid1, x = nm → nm1 = nm ∨ nm ∈ tfR u) → ¬ nm1 ∈ tfR u → ¬ nm1 = [] →
    (∀ (A : Alg) (E : Nat) (ρ : Str → Nat), cw A E kid1 (fO (fO ρ nm1 E) name (tW A u ρ)) ≤ cw A E kid (fO (fO ρ name (tW A u ρ)) nm E)) →
    aU Tryz.prog 62 [.one (.vp 700 0), bU (tfR u)] (gHl 7 n nm zTy [kid] [] []) (.tup []) (gHl 7 n nm1 zTy [kid1] [] []) →
    SB X (.mk 7 n nm zTy [kid] [] []) name u (iR (fun t => l8 t [(name, u)]) (fun x => sTR k x name u) (.mk 7 n nm1 zTy [kid1] [] [])) := fun nm1 kid1 hw hk1 hkm hkt hkx hky hno hn1 hkc himp => by
   have hS := ih kid1 (by omega) hk1 name u hu;refine ⟨zA 7 n nm nm1 name zTy u [kid] [kid1] [] [] (fun t => l8 t [(name, u)]) (fun x => sTR k x name u) (by omega) hTG rfl (fun _ => ⟨hne, rfl, rfl, _, _, hty, hin, by omega, hfr, himp⟩) (fun e => absurd rfl e) (fun v hv => ?_) (fun x hx => ?_), ?_, fun A E ρ => ?_, fun x hx => ?_, ?_, ?_⟩
   ·rcases hv with rfl | ⟨b, hb, _⟩
    ·exact (htt zTy rfl ht1).2
    ·cases hb
   ·rcases hx with hx | ⟨b, hb, _⟩ | ⟨a, ha, _⟩
    ·rw [mem_singleton.1 hx]; exact hS.imp
    ·cases hb
    ·cases ha
   ·exact aFs (ks := [kid]) (nm := nm) q1 hw (fun e => absurd e (by decide)) (fun _ => hn1) rfl (sN _) (by rw [sN]; rfl) (fun b hb => by cases hb) (fun x hx => by rw [mem_singleton.1 hx]; exact hS.q) (fun b hb => by cases hb) (fun a ha => by cases ha)
   ·rw [iR];obtain ⟨c0, c1, c2, _, _⟩ := fU.1 (le_refl (cw A E (.mk 7 n nm zTy [kid] [] []) (fO ρ name (tW A u ρ))));refine fU.2 ⟨c0, by rw [sN]; exact le_trans (le_of_eq (gZ (tn zTy) zTy (le_refl _) fun x hx => by rw [hz0] at hx; cases hx)) c1, fun x hx => ?_, fun b hb => (by cases hb), fun a ha => (by cases ha)⟩;obtain ⟨y, hy, rfl⟩ := mem_map.1 hx;rw [mem_singleton.1 hy, if_pos rfl];have c2 := c2 kid mem_cons_self;rw [if_pos rfl] at c2;refine le_trans (hS.cw A E (fO ρ nm1 E)) (le_trans ?_ c2);have e : tW A u (fO ρ nm1 E) = tW A u ρ := gZ (tn u) u (le_refl _) fun y hy => by
     unfold fO;rw [if_neg fun e => hno (by rw [← e]; exact hy)]
    rw [e];exact hkc A E ρ
   ·rw [iR] at hx;rcases bM.1 hx with h | ⟨y, hy, h, hne'⟩ | ⟨b, hb, _⟩ | ⟨a, ha, _⟩
    ·rw [sN, hz0] at h; cases h
    ·obtain ⟨y0, hy0, rfl⟩ := mem_map.1 hy;rw [mem_singleton.1 hy0] at h;have hne' : ¬ x = nm1 := hne'.resolve_left (fun e => e rfl);rcases hS.ty x h with h | h
     ·rcases hkx x h with h' | h' | h'
      ·exact absurd h' hne'
      ·by_cases e : x = nm
       ·rcases hky x h e with e2 | e2
        ·exact absurd (e.trans e2.symm) hne'
        ·exact .inr (by rw [e]; exact e2)
       ·exact .inl (bM.2 (.inr (.inl ⟨kid, mem_cons_self, h', .inr e⟩)))
      ·exact .inr h'
     ·exact .inr h
    ·cases hb
    ·cases ha
   ·refine aC8 ?_ (fun x hx => by rw [mem_singleton.1 hx]; exact hS.tl) (fun b hb => by cases hb) (fun a ha => by cases ha);rw [tlC, tlC, jI, jI, jI, jI];omega
   ·exact aJy hw (by rw [cZ, cZ, cZ, cZ]; omega) (fun x hx => by rw [mem_singleton.1 hx]; exact hS.sz) (fun b hb => by cases hb) (fun a ha => by cases ha)
  by_cases hnf : nm ∈ tfR u
  ·rw [if_pos ⟨rfl, hnf⟩];have efm : [kid].flatMap tyR = tyR kid := by simp
   rw [efm, map_cons, map_nil];have hzo := lJ (tfR u ++ tyR kid);have hz30 : (b8 (tfR u ++ tyR kid)).length ≤ 30 := oL _ (by rw [length_append]; omega);have hzn := wI (tfR u ++ tyR kid);generalize hze : b8 (tfR u ++ tyR kid) = z at hzo hz30 hzn;have hS1 := ih kid (by omega) g1 nm (vT z) (UOk.var z);have hkid1 : CG D M X (sTR k kid nm (vT z)) := by
    refine ⟨hS1.q, ?_, ?_, le_trans hS1.sz g1.sz⟩
    ·have := hS1.cw j6 0 r0;have e : tW j6 (vT z) r0 = 0 := rfl;rw [e, aIg] at this;exact le_trans this g1.dep
    ·have h1 := dM (a := z :: tyR kid) (c := sTR k kid nm (vT z)) fun x hx => by
      rcases hS1.ty x hx with h | h
      ·exact mem_cons_of_mem _ h
      ·rw [aFw] at h; rw [mem_singleton.1 h]; exact mem_cons_self
     rw [length_cons] at h1;have h2 := hS1.tl;omega
   have hcl := aFb n nm zTy kid (sTR k kid nm (vT z)) (tfR u) (by omega) hnf hI hkty (by omega) (by rw [hze]; exact hS1.imp);rw [hze] at hcl;refine hend z _ (aFu hz30) hkid1 hS1.sz hS1.tl (fun x hx => ?_) (fun _ _ _ => .inr hnf) (fun h => hzo (mem_append.2 (.inl h))) hzn (fun A E ρ => ?_) hcl
   ·rcases hS1.ty x hx with h | h
    ·exact .inr (.inl h)
    ·rw [aFw] at h; exact .inl (mem_singleton.1 h)
   ·refine le_trans (hS1.cw A E _) (le_of_eq (nU fun x hx => ?_));have hzn : ¬ z = name := fun e => hzo (by rw [e]; exact mem_append.2 (.inr hink))
    have e : tW A (vT z) (fO (fO ρ z E) name (tW A u ρ)) = E := by
     unfold vT;rw [tW, if_pos rfl];unfold fO;rw [if_neg hzn, if_pos rfl]
    rw [e];unfold fO;by_cases e1 : x = nm
    ·rw [if_pos e1, if_pos e1]
    ·rw [if_neg e1, if_neg e1];by_cases e2 : x = name
     ·rw [if_pos e2, if_pos e2]
     ·rw [if_neg e2, if_neg e2, if_neg fun e3 => hzo (by rw [← e3]; exact mem_append.2 (.inr hx))]
  ·rw [if_neg fun e => hnf e.2];refine hend nm kid (le_refl _) g1 (le_refl _) (le_refl _) (fun x hx => .inr (.inl hx)) (fun _ _ _ => .inl rfl) hnf (q1.2.1 rfl).2 (fun A E ρ => ?_) (aFc n nm zTy kid (tfR u) (by omega) hnf);refine le_of_eq (nU fun x _ => ?_);unfold fO;by_cases e1 : x = nm
   ·rw [if_pos e1, if_pos e1, if_neg fun e2 => hne (e1.symm.trans e2)]
   ·rw [if_neg e1, if_neg e1]
 ·rw [if_neg fun e => h7 e.1, if_neg fun e => h7 e.1];have hk : ∀ x ∈ ks, SB X x name u (sTR k x name u) := fun x hx => ih x (by have := (hc.kid hx).2.2; omega) (hc.kid hx).1 name u hu
  have hb : ∀ x ∈ bs, SB X x.body name u (sTR k x.body name u) := fun x hx => ih x.body (by have := (hc.bind hx).2; omega) (hc.bind hx).1 name u hu
  have ha : ∀ x ∈ al, SB X x.body name u (sTR k x.body name u) := fun x hx => ih x.body (by have := (hc.alt hx).2; omega) (hc.alt hx).1 name u hu
  refine ⟨zA f n nm nm name t u ks ks bs al (fun t => l8 t [(name, u)]) (fun x => sTR k x name u) (by omega) hTG rfl (fun e => absurd e h7) (fun _ => ⟨rfl, rfl⟩) (fun v hv => ?_) (fun x hx => ?_), ?_, fun A E ρ => ?_, fun x hx => ?_, ?_, ?_⟩
  ·rcases hv with rfl | ⟨b, hb', rfl⟩
   ·exact (htt _ ht0 ht1).2
   ·exact (htt _ (htb b hb').1 (htb b hb').2).2
  ·rcases hx with hx | ⟨b, hb', rfl⟩ | ⟨a, ha', rfl⟩
   ·exact (hk x hx).imp
   ·exact (hb b hb').imp
   ·exact (ha a ha').imp
  ·exact aFs q1 (le_refl _) (fun _ => rfl) (fun e => absurd e h7) rfl (sN _) (htt t ht0 ht1).1 (fun b hb' => (htt b.ty (htb b hb').1 (htb b hb').2).1) (fun x hx => (hk x hx).q) (fun x hx => (hb x hx).q) (fun x hx => (ha x hx).q)
  ·rw [iR];obtain ⟨c0, c1, c2, c3, c4⟩ := fU.1 (le_refl (cw A E (.mk f n nm t ks bs al) (fO ρ name (tW A u ρ))));refine fU.2 ⟨c0, le_trans (hcwt t ht0 ht1 A ρ) c1, fun x hx => ?_, fun x hx => ?_, fun x hx => ?_⟩
   ·obtain ⟨y, hy, rfl⟩ := mem_map.1 hx;have := c2 y hy;rw [if_neg h7] at this ⊢;exact le_trans ((hk y hy).cw A E ρ) this
   ·obtain ⟨y, hy, rfl⟩ := mem_map.1 hx;exact ⟨le_trans (hcwt y.ty (htb y hy).1 (htb y hy).2 A ρ) (c3 y hy).1, le_trans ((hb y hy).cw A E ρ) (c3 y hy).2⟩
   ·obtain ⟨y, hy, rfl⟩ := mem_map.1 hx;exact le_trans ((ha y hy).cw A E ρ) (c4 y hy)
  ·rw [iR] at hx;rcases bM.1 hx with h | ⟨y, hy, h, _⟩ | ⟨y, hy, h⟩ | ⟨y, hy, h⟩
   ·exact (htft t ht0 x h).imp (fun h => bM.2 (.inl h)) id
   ·obtain ⟨y0, hy0, rfl⟩ := mem_map.1 hy;exact ((hk y0 hy0).ty x h).imp (fun h => bM.2 (.inr (.inl ⟨y0, hy0, h, .inl h7⟩))) id
   ·obtain ⟨y0, hy0, rfl⟩ := mem_map.1 hy;rcases h with h | h
    ·exact (htft y0.ty (htb y0 hy0).1 x h).imp (fun h => bM.2 (.inr (.inr (.inl ⟨y0, hy0, .inl h⟩)))) id
    ·exact ((hb y0 hy0).ty x h).imp (fun h => bM.2 (.inr (.inr (.inl ⟨y0, hy0, .inr h⟩)))) id
   ·obtain ⟨y0, hy0, rfl⟩ := mem_map.1 hy;exact ((ha y0 hy0).ty x h).imp (fun h => bM.2 (.inr (.inr (.inr ⟨y0, hy0, h⟩)))) id
  ·exact aC8 (le_refl _) (fun x hx => (hk x hx).tl) (fun x hx => (hb x hx).tl) (fun x hx => (ha x hx).tl)
  ·exact aJy (le_refl _) (le_refl _) (fun x hx => (hk x hx).sz) (fun x hx => (hb x hx).sz) (fun x hx => (ha x hx).sz)
end Go.Proofs.YtmoekkcdkjopgaaGreatDoor
