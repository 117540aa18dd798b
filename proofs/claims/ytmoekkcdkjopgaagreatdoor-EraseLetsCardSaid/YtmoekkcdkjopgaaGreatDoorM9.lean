/-
  Texts Ld2 to Lg13 in one.
-/
import Derived.Test.YtmoekkcdkjopgaaGreatDoorM8
open List (all_eq_true append_assoc append_nil cons_append flatMap_append flatMap_cons flatten_cons foldl_append foldl_cons isEmpty_iff length_append length_cons length_drop length_eq_one_iff length_map length_nil length_set length_take map_append map_cons map_map map_nil map_set mem_append mem_cons mem_map mem_singleton nil_append nodup_nil set_cons_succ sum_cons take_add_one take_length)
open Nat (add_assoc add_mul add_zero le_max_left le_max_right le_of_lt le_refl le_trans min_eq_left mul_one sub_self sub_zero zero_add zero_le)
namespace Go.Proofs.YtmoekkcdkjopgaaGreatDoor
open Go Go.AM
set_option maxRecDepth 20000
def gm (c : Core) : List (List (Str × List C) × List Core) :=
 ((if c.form = 5 then [(c.name, (aA c).drop 3)] else []) ++ c.binds.map (fun b => (b.name, (bA b).drop 1)), c.kids ++ c.binds.map Bind.body) :: c.alts.map fun a => (a.vars.map (fun v => (v, [])), [a.body])
def gmG (g : List (Str × List C) × List Core) : List (List C) × List Core := (g.1.map pJ, g.2)
theorem yI (c : Core) : gl c = (gm c).map gmG := by
 obtain ⟨f, n, s, t, ks, bs, al⟩ := c;unfold gl gm;rw [map_cons, map_map];congr 1
 ·unfold gmG;rw [map_append, map_map];congr 2;unfold nm0;split <;> rfl
 ·congr 1;funext a;unfold gmG;simp only [Function.comp, map_map];rfl
def pfG (G : List Str) (o : List Str) (s : Str) : List Str := if s ∈ G then o else qX o s
def pfP (G : List Str) (o l : List Str) : List Str := l.foldl (pfG G) o
def gvN (f : Int) (s : Str) (bs : List Bind) : List Str := (if f = 5 then [s] else []) ++ bs.map Bind.name
mutual
def pfR : Core → List Str
 | .mk f _ s _ ks bs al => if f = 1 then [s] else rR al (rM (gvN f s bs) bs (pH (gvN f s bs) ks []))
def pH (G : List Str) : List Core → List Str → List Str
 | [], o => o
 | c :: l, o => pH G l (pfP G o (pfR c))
def rM (G : List Str) : List Bind → List Str → List Str
 | [], o => o
 | .mk _ _ c :: l, o => rM G l (pfP G o (pfR c))
def rR : List Alt → List Str → List Str
 | [], o => o
 | .mk _ _ _ v c :: l, o => rR l (pfP v o (pfR c))
end
def pfL (G : List Str) (l : List Core) (o : List Str) : List Str := l.foldl (fun o c => pfP G o (pfR c)) o
def pfM (L : List (List (Str × List C) × List Core)) (o : List Str) : List Str := L.foldl (fun o g => pfL (g.1.map (·.1)) g.2 o) o
theorem aA7 (G : List Str) : ∀ (l : List Core) (o : List Str), pH G l o = pfL G l o
 | [], o => by rw [pH]; rfl
 | c :: l, o => by rw [pH, aA7 G l]; rfl
theorem aI4 (G : List Str) : ∀ (l : List Bind) (o : List Str), rM G l o = pfL G (l.map Bind.body) o
 | [], o => by rw [rM]; rfl
 | .mk s t c :: l, o => by rw [rM, aI4 G l]; rfl
theorem aI5 : ∀ (l : List Alt) (o : List Str), rR l o = pfM (l.map fun a => (a.vars.map (fun v => (v, [])), [a.body])) o
 | [], o => by rw [rR]; rfl
 | .mk f n s v c :: l, o => by
  rw [rR, aI5 l];have : (v.map (fun v => ((v, []) : Str × List C))).map (·.1) = v := by rw [map_map]; exact List.map_id _
  show _ = pfM _ (pfL ((v.map (fun v => ((v, []) : Str × List C))).map (·.1)) [c] o);rw [this];rfl
theorem aZt (c : Core) (h : ¬ c.form = 1) : pfR c = pfM (gm c) [] := by
 obtain ⟨f, n, s, t, ks, bs, al⟩ := c;have h : ¬ f = 1 := h;rw [pfR, if_neg h, aI5, aI4, aA7];unfold gm;show _ = pfM _ (pfL _ _ []);congr 1;unfold pfL;rw [foldl_append];have : gvN f s bs = (((if f = 5 then [((s, (aA (.mk f n s t ks bs al)).drop 3) : Str × List C)] else []) ++ bs.map (fun b => (b.name, (bA b).drop 1))).map (·.1)) := by
  unfold gvN;rw [map_append, map_map];congr 1;split <;> rfl
 rw [this];rfl
theorem aSu (G o : List Str) (s : Str) : (pfG G o s).length ≤ o.length + 1 := by
 unfold pfG; split
 ·omega
 ·exact aD5 o s
theorem v7 (G o : List Str) : ∀ l : List Str, (pfP G o l).length ≤ o.length + l.length := by
 intro l
 induction l generalizing o with
 | nil => exact le_refl _
 | cons s l ih =>
  have h1 := ih (pfG G o s);have h2 := aSu G o s;show (pfP G (pfG G o s) l).length ≤ _;rw [length_cons]; omega
mutual
theorem aF4 : ∀ c : Core, (pfR c).length ≤ aR c
 | .mk f n s t ks bs al => by
  rw [pfR, aR];split
  ·simp; omega
  ·have h1 := aI0 (gvN f s bs) ks [];have h2 := aQj (gvN f s bs) bs (pH (gvN f s bs) ks []);have h3 := aQk al (rM (gvN f s bs) bs (pH (gvN f s bs) ks []));simp only [length_nil] at h1;omega
theorem aI0 (G : List Str) : ∀ (l : List Core) (o : List Str), (pH G l o).length ≤ o.length + bJ l
 | [], o => by rw [pH]; omega
 | c :: l, o => by
  rw [pH, bJ];have h1 := aI0 G l (pfP G o (pfR c));have h2 := v7 G o (pfR c);have h3 := aF4 c;omega
theorem aQj (G : List Str) : ∀ (l : List Bind) (o : List Str), (rM G l o).length ≤ o.length + bW l
 | [], o => by rw [rM]; omega
 | .mk s t c :: l, o => by
  rw [rM, bW, bsize];have h1 := aQj G l (pfP G o (pfR c));have h2 := v7 G o (pfR c);have h3 := aF4 c;omega
theorem aQk : ∀ (l : List Alt) (o : List Str), (rR l o).length ≤ o.length + bR l
 | [], o => by rw [rR]; omega
 | .mk f n s v c :: l, o => by
  rw [rR, bR, jC];have h1 := aQk l (pfP v o (pfR c));have h2 := v7 v o (pfR c);have h3 := aF4 c;omega
end
theorem aNp (G o : List Str) {l : List Str} {i : Nat} {s : Str} (h : l[i]? = some s) : pfP G o (l.take (i + 1)) = pfG G (pfP G o (l.take i)) s := by
 unfold pfP; rw [dT h, foldl_append]; rfl
theorem aNr (G o : List Str) {l : List Core} {i : Nat} {c : Core} (h : l[i]? = some c) : pfL G (l.take (i + 1)) o = pfP G (pfL G (l.take i) o) (pfR c) := by
 unfold pfL; rw [dT h, foldl_append]; rfl
theorem aNq (o : List Str) {l : List (List (Str × List C) × List Core)} {i : Nat} {g : List (Str × List C) × List Core} (h : l[i]? = some g) : pfM (l.take (i + 1)) o = pfL (g.1.map (·.1)) g.2 (pfM (l.take i) o) := by
 unfold pfM; rw [dT h, foldl_append]; rfl
theorem aI2 (G : List Str) : ∀ (l : List Core) (o : List Str), (pfL G l o).length ≤ o.length + bJ l := fun l o => by rw [← aA7]; exact aI0 G l o
def gcs : List (List (Str × List C) × List Core) → Nat
 | [] => 0
 | g :: l => bJ g.2 + gcs l
theorem aI1 : ∀ (L : List (List (Str × List C) × List Core)) (o : List Str), (pfM L o).length ≤ o.length + gcs L
 | [], o => le_refl _
 | g :: L, o => by
  have h1 := aI1 L (pfL (g.1.map (·.1)) g.2 o);have h2 := aI2 (g.1.map (·.1)) g.2 o;show (pfM L (pfL (g.1.map (·.1)) g.2 o)).length ≤ _;rw [gcs]; omega
theorem jA : ∀ a b : List Core, bJ (a ++ b) = bJ a + bJ b
 | [], b => by rw [nil_append, bJ, zero_add]
 | x :: a, b => by rw [cons_append, bJ, bJ, jA a b, add_assoc]
theorem yU : ∀ l : List Bind, bJ (l.map Bind.body) ≤ bW l
 | [] => by rw [map_nil, bJ]; exact zero_le _
 | .mk s t c :: l => by rw [map_cons, bJ, bW, bsize]; have := yU l; show aR c + _ ≤ _; omega
theorem aQu : ∀ l : List Alt, gcs (l.map fun a => (a.vars.map (fun v => (v, [])), [a.body])) ≤ bR l
 | [] => by rw [map_nil, gcs]; exact zero_le _
 | .mk f n s v c :: l => by rw [map_cons, gcs, bR, jC, bJ, bJ]; have := aQu l; show aR c + 0 + _ ≤ _; omega
theorem aW1 (c : Core) : gcs (gm c) ≤ aR c := by
 obtain ⟨f, n, s, t, ks, bs, al⟩ := c;unfold gm;rw [gcs, aR];have h1 := jA ks (bs.map Bind.body);have h2 := yU bs;have h3 := aQu al;show bJ (ks ++ bs.map Bind.body) + gcs (al.map fun a => (a.vars.map (fun v => (v, [])), [a.body])) ≤ _;omega
theorem aBh : ∀ a b, gcs (a ++ b) = gcs a + gcs b
 | [], b => by rw [nil_append, gcs, zero_add]
 | x :: a, b => by rw [cons_append, gcs, gcs, aBh a b, add_assoc]
theorem aW2 {L : List (List (Str × List C) × List Core)} {i : Nat} {g : List (Str × List C) × List Core} (h : L[i]? = some g) : gcs (L.take i) + bJ g.2 ≤ gcs L := by
 have h1 := List.take_append_drop (i + 1) L;have h2 := aBh (L.take (i + 1)) (L.drop (i + 1));rw [h1, dT h, aBh] at h2;simp only [gcs] at h2;omega
theorem aKu {l : List Core} {i : Nat} {c : Core} (h : l[i]? = some c) : bJ (l.take i) + aR c ≤ bJ l := by
 have h1 := List.take_append_drop (i + 1) l;have h2 := jA (l.take (i + 1)) (l.drop (i + 1));rw [h1, dT h, jA] at h2;simp only [bJ] at h2;omega
def aFk (c : Core) : Prop := aR c ≤ 570000000000 → aY Tryz.prog 67 [.pa (aA c)] [] (bN (pfR c)) []
theorem nO (c : Core) (ih : ∀ x, aR x < aR c → aFk x) (hsz : aR c ≤ 570000000000) : aY Tryz.prog 67 [.pa (aA c)] [] (ouV (pfR c)) [(500, ouO (pfR c))] := by
 by_cases h1 : c.form = 1
 ·obtain ⟨f, n, s, t, ks, bs, al⟩ := c;have h1 : f = 1 := h1;subst h1;rw [pfR, if_pos rfl];refine c8 (n := 51) tok Tryz.func67 rfl rfl rfl ?_;refine a8 (ag [] rfl ?_);refine a8 (a8 (ag [] rfl ?_));refine aB rfl (fun _ => ?_) (fun hb => by cases hb);refine a8 (ag [(2, .id 500)] rfl ?_);exact aE rtT
 have hgr := rC c hsz;have hpf := aZt c h1;have hin : ∀ g ∈ gm c, ∀ x ∈ g.2, aR x < aR c := fun g hg x hx => aS9 (g := gmG g) (by rw [yI]; exact mem_map.2 ⟨g, hg, rfl⟩) hx
 obtain ⟨hgl, hgm⟩ := aJ4 c;rw [yI, length_map] at hgl;have hgm2 : ∀ g ∈ gm c, g.2.length ≤ aR c ∧ g.1.length ≤ aR c := fun g hg => by
  have := hgm (gmG g) (by rw [yI]; exact mem_map.2 ⟨g, hg, rfl⟩);unfold gmG at this;rw [length_map] at this;exact this
 have hgc := aW1 c;rw [kT, yI, map_map] at hgr;rw [hpf];clear hpf hgm;generalize gm c = L at hgr hin hgl hgm2 hgc ⊢;have hkL : (L.map (fU ∘ gmG)).length = L.length := length_map _;refine c8 (n := 51) tok Tryz.func67 rfl rfl rfl ?_;refine a8 (ag [] rfl ?_);refine a8 (a8 (ag [] rfl ?_));refine aB rfl (fun hb => absurd (zq0 hb) h1) (fun _ => ?_);refine aD ?_;refine a8 (ag [] rfl ?_);refine AWp.sub (Sub.fvar (id := 1) (l := aA c) rfl (by simp [keys])) ?_;refine AWp.sub (st2 := mk [(1, .one (.c (.pt (aA c)))), (3, .one (.c .nl))] []) sl ?_;refine AWp.sub (Sub.own (t := 3) (id := 500) 9 1 rfl rfl) ?_;refine a8 (a8 (aF mixed ?_));refine kc hgr ?_;refine ak 2 [] rfl ?_;refine az ?_;refine aC ?_;refine aJ (fun i : Nat => mk [(3, ouV (pfM (L.take i) [])), (16, .one (.c (.sl 2 (L.map (fU ∘ gmG))))), (17, I .i64 ((L.map (fU ∘ gmG)).length : Int)), (18, I .i64 i)] [(500, ouO (pfM (L.take i) []))]) (fun i => i ≤ L.length) (fun i => L.length - i) 0 (zero_le _) sl ?_;intro i hi;refine a8 (ag [] rfl ?_);refine a8 (aB rfl (fun hb => ?_) (fun hb => ?_))
 ·have hlt := ltD hb hkL;obtain ⟨g, hg⟩ := aL hlt;have hg' := cE (fU ∘ gmG) hg;have hgi := zq7 hg;obtain ⟨hl1, hl2⟩ := hgm2 g hgi;have hst := aNq [] hg;have hml := aI1 (L.take i) [];have hga := aW2 hg;simp only [length_nil] at hml;have hinG := hin g hgi;have hkG : (g.2.map dY).length = g.2.length := length_map _;obtain ⟨G1, G⟩ := g;have hg' : (L.map (fU ∘ gmG))[i]? = some [.sl 1 (G1.map pJ), .sl 1 (G.map dY)] := hg';dsimp only at hl1 hl2 hst hkG hga hinG;generalize hG0 : G1.map (·.1) = G0 at hst;generalize pfM (L.take i) [] = x0 at hst hml ⊢;refine aD ?_;refine a8 (aC (a8 (ag [(0, .row i [.sl 1 (G1.map pJ), .sl 1 (G.map dY)])] rfl ?_)));refine a8 (ag [] rfl ?_);refine aC ?_;refine aJ (fun j : Nat => mk [(3, ouV (pfL G0 (G.take j) x0)), (5, .one (.vp 5 0)), (16, .one (.c (.sl 2 (L.map (fU ∘ gmG))))), (17, I .i64 ((L.map (fU ∘ gmG)).length : Int)), (18, I .i64 i), (23, .one (.c (.sl 1 (G.map dY)))), (24, I .i64 ((G.map dY).length : Int)), (25, I .i64 j)] [(5, .var 125 [.c (.sl 1 (G1.map pJ)), .c (.sl 1 (G.map dY))]), (500, ouO (pfL G0 (G.take j) x0))]) (fun j => j ≤ G.length) (fun j => G.length - j) 0 (zero_le _) sl ?_;intro j hj;refine a8 (ag [] rfl ?_);refine a8 (aB rfl (fun hb => ?_) (fun hb => ?_))
  ·have hlt2 := ltD hb hkG;obtain ⟨p, hp⟩ := aL hlt2;have hp' := cE dY hp;have hpi := zq7 hp;have hpc := hinG p hpi;have hc := ih p hpc (by omega);have hst2 := aNr G0 x0 hp;have hml2 := aI2 G0 (G.take j) x0;have hca := aKu hp;have hple := aF4 p;generalize pfL G0 (G.take j) x0 = x1 at hst2 hml2 ⊢;generalize pfR p = F at hc hst2 hple;have hkF : (F.map bG).length = F.length := length_map _;refine aD ?_;refine a8 (aC (a8 (ag [(0, .row j (dY p))] rfl ?_)));refine a8 (ag [(3, .pc (bN F))] rfl ?_);refine aC ?_;refine aJ (fun k : Nat => mk [(3, ouV (pfP G0 x1 (F.take k))), (5, .one (.vp 5 0)), (16, .one (.c (.sl 2 (L.map (fU ∘ gmG))))), (17, I .i64 ((L.map (fU ∘ gmG)).length : Int)), (18, I .i64 i), (23, .one (.c (.sl 1 (G.map dY)))), (24, I .i64 ((G.map dY).length : Int)), (25, I .i64 j), (32, bN F), (33, I .i64 ((F.map bG).length : Int)), (34, I .i64 k)] [(5, .var 125 [.c (.sl 1 (G1.map pJ)), .c (.sl 1 (G.map dY))]), (500, ouO (pfP G0 x1 (F.take k)))]) (fun k => k ≤ F.length) (fun k => F.length - k) 0 (zero_le _) sl ?_;intro k hk;refine a8 (ag [] rfl ?_);refine a8 (aB rfl (fun hb => ?_) (fun hb => ?_))
   ·have hlt3 := ltD hb hkF;obtain ⟨s, hs⟩ := aL hlt3;have hs' := cE bG hs;have hst3 := aNp G0 x1 hs;have hml3 := v7 G0 x1 (F.take k);rw [length_take] at hml3;generalize pfP G0 x1 (F.take k) = x2 at hst3 hml3 ⊢;have hcp := aX1 G1 s (by omega);rw [hG0] at hcp;have hmo := tO x2 [s] (by simp; omega);rw [show mH x2 [s] = qX x2 s from rfl] at hmo;refine aD ?_;refine a8 (aC (a8 (ag [(0, .row k (bG s))] rfl ?_)));refine a8 (aF mixed ?_);refine ak 3 [] rfl ?_;refine kc hcp ?_;refine ak 1 [] rfl ?_;refine az ?_;refine aB rfl (fun hb => ?_) (fun hb => ?_)
    ·have hni : ¬ s ∈ G0 := by simpa using hb
     rw [pfG, if_neg hni] at hst3;refine aF mixed ?_;refine ak 3 [(2, .all)] rfl ?_;refine kc hmo ?_;refine ak 1 [] rfl ?_;refine az ?_;refine ag [] rfl ?_;refine ⟨k + 1, hlt3, by dsimp only; omega, ?_⟩;dsimp only;rw [hst3];exact sl
    ·have hni : s ∈ G0 := by simpa using hb
     rw [pfG, if_pos hni] at hst3;refine aD ?_;refine ag [] rfl ?_;refine ⟨k + 1, hlt3, by dsimp only; omega, ?_⟩;dsimp only;rw [hst3];exact sl
   have hge3 := geD hb hkF hk;subst hge3;rw [take_length, ← hst2];refine aK ?_;refine ag [] rfl ?_;exact ⟨j + 1, hlt2, by dsimp only; omega, sl⟩
  have hge2 := geD hb hkG hj;subst hge2;rw [take_length, ← hst];refine aK ?_;refine ag [] rfl ?_;exact ⟨i + 1, hlt, by dsimp only; omega, sl⟩
 have hge := geD hb hkL hi;subst hge;rw [take_length];refine aK ?_;refine a8 (ag [] rfl ?_);exact aE rtT
theorem z6 (c : Core) (ih : ∀ x, aR x < aR c → aFk x) : aFk c := fun hsz => (nO c ih hsz).plain (length_map _).symm
theorem oE : ∀ (n : Nat) (c : Core), aR c ≤ n → aFk c
 | 0, c, h => by have := dW c; omega
 | n + 1, c, h => z6 c fun x hx => oE n x (by omega)
def vC (z : Str) : Core := .mk 1 0 z zTy [] [] []
section
variable (sb : Core → Str → Core → Core)
noncomputable def dE (far : List Str) (st : List Str × List Core × List Str) (n : Str) : List Str × List Core × List Str :=
 if n ∈ far then (st.1 ++ [aZ st.2.2], st.2.1.map (fun p => sb p n (vC (aZ st.2.2))), st.2.2 ++ [aZ st.2.2]) else (st.1 ++ [n], st.2.1, st.2.2)
noncomputable def iU (far : List Str) (ns : List Str) (st : List Str × List Core × List Str) : List Str × List Core × List Str := ns.foldl (dE sb far) st
def aWg (s : Str) (ns : List Str) (ps : List Core) : Prop := s ∈ ps.flatMap pfR ∧ ¬ s ∈ ns
open Classical in
noncomputable def cK (s : Str) (b : Core) (ns : List Str) (ps : List Core) : List Str × List Core :=
 if aWg s ns ps then
  ((iU sb (pfR b) ns ([], ps, ps.flatMap pfR ++ ns ++ pfR b)).1, (iU sb (pfR b) ns ([], ps, ps.flatMap pfR ++ ns ++ pfR b)).2.1.map (fun p => sb p s b))
 else (ns, ps)
end
def mkB : List Ty → List Str → List Core → List Bind
 | t :: ts, n :: ns, p :: ps => .mk n t p :: mkB ts ns ps
 | _, _, _ => []
section
variable {sb : Core → Str → Core → Core}
theorem n8 {far : List Str} {st : List Str × List Core × List Str} {n : Str} : (dE sb far st n).1.length = st.1.length + 1 ∧ (dE sb far st n).2.1.length = st.2.1.length ∧ (dE sb far st n).2.2.length ≤ st.2.2.length + 1 := by
 unfold dE;split <;> simp
theorem vZ {far : List Str} : ∀ {ns : List Str} {st : List Str × List Core × List Str}, (iU sb far ns st).1.length = st.1.length + ns.length ∧ (iU sb far ns st).2.1.length = st.2.1.length ∧ (iU sb far ns st).2.2.length ≤ st.2.2.length + ns.length
 | [], st => by simp [iU]
 | n :: ns, st => by
  have h := vZ (far := far) (ns := ns) (st := dE sb far st n);obtain ⟨g1, g2, g3⟩ := n8 (sb := sb) (far := far) (st := st) (n := n);unfold iU at h ⊢;rw [foldl_cons, length_cons];omega
theorem aKb {far ns : List Str} {st : List Str × List Core × List Str} {i : Nat} {n : Str} (h : ns[i]? = some n) : iU sb far (ns.take (i + 1)) st = dE sb far (iU sb far (ns.take i) st) n := by
 unfold iU;rw [take_add_one, h, foldl_append]; rfl
theorem pF {s : Str} {b : Core} {ns : List Str} {ps : List Core} : (cK sb s b ns ps).1.length = ns.length ∧ (cK sb s b ns ps).2.length = ps.length := by
 unfold cK;split
 ·obtain ⟨h1, h2, _⟩ := vZ (sb := sb) (far := pfR b) (ns := ns) (st := ([], ps, ps.flatMap pfR ++ ns ++ pfR b));exact ⟨by simpa using h1, by simpa using h2⟩
 ·exact ⟨rfl, rfl⟩
end
def aF9 (sb : Core → Core) (ps : List Core) (j : Nat) : List Core := (ps.take j).map sb ++ ps.drop j
theorem aNw {sb : Core → Core} {ps : List Core} {j : Nat} : (aF9 sb ps j).length = ps.length := by unfold aF9; simp; omega
theorem aS3 {sb : Core → Core} {ps : List Core} {j : Nat} {p : Core} (h : ps[j]? = some p) : (aF9 sb ps j)[j]? = some p := by
 have hlt : j < ps.length := (zq6.1 h).1
 unfold aF9;rw [List.getElem?_append_right (by simp; omega), length_map, length_take, min_eq_left (by omega), sub_self, List.getElem?_drop, add_zero, h]
theorem aJn {sb : Core → Core} {ps : List Core} {j : Nat} {p : Core} (h : ps[j]? = some p) : aF9 sb ps (j + 1) = (aF9 sb ps j).set j (sb p) := by
 have hlt : j < ps.length := (zq6.1 h).1
 unfold aF9;rw [oB h, qG (by simp; omega), take_add_one, h];simp
theorem aJm {sb : Core → Core} {ps : List Core} : aF9 sb ps 0 = ps := by simp [aF9]
theorem aNx {sb : Core → Core} {ps : List Core} : aF9 sb ps ps.length = ps.map sb := by simp [aF9]
theorem oQ (l : List Core) (j : Nat) (x : Core) : (aQ l).set j (aA x) = aQ (l.set j x) := by
 rw [bB, bB, map_set]
theorem sP : ∀ {ts : List Ty} {ns : List Str} {ps : List Core} {j : Nat} {t : Ty} {n : Str} {p : Core}, ts[j]? = some t → ns[j]? = some n → ps[j]? = some p → (mkB ts ns ps)[j]? = some (.mk n t p)
 | t' :: ts, n' :: ns, p' :: ps, 0, t, n, p, h1, h2, h3 => by
  simp at h1 h2 h3; subst h1 h2 h3; rfl
 | t' :: ts, n' :: ns, p' :: ps, j + 1, t, n, p, h1, h2, h3 => by
  simp only [List.getElem?_cons_succ] at h1 h2 h3;simp only [mkB, List.getElem?_cons_succ];exact sP h1 h2 h3
theorem qY : ∀ {ts : List Ty} {ns : List Str} {ps : List Core}, ns.length = ts.length → ps.length = ts.length → (mkB ts ns ps).length = ts.length
 | [], _, _, _, _ => by unfold mkB; rfl
 | t :: ts, n :: ns, p :: ps, h1, h2 => by
  simp only [length_cons] at h1 h2;simp only [mkB, length_cons, qY (ts := ts) (ns := ns) (ps := ps) (by omega) (by omega)]
theorem aD6 : ∀ {ts : List Ty} {ns : List Str} {ps : List Core} {j : Nat} {t : Ty} {n : Str} (x : Core), ts[j]? = some t → ns[j]? = some n → j < ps.length → (mkB ts ns ps).set j (.mk n t x) = mkB ts ns (ps.set j x)
 | t' :: ts, n' :: ns, p' :: ps, 0, t, n, x, h1, h2, _ => by
  simp at h1 h2; subst h1 h2; rfl
 | t' :: ts, n' :: ns, p' :: ps, j + 1, t, n, x, h1, h2, h3 => by
  simp only [List.getElem?_cons_succ] at h1 h2;simp only [mkB, set_cons_succ];rw [aD6 x h1 h2 (by simpa using h3)]
theorem aD7 : ∀ {ts : List Ty} {ns : List Str} {ps : List Core} {j : Nat} {t : Ty} {p : Core} (z : Str), ts[j]? = some t → ps[j]? = some p → j < ns.length → (mkB ts ns ps).set j (.mk z t p) = mkB ts (ns.set j z) ps
 | t' :: ts, n' :: ns, p' :: ps, 0, t, p, z, h1, h2, _ => by
  simp at h1 h2; subst h1 h2; rfl
 | t' :: ts, n' :: ns, p' :: ps, j + 1, t, p, z, h1, h2, h3 => by
  simp only [List.getElem?_cons_succ] at h1 h2;simp only [mkB, set_cons_succ];rw [aD7 z h1 h2 (by simpa using h3)]
theorem iP (l : List Bind) (j : Nat) (x : Bind) : (aO l).set j (bA x) = aO (l.set j x) := by
 rw [bD, bD, map_set]
theorem aXa {l : List Core} {j : Nat} {x : Core} (h : l[j]? = some x) : (aQ l)[j]? = some (aA x) := dS h
def grO (nG : List R) (pG : List R) : AObj := .var 125 [.ras nG.length 1 nG, .ras pG.length 1 pG]
def tH (tys : List Ty) (nk : Nat) (ns : List Str) (ps : List Core) : List (Nat × AObj) := [(701, .arr 73 15 (aO (mkB tys ns (ps.drop nk))) 0), (702, .arr 37 10 (aQ (ps.take nk)) 0)]
def tN (nb : Nat) : List R := (nR false nb nb).flatten
def tP (nk nb : Nat) : List R := (pR nk nb nb).flatten
theorem lE {es : Nat} : ∀ {l : List (List R)}, (∀ r ∈ l, r.length = es) → l.flatten.length = l.length * es
 | [], _ => by simp
 | r :: l, h => by
  rw [flatten_cons, length_append, lE fun q hq => h q (zq3 _ hq), h r zq2, length_cons, add_mul];omega
theorem aPy {nk nb : Nat} : (tP nk nb).length = nk + nb := by unfold tP; rw [lE sK, aI6]; omega
theorem aP0 {nk nb j : Nat} (h : j < nk) : ((tP nk nb).drop (j * 1)).take 1 = [.ep 702 j 0 nk] := dU sK j _ (aI8 h)
theorem aPz {nk nb j : Nat} (h : j < nb) : ((tP nk nb).drop ((nk + j) * 1)).take 1 = [.ep 701 j 5 nb] := dU sK _ _ (aI7 h)
theorem aHy {nb : Nat} : ∀ r ∈ nR false nb nb, r.length = 1 := fun r hr => by
 unfold nR at hr;exact qJ (fun _ => rfl) r (by simpa [gNm] using hr)
theorem aVl {nb : Nat} : (tN nb).length = nb := by
 unfold tN;rw [lE aHy];unfold nR;rw [length_append, fN]; simp [gNm]
theorem aVm {nb j : Nat} (h : j < nb) : ((tN nb).drop (j * 1)).take 1 = [.ep 701 j 0 nb] := dU aHy j _ (by
 unfold nR;rw [List.getElem?_append_right (by simp [gNm])];simp only [gNm, length_nil, sub_zero]
 exact aDo h)
theorem uI {nk nb : Nat} : ∀ x ∈ R.refsL (tP nk nb), x = 701 ∨ x = 702 := fun x hx => by
 unfold tP at hx;rw [cP] at hx;unfold pR at hx;rw [iW] at hx;rcases mem_append.1 hx with hx | hx
 ·exact .inr (l6 (L := fun x => x = 702) (fun j x hx => by simpa [R.refsL, R.refs] using hx) _ x hx)
 ·exact .inl (l6 (L := fun x => x = 701) (fun j x hx => by simpa [R.refsL, R.refs] using hx) _ x hx)
theorem aHx {nb : Nat} : ∀ x ∈ R.refsL (tN nb), x = 701 := fun x hx => by
 unfold tN at hx;rw [cP] at hx;unfold nR at hx;rw [iW] at hx;rcases mem_append.1 hx with hx | hx
 ·simp [gNm, bX] at hx
 ·exact l6 (L := fun x => x = 701) (fun j x hx => by simpa [R.refsL, R.refs] using hx) _ x hx
theorem aAs {nk nb : Nat} : ∀ x ∈ (grO (tN nb) (tP nk nb)).refs, x = 701 ∨ x = 702 := fun x hx => by
 have hx : x ∈ R.refsL (tN nb) ++ (R.refsL (tP nk nb) ++ []) := hx;rw [append_nil] at hx;rcases mem_append.1 hx with hx | hx
 ·exact .inl (aHx x hx)
 ·exact uI x hx
abbrev tG (tys : List Ty) (nk : Nat) (ns : List Str) (ps : List Core) : List (Nat × AObj) := (3, grO (tN tys.length) (tP nk tys.length)) :: tH tys nk ns ps
theorem tGW {tys : List Ty} {nk : Nat} {ns : List Str} {ps : List Core} : GW (tG tys nk ns ps) [] := ⟨⟨fun _ h => (by cases h), nodup_nil, fun _ h => (by cases h)⟩, fun x hx => by
 have hx : x ∈ (grO (tN tys.length) (tP nk tys.length)).refs ++ [] := hx;rw [append_nil] at hx;rcases aAs x hx with rfl | rfl
 ·exact .inl (by simp [tG, tH, keys])
 ·exact .inl (by simp [tG, tH, keys]), rfl, rfl⟩
theorem aRk (tys : List Ty) (nk : Nat) (ns : List Str) (ps : List Core) (nm : Str) (b : Core) (sb : Core → Core) (hn : ns.length = tys.length) (hp : ps.length = nk + tys.length) (hb : ps.length ≤ 570000000000)
  (hs : ∀ p ∈ ps, aY Tryz.prog 25 [.pa (aA p), Go.AM.T nm, .pa (aA b)] [] (.pa (aA (sb p))) []) :
  aY Tryz.prog 131 [Go.AM.T nm, .pa (aA b), .one (.vp 3 0)] (tG tys nk ns ps ++ []) (.tup []) (tG tys nk ns (ps.map sb) ++ []) := by
 have hF : TF [] := tGW (tys := tys) (nk := nk) (ns := ns) (ps := ps).tf;have hpl := aPy (nk := nk) (nb := tys.length);have hkr : ∀ x ∈ R.refsL (tP nk tys.length), Kn [(4, .var 37 (bF b))] (tG tys nk ns ps) [] x := fun x hx => by
  rcases uI x hx with rfl | rfl
  ·exact .inr (.inl (by simp [tG, tH, keys]))
  ·exact .inr (.inl (by simp [tG, tH, keys]))
 refine rS hF (n := 23) tok Tryz.func131 rfl rfl rfl ?_;refine a8 (ag [] rfl ?_);refine a8 (ag [] rfl ?_);refine aC ?_;refine aJ (fun j : Nat => mkt [(0, Go.AM.T nm), (2, .one (.vp 3 0)), (4, .one (.vp 4 0)), (8, .one (.ras (tP nk tys.length).length 1 (tP nk tys.length))), (9, I .i64 (((tP nk tys.length).length : Nat) : Int)), (10, I .i64 j)] ([(4, .var 37 (bF b))] ++ tG tys nk ns (aF9 sb ps j)) []) (fun j => j ≤ (tP nk tys.length).length) (fun j => (tP nk tys.length).length - j) 0 (zero_le _) ?_ ?_
 ·rw [aJm];exact slG tGW (h1 := Kn.app Kn.nil (Kn.app (Kn.of rfl) (Kn.app (Kn.of rfl) (Kn.app hkr Kn.nil))))
 intro j hj;have hkr : ∀ ps', ∀ x ∈ R.refsL (tP nk tys.length), Kn [(4, .var 37 (bF b))] (tG tys nk ns ps') [] x := fun ps' x hx => by
  rcases uI x hx with rfl | rfl
  ·exact .inr (.inl (by simp [tG, tH, keys]))
  ·exact .inr (.inl (by simp [tG, tH, keys]))
 refine a8 (ag [] rfl ?_);refine a8 (aB rfl (fun hb => ?_) (fun hb => ?_))
 ·have hlt : j < (tP nk tys.length).length := by
   have : (j : Int) < ((tP nk tys.length).length : Int) := zq0 hb;omega
  obtain ⟨p, hpj⟩ := aL (show j < ps.length by omega);have hc := hs p (zq7 hpj);have hmj := aS3 (sb := sb) hpj;have hms := aJn (sb := sb) hpj;have hml := aNw (sb := sb) (ps := ps) (j := j);generalize aF9 sb ps j = qs at hmj hms hml ⊢;have hsz1 : nk = (aQ (qs.take nk)).length := by rw [bB, length_map, length_take]; omega
  have hsz2 : tys.length = (aO (mkB tys ns (qs.drop nk))).length := by rw [bD, length_map, qY hn (by rw [length_drop]; omega)]
  refine aD ?_;by_cases hjk : j < nk
  ·have ht1 := aP0 (nb := tys.length) hjk;have hrow : (aQ (qs.take nk))[j]? = some (aA p) := aXa (by rw [List.getElem?_take, if_pos hjk, hmj]);refine a8 (aC (a8 (ag [(0, .rowR j [.ep 702 j 0 nk])] rfl ?_)));refine aF mixed ?_;refine ak 6 [(3, .row j (aA p))] rfl ?_;refine kc hc ?_;refine ak 2 [(8, .row j (aA p))] rfl ?_;refine az ?_;refine ag [] rfl ?_;refine ⟨j + 1, hlt, by dsimp only; omega, ?_⟩;dsimp only;rw [hms];refine slG tGW (fun i hi => GW.kf i hi) (h1 := Kn.app Kn.nil (Kn.app (Kn.of rfl) (Kn.app (Kn.of rfl) (Kn.app (hkr _) Kn.nil)))) (hh := ⟨⟨_, rfl, .varS rfl⟩, ⟨_, rfl, .varS rfl⟩, ⟨_, rfl, .arrS ?_⟩, ⟨_, rfl, .arrS ?_⟩, trivial⟩)
   ·rw [List.drop_set_of_lt hjk]
   ·rw [List.take_set];exact oQ _ _ _
  ·obtain ⟨j', rfl⟩ : ∃ j', j = nk + j' := ⟨j - nk, by omega⟩
   have hjb : j' < tys.length := by omega
   obtain ⟨t, ht⟩ := aL hjb;obtain ⟨n, hnn⟩ := aL (show j' < ns.length by omega);have hd : (qs.drop nk)[j']? = some p := by rw [List.getElem?_drop]; exact hmj
   have ht1 := aPz (nk := nk) hjb;have hrow : (aO (mkB tys ns (qs.drop nk)))[j']? = some (bA (.mk n t p)) := cB (sP ht hnn hd);refine a8 (aC (a8 (ag [(0, .rowR (nk + j') [.ep 701 j' 5 tys.length])] rfl ?_)));refine aF mixed ?_;refine ak 6 [(3, .row j' (bA (.mk n t p)))] rfl ?_;refine kc hc ?_;refine ak 2 [(8, .row j' (bA (.mk n t p)))] rfl ?_;refine az ?_;refine ag [] rfl ?_;refine ⟨nk + j' + 1, hlt, by dsimp only; omega, ?_⟩;dsimp only;rw [hms];refine slG tGW (fun i hi => GW.kf i hi) (h1 := Kn.app Kn.nil (Kn.app (Kn.of rfl) (Kn.app (Kn.of rfl) (Kn.app (hkr _) Kn.nil)))) (hh := ⟨⟨_, rfl, .varS rfl⟩, ⟨_, rfl, .varS rfl⟩, ⟨_, rfl, .arrS ?_⟩, ⟨_, rfl, .arrS ?_⟩, trivial⟩)
   ·rw [List.drop_set, if_neg (by omega), Nat.add_sub_cancel_left, ← aD6 _ ht hnn (by rw [length_drop]; omega), ← iP];rfl
   ·rw [List.take_set_of_le (by omega)]
 have hge : j = ps.length := by
  have : ¬ (j : Int) < ((tP nk tys.length).length : Int) := zq1 hb;omega
 subst hge;rw [aNx];refine aK ?_;exact ⟨.inl rfl, aBp (hl := tG tys nk ns (ps.map sb)) hF (by repeat (first | exact FarEq.raw hF | (refine FarEq.updL hF ?_) | (refine FarEq.upd hF ?_))) ⟨[], [], .nil, .nil, rfl⟩ (fun _ h => by cases h) tGW.refs (fun i hi => GW.kf i hi) (fun p hp => by rcases mem_append.1 hp with hp | hp; exact (all_eq_true.1 (tGW (tys := tys) (nk := nk) (ns := ns) (ps := ps)).plain) p hp; cases hp)⟩
theorem wJ (s : Str) : aY Tryz.prog 52 [Go.AM.T s] [] (.pa (aA (vC s))) [] := by
 refine c8 (n := 5) tok Tryz.func52 rfl rfl rfl ?_;refine a8 (ag [] rfl ?_);refine a8 (ag [] rfl ?_);exact aE (rtC trw)
theorem aTf {l : List Core} {j : Nat} {p : Core} (h : l[j]? = some p) : (l.take (j + 1)).flatMap pfR = (l.take j).flatMap pfR ++ pfR p := by
 rw [take_add_one, h, flatMap_append];simp
theorem aW7 (l : List Core) (j : Nat) : ((l.take j).flatMap pfR).length ≤ (l.flatMap pfR).length := by
 have : l.flatMap pfR = (l.take j).flatMap pfR ++ (l.drop j).flatMap pfR := by rw [← flatMap_append, List.take_append_drop]
 rw [this, length_append]; omega
structure PutOk (sb : Core → Str → Core → Core) (P : Core → Prop) (s : Str) (b : Core) (ps : List Core) : Prop where
 in_ : ∀ p ∈ ps, P p
 free : ∀ p ∈ ps, aY Tryz.prog 67 [.pa (aA p)] [] (bN (pfR p)) []
 far : aY Tryz.prog 67 [.pa (aA b)] [] (bN (pfR b)) []
 ren : ∀ p n z, P p → z.length ≤ 30 → P (sb p n (vC z))
 subz : ∀ p n z, P p → z.length ≤ 30 → aY Tryz.prog 25 [.pa (aA p), Go.AM.T n, .pa (aA (vC z))] [] (.pa (aA (sb p n (vC z)))) []
 subb : ∀ p, P p → aY Tryz.prog 25 [.pa (aA p), Go.AM.T s, .pa (aA b)] [] (.pa (aA (sb p s b))) []
 itoa : eD 540000000000
noncomputable def gSt (sb : Core → Str → Core → Core) (b : Core) (ns : List Str) (ps : List Core) (i : Nat) : List Str × List Core × List Str := iU sb (pfR b) (ns.take i) ([], ps, ps.flatMap pfR ++ ns ++ pfR b)
noncomputable def gNs (sb : Core → Str → Core → Core) (b : Core) (ns : List Str) (ps : List Core) (i : Nat) : List Str := (gSt sb b ns ps i).1 ++ ns.drop i
section
variable {sb : Core → Str → Core → Core} {b : Core} {ns : List Str} {ps : List Core} {i : Nat} {n : Str}
theorem gF (hi : i ≤ ns.length) : (gSt sb b ns ps i).1.length = i ∧ (gSt sb b ns ps i).2.1.length = ps.length ∧ (gSt sb b ns ps i).2.2.length ≤ (ps.flatMap pfR ++ ns ++ pfR b).length + i := by
 obtain ⟨h1, h2, h3⟩ := vZ (sb := sb) (far := pfR b) (ns := ns.take i) (st := ([], ps, ps.flatMap pfR ++ ns ++ pfR b));rw [length_take, min_eq_left hi] at h1 h3;exact ⟨by unfold gSt; simpa using h1, h2, h3⟩
theorem aJ9 (hi : i ≤ ns.length) : (gNs sb b ns ps i).length = ns.length := by
 unfold gNs;rw [length_append, (gF hi).1, length_drop]; omega
theorem aQx (h : ns[i]? = some n) : (gNs sb b ns ps i)[i]? = some n := by
 have hlt : i < ns.length := (zq6.1 h).1
 unfold gNs;rw [List.getElem?_append_right (by rw [(gF (le_of_lt hlt)).1]; exact le_refl _), (gF (le_of_lt hlt)).1, sub_self, List.getElem?_drop, add_zero, h]
theorem n9 (h : ns[i]? = some n) : gSt sb b ns ps (i + 1) = dE sb (pfR b) (gSt sb b ns ps i) n := aKb h
theorem aQw (h : ns[i]? = some n) (hf : n ∈ pfR b) : gNs sb b ns ps (i + 1) = (gNs sb b ns ps i).set i (aZ (gSt sb b ns ps i).2.2) := by
 have hlt : i < ns.length := (zq6.1 h).1
 have hl := (gF (sb := sb) (b := b) (ps := ps) (le_of_lt hlt)).1
 unfold gNs;rw [n9 h, oB h, qG hl];unfold dE;rw [if_pos hf];simp
theorem aJ8 (h : ns[i]? = some n) (hf : ¬ n ∈ pfR b) : gNs sb b ns ps (i + 1) = gNs sb b ns ps i := by
 unfold gNs;rw [n9 h, oB h];unfold dE;rw [if_neg hf];simp
theorem aEk : gNs sb b ns ps 0 = ns := by unfold gNs gSt iU; simp
theorem vX : gSt sb b ns ps 0 = ([], ps, ps.flatMap pfR ++ ns ++ pfR b) := by unfold gSt iU; simp
theorem aKa : gNs sb b ns ps ns.length = (gSt sb b ns ps ns.length).1 := by unfold gNs; simp
theorem aJ6 : gSt sb b ns ps ns.length = iU sb (pfR b) ns ([], ps, ps.flatMap pfR ++ ns ++ pfR b) := by unfold gSt; rw [take_length]
theorem aJ7 {P : Core → Prop} {s : Str} (h : PutOk sb P s b ps) : ∀ {i : Nat}, i ≤ ns.length → (gSt sb b ns ps i).2.2.length ≤ 540000000000 → (∀ j, j ≤ i → (gSt sb b ns ps j).2.2.length ≤ 540000000000) → ∀ p ∈ (gSt sb b ns ps i).2.1, P p
 | 0, _, _, _ => by rw [vX]; exact h.in_
 | i + 1, hi, _, hb => by
  obtain ⟨n, hn⟩ := aL (show i < ns.length by omega);have ih := aJ7 h (i := i) (by omega) (hb i (by omega)) fun j hj => hb j (by omega)
  rw [n9 hn];unfold dE;split
  ·intro p hp;obtain ⟨q, hq, rfl⟩ := mem_map.1 hp;exact h.ren q n _ (ih q hq) (le_trans (j5 _ (hb i (by omega))) (by omega))
  ·exact ih
end
def tkA (l : List Str) : AObj := .arr 9 1 (l.map bG) 2
def tkV (l : List Str) : V := .one (.hs 720 0 l.length l.length)
def gpV (nG pG : List R) : V := .ma [.ras nG.length 1 nG, .ras pG.length 1 pG]
theorem tHW {tys : List Ty} {nk : Nat} {ns : List Str} {ps : List Core} : GW (tH tys nk ns ps) [] := ⟨tGW (tys := tys) (nk := nk) (ns := ns) (ps := ps).tf, fun x hx => (by cases hx), rfl, rfl⟩
theorem aDh {tys : List Ty} {nk : Nat} {ns : List Str} {ps : List Core} {n : Str} {l : List C} : iE ([Go.AM.T n, .pa l] ++ List.map V.one [R.vp 3 0]) (tG tys nk ns ps ++ []) = true := by
 refine mM (tHW (tys := tys) (nk := nk) (ns := ns) (ps := ps)).tf (fun x hx => .inl ?_) tGW.refs;have : x = 3 := by simpa [V.refsL, V.refs, R.refs] using hx
 subst this;simp [tG, keys]
theorem aXq (tys : List Ty) (nk : Nat) (ns : List Str) (ps : List Core) (s : Str) (b : Core) (sb : Core → Str → Core → Core) (P : Core → Prop) (hn : ns.length = tys.length) (hp : ps.length = nk + tys.length) (hok : PutOk sb P s b ps)
  (hM : (ps.flatMap pfR).length + 2 * ns.length + (pfR b).length + ps.length ≤ 540000000000) :
  aY Tryz.prog 68 [gpV (tN tys.length) (tP nk tys.length), Go.AM.T s, .pa (aA b)] (tH tys nk ns ps ++ []) (.tup []) (tH tys nk (cK sb s b ns ps).1 (cK sb s b ns ps).2 ++ []) := by
 have hF : TF [] := tHW (tys := tys) (nk := nk) (ns := ns) (ps := ps).tf;have hpl := aPy (nk := nk) (nb := tys.length);have hnl := aVl (nb := tys.length);have hkp : ∀ ex ns' ps', ∀ x ∈ R.refsL (tP nk tys.length), Kn ex (tH tys nk ns' ps') [] x := fun ex ns' ps' x hx => by
  rcases uI x hx with rfl | rfl
  ·exact .inr (.inl (by simp [tH, keys]))
  ·exact .inr (.inl (by simp [tH, keys]))
 have hkn : ∀ ex ns' ps', ∀ x ∈ R.refsL (tN tys.length), Kn ex (tH tys nk ns' ps') [] x := fun ex ns' ps' x hx => by
  have := aHx x hx;subst this;exact .inr (.inl (by simp [tH, keys]))
 have hkg : ∀ ex ns' ps', ∀ x ∈ (grO (tN tys.length) (tP nk tys.length)).refs, Kn ex (tH tys nk ns' ps') [] x := fun ex ns' ps' x hx => by
  rcases aAs x hx with rfl | rfl
  ·exact .inr (.inl (by simp [tH, keys]))
  ·exact .inr (.inl (by simp [tH, keys]))
 have hsz1 : ∀ ps' : List Core, ps'.length = ps.length → nk = (aQ (ps'.take nk)).length := fun ps' h => by rw [bB, length_map, length_take]; omega
 have hsz2 : ∀ (ns' : List Str) (ps' : List Core), ns'.length = ns.length → ps'.length = ps.length → tys.length = (aO (mkB tys ns' (ps'.drop nk))).length := fun ns' ps' h h' => by rw [bD, length_map, qY (by omega) (by rw [length_drop]; omega)]
 have hs1 := hsz1 ps rfl;have hs2 := hsz2 ns ps rfl rfl;refine rS hF (n := 92) tok Tryz.func68 rfl rfl rfl ?_;refine a8 (ag [] rfl ?_);refine a8 (ag [] rfl ?_);refine AWp.sub (Sub.own (t := 6) (id := 720) 9 1 rfl rfl) (AWp.sub (Sub.freeze (id := 720) rfl) ?_);refine a8 (a8 (ag [] rfl ?_));refine aC ?_;refine aJ (fun j : Nat => mkt [(1, Go.AM.T s), (3, .one (.vp 3 0)), (5, .one (.vp 5 0)), (6, tkV ((ps.take j).flatMap pfR)), (17, .one (.ras (tP nk tys.length).length 1 (tP nk tys.length))), (18, I .i64 (((tP nk tys.length).length : Nat) : Int)), (19, I .i64 j)] ([(3, grO (tN tys.length) (tP nk tys.length)), (5, .var 37 (bF b)), (720, tkA ((ps.take j).flatMap pfR))] ++ tH tys nk ns ps) []) (fun j => j ≤ (tP nk tys.length).length) (fun j => (tP nk tys.length).length - j) 0 (zero_le _) ?_ ?_
 ·exact slG tHW (h1 := Kn.app Kn.nil (Kn.app (Kn.of rfl) (Kn.app (Kn.of rfl) (Kn.app (Kn.of rfl) (Kn.app (hkp _ _ _) Kn.nil))))) (h2 := ⟨hkg _ _ _, Kn.of rfl, Kn.of rfl, trivial⟩)
 ·intro j hj;refine a8 (ag [] rfl ?_);refine a8 (aB rfl (fun hb => ?_) (fun hb => ?_))
  ·have hlt : j < (tP nk tys.length).length := by
    have : (j : Int) < ((tP nk tys.length).length : Int) := zq0 hb;omega
   obtain ⟨p, hpj⟩ := aL (show j < ps.length by omega);have hf := hok.free p (zq7 hpj);have hst := aTf hpj;have hl1 := aW7 ps (j + 1);rw [hst, length_append] at hl1;have hq1 : (((ps.take j).flatMap pfR).map bG).length = ((ps.take j).flatMap pfR).length := length_map _;have hq2 : ((pfR p).map bG).length = (pfR p).length := length_map _;generalize (ps.take j).flatMap pfR = q at hst hl1 hq1 ⊢;refine aD ?_;by_cases hjk : j < nk
   ·have ht1 := aP0 (nb := tys.length) hjk;have hrow : (aQ (ps.take nk))[j]? = some (aA p) := aXa (by rw [List.getElem?_take, if_pos hjk, hpj]);refine a8 (aC (a8 (ag [(0, .rowR j [.ep 702 j 0 nk])] rfl ?_)));refine aF mixed ?_;refine ak 4 [(3, .row j (aA p))] rfl ?_;refine kc hf ?_;refine ak 2 [] rfl ?_;refine az ?_;refine AWp.sub (Sub.freeze (id := 720) rfl) ?_;refine ag [] rfl ?_;refine ⟨j + 1, hlt, by dsimp only; omega, ?_⟩;dsimp only;rw [hst];exact slG tHW (h1 := Kn.app Kn.nil (Kn.app (Kn.of rfl) (Kn.app (Kn.of rfl) (Kn.app (Kn.of rfl) (Kn.app (hkp _ _ _) Kn.nil))))) (h2 := ⟨hkg _ _ _, Kn.of rfl, Kn.of rfl, trivial⟩) (he := ⟨rfl, rfl, rfl, Go.AM.hs_ren (by simp) (by simp), congrArg some (V.ren_id _).symm, rfl, rfl, trivial⟩) (hh := ⟨⟨_, rfl, .varS rfl⟩, ⟨_, rfl, .varS rfl⟩, ⟨_, rfl, .arrS (by simp)⟩, ⟨_, rfl, .arr⟩, ⟨_, rfl, .arr⟩, trivial⟩)
   ·obtain ⟨j', rfl⟩ : ∃ j', j = nk + j' := ⟨j - nk, by omega⟩
    have hjb : j' < tys.length := by omega
    obtain ⟨t, ht⟩ := aL hjb;obtain ⟨n, hnn⟩ := aL (show j' < ns.length by omega);have hd : (ps.drop nk)[j']? = some p := by rw [List.getElem?_drop]; exact hpj
    have ht1 := aPz (nk := nk) hjb;have hrow : (aO (mkB tys ns (ps.drop nk)))[j']? = some (bA (.mk n t p)) := cB (sP ht hnn hd);refine a8 (aC (a8 (ag [(0, .rowR (nk + j') [.ep 701 j' 5 tys.length])] rfl ?_)));refine aF mixed ?_;refine ak 4 [(3, .row j' (bA (.mk n t p)))] rfl ?_;refine kc hf ?_;refine ak 2 [] rfl ?_;refine az ?_;refine AWp.sub (Sub.freeze (id := 720) rfl) ?_;refine ag [] rfl ?_;refine ⟨nk + j' + 1, hlt, by dsimp only; omega, ?_⟩;dsimp only;rw [hst];exact slG tHW (h1 := Kn.app Kn.nil (Kn.app (Kn.of rfl) (Kn.app (Kn.of rfl) (Kn.app (Kn.of rfl) (Kn.app (hkp _ _ _) Kn.nil))))) (h2 := ⟨hkg _ _ _, Kn.of rfl, Kn.of rfl, trivial⟩) (he := ⟨rfl, rfl, rfl, Go.AM.hs_ren (by simp) (by simp), congrArg some (V.ren_id _).symm, rfl, rfl, trivial⟩) (hh := ⟨⟨_, rfl, .varS rfl⟩, ⟨_, rfl, .varS rfl⟩, ⟨_, rfl, .arrS (by simp)⟩, ⟨_, rfl, .arr⟩, ⟨_, rfl, .arr⟩, trivial⟩)
  have hge : j = ps.length := by
   have : ¬ (j : Int) < ((tP nk tys.length).length : Int) := zq1 hb;omega
  subst hge;rw [take_length];refine aK ?_;have hct := bU (ps.flatMap pfR) s (by omega);refine a8 (a8 (aF mixed ?_));refine ak 2 [] rfl ?_;refine kc hct ?_;refine ak 1 [] rfl ?_;refine az ?_;refine aB rfl (fun hb => ?_) (fun hb => ?_)
  ·have hno : ¬ s ∈ ps.flatMap pfR := by
    intro h;have hb : (!decide (s ∈ ps.flatMap pfR)) = true := hb;rw [decide_eq_true h] at hb; cases hb
   have he : cK sb s b ns ps = (ns, ps) := by unfold cK; rw [if_neg fun h => hno h.1]
   rw [he];exact aE ⟨.inr rfl, aBp hF (by repeat (first | exact FarEq.raw hF | (refine FarEq.updL hF ?_) | (refine FarEq.upd hF ?_))) ⟨[], [], .nil, .nil, rfl⟩ (fun _ h => by cases h) tHW.refs (fun i hi => GW.kf i hi) (fun p hp => by rcases mem_append.1 hp with hp | hp; exact (all_eq_true.1 (tHW (tys := tys) (nk := nk) (ns := ns) (ps := ps)).plain) p hp; cases hp)⟩
  have hin : s ∈ ps.flatMap pfR := by
   have hb : (!decide (s ∈ ps.flatMap pfR)) = false := hb;by_cases h : s ∈ ps.flatMap pfR
   ·exact h
   ·rw [decide_eq_false h] at hb; cases hb
  refine aD ?_;refine a8 (a8 (ag [] rfl ?_));refine aC ?_;refine aJ (fun j : Nat => mkt [(1, Go.AM.T s), (3, .one (.vp 3 0)), (5, .one (.vp 5 0)), (6, tkV (ps.flatMap pfR ++ ns.take j)), (35, .one (.ras (tN tys.length).length 1 (tN tys.length))), (36, I .i64 (((tN tys.length).length : Nat) : Int)), (37, I .i64 j)] ([(3, grO (tN tys.length) (tP nk tys.length)), (5, .var 37 (bF b)), (720, tkA (ps.flatMap pfR ++ ns.take j))] ++ tH tys nk ns ps) []) (fun j => j ≤ (tN tys.length).length ∧ ¬ s ∈ ns.take j) (fun j => (tN tys.length).length - j) 0 ⟨zero_le _, by simp⟩ ?_ ?_
  ·exact slG tHW (h1 := Kn.app Kn.nil (Kn.app (Kn.of rfl) (Kn.app (Kn.of rfl) (Kn.app (Kn.of rfl) (Kn.app (hkn _ _ _) Kn.nil))))) (h2 := ⟨hkg _ _ _, Kn.of rfl, Kn.of rfl, trivial⟩) (he := ⟨rfl, rfl, rfl, Go.AM.hs_ren (by simp) (by simp), congrArg some (V.ren_id _).symm, rfl, rfl, trivial⟩) (hh := ⟨⟨_, rfl, .varS rfl⟩, ⟨_, rfl, .varS rfl⟩, ⟨_, rfl, .arrS (by simp)⟩, ⟨_, rfl, .arr⟩, ⟨_, rfl, .arr⟩, trivial⟩)
  rintro j ⟨hj, hnos⟩;refine a8 (ag [] rfl ?_);refine a8 (aB rfl (fun hb => ?_) (fun hb => ?_))
  ·have hlt : j < (tN tys.length).length := by
    have : (j : Int) < ((tN tys.length).length : Int) := zq0 hb;omega
   have hjb : j < tys.length := by omega
   obtain ⟨t, ht⟩ := aL hjb;obtain ⟨n, hnn⟩ := aL (show j < ns.length by omega);obtain ⟨p, hpj⟩ := aL (show nk + j < ps.length by omega);have hd : (ps.drop nk)[j]? = some p := by rw [List.getElem?_drop]; exact hpj
   have ht1 := aVm hjb;have hrow : (aO (mkB tys ns (ps.drop nk)))[j]? = some (bA (.mk n t p)) := cB (sP ht hnn hd);have hstp : ns.take (j + 1) = ns.take j ++ [n] := by rw [take_add_one, hnn]; rfl
   have hq1 : ((ps.flatMap pfR ++ ns.take j).map bG).length = (ps.flatMap pfR ++ ns.take j).length := length_map _;have hql : (ps.flatMap pfR ++ ns.take j).length ≤ 540000000000 := by rw [length_append, length_take]; omega
   refine aD ?_;refine a8 (aC (a8 (ag [(0, .rowR j [.ep 701 j 0 tys.length])] rfl ?_)));refine a8 (a8 (ag [(2, .row j (bA (.mk n t p)))] rfl ?_));refine aB rfl (fun hb => ?_) (fun hb => ?_)
   ·have hns : n = s := zq0 hb;have he : cK sb s b ns ps = (ns, ps) := by
     unfold cK;rw [if_neg fun h => h.2 (hns ▸ zq7 hnn)]
    rw [he];exact aE ⟨.inr rfl, aBp hF (by repeat (first | exact FarEq.raw hF | (refine FarEq.updL hF ?_) | (refine FarEq.upd hF ?_))) ⟨[], [], .nil, .nil, rfl⟩ (fun _ h => by cases h) tHW.refs (fun i hi => GW.kf i hi) (fun p hp => by rcases mem_append.1 hp with hp | hp; exact (all_eq_true.1 (tHW (tys := tys) (nk := nk) (ns := ns) (ps := ps)).plain) p hp; cases hp)⟩
   have hns : ¬ n = s := zq1 hb;refine aD ?_;generalize ps.flatMap pfR = fm at *;rw [show fm ++ ns.take j = fm ++ ns.take j from rfl];generalize hq : fm ++ ns.take j = q at *;refine ag [(3, .row j (bA (.mk n t p)))] rfl ?_;refine AWp.sub (Sub.freeze (id := 720) rfl) ?_;refine ag [] rfl ?_;refine ⟨j + 1, ⟨hlt, ?_⟩, by dsimp only; omega, ?_⟩
   ·rw [hstp];intro h;rcases mem_append.1 h with h | h
    ·exact hnos h
    ·exact hns (mem_singleton.1 h).symm
   dsimp only;rw [hstp, ← append_assoc, hq];exact slG tHW (h1 := Kn.app Kn.nil (Kn.app (Kn.of rfl) (Kn.app (Kn.of rfl) (Kn.app (Kn.of rfl) (Kn.app (hkn _ _ _) Kn.nil))))) (h2 := ⟨hkg _ _ _, Kn.of rfl, Kn.of rfl, trivial⟩) (he := ⟨rfl, rfl, rfl, Go.AM.hs_ren (by simp) (by simp), congrArg some (V.ren_id _).symm, rfl, rfl, trivial⟩) (hh := ⟨⟨_, rfl, .varS rfl⟩, ⟨_, rfl, .varS rfl⟩, ⟨_, rfl, .arrS (by simp [bG, Bind.name])⟩, ⟨_, rfl, .arr⟩, ⟨_, rfl, .arr⟩, trivial⟩)
  have hge : j = ns.length := by
   have : ¬ (j : Int) < ((tN tys.length).length : Int) := zq1 hb;omega
  subst hge;rw [take_length] at hnos ⊢;have hput : cK sb s b ns ps = ((gSt sb b ns ps ns.length).1, (gSt sb b ns ps ns.length).2.1.map fun p => sb p s b) := by
   unfold cK;rw [if_pos ⟨hin, hnos⟩, aJ6]
  have hql : (ps.flatMap pfR ++ ns).length ≤ 540000000000 := by rw [length_append]; omega
  have hq1 : ((ps.flatMap pfR ++ ns).map bG).length = (ps.flatMap pfR ++ ns).length := length_map _;have hq2 : ((pfR b).map bG).length = (pfR b).length := length_map _;have hfar := hok.far;refine aK ?_;refine a8 (aF mixed ?_);refine ak 1 [] rfl ?_;refine kc hfar ?_;refine ak 1 [] rfl ?_;refine az ?_;have hlq : (ps.flatMap pfR ++ ns).length + (pfR b).length ≤ 540000000000 := by rw [length_append]; omega
  refine a8 (ag [] rfl ?_);refine AWp.sub (Sub.freeze (id := 720) rfl) ?_;refine a8 (ag [] rfl ?_);refine a8 (a8 (ag [] rfl ?_));refine aC ?_;have hall : ∀ i, i ≤ ns.length → (gSt sb b ns ps i).2.2.length ≤ 540000000000 := fun i hi => by
   have h1 := (gF (sb := sb) (b := b) (ps := ps) hi).2.2
   simp only [length_append] at h1;omega
  refine aJ (fun i : Nat => mkt [(1, Go.AM.T s), (5, .one (.vp 5 0)), (6, tkV (gSt sb b ns ps i).2.2), (11, bN (pfR b)), (12, .one (.clo 131 [.vp 3 0])), (60, .one (.ras (tN tys.length).length 1 (tN tys.length))), (61, I .i64 (((tN tys.length).length : Nat) : Int)), (62, I .i64 i)] ([(3, grO (tN tys.length) (tP nk tys.length)), (5, .var 37 (bF b)), (720, tkA (gSt sb b ns ps i).2.2)] ++ tH tys nk (gNs sb b ns ps i) (gSt sb b ns ps i).2.1) []) (fun i => i ≤ (tN tys.length).length) (fun i => (tN tys.length).length - i) 0 (zero_le _) ?_ ?_
  ·rw [vX, aEk];exact slG tHW (h1 := Kn.app Kn.nil (Kn.app (Kn.of rfl) (Kn.app (Kn.of rfl) (Kn.app Kn.nil (Kn.app (Kn.of rfl) (Kn.app (hkn _ _ _) Kn.nil)))))) (h2 := ⟨hkg _ _ _, Kn.of rfl, Kn.of rfl, trivial⟩) (he := ⟨rfl, rfl, Go.AM.hs_ren (by simp only [length_append, length_map]) (by simp only [length_append, length_map]), rfl, rfl, congrArg some (V.ren_id _).symm, rfl, rfl, trivial⟩) (hh := ⟨⟨_, rfl, .varS rfl⟩, ⟨_, rfl, .varS rfl⟩, ⟨_, rfl, .arrS (by simp)⟩, ⟨_, rfl, .arr⟩, ⟨_, rfl, .arr⟩, trivial⟩)
  intro i hi;have hle : i ≤ ns.length := by omega
  refine a8 (ag [] rfl ?_);refine a8 (aB rfl (fun hb => ?_) (fun hb => ?_))
  ·have hlt : i < (tN tys.length).length := by
    have : (i : Int) < ((tN tys.length).length : Int) := zq0 hb;omega
   have hjb : i < tys.length := by omega
   obtain ⟨t, ht⟩ := aL hjb;obtain ⟨n, hnn⟩ := aL (show i < ns.length by omega);obtain ⟨hg1, hg2, hg3⟩ := gF (sb := sb) (b := b) (ps := ps) hle;have hgl := aJ9 (sb := sb) (b := b) (ps := ps) hle;have hga := aQx (sb := sb) (b := b) (ps := ps) hnn;have hP := aJ7 hok hle (hall i hle) (fun j hj => hall j (by omega));have hs3 := hsz1 _ hg2;have hs4 := hsz2 _ _ hgl hg2;have hsucc := n9 (sb := sb) (b := b) (ps := ps) hnn;have hnin := aQw (sb := sb) (b := b) (ps := ps) hnn;have hnout := aJ8 (sb := sb) (b := b) (ps := ps) hnn;have hall0 := hall i hle;have ht1 := aVm hjb;have hcf := bU (pfR b) n (by omega);have hcr := wI (gSt sb b ns ps i).2.2 (by omega) fun k hk => hok.itoa k (by omega)
   generalize gSt sb b ns ps i = G at *;generalize gNs sb b ns ps i = N at *;obtain ⟨d0, qs, tk⟩ := G;dsimp only at *;obtain ⟨p, hpj⟩ := aL (show nk + i < qs.length by omega);have hd : (qs.drop nk)[i]? = some p := by rw [List.getElem?_drop]; exact hpj
   have hrow : (aO (mkB tys N (qs.drop nk)))[i]? = some (bA (.mk n t p)) := cB (sP ht hga hd);refine aD ?_;refine a8 (aC (a8 (ag [(0, .rowR i [.ep 701 i 0 tys.length])] rfl ?_)));refine a8 (aF mixed ?_);refine ak 4 [(3, .row i (bA (.mk n t p)))] rfl ?_;refine kc hcf ?_;refine az ?_;refine aB rfl (fun hb => ?_) (fun hb => ?_)
   ·have hmem : n ∈ pfR b := zq0 hb;have hnin := hnin hmem;unfold dE at hsucc;rw [if_pos hmem] at hsucc;dsimp only at hsucc;have hz : (aZ tk).length ≤ 30 := le_trans (j5 _ hall0) (by omega);have hca := aRk tys nk N qs n (vC (aZ tk)) (fun p => sb p n (vC (aZ tk))) (by omega) (by omega) (by omega) fun p hp => hok.subz p n _ (hP p hp) hz
    have hcv := wJ (aZ tk);have hqt : (tk.map bG).length = tk.length := length_map _;generalize aZ tk = z at *;refine a8 (aF mixed ?_);refine ak 1 [] rfl ?_;refine kc hcr ?_;refine ak 1 [] rfl ?_;refine az ?_;refine a8 (ag [] rfl ?_);refine AWp.sub (Sub.freeze (id := 720) rfl) ?_;refine a8 (aF mixed ?_);refine ak 5 [(3, .row i (bA (.mk n t p)))] rfl ?_;refine kc hcv ?_;refine kv (caps := [.vp 3 0]) (args := [Go.AM.T n, .pa (aA (vC z))]) hca ?_ (hok := aDh);refine az ?_;have hml : (qs.map fun p => sb p n (vC z)).length = ps.length := by rw [length_map]; exact hg2
    have hd2 : ((qs.map fun p => sb p n (vC z)).drop nk)[i]? = some (sb p n (vC z)) := by rw [List.getElem?_drop, List.getElem?_map, hpj]; rfl
    have hrow2 : (aO (mkB tys N ((qs.map fun p => sb p n (vC z)).drop nk)))[i]? = some (bA (.mk n t (sb p n (vC z)))) := cB (sP ht hga hd2);have hs5 := hsz1 _ hml;have hs6 := hsz2 _ _ hgl hml;refine ag [(3, .row i (bA (.mk n t (sb p n (vC z)))))] rfl ?_;refine ag [] rfl ?_;refine ⟨i + 1, hlt, by dsimp only; omega, ?_⟩;dsimp only;rw [hsucc, hnin];dsimp only;refine slG tHW (fun i hi => GW.kf i hi) (h1 := Kn.app Kn.nil (Kn.app (Kn.of rfl) (Kn.app (Kn.of rfl) (Kn.app Kn.nil (Kn.app (Kn.of rfl) (Kn.app (hkn _ _ _) Kn.nil)))))) (h2 := ⟨hkg _ _ _, Kn.of rfl, Kn.of rfl, trivial⟩) (he := ⟨rfl, rfl, Go.AM.hs_ren (by simp) (by simp), rfl, rfl, congrArg some (V.ren_id _).symm, rfl, rfl, trivial⟩) (hh := ⟨⟨_, rfl, .varS rfl⟩, ⟨_, rfl, .varS rfl⟩, ⟨_, rfl, .arrS (by simp [bG])⟩, ⟨_, rfl, .arrS ?_⟩, ⟨_, rfl, .arr⟩, trivial⟩);rw [← aD7 z ht hd2 (by omega), ← iP];rfl
   ·have hmem : ¬ n ∈ pfR b := zq1 hb;unfold dE at hsucc;rw [if_neg hmem] at hsucc;dsimp only at hsucc;refine aD ?_;refine ag [] rfl ?_;refine ⟨i + 1, hlt, by dsimp only; omega, ?_⟩;dsimp only;rw [hsucc, hnout hmem];exact slG tHW (fun i hi => GW.kf i hi) (h1 := Kn.app Kn.nil (Kn.app (Kn.of rfl) (Kn.app (Kn.of rfl) (Kn.app Kn.nil (Kn.app (Kn.of rfl) (Kn.app (hkn _ _ _) Kn.nil)))))) (h2 := ⟨hkg _ _ _, Kn.of rfl, Kn.of rfl, trivial⟩)
  have hge : i = ns.length := by
   have : ¬ (i : Int) < ((tN tys.length).length : Int) := zq1 hb;omega
  subst hge;have hP := aJ7 hok (le_refl ns.length) (hall _ (le_refl _)) (fun j hj => hall j hj);obtain ⟨hg1, hg2, _⟩ := gF (sb := sb) (b := b) (ps := ps) (le_refl ns.length);rw [hput];rw [aKa];generalize gSt sb b ns ps ns.length = G at *;obtain ⟨N, qs, tk⟩ := G;dsimp only at *;have hca := aRk tys nk N qs s b (fun p => sb p s b) (by omega) (by omega) (by omega) fun p hp => hok.subb p (hP p hp)
  refine aK ?_;refine aF mixed ?_;refine ak 3 [] rfl ?_;refine kv (caps := [.vp 3 0]) (args := [Go.AM.T s, .pa (aA b)]) hca ?_ (hok := aDh);refine az ?_;exact ⟨.inl rfl, aBp hF (FarEq.outs hF) ⟨[], [], .nil, .nil, rfl⟩ (fun _ h => by cases h) tHW.refs (fun i hi => GW.kf i hi) (fun p hp => by rcases mem_append.1 hp with hp | hp; exact (all_eq_true.1 (tHW (tys := tys) (nk := nk) (ns := ns) (ps := ps)).plain) p hp; cases hp)⟩
def aDn (af an : Int) (anm : Str) (nv : Nat) (p : Core) : List R := [.c (.int .i64 af), .c (.int .i64 an), .c (.str anm), .hs 704 0 nv nv] ++ (aA p).map R.c
def aH (rs : List (List R)) (k : Nat) (af an : Int) (anm : Str) (nv : Nat) (ns : List Str) (p : Core) : List (Nat × AObj) := [(703, .rarr 78 14 (rs.set k (aDn af an anm nv p))), (704, .arr 9 1 (ns.map bG) 0)]
def aN (nv : Nat) : List R := (rgR (fun j => [.ep 704 j 0 nv]) nv).flatten
def aP (k na : Nat) : List R := [.rp 703 k 4 na]
theorem aRs {nv : Nat} : (aN nv).length = nv := by
 unfold aN;rw [lE (qJ fun _ => rfl), fN, mul_one]
theorem aYg {nv j : Nat} (h : j < nv) : ((aN nv).drop (j * 1)).take 1 = [.ep 704 j 0 nv] := dU (qJ fun _ => rfl) j _ (aDo h)
theorem aL7 {nv : Nat} : ∀ x ∈ R.refsL (aN nv), x = 704 := fun x hx => by
 unfold aN at hx;rw [cP] at hx;exact l6 (L := fun x => x = 704) (fun j x hx => by simpa [R.refsL, R.refs] using hx) _ x hx
theorem aB9 {k na nv : Nat} : ∀ x ∈ (grO (aN nv) (aP k na)).refs, x = 703 ∨ x = 704 := fun x hx => by
 have hx : x ∈ R.refsL (aN nv) ++ (R.refsL (aP k na) ++ []) := hx;rw [append_nil] at hx;rcases mem_append.1 hx with hx | hx
 ·exact .inr (aL7 x hx)
 ·exact .inl (by simpa [aP, R.refsL, R.refs] using hx)
theorem xM {x : Nat} : ∀ {rs : List (List R)} {k : Nat} {r : List R}, x ∈ bX (rs.set k r) → x ∈ bX rs ∨ x ∈ R.refsL r
 | [], _, _, h => .inl h
 | q :: rs, 0, r, h => by
  rcases mem_append.1 (show x ∈ R.refsL r ++ bX rs from h) with h | h
  ·exact .inr h
  ·exact .inl (mem_append.2 (.inr h))
 | q :: rs, k + 1, r, h => by
  rcases mem_append.1 (show x ∈ R.refsL q ++ bX (rs.set k r) from h) with h | h
  ·exact .inl (mem_append.2 (.inl h))
  ·exact (xM h).imp (fun h => mem_append.2 (.inr h)) id
theorem aIb {af an : Int} {anm : Str} {nv : Nat} {p : Core} {x : Nat} (h : x ∈ R.refsL (aDn af an anm nv p)) : x = 704 := by
 unfold aDn aA at h;simpa [R.refsL, R.refs] using h
abbrev aG (rs : List (List R)) (k : Nat) (af an : Int) (anm : Str) (nv : Nat) (ns : List Str) (p : Core) : List (Nat × AObj) := (3, grO (aN nv) (aP k rs.length)) :: aH rs k af an anm nv ns p
section
variable {rs : List (List R)} {k : Nat} {af an : Int} {anm : Str} {nv : Nat} {ns : List Str} {p : Core} {F : List (Nat × AObj)}
theorem aHW (hF : TF F) (hr : ∀ x ∈ bX rs, x ∈ keys F) : GW (aH rs k af an anm nv ns p) F := ⟨hF, fun x hx => by
 have hx : x ∈ bX (rs.set k (aDn af an anm nv p)) ++ [] := hx;rw [append_nil] at hx;rcases xM hx with h | h
 ·exact .inr (hr x h)
 ·rw [aIb h]; exact .inl (by simp [aH, keys]), rfl, rfl⟩
theorem aGW (hF : TF F) (hr : ∀ x ∈ bX rs, x ∈ keys F) : GW (aG rs k af an anm nv ns p) F := ⟨hF, fun x hx => by
 rcases mem_append.1 (show x ∈ (grO (aN nv) (aP k rs.length)).refs ++ cQ (aH rs k af an anm nv ns p) from hx) with hx | hx
 ·rcases aB9 x hx with rfl | rfl
  ·exact .inl (by simp [aG, aH, keys])
  ·exact .inl (by simp [aG, aH, keys])
 ·exact ((aHW hF hr).refs x hx).imp (fun h => zq3 _ h) id, rfl, rfl⟩
end
theorem aVt {rs : List (List R)} {k : Nat} {r r' : List R} : (rs.set k r).set k r' = rs.set k r' := List.set_set ..
theorem aRl (rs : List (List R)) (k : Nat) (af an : Int) (anm : Str) (nv : Nat) (ns : List Str) (p : Core) (F : List (Nat × AObj)) (nm : Str) (b : Core) (sb : Core → Core) (hF : TF F) (hr : ∀ x ∈ bX rs, x ∈ keys F) (hk : k < rs.length)
  (hc : aY Tryz.prog 25 [.pa (aA p), Go.AM.T nm, .pa (aA b)] [] (.pa (aA (sb p))) []) :
  aY Tryz.prog 131 [Go.AM.T nm, .pa (aA b), .one (.vp 3 0)] (aG rs k af an anm nv ns p ++ F) (.tup []) (aG rs k af an anm nv ns (sb p) ++ F) := by
 have W : ∀ p, GW (aG rs k af an anm nv ns p) F := fun p => aGW hF hr
 have hsz : rs.length = (rs.set k (aDn af an anm nv p)).length := (length_set ..).symm;have hrow : (rs.set k (aDn af an anm nv p))[k]? = some (aDn af an anm nv p) := List.getElem?_set_self hk;refine rS hF (n := 23) tok Tryz.func131 rfl rfl rfl ?_;refine a8 (ag [] rfl ?_);refine a8 (ag [] rfl ?_);refine aC ?_;refine aJ (fun j : Nat => mkt [(0, Go.AM.T nm), (2, .one (.vp 3 0)), (4, .one (.vp 4 0)), (8, .one (.ras 1 1 (aP k rs.length))), (9, I .i64 ((1 : Nat) : Int)), (10, I .i64 j)] ([(4, .var 37 (bF b))] ++ aG rs k af an anm nv ns (if j = 0 then p else sb p)) F) (fun j => j ≤ 1) (fun j => 1 - j) 0 (zero_le _) ?_ ?_
 ·exact slG (W _)
 intro j hj;refine a8 (ag [] rfl ?_);refine a8 (aB rfl (fun hb => ?_) (fun hb => ?_))
 ·have hj0 : j = 0 := by
   have : (j : Int) < ((1 : Nat) : Int) := zq0 hb;omega
  subst hj0;rw [if_pos rfl];refine aD ?_;refine a8 (aC (a8 (ag [] rfl ?_)));refine aF mixed ?_;refine ak 6 [(3, .rr (aDn af an anm nv p))] rfl ?_;refine kc hc ?_;refine ak 2 [(8, .rr (aDn af an anm nv p))] rfl ?_;refine az ?_;refine ag [] rfl ?_;refine ⟨1, le_refl _, by dsimp only; omega, ?_⟩;dsimp only;rw [if_neg (by decide)];exact slG (W _) (fun i hi => GW.kf i hi) (hh := ⟨⟨_, rfl, .varS rfl⟩, ⟨_, rfl, .varS rfl⟩, ⟨_, rfl, .rarrS aVt⟩, ⟨_, rfl, .arr⟩, trivial⟩)
 have hge : j = 1 := by
  have : ¬ (j : Int) < ((1 : Nat) : Int) := zq1 hb;omega
 subst hge;rw [if_neg (by decide)];refine aK ?_;exact ⟨.inl rfl, aBp hF (by repeat (first | exact FarEq.raw hF | (refine FarEq.updL hF ?_) | (refine FarEq.upd hF ?_))) ⟨[], [], .nil, .nil, rfl⟩ (fun _ h => by cases h) (W _).refs (fun i hi => GW.kf i hi) (fun q hq => by rcases mem_append.1 hq with hq | hq; exact (all_eq_true.1 (W p).plain) q hq; exact (hF.ok q hq).2)⟩
theorem aFh {rs : List (List R)} {k : Nat} {af an : Int} {anm : Str} {nv : Nat} {ns : List Str} {p : Core} {F : List (Nat × AObj)} (hF : TF F) (hr : ∀ x ∈ bX rs, x ∈ keys F) {n : Str} {l : List C} : iE ([Go.AM.T n, .pa l] ++ List.map V.one [R.vp 3 0]) (aG rs k af an anm nv ns p ++ F) = true := by
 refine mM hF (fun x hx => .inl ?_) (aGW hF hr).refs;have : x = 3 := by simpa [V.refsL, V.refs, R.refs] using hx
 subst this;simp [aG, keys]
theorem aYf {rs : List (List R)} {k : Nat} {af an : Int} {anm : Str} {nv : Nat} {ns ns' : List Str} {p p' : Core} {F : List (Nat × AObj)} {h : cF} : dP (fun q => q.1 ∈ keys (aG rs k af an anm nv ns p ++ F) ∨ h q.1 = none) (aG rs k af an anm nv ns' p' ++ F) := dP.of fun q hq => .inl (by
 have h1 : q.1 ∈ keys (aG rs k af an anm nv ns' p' ++ F) := mem_map.2 ⟨q, hq, rfl⟩
 exact h1)
theorem aXs (rs : List (List R)) (k : Nat) (af an : Int) (anm : Str) (nv : Nat) (ns : List Str) (p : Core) (F : List (Nat × AObj)) (s : Str) (b : Core) (sb : Core → Str → Core → Core) (P : Core → Prop) (hF : TF F) (hr : ∀ x ∈ bX rs, x ∈ keys F) (hk : k < rs.length) (hn : ns.length = nv) (hok : PutOk sb P s b [p])
  (hM : (pfR p).length + 2 * ns.length + (pfR b).length + 1 ≤ 540000000000) :
  ∃ q, (cK sb s b ns [p]).2 = [q] ∧ aY Tryz.prog 68 [gpV (aN nv) (aP k rs.length), Go.AM.T s, .pa (aA b)] (aH rs k af an anm nv ns p ++ F) (.tup []) (aH rs k af an anm nv (cK sb s b ns [p]).1 q ++ F) := by
 have hln := (pF (sb := sb) (s := s) (b := b) (ns := ns) (ps := [p])).2
 obtain ⟨q, hq⟩ : ∃ q, (cK sb s b ns [p]).2 = [q] := length_eq_one_iff.1 hln;refine ⟨q, hq, ?_⟩;have hnl := aRs (nv := nv);have W : ∀ ns p, GW (aH rs k af an anm nv ns p) F := fun _ _ => aHW hF hr
 have hkn : ∀ ex ns' p', ∀ x ∈ R.refsL (aN nv), Kn ex (aH rs k af an anm nv ns' p') F x := fun ex ns' p' x hx => by
  have := aL7 x hx;subst this;exact .inr (.inl (by simp [aH, keys]))
 have hkg : ∀ ex ns' p', ∀ x ∈ (grO (aN nv) (aP k rs.length)).refs, Kn ex (aH rs k af an anm nv ns' p') F x := fun ex ns' p' x hx => by
  rcases aB9 x hx with rfl | rfl
  ·exact .inr (.inl (by simp [aH, keys]))
  ·exact .inr (.inl (by simp [aH, keys]))
 have hsz : ∀ p, rs.length = (rs.set k (aDn af an anm nv p)).length := fun p => (length_set ..).symm
 have hrow : ∀ p, (rs.set k (aDn af an anm nv p))[k]? = some (aDn af an anm nv p) := fun p => List.getElem?_set_self hk
 have hszp := hsz p;have hrowp := hrow p;have hfl : ([p] : List Core).flatMap pfR = pfR p := by simp
 have hkl : nv = (ns.map bG).length := by rw [length_map]; exact hn.symm
 have hf := hok.free p (by simp);have hq0 : ((pfR p).map bG).length = (pfR p).length := length_map _;refine rS hF (n := 92) tok Tryz.func68 rfl rfl rfl ?_;refine a8 (ag [] rfl ?_);refine a8 (ag [] rfl ?_);refine AWp.sub (Sub.own (t := 6) (id := 720) 9 1 rfl rfl) (AWp.sub (Sub.freeze (id := 720) rfl) ?_);refine a8 (a8 (ag [] rfl ?_));refine aC ?_;refine aJ (fun j : Nat => mkt [(1, Go.AM.T s), (3, .one (.vp 3 0)), (5, .one (.vp 5 0)), (6, tkV (if j = 0 then [] else pfR p)), (17, .one (.ras 1 1 (aP k rs.length))), (18, I .i64 ((1 : Nat) : Int)), (19, I .i64 j)] ([(3, grO (aN nv) (aP k rs.length)), (5, .var 37 (bF b)), (720, tkA (if j = 0 then [] else pfR p))] ++ aH rs k af an anm nv ns p) F) (fun j => j ≤ 1) (fun j => 1 - j) 0 (zero_le _) ?_ ?_
 ·exact slG (W _ _) (h2 := ⟨hkg _ _ _, Kn.of rfl, Kn.of rfl, trivial⟩)
 ·intro j hj;refine a8 (ag [] rfl ?_);refine a8 (aB rfl (fun hb => ?_) (fun hb => ?_))
  ·have hj0 : j = 0 := by
    have : (j : Int) < ((1 : Nat) : Int) := zq0 hb;omega
   subst hj0;rw [if_pos rfl];refine aD ?_;refine a8 (aC (a8 (ag [] rfl ?_)));refine aF mixed ?_;refine ak 4 [(3, .rr (aDn af an anm nv p))] rfl ?_;refine kc hf ?_;refine ak 2 [] rfl ?_;refine az ?_;refine AWp.sub (Sub.freeze (id := 720) rfl) ?_;refine ag [] rfl ?_;refine ⟨1, le_refl _, by dsimp only; omega, ?_⟩;dsimp only;rw [if_neg (by decide)];exact slG (W _ _) (h2 := ⟨hkg _ _ _, Kn.of rfl, Kn.of rfl, trivial⟩) (he := ⟨rfl, rfl, rfl, Go.AM.hs_ren (by simp) (by simp), rfl, rfl, rfl, trivial⟩) (hh := ⟨⟨_, rfl, .varS rfl⟩, ⟨_, rfl, .varS rfl⟩, ⟨_, rfl, .arrS (by simp)⟩, ⟨_, rfl, .rarrS rfl⟩, ⟨_, rfl, .arr⟩, trivial⟩)
  have hge : j = 1 := by
   have : ¬ (j : Int) < ((1 : Nat) : Int) := zq1 hb;omega
  subst hge;rw [if_neg (by decide)];refine aK ?_;have hct := bU (pfR p) s (by omega);refine a8 (a8 (aF mixed ?_));refine ak 2 [] rfl ?_;refine kc hct ?_;refine ak 1 [] rfl ?_;refine az ?_;refine aB rfl (fun hb => ?_) (fun hb => ?_)
  ·have hno : ¬ s ∈ pfR p := by
    intro h;have hb : (!decide (s ∈ pfR p)) = true := hb;rw [decide_eq_true h] at hb; cases hb
   have he : cK sb s b ns [p] = (ns, [p]) := by unfold cK; rw [if_neg fun h => hno (by have := h.1; rwa [hfl] at this)]
   have hqp : q = p := by rw [he] at hq; exact (List.singleton_inj.1 hq).symm
   rw [he, hqp];exact aE ⟨.inr rfl, aBp hF (by repeat (first | exact FarEq.raw hF | (refine FarEq.updL hF ?_) | (refine FarEq.upd hF ?_))) ⟨[], [], .nil, .nil, rfl⟩ (fun _ h => by cases h) (W _ _).refs (fun i hi => GW.kf i hi) (fun q hq => by rcases mem_append.1 hq with hq | hq; exact (all_eq_true.1 (W ns p).plain) q hq; exact (hF.ok q hq).2)⟩
  have hin : s ∈ pfR p := by
   have hb : (!decide (s ∈ pfR p)) = false := hb;by_cases h : s ∈ pfR p
   ·exact h
   ·rw [decide_eq_false h] at hb; cases hb
  refine aD ?_;refine a8 (a8 (ag [] rfl ?_));refine aC ?_;refine aJ (fun j : Nat => mkt [(1, Go.AM.T s), (3, .one (.vp 3 0)), (5, .one (.vp 5 0)), (6, tkV (pfR p ++ ns.take j)), (35, .one (.ras (aN nv).length 1 (aN nv))), (36, I .i64 (((aN nv).length : Nat) : Int)), (37, I .i64 j)] ([(3, grO (aN nv) (aP k rs.length)), (5, .var 37 (bF b)), (720, tkA (pfR p ++ ns.take j))] ++ aH rs k af an anm nv ns p) F) (fun j => j ≤ (aN nv).length ∧ ¬ s ∈ ns.take j) (fun j => (aN nv).length - j) 0 ⟨zero_le _, by simp⟩ ?_ ?_
  ·exact slG (W _ _) (h1 := Kn.app Kn.nil (Kn.app (Kn.of rfl) (Kn.app (Kn.of rfl) (Kn.app (Kn.of rfl) (Kn.app (hkn _ _ _) Kn.nil))))) (h2 := ⟨hkg _ _ _, Kn.of rfl, Kn.of rfl, trivial⟩) (he := ⟨rfl, rfl, rfl, Go.AM.hs_ren (by simp) (by simp), congrArg some (V.ren_id _).symm, rfl, rfl, trivial⟩) (hh := ⟨⟨_, rfl, .varS rfl⟩, ⟨_, rfl, .varS rfl⟩, ⟨_, rfl, .arrS (by simp)⟩, ⟨_, rfl, .rarrS rfl⟩, ⟨_, rfl, .arr⟩, trivial⟩)
  rintro j ⟨hj, hnos⟩;refine a8 (ag [] rfl ?_);refine a8 (aB rfl (fun hb => ?_) (fun hb => ?_))
  ·have hlt : j < (aN nv).length := by
    have : (j : Int) < ((aN nv).length : Int) := zq0 hb;omega
   have hjb : j < nv := by omega
   obtain ⟨n, hnn⟩ := aL (show j < ns.length by omega);have ht1 := aYg hjb;have hrown : (ns.map bG)[j]? = some (bG n) := cE bG hnn;have hstp : ns.take (j + 1) = ns.take j ++ [n] := by rw [take_add_one, hnn]; rfl
   have hq1 : ((pfR p ++ ns.take j).map bG).length = (pfR p ++ ns.take j).length := length_map _;have hql : (pfR p ++ ns.take j).length ≤ 540000000000 := by rw [length_append, length_take]; omega
   refine aD ?_;refine a8 (aC (a8 (ag [(0, .rowR j [.ep 704 j 0 nv])] rfl ?_)));refine a8 (a8 (ag [(2, .row j (bG n))] rfl ?_));refine aB rfl (fun hb => ?_) (fun hb => ?_)
   ·have hns : n = s := zq0 hb;have he : cK sb s b ns [p] = (ns, [p]) := by
     unfold cK;rw [if_neg fun h => h.2 (hns ▸ zq7 hnn)]
    have hqp : q = p := by rw [he] at hq; exact (List.singleton_inj.1 hq).symm
    rw [he, hqp];exact aE ⟨.inr rfl, aBp hF (by repeat (first | exact FarEq.raw hF | (refine FarEq.updL hF ?_) | (refine FarEq.upd hF ?_))) ⟨[], [], .nil, .nil, rfl⟩ (fun _ h => by cases h) (W _ _).refs (fun i hi => GW.kf i hi) (fun q hq => by rcases mem_append.1 hq with hq | hq; exact (all_eq_true.1 (W ns p).plain) q hq; exact (hF.ok q hq).2)⟩
   have hns : ¬ n = s := zq1 hb;refine aD ?_;generalize pfR p = fm at *;generalize hq2 : fm ++ ns.take j = qq at *;refine ag [(3, .row j (bG n))] rfl ?_;refine AWp.sub (Sub.freeze (id := 720) rfl) ?_;refine ag [] rfl ?_;refine ⟨j + 1, ⟨hlt, ?_⟩, by dsimp only; omega, ?_⟩
   ·rw [hstp];intro h;rcases mem_append.1 h with h | h
    ·exact hnos h
    ·exact hns (mem_singleton.1 h).symm
   dsimp only;rw [hstp, ← append_assoc, hq2];exact slG (W _ _) (h1 := Kn.app Kn.nil (Kn.app (Kn.of rfl) (Kn.app (Kn.of rfl) (Kn.app (Kn.of rfl) (Kn.app (hkn _ _ _) Kn.nil))))) (h2 := ⟨hkg _ _ _, Kn.of rfl, Kn.of rfl, trivial⟩) (he := ⟨rfl, rfl, rfl, Go.AM.hs_ren (by simp) (by simp), congrArg some (V.ren_id _).symm, rfl, rfl, trivial⟩) (hh := ⟨⟨_, rfl, .varS rfl⟩, ⟨_, rfl, .varS rfl⟩, ⟨_, rfl, .arrS (by simp [bG])⟩, ⟨_, rfl, .rarrS rfl⟩, ⟨_, rfl, .arr⟩, trivial⟩)
  have hge : j = ns.length := by
   have : ¬ (j : Int) < ((aN nv).length : Int) := zq1 hb;omega
  subst hge;rw [take_length] at hnos ⊢;have hput : cK sb s b ns [p] = ((gSt sb b ns [p] ns.length).1, (gSt sb b ns [p] ns.length).2.1.map fun p => sb p s b) := by
   unfold cK;rw [if_pos ⟨by rw [hfl]; exact hin, hnos⟩, aJ6]
  have hql : (pfR p ++ ns).length ≤ 540000000000 := by rw [length_append]; omega
  have hq1 : ((pfR p ++ ns).map bG).length = (pfR p ++ ns).length := length_map _;have hq2 : ((pfR b).map bG).length = (pfR b).length := length_map _;have hfar := hok.far;refine aK ?_;refine a8 (aF mixed ?_);refine ak 1 [] rfl ?_;refine kc hfar ?_;refine ak 1 [] rfl ?_;refine az ?_;have hlq : (pfR p ++ ns).length + (pfR b).length ≤ 540000000000 := by rw [length_append]; omega
  refine a8 (ag [] rfl ?_);refine AWp.sub (Sub.freeze (id := 720) rfl) ?_;refine a8 (ag [] rfl ?_);refine a8 (a8 (ag [] rfl ?_));refine aC ?_;have hall : ∀ i, i ≤ ns.length → (gSt sb b ns [p] i).2.2.length ≤ 540000000000 := fun i hi => by
   have h1 := (gF (sb := sb) (b := b) (ps := [p]) hi).2.2
   rw [hfl] at h1;simp only [length_append] at h1;omega
  have hone : ∀ i, i ≤ ns.length → ∃ x, (gSt sb b ns [p] i).2.1 = [x] := fun i hi => length_eq_one_iff.1 (gF (sb := sb) (b := b) (ps := [p]) hi).2.1
  have hhd : ∀ i, i ≤ ns.length → (gSt sb b ns [p] i).2.1 = [(gSt sb b ns [p] i).2.1.headD p] := fun i hi => by
   obtain ⟨x, hx⟩ := hone i hi;rw [hx]; rfl
  refine aJ (fun i : Nat => mkt [(1, Go.AM.T s), (5, .one (.vp 5 0)), (6, tkV (gSt sb b ns [p] i).2.2), (11, bN (pfR b)), (12, .one (.clo 131 [.vp 3 0])), (60, .one (.ras (aN nv).length 1 (aN nv))), (61, I .i64 (((aN nv).length : Nat) : Int)), (62, I .i64 i)] ([(3, grO (aN nv) (aP k rs.length)), (5, .var 37 (bF b)), (720, tkA (gSt sb b ns [p] i).2.2)] ++ aH rs k af an anm nv (gNs sb b ns [p] i) ((gSt sb b ns [p] i).2.1.headD p)) F) (fun i => i ≤ (aN nv).length) (fun i => (aN nv).length - i) 0 (zero_le _) ?_ ?_
  ·rw [vX, aEk, hfl];exact slG (W _ _) (h1 := Kn.app Kn.nil (Kn.app (Kn.of rfl) (Kn.app (Kn.of rfl) (Kn.app Kn.nil (Kn.app (Kn.of rfl) (Kn.app (hkn _ _ _) Kn.nil)))))) (h2 := ⟨hkg _ _ _, Kn.of rfl, Kn.of rfl, trivial⟩) (he := ⟨rfl, rfl, Go.AM.hs_ren (by simp only [length_append, length_map]) (by simp only [length_append, length_map]), rfl, rfl, congrArg some (V.ren_id _).symm, rfl, rfl, trivial⟩) (hh := ⟨⟨_, rfl, .varS rfl⟩, ⟨_, rfl, .varS rfl⟩, ⟨_, rfl, .arrS (by simp)⟩, ⟨_, rfl, .rarrS rfl⟩, ⟨_, rfl, .arr⟩, trivial⟩)
  intro i hi;have hle : i ≤ ns.length := by omega
  refine a8 (ag [] rfl ?_);refine a8 (aB rfl (fun hb => ?_) (fun hb => ?_))
  ·have hlt : i < (aN nv).length := by
    have : (i : Int) < ((aN nv).length : Int) := zq0 hb;omega
   have hjb : i < nv := by omega
   obtain ⟨n, hnn⟩ := aL (show i < ns.length by omega);obtain ⟨hg1, hg2, hg3⟩ := gF (sb := sb) (b := b) (ps := [p]) hle;have hgl := aJ9 (sb := sb) (b := b) (ps := [p]) hle;have hga := aQx (sb := sb) (b := b) (ps := [p]) hnn;have hP := aJ7 hok hle (hall i hle) (fun j hj => hall j (by omega));have hsucc := n9 (sb := sb) (b := b) (ps := [p]) hnn;have hnin := aQw (sb := sb) (b := b) (ps := [p]) hnn;have hnout := aJ8 (sb := sb) (b := b) (ps := [p]) hnn;have hall0 := hall i hle;have hhi := hhd i hle;have ht1 := aYg hjb;have hcf := bU (pfR b) n (by omega);have hcr := wI (gSt sb b ns [p] i).2.2 (by omega) fun k hk => hok.itoa k (by omega)
   generalize gSt sb b ns [p] i = G at *;generalize gNs sb b ns [p] i = N at *;obtain ⟨d0, qs, tk⟩ := G;dsimp only at *;generalize qs.headD p = x at hhi ⊢;subst hhi;have hrown : (N.map bG)[i]? = some (bG n) := cE bG hga;have hkN : nv = (N.map bG).length := by rw [length_map]; omega
   have hszx := hsz x;have hrowx := hrow x;refine aD ?_;refine a8 (aC (a8 (ag [(0, .rowR i [.ep 704 i 0 nv])] rfl ?_)));refine a8 (aF mixed ?_);refine ak 4 [(3, .row i (bG n))] rfl ?_;refine kc hcf ?_;refine az ?_;refine aB rfl (fun hb => ?_) (fun hb => ?_)
   ·have hmem : n ∈ pfR b := zq0 hb;have hnin := hnin hmem;unfold dE at hsucc;rw [if_pos hmem] at hsucc;dsimp only at hsucc;have hz : (aZ tk).length ≤ 30 := le_trans (j5 _ hall0) (by omega);have hca := aRl rs k af an anm nv N x F n (vC (aZ tk)) (fun p => sb p n (vC (aZ tk))) hF hr hk (hok.subz x n _ (hP x (by simp)) hz);have hcv := wJ (aZ tk);have hqt : (tk.map bG).length = tk.length := length_map _;generalize aZ tk = z at *;refine a8 (aF mixed ?_);refine ak 1 [] rfl ?_;refine kc hcr ?_;refine ak 1 [] rfl ?_;refine az ?_;refine a8 (ag [] rfl ?_);refine AWp.sub (Sub.freeze (id := 720) rfl) ?_;refine a8 (aF mixed ?_);refine ak 5 [(3, .row i (bG n))] rfl ?_;refine kc hcv ?_;refine kv (caps := [.vp 3 0]) (args := [Go.AM.T n, .pa (aA (vC z))]) hca ?_ (hin' := dP.app ⟨rfl, rfl, rfl, trivial⟩ (FarEq.all (by repeat (first | exact FarEq.raw hF | (refine FarEq.updL hF ?_) | (refine FarEq.upd hF ?_))))) (hout' := aYf) (hok := aFh hF hr);refine az ?_;refine AWp.sub (Sub.outsT hF) ?_;refine ag [(3, .row i (bG n))] rfl ?_;refine ag [] rfl ?_;refine ⟨i + 1, hlt, by dsimp only; omega, ?_⟩;dsimp only;rw [hsucc, hnin];dsimp only;refine slG (W _ _) (fun i hi => GW.kf i hi) (by repeat (first | exact FarEq.bif hF (FarEq.outs hF) | (refine FarEq.updL hF ?_) | (refine FarEq.upd hF ?_))) (h1 := Kn.app Kn.nil (Kn.app (Kn.of rfl) (Kn.app (Kn.of rfl) (Kn.app Kn.nil (Kn.app (Kn.of rfl) (Kn.app (hkn _ _ _) Kn.nil)))))) (h2 := ⟨hkg _ _ _, Kn.of rfl, Kn.of rfl, trivial⟩) (he := ⟨rfl, rfl, Go.AM.hs_ren (by simp) (by simp), rfl, rfl, congrArg some (V.ren_id _).symm, rfl, rfl, trivial⟩) (hh := ⟨⟨_, rfl, .varS rfl⟩, ⟨_, rfl, .varS rfl⟩, ⟨_, rfl, .arrS (by simp [bG])⟩, ⟨_, rfl, .rarrS rfl⟩, ⟨_, rfl, .arrS ?_⟩, trivial⟩);rw [map_set]; rfl
   ·have hmem : ¬ n ∈ pfR b := zq1 hb;unfold dE at hsucc;rw [if_neg hmem] at hsucc;dsimp only at hsucc;refine aD ?_;refine ag [] rfl ?_;refine ⟨i + 1, hlt, by dsimp only; omega, ?_⟩;dsimp only;rw [hsucc, hnout hmem];exact slG (W _ _) (fun i hi => GW.kf i hi) (h1 := Kn.app Kn.nil (Kn.app (Kn.of rfl) (Kn.app (Kn.of rfl) (Kn.app Kn.nil (Kn.app (Kn.of rfl) (Kn.app (hkn _ _ _) Kn.nil)))))) (h2 := ⟨hkg _ _ _, Kn.of rfl, Kn.of rfl, trivial⟩)
  have hge : i = ns.length := by
   have : ¬ (i : Int) < ((aN nv).length : Int) := zq1 hb;omega
  subst hge;have hP := aJ7 hok (le_refl ns.length) (hall _ (le_refl _)) (fun j hj => hall j hj);have hhi := hhd _ (le_refl ns.length);rw [hput] at hq ⊢;rw [aKa];generalize gSt sb b ns [p] ns.length = G at *;obtain ⟨N, qs, tk⟩ := G;dsimp only at *;generalize qs.headD p = x at hhi ⊢;subst hhi;have hqx : q = sb x s b := (List.singleton_inj.1 hq).symm;subst hqx;have hca := aRl rs k af an anm nv N x F s b (fun p => sb p s b) hF hr hk (hok.subb x (hP x (by simp)));refine aK ?_;refine aF mixed ?_;refine ak 3 [] rfl ?_;refine kv (caps := [.vp 3 0]) (args := [Go.AM.T s, .pa (aA b)]) hca ?_ (hin' := dP.app ⟨rfl, rfl, rfl, trivial⟩ (FarEq.all (by repeat (first | exact FarEq.raw hF | (refine FarEq.updL hF ?_) | (refine FarEq.upd hF ?_))))) (hout' := aYf) (hok := aFh hF hr);refine az ?_;refine ⟨.inl rfl, aBp hF (FarEq.outs hF) ⟨[], [], .nil, .nil, rfl⟩ (fun _ h => by cases h) (W _ _).refs (fun i hi => GW.kf i hi) (fun q hq => by rcases mem_append.1 hq with hq | hq; exact (all_eq_true.1 (W ns p).plain) q hq; exact (hF.ok q hq).2)⟩
abbrev lH (n : Int) (t : Ty) (x : Str) (k : Core) : List (Nat × AObj) := gHl 5 n x t [k] [] []
def lN : List R := [.vp 700 2]
def lP : List R := [.ep 702 0 0 1]
abbrev lG (n : Int) (t : Ty) (x : Str) (k : Core) : List (Nat × AObj) := (3, grO lN lP) :: lH n t x k
theorem lHW {n : Int} {t : Ty} {x : Str} {k : Core} : GW (lH n t x k) [] := gW
theorem lGW {n : Int} {t : Ty} {x : Str} {k : Core} : GW (lG n t x k) [] := ⟨lHW (n := n) (t := t) (x := x) (k := k).tf, fun y hy => by
 rcases mem_append.1 (show y ∈ (grO lN lP).refs ++ cQ (lH n t x k) from hy) with hy | hy
 ·have : y = 700 ∨ y = 702 := by simpa [grO, lN, lP, AObj.refs, R.refsL, R.refs] using hy
  rcases this with rfl | rfl
  ·exact .inl (by simp [lG, gHl, keys])
  ·exact .inl (by simp [lG, gHl, keys])
 ·exact (lHW.refs y hy).imp (fun h => zq3 _ h) id, rfl, rfl⟩
theorem aLh (n : Int) (t : Ty) (x : Str) (k : Core) (nm : Str) (b : Core) (sb : Core → Core)
  (hc : aY Tryz.prog 25 [.pa (aA k), Go.AM.T nm, .pa (aA b)] [] (.pa (aA (sb k))) []) :
  aY Tryz.prog 131 [Go.AM.T nm, .pa (aA b), .one (.vp 3 0)] (lG n t x k ++ []) (.tup []) (lG n t x (sb k) ++ []) := by
 have hF : TF [] := lHW (n := n) (t := t) (x := x) (k := k).tf;refine rS hF (n := 23) tok Tryz.func131 rfl rfl rfl ?_;refine a8 (ag [] rfl ?_);refine a8 (ag [] rfl ?_);refine aC ?_;refine aJ (fun j : Nat => mkt [(0, Go.AM.T nm), (2, .one (.vp 3 0)), (4, .one (.vp 4 0)), (8, .one (.ras 1 1 lP)), (9, I .i64 ((1 : Nat) : Int)), (10, I .i64 j)] ([(4, .var 37 (bF b))] ++ lG n t x (if j = 0 then k else sb k)) []) (fun j => j ≤ 1) (fun j => 1 - j) 0 (zero_le _) ?_ ?_
 ·exact slG lGW
 intro j hj;refine a8 (ag [] rfl ?_);refine a8 (aB rfl (fun hb => ?_) (fun hb => ?_))
 ·have hj0 : j = 0 := by
   have : (j : Int) < ((1 : Nat) : Int) := zq0 hb;omega
  subst hj0;rw [if_pos rfl];refine aD ?_;refine a8 (aC (a8 (ag [] rfl ?_)));refine aF mixed ?_;refine ak 6 [(3, .row 0 (aA k))] rfl ?_;refine kc hc ?_;refine ak 2 [(8, .row 0 (aA k))] rfl ?_;refine az ?_;refine ag [] rfl ?_;refine ⟨1, le_refl _, by dsimp only; omega, ?_⟩;dsimp only;rw [if_neg (by decide)];exact slG lGW (fun i hi => GW.kf i hi)
 have hge : j = 1 := by
  have : ¬ (j : Int) < ((1 : Nat) : Int) := zq1 hb;omega
 subst hge;rw [if_neg (by decide)];refine aK ?_;exact ⟨.inl rfl, aBp hF (by repeat (first | exact FarEq.raw hF | (refine FarEq.updL hF ?_) | (refine FarEq.upd hF ?_))) ⟨[], [], .nil, .nil, rfl⟩ (fun _ h => by cases h) lGW.refs (fun i hi => GW.kf i hi) (fun q hq => by rcases mem_append.1 hq with hq | hq; exact (all_eq_true.1 (lGW (n := n) (t := t) (x := x) (k := k)).plain) q hq; cases hq)⟩
theorem aXr (n : Int) (t : Ty) (x : Str) (k : Core) (s : Str) (b : Core) (sb : Core → Str → Core → Core) (P : Core → Prop) (hok : PutOk sb P s b [k])
  (hM : (pfR k).length + 2 + (pfR b).length + 1 ≤ 540000000000) :
  ∃ x' q, cK sb s b [x] [k] = ([x'], [q]) ∧ aY Tryz.prog 68 [gpV lN lP, Go.AM.T s, .pa (aA b)] (lH n t x k ++ []) (.tup []) (lH n t x' q ++ []) := by
 have hF : TF [] := lHW (n := n) (t := t) (x := x) (k := k).tf;have hfl : ([k] : List Core).flatMap pfR = pfR k := by simp
 have hf := hok.free k (by simp);have hq0 : ((pfR k).map bG).length = (pfR k).length := length_map _;have hk0 : k = k := rfl;have step0 : s ∉ pfR k ∨ s = x → cK sb s b [x] [k] = ([x], [k]) := fun h => by
  unfold cK;rw [if_neg];rintro ⟨h1, h2⟩;rw [hfl] at h1;rcases h with h | h
  ·exact h h1
  ·exact h2 (by simp [h])
 by_cases hin : s ∈ pfR k
 case neg =>
  refine ⟨x, k, step0 (.inl hin), ?_⟩;refine rS hF (n := 92) tok Tryz.func68 rfl rfl rfl ?_;refine a8 (ag [] rfl ?_);refine a8 (ag [] rfl ?_);refine AWp.sub (Sub.own (t := 6) (id := 720) 9 1 rfl rfl) (AWp.sub (Sub.freeze (id := 720) rfl) ?_);refine a8 (a8 (ag [] rfl ?_));refine aC ?_;refine aJ (fun j : Nat => mkt [(1, Go.AM.T s), (3, .one (.vp 3 0)), (5, .one (.vp 5 0)), (6, tkV (if j = 0 then [] else pfR k)), (17, .one (.ras 1 1 lP)), (18, I .i64 ((1 : Nat) : Int)), (19, I .i64 j)] ([(3, grO lN lP), (5, .var 37 (bF b)), (720, tkA (if j = 0 then [] else pfR k))] ++ lH n t x k) []) (fun j => j ≤ 1) (fun j => 1 - j) 0 (zero_le _) (slG lHW) ?_;intro j hj;refine a8 (ag [] rfl ?_);refine a8 (aB rfl (fun hb => ?_) (fun hb => ?_))
  ·have hj0 : j = 0 := by
    have : (j : Int) < ((1 : Nat) : Int) := zq0 hb;omega
   subst hj0;rw [if_pos rfl];refine aD ?_;refine a8 (aC (a8 (ag [] rfl ?_)));refine aF mixed ?_;refine ak 4 [(3, .row 0 (aA k))] rfl ?_;refine kc hf ?_;refine ak 2 [] rfl ?_;refine az ?_;refine AWp.sub (Sub.freeze (id := 720) rfl) ?_;refine ag [] rfl ?_;refine ⟨1, le_refl _, by dsimp only; omega, ?_⟩;dsimp only;rw [if_neg (by decide)];exact slG lHW (he := ⟨rfl, rfl, rfl, Go.AM.hs_ren (by simp) (by simp), rfl, rfl, rfl, trivial⟩) (hh := ⟨⟨_, rfl, .varS rfl⟩, ⟨_, rfl, .varS rfl⟩, ⟨_, rfl, .arrS (by simp)⟩, ⟨_, rfl, .varS rfl⟩, ⟨_, rfl, .arr⟩, ⟨_, rfl, .arr⟩, ⟨_, rfl, .rarrS rfl⟩, trivial⟩)
  have hge : j = 1 := by
   have : ¬ (j : Int) < ((1 : Nat) : Int) := zq1 hb;omega
  subst hge;rw [if_neg (by decide)];refine aK ?_;have hct := bU (pfR k) s (by omega);rw [decide_eq_false hin] at hct;refine a8 (a8 (aF mixed ?_));refine ak 2 [] rfl ?_;refine kc hct ?_;refine ak 1 [] rfl ?_;refine az ?_;refine aB rfl (fun hb => ?_) (fun hb => by cases hb);exact aE ⟨.inr rfl, aBp hF (by repeat (first | exact FarEq.raw hF | (refine FarEq.updL hF ?_) | (refine FarEq.upd hF ?_))) ⟨[], [], .nil, .nil, rfl⟩ (fun _ h => by cases h) lHW.refs (fun i hi => GW.kf i hi) (fun q hq => by rcases mem_append.1 hq with hq | hq; exact (all_eq_true.1 (lHW (n := n) (t := t) (x := x) (k := k)).plain) q hq; cases hq)⟩
 by_cases hsx : s = x
 case pos =>
  refine ⟨x, k, step0 (.inr hsx), ?_⟩;refine rS hF (n := 92) tok Tryz.func68 rfl rfl rfl ?_;refine a8 (ag [] rfl ?_);refine a8 (ag [] rfl ?_);refine AWp.sub (Sub.own (t := 6) (id := 720) 9 1 rfl rfl) (AWp.sub (Sub.freeze (id := 720) rfl) ?_);refine a8 (a8 (ag [] rfl ?_));refine aC ?_;refine aJ (fun j : Nat => mkt [(1, Go.AM.T s), (3, .one (.vp 3 0)), (5, .one (.vp 5 0)), (6, tkV (if j = 0 then [] else pfR k)), (17, .one (.ras 1 1 lP)), (18, I .i64 ((1 : Nat) : Int)), (19, I .i64 j)] ([(3, grO lN lP), (5, .var 37 (bF b)), (720, tkA (if j = 0 then [] else pfR k))] ++ lH n t x k) []) (fun j => j ≤ 1) (fun j => 1 - j) 0 (zero_le _) (slG lHW) ?_;intro j hj;refine a8 (ag [] rfl ?_);refine a8 (aB rfl (fun hb => ?_) (fun hb => ?_))
  ·have hj0 : j = 0 := by
    have : (j : Int) < ((1 : Nat) : Int) := zq0 hb;omega
   subst hj0;rw [if_pos rfl];refine aD ?_;refine a8 (aC (a8 (ag [] rfl ?_)));refine aF mixed ?_;refine ak 4 [(3, .row 0 (aA k))] rfl ?_;refine kc hf ?_;refine ak 2 [] rfl ?_;refine az ?_;refine AWp.sub (Sub.freeze (id := 720) rfl) ?_;refine ag [] rfl ?_;refine ⟨1, le_refl _, by dsimp only; omega, ?_⟩;dsimp only;rw [if_neg (by decide)];exact slG lHW (he := ⟨rfl, rfl, rfl, Go.AM.hs_ren (by simp) (by simp), rfl, rfl, rfl, trivial⟩) (hh := ⟨⟨_, rfl, .varS rfl⟩, ⟨_, rfl, .varS rfl⟩, ⟨_, rfl, .arrS (by simp)⟩, ⟨_, rfl, .varS rfl⟩, ⟨_, rfl, .arr⟩, ⟨_, rfl, .arr⟩, ⟨_, rfl, .rarrS rfl⟩, trivial⟩)
  have hge : j = 1 := by
   have : ¬ (j : Int) < ((1 : Nat) : Int) := zq1 hb;omega
  subst hge;rw [if_neg (by decide)];refine aK ?_;have hct := bU (pfR k) s (by omega);rw [decide_eq_true hin] at hct;refine a8 (a8 (aF mixed ?_));refine ak 2 [] rfl ?_;refine kc hct ?_;refine ak 1 [] rfl ?_;refine az ?_;refine aB rfl (fun hb => by cases hb) (fun hb => ?_);refine aD ?_;refine a8 (a8 (ag [] rfl ?_));refine aC ?_;refine aJ (fun _ : Unit => mkt [(1, Go.AM.T s), (3, .one (.vp 3 0)), (5, .one (.vp 5 0)), (6, tkV (pfR k)), (35, .one (.ras 1 1 lN)), (36, I .i64 ((1 : Nat) : Int)), (37, I .i64 (0 : Nat))] ([(3, grO lN lP), (5, .var 37 (bF b)), (720, tkA (pfR k))] ++ lH n t x k) []) (fun _ => True) (fun _ => 0) () trivial (slG lHW) ?_;intro _ _;refine a8 (ag [] rfl ?_);refine a8 (aB rfl (fun hb => ?_) (fun hb => by cases hb));refine aD ?_;refine a8 (aC (a8 (ag [] rfl ?_)));refine a8 (a8 (ag [] rfl ?_));refine aB rfl (fun hb => ?_) (fun hb => absurd hsx.symm (zq1 hb));exact aE ⟨.inr rfl, aBp hF (by repeat (first | exact FarEq.raw hF | (refine FarEq.updL hF ?_) | (refine FarEq.upd hF ?_))) ⟨[], [], .nil, .nil, rfl⟩ (fun _ h => by cases h) lHW.refs (fun i hi => GW.kf i hi) (fun q hq => by rcases mem_append.1 hq with hq | hq; exact (all_eq_true.1 (lHW (n := n) (t := t) (x := x) (k := k)).plain) q hq; cases hq)⟩
 have hq1 : ((pfR k ++ [x]).map bG).length = (pfR k ++ [x]).length := length_map _;have hq2 : ((pfR b).map bG).length = (pfR b).length := length_map _;have hlx : (pfR k ++ [x]).length = (pfR k).length + 1 := by simp
 have hfar := hok.far;have hP := hok.in_ k (by simp);have hct := bU (pfR k) s (by omega);rw [decide_eq_true hin] at hct;have hcf := bU (pfR b) x (by omega);have hpin : aWg s [x] [k] := ⟨by rw [hfl]; exact hin, by simpa using hsx⟩
 by_cases hxb : x ∈ pfR b
 case pos =>
  have htl : (pfR k ++ [x] ++ pfR b).length ≤ 540000000000 := by rw [length_append]; omega
  have hz : (aZ (pfR k ++ [x] ++ pfR b)).length ≤ 30 := le_trans (j5 _ htl) (by omega);have hcr := wI (pfR k ++ [x] ++ pfR b) (by omega) fun k hk => hok.itoa k (by omega)
  refine ⟨aZ (pfR k ++ [x] ++ pfR b), sb (sb k x (vC (aZ (pfR k ++ [x] ++ pfR b)))) s b, ?_, ?_⟩
  ·unfold cK;rw [if_pos hpin, hfl];unfold iU;simp only [foldl_cons, List.foldl_nil];unfold dE;rw [if_pos hxb]; rfl
  rw [decide_eq_true hxb] at hcf;have hqt : ((pfR k ++ [x] ++ pfR b).map bG).length = (pfR k ++ [x] ++ pfR b).length := length_map _;have hqa : (pfR k ++ [x] ++ pfR b).length = (pfR k).length + 1 + (pfR b).length := by rw [length_append, hlx]
  have hca := aLh n t x k x (vC (aZ (pfR k ++ [x] ++ pfR b))) (fun p => sb p x (vC (aZ (pfR k ++ [x] ++ pfR b)))) (hok.subz k x _ hP hz);have hca2 := aLh n t (aZ (pfR k ++ [x] ++ pfR b)) (sb k x (vC (aZ (pfR k ++ [x] ++ pfR b)))) s b (fun p => sb p s b) (hok.subb _ (hok.ren k x _ hP hz));have hcv := wJ (aZ (pfR k ++ [x] ++ pfR b));generalize hzz : aZ (pfR k ++ [x] ++ pfR b) = z at *;refine rS hF (n := 92) tok Tryz.func68 rfl rfl rfl ?_;refine a8 (ag [] rfl ?_);refine a8 (ag [] rfl ?_);refine AWp.sub (Sub.own (t := 6) (id := 720) 9 1 rfl rfl) (AWp.sub (Sub.freeze (id := 720) rfl) ?_);refine a8 (a8 (ag [] rfl ?_));refine aC ?_;refine aJ (fun j : Nat => mkt [(1, Go.AM.T s), (3, .one (.vp 3 0)), (5, .one (.vp 5 0)), (6, tkV (if j = 0 then [] else pfR k)), (17, .one (.ras 1 1 lP)), (18, I .i64 ((1 : Nat) : Int)), (19, I .i64 j)] ([(3, grO lN lP), (5, .var 37 (bF b)), (720, tkA (if j = 0 then [] else pfR k))] ++ lH n t x k) []) (fun j => j ≤ 1) (fun j => 1 - j) 0 (zero_le _) (slG lHW) ?_;intro j hj;refine a8 (ag [] rfl ?_);refine a8 (aB rfl (fun hb => ?_) (fun hb => ?_))
  ·have hj0 : j = 0 := by
    have : (j : Int) < ((1 : Nat) : Int) := zq0 hb;omega
   subst hj0;rw [if_pos rfl];refine aD ?_;refine a8 (aC (a8 (ag [] rfl ?_)));refine aF mixed ?_;refine ak 4 [(3, .row 0 (aA k))] rfl ?_;refine kc hf ?_;refine ak 2 [] rfl ?_;refine az ?_;refine AWp.sub (Sub.freeze (id := 720) rfl) ?_;refine ag [] rfl ?_;refine ⟨1, le_refl _, by dsimp only; omega, ?_⟩;dsimp only;rw [if_neg (by decide)];exact slG lHW (he := ⟨rfl, rfl, rfl, Go.AM.hs_ren (by simp) (by simp), rfl, rfl, rfl, trivial⟩) (hh := ⟨⟨_, rfl, .varS rfl⟩, ⟨_, rfl, .varS rfl⟩, ⟨_, rfl, .arrS (by simp)⟩, ⟨_, rfl, .varS rfl⟩, ⟨_, rfl, .arr⟩, ⟨_, rfl, .arr⟩, ⟨_, rfl, .rarrS rfl⟩, trivial⟩)
  have hge : j = 1 := by
   have : ¬ (j : Int) < ((1 : Nat) : Int) := zq1 hb;omega
  subst hge;rw [if_neg (by decide)];refine aK ?_;refine a8 (a8 (aF mixed ?_));refine ak 2 [] rfl ?_;refine kc hct ?_;refine ak 1 [] rfl ?_;refine az ?_;refine aB rfl (fun hb => by cases hb) (fun hb => ?_);refine aD ?_;refine a8 (a8 (ag [] rfl ?_));refine aC ?_;refine aJ (fun j : Nat => mkt [(1, Go.AM.T s), (3, .one (.vp 3 0)), (5, .one (.vp 5 0)), (6, tkV (if j = 0 then pfR k else pfR k ++ [x])), (35, .one (.ras 1 1 lN)), (36, I .i64 ((1 : Nat) : Int)), (37, I .i64 j)] ([(3, grO lN lP), (5, .var 37 (bF b)), (720, tkA (if j = 0 then pfR k else pfR k ++ [x]))] ++ lH n t x k) []) (fun j => j ≤ 1) (fun j => 1 - j) 0 (zero_le _) (slG lHW) ?_;intro j hj;refine a8 (ag [] rfl ?_);refine a8 (aB rfl (fun hb => ?_) (fun hb => ?_))
  ·have hj0 : j = 0 := by
    have : (j : Int) < ((1 : Nat) : Int) := zq0 hb;omega
   subst hj0;rw [if_pos rfl];refine aD ?_;refine a8 (aC (a8 (ag [] rfl ?_)));refine a8 (a8 (ag [] rfl ?_));refine aB rfl (fun hb => absurd (zq0 hb).symm hsx) (fun hb => ?_);refine aD ?_;refine ag [] rfl ?_;refine AWp.sub (Sub.freeze (id := 720) rfl) ?_;refine ag [] rfl ?_;refine ⟨1, le_refl _, by dsimp only; omega, ?_⟩;dsimp only;rw [if_neg (by decide)];exact slG lHW (he := ⟨rfl, rfl, rfl, Go.AM.hs_ren (by simp) (by simp), rfl, rfl, rfl, trivial⟩) (hh := ⟨⟨_, rfl, .varS rfl⟩, ⟨_, rfl, .varS rfl⟩, ⟨_, rfl, .arrS (by simp [bG])⟩, ⟨_, rfl, .varS rfl⟩, ⟨_, rfl, .arr⟩, ⟨_, rfl, .arr⟩, ⟨_, rfl, .rarrS rfl⟩, trivial⟩)
  have hge : j = 1 := by
   have : ¬ (j : Int) < ((1 : Nat) : Int) := zq1 hb;omega
  subst hge;rw [if_neg (by decide)];refine aK ?_;refine a8 (aF mixed ?_);refine ak 1 [] rfl ?_;refine kc hfar ?_;refine ak 1 [] rfl ?_;refine az ?_;refine a8 (ag [] rfl ?_);refine AWp.sub (Sub.freeze (id := 720) rfl) ?_;refine a8 (ag [] rfl ?_);refine a8 (a8 (ag [] rfl ?_));refine aC ?_;refine aJ (fun i : Nat => mkt [(1, Go.AM.T s), (5, .one (.vp 5 0)), (6, tkV (if i = 0 then pfR k ++ [x] ++ pfR b else pfR k ++ [x] ++ pfR b ++ [z])), (11, bN (pfR b)), (12, .one (.clo 131 [.vp 3 0])), (60, .one (.ras 1 1 lN)), (61, I .i64 ((1 : Nat) : Int)), (62, I .i64 i)] ([(3, grO lN lP), (5, .var 37 (bF b)), (720, tkA (if i = 0 then pfR k ++ [x] ++ pfR b else pfR k ++ [x] ++ pfR b ++ [z]))] ++ lH n t (if i = 0 then x else z) (if i = 0 then k else sb k x (vC z))) []) (fun i => i ≤ 1) (fun i => 1 - i) 0 (zero_le _) ?_ ?_
  ·rw [if_pos rfl, if_pos rfl, if_pos rfl];exact slG lHW (he := ⟨rfl, rfl, Go.AM.hs_ren (by simp only [length_append, length_map]) (by simp only [length_append, length_map]), rfl, rfl, rfl, rfl, rfl, trivial⟩) (hh := ⟨⟨_, rfl, .varS rfl⟩, ⟨_, rfl, .varS rfl⟩, ⟨_, rfl, .arrS (by simp )⟩, ⟨_, rfl, .varS rfl⟩, ⟨_, rfl, .arr⟩, ⟨_, rfl, .arr⟩, ⟨_, rfl, .rarrS rfl⟩, trivial⟩)
  intro i hi;refine a8 (ag [] rfl ?_);refine a8 (aB rfl (fun hb => ?_) (fun hb => ?_))
  ·have hi0 : i = 0 := by
    have : (i : Int) < ((1 : Nat) : Int) := zq0 hb;omega
   subst hi0;rw [if_pos rfl, if_pos rfl, if_pos rfl];generalize pfR k ++ [x] ++ pfR b = tk at *;refine aD ?_;refine a8 (aC (a8 (ag [] rfl ?_)));refine a8 (aF mixed ?_);refine ak 4 [] rfl ?_;refine kc hcf ?_;refine az ?_;refine aB rfl (fun hb => ?_) (fun hb => by cases hb);refine a8 (aF mixed ?_);refine ak 1 [] rfl ?_;refine kc hcr ?_;refine ak 1 [] rfl ?_;refine az ?_;refine a8 (ag [] rfl ?_);refine AWp.sub (Sub.freeze (id := 720) rfl) ?_;refine a8 (aF mixed ?_);refine ak 5 [] rfl ?_;refine kc hcv ?_;refine kv (caps := [.vp 3 0]) (args := [Go.AM.T x, .pa (aA (vC z))]) hca ?_;refine az ?_;refine ag [] rfl ?_;refine ag [] rfl ?_;refine ⟨1, le_refl _, by dsimp only; omega, ?_⟩;dsimp only;rw [if_neg (by decide), if_neg (by decide), if_neg (by decide)];exact slG lHW (fun i hi => GW.kf i hi) (he := ⟨rfl, rfl, Go.AM.hs_ren (by simp) (by simp), rfl, rfl, rfl, rfl, rfl, trivial⟩) (hh := ⟨⟨_, rfl, .varS rfl⟩, ⟨_, rfl, .varS rfl⟩, ⟨_, rfl, .arrS (by simp [bG])⟩, ⟨_, rfl, .varS rfl⟩, ⟨_, rfl, .arr⟩, ⟨_, rfl, .arr⟩, ⟨_, rfl, .rarrS rfl⟩, trivial⟩)
  have hge : i = 1 := by
   have : ¬ (i : Int) < ((1 : Nat) : Int) := zq1 hb;omega
  subst hge;rw [if_neg (by decide), if_neg (by decide), if_neg (by decide)];refine aK ?_;refine aF mixed ?_;refine ak 3 [] rfl ?_;refine kv (caps := [.vp 3 0]) (args := [Go.AM.T s, .pa (aA b)]) hca2 ?_;refine az ?_;exact ⟨.inl rfl, aBp hF (FarEq.outs hF) ⟨[], [], .nil, .nil, rfl⟩ (fun _ h => by cases h) lHW.refs (fun i hi => GW.kf i hi) (fun q hq => by rcases mem_append.1 hq with hq | hq; exact (all_eq_true.1 (lHW (n := n) (t := t) (x := x) (k := k)).plain) q hq; cases hq)⟩
 refine ⟨x, sb k s b, ?_, ?_⟩
 ·unfold cK;rw [if_pos hpin, hfl];unfold iU;simp only [foldl_cons, List.foldl_nil];unfold dE;rw [if_neg hxb]; rfl
 rw [decide_eq_false hxb] at hcf;have hca2 := aLh n t x k s b (fun p => sb p s b) (hok.subb _ hP);refine rS hF (n := 92) tok Tryz.func68 rfl rfl rfl ?_;refine a8 (ag [] rfl ?_);refine a8 (ag [] rfl ?_);refine AWp.sub (Sub.own (t := 6) (id := 720) 9 1 rfl rfl) (AWp.sub (Sub.freeze (id := 720) rfl) ?_);refine a8 (a8 (ag [] rfl ?_));refine aC ?_;refine aJ (fun j : Nat => mkt [(1, Go.AM.T s), (3, .one (.vp 3 0)), (5, .one (.vp 5 0)), (6, tkV (if j = 0 then [] else pfR k)), (17, .one (.ras 1 1 lP)), (18, I .i64 ((1 : Nat) : Int)), (19, I .i64 j)] ([(3, grO lN lP), (5, .var 37 (bF b)), (720, tkA (if j = 0 then [] else pfR k))] ++ lH n t x k) []) (fun j => j ≤ 1) (fun j => 1 - j) 0 (zero_le _) (slG lHW) ?_;intro j hj;refine a8 (ag [] rfl ?_);refine a8 (aB rfl (fun hb => ?_) (fun hb => ?_))
 ·have hj0 : j = 0 := by
   have : (j : Int) < ((1 : Nat) : Int) := zq0 hb;omega
  subst hj0;rw [if_pos rfl];refine aD ?_;refine a8 (aC (a8 (ag [] rfl ?_)));refine aF mixed ?_;refine ak 4 [(3, .row 0 (aA k))] rfl ?_;refine kc hf ?_;refine ak 2 [] rfl ?_;refine az ?_;refine AWp.sub (Sub.freeze (id := 720) rfl) ?_;refine ag [] rfl ?_;refine ⟨1, le_refl _, by dsimp only; omega, ?_⟩;dsimp only;rw [if_neg (by decide)];exact slG lHW (he := ⟨rfl, rfl, rfl, Go.AM.hs_ren (by simp) (by simp), rfl, rfl, rfl, trivial⟩) (hh := ⟨⟨_, rfl, .varS rfl⟩, ⟨_, rfl, .varS rfl⟩, ⟨_, rfl, .arrS (by simp)⟩, ⟨_, rfl, .varS rfl⟩, ⟨_, rfl, .arr⟩, ⟨_, rfl, .arr⟩, ⟨_, rfl, .rarrS rfl⟩, trivial⟩)
 have hge : j = 1 := by
  have : ¬ (j : Int) < ((1 : Nat) : Int) := zq1 hb;omega
 subst hge;rw [if_neg (by decide)];refine aK ?_;refine a8 (a8 (aF mixed ?_));refine ak 2 [] rfl ?_;refine kc hct ?_;refine ak 1 [] rfl ?_;refine az ?_;refine aB rfl (fun hb => by cases hb) (fun hb => ?_);refine aD ?_;refine a8 (a8 (ag [] rfl ?_));refine aC ?_;refine aJ (fun j : Nat => mkt [(1, Go.AM.T s), (3, .one (.vp 3 0)), (5, .one (.vp 5 0)), (6, tkV (if j = 0 then pfR k else pfR k ++ [x])), (35, .one (.ras 1 1 lN)), (36, I .i64 ((1 : Nat) : Int)), (37, I .i64 j)] ([(3, grO lN lP), (5, .var 37 (bF b)), (720, tkA (if j = 0 then pfR k else pfR k ++ [x]))] ++ lH n t x k) []) (fun j => j ≤ 1) (fun j => 1 - j) 0 (zero_le _) (slG lHW) ?_;intro j hj;refine a8 (ag [] rfl ?_);refine a8 (aB rfl (fun hb => ?_) (fun hb => ?_))
 ·have hj0 : j = 0 := by
   have : (j : Int) < ((1 : Nat) : Int) := zq0 hb;omega
  subst hj0;rw [if_pos rfl];refine aD ?_;refine a8 (aC (a8 (ag [] rfl ?_)));refine a8 (a8 (ag [] rfl ?_));refine aB rfl (fun hb => absurd (zq0 hb).symm hsx) (fun hb => ?_);refine aD ?_;refine ag [] rfl ?_;refine AWp.sub (Sub.freeze (id := 720) rfl) ?_;refine ag [] rfl ?_;refine ⟨1, le_refl _, by dsimp only; omega, ?_⟩;dsimp only;rw [if_neg (by decide)];exact slG lHW (he := ⟨rfl, rfl, rfl, Go.AM.hs_ren (by simp) (by simp), rfl, rfl, rfl, trivial⟩) (hh := ⟨⟨_, rfl, .varS rfl⟩, ⟨_, rfl, .varS rfl⟩, ⟨_, rfl, .arrS (by simp [bG])⟩, ⟨_, rfl, .varS rfl⟩, ⟨_, rfl, .arr⟩, ⟨_, rfl, .arr⟩, ⟨_, rfl, .rarrS rfl⟩, trivial⟩)
 have hge : j = 1 := by
  have : ¬ (j : Int) < ((1 : Nat) : Int) := zq1 hb;omega
 subst hge;rw [if_neg (by decide)];refine aK ?_;refine a8 (aF mixed ?_);refine ak 1 [] rfl ?_;refine kc hfar ?_;refine ak 1 [] rfl ?_;refine az ?_;refine a8 (ag [] rfl ?_);refine AWp.sub (Sub.freeze (id := 720) rfl) ?_;refine a8 (ag [] rfl ?_);refine a8 (a8 (ag [] rfl ?_));refine aC ?_;refine aJ (fun i : Nat => mkt [(1, Go.AM.T s), (5, .one (.vp 5 0)), (11, bN (pfR b)), (12, .one (.clo 131 [.vp 3 0])), (60, .one (.ras 1 1 lN)), (61, I .i64 ((1 : Nat) : Int)), (62, I .i64 i)] ([(3, grO lN lP), (5, .var 37 (bF b))] ++ lH n t x k) []) (fun i => i ≤ 1) (fun i => 1 - i) 0 (zero_le _) (slG lHW) ?_;intro i hi;refine a8 (ag [] rfl ?_);refine a8 (aB rfl (fun hb => ?_) (fun hb => ?_))
 ·have hi0 : i = 0 := by
   have : (i : Int) < ((1 : Nat) : Int) := zq0 hb;omega
  subst hi0;refine aD ?_;refine a8 (aC (a8 (ag [] rfl ?_)));refine a8 (aF mixed ?_);refine ak 4 [] rfl ?_;refine kc hcf ?_;refine az ?_;refine aB rfl (fun hb => by cases hb) (fun hb => ?_);refine aD ?_;refine ag [] rfl ?_;exact ⟨1, le_refl _, by dsimp only; omega, slG lHW⟩
 have hge : i = 1 := by
  have : ¬ (i : Int) < ((1 : Nat) : Int) := zq1 hb;omega
 subst hge;refine aK ?_;refine aF mixed ?_;refine ak 3 [] rfl ?_;refine kv (caps := [.vp 3 0]) (args := [Go.AM.T s, .pa (aA b)]) hca2 ?_;refine az ?_;exact ⟨.inl rfl, aBp hF (FarEq.outs hF) ⟨[], [], .nil, .nil, rfl⟩ (fun _ h => by cases h) lHW.refs (fun i hi => GW.kf i hi) (fun q hq => by rcases mem_append.1 hq with hq | hq; exact (all_eq_true.1 (lHW (n := n) (t := t) (x := x) (k := k)).plain) q hq; cases hq)⟩
def w30 (s : Str) : Nat := max 30 s.length
mutual
def m30 : Core → Nat
 | .mk _ _ s _ ks bs al => 1 + w30 s + cS ks + fR bs + iL al
def cS : List Core → Nat
 | [] => 0
 | c :: l => m30 c + cS l
def fR : List Bind → Nat
 | [] => 0
 | .mk s _ c :: l => 1 + w30 s + m30 c + fR l
def iL : List Alt → Nat
 | [] => 0
 | .mk _ _ s vs c :: l => 1 + w30 s + (vs.map fun v => 1 + w30 v).sum + m30 c + iL l
end
mutual
def wfE : Core → Bool
 | .mk f _ _ _ ks bs al => !decide (f = 7) && (!decide (f = 5) || (ks.length == 1 && bs.isEmpty && al.isEmpty)) && aU0 ks && aU1 bs && aU2 al
def aU0 : List Core → Bool
 | [] => true
 | c :: l => wfE c && aU0 l
def aU1 : List Bind → Bool
 | [] => true
 | .mk _ _ c :: l => wfE c && aU1 l
def aU2 : List Alt → Bool
 | [] => true
 | .mk _ _ _ _ c :: l => wfE c && aU2 l
end
theorem aCp (s : Str) : s.length ≤ w30 s := le_max_right ..
theorem gU (s : Str) : 30 ≤ w30 s := le_max_left ..
theorem aFl {z s : Str} (h : z.length ≤ 30) : w30 z ≤ w30 s := by unfold w30; omega
theorem aVn : ∀ vs : List Str, (vs.map fun v => 1 + v.length).sum ≤ (vs.map fun v => 1 + w30 v).sum
 | [] => le_refl _
 | v :: vs => by
  simp only [map_cons, sum_cons];have := aVn vs;have := aCp v;omega
mutual
theorem cO : ∀ c : Core, aR c ≤ m30 c
 | .mk _ _ s _ ks bs al => by
  rw [aR, m30];have := tI ks;have := tR bs;have := tX al;have := aCp s;omega
theorem tI : ∀ l : List Core, bJ l ≤ cS l
 | [] => by rw [bJ, cS]; exact le_refl _
 | c :: l => by
  rw [bJ, cS];have := cO c;have := tI l;omega
theorem tR : ∀ l : List Bind, bW l ≤ fR l
 | [] => by rw [bW, fR]; exact le_refl _
 | .mk s _ c :: l => by
  rw [bW, bsize, fR];have := cO c;have := tR l;have := aCp s;omega
theorem tX : ∀ l : List Alt, bR l ≤ iL l
 | [] => by rw [bR, iL]; exact le_refl _
 | .mk _ _ s vs c :: l => by
  rw [bR, jC, iL];have := cO c;have := tX l;have := aCp s;have := aVn vs;omega
end
theorem eT (c : Core) : 31 ≤ m30 c := by obtain ⟨_, _, s, _, ks, bs, al⟩ := c; rw [m30]; have := gU s; omega
theorem iK : ∀ {l : List Core} {c : Core}, c ∈ l → m30 c ≤ cS l
 | d :: l, c, h => by
  rw [cS];rcases mem_cons.1 h with rfl | h
  ·omega
  ·have := iK h; omega
theorem lD : ∀ {l : List Bind} {b : Bind}, b ∈ l → m30 b.body ≤ fR l
 | .mk s t c :: l, b, h => by
  rw [fR];rcases mem_cons.1 h with rfl | h
  ·show m30 c ≤ _; omega
  ·have := lD h; omega
theorem gD : ∀ {l : List Alt} {a : Alt}, a ∈ l → m30 a.body + (a.vars.map fun v => 1 + w30 v).sum ≤ iL l
 | .mk f n s vs c :: l, a, h => by
  rw [iL];rcases mem_cons.1 h with rfl | h
  ·show m30 c + (vs.map fun v => 1 + w30 v).sum ≤ _; omega
  ·have := gD h; omega
theorem pN : ∀ a b : List Core, cS (a ++ b) = cS a + cS b
 | [], b => by rw [cS]; simp
 | c :: a, b => by rw [cons_append, cS, cS, pN a b]; omega
theorem r4 : ∀ l : List Bind, cS (l.map Bind.body) + 31 * l.length ≤ fR l
 | [] => by rw [map_nil, cS, fR]; simp
 | .mk s t c :: l => by
  rw [map_cons, cS, fR];have := r4 l;have := gU s;show m30 c + _ + _ ≤ _;rw [length_cons];omega
theorem aEd : ∀ l : List Core, 31 * l.length ≤ cS l
 | [] => by simp
 | c :: l => by rw [cS, length_cons]; have := aEd l; have := eT c; omega
theorem aEo : ∀ ps : List Core, (ps.flatMap pfR).length ≤ cS ps
 | [] => by simp
 | p :: ps => by
  rw [flatMap_cons, length_append, cS];have := aF4 p;have := cO p;have := aEo ps;omega
theorem j0 (c : Core) : (pfR c).length ≤ m30 c := le_trans (aF4 c) (cO c)
theorem qF : ∀ vs : List Str, 31 * vs.length ≤ (vs.map fun v => 1 + w30 v).sum
 | [] => le_refl _
 | v :: vs => by simp only [map_cons, sum_cons, length_cons]; have := qF vs; have := gU v; omega
inductive A2 {α β : Type} (R : α → β → Prop) : List α → List β → Prop
 | nil : A2 R [] []
 | cons {a b l m} : R a b → A2 R l m → A2 R (a :: l) (b :: m)
theorem A2.refl {α : Type} {R : α → α → Prop} (h : ∀ a, R a a) : ∀ l, A2 R l l
 | [] => .nil
 | a :: l => .cons (h a) (A2.refl h l)
theorem A2.trans {α : Type} {R : α → α → Prop} (h : ∀ a b c, R a b → R b c → R a c) {l m k : List α} (h1 : A2 R l m) : A2 R m k → A2 R l k := by
 induction h1 generalizing k with
 | nil => intro h2; cases h2; exact .nil
 | cons r _ ih => intro h2; cases h2 with | cons r' h2 => exact .cons (h _ _ _ r r') (ih h2)
theorem A2.map {α : Type} {R : α → α → Prop} {f : α → α} (h : ∀ a, R a (f a)) : ∀ l, A2 R l (l.map f)
 | [] => .nil
 | a :: l => .cons (h a) (A2.map h l)
theorem A2.length {α β : Type} {R : α → β → Prop} {l : List α} {m : List β} (h : A2 R l m) : m.length = l.length := by
 induction h with
 | nil => rfl
 | cons _ _ ih => simp [ih]
theorem A2.take {α β : Type} {R : α → β → Prop} {l : List α} {m : List β} (h : A2 R l m) : ∀ n : Nat, A2 R (l.take n) (m.take n) := by
 induction h with
 | nil => intro n; simp; exact .nil
 | cons r _ ih =>
  intro n;cases n with
  | zero => exact .nil
  | succ n => exact .cons r (ih n)
theorem A2.drop {α β : Type} {R : α → β → Prop} {l : List α} {m : List β} (h : A2 R l m) : ∀ n : Nat, A2 R (l.drop n) (m.drop n) := by
 induction h with
 | nil => intro n; simp; exact .nil
 | cons r h ih =>
  intro n;cases n with
  | zero => exact .cons r h
  | succ n => exact ih n
theorem A2.mono {α β : Type} {R R' : α → β → Prop} (hm : ∀ a b, R a b → R' a b) {l : List α} {m : List β} (h : A2 R l m) : A2 R' l m := by
 induction h with
 | nil => exact .nil
 | cons r _ ih => exact .cons (hm _ _ r) ih
def nh (s : Str) : Prop := s.head? ≠ some 37
theorem aGd (n : Nat) : nh (bP n) := by
 have key : ∀ m : _root_.Fin 26, UInt8.ofNat (97 + m.val) ≠ 37 := by decide
 have h : UInt8.ofNat (97 + n % 26) ≠ 37 := key ⟨n % 26, Nat.mod_lt _ (by decide)⟩;unfold nh bP;split
 ·simpa using h
 ·simpa using h
theorem aOg (l : List Str) : nh (aZ l) := aGd _
def NR (n n' : Str) : Prop := n' = n ∨ (n'.length ≤ 30 ∧ nh n')
theorem NR.w {n n' : Str} (h : NR n n') : w30 n' ≤ w30 n := by
 rcases h with rfl | ⟨h, _⟩
 ·exact le_refl _
 ·exact aFl h
theorem NR.nh {n n' : Str} (h : NR n n') (hn : nh n) : nh n' := by
 rcases h with rfl | ⟨_, h⟩
 ·exact hn
 ·exact h
section
variable {sb : Core → Str → Core → Core}
theorem aEl {Rel : Core → Core → Prop} (hr : ∀ p, Rel p p) (ht : ∀ p q r, Rel p q → Rel q r → Rel p r) {far : List Str} (hz : ∀ p n z, z.length ≤ 30 → Rel p (sb p n (vC z))) :
  ∀ {ns : List Str} {st : List Str × List Core × List Str}, st.2.2.length + ns.length ≤ 540000000000 →
   A2 Rel st.2.1 (iU sb far ns st).2.1 ∧ ∃ ns', (iU sb far ns st).1 = st.1 ++ ns' ∧ A2 NR ns ns'
 | [], st, _ => ⟨A2.refl hr _, [], by show st.1 = _; simp, .nil⟩
 | n :: ns, st, hl => by
  simp only [length_cons] at hl;have hg := n8 (sb := sb) (far := far) (st := st) (n := n);obtain ⟨h1, ns', h2, h3⟩ := aEl hr ht hz (far := far) (ns := ns) (st := dE sb far st n) (by omega);have e : iU sb far (n :: ns) st = iU sb far ns (dE sb far st n) := rfl;rw [e];have hf : (aZ st.2.2).length ≤ 30 := le_trans (j5 _ (by omega)) (by omega);by_cases hn : n ∈ far
  ·have es : dE sb far st n = (st.1 ++ [aZ st.2.2], st.2.1.map (fun p => sb p n (vC (aZ st.2.2))), st.2.2 ++ [aZ st.2.2]) := by unfold dE; rw [if_pos hn]
   rw [es] at h1 h2 ⊢;refine ⟨A2.trans ht (A2.map (fun p => hz p n _ hf) _) h1, aZ st.2.2 :: ns', ?_, .cons (.inr ⟨hf, aOg _⟩) h3⟩;rw [h2, append_assoc]; rfl
  ·have es : dE sb far st n = (st.1 ++ [n], st.2.1, st.2.2) := by unfold dE; rw [if_neg hn]
   rw [es] at h1 h2 ⊢;refine ⟨h1, n :: ns', ?_, .cons (.inl rfl) h3⟩;rw [h2, append_assoc]; rfl
theorem aDw {Rel : Core → Core → Prop} (hr : ∀ p, Rel p p) (ht : ∀ p q r, Rel p q → Rel q r → Rel p r) {s : Str} {b : Core} {ns : List Str} {ps : List Core} (hz : ∀ p n z, z.length ≤ 30 → Rel p (sb p n (vC z)))
  (hl : (ps.flatMap pfR).length + 2 * ns.length + (pfR b).length ≤ 540000000000) : (∃ qs, A2 Rel ps qs ∧ ((cK sb s b ns ps).2 = qs ∨ (cK sb s b ns ps).2 = qs.map fun p => sb p s b)) ∧ A2 NR ns (cK sb s b ns ps).1 := by
 unfold cK;split
 ·obtain ⟨h1, ns', h2, h3⟩ := aEl hr ht hz (far := pfR b) (ns := ns) (st := ([], ps, ps.flatMap pfR ++ ns ++ pfR b)) (by simp only [length_append]; omega);exact ⟨⟨_, h1, .inr rfl⟩, by rw [h2]; exact h3⟩
 ·exact ⟨⟨ps, A2.refl hr _, .inl rfl⟩, A2.refl (fun _ => .inl rfl) _⟩
end
theorem uC : ∀ {l : List Core}, aU0 l = true ↔ ∀ x ∈ l, wfE x = true
 | [] => by simp [aU0]
 | c :: l => by rw [aU0, Bool.and_eq_true, uC (l := l)]; simp
theorem uD : ∀ {l : List Bind}, aU1 l = true ↔ ∀ x ∈ l, wfE x.body = true
 | [] => by simp [aU1]
 | .mk _ _ c :: l => by rw [aU1, Bool.and_eq_true, uD (l := l)]; simp [Bind.body]
theorem uE : ∀ {l : List Alt}, aU2 l = true ↔ ∀ x ∈ l, wfE x.body = true
 | [] => by simp [aU2]
 | .mk _ _ _ _ c :: l => by rw [aU2, Bool.and_eq_true, uE (l := l)]; simp [Alt.body]
theorem A2.mem {α β : Type} {R : α → β → Prop} {l : List α} {m : List β} (h : A2 R l m) : ∀ b ∈ m, ∃ a ∈ l, R a b := by
 induction h with
 | nil => intro b hb; cases hb
 | cons r _ ih =>
  intro b hb;rcases mem_cons.1 hb with rfl | hb
  ·exact ⟨_, zq2, r⟩
  ·obtain ⟨a, ha, hab⟩ := ih b hb;exact ⟨a, zq3 _ ha, hab⟩
theorem A2.mapL {α β γ : Type} {R : β → γ → Prop} {f : α → β} : ∀ {l : List α} {m : List γ}, A2 R (l.map f) m → A2 (fun a c => R (f a) c) l m
 | [], m, h => by cases h; exact .nil
 | a :: l, m, h => by
  cases h with
  | cons r h => exact .cons r (A2.mapL h)
theorem kJ : ∀ {ts : List Ty} {ns : List Str} {ps : List Core} {x : Bind}, x ∈ mkB ts ns ps → x.body ∈ ps ∧ x.ty ∈ ts
 | t :: ts, n :: ns, p :: ps, x, h => by
  unfold mkB at h;rcases mem_cons.1 h with rfl | h
  ·exact ⟨zq2, zq2⟩
  ·obtain ⟨h1, h2⟩ := kJ h;exact ⟨zq3 _ h1, zq3 _ h2⟩
 | [], _, _, x, h => by unfold mkB at h; cases h
 | _ :: _, [], _, x, h => by unfold mkB at h; cases h
 | _ :: _, _ :: _, [], x, h => by unfold mkB at h; cases h
theorem rK {T : Ty → Prop} : ∀ {l : List Core}, zX T l ↔ ∀ x ∈ l, allT T x
 | [] => by simp [zX]
 | c :: l => by rw [zX, rK (l := l)]; simp
theorem kY {T : Ty → Prop} : ∀ {l : List Bind}, wQ T l ↔ ∀ x ∈ l, T x.ty ∧ allT T x.body
 | [] => by simp [wQ]
 | .mk _ t c :: l => by rw [wQ, kY (l := l)]; simp [Bind.body, Bind.ty, and_assoc]
theorem kZ {T : Ty → Prop} : ∀ {l : List Alt}, wR T l ↔ ∀ x ∈ l, allT T x.body
 | [] => by simp [wR]
 | .mk _ _ _ _ c :: l => by rw [wR, kZ (l := l)]; simp [Alt.body]
def Big : Nat := 250000000000
theorem aQq {z : Str} (h : z.length ≤ 30) : m30 (vC z) = 31 := by
 unfold vC;rw [m30, cS, fR, iL];unfold w30; omega
theorem aBg {f : Int} {nm : Str} {bs : List Bind} : (gvN f nm bs).length ≤ 1 + bs.length := by unfold gvN; split <;> simp; omega
theorem aPr {f n : Int} {nm : Str} {t : Ty} {ks : List Core} {bs : List Bind} {al : List Alt} (h : wfE (.mk f n nm t ks bs al) = true) : f ≠ 7 ∧ (f = 5 → (∃ k, ks = [k]) ∧ bs = [] ∧ al = []) ∧ (∀ x ∈ ks, wfE x = true) ∧ (∀ x ∈ bs, wfE x.body = true) ∧ (∀ x ∈ al, wfE x.body = true) := by
 rw [wfE, Bool.and_eq_true, Bool.and_eq_true, Bool.and_eq_true, Bool.and_eq_true] at h;obtain ⟨⟨⟨⟨h1, h2⟩, h3⟩, h4⟩, h5⟩ := h;refine ⟨by simpa using h1, fun hf => ?_, uC.1 h3, uD.1 h4, uE.1 h5⟩;rw [decide_eq_true hf] at h2;simp only [Bool.not_true, Bool.false_or, Bool.and_eq_true, beq_iff_eq, isEmpty_iff] at h2;exact ⟨length_eq_one_iff.1 h2.1.1, h2.1.2, h2.2⟩
theorem aU3 {f n : Int} {nm : Str} {t : Ty} {ks : List Core} {bs : List Bind} {al : List Alt} (h1 : f ≠ 7) (h2 : f = 5 → (∃ k, ks = [k]) ∧ bs = [] ∧ al = []) (h3 : ∀ x ∈ ks, wfE x = true) (h4 : ∀ x ∈ bs, wfE x.body = true) (h5 : ∀ x ∈ al, wfE x.body = true) : wfE (.mk f n nm t ks bs al) = true := by
 rw [wfE, Bool.and_eq_true, Bool.and_eq_true, Bool.and_eq_true, Bool.and_eq_true];refine ⟨⟨⟨⟨by simpa using h1, ?_⟩, uC.2 h3⟩, uD.2 h4⟩, uE.2 h5⟩;by_cases hf : f = 5
 ·obtain ⟨⟨k, rfl⟩, rfl, rfl⟩ := h2 hf;simp
 ·rw [decide_eq_false hf]; rfl
theorem xE {vs vs' : List Str} (h : A2 NR vs vs') : (vs'.map fun v => 1 + w30 v).sum ≤ (vs.map fun v => 1 + w30 v).sum := by
 induction h with
 | nil => exact le_refl _
 | cons r _ ih =>
  simp only [map_cons, sum_cons];have := r.w;omega
section
variable {clr : Core → List Str → Core} {T : Ty → Prop}
end
end Go.Proofs.YtmoekkcdkjopgaaGreatDoor
