/-
  The law EraseLets, to its card: what is here proves that the call returns true whatever its arguments, and that they read as they did.
-/
import Derived.Test.YtmoekkcdkjopgaaGreatDoorM13
import Derived.Test.YtmoekkcdkjopgaaGreatDoorCards
import Derived.Test.YtmoekkcdkjopgaaGreatDoorTie
import Derived.ProofKit
import Derived.Lib.LaidTab
import Derived.Stop.LaidErr
import Derived.OpenShut
import Derived.LaidMore
import Derived.Lay
import Derived.SevenTiedAt
import Derived.Stop.Joined
open List (all_eq_true append_assoc append_nil cons_append length_append length_cons length_map length_take length_zip map_cons map_map map_nil mem_append mem_cons mem_map mem_of_mem_drop mem_of_mem_take mem_or_eq_of_mem_set mem_singleton nil_append not_mem_nil sum_cons sum_nil take_add_one take_length)
open Nat (le_mul_of_pos_right le_refl le_trans zero_le)
namespace Go.Proofs.YtmoekkcdkjopgaaGreatDoor
open Go Go.AM
set_option maxRecDepth 20000
mutual
theorem aP1 : ∀ t : Ty, t30 t ≤ 31 * tn t
 | .mk f n s a => by
  rw [tn, t30];have := aHz a;omega
theorem aHz : ∀ l : List Ty, aYu l ≤ 31 * tns l
 | [] => le_refl _
 | t :: l => by
  rw [tns, aYu];have := aP1 t;have := aHz l;omega
end
theorem aP2 : ∀ vs : List Str, (vs.map fun v => 1 + w30 v).sum ≤ 31 * (vs.map fun v => 1 + v.length).sum
 | [] => le_refl _
 | v :: vs => by
  simp only [map_cons, sum_cons];have := aP2 vs;unfold w30;unfold w30 at this;omega
mutual
theorem n6 : ∀ c : Core, m30 c ≤ 31 * aR c
 | .mk _ _ s _ ks bs al => by
  rw [aR, m30, w30];have := sU ks;have := sV bs;have := sW al;omega
theorem sU : ∀ l : List Core, cS l ≤ 31 * bJ l
 | [] => by rw [bJ, cS]; exact le_refl _
 | c :: l => by
  rw [bJ, cS];have := n6 c;have := sU l;omega
theorem sV : ∀ l : List Bind, fR l ≤ 31 * bW l
 | [] => by rw [bW, fR]; exact le_refl _
 | .mk s _ c :: l => by
  rw [bW, bsize, fR, w30];have := n6 c;have := sV l;omega
theorem sW : ∀ l : List Alt, iL l ≤ 31 * bR l
 | [] => by rw [bR, iL]; exact le_refl _
 | .mk _ _ s vs c :: l => by
  rw [bR, jC, iL, w30];have := n6 c;have := sW l;have := aP2 vs;omega
end
def MkW (g : List Int → Int → Mk) : Prop := ∀ l left, wfC (g l left).1 = true ∧ allT (TOk 2790) (g l left).1
theorem aVf : TOk 2790 zTy := ⟨by decide, by decide⟩
theorem aC7 (l : List Int) : TOk 2790 (cC 2 l).1 := by
 obtain ⟨h1, h2⟩ := aAi 2 l;have h3 := aP1 (cC 2 l).1;have h4 : tsm 2 = 42 := rfl;exact ⟨h1, by omega⟩
theorem aCg : ∀ a b, oK (a ++ b) = (oK a && oK b)
 | [], b => by rw [nil_append, oK, Bool.true_and]
 | .mk s t c :: a, b => by rw [cons_append, oK, oK, aCg a b, Bool.and_assoc]
theorem aCi : ∀ a b, oL (a ++ b) = (oL a && oL b)
 | [], b => by rw [nil_append, oL, Bool.true_and]
 | .mk f n s v c :: a, b => by rw [cons_append, oL, oL, aCi a b, Bool.and_assoc]
theorem zI {g : List Int → Int → Mk} (h : MkW g) (ns : List Str) (l : List Int) (left : Int) : ∀ i : Nat, oK (bL g ns l left i).1 = true ∧ wQ (TOk 2790) (bL g ns l left i).1
 | 0 => ⟨by simp [bL, oK], trivial⟩
 | i + 1 => by
  obtain ⟨h1, h2⟩ := zI h ns l left i;simp only [bL];generalize bL g ns l left i = r at h1 h2 ⊢;obtain ⟨h3, h4⟩ := h (cC 2 r.2.1).2 r.2.2;refine ⟨by rw [aCg, h1, oK, oK, h3]; rfl, kY.2 fun x hx => ?_⟩;rcases mem_append.1 hx with hx | hx
  ·exact kY.1 h2 x hx
  ·rw [mem_singleton.1 hx];exact ⟨aC7 _, h4⟩
theorem aFc {g : List Int → Int → Mk} (h : MkW g) (n : Int) (l : List Int) (left : Int) : ∀ i : Nat, oL (cH g n l left i).1 = true ∧ wR (TOk 2790) (cH g n l left i).1
 | 0 => ⟨by simp [cH, oL], trivial⟩
 | i + 1 => by
  obtain ⟨h1, h2⟩ := aFc h n l left i;simp only [cH];generalize cH g n l left i = r at h1 h2 ⊢;obtain ⟨h3, h4⟩ := h (b6 r.2.1).2 r.2.2;have hx : ∃ f n' s v, (if i = 1 then Alt.mk 2 (n / 14) [] [] (g (b6 r.2.1).2 r.2.2).1 else if i = 2 then .mk 3 0 [] [] (g (b6 r.2.1).2 r.2.2).1 else .mk 1 0 (oneOf aK1 (n / 14 + i)) (b6 r.2.1).1 (g (b6 r.2.1).2 r.2.2).1) = .mk f n' s v (g (b6 r.2.1).2 r.2.2).1 := by
   split
   ·exact ⟨_, _, _, _, rfl⟩
   ·split
    ·exact ⟨_, _, _, _, rfl⟩
    ·exact ⟨_, _, _, _, rfl⟩
  obtain ⟨f, n', s, v, e⟩ := hx;rw [e];refine ⟨by rw [aCi, h1, oL, oL, h3]; rfl, kZ.2 fun x hx => ?_⟩;rcases mem_append.1 hx with hx | hx
  ·exact kZ.1 h2 x hx
  ·rw [mem_singleton.1 hx];exact h4
theorem aKw {g : List Int → Int → Mk} (h : MkW g) (n k : Int) (l : List Int) (left : Int) : wfC (dI g n k l left).1 = true ∧ allT (TOk 2790) (dI g n k l left).1 := by
 obtain ⟨h1, t1⟩ := h l left;obtain ⟨h2, t2⟩ := h (g l left).2.1 (g l left).2.2;obtain ⟨h3, t3⟩ := h (cC 2 l).2 left;have ht := aC7 l;have hz := aVf;unfold dI;split
 ·exact ⟨by simp [wfC, x4, oK, oL], hz, trivial, trivial, trivial⟩
 split
 ·exact ⟨by simp [wfC, x4, oK, oL], hz, trivial, trivial, trivial⟩
 split
 ·exact ⟨by simp [wfC, x4, oK, oL], hz, trivial, trivial, trivial⟩
 split
 ·exact ⟨by simp [wfC, x4, oK, oL, h1, h2], hz, ⟨t1, t2, trivial⟩, trivial, trivial⟩
 split
 ·exact ⟨by simp [wfC, x4, oK, oL, h3], ht, ⟨t3, trivial⟩, trivial, trivial⟩
 split
 ·exact ⟨by simp [wfC, x4, oK, oL, h3], ht, ⟨t3, trivial⟩, trivial, trivial⟩
 split
 ·exact ⟨by simp [wfC, x4, oK, oL, h1], hz, ⟨t1, trivial⟩, trivial, trivial⟩
 split
 ·obtain ⟨b1, b2⟩ := zI h (b6 l).1 (b6 l).2 left (b6 l).1.length;generalize bL g (b6 l).1 (b6 l).2 left (b6 l).1.length = r at b1 b2 ⊢;obtain ⟨h4, t4⟩ := h r.2.1 r.2.2;exact ⟨by simp [wfC, x4, oL, b1, h4], hz, ⟨t4, trivial⟩, b2, trivial⟩
 split
 ·obtain ⟨b1, b2⟩ := aFc h n (g (cC 2 l).2 left).2.1 (g (cC 2 l).2 left).2.2 (n / 14 % 4).toNat;dsimp only;generalize cH g n (g (cC 2 l).2 left).2.1 (g (cC 2 l).2 left).2.2 (n / 14 % 4).toNat = r at b1 b2 ⊢;exact ⟨by simp [wfC, x4, oK, b1, h3], ht, ⟨t3, trivial⟩, trivial, b2⟩
 split
 ·exact ⟨by simp [wfC, x4, oK, oL, h1, h2], hz, ⟨t1, t2, trivial⟩, trivial, trivial⟩
 ·exact ⟨by simp [wfC, x4, oK, oL], ht, trivial, trivial, trivial⟩
theorem aKv : ∀ f : Nat, MkW (nJ f)
 | 0 => fun l left => aKw (g := fun l left => ((.mk 0 0 [] zTy [] [] [], l, left) : Mk)) (fun _ _ => ⟨by simp [wfC, x4, oK, oL], aVf, trivial, trivial, trivial⟩) _ _ _ _
 | f + 1 => fun l left => aKw (aKv f) _ _ _ _
theorem aWq (l : List Int) : wfC (fK l) = true ∧ allT (TOk 2790) (fK l) ∧ m30 (fK l) ≤ 93000 := by
 obtain ⟨h1, h2⟩ := aKv 6 (l.take 60) 30;have h3 := n6 (fK l);have h4 := (aN4 l).2
 exact ⟨h1, h2, by omega⟩
mutual
theorem aKq : ∀ c : Core, cI (QL 403) c → MW [] (bO c) ∧ m30 (bO c) ≤ m30 c
 | .mk f n s t ks bs al, h => by
  obtain ⟨⟨q1, q2, q3, q4, q5, q6, q7, q8⟩, hk, hb, ha⟩ := bC.1 h;obtain ⟨k1, k2, k3⟩ := aQ0 ks hk;obtain ⟨b1, b2, b3⟩ := aQ1 bs hb;obtain ⟨a1, a2, a3⟩ := aQ2 al ha;rw [bO];by_cases h67 : f = 6 ∨ f = 7
  ·obtain ⟨⟨k, rfl⟩, rfl, rfl⟩ := iR h (.inr h67);rw [if_pos ⟨h67, by simp⟩];have e : bS [k] = [bO k] := by rw [bS, bS]
   rw [e] at k1 k2 ⊢;refine ⟨k1 (bO k) zq2, ?_⟩;rw [cS, cS, cS, cS] at k2;rw [m30, cS, cS];show m30 (bO k) ≤ _;omega
  ·rw [if_neg (fun h => h67 h.1)];have eb : ((bZ bs).map bhd).map (·.1) = (bs.map bhd).map (·.1) := by
    rw [map_map, map_map]; exact b3
   have ebl : ((bZ bs).map bhd).length = (bs.map bhd).length := by
    have := congrArg List.length eb;simpa using this
   have hbz : ∀ p ∈ (bZ bs).map bhd, p.2 = zTy ∧ ∃ p' ∈ bs.map bhd, p'.1 = p.1 := fun p hp => by
    obtain ⟨b, hb', rfl⟩ := mem_map.1 hp;refine ⟨(b1 b hb').1, ?_⟩;have : (bhd b).1 ∈ (bs.map bhd).map (·.1) := by
     rw [← eb];exact mem_map.2 ⟨bhd b, hp, rfl⟩
    obtain ⟨p', h1, h2⟩ := mem_map.1 this;exact ⟨p', h1, h2⟩
   refine ⟨jW ⟨by rw [ebl, a3, k3]; exact q1, fun e => absurd (.inr e) h67, rfl, fun p hp => by rw [(hbz p hp).1]; rfl, le_trans (pO (le_refl _) eb a3) q5, q6, fun p hp => ?_, by rw [a3]; exact q8⟩ .z k1 (fun b hb' => ⟨by rw [(b1 b hb').1]; exact .z, (b1 b hb').2⟩) a1, ?_⟩
   ·obtain ⟨_, p', h1, h2⟩ := hbz p hp;rw [← h2]; exact q7 p' h1
   ·rw [m30, m30]; omega
theorem aQ0 : ∀ l : List Core, (∀ x ∈ l, cI (QL 403) x) → (∀ x ∈ bS l, MW [] x) ∧ cS (bS l) ≤ cS l ∧ (bS l).length = l.length
 | [], _ => by rw [bS]; exact ⟨by simp, le_refl _, rfl⟩
 | c :: l, h => by
  obtain ⟨h1, h2⟩ := aKq c (h c zq2);obtain ⟨g1, g2, g3⟩ := aQ0 l fun x hx => h x (zq3 _ hx)
  rw [bS];refine ⟨fun x hx => ?_, by rw [cS, cS]; omega, by rw [length_cons, length_cons, g3]⟩;rcases mem_cons.1 hx with rfl | hx
  ·exact h1
  ·exact g1 x hx
theorem aQ1 : ∀ l : List Bind, (∀ x ∈ l, cI (QL 403) x.body) → (∀ x ∈ bZ l, x.ty = zTy ∧ MW [] x.body) ∧ fR (bZ l) ≤ fR l ∧ (bZ l).map Bind.name = l.map Bind.name
 | [], _ => by rw [bZ]; exact ⟨by simp, le_refl _, rfl⟩
 | .mk s t c :: l, h => by
  obtain ⟨h1, h2⟩ := aKq c (h _ zq2);obtain ⟨g1, g2, g3⟩ := aQ1 l fun x hx => h x (zq3 _ hx)
  rw [bZ, eO];refine ⟨fun x hx => ?_, by rw [fR, fR]; omega, by rw [map_cons, map_cons, g3]; rfl⟩;rcases mem_cons.1 hx with rfl | hx
  ·exact ⟨rfl, h1⟩
  ·exact g1 x hx
theorem aQ2 : ∀ l : List Alt, (∀ x ∈ l, cI (QL 403) x.body) → (∀ x ∈ cX l, MW [] x.body) ∧ iL (cX l) ≤ iL l ∧ (cX l).map ahd = l.map ahd
 | [], _ => by rw [cX]; exact ⟨by simp, le_refl _, rfl⟩
 | .mk f n s v c :: l, h => by
  obtain ⟨h1, h2⟩ := aKq c (h _ zq2);obtain ⟨g1, g2, g3⟩ := aQ2 l fun x hx => h x (zq3 _ hx)
  rw [cX, kR];refine ⟨fun x hx => ?_, by rw [iL, iL]; omega, by rw [map_cons, map_cons, g3]; rfl⟩;rcases mem_cons.1 hx with rfl | hx
  ·exact h1
  ·exact g1 x hx
end
theorem aBj : ∀ {l : List Core}, gCs l = true → ∀ x ∈ l, gR x = true
 | c :: l, h, x, hx => by
  rw [gCs, Bool.and_eq_true] at h;rcases mem_cons.1 hx with rfl | hx
  ·exact h.1
  ·exact aBj h.2 x hx
theorem aBk : ∀ {l : List Bind}, gBs l = true → ∀ x ∈ l, gR x.body = true
 | .mk s t c :: l, h, x, hx => by
  rw [gBs, Bool.and_eq_true, Bool.and_eq_true] at h;rcases mem_cons.1 hx with rfl | hx
  ·exact h.1.2
  ·exact aBk h.2 x hx
theorem aBl : ∀ {l : List Alt}, gAs l = true → ∀ x ∈ l, gR x.body = true
 | .mk f n s v c :: l, h, x, hx => by
  rw [gAs, Bool.and_eq_true, Bool.and_eq_true] at h;rcases mem_cons.1 hx with rfl | hx
  ·exact h.1.2
  ·exact aBl h.2 x hx
theorem aZ1 : ∀ (k : Nat) (c : Core), m30 c ≤ k → gR c = true → ∀ x ∈ pfR c, nmB x = true := by
 intro k
 induction k with
 | zero => intro c h; have := eT c; omega
 | succ k ih =>
 intro c hk h x hx;obtain ⟨f, n, s, t, ks, bs, al⟩ := c;rw [gR] at h;simp only [Bool.and_eq_true] at h;obtain ⟨_, h1, h2, h3, h4⟩ := h;rw [m30] at hk;by_cases hf : f = 1
 ·rw [if_neg (by omega), if_pos hf] at h1;simp only [Bool.and_eq_true] at h1;rw [pfR, if_pos hf] at hx;rw [mem_singleton.1 hx]; exact h1.1
 ·rcases (oN hf).1 hx with ⟨p, hp, g1, _⟩ | ⟨a, ha, g1, _⟩
  ·rcases mem_append.1 hp with hp | hp
   ·exact ih p (by have := iK hp; omega) (aBj h2 p hp) x g1
   ·obtain ⟨b, hb, rfl⟩ := mem_map.1 hp;exact ih b.body (by have := lD hb; omega) (aBk h3 b hb) x g1
  ·exact ih a.body (by have := gD ha; omega) (aBl h4 a ha) x g1
theorem aN5 (l : List Int) : (∀ n, ST n [] (bO (fK l))) ∧ ¬ sN ∈ pfR (bO (fK l)) ∧ fM (bO (fK l)) ≤ 3000 ∧ m30 (bO (fK l)) ≤ 93000 := by
 obtain ⟨_, _, h3⟩ := aWq l;obtain ⟨g1, _, g3, _⟩ := aJq l;have hm : MW l5 (fK l) := aBt 6 (l.take 60) 30;obtain ⟨e1, e2⟩ := aKq (fK l) hm.q;have h4 := size_le (bO (fK l));have h5 := eZ (bO (fK l));refine ⟨fun n => ST.of e1 (by omega) (by omega) n, fun h => ?_, by omega, by omega⟩;have := aZ1 _ _ (le_refl _) g1 _ h
 revert this
 decide
theorem aOs : aY Tryz.prog 176 [tyV zTy, tyV zTy, bN [], bN []] [] (B true) [] := by
 refine c8 (n := 116) tok Tryz.func176 rfl rfl rfl ?_;refine a8 (ag [] rfl ?_);refine a8 (a8 (ag [(5, .bv false), (11, .bv false), (12, .bv false), (20, .bv false)] rfl ?_));refine aB rfl (fun hb => by simp at hb) (fun _ => ?_);refine aD ?_;refine a8 (a8 (ag [] rfl ?_));refine aC ?_;refine a8 (ag [] rfl ?_);refine aB rfl (fun hb => by cases hb) (fun _ => ?_);refine a8 (ag [] rfl ?_);refine aB rfl (fun hb => by cases hb) (fun _ => ?_);refine aD ?_;refine a8 (a8 (ag [] rfl ?_));refine aB rfl (fun hb => by cases hb) (fun _ => ?_);refine aD ?_;refine a8 (a8 (ag [] rfl ?_));refine aC ?_;refine aJ (fun _ : Unit => mk [(97, I .i64 0), (98, I .i64 0)] []) (fun _ => True) (fun _ => 0) () trivial sl ?_;intro _ _;refine a8 (ag [] rfl ?_);refine a8 (aB rfl (fun hb => by cases hb) (fun _ => ?_));refine aK ?_;refine a8 (ag [] rfl ?_);exact aE rtT
theorem aOu : aY Tryz.prog 133 [tyV zTy, tyV zTy] [] (B true) [] := by
 have h := aOs;refine c8 (n := 8) tok Tryz.func133 rfl rfl rfl ?_;refine a8 (ag [] rfl ?_);refine a8 (aF mixed ?_);refine ak 2 [] rfl ?_;refine kc h ?_;refine ak 1 [] rfl ?_;refine az ?_;exact aE rtT
def gvO (ns : List Str) : AObj := .var 131 [.c (.sl 1 (ns.map bG)), .c (.sl 1 [])]
theorem aT1 (ns : List Str) : aY Tryz.prog 132 ([tyV zTy, tyV zTy] ++ ([.vp 6 0, .vp 7 0] : List R).map V.one) [(6, gvO ns), (7, gvO ns)] (B true) [(6, gvO ns), (7, gvO ns)] := by
 have hcl := aO8 zTy ns;have hs := aOu;refine c8 (n := 14) tok Tryz.func132 rfl rfl rfl ?_;refine a8 (ag [] rfl ?_);refine a8 (aF mixed ?_);refine ak 2 [] rfl ?_;refine kc hcl ?_;refine ak 2 [] rfl ?_;refine kc hcl ?_;refine kc hs ?_;refine ak 1 [] rfl ?_;refine az ?_;exact aE rtT
theorem aWy {c : Core} {g : List (Str × List C) × List Core} (hg : g ∈ gm c) {x : Core} (hx : x ∈ g.2) : x ∈ c.kids ∨ (∃ b ∈ c.binds, x = b.body) ∨ ∃ a ∈ c.alts, x = a.body := by
 unfold gm at hg;rcases mem_cons.1 hg with rfl | hg
 ·rcases mem_append.1 hx with hx | hx
  ·exact .inl hx
  ·obtain ⟨b, hb, rfl⟩ := mem_map.1 hx;exact .inr (.inl ⟨b, hb, rfl⟩)
 ·obtain ⟨a, ha, rfl⟩ := mem_map.1 hg;exact .inr (.inr ⟨a, ha, mem_singleton.1 hx⟩)
theorem zG : ∀ l : List Bind, bJ (l.map Bind.body) + l.length ≤ bW l
 | [] => by rw [map_nil, bJ]; exact zero_le _
 | .mk s t c :: l => by
  rw [map_cons, bJ, bW, bsize, length_cons];have := zG l;show aR c + _ + _ ≤ _;omega
theorem aU9 : ∀ l : List Str, l.length ≤ (l.map fun v => 1 + v.length).sum
 | [] => zero_le _
 | v :: l => by
  simp only [map_cons, sum_cons, length_cons];have := aU9 l;omega
theorem yT : ∀ {l : List Core} {x : Core}, x ∈ l → aR x ≤ bJ l
 | c :: l, x, h => by
  rw [bJ];rcases mem_cons.1 h with rfl | h
  ·omega
  ·have := yT h; omega
theorem zT : ∀ {l : List Alt} {a : Alt}, a ∈ l → aR a.body + a.vars.length ≤ bR l
 | .mk f n s v c :: l, a, h => by
  rw [bR, jC];have := aU9 v;rcases mem_cons.1 h with rfl | h
  ·show aR c + v.length ≤ _;omega
  ·have := zT h; omega
theorem aZ0 {c : Core} {g : List (Str × List C) × List Core} (hg : g ∈ gm c) {x : Core} (hx : x ∈ g.2) : aR x + g.1.length ≤ aR c := by
 obtain ⟨f, n, s, t, ks, bs, al⟩ := c;rw [aR];unfold gm at hg;rcases mem_cons.1 hg with rfl | hg
 ·have h1 := zG bs;have h2 := yT hx;have h3 := jA ks (bs.map Bind.body);have h4 : aR x ≤ bJ ks + bJ (bs.map Bind.body) := by rw [← h3]; exact h2
  have h5 : ((if f = 5 then [((s, (aA (.mk f n s t ks bs al)).drop 3) : Str × List C)] else []) ++ bs.map (fun b => (b.name, (bA b).drop 1))).length ≤ 1 + bs.length := by
   rw [length_append, length_map];split
   ·exact le_refl _
   ·simp
  show aR x + ((if f = 5 then [((s, (aA (.mk f n s t ks bs al)).drop 3) : Str × List C)] else []) ++ bs.map (fun b => (b.name, (bA b).drop 1))).length ≤ _;omega
 ·obtain ⟨a, ha, rfl⟩ := mem_map.1 hg;have ha : a ∈ al := ha;have h1 := zT ha;have hx : x = a.body := mem_singleton.1 hx;subst hx;show aR a.body + (a.vars.map fun v => ((v, []) : Str × List C)).length ≤ _;rw [length_map];omega
def aL9 (c : Core) : Prop := z0R c = true → wfE c = true → ∀ ns : List Str, ns.length + aR c ≤ 400000000 → aY Tryz.prog 71 [.pa (aA c), .pa (aA c), gvV ns, gvV ns] [] (B true) []
theorem aBw (c : Core) (ih : ∀ x, aR x < aR c → aL9 x) : aL9 c := by
 intro hz hw ns hsz;have hin : ∀ g ∈ gm c, ∀ x ∈ g.2, aR x < aR c ∧ z0R x = true ∧ wfE x = true := fun g hg x hx => by
  refine ⟨aS9 (g := gmG g) (by rw [yI]; exact mem_map.2 ⟨g, hg, rfl⟩) hx, ?_⟩;obtain ⟨f, n, s, t, ks, bs, al⟩ := c;simp only [z0R, Bool.and_eq_true] at hz;obtain ⟨_, hzk, hzb, hza⟩ := hz;obtain ⟨_, _, w2, w3, w4⟩ := aPr hw;rcases aWy hg hx with h | ⟨b, hb, rfl⟩ | ⟨a, ha, rfl⟩
  ·exact ⟨aCb hzk x h, w2 x h⟩
  ·exact ⟨(u9 hzb b hb).2, w3 b hb⟩
  ·exact ⟨aCc hza a ha, w4 a ha⟩
 have hgr := rC c (by omega);obtain ⟨hgl, hgm⟩ := aJ4 c;rw [yI, length_map] at hgl;have hgm2 : ∀ g ∈ gm c, g.2.length ≤ aR c ∧ g.1.length ≤ aR c := fun g hg => by
  have := hgm (gmG g) (by rw [yI]; exact mem_map.2 ⟨g, hg, rfl⟩);unfold gmG at this;rw [length_map] at this;exact this
 have hgc : ∀ g ∈ gm c, ∀ x ∈ g.2, aR x + g.1.length ≤ aR c := fun g hg x hx => aZ0 hg hx
 rw [kT, yI, map_map] at hgr;obtain ⟨f, n, s, t, ks, bs, al⟩ := c;obtain ⟨h7, _, _, _, _⟩ := aPr hw;simp only [z0R, Bool.and_eq_true] at hz;obtain ⟨ht, hzk, hzb, hza⟩ := hz;have ht := aMs ht;subst ht;generalize gm (.mk f n s zTy ks bs al) = L at hgr hin hgl hgm2 hgc;have hkL : (L.map (fU ∘ gmG)).length = L.length := length_map _;have hkB : (aO bs).length = bs.length := by rw [bD, length_map]
 have hkA : (bK al).length = al.length := by rw [bE, length_map]
 have hal := aT1 ns;obtain ⟨_, _, _, hkl, hbl, hall⟩ := @gY f n s zTy ks bs al;have hbl' : bs.length ≤ 400000000 := by omega
 have hal' : al.length ≤ 400000000 := by omega
 have hLl : L.length ≤ 400000001 := by omega
 have hpl := aTv ns s (by omega);refine c8 (n := 237) tok Tryz.func71 rfl rfl rfl ?_;refine a8 (ag [] rfl ?_);refine a8 (a8 (ag [(5, .bv false), (11, .bv false), (12, .bv false), (20, .bv false), (21, .bv false), (29, .bv false), (30, .bv false), (38, .bv false)] rfl ?_));refine aB rfl (fun hb => by simp at hb) (fun _ => ?_);refine aD ?_;refine a8 (ag [] rfl ?_);refine a8 (a8 (ag [] rfl ?_));refine (AWp.cut (mk [(4, .one (.vp 4 0)), (5, .one (.vp 5 0)), (6, .one (.vp 6 0)), (7, .one (.vp 7 0)), (9, .one (.clo 132 [.vp 6 0, .vp 7 0]))] [(4, .var 37 (bF (.mk f n s zTy ks bs al))), (5, .var 37 (bF (.mk f n s zTy ks bs al))), (6, gvO ns), (7, gvO ns)]) ?_ ?_)
 ·refine aC ?_;refine a8 (ag [] rfl ?_);refine aB rfl (fun hb => ?_) (fun hb => ?_)
  ·refine a8 (aF mixed ?_);refine ak 3 [] rfl ?_;refine kc hpl ?_;refine ak 3 [] rfl ?_;refine kc hpl ?_;refine ak 2 [] rfl ?_;refine az ?_;generalize plF ns s ns.length 0 = k;by_cases hk : 0 ≤ k
   ·have e1 : decide (k ≥ 0) = true := decide_eq_true hk;refine a8 (ag [(3, .bv true), (6, .bv true), (12, .bv true), (13, .bv true)] rfl ?_);exact aE rtT
   ·have e1 : decide (k ≥ 0) = false := decide_eq_false hk;have e2 : some (B (decide (s = s))) = some (B true) := by rw [decide_eq_true (rfl : s = s)]
    refine a8 (AWp.cut (mk [(8, B true)] []) (ag [(3, .bv true), (6, .bv false), (12, .bv false), (13, .bv true)] rfl (sl (he := ⟨e2, trivial⟩))) ?_);exact aE rtT
  refine a8 (ag [] rfl ?_);refine aB rfl (fun _ => aD sl) (fun _ => ?_);refine a8 (ag [] rfl ?_);refine aB rfl (fun hb => absurd (zq0 hb) h7) (fun _ => ?_);refine a8 (ag [] rfl ?_);refine aB rfl (fun hb => by simp at hb) (fun _ => ?_);exact aD sl
 refine a8 (a8 (aF mixed ?_));refine ak 5 [] rfl ?_;refine kv (args := [tyV zTy, tyV zTy]) hal ?_;refine ak 1 [] rfl ?_;refine az ?_;refine aB rfl (fun hb => by cases hb) (fun _ => ?_);refine aD ?_;refine a8 (a8 (ag [] rfl ?_));refine aC ?_;refine aJ (fun i : Nat => mk [(4, .one (.vp 4 0)), (5, .one (.vp 5 0)), (6, .one (.vp 6 0)), (7, .one (.vp 7 0)), (9, .one (.clo 132 [.vp 6 0, .vp 7 0])), (116, I .i64 ((aO bs).length : Int)), (117, I .i64 i)] [(4, .var 37 (bF (.mk f n s zTy ks bs al))), (5, .var 37 (bF (.mk f n s zTy ks bs al))), (6, gvO ns), (7, gvO ns)]) (fun i => i ≤ bs.length) (fun i => bs.length - i) 0 (zero_le _) sl ?_;intro i hi;refine a8 (ag [] rfl ?_);refine a8 (aB rfl (fun hb => ?_) (fun hb => ?_))
 ·have hlt := ltD hb hkB;obtain ⟨b, hbi⟩ := aL hlt;have hbi' := cB hbi;have hm := zq7 hbi;obtain ⟨hty, _⟩ := u9 hzb b hm;obtain ⟨s', t', c'⟩ := b;have hty : t' = zTy := hty;subst hty;refine aD ?_;refine a8 (aC (a8 (ag [] rfl ?_)));refine a8 (aF mixed ?_);refine ak 13 [(4, .row i (bA (.mk s' zTy c'))), (10, .row i (bA (.mk s' zTy c')))] rfl ?_;refine kv (args := [tyV zTy, tyV zTy]) hal ?_;refine ak 1 [] rfl ?_;refine az ?_;refine aB rfl (fun hb => by cases hb) (fun _ => ?_);refine aD ?_;refine ag [] rfl ?_;exact ⟨i + 1, hlt, by dsimp only; omega, sl⟩
 have hge := geD hb hkB hi;subst hge;refine aK ?_;refine a8 (a8 (ag [] rfl ?_));refine aC ?_;refine aJ (fun i : Nat => mk [(4, .one (.vp 4 0)), (5, .one (.vp 5 0)), (6, .one (.vp 6 0)), (7, .one (.vp 7 0)), (138, I .i64 ((bK al).length : Int)), (139, I .i64 i)] [(4, .var 37 (bF (.mk f n s zTy ks bs al))), (5, .var 37 (bF (.mk f n s zTy ks bs al))), (6, gvO ns), (7, gvO ns)]) (fun i => i ≤ al.length) (fun i => al.length - i) 0 (zero_le _) sl ?_;intro i hi;refine a8 (ag [] rfl ?_);refine a8 (aB rfl (fun hb => ?_) (fun hb => ?_))
 ·have hlt := ltD hb hkA;obtain ⟨a, hai⟩ := aL hlt;have hai' := j7 hai;refine aD ?_;refine a8 (aC (a8 (ag [] rfl ?_)));refine a8 (ag [(3, .row i (cV a)), (8, .row i (cV a))] rfl ?_);refine a8 (ag [(5, .bv false), (11, .bv false), (12, .bv false), (18, .bv false), (19, .bv false), (27, .bv false)] rfl ?_);refine aB rfl (fun hb => by simp at hb) (fun _ => ?_);refine aD ?_;refine ag [] rfl ?_;exact ⟨i + 1, hlt, by dsimp only; omega, sl⟩
 have hge := geD hb hkA hi;subst hge;refine aK ?_;refine AWp.sub (Sub.fvar (id := 4) (l := aA (.mk f n s zTy ks bs al)) rfl (by simp [keys])) ?_;refine AWp.sub (Sub.fvar (id := 5) (l := aA (.mk f n s zTy ks bs al)) rfl (by simp [keys])) ?_;refine AWp.sub (st2 := mk [(4, .one (.c (.pt (aA (.mk f n s zTy ks bs al))))), (5, .one (.c (.pt (aA (.mk f n s zTy ks bs al))))), (6, .one (.vp 6 0)), (7, .one (.vp 7 0))] [(6, gvO ns), (7, gvO ns)]) sl ?_;generalize Core.mk f n s zTy ks bs al = c0 at *;refine a8 (aF mixed ?_);refine kc hgr ?_;refine kc hgr ?_;refine ak 2 [] rfl ?_;refine az ?_;refine a8 (a8 (ag [] rfl ?_));refine aC ?_;refine aJ (fun i : Nat => mk [(6, .one (.vp 6 0)), (7, .one (.vp 7 0)), (16, .one (.c (.sl 2 (L.map (fU ∘ gmG))))), (17, .one (.c (.sl 2 (L.map (fU ∘ gmG))))), (184, I .i64 ((L.map (fU ∘ gmG)).length : Int)), (185, I .i64 i)] [(6, gvO ns), (7, gvO ns)]) (fun i => i ≤ L.length) (fun i => L.length - i) 0 (zero_le _) sl ?_;intro i hi;refine a8 (ag [] rfl ?_);refine a8 (aB rfl (fun hb => ?_) (fun hb => ?_))
 ·have hlt := ltD hb hkL;obtain ⟨g, hg⟩ := aL hlt;have hg' := cE (fU ∘ gmG) hg;have hgi := zq7 hg;obtain ⟨hl1, hl2⟩ := hgm2 g hgi;have hinG := hin g hgi;have hszG := hgc g hgi;have hkG : (g.2.map dY).length = g.2.length := length_map _;obtain ⟨G1, G⟩ := g;have hg' : (L.map (fU ∘ gmG))[i]? = some [.sl 1 (G1.map pJ), .sl 1 (G.map dY)] := hg';dsimp only at hl1 hl2 hkG hinG hszG;have hwi := aXk ns G1 (by omega);have hnl : (ns ++ G1.map (·.1)).length = ns.length + G1.length := by rw [length_append, length_map]
  generalize ns ++ G1.map (·.1) = ns' at hwi hnl;refine aD ?_;refine a8 (aC (a8 (ag [] rfl ?_)));refine a8 (aF mixed ?_);refine ak 6 [(3, .row i [.sl 1 (G1.map pJ), .sl 1 (G.map dY)])] rfl ?_;refine kc hwi ?_;refine ak 6 [(10, .row i [.sl 1 (G1.map pJ), .sl 1 (G.map dY)])] rfl ?_;refine kc hwi ?_;refine ak 4 [] rfl ?_;refine az ?_;refine a8 (ag [(2, .row i [.sl 1 (G1.map pJ), .sl 1 (G.map dY)])] rfl ?_);refine aC ?_;refine aJ (fun j : Nat => mk [(6, .one (.vp 6 0)), (7, .one (.vp 7 0)), (16, .one (.c (.sl 2 (L.map (fU ∘ gmG))))), (17, .one (.c (.sl 2 (L.map (fU ∘ gmG))))), (18, I .i64 i), (19, .one (.vp 19 0)), (20, .one (.vp 20 0)), (184, I .i64 ((L.map (fU ∘ gmG)).length : Int)), (185, I .i64 i), (207, I .i64 ((G.map dY).length : Int)), (208, I .i64 j)] [(6, gvO ns), (7, gvO ns), (19, gvO ns'), (20, gvO ns')]) (fun j => j ≤ G.length) (fun j => G.length - j) 0 (zero_le _) sl ?_;intro j hj;refine a8 (ag [] rfl ?_);refine a8 (aB rfl (fun hb => ?_) (fun hb => ?_))
  ·have hlt2 := ltD hb hkG;obtain ⟨p, hp⟩ := aL hlt2;have hp' := cE dY hp;have hpi := zq7 hp;obtain ⟨hp1, hp2, hp3⟩ := hinG p hpi;have hps := hszG p hpi;have hc := ih p hp1 hp2 hp3 ns' (by omega);refine aD ?_;refine a8 (aC (a8 (ag [] rfl ?_)));refine a8 (aF mixed ?_);refine ak 22 [(2, .row i [.sl 1 (G1.map pJ), .sl 1 (G.map dY)]), (6, .row j (dY p)), (12, .row i [.sl 1 (G1.map pJ), .sl 1 (G.map dY)]), (16, .row j (dY p))] rfl ?_;refine kc hc ?_;refine ak 1 [] rfl ?_;refine az ?_;refine aB rfl (fun hb => by cases hb) (fun _ => ?_);refine aD ?_;refine ag [] rfl ?_;exact ⟨j + 1, hlt2, by dsimp only; omega, sl⟩
  have hge2 := geD hb hkG hj;subst hge2;refine aK ?_;refine ag [] rfl ?_;exact ⟨i + 1, hlt, by dsimp only; omega, sl⟩
 have hge := geD hb hkL hi;subst hge;refine aK ?_;refine a8 (ag [] rfl ?_);exact aE rtT
theorem aRc : ∀ (n : Nat) (c : Core), aR c ≤ n → aL9 c
 | 0, c, h => by have := dW c; omega
 | n + 1, c, h => aBw c fun x hx => aRc n x (by omega)
theorem aX7 (c : Core) (hz : z0R c = true) (hw : wfE c = true) (hs : aR c ≤ 400000000) : aY Tryz.prog 28 [.pa (aA c), .pa (aA c)] [] (B true) [] := by
 have h := aRc _ c (le_refl _) hz hw [] (by simpa using hs);refine c8 (n := 10) tok Tryz.func28 rfl rfl rfl ?_;refine a8 (ag [] rfl ?_);refine a8 (aF mixed ?_);refine ak 4 [] rfl ?_;refine kc h ?_;refine ak 1 [] rfl ?_;refine az ?_;exact aE rtT
def ZL : Loc := fun f _ t _ bh _ => ¬ f = 7 ∧ t = zTy ∧ ∀ p ∈ bh, p.2 = zTy
theorem aYh (z : Str) : cI ZL (vC z) := bC.2 ⟨⟨by decide, rfl, by simp⟩, by simp, by simp, by simp⟩
theorem wU {f n : Int} {s : Str} (h : ¬ f = 7) : cI ZL (.mk f n s zTy [] [] []) := bC.2 ⟨⟨h, rfl, by simp⟩, by simp, by simp, by simp⟩
section
variable {sb : Core → Str → Core → Core} {Q : Core → Prop}
theorem aQy (hz : ∀ p n z, Q p → Q (sb p n (vC z))) {far : List Str} : ∀ {ns : List Str} {st : List Str × List Core × List Str}, (∀ p ∈ st.2.1, Q p) → ∀ p ∈ (iU sb far ns st).2.1, Q p
 | [], _, h => h
 | n :: ns, st, h => by
  have e : iU sb far (n :: ns) st = iU sb far ns (dE sb far st n) := rfl;rw [e];refine aQy hz fun p hp => ?_
  unfold dE at hp;split at hp
  ·obtain ⟨q, hq, rfl⟩ := mem_map.1 hp;exact hz q n _ (h q hq)
  ·exact h p hp
theorem aQe {s : Str} {b : Core} {ns : List Str} {ps : List Core} (hz : ∀ p n z, Q p → Q (sb p n (vC z))) (hs : ∀ p, Q p → Q (sb p s b)) (h : ∀ p ∈ ps, Q p) : ∀ p ∈ (cK sb s b ns ps).2, Q p := by
 unfold cK;split
 ·intro p hp;obtain ⟨q, hq, rfl⟩ := mem_map.1 hp;exact hs q (aQy hz (st := ([], ps, ps.flatMap pfR ++ ns ++ pfR b)) h q hq)
 ·exact h
end
theorem aBf {Q : Core → Prop} {l : List Core} {d : Core} (h : ∀ x ∈ l, Q x) (hd : Q d) : Q (l.headD d) := by
 cases l with
 | nil => exact hd
 | cons x l => exact h x zq2
theorem aW0 {Q : Core → Prop} {l : List Core} {d : Core} (i : Nat) (h : ∀ x ∈ l, Q x) (hd : Q d) : Q (l.getD i d) := by
 rw [List.getD_eq_getElem?_getD];cases hx : l[i]? with
 | none => exact hd
 | some x => exact h x (zq7 hx)
theorem aH1 : ∀ (k : Nat) (c : Core) (s : Str) (b : Core), cI ZL c → cI ZL b → cI ZL (dB k c s b) := by
 intro k
 induction k with
 | zero => intro c s b h _; exact h
 | succ k ih =>
 intro c s b h hb;obtain ⟨f, n, nm, t, ks, bs, al⟩ := c;obtain ⟨⟨h7, ht, hbt⟩, hk, hbb, ha⟩ := bC.1 h;rw [dB];split
 ·exact hb
 rw [if_neg (fun h : (Core.mk f n nm t ks bs al).form = 7 ∧ _ => h7 h.1), oZ];unfold zNm zKs zBs;have hz : ∀ p m z, cI ZL p → cI ZL (dB k p m (vC z)) := fun p m z hp => ih p m (vC z) hp (aYh z)
 have hs : ∀ p, cI ZL p → cI ZL (dB k p s b) := fun p hp => ih p s b hp hb
 have h1 := aQe (ns := gvN f nm bs) (ps := ks ++ bs.map Bind.body) hz hs fun p hp => by
  rcases mem_append.1 hp with hp | hp
  ·exact hk p hp
  ·obtain ⟨x, hx, rfl⟩ := mem_map.1 hp;exact hbb x hx
 refine bC.2 ⟨⟨h7, ht, fun p hp => ?_⟩, fun x hx => h1 x (mem_of_mem_take hx), fun x hx => h1 _ (mem_of_mem_drop (kJ hx).1), fun x hx => ?_⟩
 ·obtain ⟨x, hx, rfl⟩ := mem_map.1 hp;obtain ⟨y, hy, e⟩ := mem_map.1 (kJ hx).2;show x.ty = zTy;rw [← e];exact hbt (bhd y) (mem_map.2 ⟨y, hy, rfl⟩)
 ·obtain ⟨a, ha', rfl⟩ := mem_map.1 hx;exact aBf (aQe (ns := a.vars) (ps := [a.body]) hz hs fun p hp => by rw [mem_singleton.1 hp]; exact ha a ha') (ha a ha')
theorem aIx : ∀ (l : List (Str × Str)) (c : Core), cI ZL c → cI ZL (jI c l)
 | [], _, h => h
 | p :: l, c, h => aIx l _ (aH1 _ c p.1 (vC p.2) h (aYh _))
theorem aIw : ∀ (l : List (Str × Core)) (c : Core), cI ZL c → (∀ p ∈ l, cI ZL p.2) → cI ZL (qP c l)
 | [], _, h, _ => h
 | p :: l, c, h, hl => aIw l _ (aH1 _ c p.1 p.2 h (hl p zq2)) fun q hq => hl q (zq3 _ hq)
theorem aQf {c : Core} {names : List Str} {l : List Core} (h : cI ZL c) (hl : ∀ b ∈ l, cI ZL b) : cI ZL (aDx c names l) := by
 unfold aDx;exact aIw _ _ (aIx _ _ h) fun p hp => hl p.2 (List.of_mem_zip (a := p.1) (b := p.2) hp).2
mutual
theorem a0r : ∀ c : Core, cI ZL c → ∀ x ∈ spA c, cI ZL x
 | .mk f n s t ks bs al, h, x, hx => by
  rw [spA] at hx;split at hx
  ·exact aZd ks (bC.1 h).2.1 x hx
  ·cases hx
theorem aZd : ∀ l : List Core, (∀ x ∈ l, cI ZL x) → ∀ x ∈ aVs l, cI ZL x
 | [], _, x, hx => by cases hx
 | k :: r, h, x, hx => by
  rw [aVs] at hx;rcases mem_append.1 hx with hx | hx
  ·exact a0r k (h k zq2) x hx
  ·exact h x (zq3 _ hx)
end
theorem aWh (s : Str) (a b : Int) : cI ZL (jJ s a b).1 := by
 have hi : ∀ m, cI ZL (aAd m) := fun m => wU (by decide)
 have ht : ∀ c, cI ZL (aVe c) := fun c => by cases c <;> exact wU (by decide)
 have hz : cI ZL zC := wU (by decide);unfold jJ
 repeat' split
 all_goals first | exact hi _ | exact ht _ | exact hz
theorem aSa {bd : List Bind} (hB : ∀ b ∈ bd, cI ZL b.body) : ∀ (k : Nat) (c : Core), cI ZL c → cI ZL (lO bd k c).1 := by
 have hz : cI ZL zC := wU (by decide);intro k
 induction k with
 | zero => intro c _; exact hz
 | succ k ih =>
 intro c h;obtain ⟨f, n, nm, t, ks, bs, al⟩ := c;obtain ⟨⟨h7, ht, hbt⟩, hk, hbb, ha⟩ := bC.1 h;have hhd : cI ZL (ks.headD zC) := aBf hk hz;have hg1 : cI ZL (ks.getD 1 zC) := aW0 1 hk hz;have hset : ∀ (p : CE) (j : Nat), cI ZL p.1 → cI ZL (sZ false p (s6 (.mk f n nm t ks bs al) j)).1 := fun p j hp => by
  unfold sZ;rw [if_neg Bool.false_ne_true];split
  ·unfold s6;refine bC.2 ⟨⟨h7, ht, hbt⟩, fun x hx => ?_, hbb, ha⟩;rcases mem_or_eq_of_mem_set hx with hx | rfl
   ·exact hk x hx
   ·exact hp
  ·exact hz
 rw [lO];split
 ·split
  ·rename_i b hb; exact hB b (List.mem_of_find?_eq_some hb)
  ·exact hz
 split
 ·split
  ·exact aH1 _ _ _ _ (aBf (by
    generalize ks.headD zC = x at hhd;obtain ⟨f', n', s', t', ks', bs', al'⟩ := x
    exact (bC.1 hhd).2.1) hz) hg1
  ·split
   ·exact hset _ 0 (ih _ hhd)
   ·exact hz
 split
 ·refine aQf hhd fun b hb => ?_
  obtain ⟨x, hx, rfl⟩ := mem_map.1 hb;exact bC.2 ⟨⟨by decide, rfl, hbt⟩, by simpa using hbb x hx, hbb, by simp⟩
 split
 ·split
  ·exact hset _ 0 (ih _ hhd)
  ·split
   ·rename_i r hr;obtain ⟨x, hx, hxr⟩ := List.exists_of_findSome?_eq_some hr;unfold tkE at hxr;split at hxr
    ·cases hxr; exact ha x hx
    ·split at hxr
     ·cases hxr; exact aQf (ha x hx) (a0r _ hhd)
     ·cases hxr
   ·exact hz
 split
 ·split
  ·exact hset _ 0 (ih _ hhd)
  ·split
   ·exact hset _ 1 (ih _ hg1)
   ·split
    ·exact aWh _ _ _
    ·exact hz
 split
 ·exact hz
 ·exact hz
mutual
theorem aPm {X : Nat} : ∀ c : Core, cI ZL c → cI (QL X) c → z0R c = true ∧ wfE c = true
 | .mk f n s t ks bs al, h, hq => by
  obtain ⟨⟨h7, ht, hbt⟩, hk, hbb, ha⟩ := bC.1 h;obtain ⟨_, qk, qb, qa⟩ := bC.1 hq;have k1 := aRt ks hk qk;have k2 := aRu bs (fun b hb => hbt (bhd b) (mem_map.2 ⟨b, hb, rfl⟩)) hbb qb;have k3 := aRv al ha qa;refine ⟨by rw [z0R, ht, k1.1, k2.1, k3.1]; rfl, aU3 h7 (fun h5 => iR hq (.inl h5)) k1.2 k2.2 k3.2⟩
theorem aRt {X : Nat} : ∀ l : List Core, (∀ x ∈ l, cI ZL x) → (∀ x ∈ l, cI (QL X) x) → aUk l = true ∧ ∀ x ∈ l, wfE x = true
 | [], _, _ => ⟨rfl, by simp⟩
 | c :: l, h, hq => by
  obtain ⟨g1, g2⟩ := aPm c (h c zq2) (hq c zq2);obtain ⟨g3, g4⟩ := aRt l (fun x hx => h x (zq3 _ hx)) fun x hx => hq x (zq3 _ hx)
  refine ⟨by rw [aUk, g1, g3]; rfl, fun x hx => ?_⟩;rcases mem_cons.1 hx with rfl | hx
  ·exact g2
  ·exact g4 x hx
theorem aRu {X : Nat} : ∀ l : List Bind, (∀ x ∈ l, x.ty = zTy) → (∀ x ∈ l, cI ZL x.body) → (∀ x ∈ l, cI (QL X) x.body) → aUl l = true ∧ ∀ x ∈ l, wfE x.body = true
 | [], _, _, _ => ⟨rfl, by simp⟩
 | .mk s t c :: l, ht, h, hq => by
  obtain ⟨g1, g2⟩ := aPm c (h _ zq2) (hq _ zq2);obtain ⟨g3, g4⟩ := aRu l (fun x hx => ht x (zq3 _ hx)) (fun x hx => h x (zq3 _ hx)) fun x hx => hq x (zq3 _ hx)
  have g5 : t = zTy := ht _ zq2;refine ⟨by rw [aUl, g1, g3, g5]; rfl, fun x hx => ?_⟩;rcases mem_cons.1 hx with rfl | hx
  ·exact g2
  ·exact g4 x hx
theorem aRv {X : Nat} : ∀ l : List Alt, (∀ x ∈ l, cI ZL x.body) → (∀ x ∈ l, cI (QL X) x.body) → aUm l = true ∧ ∀ x ∈ l, wfE x.body = true
 | [], _, _ => ⟨rfl, by simp⟩
 | .mk f n s v c :: l, h, hq => by
  obtain ⟨g1, g2⟩ := aPm c (h _ zq2) (hq _ zq2);obtain ⟨g3, g4⟩ := aRv l (fun x hx => h x (zq3 _ hx)) fun x hx => hq x (zq3 _ hx)
  refine ⟨by rw [aUm, g1, g3]; rfl, fun x hx => ?_⟩;rcases mem_cons.1 hx with rfl | hx
  ·exact g2
  ·exact g4 x hx
end
def IvE (j : Nat) (c : Core) : Prop := ST j [] c ∧ cI ZL c
theorem aG0 (hI : eD 540000000000) {bd : List Bind} (hB : BI [] bd) (hZ : ∀ b ∈ bd, cI ZL b.body) : ∀ (k n j : Nat) (c : Core), j + k ≤ 90 → IvE j c → (whE (sfE bd) k n c).2.2 = 0 → ∃ j', IvE j' (whE (sfE bd) k n c).1
 | 0, n, j, c, _, h, he => by
  rw [whE] at he ⊢;by_cases h1 : shE c = true
  ·rw [if_pos h1] at he ⊢; exact ⟨j, h⟩
  ·rw [if_neg h1] at he; cases he
 | k + 1, n, j, c, hj, h, he => by
  rw [whE] at he ⊢;by_cases h1 : shE c = true
  ·rw [if_pos h1] at he ⊢; exact ⟨j, h⟩
  rw [if_neg h1] at he ⊢;by_cases h2 : (sfE bd c).2 = 0
  ·rw [if_pos h2] at he ⊢;by_cases h3 : 6000 < fM (sfE bd c).1
   ·rw [if_pos h3] at he; cases he
   ·rw [if_neg h3] at he ⊢;have hs := (aXp hI (n := j) (by omega) hB (m30 c) c (le_refl _) h.1).2 h2;exact aG0 hI hB hZ k (n + 1) (j + 1) _ (by omega) ⟨hs.st (Nat.not_lt.1 h3), aSa hZ _ c h.2⟩ he
  ·rw [if_neg h2] at he;exact absurd he h2
theorem aXl (hI : eD 540000000000) {bd : List Bind} (hB : BI [] bd) (F : Nat) (hF : F ≤ 80) (c : Core) (h : ST 0 [] c) :
  aY Tryz.prog 31 [.one (.c (.sl 15 (bd.map bA))), .pa (aA c), I .i64 F] [] (aYn (whE (sfE bd) F 0 c)) [] := by
 refine aT2 (sfE bd) bd F (fun j x => ST j [] x) c (by omega) h (fun j x hj hx => ?_) (fun j x hj hx hs => ?_)
 ·have h1 := cO x;have h2 := hx.sz;have hcg := hx.cg (by omega) (by decide);exact ⟨hx.q, by omega, tM (aR x) x (le_refl _) (by omega) (hcg.tyG hI (by decide))⟩
 ·obtain ⟨g1, g2⟩ := aXp hI (n := j) (by omega) hB (m30 x) x (le_refl _) hx;refine ⟨g1, fun he => ?_⟩;have hr := g2 he;have h1 := hr.big hx.sz;have h2 := cO (sfE bd x).1;have h3 : Big = 250000000000 := rfl;have h1 : m30 (sfE bd x).1 ≤ Big := h1;exact ⟨by omega, fun h4 => hr.st (Nat.not_lt.1 h4)⟩
theorem aW4 : ∀ {l : List Bind}, gBs l = true → ∀ x ∈ l, x.ty = zTy
 | .mk s t c :: l, h, x, hx => by
  rw [gBs, Bool.and_eq_true, Bool.and_eq_true, Bool.and_eq_true] at h;rcases mem_cons.1 hx with rfl | hx
  ·exact aMs h.1.1.2
  ·exact aW4 h.2 x hx
theorem aZ2 : ∀ (k : Nat) (c : Core), m30 c ≤ k → gR c = true → cI ZL c := by
 intro k
 induction k with
 | zero => intro c h; have := eT c; omega
 | succ k ih =>
 intro c hk h;obtain ⟨f, n, s, t, ks, bs, al⟩ := c;rw [gR] at h;simp only [Bool.and_eq_true, decide_eq_true_eq] at h;obtain ⟨⟨_, h7, ht⟩, h1, h2, h3, h4⟩ := h;rw [m30] at hk;refine bC.2 ⟨⟨h7, aMs ht, fun p hp => ?_⟩, fun x hx => ih x (by have := iK hx; omega) (aBj h2 x hx), fun x hx => ih x.body (by have := lD hx; omega) (aBk h3 x hx), fun x hx => ih x.body (by have := gD hx; omega) (aBl h4 x hx)⟩;obtain ⟨b, hb, rfl⟩ := mem_map.1 hp;exact aW4 h3 b hb
structure ME (c : Core) : Prop where
 m : MW [] c
 z : cI ZL c
 p : ¬ sN ∈ pfR c
 n : fM c ≤ 3000
 s : m30 c ≤ 93000
theorem vN (l : List Int) : ME (bO (fK l)) := by
 obtain ⟨g1, _, g3, _⟩ := aJq l;have hm : MW l5 (fK l) := aBt 6 (l.take 60) 30;obtain ⟨_, h2, h3, h4⟩ := aN5 l;exact ⟨(aKq (fK l) hm.q).1, aZ2 _ _ (le_refl _) g1, h2, h3, h4⟩
theorem ME.st {c : Core} (h : ME c) (n : Nat) : ST n [] c := ST.of h.m (by have := eZ c; have := h.n; omega) (by have := h.s; omega) n
theorem aJg : nh sN := by unfold nh; decide
theorem aVp {c d : Core} (hc : ME c) (hd : ME d) : ST 0 [] (aMl c d) := by
 have h1 := hc.n;have h2 := hd.n;have h3 := hc.s;have h4 := hd.s;have hw : w30 sN = 30 := by decide
 have hw0 : w30 [] = 30 := by decide
 refine ST.of (jW ⟨rfl, fun e => absurd e (by decide), rfl, fun p hp => (by rw [mem_singleton.1 hp]; rfl), (by show lw [] [(sN, zTy)] [] ≤ 403; decide), fun e => absurd e (by decide), fun p hp => (by rw [mem_singleton.1 hp]; exact aJg), fun p hp => (by cases hp)⟩ .z (fun x hx => by rw [mem_singleton.1 hx]; exact hc.m) (fun x hx => by rw [mem_singleton.1 hx]; exact ⟨TM.z, hd.m⟩) (fun x hx => by cases hx)) ?_ ?_ 0
 ·have g1 := eZ c;have g2 := eZ d;rw [tlC, nU, nU, xB, xB, xC, if_neg (by decide)];omega
 ·rw [m30, cS, cS, fR, fR, iL];omega
theorem aZc {c : Core} (hc : ME c) : ST 0 [] (.mk 5 0 sN zTy [c] [] []) := by
 have h1 := hc.n;have h3 := hc.s;have hw : w30 sN = 30 := by decide
 refine ST.of (jW (dF rfl (fun e => absurd e (by decide)) rfl (by decide) (fun _ => aJg)) .z (fun x hx => by rw [mem_singleton.1 hx]; exact hc.m) (fun x hx => by cases hx) (fun x hx => by cases hx)) ?_ ?_ 0
 ·have := eZ (.mk 5 0 sN zTy [c] [] []);rw [fM, cJ, cJ, iG, iH] at this;omega
 ·rw [m30, cS, cS, fR, iL];omega
theorem aVq {c d : Core} (hc : ME c) (hd : ME d) : ST 0 [] (aN8 c d) := by
 have h1 := hc.n;have h2 := hd.n;have h3 := hc.s;have h4 := hd.s;have hw : w30 sN = 30 := by decide
 have hw0 : w30 [] = 30 := by decide
 have hm : MW [] (.mk 5 0 sN zTy [c] [] []) := jW (dF rfl (fun e => absurd e (by decide)) rfl (by decide) (fun _ => aJg)) .z (fun x hx => by rw [mem_singleton.1 hx]; exact hc.m) (fun x hx => by cases hx) (fun x hx => by cases hx)
 refine ST.of (jW (dF rfl (fun e => absurd e (by decide)) rfl (by decide) (fun e => absurd e (by decide))) .z (fun x hx => by
  rcases mem_cons.1 hx with rfl | hx
  ·exact hm
  ·rw [mem_singleton.1 hx]; exact hd.m) (fun x hx => by cases hx) (fun x hx => by cases hx)) ?_ ?_ 0
 ·have g1 := eZ c;have g2 := eZ d;rw [tlC, nU, nU, nU, xB, xC, if_neg (by decide), tlC, nU, nU, xB, xC, if_neg (by decide)];omega
 ·rw [m30, cS, cS, cS, fR, iL, m30, cS, cS, fR, iL];omega
theorem aSb {c : Core} (hc : ME c) : ST 0 [] (vU c) := by
 have h1 := hc.n;have h3 := hc.s;have hw0 : w30 [] = 30 := by decide
 have hi : MW [] (aAd 3) := jW (dF rfl (fun e => absurd e (by decide)) rfl (by decide) (fun e => absurd e (by decide))) .z (fun x hx => by cases hx) (fun x hx => by cases hx) (fun x hx => by cases hx);refine ST.of (jW ⟨rfl, fun e => absurd e (by decide), rfl, fun p hp => (by cases hp), (by show lw [] [] [([], [])] ≤ 403; decide), fun e => absurd e (by decide), fun p hp => (by cases hp), fun p hp v hv => (by rw [mem_singleton.1 hp] at hv; cases hv)⟩ .z (fun x hx => by rw [mem_singleton.1 hx]; exact hi) (fun x hx => by cases hx) (fun x hx => by rw [mem_singleton.1 hx]; exact hc.m)) ?_ ?_ 0
 ·have g1 := eZ c;unfold aAd;rw [tlC, nU, nU, xB, xC, xC, if_neg (by decide), tlC, nU, xB, xC, if_neg (by decide)];omega
 ·unfold aAd;rw [m30, cS, cS, fR, iL, iL, m30, cS, fR, iL];simp only [map_nil, sum_nil];omega
set_option maxHeartbeats 4000000
def aTi (x : List Int) : List C := [.sl 1 (x.map yS)]
theorem aGu (x : Int) (k : Nat) (hk : 1 ≤ k) : ∃ d : Nat, d < k ∧ kX x k = (d : Int) := by
 obtain ⟨h1, h2⟩ := dO x (k := k) (by omega);exact ⟨(kX x k).toNat, by omega, by omega⟩
def mnm : List Str := [[120], [121], [97]]
noncomputable def mcR (l : List Int) : Core := bO (fK (l.take 40))
noncomputable def mbR (ls : List (List Int)) : List Bind := (mnm.zip ls).map fun p => .mk p.1 zTy (mcR p.2)
theorem aQo (ls : List (List Int)) : (mbR ls).length = min 3 ls.length := by unfold mbR; rw [length_map, length_zip]; rfl
theorem aZu {ls : List (List Int)} {i : Nat} {s : Str} {x : List Int} (hs : mnm[i]? = some s) (hx : ls[i]? = some x) : (mbR ls)[i]? = some (.mk s zTy (mcR x)) := by
 have h : (mnm.zip ls)[i]? = some (s, x) := by rw [List.getElem?_zip_eq_some]; exact ⟨hs, hx⟩
 unfold mbR;rw [List.getElem?_map, h]; rfl
theorem aWp {ls : List (List Int)} {b : Bind} (h : b ∈ mbR ls) : b.ty = zTy ∧ ∃ x ∈ ls, b.body = mcR x := by
 unfold mbR at h;obtain ⟨p, hp, rfl⟩ := mem_map.1 h;exact ⟨rfl, p.2, (List.of_mem_zip (a := p.1) (b := p.2) hp).2, rfl⟩
theorem a0z (l : List Int) (hl : aAe l) (hf : Fits l) : aY Tryz.prog 20 [.one (.c (.sl 1 (l.map yS))), I .i64 ((40 : Nat) : Int)] [] (.one (.c (.sl 1 ((l.take 40).map yS)))) [] ∧ aY Tryz.prog 9 [.one (.c (.sl 1 ((l.take 40).map yS)))] [] (.pa (aA (fK (l.take 40)))) [] ∧ aY Tryz.prog 75 [.pa (aA (fK (l.take 40)))] [] (.pa (aA (mcR l))) [] := by
 have hl' : aAe (l.take 40) := fun x hx => hl x (mem_of_mem_take hx)
 have hf' : Fits (l.take 40) := by
  unfold Fits at *;rw [length_take];omega
 obtain ⟨_, m2, _, _⟩ := aJq (l.take 40);exact ⟨aRh l 40 hf (by omega), aXw _ hl' hf', aLd _ (fK (l.take 40)) (le_refl _) (by omega)⟩
theorem aE3 (l : List Int) (ls : List (List Int)) (hl : aAe l) (hf : Fits l) (hls : ∀ x ∈ ls, aAe x ∧ Fits x) (hlf : ls.length ≤ 1152921504606846976) :
  aY Tryz.prog 30 [.one (.c (.sl 1 (l.map yS))), .one (.c (.sl 1 (ls.map aTi)))] [] (.tup [.pa (aA (mcR l)), .one (.c (.sl 15 ((mbR ls).map bA)))]) [] := by
 have hkl : (ls.map aTi).length = ls.length := length_map _;have hml := aQo ls;obtain ⟨z1, z2, z3⟩ := a0z l hl hf;refine c8 (n := 38) tok Tryz.func30 rfl rfl rfl ?_;refine a8 (ag [] rfl ?_);refine a8 (ag [] rfl ?_);refine AWp.sub (Sub.own (t := 6) (id := 500) 73 15 rfl rfl) ?_;refine a8 (a8 (ag [] rfl ?_));refine aC ?_;refine aJ (fun i : Nat => mk [(0, .one (.c (.sl 1 (l.map yS)))), (1, .one (.c (.sl 1 (ls.map aTi)))), (4, .one (.vp 4 0)), (6, .one (.hs 500 0 ((mbR ls).take i).length ((mbR ls).take i).length)), (7, I .i64 i)] [(4, .var 37 bH), (500, .arr 73 15 (((mbR ls).take i).map bA) 0)]) (fun i => i ≤ (mbR ls).length) (fun i => (mbR ls).length - i) 0 (zero_le _) sl ?_;intro i hi;refine a8 (a8 (agF 5 [] rfl rfl rfl ?_));refine aB rfl (fun hb => ?_) (fun hb => ?_)
 ·have hlt : i < ls.length ∧ i < 3 := by
   simp at hb;omega
  obtain ⟨x, hx⟩ := aL hlt.1;have hx' := cE aTi hx;obtain ⟨s, hs⟩ := aL (show i < mnm.length from hlt.2);have hs' := cE bG hs;have hs2 : ([[C.str [120]], [C.str [121]], [C.str [97]]] : List (List C))[i]? = some (bG s) := hs';obtain ⟨n1, n2⟩ := hls x (zq7 hx);obtain ⟨k1, k2, k3⟩ := a0z x n1 n2;have hst : (mbR ls).take (i + 1) = (mbR ls).take i ++ [.mk s zTy (mcR x)] := by rw [take_add_one, aZu hs hx]; rfl
  have hL3 : ((mbR ls).take i).length ≤ 3 := by rw [length_take]; omega
  generalize fK (x.take 40) = c at k2 k3;generalize mcR x = e at k3 hst;generalize (mbR ls).take i = L at hst hL3;have hkL : (L.map bA).length = L.length := length_map _;refine aD ?_;refine a8 (aC ?_);refine aF mixed ?_;refine ak 9 [(1, .all), (3, .row i (bG s)), (7, .row i (aTi x))] rfl ?_;refine kc k1 ?_;refine kc k2 ?_;refine kc k3 ?_;refine ak 4 [(13, .all)] rfl ?_;refine az ?_;refine ag [] rfl ?_;refine ⟨i + 1, by omega, by dsimp only; omega, ?_⟩;dsimp only;rw [hst];exact sl
 have hge : i = (mbR ls).length := by
  simp at hb;omega
 subst hge;rw [take_length];refine aK ?_;refine AWp.sub (Sub.freeze (id := 500) rfl) ?_;refine a8 (aF mixed ?_);refine ak 1 [] rfl ?_;refine kc z1 ?_;refine kc z2 ?_;refine kc z3 ?_;refine ak 3 [] rfl ?_;refine az ?_;refine AWp.sub (cv 5 ((mbR ls).map bA)) ?_;exact aE (mO trw)
def a0a (f a : Core) : Core := .mk 4 0 [] zTy [f, a] [] []
theorem aX4 (c a : Core) (h2 : aY Tryz.prog 59 [.pa (aA c)] [] (.pa (aA c)) []) (h1 : aY Tryz.prog 59 [.pa (aA a)] [] (.pa (aA a)) []) : aY Tryz.prog 32 [.pa (aA c), .one (.c (.sl 10 [aA a]))] [] (.pa (aA (a0a c a))) [] := by
 refine c8 (n := 23) tok Tryz.func32 rfl rfl rfl ?_;refine a8 (ag [] rfl ?_);refine a8 (ag [(1, .pc (.pa (aA c)))] rfl ?_);refine a8 (a8 (ag [] rfl ?_));refine aC ?_;refine aJ (fun i : Nat => mk [(4, .one (.vp 4 0)), (5, .one (.vp 5 0)), (10, .one (.c (.sl 10 [aA a]))), (11, I .i64 1), (12, I .i64 i)] [(4, .var 37 bH), (5, .var 37 (bF (if i = 0 then c else a0a c a)))]) (fun i => i ≤ 1) (fun i => 1 - i) 0 (zero_le _) sl ?_;intro i hi;refine a8 (ag [] rfl ?_);refine a8 (aB rfl (fun hb => ?_) (fun hb => ?_))
 ·have hi0 : i = 0 := by
   have : (i : Int) < 1 := zq0 hb;omega
  subst hi0;rw [if_pos rfl];refine aD ?_;refine a8 (aC (a8 (ag [(0, .row 0 (aA a))] rfl ?_)));refine ag [(2, .pc (.pa (aA a))), (3, .all)] rfl ?_;refine ag [] rfl ?_;exact ⟨1, le_refl _, by dsimp only; omega, Sub.trans sl (vp 5 (aA (a0a c a)))⟩
 have hi1 : i = 1 := by
  have : ¬ (i : Int) < 1 := zq1 hb;omega
 subst hi1;rw [if_neg (by omega)];refine aK ?_;refine a8 (ag [] rfl ?_);exact aE (rtC trw)
theorem aBz (hI : eD 540000000000) (l : List Int) (ls : List (List Int)) (m : List Int) (x3 : Int) (hl : aAe l) (hf : Fits l) (hls : ∀ x ∈ ls, aAe x ∧ Fits x) (hlf : ls.length ≤ 1152921504606846976) (hm : aAe m) (hmf : Fits m) (h3 : i64 x3) :
  aY Tryz.prog 7 [.one (.c (.sl 1 (l.map yS))), .one (.c (.sl 1 (ls.map aTi))), .one (.c (.sl 1 (m.map yS))), I .i64 x3] [] (B true) [] := by
 have hma := aE3 l ls hl hf hls hlf;have hmb := aE3 m [] hm hmf (by simp) (by decide);obtain ⟨k, hk, hke⟩ := aGu x3 21 (by omega);have ha := lI x3 21 h3 (by omega);rw [show ((21 : Int)) = ((21 : Nat) : Int) from rfl, hke] at ha;have hc : ME (mcR l) := vN (l.take 40);have hd : ME (mcR m) := vN (m.take 40)
 have hB : BI [] (mbR ls) := ⟨by rw [aQo]; omega, fun b hb => by
  obtain ⟨_, x, _, e⟩ := aWp hb
  rw [e]; exact (vN (x.take 40)).st 0⟩
 have hZ : ∀ b ∈ mbR ls, cI ZL b.body := fun b hb => by
  obtain ⟨_, x, _, e⟩ := aWp hb;rw [e]; exact (vN (x.take 40)).z
 have e0 : (mbR ([] : List (List Int))) = [] := rfl;rw [e0] at hmb;generalize mcR l = c at *;generalize mcR m = d at *;generalize mbR ls = bd at *;have hW := aXl hI hB k (by omega) c (hc.st 0);have hcs : fM c ≤ 6000 := by have := hc.n; omega
 have hown : ∀ {x}, ST 0 [] x → aY Tryz.prog 59 [.pa (aA x)] [] (.pa (aA x)) [] := fun {x} hx => tM (aR x) x (le_refl _) (by have := cO x; have := hx.sz; omega) ((hx.cg (by omega) (by decide)).tyG hI (by decide))
 have hap := aX4 (.mk 5 0 sN zTy [c] [] []) d (hown (aZc hc)) (hown (hd.st 0));have hin := aLg 3;have hx : ∀ x ∈ [aMl c d, aN8 c d, vU c], aY Tryz.prog 31 [.one (.c (.sl 15 (bd.map bA))), .pa (aA x), I .i64 ((k : Int) + 1)] [] (aYn (laE (whE (sfE bd) k 0 c))) [] := fun x hx => by
  have hst : ST 0 [] x ∧ whE (sfE bd) (k + 1) 0 x = laE (whE (sfE bd) k 0 c) := by
   simp only [mem_cons, not_mem_nil, or_false] at hx;rcases hx with rfl | rfl | rfl
   ·exact ⟨aVp hc hd, uB _ (aWt c d) (aN6 bd d hc.m.q hc.p) hcs⟩
   ·exact ⟨aVq hc hd, uB _ (aWu c d) (aN7 bd d hc.m.q hc.p) hcs⟩
   ·exact ⟨aSb hc, uB _ (aS6 c) (aJw bd c) hcs⟩
  have := aXl hI hB (k + 1) (by omega) x hst.1;rwa [hst.2] at this
 have hsm : (whE (sfE bd) k 0 c).2.2 = 0 → aY Tryz.prog 28 [.pa (aA (whE (sfE bd) k 0 c).1), .pa (aA (whE (sfE bd) k 0 c).1)] [] (B true) [] := fun he => by
  obtain ⟨j, h1, h2⟩ := aG0 hI hB hZ k 0 0 c (by omega) ⟨hc.st 0, hc.z⟩ he;obtain ⟨z1, z2⟩ := aPm _ h2 h1.q;exact aX7 _ z1 z2 (by have := cO (whE (sfE bd) k 0 c).1; have := h1.sz; omega)
 have hlv := aLb;have hn := aUz (sfE bd) k 0 c;have hlet : aA (aMl c d) = [.int .i64 8, .int .i64 0, .str []] ++ cG zTy ++ [.sl 10 [aA c], .sl 15 [bA (.mk sN zTy d)], .sl 14 []] := rfl;generalize whE (sfE bd) k 0 c = r at *;obtain ⟨v, n, e⟩ := r;have hn : n ≤ 0 + k := hn;refine c8 (n := 106) tok Tryz.func7 rfl rfl rfl ?_;refine a8 (ag [] rfl ?_);refine a8 (aF mixed ?_);refine ak 2 [] rfl ?_;refine kc hma ?_;refine ak 6 [] rfl ?_;refine az ?_;refine a8 (aF mixed ?_);refine ak 1 [] rfl ?_;refine kc hmb ?_;refine ak 6 [] rfl ?_;refine az ?_;refine a8 (ag [(1, .pc (I .i64 (k : Int)))] rfl ?_);refine a8 (aF mixed ?_);refine ak 3 [] rfl ?_;refine kc hW ?_;refine ak 8 [] rfl ?_;refine az ?_;refine a8 (ag [(2, .all), (4, .all)] rfl ?_);refine a8 (aF mixed ?_);refine ak 5 [(1, .all), (4, .all)] rfl ?_;refine kc hap ?_;refine ak 2 [] rfl ?_;refine az ?_;refine a8 (aF mixed ?_);refine kc hin ?_;refine ak 7 [(1, .all), (4, .all)] rfl ?_;refine az ?_;refine a8 (ag [(3, .all)] rfl ?_);refine a8 (a8 (ag [] rfl ?_));refine aC ?_;have hk3 : ([aMl c d, aN8 c d, vU c].map aA).length = 3 := rfl;refine aJ (fun i : Nat => mk [(10, .one (.c (.sl 15 (bd.map bA)))), (13, I .i64 k), (14, .one (.vp 14 0)), (15, I .i64 n), (16, I .i64 e), (20, .one (.c (.sl 10 ([aMl c d, aN8 c d, vU c].map aA)))), (21, I .i64 i)] [(14, .var 37 (bF v))]) (fun i => i ≤ 3) (fun i => 3 - i) 0 (zero_le _) sl ?_;intro i hi;generalize hX : [aMl c d, aN8 c d, vU c] = X at hx hk3;refine a8 (a8 (ag [] rfl ?_));refine aB rfl (fun hb => ?_) (fun hb => ?_)
 ·have hlt : i < 3 := by have := zq0 hb; omega
  obtain ⟨x, hxi⟩ := aL (show i < X.length by rw [← hX]; exact hlt);have hxi' := cE aA hxi;have hxw := hx x (zq7 hxi);unfold aYn laE at hxw;dsimp only at hxw hsm;refine aD ?_;refine a8 (aC ?_);refine a8 (aF mixed ?_);refine ak 7 [(3, .row i (aA x))] rfl ?_;refine kc hxw ?_;refine ak 8 [] rfl ?_;refine az ?_;have e2 : (!decide (e = e)) = false := by simp
  by_cases he : e = 0
  ·have hsm := hsm he;have e3 : (!decide (((n + 1 : Nat) : Int) = (n : Int) + 1)) = false := by simp
   rw [if_pos he];have e5 : decide (e = 0) = true := decide_eq_true he;refine a8 (ag [(3, .bv false), (6, .bv true), (11, .bv false), (14, .pc (B true)), (16, .bv false), (17, .bv true), (18, .bv false)] rfl ?_);refine aB rfl (fun hb => by cases hb) (fun _ => ?_);refine aD ?_;refine ag [] rfl ?_;exact ⟨i + 1, by omega, by dsimp only; omega, sl⟩
  ·rw [if_neg he];have e4 : decide (e = 0) = false := decide_eq_false he;refine a8 (ag [(3, .bv false), (6, .bv false), (17, .bv false), (18, .bv false)] rfl ?_);refine aB rfl (fun hb => by cases hb) (fun _ => ?_);refine aD ?_;refine ag [] rfl ?_;exact ⟨i + 1, by omega, by dsimp only; omega, sl⟩
 ·refine aK ?_;refine a8 (aF mixed ?_);refine kc hlv ?_;refine ak 1 [] rfl ?_;refine az ?_;exact aE rtT
end Go.Proofs.YtmoekkcdkjopgaaGreatDoor
namespace Go.Proofs.YtmoekkcdkjopgaaGreatDoor
open Go Go.ChangeShapes Go.WideShapes Go.ChangeAt Go.RowKit Go.AM
theorem Tryz.own : ownKnob Tryz.prog.godebug = none := by kernel_rfl
theorem Tryz.laidOut : laidOutB Tryz.prog = true := by kernel_rfl
theorem lS {H : Type} {P : Program} {e : TypeId} : ∀ {xs : List (DataW H)} {k : Nat} {y : DataW H} {n : Nat}, xs[k]? = some y → n ∈ y.weights P e → n ∈ DataW.weightsAll P e xs
 | x :: xs, 0, y, n, h, hn => by
  simp at h;subst h;rw [DataW.weightsAll];exact mem_append.2 (.inl hn)
 | x :: xs, k + 1, y, n, h, hn => by
  rw [DataW.weightsAll];exact mem_append.2 (.inr (lS (k := k) (by simpa using h) hn))
theorem aW9 (l : List (List Int)) : ((nF l).map fun c => [c]) = l.map aTi := by
 unfold nF;rw [map_map];rfl
theorem sF {n k : Nat} (h : n * (k + 1) ≤ reachBytes) : n ≤ 1152921504606846976 := by
 have h1 := reachBytes_lt;have h2 : n ≤ n * (k + 1) := le_mul_of_pos_right n (Nat.succ_pos k);omega
theorem aM1 : Rows.laid_internal_strconv_uint64pow10 (H := Unit) = Lib.tabData .u64 Lib.pow10Tab := by kernel_rfl
theorem aVj {W : World} (h : laidMetH Tryz.prog Rows.eraseLetsRow.laid W) : aPn W := by
 rw [MakeChecks.laidMetH_plain _ _ _ (by kernel_rfl)] at h;have h3 := laidMet.tail (laidMet.tail h);rw [aM1] at h3;have ht := Lib.tabIs_of_head (g := 0) (t := 215) (e := 209) (n := 20) (by kernel_rfl) (by kernel_rfl) (by kernel_rfl) (by kernel_rfl) (by kernel_rfl) (by kernel_rfl) h3;intro g hg;cases hg;unfold Lib.TabIs World.var? at ht;rw [show Tryz.prog.globalNamed "internal/strconv.uint64pow10" = some 0 by kernel_rfl] at ht;simp only [Option.bind_some] at ht;split at ht
 ·rename_i cs t fr hq;simp only [Option.some.injEq] at ht;subst ht;exact ⟨dC hq, t, fr, hq⟩
 ·cases ht
theorem aOa : eD 540000000000 := fun k hk => aTw k (by omega)
theorem aWv {n : Int} (h : (Lit.int .i64 n).wf = true) : i64 n := by
 simp only [Lit.wf, Bool.and_eq_true, decide_eq_true_eq] at h;exact h
set_option maxRecDepth 100000 in
theorem oY (os : Os) (started : os.Started) (H : Type) (enc : TypeId × Value → H) :
  ReturnsInHanded {} Tryz.checked os 7 .any (fun w args => (Rows.eraseLetsSpec.pre enc Tryz.prog Tryz.f7 Rows.eraseLetsRow.domain false w args ∧ laidMetH Tryz.prog Rows.eraseLetsRow.laid w) ∧ sizedMet enc Tryz.prog Tryz.f7 (OpenSpec.ofChange Rows.eraseLetsSpec) false w args)
   (Rows.eraseLetsSpec.post enc Tryz.prog Tryz.f7 false true false false) := by
 refine returnsInHanded_of_change_and (C := Tryz.checked) (X := fun w _ => laidMetH Tryz.prog Rows.eraseLetsRow.laid w) (fun _ _ _ hh h => h.of_heap hh) Tryz.own started (by kernel_rfl) Tryz.func7
  (ChangeSpec.witness_shaped (enc := enc) (C := Tryz.checked) (os := os) (X := fun w _ => laidMetH Tryz.prog Rows.eraseLetsRow.laid w) false (World.laidAll Tryz.prog os Rows.eraseLetsRow.laid) #[.slice none 0 0, .slice none 0 0, .slice none 0 0, .int .i64 0] 8 (World.laidAll_os _ _ _)
   (World.shaped_of_ZipB (by kernel_rfl) (by kernel_rfl)) (by kernel_rfl) (by kernel_rfl) (by kernel_rfl)
   (by rw [MakeChecks.laidMetH_plain _ _ _ (by kernel_rfl)]; exact laidMet_laidAll _ (by kernel_rfl) (by kernel_rfl))) ?_
 intro W base args ds gs before hval0 hW hcnd hwt hL _
 have hval : ∀ (j : Nat) t v, Tryz.f7.params[j]? = some t → args[j]? = some v → Value.okWide Tryz.prog W .any base t v := hval0
 have hW' := hW
 obtain ⟨p, q, hA0, hV, rfl, hfz, hnd⟩ := hW
 have hA : DataW.TrodAll enc Tryz.prog W 0 (fun _ => true) true Tryz.f7.params.toList args.toList ds p := hA0
 rw [Tryz.params7] at hA hval
 obtain ⟨v0, v1, v2, v3, d0, d1, d2, d3, p0, p1, p2, p3, rfl, rfl, rfl, h0, h1, h2, h3⟩ := trodAll_four hA
 obtain ⟨rfl, rfl⟩ := trodVars_none hV
 obtain ⟨l, hrep, hr, x, y, hd⟩ := sL Tryz.underlying22 Tryz.underlying3 (by kernel_rfl) (hval 0 22 v0 rfl rfl) h0
 obtain ⟨ls, hrep1, hr1, xs, zs, hd1⟩ := aF6 Tryz.underlying23 Tryz.underlying22 Tryz.underlying3 (by kernel_rfl) (by kernel_rfl) (hval 1 23 v1 rfl rfl) h1
 rw [aW9] at hrep1
 obtain ⟨m, hrep2, hr2, x2, y2, hd2⟩ := sL Tryz.underlying22 Tryz.underlying3 (by kernel_rfl) (hval 2 22 v2 rfl rfl) h2
 obtain ⟨n3, rfl, rfl, rfl, w3⟩ := open_int Tryz.underlying3 (hval 3 3 v3 rfl rfl) h3
 clear hA0 hval0
 simp only [append_nil, append_assoc] at hW'
 have hlt : ∀ x ∈ p0, x.block < W.heap.size := fun x hx => by simpa using hW'.lt x (mem_append.2 (.inl hx))
 have hlt1 : ∀ x ∈ p1, x.block < W.heap.size := fun x hx => by simpa using hW'.lt x (mem_append.2 (.inr (mem_append.2 (.inl hx))))
 have hlt2 : ∀ x ∈ p2, x.block < W.heap.size := fun x hx => by simpa using hW'.lt x (mem_append.2 (.inr (mem_append.2 (.inr hx))))
 have hwt' : (DataW.weightsEach Tryz.prog (Tryz.f7.params.toList ++ Rows.eraseLetsSpec.plain.varTypes Tryz.prog) ([d0, d1, d2, .lit (.int .i64 n3)] ++ [])).all (· ≤ reachBytes) = true := hwt
 have hl : Fits l := by
  unfold Fits
  rcases hd with ⟨_, hd⟩ | ⟨rfl, hd⟩
  ·rw [hd]; simp
  ·have := sized_slice hwt' (j := 0) (t := 22) (e := 3) rfl rfl Tryz.underlying22
   rw [show Tryz.prog.bytesOf 3 = 8 by kernel_rfl] at this
   have hb := reachBytes_lt
   omega
 have hmf : Fits m := by
  unfold Fits
  rcases hd2 with ⟨_, hd2⟩ | ⟨rfl, hd2⟩
  ·rw [hd2]; simp
  ·have := sized_slice hwt' (j := 2) (t := 22) (e := 3) rfl rfl Tryz.underlying22
   rw [show Tryz.prog.bytesOf 3 = 8 by kernel_rfl] at this
   have hb := reachBytes_lt
   omega
 have hw1 : ∀ n ∈ d1.weights Tryz.prog 23, n ≤ reachBytes := fun n hn => by
  have h1 := all_eq_true.1 hwt' n (DataW.weights_mem_each (j := 1) (t := 23) (d := d1) rfl rfl n hn)
  exact zq0 h1
 have hl1 : ls.length ≤ 1152921504606846976 ∧ ∀ x ∈ ls, Fits x := by
  unfold Fits
  rcases hd1 with ⟨rfl, rfl⟩ | ⟨rfl, hxl, hxe⟩
  ·exact ⟨by simp, by simp⟩
  ·rw [DataW.weights, Tryz.underlying23] at hw1
   dsimp only at hw1
   refine ⟨?_, fun x hx => ?_⟩
   ·have h1 := hw1 _ zq2
    rw [show Tryz.prog.bytesOf 22 = 23 + 1 by kernel_rfl] at h1
    have := sF h1
    omega
   ·obtain ⟨k, hk⟩ := List.getElem?_of_mem hx
    obtain ⟨y, hy, ⟨rfl, rfl⟩ | ⟨u, z, rfl, hu⟩⟩ := hxe k x hk
    ·simp
    ·have h1 := hw1 ((u.length + z.length) * Tryz.prog.bytesOf 3) (zq3 _ (mem_append.2 (.inl (lS hy (by rw [DataW.weights, Tryz.underlying22]; exact zq2)))))
     rw [show Tryz.prog.bytesOf 3 = 7 + 1 by kernel_rfl] at h1
     have := sF h1
     omega
 refine (aJ0 (aBz aOa l ls m n3 hr hl (fun x hx => ⟨fun k hk => hr1 x hx k hk, hl1.2 x hx⟩) hl1.1 hr2 hmf (aWv w3)) W (vals := [v0, v1, v2, .int .i64 n3]) ⟨_, _, rfl, hrep, ⟨_, _, rfl, hrep1, ⟨_, _, rfl, hrep2, ⟨_, _, rfl, rfl, rfl⟩⟩⟩⟩ (ht := aVj hL)).mono fun e W' ⟨v, S, μ, he, bel, hv⟩ => ?_
 subst he
 rw [aT3 hv]
 have hp0 := Below.trod Tryz.laidOut (by kernel_rfl) (zq0 (by kernel_rfl)) h0 bel hlt
 have hp1 := Below.trod Tryz.laidOut (by kernel_rfl) (zq0 (by kernel_rfl)) h1 bel hlt1
 have hp2 := Below.trod Tryz.laidOut (by kernel_rfl) (zq0 (by kernel_rfl)) h2 bel hlt2
 have hq := trodAll_mk4 hp0 hp1 hp2 (shut_int Tryz.underlying3 w3)
 rw [append_nil] at hq
 exact ⟨_, rfl, ⟨_, _, _, [], _, [], hW', trodAll_mk1 (shut_bool Tryz.underlying4 true), hq, rfl, bel.frame _, fun h => by cases h⟩⟩
theorem rA : Rows.EraseLetsSaid :=
 OpenClaim.holds_of_wide 7 Tryz.f7 rfl rfl rfl rfl rfl rfl rfl ⟨rfl, rfl, rfl, rfl, rfl⟩ rfl rfl rfl rfl rfl (by kernel_rfl) Tryz.func7 (by kernel_rfl)
  (zq0 (by kernel_rfl)) (by unfold Func.isWrapper; first | (rw [if_pos (by decide +kernel)]; kernel_rfl) | (rw [if_neg (by decide +kernel)]; exact ⟨rfl, rfl⟩))
  (fun os started H enc _ => oY os started H enc)
theorem eraseLets_card_holds : Rows.EraseLetsCardSaid :=
 Claim7.holds_tied_plain_at .later [] [.data, .data, .data] true (true, "56759d3ea28ae732895687f94e58afa360807d84aa9b63d7f2471d17859befac") false rA (fun _ h => by cases h) (by kernel_rfl) (fun _ h => by cases h) eraseLets_row_tie rfl ⟨rfl, rfl⟩ (by kernel_rfl) rfl
  (fun f fn hf hfn => by
   obtain rfl : f = 7 := Option.some.inj ((show Tryz.prog.funcNamed "fugue/fuguelaw24.EraseLets" = some 7 by kernel_rfl).symm.trans hf) |>.symm;obtain rfl : fn = Tryz.f7 := (Option.some.inj (Tryz.func7.symm.trans hfn)).symm
   exact ⟨by kernel_rfl, fun j t ht => by
    rw [Tryz.params7] at ht;have hm : t ∈ [22, 23, 22, 3] := by simpa using Array.mem_of_getElem? ht
    have hall : ([22, 23, 22, 3].all fun u => !Tryz.prog.wantsStandIn u) = true := by kernel_rfl
    exact (show Tryz.prog.wantsStandIn t = false by simpa using all_eq_true.1 hall t hm)⟩)
  (by kernel_rfl)
end Go.Proofs.YtmoekkcdkjopgaaGreatDoor
