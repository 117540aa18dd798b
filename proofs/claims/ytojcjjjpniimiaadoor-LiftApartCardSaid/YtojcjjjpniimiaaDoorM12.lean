/-
  Texts Lt4 in one.
-/
import Derived.Test.YtojcjjjpniimiaaDoorM11
/- CORE OF A TYPE, made of numbers: the least core of a type. -/
namespace Go.Proofs.YtojcjjjpniimiaaDoor
open Go Go.AM
set_option maxRecDepth 20000

/-- Core of the shapes that are made: how great it is. -/
inductive GC : Nat → Core → Prop
  | var {s : Str} (h : s ∈ nm6) : GC 4 (.mk 1 0 s zTy [] [] [])
  | con {s : Str} (h : s.length ≤ 8) : GC 9 (.mk 2 0 s zTy [] [] [])
  | int {n : Int} (h : -100 ≤ n ∧ n ≤ 100) : GC 1 (.mk 3 n [] zTy [] [] [])
  | app {m n : Nat} {a b : Core} (ha : GC m a) (hb : GC n b) : GC (m + n + 1) (.mk 4 0 [] zTy [a, b] [] [])
  | lam {m k : Nat} {s : Str} {t : Ty} {a : Core} (h : s ∈ nm6) (ht : GT k t) (hk : k ≤ 100) (ha : GC m a) : GC (m + 4) (.mk 5 0 s t [a] [] [])
  | tapp {m k : Nat} {t : Ty} {a : Core} (ht : GT k t) (hk : k ≤ 100) (ha : GC m a) : GC (m + 1) (.mk 6 0 [] t [a] [] [])
  | tlam {m : Nat} {s : Str} {a : Core} (h : s.length ≤ 8) (ha : GC m a) : GC (m + 9) (.mk 7 0 s zTy [a] [] [])
  | lt {m n k : Nat} {s : Str} {t : Ty} {a b : Core} (h : s ∈ nm6) (ht : GT k t) (hk : k ≤ 100) (ha : GC m a) (hb : GC n b) : GC (m + n + 5) (.mk 8 0 [] zTy [a] [.mk s t b] [])
  | case1 {m n k : Nat} {t : Ty} {a b : Core} {f i : Int} {s : Str} {vs : List Str} (ht : GT k t) (hk : k ≤ 100) (ha : GC m a) (hb : GC n b) (h1 : 1 ≤ f ∧ f ≤ 3) (h2 : -100 ≤ i ∧ i ≤ 100) (h3 : s.length ≤ 8) (h4 : ∀ x ∈ vs, x ∈ nm6) (h5 : vs.length ≤ 2) : GC (m + n + 20) (.mk 9 0 [] t [a] [] [.mk f i s vs b])
  | case2 {m n o k : Nat} {t : Ty} {a b c : Core} {f i : Int} {s : Str} {vs : List Str} {f' i' : Int} {s' : Str} {vs' : List Str} (ht : GT k t) (hk : k ≤ 100) (ha : GC m a) (hb : GC n b) (hc : GC o c) (h1 : 1 ≤ f ∧ f ≤ 3) (h2 : -100 ≤ i ∧ i ≤ 100) (h3 : s.length ≤ 8) (h4 : ∀ x ∈ vs, x ∈ nm6) (h5 : vs.length ≤ 2) (h1' : 1 ≤ f' ∧ f' ≤ 3) (h2' : -100 ≤ i' ∧ i' ≤ 100) (h3' : s'.length ≤ 8) (h4' : ∀ x ∈ vs', x ∈ nm6) (h5' : vs'.length ≤ 2) : GC (m + n + o + 40) (.mk 9 0 [] t [a] [] [.mk f i s vs b, .mk f' i' s' vs' c])
  | prim {m n : Nat} {s : Str} {a b : Core} (h : s ∈ primL) (ha : GC m a) (hb : GC n b) : GC (m + n + 5) (.mk 10 0 s zTy [a, b] [] [])
  | fail {k : Nat} {t : Ty} (ht : GT k t) (hk : k ≤ 100) : GC 1 (.mk 11 0 [] t [] [] [])

/-- What is given. -/
structure Gok (v : Gv) : Prop where
  all : ∀ x ∈ v.l, (x.1 = [] ∨ x.1 ∈ nm6) ∧ ∃ k, k ≤ 100 ∧ GT k x.2
  vars : Sh8 v.vars
  d0 : 0 ≤ v.deep
  len : (v.l.length : Int) ≤ v.deep
  vlen : (v.vars.length : Int) ≤ v.deep + 1
theorem Gok.more {v : Gv} (h : Gok v) {s : Str} {t : Ty} {k : Nat} (hs : s = [] ∨ s ∈ nm6) (ht : GT k t) (hk : k ≤ 100) : Gok (moreV v s t) := by
  obtain ⟨h1, h2, h3, h4, h5⟩ := h
  refine ⟨fun x hx => ?_, h2, by show 0 ≤ v.deep + 1; omega, ?_, by show (v.vars.length : Int) ≤ v.deep + 1 + 1; omega⟩
  · rcases List.mem_append.1 hx with hx | hx
    · exact h1 x hx
    · rw [List.mem_singleton.1 hx]
      exact ⟨hs, k, hk, ht⟩
  · show ((v.l ++ [(s, t)]).length : Int) ≤ v.deep + 1
    rw [List.length_append]
    simp only [List.length_cons, List.length_nil]
    omega
/-- The places that are tried, from behind. -/
def tryR (L : List (Str × Ty)) (f g : Nat → Bool) : Nat → List Int → Option Str × List Int
  | 0, l => (none, l)
  | k + 1, l => if ¬ (L[k]?.getD ([], zTy)).1 = [] ∧ f k = true ∧ g k = true then (if 0 < (nextM l 3).1 then (some (L[k]?.getD ([], zTy)).1, (nextM l 3).2) else tryR L f g k (nextM l 3).2) else tryR L f g k l
theorem tryR_ok (L : List (Str × Ty)) (f g : Nat → Bool) : ∀ (k : Nat) (l : List Int), k ≤ L.length → Ok l → Ok (tryR L f g k l).2 ∧ ∀ s, (tryR L f g k l).1 = some s → ¬ s = [] ∧ ∃ x ∈ L, x.1 = s
  | 0, l, _, h => ⟨h, fun s hs => by simp [tryR] at hs⟩
  | k + 1, l, hk, h => by
    rw [tryR]
    split
    · rename_i hc
      split
      · refine ⟨nextM_ok h 3, fun s hs => ?_⟩
        simp only [Option.some.injEq] at hs
        subst hs
        obtain ⟨x, hx⟩ := get_of_lt (l := L) (k := k) (by omega)
        rw [hx] at hc ⊢
        exact ⟨hc.1, x, List.mem_of_getElem? hx, rfl⟩
      · exact tryR_ok L f g k _ (by omega) (nextM_ok h 3)
    · exact tryR_ok L f g k _ (by omega) h
def vR (v : Gv) : List R := (encV v).map R.c
def tR (t : Ty) : List R := (encTy t).map R.c
def bb (f : Int) (s a : Str) : Bool := bif decide (f = 3) then decide (s = a) else false

theorem bb_true {f : Int} {s a : Str} (h : bb f s a = true) : f = 3 ∧ s = a := by
  unfold bb at h
  by_cases h1 : f = 3
  · by_cases h2 : s = a
    · exact ⟨h1, h2⟩
    · simp [h2] at h
  · simp [h1] at h
theorem bb_len {f : Int} {s a : Str} {n k : Nat} (h : (bif decide (f = 3) then bif decide (s = a) then decide ((n : Int) = (k : Int)) else false else bif false then decide ((n : Int) = (k : Int)) else false) = true) : bb f s a = true ∧ n = k := by
  unfold bb
  by_cases h1 : f = 3
  · by_cases h2 : s = a
    · simp [h1, h2] at h ⊢; omega
    · simp [h2] at h
  · simp [h1] at h
def LeafSpec (n : Nat) (t : Ty) : Prop := ∀ (v : Gv) (l : List Int) (left : Int), Gok v → v.deep + n ≤ 200 → Ok l →
  ∃ (c : Core) (l' : List Int) (m : Nat), GC m c ∧ m ≤ 20 * n ∧ Ok l' ∧ ImpC Tryd.prog 76 [.one (.vp 700 0), .pa (encV v), tyV t] (mO l left) (.pa (encCore c)) (mO l' left)

theorem leaf_step (n : Nat) (t : Ty) (hg : GT n t) (hn : n ≤ 100) (ih : ∀ (k : Nat) (u : Ty), k < n → GT k u → LeafSpec k u) : LeafSpec n t := by
  intro v l left hv hd hl
  have hL : v.l.length ≤ 200 := by have := hv.len; omega
  have hS : ∀ k : Nat, ∃ b : Bool, ∀ x, v.l[k]? = some x → ImpC Tryd.prog 95 [tyV x.2, tyV t] [] (B b) [] := fun k => by
    cases hx : v.l[k]? with
    | none => exact ⟨false, fun x h => by cases h⟩
    | some x =>
      obtain ⟨_, k', hk', hx'⟩ := hv.all x (List.mem_of_getElem? hx)
      obtain ⟨r, hr⟩ := e_same hx' hg (by omega) (by omega)
      exact ⟨r, fun y hy => by cases hy; exact hr⟩
  have hH : ∀ k : Nat, ∃ b : Bool, k < v.l.length → ImpC Tryd.prog 96 [.one (.c (.sl 5 (v.l.map encN))), I .i64 k] [] (B b) [] := fun k => by
    by_cases hk : k < v.l.length
    · obtain ⟨r, hr⟩ := e_hides v.l k hk (by omega)
      exact ⟨r, fun _ => hr⟩
    · exact ⟨false, fun h => absurd h hk⟩
  obtain ⟨f, hf⟩ := Classical.axiomOfChoice hS
  obtain ⟨g, hgh⟩ := Classical.axiomOfChoice hH
  obtain ⟨hok, hsome⟩ := tryR_ok v.l f g v.l.length l (Nat.le_refl _) hl
  have hkl : (v.l.map encN).length = v.l.length := List.length_map _
  generalize hout : tryR v.l f g v.l.length l = out at hok hsome
  obtain ⟨so, l1⟩ := out
  cases so with
  | some s =>
    obtain ⟨hs0, x, hx, hxs⟩ := hsome s rfl
    have hs6 : s ∈ nm6 := by
      rcases (hv.all x hx).1 with h | h
      · rw [hxs] at h; exact absurd h hs0
      · rw [hxs] at h; exact h
    refine ⟨.mk 1 0 s zTy [] [] [], l1, 4, .var hs6, by cases hg <;> omega, hok, ?_⟩
    generalize hO : (some s, l1) = out at hout
    refine impC (n := 166) tok Tryd.func76 rfl rfl rfl ?_
    refine awp_seq (ag [] rfl ?_)
    refine awp_seq (awp_seq (ag [] rfl ?_))
    refine awp_block (awp_loop (fun x : Nat × List Int => mk [(0, .one (.vp 700 0)), (4, .one (.vp 4 0)), (5, .one (.vp 5 0)), (6, .one (.vp 6 0)), (7, I .i64 ((x.1 : Int) - 1))] ([(4, .var 89 (vR v)), (5, .var 34 (tR t)), (6, .var 38 [.c (.int .i64 0), .c (.int .i64 0), .c (.str []), .c (.int .i64 0), .c (.int .i64 0), .c (.str []), .c .nl, .c .nl, .c .nl, .c .nl])] ++ mO x.2 left)) (fun x => x.1 ≤ v.l.length ∧ Ok x.2 ∧ tryR v.l f g x.1 x.2 = out) (fun x => x.1) (v.l.length, l) ⟨Nat.le_refl _, hl, hout⟩ (sl (he := ⟨rfl, rfl, rfl, rfl, by rw [← hkl]; rfl, trivial⟩)) ?_)
    rintro ⟨k, lk⟩ ⟨hk, hlk, hr⟩
    dsimp only at hk hlk hr ⊢
    refine awp_seq (awp_seq (ag [] rfl ?_))
    refine awp_cond rfl (fun hb => ?_) (fun hb => ?_)
    · have hk0 : 0 < k := by have := of_decide_eq_true hb; omega
      obtain ⟨k, rfl⟩ : ∃ j, k = j + 1 := ⟨k - 1, by omega⟩
      obtain ⟨⟨xs, xt⟩, hx⟩ := get_of_lt (l := v.l) (k := k) (by omega)
      have hx' := getEnc encN hx
      have hki : ((k + 1 : Nat) : Int) - 1 = (k : Int) := by omega
      rw [hki]
      rw [tryR, hx] at hr
      dsimp only [Option.getD] at hr
      have hc1 := hf k _ hx
      have hc2 := hgh k (by omega)
      have hc3 := c_nextM lk left 3 (by decide) hlk
      dsimp only at hc1
      refine awp_skip ?_
      refine awp_seq (awp_block (awp_seq ?_))
      by_cases h1 : xs = []
      · rw [if_neg (fun h => h.1 h1)] at hr
        have h1' : (!decide (xs = [])) = false := by rw [decide_eq_true h1]; rfl
        refine ag [(3, .row k (encN (xs, xt))), (7, .bv false), (16, .bv false)] rfl ?_
        refine awp_cond rfl (fun hb => by cases hb) (fun _ => ?_)
        refine awp_skip (ag [] rfl ?_)
        exact ⟨(k, lk), ⟨by dsimp only; omega, hlk, hr⟩, by dsimp only; omega, sl⟩
      have h1' : (!decide (xs = [])) = true := by rw [decide_eq_false h1]; rfl
      cases h2 : f k with
      | false =>
        rw [if_neg (fun h => by rw [h2] at h; cases h.2.1)] at hr
        rw [h2] at hc1
        refine awp_rg mixed ?_
        refine ak 15 [(3, .row k (encN (xs, xt))), (7, .bv true), (11, .row k (encN (xs, xt)))] rfl ?_
        refine kcG hc1 ?_ (hw := h1')
        refine ak 12 [(16, .bv true)] rfl ?_
        refine az ?_
        refine awp_cond rfl (fun hb => by cases hb) (fun _ => ?_)
        refine awp_skip (ag [] rfl ?_)
        exact ⟨(k, lk), ⟨by dsimp only; omega, hlk, hr⟩, by dsimp only; omega, sl⟩
      | true =>
      rw [h2] at hc1
      cases h3 : g k with
      | false =>
        rw [if_neg (fun h => by rw [h3] at h; cases h.2.2)] at hr
        rw [h3] at hc2
        refine awp_rg mixed ?_
        refine ak 15 [(3, .row k (encN (xs, xt))), (7, .bv true), (11, .row k (encN (xs, xt)))] rfl ?_
        refine kcG hc1 ?_ (hw := h1')
        refine ak 5 [(16, .bv true)] rfl ?_
        refine kcG hc2 ?_
        refine ak 6 [] rfl ?_
        refine az ?_
        refine awp_cond rfl (fun hb => by cases hb) (fun _ => ?_)
        refine awp_skip (ag [] rfl ?_)
        exact ⟨(k, lk), ⟨by dsimp only; omega, hlk, hr⟩, by dsimp only; omega, sl⟩
      | true =>
      rw [if_pos ⟨h1, h2, h3⟩] at hr
      rw [h3] at hc2
      refine awp_rg mixed ?_
      refine ak 15 [(3, .row k (encN (xs, xt))), (7, .bv true), (11, .row k (encN (xs, xt)))] rfl ?_
      refine kcG hc1 ?_ (hw := h1')
      refine ak 5 [(16, .bv true)] rfl ?_
      refine kcG hc2 ?_
      refine ak 3 [] rfl ?_
      refine kcG hc3 ?_
      refine ak 2 [] rfl ?_
      refine az ?_
      refine awp_cond rfl (fun hb => ?_) (fun hb => ?_)
      · have hb' : 0 < (nextM lk 3).1 := of_decide_eq_true hb
        rw [if_pos hb'] at hr
        first
        | (exfalso; rw [← hr] at hO; cases hO; done)
        | (rw [← hO] at hr
           simp only [Prod.mk.injEq, Option.some.injEq] at hr
           obtain ⟨rfl, rfl⟩ := hr
           refine awp_seq (ag [(3, .row k (encN (xs, xt)))] rfl ?_)
           exact awp_ret (rtC trw))
      · have hb' : ¬ 0 < (nextM lk 3).1 := of_decide_eq_false hb
        rw [if_neg hb'] at hr
        refine awp_skip (ag [] rfl ?_)
        exact ⟨(k, _), ⟨by dsimp only; omega, nextM_ok hlk 3, hr⟩, by dsimp only; omega, sl⟩
    have hk0 : k = 0 := by have := of_decide_eq_false hb; omega
    subst hk0
    rw [tryR] at hr
    refine awp_exit ?_
    rw [← hO] at hr
    cases hr
  | none =>
    clear hsome hS hH
    have hok : Ok l1 := hok
    generalize hO : ((none : Option Str), l1) = out at hout
    rcases e_function hg with ⟨m1, m2, a, b, ga, gb, hnm, rfl, cF⟩ | cF
    · obtain ⟨s, l2, hs, hl2, cN⟩ := e_name l1 left v hok
      have hs6 : s ∈ nm6 := List.mem_append.2 (.inl hs)
      obtain ⟨c, l3, m, gc, hm, hl3, cL⟩ := ih m2 b (by omega) gb (moreV v s a) l2 left (hv.more (.inr hs6) ga (by omega)) (by show v.deep + 1 + (m2 : Int) ≤ 200; omega) hl2
      have cM := c_more19 v s a (by omega) ⟨hv.d0, by omega⟩
      refine ⟨.mk 5 0 s a [c] [] [], l3, m + 4, .lam hs6 ga (by omega) gc, by omega, hl3, ?_⟩
      refine impC (n := 166) tok Tryd.func76 rfl rfl rfl ?_
      refine awp_seq (ag [] rfl ?_)
      refine awp_seq (awp_seq (ag [] rfl ?_))
      refine awp_block (awp_loop (fun x : Nat × List Int => mk [(0, .one (.vp 700 0)), (4, .one (.vp 4 0)), (5, .one (.vp 5 0)), (6, .one (.vp 6 0)), (7, I .i64 ((x.1 : Int) - 1))] ([(4, .var 89 (vR v)), (5, .var 34 (tR (tfun a b))), (6, .var 38 [.c (.int .i64 0), .c (.int .i64 0), .c (.str []), .c (.int .i64 0), .c (.int .i64 0), .c (.str []), .c .nl, .c .nl, .c .nl, .c .nl])] ++ mO x.2 left)) (fun x => x.1 ≤ v.l.length ∧ Ok x.2 ∧ tryR v.l f g x.1 x.2 = out) (fun x => x.1) (v.l.length, l) ⟨Nat.le_refl _, hl, hout⟩ (sl (he := ⟨rfl, rfl, rfl, rfl, by rw [← hkl]; rfl, trivial⟩)) ?_)
      rintro ⟨k, lk⟩ ⟨hk, hlk, hr⟩
      dsimp only at hk hlk hr ⊢
      refine awp_seq (awp_seq (ag [] rfl ?_))
      refine awp_cond rfl (fun hb => ?_) (fun hb => ?_)
      · have hk0 : 0 < k := by have := of_decide_eq_true hb; omega
        obtain ⟨k, rfl⟩ : ∃ j, k = j + 1 := ⟨k - 1, by omega⟩
        obtain ⟨⟨xs, xt⟩, hx⟩ := get_of_lt (l := v.l) (k := k) (by omega)
        have hx' := getEnc encN hx
        have hki : ((k + 1 : Nat) : Int) - 1 = (k : Int) := by omega
        rw [hki]
        rw [tryR, hx] at hr
        dsimp only [Option.getD] at hr
        have hc1 := hf k _ hx
        have hc2 := hgh k (by omega)
        have hc3 := c_nextM lk left 3 (by decide) hlk
        dsimp only at hc1
        refine awp_skip ?_
        refine awp_seq (awp_block (awp_seq ?_))
        by_cases h1 : xs = []
        · rw [if_neg (fun h => h.1 h1)] at hr
          have h1' : (!decide (xs = [])) = false := by rw [decide_eq_true h1]; rfl
          refine ag [(3, .row k (encN (xs, xt))), (7, .bv false), (16, .bv false)] rfl ?_
          refine awp_cond rfl (fun hb => by cases hb) (fun _ => ?_)
          refine awp_skip (ag [] rfl ?_)
          exact ⟨(k, lk), ⟨by dsimp only; omega, hlk, hr⟩, by dsimp only; omega, sl⟩
        have h1' : (!decide (xs = [])) = true := by rw [decide_eq_false h1]; rfl
        cases h2 : f k with
        | false =>
          rw [if_neg (fun h => by rw [h2] at h; cases h.2.1)] at hr
          rw [h2] at hc1
          refine awp_rg mixed ?_
          refine ak 15 [(3, .row k (encN (xs, xt))), (7, .bv true), (11, .row k (encN (xs, xt)))] rfl ?_
          refine kcG hc1 ?_ (hw := h1')
          refine ak 12 [(16, .bv true)] rfl ?_
          refine az ?_
          refine awp_cond rfl (fun hb => by cases hb) (fun _ => ?_)
          refine awp_skip (ag [] rfl ?_)
          exact ⟨(k, lk), ⟨by dsimp only; omega, hlk, hr⟩, by dsimp only; omega, sl⟩
        | true =>
        rw [h2] at hc1
        cases h3 : g k with
        | false =>
          rw [if_neg (fun h => by rw [h3] at h; cases h.2.2)] at hr
          rw [h3] at hc2
          refine awp_rg mixed ?_
          refine ak 15 [(3, .row k (encN (xs, xt))), (7, .bv true), (11, .row k (encN (xs, xt)))] rfl ?_
          refine kcG hc1 ?_ (hw := h1')
          refine ak 5 [(16, .bv true)] rfl ?_
          refine kcG hc2 ?_
          refine ak 6 [] rfl ?_
          refine az ?_
          refine awp_cond rfl (fun hb => by cases hb) (fun _ => ?_)
          refine awp_skip (ag [] rfl ?_)
          exact ⟨(k, lk), ⟨by dsimp only; omega, hlk, hr⟩, by dsimp only; omega, sl⟩
        | true =>
        rw [if_pos ⟨h1, h2, h3⟩] at hr
        rw [h3] at hc2
        refine awp_rg mixed ?_
        refine ak 15 [(3, .row k (encN (xs, xt))), (7, .bv true), (11, .row k (encN (xs, xt)))] rfl ?_
        refine kcG hc1 ?_ (hw := h1')
        refine ak 5 [(16, .bv true)] rfl ?_
        refine kcG hc2 ?_
        refine ak 3 [] rfl ?_
        refine kcG hc3 ?_
        refine ak 2 [] rfl ?_
        refine az ?_
        refine awp_cond rfl (fun hb => ?_) (fun hb => ?_)
        · have hb' : 0 < (nextM lk 3).1 := of_decide_eq_true hb
          rw [if_pos hb'] at hr
          first
          | (exfalso; rw [← hr] at hO; cases hO; done)
          | (rw [← hO] at hr
             simp only [Prod.mk.injEq, Option.some.injEq] at hr
             obtain ⟨rfl, rfl⟩ := hr
             refine awp_seq (ag [(3, .row k (encN (xs, xt)))] rfl ?_)
             exact awp_ret (rtC trw))
        · have hb' : ¬ 0 < (nextM lk 3).1 := of_decide_eq_false hb
          rw [if_neg hb'] at hr
          refine awp_skip (ag [] rfl ?_)
          exact ⟨(k, _), ⟨by dsimp only; omega, nextM_ok hlk 3, hr⟩, by dsimp only; omega, sl⟩
      have hk0 : k = 0 := by have := of_decide_eq_false hb; omega
      subst hk0
      rw [tryR] at hr
      refine awp_exit ?_
      rw [← hO] at hr
      cases hr
      refine awp_seq (awp_seq (awp_rg mixed ?_))
      refine ak 1 [] rfl ?_
      refine kc cF ?_
      refine az ?_
      refine awp_cond rfl (fun _ => ?_) (fun hb => by cases hb)
      refine awp_seq (awp_rg mixed ?_)
      refine ak 2 [] rfl ?_
      refine kc cN ?_
      refine ak 1 [] rfl ?_
      refine az ?_
      refine awp_seq (awp_rg mixed ?_)
      refine ak 18 [(3, .row 0 (encTy (tapp (.mk 3 0 arrow []) a))), (6, .row 1 (encTy a)), (13, .row 0 (encTy (tapp (.mk 3 0 arrow []) a))), (16, .row 1 (encTy a))] rfl ?_
      refine kc cM ?_
      refine ak 4 [(21, .row 1 (encTy b))] rfl ?_
      refine kc cL ?_
      refine ak 3 [(24, .all)] rfl ?_
      refine az ?_
      exact awp_ret (rtC trw)
    obtain ⟨hd', L, hLg, hLn, cS⟩ := e_spine hg (by omega)
    by_cases hI : bb hd'.form hd'.name [73, 110, 116] = true
    · obtain ⟨i, l2, hi, hl2, cN⟩ := e_next l1 left 7 (by decide) hok
      refine ⟨.mk 3 ((i : Int) - 2) [] zTy [] [] [], l2, 1, .int (by omega), by cases hg <;> omega, hl2, ?_⟩
      refine impC (n := 166) tok Tryd.func76 rfl rfl rfl ?_
      refine awp_seq (ag [] rfl ?_)
      refine awp_seq (awp_seq (ag [] rfl ?_))
      refine awp_block (awp_loop (fun x : Nat × List Int => mk [(0, .one (.vp 700 0)), (4, .one (.vp 4 0)), (5, .one (.vp 5 0)), (6, .one (.vp 6 0)), (7, I .i64 ((x.1 : Int) - 1))] ([(4, .var 89 (vR v)), (5, .var 34 (tR t)), (6, .var 38 [.c (.int .i64 0), .c (.int .i64 0), .c (.str []), .c (.int .i64 0), .c (.int .i64 0), .c (.str []), .c .nl, .c .nl, .c .nl, .c .nl])] ++ mO x.2 left)) (fun x => x.1 ≤ v.l.length ∧ Ok x.2 ∧ tryR v.l f g x.1 x.2 = out) (fun x => x.1) (v.l.length, l) ⟨Nat.le_refl _, hl, hout⟩ (sl (he := ⟨rfl, rfl, rfl, rfl, by rw [← hkl]; rfl, trivial⟩)) ?_)
      rintro ⟨k, lk⟩ ⟨hk, hlk, hr⟩
      dsimp only at hk hlk hr ⊢
      refine awp_seq (awp_seq (ag [] rfl ?_))
      refine awp_cond rfl (fun hb => ?_) (fun hb => ?_)
      · have hk0 : 0 < k := by have := of_decide_eq_true hb; omega
        obtain ⟨k, rfl⟩ : ∃ j, k = j + 1 := ⟨k - 1, by omega⟩
        obtain ⟨⟨xs, xt⟩, hx⟩ := get_of_lt (l := v.l) (k := k) (by omega)
        have hx' := getEnc encN hx
        have hki : ((k + 1 : Nat) : Int) - 1 = (k : Int) := by omega
        rw [hki]
        rw [tryR, hx] at hr
        dsimp only [Option.getD] at hr
        have hc1 := hf k _ hx
        have hc2 := hgh k (by omega)
        have hc3 := c_nextM lk left 3 (by decide) hlk
        dsimp only at hc1
        refine awp_skip ?_
        refine awp_seq (awp_block (awp_seq ?_))
        by_cases h1 : xs = []
        · rw [if_neg (fun h => h.1 h1)] at hr
          have h1' : (!decide (xs = [])) = false := by rw [decide_eq_true h1]; rfl
          refine ag [(3, .row k (encN (xs, xt))), (7, .bv false), (16, .bv false)] rfl ?_
          refine awp_cond rfl (fun hb => by cases hb) (fun _ => ?_)
          refine awp_skip (ag [] rfl ?_)
          exact ⟨(k, lk), ⟨by dsimp only; omega, hlk, hr⟩, by dsimp only; omega, sl⟩
        have h1' : (!decide (xs = [])) = true := by rw [decide_eq_false h1]; rfl
        cases h2 : f k with
        | false =>
          rw [if_neg (fun h => by rw [h2] at h; cases h.2.1)] at hr
          rw [h2] at hc1
          refine awp_rg mixed ?_
          refine ak 15 [(3, .row k (encN (xs, xt))), (7, .bv true), (11, .row k (encN (xs, xt)))] rfl ?_
          refine kcG hc1 ?_ (hw := h1')
          refine ak 12 [(16, .bv true)] rfl ?_
          refine az ?_
          refine awp_cond rfl (fun hb => by cases hb) (fun _ => ?_)
          refine awp_skip (ag [] rfl ?_)
          exact ⟨(k, lk), ⟨by dsimp only; omega, hlk, hr⟩, by dsimp only; omega, sl⟩
        | true =>
        rw [h2] at hc1
        cases h3 : g k with
        | false =>
          rw [if_neg (fun h => by rw [h3] at h; cases h.2.2)] at hr
          rw [h3] at hc2
          refine awp_rg mixed ?_
          refine ak 15 [(3, .row k (encN (xs, xt))), (7, .bv true), (11, .row k (encN (xs, xt)))] rfl ?_
          refine kcG hc1 ?_ (hw := h1')
          refine ak 5 [(16, .bv true)] rfl ?_
          refine kcG hc2 ?_
          refine ak 6 [] rfl ?_
          refine az ?_
          refine awp_cond rfl (fun hb => by cases hb) (fun _ => ?_)
          refine awp_skip (ag [] rfl ?_)
          exact ⟨(k, lk), ⟨by dsimp only; omega, hlk, hr⟩, by dsimp only; omega, sl⟩
        | true =>
        rw [if_pos ⟨h1, h2, h3⟩] at hr
        rw [h3] at hc2
        refine awp_rg mixed ?_
        refine ak 15 [(3, .row k (encN (xs, xt))), (7, .bv true), (11, .row k (encN (xs, xt)))] rfl ?_
        refine kcG hc1 ?_ (hw := h1')
        refine ak 5 [(16, .bv true)] rfl ?_
        refine kcG hc2 ?_
        refine ak 3 [] rfl ?_
        refine kcG hc3 ?_
        refine ak 2 [] rfl ?_
        refine az ?_
        refine awp_cond rfl (fun hb => ?_) (fun hb => ?_)
        · have hb' : 0 < (nextM lk 3).1 := of_decide_eq_true hb
          rw [if_pos hb'] at hr
          first
          | (exfalso; rw [← hr] at hO; cases hO; done)
          | (rw [← hO] at hr
             simp only [Prod.mk.injEq, Option.some.injEq] at hr
             obtain ⟨rfl, rfl⟩ := hr
             refine awp_seq (ag [(3, .row k (encN (xs, xt)))] rfl ?_)
             exact awp_ret (rtC trw))
        · have hb' : ¬ 0 < (nextM lk 3).1 := of_decide_eq_false hb
          rw [if_neg hb'] at hr
          refine awp_skip (ag [] rfl ?_)
          exact ⟨(k, _), ⟨by dsimp only; omega, nextM_ok hlk 3, hr⟩, by dsimp only; omega, sl⟩
      have hk0 : k = 0 := by have := of_decide_eq_false hb; omega
      subst hk0
      rw [tryR] at hr
      refine awp_exit ?_
      rw [← hO] at hr
      cases hr
      refine awp_seq (awp_seq (awp_rg mixed ?_))
      refine ak 1 [] rfl ?_
      refine kc cF ?_
      refine az ?_
      refine awp_cond rfl (fun hb => by cases hb) (fun _ => ?_)
      refine awp_skip ?_
      refine awp_seq (awp_rg mixed ?_)
      refine ak 1 [] rfl ?_
      refine kc cS ?_
      refine ak 6 [] rfl ?_
      refine az ?_
      refine awp_seq (awp_block (awp_seq (agF 4 [] rfl rfl rfl ?_)))
      refine awp_cond rfl (fun _ => ?_) (fun hb => by have := hI.symm.trans hb; cases this)
      refine awp_seq (awp_rg mixed ?_)
      refine ak 1 [] rfl ?_
      refine kc cN ?_
      refine ak 3 [] rfl ?_ (hc := by repeat (first | exact trivial | refine ⟨by first | rfl | omega | (simp [Ty.form, Ty.name, Ty.n]; omega) | (simp; done), ?_⟩))
      refine az ?_
      exact awp_ret (rtC trw)
    by_cases hB : bb hd'.form hd'.name [66, 111, 111, 108] = true
    · obtain ⟨i, l2, hi, hl2, cN⟩ := e_next l1 left 2 (by decide) hok
      have hi : i < 2 := by omega
      obtain ⟨s, hs⟩ : ∃ s, ([[70, 97, 108, 115, 101], [84, 114, 117, 101]] : List Str)[i]? = some s := get_of_lt (by simpa using hi)
      have hs' := getEnc encS hs
      have hs8 : s.length ≤ 8 := by
        have : i = 0 ∨ i = 1 := by omega
        rcases this with rfl | rfl <;> (simp at hs; subst hs; decide)
      refine ⟨.mk 2 0 s zTy [] [] [], l2, 9, .con hs8, by cases hg <;> omega, hl2, ?_⟩
      refine impC (n := 166) tok Tryd.func76 rfl rfl rfl ?_
      refine awp_seq (ag [] rfl ?_)
      refine awp_seq (awp_seq (ag [] rfl ?_))
      refine awp_block (awp_loop (fun x : Nat × List Int => mk [(0, .one (.vp 700 0)), (4, .one (.vp 4 0)), (5, .one (.vp 5 0)), (6, .one (.vp 6 0)), (7, I .i64 ((x.1 : Int) - 1))] ([(4, .var 89 (vR v)), (5, .var 34 (tR t)), (6, .var 38 [.c (.int .i64 0), .c (.int .i64 0), .c (.str []), .c (.int .i64 0), .c (.int .i64 0), .c (.str []), .c .nl, .c .nl, .c .nl, .c .nl])] ++ mO x.2 left)) (fun x => x.1 ≤ v.l.length ∧ Ok x.2 ∧ tryR v.l f g x.1 x.2 = out) (fun x => x.1) (v.l.length, l) ⟨Nat.le_refl _, hl, hout⟩ (sl (he := ⟨rfl, rfl, rfl, rfl, by rw [← hkl]; rfl, trivial⟩)) ?_)
      rintro ⟨k, lk⟩ ⟨hk, hlk, hr⟩
      dsimp only at hk hlk hr ⊢
      refine awp_seq (awp_seq (ag [] rfl ?_))
      refine awp_cond rfl (fun hb => ?_) (fun hb => ?_)
      · have hk0 : 0 < k := by have := of_decide_eq_true hb; omega
        obtain ⟨k, rfl⟩ : ∃ j, k = j + 1 := ⟨k - 1, by omega⟩
        obtain ⟨⟨xs, xt⟩, hx⟩ := get_of_lt (l := v.l) (k := k) (by omega)
        have hx' := getEnc encN hx
        have hki : ((k + 1 : Nat) : Int) - 1 = (k : Int) := by omega
        rw [hki]
        rw [tryR, hx] at hr
        dsimp only [Option.getD] at hr
        have hc1 := hf k _ hx
        have hc2 := hgh k (by omega)
        have hc3 := c_nextM lk left 3 (by decide) hlk
        dsimp only at hc1
        refine awp_skip ?_
        refine awp_seq (awp_block (awp_seq ?_))
        by_cases h1 : xs = []
        · rw [if_neg (fun h => h.1 h1)] at hr
          have h1' : (!decide (xs = [])) = false := by rw [decide_eq_true h1]; rfl
          refine ag [(3, .row k (encN (xs, xt))), (7, .bv false), (16, .bv false)] rfl ?_
          refine awp_cond rfl (fun hb => by cases hb) (fun _ => ?_)
          refine awp_skip (ag [] rfl ?_)
          exact ⟨(k, lk), ⟨by dsimp only; omega, hlk, hr⟩, by dsimp only; omega, sl⟩
        have h1' : (!decide (xs = [])) = true := by rw [decide_eq_false h1]; rfl
        cases h2 : f k with
        | false =>
          rw [if_neg (fun h => by rw [h2] at h; cases h.2.1)] at hr
          rw [h2] at hc1
          refine awp_rg mixed ?_
          refine ak 15 [(3, .row k (encN (xs, xt))), (7, .bv true), (11, .row k (encN (xs, xt)))] rfl ?_
          refine kcG hc1 ?_ (hw := h1')
          refine ak 12 [(16, .bv true)] rfl ?_
          refine az ?_
          refine awp_cond rfl (fun hb => by cases hb) (fun _ => ?_)
          refine awp_skip (ag [] rfl ?_)
          exact ⟨(k, lk), ⟨by dsimp only; omega, hlk, hr⟩, by dsimp only; omega, sl⟩
        | true =>
        rw [h2] at hc1
        cases h3 : g k with
        | false =>
          rw [if_neg (fun h => by rw [h3] at h; cases h.2.2)] at hr
          rw [h3] at hc2
          refine awp_rg mixed ?_
          refine ak 15 [(3, .row k (encN (xs, xt))), (7, .bv true), (11, .row k (encN (xs, xt)))] rfl ?_
          refine kcG hc1 ?_ (hw := h1')
          refine ak 5 [(16, .bv true)] rfl ?_
          refine kcG hc2 ?_
          refine ak 6 [] rfl ?_
          refine az ?_
          refine awp_cond rfl (fun hb => by cases hb) (fun _ => ?_)
          refine awp_skip (ag [] rfl ?_)
          exact ⟨(k, lk), ⟨by dsimp only; omega, hlk, hr⟩, by dsimp only; omega, sl⟩
        | true =>
        rw [if_pos ⟨h1, h2, h3⟩] at hr
        rw [h3] at hc2
        refine awp_rg mixed ?_
        refine ak 15 [(3, .row k (encN (xs, xt))), (7, .bv true), (11, .row k (encN (xs, xt)))] rfl ?_
        refine kcG hc1 ?_ (hw := h1')
        refine ak 5 [(16, .bv true)] rfl ?_
        refine kcG hc2 ?_
        refine ak 3 [] rfl ?_
        refine kcG hc3 ?_
        refine ak 2 [] rfl ?_
        refine az ?_
        refine awp_cond rfl (fun hb => ?_) (fun hb => ?_)
        · have hb' : 0 < (nextM lk 3).1 := of_decide_eq_true hb
          rw [if_pos hb'] at hr
          first
          | (exfalso; rw [← hr] at hO; cases hO; done)
          | (rw [← hO] at hr
             simp only [Prod.mk.injEq, Option.some.injEq] at hr
             obtain ⟨rfl, rfl⟩ := hr
             refine awp_seq (ag [(3, .row k (encN (xs, xt)))] rfl ?_)
             exact awp_ret (rtC trw))
        · have hb' : ¬ 0 < (nextM lk 3).1 := of_decide_eq_false hb
          rw [if_neg hb'] at hr
          refine awp_skip (ag [] rfl ?_)
          exact ⟨(k, _), ⟨by dsimp only; omega, nextM_ok hlk 3, hr⟩, by dsimp only; omega, sl⟩
      have hk0 : k = 0 := by have := of_decide_eq_false hb; omega
      subst hk0
      rw [tryR] at hr
      refine awp_exit ?_
      rw [← hO] at hr
      cases hr
      refine awp_seq (awp_seq (awp_rg mixed ?_))
      refine ak 1 [] rfl ?_
      refine kc cF ?_
      refine az ?_
      refine awp_cond rfl (fun hb => by cases hb) (fun _ => ?_)
      refine awp_skip ?_
      refine awp_seq (awp_rg mixed ?_)
      refine ak 1 [] rfl ?_
      refine kc cS ?_
      refine ak 6 [] rfl ?_
      refine az ?_
      refine awp_seq (awp_block (awp_seq (agF 4 [] rfl rfl rfl ?_)))
      refine awp_cond rfl (fun hb => absurd hb hI) (fun _ => ?_)
      refine awp_seq (agF 4 [] rfl rfl rfl ?_)
      refine awp_cond rfl (fun _ => ?_) (fun hb => by have := hB.symm.trans hb; cases this)
      refine awp_seq (awp_rg mixed ?_)
      refine ak 2 [] rfl ?_
      refine kc cN ?_
      refine ak 4 [(3, .row i []), (4, .row i (encS s))] rfl ?_
      refine az ?_
      exact awp_ret (rtC trw)
    by_cases hX : bb hd'.form hd'.name [76] = true ∧ L.length = 1
    · obtain ⟨x, rfl⟩ : ∃ x, L = [x] := List.length_eq_one_iff.1 hX.2
      obtain ⟨k, _, gx, _, hk⟩ := hLg
      have cG := c_given19 [78] [x] (by simp)
      refine ⟨.mk 6 0 [] x [.mk 2 0 [78] zTy [] [] []] [] [], l1, 9 + 1, .tapp gx (by omega) (.con (by decide)), by cases hg <;> omega, hok, ?_⟩
      refine impC (n := 166) tok Tryd.func76 rfl rfl rfl ?_
      refine awp_seq (ag [] rfl ?_)
      refine awp_seq (awp_seq (ag [] rfl ?_))
      refine awp_block (awp_loop (fun x : Nat × List Int => mk [(0, .one (.vp 700 0)), (4, .one (.vp 4 0)), (5, .one (.vp 5 0)), (6, .one (.vp 6 0)), (7, I .i64 ((x.1 : Int) - 1))] ([(4, .var 89 (vR v)), (5, .var 34 (tR t)), (6, .var 38 [.c (.int .i64 0), .c (.int .i64 0), .c (.str []), .c (.int .i64 0), .c (.int .i64 0), .c (.str []), .c .nl, .c .nl, .c .nl, .c .nl])] ++ mO x.2 left)) (fun x => x.1 ≤ v.l.length ∧ Ok x.2 ∧ tryR v.l f g x.1 x.2 = out) (fun x => x.1) (v.l.length, l) ⟨Nat.le_refl _, hl, hout⟩ (sl (he := ⟨rfl, rfl, rfl, rfl, by rw [← hkl]; rfl, trivial⟩)) ?_)
      rintro ⟨k, lk⟩ ⟨hk, hlk, hr⟩
      dsimp only at hk hlk hr ⊢
      refine awp_seq (awp_seq (ag [] rfl ?_))
      refine awp_cond rfl (fun hb => ?_) (fun hb => ?_)
      · have hk0 : 0 < k := by have := of_decide_eq_true hb; omega
        obtain ⟨k, rfl⟩ : ∃ j, k = j + 1 := ⟨k - 1, by omega⟩
        obtain ⟨⟨xs, xt⟩, hx⟩ := get_of_lt (l := v.l) (k := k) (by omega)
        have hx' := getEnc encN hx
        have hki : ((k + 1 : Nat) : Int) - 1 = (k : Int) := by omega
        rw [hki]
        rw [tryR, hx] at hr
        dsimp only [Option.getD] at hr
        have hc1 := hf k _ hx
        have hc2 := hgh k (by omega)
        have hc3 := c_nextM lk left 3 (by decide) hlk
        dsimp only at hc1
        refine awp_skip ?_
        refine awp_seq (awp_block (awp_seq ?_))
        by_cases h1 : xs = []
        · rw [if_neg (fun h => h.1 h1)] at hr
          have h1' : (!decide (xs = [])) = false := by rw [decide_eq_true h1]; rfl
          refine ag [(3, .row k (encN (xs, xt))), (7, .bv false), (16, .bv false)] rfl ?_
          refine awp_cond rfl (fun hb => by cases hb) (fun _ => ?_)
          refine awp_skip (ag [] rfl ?_)
          exact ⟨(k, lk), ⟨by dsimp only; omega, hlk, hr⟩, by dsimp only; omega, sl⟩
        have h1' : (!decide (xs = [])) = true := by rw [decide_eq_false h1]; rfl
        cases h2 : f k with
        | false =>
          rw [if_neg (fun h => by rw [h2] at h; cases h.2.1)] at hr
          rw [h2] at hc1
          refine awp_rg mixed ?_
          refine ak 15 [(3, .row k (encN (xs, xt))), (7, .bv true), (11, .row k (encN (xs, xt)))] rfl ?_
          refine kcG hc1 ?_ (hw := h1')
          refine ak 12 [(16, .bv true)] rfl ?_
          refine az ?_
          refine awp_cond rfl (fun hb => by cases hb) (fun _ => ?_)
          refine awp_skip (ag [] rfl ?_)
          exact ⟨(k, lk), ⟨by dsimp only; omega, hlk, hr⟩, by dsimp only; omega, sl⟩
        | true =>
        rw [h2] at hc1
        cases h3 : g k with
        | false =>
          rw [if_neg (fun h => by rw [h3] at h; cases h.2.2)] at hr
          rw [h3] at hc2
          refine awp_rg mixed ?_
          refine ak 15 [(3, .row k (encN (xs, xt))), (7, .bv true), (11, .row k (encN (xs, xt)))] rfl ?_
          refine kcG hc1 ?_ (hw := h1')
          refine ak 5 [(16, .bv true)] rfl ?_
          refine kcG hc2 ?_
          refine ak 6 [] rfl ?_
          refine az ?_
          refine awp_cond rfl (fun hb => by cases hb) (fun _ => ?_)
          refine awp_skip (ag [] rfl ?_)
          exact ⟨(k, lk), ⟨by dsimp only; omega, hlk, hr⟩, by dsimp only; omega, sl⟩
        | true =>
        rw [if_pos ⟨h1, h2, h3⟩] at hr
        rw [h3] at hc2
        refine awp_rg mixed ?_
        refine ak 15 [(3, .row k (encN (xs, xt))), (7, .bv true), (11, .row k (encN (xs, xt)))] rfl ?_
        refine kcG hc1 ?_ (hw := h1')
        refine ak 5 [(16, .bv true)] rfl ?_
        refine kcG hc2 ?_
        refine ak 3 [] rfl ?_
        refine kcG hc3 ?_
        refine ak 2 [] rfl ?_
        refine az ?_
        refine awp_cond rfl (fun hb => ?_) (fun hb => ?_)
        · have hb' : 0 < (nextM lk 3).1 := of_decide_eq_true hb
          rw [if_pos hb'] at hr
          first
          | (exfalso; rw [← hr] at hO; cases hO; done)
          | (rw [← hO] at hr
             simp only [Prod.mk.injEq, Option.some.injEq] at hr
             obtain ⟨rfl, rfl⟩ := hr
             refine awp_seq (ag [(3, .row k (encN (xs, xt)))] rfl ?_)
             exact awp_ret (rtC trw))
        · have hb' : ¬ 0 < (nextM lk 3).1 := of_decide_eq_false hb
          rw [if_neg hb'] at hr
          refine awp_skip (ag [] rfl ?_)
          exact ⟨(k, _), ⟨by dsimp only; omega, nextM_ok hlk 3, hr⟩, by dsimp only; omega, sl⟩
      have hk0 : k = 0 := by have := of_decide_eq_false hb; omega
      subst hk0
      rw [tryR] at hr
      refine awp_exit ?_
      rw [← hO] at hr
      cases hr
      refine awp_seq (awp_seq (awp_rg mixed ?_))
      refine ak 1 [] rfl ?_
      refine kc cF ?_
      refine az ?_
      refine awp_cond rfl (fun hb => by cases hb) (fun _ => ?_)
      refine awp_skip ?_
      refine awp_seq (awp_rg mixed ?_)
      refine ak 1 [] rfl ?_
      refine kc cS ?_
      refine ak 6 [] rfl ?_
      refine az ?_
      refine awp_seq (awp_block (awp_seq (agF 4 [] rfl rfl rfl ?_)))
      refine awp_cond rfl (fun hb => absurd hb hI) (fun _ => ?_)
      refine awp_seq (agF 4 [] rfl rfl rfl ?_)
      refine awp_cond rfl (fun hb => absurd hb hB) (fun _ => ?_)
      refine awp_seq (agF 4 [] rfl rfl rfl ?_)
      refine awp_cond rfl (fun _ => ?_) (fun hb => ?_)
      · refine awp_seq (awp_rg mixed ?_)
        refine ak 1 [] rfl ?_
        refine kc cG ?_
        refine ak 1 [] rfl ?_
        refine az ?_
        exact awp_ret (rtC trw)
      · exfalso
        obtain ⟨h3, h4⟩ := bb_true hX.1
        simp [h3, h4] at hb
    by_cases hP : bb hd'.form hd'.name [80] = true ∧ L.length = 2
    · obtain ⟨x, y, rfl⟩ : ∃ x y, L = [x, y] := by
        match L, hP.2 with
        | [x, y], _ => exact ⟨x, y, rfl⟩
      obtain ⟨k1, m1, gx, ⟨k2, m2, gy, _, hk2⟩, hk1⟩ := hLg
      have cG := c_given19 [80] [x, y] (by simp)
      obtain ⟨c1, l2, w1, gc1, hw1, hl2, cL1⟩ := ih k1 x (by omega) gx v l1 left hv (by omega) hok
      obtain ⟨c2, l3, w2, gc2, hw2, hl3, cL2⟩ := ih k2 y (by omega) gy v l2 left hv (by omega) hl2
      have cA1 := c_apply19 (givenR [80] [x, y]) c1
      have cA2 := c_apply19 (.mk 4 0 [] zTy [givenR [80] [x, y], c1] [] []) c2
      refine ⟨.mk 4 0 [] zTy [.mk 4 0 [] zTy [givenR [80] [x, y], c1] [] [], c2] [] [], l3, (9 + 1 + 1) + w1 + 1 + w2 + 1, .app (.app (.tapp gy (by omega) (.tapp gx (by omega) (.con (by decide)))) gc1) gc2, by omega, hl3, ?_⟩
      refine impC (n := 166) tok Tryd.func76 rfl rfl rfl ?_
      refine awp_seq (ag [] rfl ?_)
      refine awp_seq (awp_seq (ag [] rfl ?_))
      refine awp_block (awp_loop (fun x : Nat × List Int => mk [(0, .one (.vp 700 0)), (4, .one (.vp 4 0)), (5, .one (.vp 5 0)), (6, .one (.vp 6 0)), (7, I .i64 ((x.1 : Int) - 1))] ([(4, .var 89 (vR v)), (5, .var 34 (tR t)), (6, .var 38 [.c (.int .i64 0), .c (.int .i64 0), .c (.str []), .c (.int .i64 0), .c (.int .i64 0), .c (.str []), .c .nl, .c .nl, .c .nl, .c .nl])] ++ mO x.2 left)) (fun x => x.1 ≤ v.l.length ∧ Ok x.2 ∧ tryR v.l f g x.1 x.2 = out) (fun x => x.1) (v.l.length, l) ⟨Nat.le_refl _, hl, hout⟩ (sl (he := ⟨rfl, rfl, rfl, rfl, by rw [← hkl]; rfl, trivial⟩)) ?_)
      rintro ⟨k, lk⟩ ⟨hk, hlk, hr⟩
      dsimp only at hk hlk hr ⊢
      refine awp_seq (awp_seq (ag [] rfl ?_))
      refine awp_cond rfl (fun hb => ?_) (fun hb => ?_)
      · have hk0 : 0 < k := by have := of_decide_eq_true hb; omega
        obtain ⟨k, rfl⟩ : ∃ j, k = j + 1 := ⟨k - 1, by omega⟩
        obtain ⟨⟨xs, xt⟩, hx⟩ := get_of_lt (l := v.l) (k := k) (by omega)
        have hx' := getEnc encN hx
        have hki : ((k + 1 : Nat) : Int) - 1 = (k : Int) := by omega
        rw [hki]
        rw [tryR, hx] at hr
        dsimp only [Option.getD] at hr
        have hc1 := hf k _ hx
        have hc2 := hgh k (by omega)
        have hc3 := c_nextM lk left 3 (by decide) hlk
        dsimp only at hc1
        refine awp_skip ?_
        refine awp_seq (awp_block (awp_seq ?_))
        by_cases h1 : xs = []
        · rw [if_neg (fun h => h.1 h1)] at hr
          have h1' : (!decide (xs = [])) = false := by rw [decide_eq_true h1]; rfl
          refine ag [(3, .row k (encN (xs, xt))), (7, .bv false), (16, .bv false)] rfl ?_
          refine awp_cond rfl (fun hb => by cases hb) (fun _ => ?_)
          refine awp_skip (ag [] rfl ?_)
          exact ⟨(k, lk), ⟨by dsimp only; omega, hlk, hr⟩, by dsimp only; omega, sl⟩
        have h1' : (!decide (xs = [])) = true := by rw [decide_eq_false h1]; rfl
        cases h2 : f k with
        | false =>
          rw [if_neg (fun h => by rw [h2] at h; cases h.2.1)] at hr
          rw [h2] at hc1
          refine awp_rg mixed ?_
          refine ak 15 [(3, .row k (encN (xs, xt))), (7, .bv true), (11, .row k (encN (xs, xt)))] rfl ?_
          refine kcG hc1 ?_ (hw := h1')
          refine ak 12 [(16, .bv true)] rfl ?_
          refine az ?_
          refine awp_cond rfl (fun hb => by cases hb) (fun _ => ?_)
          refine awp_skip (ag [] rfl ?_)
          exact ⟨(k, lk), ⟨by dsimp only; omega, hlk, hr⟩, by dsimp only; omega, sl⟩
        | true =>
        rw [h2] at hc1
        cases h3 : g k with
        | false =>
          rw [if_neg (fun h => by rw [h3] at h; cases h.2.2)] at hr
          rw [h3] at hc2
          refine awp_rg mixed ?_
          refine ak 15 [(3, .row k (encN (xs, xt))), (7, .bv true), (11, .row k (encN (xs, xt)))] rfl ?_
          refine kcG hc1 ?_ (hw := h1')
          refine ak 5 [(16, .bv true)] rfl ?_
          refine kcG hc2 ?_
          refine ak 6 [] rfl ?_
          refine az ?_
          refine awp_cond rfl (fun hb => by cases hb) (fun _ => ?_)
          refine awp_skip (ag [] rfl ?_)
          exact ⟨(k, lk), ⟨by dsimp only; omega, hlk, hr⟩, by dsimp only; omega, sl⟩
        | true =>
        rw [if_pos ⟨h1, h2, h3⟩] at hr
        rw [h3] at hc2
        refine awp_rg mixed ?_
        refine ak 15 [(3, .row k (encN (xs, xt))), (7, .bv true), (11, .row k (encN (xs, xt)))] rfl ?_
        refine kcG hc1 ?_ (hw := h1')
        refine ak 5 [(16, .bv true)] rfl ?_
        refine kcG hc2 ?_
        refine ak 3 [] rfl ?_
        refine kcG hc3 ?_
        refine ak 2 [] rfl ?_
        refine az ?_
        refine awp_cond rfl (fun hb => ?_) (fun hb => ?_)
        · have hb' : 0 < (nextM lk 3).1 := of_decide_eq_true hb
          rw [if_pos hb'] at hr
          first
          | (exfalso; rw [← hr] at hO; cases hO; done)
          | (rw [← hO] at hr
             simp only [Prod.mk.injEq, Option.some.injEq] at hr
             obtain ⟨rfl, rfl⟩ := hr
             refine awp_seq (ag [(3, .row k (encN (xs, xt)))] rfl ?_)
             exact awp_ret (rtC trw))
        · have hb' : ¬ 0 < (nextM lk 3).1 := of_decide_eq_false hb
          rw [if_neg hb'] at hr
          refine awp_skip (ag [] rfl ?_)
          exact ⟨(k, _), ⟨by dsimp only; omega, nextM_ok hlk 3, hr⟩, by dsimp only; omega, sl⟩
      have hk0 : k = 0 := by have := of_decide_eq_false hb; omega
      subst hk0
      rw [tryR] at hr
      refine awp_exit ?_
      rw [← hO] at hr
      cases hr
      refine awp_seq (awp_seq (awp_rg mixed ?_))
      refine ak 1 [] rfl ?_
      refine kc cF ?_
      refine az ?_
      refine awp_cond rfl (fun hb => by cases hb) (fun _ => ?_)
      refine awp_skip ?_
      refine awp_seq (awp_rg mixed ?_)
      refine ak 1 [] rfl ?_
      refine kc cS ?_
      refine ak 6 [] rfl ?_
      refine az ?_
      refine awp_seq (awp_block (awp_seq (agF 4 [] rfl rfl rfl ?_)))
      refine awp_cond rfl (fun hb => absurd hb hI) (fun _ => ?_)
      refine awp_seq (agF 4 [] rfl rfl rfl ?_)
      refine awp_cond rfl (fun hb => absurd hb hB) (fun _ => ?_)
      refine awp_seq (agF 4 [] rfl rfl rfl ?_)
      refine awp_cond rfl (fun hb => ?_) (fun _ => ?_)
      · exfalso
        simp at hb
      refine awp_seq (agF 4 [] rfl rfl rfl ?_)
      refine awp_cond rfl (fun _ => ?_) (fun hb => ?_)
      · refine awp_seq (awp_rg mixed ?_)
        refine ak 1 [] rfl ?_
        refine kc cG ?_
        refine ak 5 [(5, .row 0 []), (6, .row 0 (encTy x))] rfl ?_
        refine kc cL1 ?_
        refine kc cA1 ?_
        refine ak 5 [(12, .row 1 []), (13, .row 1 (encTy y))] rfl ?_
        refine kc cL2 ?_
        refine kc cA2 ?_
        refine ak 1 [] rfl ?_
        refine az ?_
        exact awp_ret (rtC trw)
      · exfalso
        obtain ⟨h3, h4⟩ := bb_true hP.1
        simp [h3, h4] at hb
    · refine ⟨.mk 11 0 [] t [] [] [], l1, 1, .fail hg hn, by cases hg <;> omega, hok, ?_⟩
      refine impC (n := 166) tok Tryd.func76 rfl rfl rfl ?_
      refine awp_seq (ag [] rfl ?_)
      refine awp_seq (awp_seq (ag [] rfl ?_))
      refine awp_block (awp_loop (fun x : Nat × List Int => mk [(0, .one (.vp 700 0)), (4, .one (.vp 4 0)), (5, .one (.vp 5 0)), (6, .one (.vp 6 0)), (7, I .i64 ((x.1 : Int) - 1))] ([(4, .var 89 (vR v)), (5, .var 34 (tR t)), (6, .var 38 [.c (.int .i64 0), .c (.int .i64 0), .c (.str []), .c (.int .i64 0), .c (.int .i64 0), .c (.str []), .c .nl, .c .nl, .c .nl, .c .nl])] ++ mO x.2 left)) (fun x => x.1 ≤ v.l.length ∧ Ok x.2 ∧ tryR v.l f g x.1 x.2 = out) (fun x => x.1) (v.l.length, l) ⟨Nat.le_refl _, hl, hout⟩ (sl (he := ⟨rfl, rfl, rfl, rfl, by rw [← hkl]; rfl, trivial⟩)) ?_)
      rintro ⟨k, lk⟩ ⟨hk, hlk, hr⟩
      dsimp only at hk hlk hr ⊢
      refine awp_seq (awp_seq (ag [] rfl ?_))
      refine awp_cond rfl (fun hb => ?_) (fun hb => ?_)
      · have hk0 : 0 < k := by have := of_decide_eq_true hb; omega
        obtain ⟨k, rfl⟩ : ∃ j, k = j + 1 := ⟨k - 1, by omega⟩
        obtain ⟨⟨xs, xt⟩, hx⟩ := get_of_lt (l := v.l) (k := k) (by omega)
        have hx' := getEnc encN hx
        have hki : ((k + 1 : Nat) : Int) - 1 = (k : Int) := by omega
        rw [hki]
        rw [tryR, hx] at hr
        dsimp only [Option.getD] at hr
        have hc1 := hf k _ hx
        have hc2 := hgh k (by omega)
        have hc3 := c_nextM lk left 3 (by decide) hlk
        dsimp only at hc1
        refine awp_skip ?_
        refine awp_seq (awp_block (awp_seq ?_))
        by_cases h1 : xs = []
        · rw [if_neg (fun h => h.1 h1)] at hr
          have h1' : (!decide (xs = [])) = false := by rw [decide_eq_true h1]; rfl
          refine ag [(3, .row k (encN (xs, xt))), (7, .bv false), (16, .bv false)] rfl ?_
          refine awp_cond rfl (fun hb => by cases hb) (fun _ => ?_)
          refine awp_skip (ag [] rfl ?_)
          exact ⟨(k, lk), ⟨by dsimp only; omega, hlk, hr⟩, by dsimp only; omega, sl⟩
        have h1' : (!decide (xs = [])) = true := by rw [decide_eq_false h1]; rfl
        cases h2 : f k with
        | false =>
          rw [if_neg (fun h => by rw [h2] at h; cases h.2.1)] at hr
          rw [h2] at hc1
          refine awp_rg mixed ?_
          refine ak 15 [(3, .row k (encN (xs, xt))), (7, .bv true), (11, .row k (encN (xs, xt)))] rfl ?_
          refine kcG hc1 ?_ (hw := h1')
          refine ak 12 [(16, .bv true)] rfl ?_
          refine az ?_
          refine awp_cond rfl (fun hb => by cases hb) (fun _ => ?_)
          refine awp_skip (ag [] rfl ?_)
          exact ⟨(k, lk), ⟨by dsimp only; omega, hlk, hr⟩, by dsimp only; omega, sl⟩
        | true =>
        rw [h2] at hc1
        cases h3 : g k with
        | false =>
          rw [if_neg (fun h => by rw [h3] at h; cases h.2.2)] at hr
          rw [h3] at hc2
          refine awp_rg mixed ?_
          refine ak 15 [(3, .row k (encN (xs, xt))), (7, .bv true), (11, .row k (encN (xs, xt)))] rfl ?_
          refine kcG hc1 ?_ (hw := h1')
          refine ak 5 [(16, .bv true)] rfl ?_
          refine kcG hc2 ?_
          refine ak 6 [] rfl ?_
          refine az ?_
          refine awp_cond rfl (fun hb => by cases hb) (fun _ => ?_)
          refine awp_skip (ag [] rfl ?_)
          exact ⟨(k, lk), ⟨by dsimp only; omega, hlk, hr⟩, by dsimp only; omega, sl⟩
        | true =>
        rw [if_pos ⟨h1, h2, h3⟩] at hr
        rw [h3] at hc2
        refine awp_rg mixed ?_
        refine ak 15 [(3, .row k (encN (xs, xt))), (7, .bv true), (11, .row k (encN (xs, xt)))] rfl ?_
        refine kcG hc1 ?_ (hw := h1')
        refine ak 5 [(16, .bv true)] rfl ?_
        refine kcG hc2 ?_
        refine ak 3 [] rfl ?_
        refine kcG hc3 ?_
        refine ak 2 [] rfl ?_
        refine az ?_
        refine awp_cond rfl (fun hb => ?_) (fun hb => ?_)
        · have hb' : 0 < (nextM lk 3).1 := of_decide_eq_true hb
          rw [if_pos hb'] at hr
          first
          | (exfalso; rw [← hr] at hO; cases hO; done)
          | (rw [← hO] at hr
             simp only [Prod.mk.injEq, Option.some.injEq] at hr
             obtain ⟨rfl, rfl⟩ := hr
             refine awp_seq (ag [(3, .row k (encN (xs, xt)))] rfl ?_)
             exact awp_ret (rtC trw))
        · have hb' : ¬ 0 < (nextM lk 3).1 := of_decide_eq_false hb
          rw [if_neg hb'] at hr
          refine awp_skip (ag [] rfl ?_)
          exact ⟨(k, _), ⟨by dsimp only; omega, nextM_ok hlk 3, hr⟩, by dsimp only; omega, sl⟩
      have hk0 : k = 0 := by have := of_decide_eq_false hb; omega
      subst hk0
      rw [tryR] at hr
      refine awp_exit ?_
      rw [← hO] at hr
      cases hr
      refine awp_seq (awp_seq (awp_rg mixed ?_))
      refine ak 1 [] rfl ?_
      refine kc cF ?_
      refine az ?_
      refine awp_cond rfl (fun hb => by cases hb) (fun _ => ?_)
      refine awp_skip ?_
      refine awp_seq (awp_rg mixed ?_)
      refine ak 1 [] rfl ?_
      refine kc cS ?_
      refine ak 6 [] rfl ?_
      refine az ?_
      refine awp_seq (awp_block (awp_seq (agF 4 [] rfl rfl rfl ?_)))
      refine awp_cond rfl (fun hb => absurd hb hI) (fun _ => ?_)
      refine awp_seq (agF 4 [] rfl rfl rfl ?_)
      refine awp_cond rfl (fun hb => absurd hb hB) (fun _ => ?_)
      refine awp_seq (agF 4 [] rfl rfl rfl ?_)
      refine awp_cond rfl (fun hb => ?_) (fun _ => ?_)
      · exfalso
        exact hX (bb_len hb)
      refine awp_seq (agF 4 [] rfl rfl rfl ?_)
      refine awp_cond rfl (fun hb => ?_) (fun _ => ?_)
      · exfalso
        exact hP (bb_len hb)
      refine awp_skip ?_
      refine awp_seq (ag [] rfl ?_)
      exact awp_ret (rtC trw)
theorem e_leaf : ∀ (N n : Nat) (t : Ty), n ≤ N → GT n t → n ≤ 100 → LeafSpec n t
  | 0, n, t, h, hg, _ => by cases hg <;> omega
  | N + 1, n, t, h, hg, hn => leaf_step n t hg hn fun k u hk hu => e_leaf N k u (by omega) hu (by omega)
end Go.Proofs.YtojcjjjpniimiaaDoor
