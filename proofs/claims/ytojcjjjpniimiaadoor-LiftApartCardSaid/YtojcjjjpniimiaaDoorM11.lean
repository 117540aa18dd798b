/-
  Texts Lt1, Lt2, Lt3 in one.
-/
import Derived.Test.YtojcjjjpniimiaaDoorM10
/- CORE OF A TYPE, made of numbers (fugueref19.Typed): the small functions. -/
namespace Go.Proofs.YtojcjjjpniimiaaDoor
open Go Go.AM
set_option maxRecDepth 20000

/-- The names. -/
def nm6 : List Str := nmL ++ [[112]]
theorem nm6_len : ∀ s ∈ nm6, s.length ≤ 3 := by decide
/-- A maker: its numbers, and how many nodes there may be yet. -/
def mO (l : List Int) (left : Int) : List (Nat × AObj) := [(700, .var 82 [.c (.sl 1 (l.map encI)), .c (.int .i64 left)])]
/-- The next number. -/
def nextM (l : List Int) (k : Int) : Int × List Int := match l with
  | [] => (0, [])
  | x :: l => (around x k, l)
structure Ok (l : List Int) : Prop where
  nums : Nums l
  fits : Fits l
theorem nextM_lt (l : List Int) {k : Int} (hk : 0 < k) : 0 ≤ (nextM l k).1 ∧ (nextM l k).1 < k := by
  cases l with
  | nil => exact ⟨Int.le_refl _, hk⟩
  | cons x l => exact around_lt x hk
theorem nextM_ok {l : List Int} (h : Ok l) (k : Int) : Ok (nextM l k).2 := by
  cases l with
  | nil => exact h
  | cons x l => exact ⟨h.nums.suf ⟨[x], rfl⟩, h.fits.suf ⟨[x], rfl⟩⟩
theorem c_nextM (l : List Int) (left k : Int) (hk : 1 ≤ k) (h : Ok l) : ImpC Tryd.prog 46 [.one (.vp 700 0), I .i64 k] (mO l left) (I .i64 (nextM l k).1) (mO (nextM l k).2 left) := by
  obtain ⟨hl, hf⟩ := h
  unfold Fits at hf
  refine impC (n := 29) tok Tryd.func46 rfl rfl rfl ?_
  refine awp_seq (ag [] rfl ?_)
  refine awp_seq (awp_seq (ag [] rfl ?_))
  cases l with
  | nil =>
    refine awp_cond rfl (fun hb => ?_) (fun hb => by simp at hb)
    refine awp_seq (ag [] rfl ?_)
    exact awp_ret rtT
  | cons x l =>
    refine awp_cond rfl (fun hb => by simp at hb; omega) (fun hb => ?_)
    refine awp_skip (awp_seq (awp_rg mixed ?_))
    refine ak 7 [] rfl ?_
    refine kc (c_around x k (hl x (by simp)) hk) ?_
    refine ak 1 [] rfl ?_
    refine az ?_
    refine awp_seq (ag [] rfl ?_)
    refine awp_seq (ag [] rfl ?_)
    exact awp_ret rtT
/-- A number, and what is left. -/
theorem e_next (l : List Int) (left k : Int) (hk : 1 ≤ k) (h : Ok l) : ∃ (i : Nat) (l' : List Int), (i : Int) < k ∧ Ok l' ∧ ImpC Tryd.prog 46 [.one (.vp 700 0), I .i64 k] (mO l left) (I .i64 i) (mO l' left) := by
  obtain ⟨i, hi⟩ := Int.eq_ofNat_of_zero_le (nextM_lt l (k := k) (by omega)).1
  have h1 := (nextM_lt l (k := k) (by omega)).2
  have h2 := c_nextM l left k hk h
  rw [hi] at h1 h2
  exact ⟨i, _, h1, nextM_ok h k, h2⟩

/-- A type of a few shapes: how great it is. -/
inductive GT : Nat → Ty → Prop
  | var (s : Str) (h : s.length ≤ 8) : GT 1 (.mk 2 0 s [])
  | con (s : Str) (h : s.length ≤ 8) : GT 1 (.mk 3 0 s [])
  | app {m n : Nat} {a b : Ty} (ha : GT m a) (hb : GT n b) : GT (m + n + 1) (.mk 4 0 [] [a, b])
theorem GT.fn {m n : Nat} {a b : Ty} (ha : GT m a) (hb : GT n b) : GT (m + n + 3) (tfun a b) := by
  have h := GT.app (GT.app (GT.con arrow (by decide)) ha) hb
  rw [show m + n + 3 = 1 + m + 1 + n + 1 by omega]
  exact h
theorem c_con19 (s : Str) : ImpC Tryd.prog 74 [Go.AM.T s] [] (tyV (.mk 3 0 s [])) [] := by
  refine impC (n := 5) tok Tryd.func74 rfl rfl rfl ?_
  refine awp_seq (ag [] rfl ?_)
  refine awp_seq (ag [] rfl ?_)
  refine awp_ret ?_
  exact ⟨.inr rfl, ⟨_, _, .cell rfl (tg rfl) rfl rfl rfl .nil, .cons (.pa (.c .refl (.c .refl (.c .refl (.c .nl .nil))))) .nil, rfl⟩, trivial, rfl⟩

/-! ### What is given -/
def encN (x : Str × Ty) : List C := .str x.1 :: encTy x.2
structure Gv where
  l : List (Str × Ty)
  vars : List Str
  deep : Int
def encV (v : Gv) : List C := [.sl 5 (v.l.map encN), .sl 1 (v.vars.map encS), .int .i64 v.deep]
def moreV (v : Gv) (s : Str) (t : Ty) : Gv := ⟨v.l ++ [(s, t)], v.vars, v.deep + 1⟩
theorem c_more19 (v : Gv) (s : Str) (t : Ty) (hl : v.l.length ≤ 1000000) (hd : 0 ≤ v.deep ∧ v.deep ≤ 1000000) : ImpC Tryd.prog 78 [.pa (encV v), Go.AM.T s, tyV t] [] (.pa (encV (moreV v s t))) [] := by
  obtain ⟨f, n, x, a⟩ := t
  obtain ⟨L, vs, d⟩ := v
  dsimp only at hl hd
  refine impC (n := 24) tok Tryd.func78 rfl rfl rfl ?_
  refine awp_seq (ag [] rfl ?_)
  refine awp_seq (ag [] rfl ?_)
  refine awp_seq (ag [(3, .all)] rfl ?_)
  refine awp_seq (ag [] rfl ?_)
  refine awp_seq (ag [] rfl ?_)
  refine awp_seq (ag [] rfl ?_)
  refine AWp.sub (Sub.freeze (id := 11) rfl) ?_
  rw [show encV (moreV ⟨L, vs, d⟩ s (.mk f n x a)) = [.sl 5 (L.map encN ++ [encN (s, .mk f n x a)]), .sl 1 (vs.map encS), .int .i64 (d + 1)] by
    unfold encV moreV
    rw [List.map_append]; rfl]
  exact awp_ret (rtC trw)

/-- Core that is given a thing. -/
theorem c_apply19 (a b : Core) : ImpC Tryd.prog 79 [.pa (encCore a), .pa (encCore b)] [] (.pa (encCore (.mk 4 0 [] zTy [a, b] [] []))) [] := by
  obtain ⟨f, n, s, ⟨tf, tn, ts, ta⟩, ks, bs, al⟩ := a
  obtain ⟨f', n', s', ⟨tf', tn', ts', ta'⟩, ks', bs', al'⟩ := b
  refine impC (n := 9) tok Tryd.func79 rfl rfl rfl ?_
  refine awp_seq (ag [] rfl ?_)
  refine awp_seq (ag [] rfl ?_)
  refine AWp.sub (Sub.freeze (id := 7) rfl) ?_
  exact awp_ret (rtC trw)
/-- A constructor that is given types. -/
def givenR (s : Str) (l : List Ty) : Core := l.foldl (fun c t => .mk 6 0 [] t [c] [] []) (.mk 2 0 s zTy [] [] [])
theorem c_given19 (s : Str) (l : List Ty) (hl : l.length ≤ 1000000) : ImpC Tryd.prog 82 [Go.AM.T s, .one (.c (.sl 4 (l.map encTy)))] [] (.pa (encCore (givenR s l))) [] := by
  refine impC (n := 23) tok Tryd.func82 rfl rfl rfl ?_
  refine awp_seq (ag [] rfl ?_)
  refine awp_seq (ag [] rfl ?_)
  refine awp_seq (awp_seq (ag [] rfl ?_))
  have hkl : (l.map encTy).length = l.length := List.length_map _
  refine AWp.sub (vp 4 (encCore zCore)) ?_
  refine AWp.sub (vp 5 (encCore (givenR s []))) ?_
  refine awp_block (awp_loop (fun i : Nat => mk [(0, Go.AM.T s), (1, .one (.c (.sl 4 (l.map encTy)))), (4, .one (.vp 4 0)), (5, .one (.vp 5 0)), (6, I .i64 i)] [(4, .var 38 (cellsC zCore)), (5, .var 38 (cellsC (givenR s (l.take i))))]) (fun i => i ≤ l.length) (fun i => l.length - i) 0 (Nat.zero_le _) sl ?_)
  intro i hi
  refine awp_seq (awp_seq (ag [] rfl ?_))
  refine awp_cond rfl (fun hb => ?_) (fun hb => ?_)
  · have hlt := ltD hb hkl
    obtain ⟨t, ht⟩ := get_of_lt hlt
    have ht' := getEnc encTy ht
    refine awp_skip ?_
    obtain ⟨tf, tn, ts, ta⟩ := t
    refine awp_seq (awp_block (ag [(2, .row i (encTy (.mk tf tn ts ta)))] rfl ?_))
    have hst : givenR s (l.take (i + 1)) = .mk 6 0 [] (.mk tf tn ts ta) [givenR s (l.take i)] [] [] := by
      unfold givenR
      rw [List.take_add_one, ht, List.foldl_append]; rfl
    generalize givenR s (l.take i) = g at hst ⊢
    obtain ⟨gf, gn, gs, ⟨gtf, gtn, gts, gta⟩, gk, gb, ga⟩ := g
    refine AWp.sub (Sub.freeze (id := 20) rfl) ?_
    refine AWp.sub (vp 5 (encCore (.mk 6 0 [] (.mk tf tn ts ta) [.mk gf gn gs (.mk gtf gtn gts gta) gk gb ga] [] []))) ?_
    refine ag [] rfl ?_
    refine ⟨i + 1, hlt, by dsimp only; omega, ?_⟩
    dsimp only
    rw [hst]
    exact sl
  · have hge := geD hb hkl hi
    subst hge
    rw [List.take_length]
    refine awp_exit ?_
    refine awp_seq (ag [] rfl ?_)
    exact awp_ret (rtC trw)
end Go.Proofs.YtojcjjjpniimiaaDoor

/- CORE OF A TYPE, made of numbers: how types are looked at. -/
namespace Go.Proofs.YtojcjjjpniimiaaDoor
open Go Go.AM
set_option maxRecDepth 20000

theorem spine_leaf {f n : Int} {s : Str} {a : List Ty} (hf : ¬ f = 4) : ImpC Tryd.prog 81 [tyV (.mk f n s a)] [] (.tup [tyV (.mk f n s a), .one (.hs 510 0 0 0)]) [(510, .arr 34 4 [] 2)] := by
  refine impC (n := 26) tok Tryd.func81 rfl rfl rfl ?_
  refine awp_seq (ag [] rfl ?_)
  refine awp_seq (awp_seq (ag [] rfl ?_))
  refine awp_cond rfl (fun _ => ?_) (fun hb => by simp [Ty.form, hf] at hb)
  refine awp_seq (ag [] rfl ?_)
  refine AWp.sub (Sub.own (t := 3) (id := 510) 34 4 rfl rfl) (AWp.sub (Sub.freeze (id := 510) rfl) ?_)
  refine awp_ret ?_
  exact ⟨.inr rfl, ⟨_, _, .cell rfl (tg rfl) rfl rfl rfl (.tmp rfl .nil), .cons .refl (.cons .refl .nil), rfl⟩, ⟨⟨_, rfl, .arr⟩, trivial⟩, rfl⟩
/-- Types: how great they are together, at most. -/
def GTs : Nat → List Ty → Prop
  | _, [] => True
  | n, x :: l => ∃ k m, GT k x ∧ GTs m l ∧ k + m + 1 ≤ n
theorem GTs.snoc {k : Nat} {b : Ty} (hb : GT k b) : ∀ {l : List Ty} {n : Nat}, GTs n l → GTs (n + k + 1) (l ++ [b])
  | [], n, _ => ⟨k, 0, hb, trivial, by omega⟩
  | x :: l, n, h => by
    obtain ⟨j, m, h1, h2, h3⟩ := h
    exact ⟨j, m + k + 1, h1, GTs.snoc hb h2, by omega⟩
/-- What is given others, and these. -/
theorem e_spine {n : Nat} {t : Ty} (h : GT n t) (hn : n ≤ 100000) : ∃ (hd : Ty) (l : List Ty), GTs (n - 1) l ∧ l.length ≤ n ∧
    ImpC Tryd.prog 81 [tyV t] [] (.tup [tyV hd, .one (.hs 510 0 l.length l.length)]) [(510, .arr 34 4 (l.map encTy) 2)] := by
  induction h with
  | var s hs => exact ⟨.mk 2 0 s [], [], trivial, by simp, spine_leaf (by decide)⟩
  | con s hs => exact ⟨.mk 3 0 s [], [], trivial, by simp, spine_leaf (by decide)⟩
  | @app m n a b ha hb iha ihb =>
    obtain ⟨hd, l, h1, h2, h3⟩ := iha (by omega)
    have hll : l.length ≤ 100000 := by omega
    have hm1 : 1 ≤ m := by cases ha <;> omega
    refine ⟨hd, l ++ [b], ?_, by rw [List.length_append]; simp; omega, ?_⟩
    · have := GTs.snoc hb h1
      rw [show m - 1 + n + 1 = m + n + 1 - 1 by omega] at this
      exact this
    · obtain ⟨hdf, hdn, hds, hda⟩ := hd
      obtain ⟨af, an, sa, aa⟩ := a
      obtain ⟨bf, bn, sb, ba⟩ := b
      refine impC (n := 26) tok Tryd.func81 rfl rfl rfl ?_
      refine awp_seq (ag [] rfl ?_)
      refine awp_seq (awp_seq (ag [] rfl ?_))
      refine awp_cond rfl (fun hb => by simp [Ty.form] at hb) (fun _ => ?_)
      refine awp_skip (awp_seq (awp_rg mixed ?_))
      refine ak 4 [(2, .row 0 (encTy (.mk af an sa aa)))] rfl ?_
      refine kc h3 ?_
      refine ak 6 [] rfl ?_
      refine az ?_
      refine awp_seq (ag [(4, .row 1 (encTy (.mk bf bn sb ba)))] rfl ?_)
      refine AWp.sub (Sub.freeze (id := 510) rfl) ?_
      refine awp_ret ?_
      exact ⟨.inr rfl, ⟨_, _, .cell rfl (tg rfl) rfl rfl rfl (.tmp rfl .nil), .cons .refl (.cons .refl .nil), by rw [List.length_map, List.length_append]; rfl⟩, ⟨⟨_, rfl, by rw [List.map_append]; exact .arr⟩, trivial⟩, rfl⟩

/-- Is a type a function's? -/
theorem e_function {n : Nat} {t : Ty} (h : GT n t) : (∃ (m1 m2 : Nat) (a b : Ty), GT m1 a ∧ GT m2 b ∧ n = m1 + m2 + 3 ∧ t = tfun a b ∧ ImpC Tryd.prog 83 [tyV t] [] (B true) []) ∨ ImpC Tryd.prog 83 [tyV t] [] (B false) [] := by
  cases h with
  | var s hs =>
    refine .inr ?_
    refine impC (n := 28) tok Tryd.func83 rfl rfl rfl ?_
    refine awp_seq (ag [] rfl ?_)
    refine awp_seq (awp_seq (ag [] rfl ?_))
    refine awp_cond rfl (fun _ => ?_) (fun hb => by simp [Ty.form] at hb)
    refine awp_seq (ag [] rfl ?_)
    exact awp_ret rtT
  | con s hs =>
    refine .inr ?_
    refine impC (n := 28) tok Tryd.func83 rfl rfl rfl ?_
    refine awp_seq (ag [] rfl ?_)
    refine awp_seq (awp_seq (ag [] rfl ?_))
    refine awp_cond rfl (fun _ => ?_) (fun hb => by simp [Ty.form] at hb)
    refine awp_seq (ag [] rfl ?_)
    exact awp_ret rtT
  | @app m k a b ha hb =>
    cases ha with
    | var s hs =>
      refine .inr ?_
      refine impC (n := 28) tok Tryd.func83 rfl rfl rfl ?_
      refine awp_seq (ag [] rfl ?_)
      refine awp_seq (awp_seq (ag [] rfl ?_))
      refine awp_cond rfl (fun hb => by simp [Ty.form] at hb) (fun _ => ?_)
      refine awp_skip (awp_seq (awp_seq (ag [(2, .row 0 (encTy (.mk 2 0 s [])))] rfl ?_)))
      refine awp_cond rfl (fun _ => ?_) (fun hb => by simp [Ty.form] at hb)
      refine awp_seq (ag [] rfl ?_)
      exact awp_ret rtT
    | con s hs =>
      refine .inr ?_
      refine impC (n := 28) tok Tryd.func83 rfl rfl rfl ?_
      refine awp_seq (ag [] rfl ?_)
      refine awp_seq (awp_seq (ag [] rfl ?_))
      refine awp_cond rfl (fun hb => by simp [Ty.form] at hb) (fun _ => ?_)
      refine awp_skip (awp_seq (awp_seq (ag [(2, .row 0 (encTy (.mk 3 0 s [])))] rfl ?_)))
      refine awp_cond rfl (fun _ => ?_) (fun hb => by simp [Ty.form] at hb)
      refine awp_seq (ag [] rfl ?_)
      exact awp_ret rtT
    | @app m' k' f a' hf ha' =>
      have run : ∀ r : Bool, (bif decide (f.form = 3) then decide (f.name = arrow) else false) = r → ImpC Tryd.prog 83 [tyV (.mk 4 0 [] [.mk 4 0 [] [f, a'], b])] [] (B r) [] := by
        intro r hr
        obtain ⟨ff, fn, fs, fa⟩ := f
        refine impC (n := 28) tok Tryd.func83 rfl rfl rfl ?_
        refine awp_seq (ag [] rfl ?_)
        refine awp_seq (awp_seq (ag [] rfl ?_))
        refine awp_cond rfl (fun hb => by simp [Ty.form] at hb) (fun _ => ?_)
        refine awp_skip (awp_seq (awp_seq (ag [(2, .row 0 (encTy (.mk 4 0 [] [.mk ff fn fs fa, a'])))] rfl ?_)))
        refine awp_cond rfl (fun hb => by simp [Ty.form] at hb) (fun _ => ?_)
        refine awp_skip (awp_seq (ag [(2, .row 0 (encTy (.mk 4 0 [] [.mk ff fn fs fa, a']))), (5, .row 0 (encTy (.mk ff fn fs fa)))] rfl ?_))
        refine awp_seq (agF 4 [] rfl rfl rfl ?_)
        subst hr
        exact awp_ret rtT
      cases hf with
      | var s hs => exact .inr (run false rfl)
      | con s hs =>
        by_cases h1 : s = arrow
        · subst h1
          exact .inl ⟨_, _, a', b, ha', hb, by omega, rfl, run true rfl⟩
        · exact .inr (run false (by simp [Ty.form, Ty.name, h1]))
      | app h1 h2 => exact .inr (run false rfl)
/-- A type as a text. -/
theorem e_nameless {n : Nat} {t : Ty} (h : GT n t) (hn : n ≤ 100000) : ∃ s : Str, s.length ≤ 16 * n ∧ ImpC Tryd.prog 100 [tyV t, .one (.c .nl)] [] (Go.AM.T s) [] := by
  have hM : 1000000000 ≤ maxLen := by decide
  induction h with
  | var s hs =>
    refine ⟨39 :: s, by rw [List.length_cons]; omega, ?_⟩
    refine impC (n := 91) tok Tryd.func100 rfl rfl rfl ?_
    refine awp_seq (ag [] rfl ?_)
    refine awp_seq (awp_seq (ag [] rfl ?_))
    refine awp_block (awp_seq (ag [] rfl ?_))
    refine awp_cond rfl (fun hb => by simp [Ty.form] at hb) (fun _ => ?_)
    refine awp_seq (ag [] rfl ?_)
    refine awp_cond rfl (fun _ => ?_) (fun hb => by simp [Ty.form] at hb)
    refine awp_seq (awp_seq (ag [] rfl ?_))
    refine awp_block (awp_loop (fun _ : Unit => mk [(1, .one (.c .nl)), (2, .one (.vp 2 0)), (5, I .i64 (-1))] [(2, .var 34 ((encTy (.mk 2 0 s [])).map R.c))]) (fun _ => True) (fun _ => 0) () trivial sl ?_)
    intro _ _
    refine awp_seq (awp_seq (ag [] rfl ?_))
    refine awp_cond rfl (fun hb => by simp at hb) (fun _ => ?_)
    refine awp_exit ?_
    refine awp_seq (ag [] rfl ?_ (hc := by repeat (first | exact trivial | refine ⟨by first | rfl | omega | (simp [Ty.form, Ty.name, Ty.n]; omega) | (simp; done), ?_⟩)))
    exact awp_ret rtT
  | con s hs =>
    refine ⟨s, by omega, ?_⟩
    refine impC (n := 91) tok Tryd.func100 rfl rfl rfl ?_
    refine awp_seq (ag [] rfl ?_)
    refine awp_seq (awp_seq (ag [] rfl ?_))
    refine awp_block (awp_seq (ag [] rfl ?_))
    refine awp_cond rfl (fun hb => by simp [Ty.form] at hb) (fun _ => ?_)
    refine awp_seq (ag [] rfl ?_)
    refine awp_cond rfl (fun hb => by simp [Ty.form] at hb) (fun _ => ?_)
    refine awp_seq (ag [] rfl ?_)
    refine awp_cond rfl (fun _ => ?_) (fun hb => by simp [Ty.form] at hb)
    refine awp_seq (ag [] rfl ?_)
    exact awp_ret rtT
  | @app m k a b ha hb iha ihb =>
    obtain ⟨s1, h1, c1⟩ := iha (by omega)
    obtain ⟨s2, h2, c2⟩ := ihb (by omega)
    refine ⟨[40] ++ s1 ++ [32] ++ s2 ++ [41], by simp; omega, ?_⟩
    obtain ⟨af, an, sa, aa⟩ := a
    obtain ⟨bf, bn, sb, ba⟩ := b
    refine impC (n := 91) tok Tryd.func100 rfl rfl rfl ?_
    refine awp_seq (ag [] rfl ?_)
    refine awp_seq (awp_seq (ag [] rfl ?_))
    refine awp_block (awp_seq (ag [] rfl ?_))
    refine awp_cond rfl (fun hb => by simp [Ty.form] at hb) (fun _ => ?_)
    refine awp_seq (ag [] rfl ?_)
    refine awp_cond rfl (fun hb => by simp [Ty.form] at hb) (fun _ => ?_)
    refine awp_seq (ag [] rfl ?_)
    refine awp_cond rfl (fun hb => by simp [Ty.form] at hb) (fun _ => ?_)
    refine awp_seq (ag [] rfl ?_)
    refine awp_cond rfl (fun hb => by simp [Ty.form] at hb) (fun _ => ?_)
    refine awp_skip ?_
    refine awp_seq (awp_seq (agF 4 [] rfl rfl rfl ?_))
    refine awp_cond rfl (fun hb => by simp [Ty.form, encArgs, encTys] at hb) (fun _ => ?_)
    refine awp_skip ?_
    refine awp_seq (awp_rg mixed ?_)
    refine ak 5 [(2, .row 0 (encTy (.mk af an sa aa)))] rfl ?_
    refine kc c1 ?_
    refine ak 7 [(10, .row 1 (encTy (.mk bf bn sb ba)))] rfl ?_ (hc := by repeat (first | exact trivial | refine ⟨by first | rfl | omega | (simp [Ty.form, Ty.name, Ty.n]; omega) | (simp; done), ?_⟩))
    refine kc c2 ?_
    refine ak 3 [] rfl ?_ (hc := by repeat (first | exact trivial | refine ⟨by first | rfl | omega | (simp [Ty.form, Ty.name, Ty.n]; omega) | (simp; done), ?_⟩))
    refine az ?_
    exact awp_ret rtT
/-- Are types the same? -/
theorem e_same {n m : Nat} {a b : Ty} (ha : GT n a) (hb : GT m b) (hn : n ≤ 100000) (hm : m ≤ 100000) : ∃ r : Bool, ImpC Tryd.prog 95 [tyV a, tyV b] [] (B r) [] := by
  obtain ⟨s1, h1, c1⟩ := e_nameless ha hn
  obtain ⟨s2, h2, c2⟩ := e_nameless hb hm
  refine ⟨decide (s1 = s2), ?_⟩
  obtain ⟨af, an, sa, aa⟩ := a
  obtain ⟨bf, bn, sb, ba⟩ := b
  refine impC (n := 10) tok Tryd.func95 rfl rfl rfl ?_
  refine awp_seq (ag [] rfl ?_)
  refine awp_seq (awp_rg mixed ?_)
  refine ak 1 [] rfl ?_
  refine kc c1 ?_
  refine ak 1 [] rfl ?_
  refine kc c2 ?_
  refine ak 2 [] rfl ?_
  refine az ?_
  exact awp_ret rtT
end Go.Proofs.YtojcjjjpniimiaaDoor

/- CORE OF A TYPE, made of numbers: which names are hidden, names, types. -/
namespace Go.Proofs.YtojcjjjpniimiaaDoor
open Go Go.AM
set_option maxRecDepth 20000

/-- Does a name mean this place? -/
theorem e_hides (L : List (Str × Ty)) (i : Nat) (hi : i < L.length) (hl : L.length ≤ 1000000) : ∃ r : Bool, ImpC Tryd.prog 96 [.one (.c (.sl 5 (L.map encN))), I .i64 i] [] (B r) [] := by
  obtain ⟨x, hx⟩ := get_of_lt hi
  have hx' := getEnc encN hx
  have hkl : (L.map encN).length = L.length := List.length_map _
  refine ⟨@decide (∀ (j : Nat) (y : Str × Ty), i < j → L[j]? = some y → ¬ y.1 = x.1) (Classical.propDecidable _), ?_⟩
  generalize hr : @decide (∀ (j : Nat) (y : Str × Ty), i < j → L[j]? = some y → ¬ y.1 = x.1) (Classical.propDecidable _) = r
  refine impC (n := 25) tok Tryd.func96 rfl rfl rfl ?_
  refine awp_seq (ag [] rfl ?_)
  refine awp_seq (awp_seq (agN [] rfl ?_ (hc := by repeat (first | exact trivial | refine ⟨by first | rfl | omega | (simp [Ty.form, Ty.name, Ty.n]; omega) | (simp; done), ?_⟩))))
  refine awp_block (awp_loop (fun k : Nat => mk [(0, .one (.c (.sl 5 (L.map encN)))), (1, I .i64 i), (4, B false), (5, I .i64 k)] []) (fun k => i < k ∧ k ≤ L.length ∧ ∀ (j : Nat) (y : Str × Ty), i < j → j < k → L[j]? = some y → ¬ y.1 = x.1) (fun k => L.length - k) (i + 1) ⟨by omega, by omega, fun j y h1 h2 => by omega⟩ sl ?_)
  intro k ⟨h1, h2, h3⟩
  refine awp_seq (awp_seq (ag [] rfl ?_))
  refine awp_cond rfl (fun hb => ?_) (fun hb => ?_)
  · have hlt := ltD hb hkl
    obtain ⟨y, hy⟩ := get_of_lt hlt
    have hy' := getEnc encN hy
    refine awp_skip ?_
    refine awp_seq (awp_block (awp_seq (ag [(2, .row k (encN y)), (7, .row i (encN x))] rfl ?_)))
    refine awp_cond rfl (fun hb => ?_) (fun hb => ?_)
    · have he : y.1 = x.1 := by simpa using hb
      refine awp_seq (ag [] rfl ?_)
      have : r = false := by
        rw [← hr]
        simp only [decide_eq_false_iff_not]
        exact fun h => h k y h1 hy he
      rw [this]
      exact awp_ret rtT
    · have he : ¬ y.1 = x.1 := by simpa using hb
      refine awp_skip (ag [] rfl ?_)
      refine ⟨k + 1, ⟨by omega, hlt, fun j z g1 g2 g3 => ?_⟩, by dsimp only; omega, sl⟩
      by_cases hj : j = k
      · rw [hj, hy, Option.some.injEq] at g3
        rw [← g3]; exact he
      · exact h3 j z g1 (by omega) g3
  · have hge := geD hb hkl h2
    refine awp_exit ?_
    refine awp_seq (ag [] rfl ?_)
    have : r = true := by
      rw [← hr]
      simp only [decide_eq_true_eq]
      exact fun j y g1 g2 => h3 j y g1 (by have := (List.getElem?_eq_some_iff.1 g2).1; omega) g2
    rw [this]
    exact awp_ret rtT

/-- A new name. -/
theorem e_name (l : List Int) (left : Int) (v : Gv) (h : Ok l) : ∃ (s : Str) (l' : List Int), s ∈ nmL ∧ Ok l' ∧ ImpC Tryd.prog 77 [.one (.vp 700 0), .pa (encV v)] (mO l left) (Go.AM.T s) (mO l' left) := by
  obtain ⟨i, l', hi, hl', hc⟩ := e_next l left 5 (by decide) h
  have hi : i < 5 := by omega
  obtain ⟨s, hs⟩ : ∃ s, ([[120], [121], [122, 64, 49], [97], [98]] : List Str)[i]? = some s := get_of_lt (by simpa using hi)
  have hs' := getEnc encS hs
  refine ⟨s, l', ?_, hl', ?_⟩
  · have : i = 0 ∨ i = 1 ∨ i = 2 ∨ i = 3 ∨ i = 4 := by omega
    rcases this with rfl | rfl | rfl | rfl | rfl <;> (simp at hs; subst hs; decide)
  · refine impC (n := 10) tok Tryd.func77 rfl rfl rfl ?_
    refine awp_seq (ag [] rfl ?_)
    refine awp_seq (awp_rg mixed ?_)
    refine ak 2 [] rfl ?_
    refine kc hc ?_
    refine ak 3 [(3, .row i []), (4, .row i (encS s))] rfl ?_
    refine az ?_
    exact awp_ret rtT

def tBool : Ty := .mk 3 0 [66, 111, 111, 108] []
def strsL (l : List Str) : V := .one (.c (.sl 1 (l.map encS)))
def Sh8 (l : List Str) : Prop := ∀ s ∈ l, s.length ≤ 8
/-- How great a type is at most, so many levels deep yet. -/
def tsz : Nat → Nat
  | 0 => 1
  | f + 1 => 2 * tsz f + 3
/-- What a type's maker gives, at a depth. -/
def TypAt (vars : List Str) (dp : Int) (m : Nat) : Prop := ∀ (l : List Int) (left : Int), Ok l →
    ∃ (t : Ty) (l' : List Int) (n : Nat), GT n t ∧ n ≤ m ∧ Ok l' ∧ ImpC Tryd.prog 45 [.one (.vp 700 0), strsL vars, I .i64 dp] (mO l left) (tyV t) (mO l' left)
theorem GT.nm {s : Str} (h : s.length ≤ 8) : GT 1 (.mk 3 0 s []) := .con s h
theorem typ_step (vars : List Str) (hv : Sh8 vars) (hvl : vars.length ≤ 1000000) (dp : Int) (h0 : 0 ≤ dp) (hd3 : dp ≤ 3) (m M : Nat) (h1 : 1 ≤ M) (hM : dp ≤ 2 → 2 * m + 3 ≤ M) (ih : dp ≤ 2 → TypAt vars (dp + 1) m) : TypAt vars dp M := by
  intro l left h
  obtain ⟨i, l1, hi, hl1, hc⟩ := e_next l left 8 (by decide) h
  have hi : i < 8 := by omega
  have hvk : (vars.map encS).length = vars.length := List.length_map _
  by_cases hA : 5 < i ∧ 0 < vars.length
  · obtain ⟨j, l2, hj, hl2, hc2⟩ := e_next l1 left vars.length (by omega) hl1
    have hj : j < vars.length := by omega
    obtain ⟨x, hx⟩ := get_of_lt hj
    have hx' := getEnc encS hx
    refine ⟨.mk 2 0 x [], l2, 1, .var x (hv x (List.mem_of_getElem? hx)), by omega, hl2, ?_⟩
    refine impC (n := 68) tok Tryd.func45 rfl rfl rfl ?_
    refine awp_seq (ag [] rfl ?_)
    refine awp_seq (awp_rg mixed ?_)
    refine ak 1 [] rfl ?_
    refine kc hc ?_
    refine ak 1 [] rfl ?_
    refine az ?_
    refine awp_seq (awp_seq (agF 3 [] rfl rfl rfl ?_))
    have g1 : (5 : Int) < i := by omega
    have g2 : (0 : Int) < ((vars.map encS).length : Nat) := by omega
    refine awp_cond rfl (fun _ => ?_) (fun hb => by rw [decide_eq_true g1, decide_eq_true g2] at hb; cases hb)
    refine awp_seq (awp_rg mixed ?_)
    refine ak 4 [] rfl ?_
    rw [← hvk] at hc2
    refine kc hc2 ?_
    refine ak 4 [(5, .row j (encS x))] rfl ?_
    refine az ?_
    exact awp_ret (rtC trw)
  · by_cases hB : i < 3 ∨ 2 < dp
    · have hrow : ∃ (k : Nat) (t : Ty), k < 2 ∧ (i : Int) % 2 = k ∧ GT 1 t ∧ [encTy tInt, encTy tBool][k]? = some (encTy t) := by
        have : i % 2 = 0 ∨ i % 2 = 1 := by omega
        rcases this with e | e
        · exact ⟨0, tInt, by omega, by omega, .con _ (by decide), rfl⟩
        · exact ⟨1, tBool, by omega, by omega, .con _ (by decide), rfl⟩
      obtain ⟨k, t, hk, hik, ht, hrow⟩ := hrow
      refine ⟨t, l1, 1, ht, by omega, hl1, ?_⟩
      obtain ⟨tf, tn, ts, ta⟩ := t
      refine impC (n := 68) tok Tryd.func45 rfl rfl rfl ?_
      refine awp_seq (ag [] rfl ?_)
      refine awp_seq (awp_rg mixed ?_)
      refine ak 1 [] rfl ?_
      refine kc hc ?_
      refine ak 1 [] rfl ?_
      refine az ?_
      refine awp_seq (awp_seq (agF 3 [] rfl rfl rfl ?_))
      refine awp_cond rfl (fun hb => by simp at hb; omega) (fun _ => ?_)
      refine awp_skip (awp_seq (awp_seq (agF 3 [] rfl rfl rfl ?_)))
      refine awp_cond rfl (fun _ => ?_) (fun hb => by simp at hb; omega)
      refine awp_seq (awp_rg mixed ?_)
      refine kc (c_con19 [73, 110, 116]) ?_
      refine kc (c_con19 [66, 111, 111, 108]) ?_
      refine ak 6 [(5, .row k []), (6, .row k (encTy (.mk tf tn ts ta)))] rfl ?_
      refine az ?_
      exact awp_ret (rtC trw)
    · have hM := hM (by omega)
      obtain ⟨⟨af, an, sa, aa⟩, l2, na, ga, hna, hl2, ca⟩ := ih (by omega) l1 left hl1
      by_cases hC : i = 3
      · refine ⟨.mk 4 0 [] [.mk 3 0 [76] [], .mk af an sa aa], l2, 1 + na + 1, .app (.nm (by decide)) ga, by omega, hl2, ?_⟩
        refine impC (n := 68) tok Tryd.func45 rfl rfl rfl ?_
        refine awp_seq (ag [] rfl ?_)
        refine awp_seq (awp_rg mixed ?_)
        refine ak 1 [] rfl ?_
        refine kc hc ?_
        refine ak 1 [] rfl ?_
        refine az ?_
        refine awp_seq (awp_seq (agF 3 [] rfl rfl rfl ?_))
        refine awp_cond rfl (fun hb => by simp at hb; omega) (fun _ => ?_)
        refine awp_skip (awp_seq (awp_seq (agF 3 [] rfl rfl rfl ?_)))
        refine awp_cond rfl (fun hb => by simp at hb; omega) (fun _ => ?_)
        refine awp_skip (awp_seq (awp_rg mixed ?_))
        refine ak 4 [] rfl ?_ (hc := by repeat (first | exact trivial | refine ⟨by first | rfl | omega | (simp [Ty.form, Ty.name, Ty.n]; omega) | (simp; done), ?_⟩))
        refine kc ca ?_
        refine ak 2 [] rfl ?_
        refine az ?_
        refine awp_seq (awp_seq (ag [] rfl ?_))
        refine awp_cond rfl (fun _ => ?_) (fun hb => by simp at hb; omega)
        refine awp_seq (awp_rg mixed ?_)
        refine kc (c_con19 [76]) ?_
        refine ak 4 [] rfl ?_
        refine az ?_
        refine AWp.sub (Sub.freeze (id := 49) rfl) ?_
        exact awp_ret (rtC trw)
      · obtain ⟨⟨bf, bn, sb, ba⟩, l3, nb, gb, hnb, hl3, cb⟩ := ih (by omega) l2 left hl2
        by_cases hD : i = 4
        · refine ⟨tfun (.mk af an sa aa) (.mk bf bn sb ba), l3, na + nb + 3, ga.fn gb, by omega, hl3, ?_⟩
          refine impC (n := 68) tok Tryd.func45 rfl rfl rfl ?_
          refine awp_seq (ag [] rfl ?_)
          refine awp_seq (awp_rg mixed ?_)
          refine ak 1 [] rfl ?_
          refine kc hc ?_
          refine ak 1 [] rfl ?_
          refine az ?_
          refine awp_seq (awp_seq (agF 3 [] rfl rfl rfl ?_))
          refine awp_cond rfl (fun hb => by simp at hb; omega) (fun _ => ?_)
          refine awp_skip (awp_seq (awp_seq (agF 3 [] rfl rfl rfl ?_)))
          refine awp_cond rfl (fun hb => by simp at hb; omega) (fun _ => ?_)
          refine awp_skip (awp_seq (awp_rg mixed ?_))
          refine ak 4 [] rfl ?_ (hc := by repeat (first | exact trivial | refine ⟨by first | rfl | omega | (simp [Ty.form, Ty.name, Ty.n]; omega) | (simp; done), ?_⟩))
          refine kc ca ?_
          refine ak 2 [] rfl ?_
          refine az ?_
          refine awp_seq (awp_seq (ag [] rfl ?_))
          refine awp_cond rfl (fun hb => by simp at hb; omega) (fun _ => ?_)
          refine awp_skip (awp_seq (awp_rg mixed ?_))
          refine ak 4 [] rfl ?_ (hc := by repeat (first | exact trivial | refine ⟨by first | rfl | omega | (simp [Ty.form, Ty.name, Ty.n]; omega) | (simp; done), ?_⟩))
          refine kc cb ?_
          refine ak 2 [] rfl ?_
          refine az ?_
          refine awp_seq (awp_seq (ag [] rfl ?_))
          refine awp_cond rfl (fun _ => ?_) (fun hb => by simp at hb; omega)
          refine awp_seq (awp_rg mixed ?_)
          refine ak 2 [] rfl ?_
          refine kc (c_fun (.mk af an sa aa) (.mk bf bn sb ba)) ?_
          refine ak 1 [] rfl ?_
          refine az ?_
          exact awp_ret (rtC trw)
        · refine ⟨.mk 4 0 [] [.mk 4 0 [] [.mk 3 0 [80] [], .mk af an sa aa], .mk bf bn sb ba], l3, 1 + na + 1 + nb + 1, .app (.app (.nm (by decide)) ga) gb, by omega, hl3, ?_⟩
          refine impC (n := 68) tok Tryd.func45 rfl rfl rfl ?_
          refine awp_seq (ag [] rfl ?_)
          refine awp_seq (awp_rg mixed ?_)
          refine ak 1 [] rfl ?_
          refine kc hc ?_
          refine ak 1 [] rfl ?_
          refine az ?_
          refine awp_seq (awp_seq (agF 3 [] rfl rfl rfl ?_))
          refine awp_cond rfl (fun hb => by simp at hb; omega) (fun _ => ?_)
          refine awp_skip (awp_seq (awp_seq (agF 3 [] rfl rfl rfl ?_)))
          refine awp_cond rfl (fun hb => by simp at hb; omega) (fun _ => ?_)
          refine awp_skip (awp_seq (awp_rg mixed ?_))
          refine ak 4 [] rfl ?_ (hc := by repeat (first | exact trivial | refine ⟨by first | rfl | omega | (simp [Ty.form, Ty.name, Ty.n]; omega) | (simp; done), ?_⟩))
          refine kc ca ?_
          refine ak 2 [] rfl ?_
          refine az ?_
          refine awp_seq (awp_seq (ag [] rfl ?_))
          refine awp_cond rfl (fun hb => by simp at hb; omega) (fun _ => ?_)
          refine awp_skip (awp_seq (awp_rg mixed ?_))
          refine ak 4 [] rfl ?_ (hc := by repeat (first | exact trivial | refine ⟨by first | rfl | omega | (simp [Ty.form, Ty.name, Ty.n]; omega) | (simp; done), ?_⟩))
          refine kc cb ?_
          refine ak 2 [] rfl ?_
          refine az ?_
          refine awp_seq (awp_seq (ag [] rfl ?_))
          refine awp_cond rfl (fun hb => by simp at hb; omega) (fun _ => ?_)
          refine awp_skip (awp_seq (awp_rg mixed ?_))
          refine kc (c_con19 [80]) ?_
          refine ak 7 [(2, .all), (5, .all)] rfl ?_
          refine az ?_
          exact awp_ret (rtC trw)
theorem tsz_pos : ∀ f, 1 ≤ tsz f
  | 0 => Nat.le_refl _
  | f + 1 => by rw [tsz]; omega
theorem e_typ (vars : List Str) (hv : Sh8 vars) (hvl : vars.length ≤ 1000000) : ∀ (f : Nat) (dp : Int), dp + f = 3 → 0 ≤ dp → TypAt vars dp (tsz f)
  | 0, dp, hd, h0 => typ_step vars hv hvl dp h0 (by omega) 0 (tsz 0) (tsz_pos 0) (fun h => by omega) (fun h => by omega)
  | f + 1, dp, hd, h0 => typ_step vars hv hvl dp h0 (by omega) (tsz f) (tsz (f + 1)) (tsz_pos _) (fun _ => Nat.le_refl _) (fun _ => e_typ vars hv hvl f (dp + 1) (by omega) (by omega))
end Go.Proofs.YtojcjjjpniimiaaDoor
