/-
  Texts Ln23, Ln24, Ln25, Ln26 in one.
-/
import Derived.Test.YtojcjjjpniimiaaDoorM18
/- THE PROGRAM's small functions: a chain, what params are called; counts of names, what is done inside. -/
namespace Go.Proofs.YtojcjjjpniimiaaDoor
open Go Go.AM
set_option maxRecDepth 20000

theorem c_pchain (c : Core) (hl : lamOk c = true) (hs : csize c ≤ 4000000) : ImpC Tryd.prog 41 [.pa (encCore c)] [] (.tup [strsV (chainN c), .pa (encCore (chainB c))]) [] := by
  refine impC (n := 19) tok Tryd.func41 rfl rfl rfl ?_
  refine awp_seq (ag [] rfl ?_)
  refine awp_seq (ag [] rfl ?_)
  refine AWp.sub (Sub.own (t := 4) (id := 500) 9 1 rfl rfl) ?_
  refine awp_seq (awp_block ?_)
  refine awp_loop (fun x : List Str × Core => mk [(1, .one (.vp 1 0)), (3, .one (.vp 3 0)), (4, .one (.hs 500 0 x.1.length x.1.length))] [(1, .var 38 (cellsC x.2)), (3, .var 38 zCells), (500, .arr 9 1 (x.1.map encS) 0)]) (fun x => lamOk x.2 = true ∧ chainN c = x.1 ++ chainN x.2 ∧ chainB c = chainB x.2 ∧ x.1.length + csize x.2 ≤ csize c) (fun x => csize x.2) ([], c) ⟨hl, rfl, rfl, by simp⟩ sl ?_
  rintro ⟨pre, f, n, s, t, ks, bs, al⟩ ⟨h1, h2, h3, h4⟩
  dsimp only at h1 h2 h3 h4 ⊢
  refine awp_seq (awp_seq (ag [] rfl ?_))
  refine awp_cond rfl (fun hb => ?_) (fun hb => ?_)
  · have hf : f = 5 := of_decide_eq_true hb
    refine awp_skip ?_
    cases ks with
    | nil => simp [lamOk, hf] at h1
    | cons k ks =>
      rw [lamOk, if_pos hf] at h1
      rw [chainN, if_pos hf, chainNs] at h2
      rw [chainB, if_pos hf, chainBs] at h3
      rw [csize, csizes] at h4
      refine awp_seq (awp_block ?_)
      refine ag [] rfl ?_
      refine ag [(2, .row 0 (encCore k))] rfl ?_
      refine ⟨(pre ++ [s], k), ⟨h1, by rw [h2]; simp, h3, by simp; omega⟩, by dsimp only; rw [csize, csizes]; omega, sl⟩
  · have hf : ¬ f = 5 := of_decide_eq_false hb
    rw [chainN, if_neg hf, List.append_nil] at h2
    rw [chainB, if_neg hf] at h3
    rw [h2, h3]
    refine awp_exit ?_
    refine awp_seq (ag [] rfl ?_)
    refine AWp.sub (Sub.freeze (id := 500) rfl) ?_
    refine awp_ret ?_
    exact ⟨.inr rfl, ⟨_, _, .tmp rfl (.cell rfl (tg rfl) rfl rfl rfl .nil), .cons (hs_all rfl rfl (by simp) rfl) (.cons .refl .nil), rfl⟩, trivial, rfl⟩

theorem set_same {α : Type} {l : List α} {i : Nat} {x : α} (h : l[i]? = some x) : l.set i x = l := by
  apply List.ext_getElem?
  intro j
  rw [List.getElem?_set]
  split
  · rename_i e; subst e
    rw [if_pos (List.getElem?_eq_some_iff.1 h).1, h]
  · rfl
theorem set_take {α : Type} {P l : List α} {i : Nat} {x : α} (hl : i < l.length) (h : P[i]? = some x) : (P.take i ++ l.drop i).set i x = P.take (i + 1) ++ l.drop (i + 1) := by
  have hi : i < P.length := (List.getElem?_eq_some_iff.1 h).1
  have h1 : (P.take i).length = i := by rw [List.length_take]; omega
  rw [take_step h, List.drop_eq_getElem_cons hl, List.set_append_right _ _ (by omega), h1, Nat.sub_self, List.set_cons_zero, List.append_assoc]
  rfl
theorem c_params (l : List Str) (hl : l.length ≤ 200000) (hs : ∀ s ∈ l, s.length ≤ 1000000) : ImpC Tryd.prog 44 [strsV l] [] (strsV (paramsR l)) [] := by
  have hM : 1000000000 ≤ maxLen := by decide
  have hcl := c_clone_string (l.map encS) (by rw [List.length_map]; omega)
  have hpl : (paramsR l).length = l.length := paramsTo_len l 0
  refine impC (n := 31) tok Tryd.func44 rfl rfl rfl ?_
  refine awp_seq (ag [] rfl ?_)
  refine awp_seq (awp_rg mixed ?_)
  refine ak 1 [] rfl ?_
  refine kc hcl ?_
  refine ak 1 [] rfl ?_
  refine az ?_
  refine awp_seq (awp_seq (ag [] rfl ?_))
  have hka : (l.map encS).length = l.length := List.length_map _
  refine awp_block ?_
  refine awp_loop (fun i : Nat => mk [(0, strsV l), (3, .one (.hs 710 0 l.length l.length)), (8, strsV l), (9, I .i64 ((l.map encS).length : Int)), (10, I .i64 i)] [(710, .arr 9 1 (((paramsR l).take i ++ l.drop i).map encS) 0)]) (fun i => i ≤ l.length) (fun i => l.length - i) 0 (Nat.zero_le _) sl ?_
  intro i hi
  have hrl : (((paramsR l).take i ++ l.drop i).map encS).length = l.length := by rw [List.length_map, List.length_append, List.length_take, List.length_drop]; omega
  refine awp_seq (ag [] rfl ?_)
  refine awp_seq (awp_cond rfl (fun hb => ?_) (fun hb => ?_))
  · have hlt := ltD hb hka
    obtain ⟨s, hs'⟩ := get_of_lt hlt
    have hsr := getEnc encS hs'
    have hsl := hs s (List.mem_of_getElem? hs')
    have hp : (paramsR l)[i]? = some (if s ∈ l.drop (i + 1) then s ++ [64, 112] ++ dec (0 + i) else s) := paramsTo_snoc l i 0 s hs'
    rw [Nat.zero_add] at hp
    have hh := c_contains (l.drop (i + 1)) s (by rw [List.length_drop]; omega)
    have hh' : ImpC Tryd.prog 72 [.one (.c (.sl 1 ((l.map encS).drop (i + 1)))), Go.AM.T s] [] (B (decide (s ∈ l.drop (i + 1)))) [] := by rw [← List.map_drop]; exact hh
    have hd := c_itoaL i (by omega)
    have hdl := dec_len i
    have hset := set_take hlt hp
    have hold : ((paramsR l).take i ++ l.drop i)[i]? = some s := by
      rw [List.getElem?_append_right (by rw [List.length_take]; omega), List.length_take, Nat.min_eq_left (by omega), Nat.sub_self, List.getElem?_drop, Nat.add_zero, hs']
    have hold' := getEnc encS hold
    refine awp_skip ?_
    refine awp_seq (awp_block ?_)
    refine awp_seq (ag [(1, .row i (encS s))] rfl ?_)
    refine awp_seq (agN [(5, .pc (B (decide (s ∈ l.drop (i + 1)))))] rfl ?_)
    refine awp_cond rfl (fun hb => ?_) (fun hb => ?_)
    · have hm : s ∈ l.drop (i + 1) := of_decide_eq_true hb
      rw [if_pos hm] at hset
      refine ag [(5, .pc (Go.AM.T (dec i))), (8, .row i (encS s))] rfl ?_
      refine ag [] rfl ?_
      have hrows : (((paramsR l).take i ++ l.drop i).map encS).set i (encS (s ++ [64, 112] ++ dec i)) = ((paramsR l).take (i + 1) ++ l.drop (i + 1)).map encS := by rw [← hset, List.map_set]
      exact ⟨i + 1, hlt, by dsimp only; omega, sl⟩
    · have hm : ¬ s ∈ l.drop (i + 1) := of_decide_eq_false hb
      rw [if_neg hm, set_same hold] at hset
      refine awp_skip ?_
      refine ag [] rfl ?_
      refine ⟨i + 1, hlt, by dsimp only; omega, ?_⟩
      dsimp only
      rw [← hset]
      exact sl
  have hge := geD hb hka hi
  subst hge
  rw [List.drop_length, List.append_nil, show (paramsR l).take l.length = paramsR l by rw [← hpl]; exact List.take_length] at *
  refine awp_exit ?_
  refine awp_seq (ag [] rfl ?_)
  refine AWp.sub (Sub.freeze (id := 710) rfl) ?_
  exact awp_ret (rtT (hc := hs_all rfl rfl (by rw [List.length_map]; exact hpl.symm) rfl))

/-! ### How many times each name is given -/
abbrev CM := List (Str × Int)
def encE (p : Str × Int) : List C := [.str p.1, .int .i64 p.2]
def mget (s : Str) : CM → Option Int
  | [] => none
  | (k, n) :: m => if k = s then some n else mget s m
def mset (s : Str) (n : Int) : CM → CM
  | [] => [(s, n)]
  | (k, x) :: m => if k = s then (s, n) :: m else (k, x) :: mset s n m
theorem mfind_enc (s : Str) : ∀ m : CM, mfind s (m.map encE) = (mget s m).map fun n => [.int .i64 n]
  | [] => rfl
  | (k, n) :: m => by
    simp only [List.map_cons, encE, mfind, mget]
    split
    · rfl
    · exact mfind_enc s m
theorem mput_enc (s : Str) (n : Int) : ∀ m : CM, mput s [.int .i64 n] (m.map encE) = (mset s n m).map encE
  | [] => rfl
  | (k, x) :: m => by
    have ih := mput_enc s n m
    simp only [List.map_cons, encE, mput, mset] at ih ⊢
    split
    · rfl
    · simp only [List.map_cons, ih]; rfl
theorem mstr_enc : ∀ m : CM, mstr (m.map encE)
  | [] => trivial
  | _ :: m => mstr_enc m
theorem mget_set (s x : Str) (n : Int) : ∀ m : CM, mget x (mset s n m) = if s = x then some n else mget x m
  | [] => by simp [mset, mget]
  | (k, y) :: m => by
    rw [mset]
    split
    · rename_i h; subst h
      simp only [mget]
      split <;> simp_all
    · rename_i h
      simp only [mget, mget_set s x n m]
      split <;> split <;> simp_all
def cnt (m : CM) (s : Str) : Int := (mget s m).getD 0
def inc (s : Str) (m : CM) : CM := mset s (cnt m s + 1) m
def decr (s : Str) (m : CM) : CM := mset s (cnt m s - 1) m
theorem cnt_inc (s x : Str) (m : CM) : cnt (inc s m) x = if s = x then cnt m x + 1 else cnt m x := by
  unfold inc cnt
  rw [mget_set]
  split
  · rename_i h; subst h; rfl
  · rfl
theorem cnt_decr (s x : Str) (m : CM) : cnt (decr s m) x = if s = x then cnt m x - 1 else cnt m x := by
  unfold decr cnt
  rw [mget_set]
  split
  · rename_i h; subst h; rfl
  · rfl
def incs : List Str → CM → CM
  | [], m => m
  | s :: l, m => incs l (inc s m)
def decs : List Str → CM → CM
  | [], m => m
  | s :: l, m => decs l (decr s m)
/-- How many times a text comes. -/
def times (s : Str) (l : List Str) : Int := (l.count s : Int)
theorem cnt_incs (x : Str) : ∀ (l : List Str) (m : CM), cnt (incs l m) x = cnt m x + times x l
  | [], m => by simp [incs, times]
  | s :: l, m => by
    rw [incs, cnt_incs x l, cnt_inc]
    unfold times
    rw [List.count_cons]
    by_cases h : s = x
    · subst h; simp; omega
    · simp [h]
theorem cnt_decs (x : Str) : ∀ (l : List Str) (m : CM), cnt (decs l m) x = cnt m x - times x l
  | [], m => by simp [decs, times]
  | s :: l, m => by
    rw [decs, cnt_decs x l, cnt_decr]
    unfold times
    rw [List.count_cons]
    by_cases h : s = x
    · subst h; simp; omega
    · simp [h]
theorem incs_app (s : Str) : ∀ (l : List Str) (m : CM), incs (l ++ [s]) m = inc s (incs l m)
  | [], _ => rfl
  | x :: l, m => by rw [List.cons_append, incs, incs_app s l]; rfl
theorem decs_app (s : Str) : ∀ (l : List Str) (m : CM), decs (l ++ [s]) m = decr s (decs l m)
  | [], _ => rfl
  | x :: l, m => by rw [List.cons_append, decs, decs_app s l]; rfl
/-- Counts, within bounds. -/
def Cok (m : CM) : Prop := ∀ s, 0 ≤ cnt m s ∧ cnt m s ≤ 1000000000
/-- The same counts, names and all aside. -/
def Same (m m' : CM) : Prop := ∀ s, cnt m s = cnt m' s
def mapO (m : CM) : AObj := .map false (m.map encE)
theorem look_cnt (m : CM) (s : Str) : ∃ r, mfind s (m.map encE) = r ∧ ((∃ n, r = some [.int .i64 n] ∧ cnt m s = n) ∨ (r = none ∧ cnt m s = 0)) := by
  refine ⟨_, rfl, ?_⟩
  rw [mfind_enc]
  unfold cnt
  cases mget s m with
  | none => exact .inr ⟨rfl, rfl⟩
  | some n => exact .inl ⟨n, rfl, rfl⟩
end Go.Proofs.YtojcjjjpniimiaaDoor

/- WHAT IS DONE INSIDE, where names are given. -/
namespace Go.Proofs.YtojcjjjpniimiaaDoor
open Go Go.AM
set_option maxRecDepth 20000

theorem refsL_one : ∀ l : List R, V.refsL (l.map V.one) = R.refsL l
  | [] => rfl
  | r :: l => by rw [List.map_cons, V.refsL, refsL_one l]; rfl
theorem look_new {k : Nat} {o o' : AObj} {h : List (Nat × AObj)} {id : Nat} {x : AObj} (e : Go.AM.look ((k, o) :: h) id = some x) : upd (Go.AM.look ((k, o') :: h)) k (some o) id = some x := by
  rw [look_upd] at e ⊢
  rw [upd_upd]
  exact e
theorem inc_eq {m : CM} {s : Str} {n : Int} (h : cnt m s = n) : mput s [.int .i64 (n + 1)] (m.map encE) = (inc s m).map encE := by
  rw [mput_enc, inc, h]
theorem decr_eq {m : CM} {s : Str} {n : Int} (h : cnt m s = n) : mput s [.int .i64 (n - 1)] (m.map encE) = (decr s m).map encE := by
  rw [mput_enc, decr, h]
theorem times_take (x : Str) (l : List Str) (i : Nat) : 0 ≤ times x (l.take i) ∧ times x (l.take i) ≤ l.length := by
  unfold times
  have h1 := List.count_le_length (a := x) (l := l.take i)
  have h2 : (l.take i).length ≤ l.length := by rw [List.length_take]; omega
  omega

theorem c_inside {f : FuncId} {caps : List R} (names : List Str) (m m2 : CM) (h1 h2 : List (Nat × AObj)) (ks : List Nat) (hn : names.length ≤ 1000000) (hm : Cok m) (hm2 : Cok m2)
    (hw1 : ∀ x : CM, Wf ks ((800, mapO x) :: h1)) (hw2 : ∀ x : CM, Wf ks ((800, mapO x) :: h2)) (hks : subset (800 :: R.refsL caps) ks = true) (hbod : bodB Tryd.prog f = true)
    (hf : ImpC Tryd.prog f (caps.map V.one) ((800, mapO (incs names m)) :: h1) (.tup []) ((800, mapO m2) :: h2)) :
    ImpC Tryd.prog 30 [.one (.mr 800), strsV names, .one (.clo f caps)] ((800, mapO m) :: h1) (.tup []) ((800, mapO (decs names m2)) :: h2) := by
  have hk1 : ∀ x, keys ((800, mapO x) :: h1) = ks := fun x => (hw1 x).keys
  have hka : (names.map encS).length = names.length := List.length_map _
  have h800 : subset [800] ks = true := by simp [subset] at hks ⊢; exact hks.1
  refine impC (n := 34) tok Tryd.func30 rfl rfl rfl ?_
  rw [hk1]
  refine awp_seq (awp_seq (ag [] rfl ?_))
  refine awp_block ?_
  refine awp_loop (fun i : Nat => mk [(0, .one (.mr 800)), (1, strsV names), (2, .one (.clo f caps)), (10, strsV names), (11, I .i64 ((names.map encS).length : Int)), (12, I .i64 i)] ((800, mapO (incs (names.take i) m)) :: h1)) (fun i => i ≤ names.length) (fun i => names.length - i) 0 (Nat.zero_le _) (Sub.heap (hw1 _) ⟨rfl, rfl, rfl, rfl, rfl, rfl, trivial⟩ (fun _ _ h => h) (by simpa [refsE, V.refs, R.refs, I, strsV] using hks) (subset_refl _) rfl) ?_
  intro i hi
  refine awp_seq (ag [] rfl ?_)
  refine awp_seq (awp_cond rfl (fun hb => ?_) (fun hb => ?_))
  · have hlt := ltD hb hka
    obtain ⟨s, hs⟩ := get_of_lt hlt
    have hs' := getEnc encS hs
    have hst : incs (names.take (i + 1)) m = inc s (incs (names.take i) m) := by rw [take_step hs, incs_app]
    have hc1 := cnt_incs s (names.take i) m
    have hc2 := times_take s names i
    have hc3 := hm s
    have hmo := mstr_enc (incs (names.take i) m)
    generalize incs (names.take i) m = x at hst hc1 hmo ⊢
    obtain ⟨r, hr, hrr⟩ := look_cnt x s
    refine awp_skip ?_
    refine awp_seq (awp_block ?_)
    refine awp_seq (ag [(0, .row i (encS s))] rfl ?_)
    rcases hrr with ⟨n, rfl, hcn⟩ | ⟨rfl, hcn⟩
    · refine ag [(2, .look (some [.int .i64 n]))] rfl ?_
      refine ag [] rfl ?_
      refine ⟨i + 1, hlt, by dsimp only; omega, ?_⟩
      dsimp only
      rw [hst]
      exact Sub.heap (hw1 _) ⟨rfl, rfl, rfl, rfl, rfl, rfl, trivial⟩ (fun id o h => by
        have := look_new (o' := mapO x) h
        unfold mapO at this
        rw [← inc_eq hcn] at this
        exact this) (by simpa [refsE, V.refs, R.refs, I, strsV] using hks) (subset_refl _) rfl
    · refine ag [(2, .look none)] rfl ?_
      refine ag [] rfl ?_
      refine ⟨i + 1, hlt, by dsimp only; omega, ?_⟩
      dsimp only
      rw [hst]
      exact Sub.heap (hw1 _) ⟨rfl, rfl, rfl, rfl, rfl, rfl, trivial⟩ (fun id o h => by
        have := look_new (o' := mapO x) h
        unfold mapO at this
        rw [← inc_eq hcn] at this
        exact this) (by simpa [refsE, V.refs, R.refs, I, strsV] using hks) (subset_refl _) rfl
  have hge := geD hb hka hi
  subst hge
  rw [List.take_length]
  refine awp_exit ?_
  refine awp_seq (awp_rg mixed ?_)
  refine ak 1 [] rfl ?_
  refine kv (args := []) hf ?_ (hb := bod_ hbod) (hin' := (hw1 _).all) (hout' := (hw1 _).hout (hw2 _)) (hok := (hw1 _).callOk (by rw [List.nil_append, refsL_one]; simp [subset] at hks ⊢; exact hks.2))
  refine az ?_
  refine awp_seq (ag [] rfl ?_)
  refine awp_block ?_
  refine awp_loop (fun i : Nat => mk [(0, .one (.mr 800)), (23, strsV names), (24, I .i64 ((names.map encS).length : Int)), (25, I .i64 i)] ((800, mapO (decs (names.take i) m2)) :: h2)) (fun i => i ≤ names.length) (fun i => names.length - i) 0 (Nat.zero_le _) (Sub.heap (hw2 _) ⟨rfl, rfl, rfl, rfl, trivial⟩ (fun id o h => by
      show updL (Go.AM.look _) (outs ((800, mapO m2) :: h2)) id = some o
      rw [updL_outs]
      have h' : Go.AM.look ((800, mapO m2) :: h2) id = some o := h
      rw [h']) (by simpa [refsE, V.refs, R.refs, I, strsV] using h800) (subset_refl _) rfl) ?_
  intro i hi
  refine awp_seq (ag [] rfl ?_)
  refine awp_seq (awp_cond rfl (fun hb => ?_) (fun hb => ?_))
  · have hlt := ltD hb hka
    obtain ⟨s, hs⟩ := get_of_lt hlt
    have hs' := getEnc encS hs
    have hst : decs (names.take (i + 1)) m2 = decr s (decs (names.take i) m2) := by rw [take_step hs, decs_app]
    have hc1 := cnt_decs s (names.take i) m2
    have hc2 := times_take s names i
    have hc3 := hm2 s
    have hmo := mstr_enc (decs (names.take i) m2)
    generalize decs (names.take i) m2 = x at hst hc1 hmo ⊢
    obtain ⟨r, hr, hrr⟩ := look_cnt x s
    refine awp_skip ?_
    refine awp_seq (awp_block ?_)
    refine awp_seq (ag [(0, .row i (encS s))] rfl ?_)
    rcases hrr with ⟨n, rfl, hcn⟩ | ⟨rfl, hcn⟩
    · refine ag [(2, .look (some [.int .i64 n]))] rfl ?_
      refine ag [] rfl ?_
      refine ⟨i + 1, hlt, by dsimp only; omega, ?_⟩
      dsimp only
      rw [hst]
      exact Sub.heap (hw2 _) ⟨rfl, rfl, rfl, rfl, trivial⟩ (fun id o h => by
        have := look_new (o' := mapO x) h
        unfold mapO at this
        rw [← decr_eq hcn] at this
        exact this) (by simpa [refsE, V.refs, R.refs, I, strsV] using h800) (subset_refl _) rfl
    · refine ag [(2, .look none)] rfl ?_
      refine ag [] rfl ?_
      refine ⟨i + 1, hlt, by dsimp only; omega, ?_⟩
      dsimp only
      rw [hst]
      exact Sub.heap (hw2 _) ⟨rfl, rfl, rfl, rfl, trivial⟩ (fun id o h => by
        have := look_new (o' := mapO x) h
        unfold mapO at this
        rw [← decr_eq hcn] at this
        exact this) (by simpa [refsE, V.refs, R.refs, I, strsV] using h800) (subset_refl _) rfl
  have hge := geD hb hka hi
  subst hge
  rw [List.take_length]
  refine awp_exit ?_
  exact ⟨.inl rfl, Fin.heap (hw1 _) (hw2 _) (fun _ _ h => h) .nil .nil rfl⟩
end Go.Proofs.YtojcjjjpniimiaaDoor

/- THE PARTS of core, in memory of its own, with the names that are given to them. -/
namespace Go.Proofs.YtojcjjjpniimiaaDoor
open Go Go.AM
set_option maxRecDepth 20000

theorem refsR_all {L : List Nat} : ∀ {rows : List (List R)}, (∀ row ∈ rows, ∀ x ∈ R.refsL row, x ∈ L) → ∀ x ∈ refsR rows, x ∈ L
  | [], _, x, hx => by simp [refsR] at hx
  | r :: rows, h, x, hx => by
    rcases List.mem_append.1 hx with hx | hx
    · exact h r List.mem_cons_self x hx
    · exact refsR_all (fun q hq => h q (List.mem_cons_of_mem _ hq)) x hx
def prow (id fo sz : Nat) (g : List Str) (i : Nat) : List R := [.ep id i fo sz, .c (.sl 1 (g.map encS))]
def prowB (g : List Str) (n k : Nat) : List (List R) := (List.range k).map fun i => prow 701 5 n g i
def prowK (g : List Str) (n k : Nat) : List (List R) := (List.range k).map fun i => prow 702 0 n g i
def varsAt (al : List Alt) (i : Nat) : List Str := ((al[i]?).map Alt.vars).getD []
def prowA (g : List Str) (al : List Alt) (k : Nat) : List (List R) := (List.range k).map fun i => prow 703 4 al.length (g ++ varsAt al i) i
theorem prowB_step (g : List Str) (n k : Nat) : prowB g n (k + 1) = prowB g n k ++ [prow 701 5 n g k] := by unfold prowB; rw [List.range_succ, List.map_append]; rfl
theorem prowK_step (g : List Str) (n k : Nat) : prowK g n (k + 1) = prowK g n k ++ [prow 702 0 n g k] := by unfold prowK; rw [List.range_succ, List.map_append]; rfl
theorem prowA_step (g : List Str) (al : List Alt) (k : Nat) : prowA g al (k + 1) = prowA g al k ++ [prow 703 4 al.length (g ++ varsAt al k) k] := by unfold prowA; rw [List.range_succ, List.map_append]; rfl
theorem prowB_len (g : List Str) (n k : Nat) : (prowB g n k).length = k := by simp [prowB]
theorem prowK_len (g : List Str) (n k : Nat) : (prowK g n k).length = k := by simp [prowK]
theorem prowA_len (g : List Str) (al : List Alt) (k : Nat) : (prowA g al k).length = k := by simp [prowA]
def pRefs : AObj := .rarr 107 2 [[.ep 701 0 0 0, .ep 702 0 0 0], [.ep 703 0 0 0, .ep 703 0 0 0]]
def pObj (rows : List (List R)) : AObj := .rarr 107 2 rows
theorem prow_refs {id fo sz : Nat} {g : List Str} {i : Nat} : ∀ x ∈ R.refsL (prow id fo sz g i), x = id := by
  intro x hx
  simpa [prow, R.refsL, R.refs] using hx
theorem rows_refs {g : List Str} {n m a b k : Nat} {al : List Alt} : ∀ x ∈ (pObj (prowB g n a ++ (prowK g m b ++ prowA g al k))).refs, x ∈ pRefs.refs := by
  refine refsR_all fun row hr x hx => ?_
  show x ∈ ([701, 702, 703, 703] : List Nat)
  rcases List.mem_append.1 hr with hr | hr
  · obtain ⟨i, _, rfl⟩ := List.mem_map.1 hr
    rw [prow_refs x hx]; simp
  · rcases List.mem_append.1 hr with hr | hr
    · obtain ⟨i, _, rfl⟩ := List.mem_map.1 hr
      rw [prow_refs x hx]; simp
    · obtain ⟨i, _, rfl⟩ := List.mem_map.1 hr
      rw [prow_refs x hx]; simp
/-- Core whose slices are its own. -/
def cellsO (f n : Int) (s : Str) (t : Ty) (nk nb na : Nat) : List R := [.c (.int .i64 f), .c (.int .i64 n), .c (.str s), .c (.int .i64 t.form), .c (.int .i64 t.n), .c (.str t.name), .c (.sl 4 (encArgs t)), .hs 702 0 nk nk, .hs 701 0 nb nb, .hs 703 0 na na]
def pRows (f : Int) (s : Str) (ks : List Core) (bs : List Bind) (al : List Alt) : List (List R) := prowB (gvs f s bs) bs.length bs.length ++ (prowK (gvs f s bs) ks.length ks.length ++ prowA (gvs f s bs) al al.length)
def pHeap (f n : Int) (s : Str) (t : Ty) (ks : List Core) (bs : List Bind) (al : List Alt) : List (Nat × AObj) :=
  [(700, .var 38 (cellsO f n s t ks.length bs.length al.length)), (701, .arr 46 15 (encBinds bs) 0), (702, .arr 38 10 (encCores ks) 0), (703, .arr 69 14 (encAlts al) 0)]

theorem c_parts (f n : Int) (s : Str) (t : Ty) (ks : List Core) (bs : List Bind) (al : List Alt) (hsz : csize (.mk f n s t ks bs al) ≤ 400000) :
    ImpC Tryd.prog 60 [.one (.vp 700 0)] [(700, .var 38 (cellsC (.mk f n s t ks bs al)))] (.one (.ra 704 0 (pRows f s ks bs al).length (pRows f s ks bs al).length)) ((704, pObj (pRows f s ks bs al)) :: pHeap f n s t ks bs al) := by
  obtain ⟨ihk, ihb, iha, hkl, hbl, hal⟩ := @size_in f n s t ks bs al
  have hkB : (encBinds bs).length = bs.length := by rw [encBinds_map, List.length_map]
  have hkK : (encCores ks).length = ks.length := by rw [encCores_map, List.length_map]
  have hkA : (encAlts al).length = al.length := by rw [encAlts_map, List.length_map]
  have hcb := c_clone_binds (encBinds bs) (by omega)
  have hck := c_clone_cores (encCores ks) (by omega)
  have hca := c_clone_alts (encAlts al) (by omega)
  rw [hkB] at hcb
  rw [hkK] at hck
  rw [hkA] at hca
  refine impC (n := 148) tok Tryd.func60 rfl rfl rfl ?_
  refine awp_seq (ag [] rfl ?_)
  refine awp_seq (ag [] rfl ?_)
  have hE1 : (if f = 5 then [s] else []).length ≤ 1 := by split <;> simp
  refine awp_seq (AWp.cut (mk [(0, .one (.vp 700 0)), (3, .one (.hs 720 0 (if f = 5 then [s] else []).length (if f = 5 then [s] else []).length))] [(700, .var 38 (cellsC (.mk f n s t ks bs al))), (720, .arr 9 1 ((if f = 5 then [s] else []).map encS) 0)]) ?_ ?_)
  · refine awp_seq (ag [] rfl ?_)
    refine awp_cond rfl (fun hb => ?_) (fun hb => ?_)
    · have h5 : f = 5 := of_decide_eq_true hb
      rw [if_pos h5]
      exact ag [(4, .id 720)] rfl sl
    · have h5 : ¬ f = 5 := of_decide_eq_false hb
      rw [if_neg h5]
      exact AWp.sub (Sub.own (t := 3) (id := 720) 9 1 rfl rfl) (awp_skip sl)
  have hgv : gvs f s bs = (if f = 5 then [s] else []) ++ bs.map Bind.name := rfl
  have hgl := gvs_len f s bs
  generalize (if f = 5 then [s] else []) = w at hE1 hgv
  refine awp_seq (awp_seq (ag [] rfl ?_))
  refine awp_block ?_
  refine awp_loop (fun i : Nat => mk [(0, .one (.vp 700 0)), (3, .one (.hs 720 0 (w.length + i) (w.length + i))), (23, .one (.c (.sl 15 (encBinds bs)))), (24, I .i64 ((encBinds bs).length : Int)), (25, I .i64 i)] [(700, .var 38 (cellsC (.mk f n s t ks bs al))), (720, .arr 9 1 ((w ++ (bs.take i).map Bind.name).map encS) 0)]) (fun i => i ≤ bs.length) (fun i => bs.length - i) 0 (Nat.zero_le _) sl ?_
  intro i hi
  refine awp_seq (ag [] rfl ?_)
  refine awp_seq (awp_cond rfl (fun hb => ?_) (fun hb => ?_))
  · have hlt := ltD hb hkB
    obtain ⟨b, hbi⟩ := get_of_lt hlt
    have hbi' := encBinds_at hbi
    have hrows : (w ++ (bs.take i).map Bind.name).map encS ++ [[.str b.name]] = (w ++ (bs.take (i + 1)).map Bind.name).map encS := by
      rw [take_step hbi]; simp [encS]
    refine awp_skip ?_
    refine awp_seq (awp_block ?_)
    refine awp_seq (ag [(0, .row i (encBind b))] rfl ?_)
    refine ag [] rfl ?_
    refine ag [] rfl ?_
    exact ⟨i + 1, hlt, by dsimp only; omega, sl⟩
  have hge := geD hb hkB hi
  subst hge
  refine awp_exit ?_
  rw [List.take_length, ← hgv]
  have hgl2 : w.length + bs.length = (gvs f s bs).length := by rw [hgv]; simp
  rw [hgl2]
  rw [show pRows f s ks bs al = prowB (gvs f s bs) bs.length bs.length ++ (prowK (gvs f s bs) ks.length ks.length ++ prowA (gvs f s bs) al al.length) from rfl]
  generalize gvs f s bs = g at hgl
  refine AWp.sub (Sub.freeze (id := 720) rfl) (AWp.sub (cv 3 (g.map encS)) ?_)
  refine AWp.sub (st2 := mk [(0, .one (.vp 700 0)), (3, strsV g)] [(700, .var 38 (cellsC (.mk f n s t ks bs al)))]) sl ?_
  refine awp_seq (awp_rg mixed ?_)
  refine ak 7 [] rfl ?_
  refine kc hcb ?_
  refine ak 4 [] rfl ?_
  refine kc hck ?_
  refine ak 4 [] rfl ?_
  refine kc hca ?_
  refine ak 9 [] rfl ?_
  refine az ?_
  refine awp_seq (ag [] rfl ?_)
  refine AWp.sub (Sub.ownR (t := 6) (id := 704) 107 2 rfl rfl) ?_
  refine awp_seq (awp_seq (ag [] rfl ?_))
  refine awp_block ?_
  refine awp_loop (fun i : Nat => mk [(0, .one (.vp 700 0)), (3, strsV g), (6, .one (.ra 704 0 (prowB g bs.length i).length (prowB g bs.length i).length)), (63, I .i64 ((bs.length : Nat) : Int)), (64, I .i64 i)] ((704, pObj (prowB g bs.length i)) :: pHeap f n s t ks bs al)) (fun i => i ≤ bs.length) (fun i => bs.length - i) 0 (Nat.zero_le _) (slR pRefs (by simpa [prowK, prowA] using rows_refs (g := g) (n := bs.length) (a := 0) (m := 0) (b := 0) (al := []) (k := 0)) ⟨_, rfl, .rarrS rfl⟩) ?_
  intro i hi
  have hpB := prowB_len g bs.length i
  refine awp_seq (ag [] rfl ?_)
  refine awp_seq (awp_cond rfl (fun hb => ?_) (fun hb => ?_))
  · have hlt : i < bs.length := by
      have : (i : Int) < (bs.length : Int) := of_decide_eq_true hb
      omega
    have hst := prowB_step g bs.length i
    refine awp_skip ?_
    refine awp_seq (awp_block ?_)
    refine awp_seq (ag [] rfl ?_)
    refine ag [] rfl ?_
    refine ag [] rfl ?_
    refine ⟨i + 1, hlt, by dsimp only; omega, ?_⟩
    dsimp only
    rw [hst]
    refine slR pRefs (by rw [← hst]; simpa [prowK, prowA] using rows_refs (g := g) (n := bs.length) (a := i + 1) (m := 0) (b := 0) (al := []) (k := 0)) ⟨_, rfl, .rarrS rfl⟩ (he := ⟨rfl, rfl, ?_, rfl, rfl, trivial⟩)
    show some (V.one (R.ra 704 0 _ _)) = some (V.one (R.ra 704 0 _ _))
    rw [List.length_append]
    rfl
  have hge : i = bs.length := by
    have : ¬ (i : Int) < (bs.length : Int) := of_decide_eq_false hb
    omega
  subst hge
  refine awp_exit ?_
  refine awp_seq (awp_seq (ag [] rfl ?_))
  refine awp_block ?_
  refine awp_loop (fun i : Nat => mk [(0, .one (.vp 700 0)), (3, strsV g), (6, .one (.ra 704 0 (prowB g bs.length bs.length ++ prowK g ks.length i).length (prowB g bs.length bs.length ++ prowK g ks.length i).length)), (84, I .i64 ((ks.length : Nat) : Int)), (85, I .i64 i)] ((704, pObj (prowB g bs.length bs.length ++ prowK g ks.length i)) :: pHeap f n s t ks bs al)) (fun i => i ≤ ks.length) (fun i => ks.length - i) 0 (Nat.zero_le _) (by
    rw [show prowK g ks.length 0 = [] from rfl, List.append_nil]
    exact slR pRefs (by simpa [prowK, prowA] using rows_refs (g := g) (n := bs.length) (a := bs.length) (m := 0) (b := 0) (al := []) (k := 0)) ⟨_, rfl, .rarrS rfl⟩) ?_
  intro i hi
  have hpK : (prowB g bs.length bs.length ++ prowK g ks.length i).length = bs.length + i := by rw [List.length_append, prowB_len, prowK_len]
  refine awp_seq (ag [] rfl ?_)
  refine awp_seq (awp_cond rfl (fun hb => ?_) (fun hb => ?_))
  · have hlt : i < ks.length := by
      have : (i : Int) < (ks.length : Int) := of_decide_eq_true hb
      omega
    have hst := prowK_step g ks.length i
    refine awp_skip ?_
    refine awp_seq (awp_block ?_)
    refine awp_seq (ag [] rfl ?_)
    refine ag [] rfl ?_
    refine ag [] rfl ?_
    refine ⟨i + 1, hlt, by dsimp only; omega, ?_⟩
    dsimp only
    rw [hst, ← List.append_assoc]
    refine slR pRefs (by rw [List.append_assoc, ← hst]; simpa [prowA] using rows_refs (g := g) (n := bs.length) (a := bs.length) (m := ks.length) (b := i + 1) (al := []) (k := 0)) ⟨_, rfl, .rarrS rfl⟩ (he := ⟨rfl, rfl, ?_, rfl, rfl, trivial⟩)
    show some (V.one (R.ra 704 0 _ _)) = some (V.one (R.ra 704 0 _ _))
    rw [List.length_append (bs := [prow 702 0 ks.length g i])]
    rfl
  have hge : i = ks.length := by
    have : ¬ (i : Int) < (ks.length : Int) := of_decide_eq_false hb
    omega
  subst hge
  refine awp_exit ?_
  refine awp_seq (awp_seq (ag [] rfl ?_))
  refine awp_block ?_
  refine awp_loop (fun i : Nat => mk [(0, .one (.vp 700 0)), (3, strsV g), (6, .one (.ra 704 0 (prowB g bs.length bs.length ++ (prowK g ks.length ks.length ++ prowA g al i)).length (prowB g bs.length bs.length ++ (prowK g ks.length ks.length ++ prowA g al i)).length)), (104, I .i64 ((al.length : Nat) : Int)), (105, I .i64 i)] ((704, pObj (prowB g bs.length bs.length ++ (prowK g ks.length ks.length ++ prowA g al i))) :: pHeap f n s t ks bs al)) (fun i => i ≤ al.length) (fun i => al.length - i) 0 (Nat.zero_le _) (by
    rw [show prowA g al 0 = [] from rfl, List.append_nil]
    exact slR pRefs (by simpa [prowA] using rows_refs (g := g) (n := bs.length) (a := bs.length) (m := ks.length) (b := ks.length) (al := []) (k := 0)) ⟨_, rfl, .rarrS rfl⟩) ?_
  intro i hi
  have hpA : (prowB g bs.length bs.length ++ (prowK g ks.length ks.length ++ prowA g al i)).length = bs.length + (ks.length + i) := by rw [List.length_append, List.length_append, prowB_len, prowK_len, prowA_len]
  refine awp_seq (ag [] rfl ?_)
  refine awp_seq (awp_cond rfl (fun hb => ?_) (fun hb => ?_))
  · have hlt : i < al.length := by
      have : (i : Int) < (al.length : Int) := of_decide_eq_true hb
      omega
    obtain ⟨a, hai⟩ := get_of_lt hlt
    have hai' := encAlts_at hai
    have hm := List.mem_of_getElem? hai
    have hav := asizes_mem hm
    have hab := asize_body a
    have hvl := vsum_len a.vars
    have hsz2 := hsz
    rw [csize] at hsz2
    have hvs : (a.vars.map encS).length = a.vars.length := List.length_map _
    have hcl := (c_clone_string (a.vars.map encS) (by omega)).plain rfl
    have hco := c_concat g a.vars (by have := bsizes_len bs; omega)
    have hva : varsAt al i = a.vars := by unfold varsAt; rw [hai]; rfl
    have hset := set_same hai'
    have hst := prowA_step g al i
    rw [hva] at hst
    refine awp_skip ?_
    refine awp_seq (awp_block ?_)
    refine awp_seq (ag [] rfl ?_)
    refine awp_seq (ag [(12, .row i (encAlt a)), (13, .pc (strsV a.vars)), (16, .row i (encAlt a))] rfl ?_)
    refine AWp.sub (st2 := mk [(0, .one (.vp 700 0)), (3, strsV g), (6, .one (.ra 704 0 (prowB g bs.length bs.length ++ (prowK g ks.length ks.length ++ prowA g al i)).length (prowB g bs.length bs.length ++ (prowK g ks.length ks.length ++ prowA g al i)).length)), (9, I .i64 i), (104, I .i64 ((al.length : Nat) : Int)), (105, I .i64 i)] ((704, pObj (prowB g bs.length bs.length ++ (prowK g ks.length ks.length ++ prowA g al i))) :: pHeap f n s t ks bs al)) (slR pRefs rows_refs ⟨_, rfl, .rarrS rfl⟩) ?_
    refine ag [(16, .row i (encAlt a)), (17, .all), (18, .pc (strsV (g ++ a.vars)))] rfl ?_
    refine ag [] rfl ?_
    refine ⟨i + 1, hlt, by dsimp only; omega, ?_⟩
    dsimp only
    rw [hst, ← List.append_assoc, ← List.append_assoc]
    refine slR pRefs (by rw [List.append_assoc, List.append_assoc, ← hst]; exact rows_refs) ⟨_, rfl, .rarrS (by rw [← List.append_assoc]; rfl)⟩ (he := ⟨rfl, rfl, ?_, rfl, rfl, trivial⟩)
    show some (V.one (R.ra 704 0 _ _)) = some (V.one (R.ra 704 0 _ _))
    rw [List.length_append (bs := [prow 703 4 al.length (g ++ a.vars) i]), ← List.append_assoc]
    rfl
  have hge : i = al.length := by
    have : ¬ (i : Int) < (al.length : Int) := of_decide_eq_false hb
    omega
  subst hge
  refine awp_exit ?_
  refine awp_seq (ag [] rfl ?_)
  refine awp_ret ⟨.inr rfl, ?_⟩
  exact finR pRefs rows_refs ⟨_, _, .tmp rfl .nil, .cons .refl .nil, rfl⟩ ⟨⟨_, rfl, .rarrS rfl⟩, ⟨_, rfl, .var rfl⟩, ⟨_, rfl, .arr⟩, ⟨_, rfl, .arr⟩, ⟨_, rfl, .arr⟩, trivial⟩ rfl rfl
end Go.Proofs.YtojcjjjpniimiaaDoor

/- WHICH NAMES ARE FREE (the program's scope.free): the walk. -/
namespace Go.Proofs.YtojcjjjpniimiaaDoor
open Go Go.AM
set_option maxRecDepth 20000

/-- The parts of core: the names that are given to each, and it. -/
def partsL (f : Int) (s : Str) (ks : List Core) (bs : List Bind) (al : List Alt) : List (List Str × Core) :=
  bs.map (fun b => (gvs f s bs, b.body)) ++ (ks.map (fun k => (gvs f s bs, k)) ++ al.map (fun a => (gvs f s bs ++ a.vars, a.body)))
def psum : List (List Str × Core) → Nat
  | [] => 0
  | p :: l => csize p.2 + psum l
theorem psum_app : ∀ a b : List (List Str × Core), psum (a ++ b) = psum a + psum b
  | [], b => by simp [psum]
  | p :: a, b => by rw [List.cons_append, psum, psum, psum_app a b]; omega
theorem psum_B (g : List Str) : ∀ l : List Bind, psum (l.map fun b => (g, b.body)) ≤ bsizes l
  | [] => Nat.zero_le _
  | b :: l => by rw [List.map_cons, psum, bsizes]; have := psum_B g l; have := bsize_body b; dsimp only; omega
theorem psum_K (g : List Str) : ∀ l : List Core, psum (l.map fun b => (g, b)) ≤ csizes l
  | [] => Nat.zero_le _
  | b :: l => by rw [List.map_cons, psum, csizes]; have := psum_K g l; dsimp only; omega
theorem psum_A (g : List Str) : ∀ l : List Alt, psum (l.map fun b => (g ++ b.vars, b.body)) ≤ asizes l
  | [] => Nat.zero_le _
  | b :: l => by rw [List.map_cons, psum, asizes]; have := psum_A g l; have := asize_body b; dsimp only; omega
theorem psum_all {f n : Int} {s : Str} {t : Ty} {ks : List Core} {bs : List Bind} {al : List Alt} : psum (partsL f s ks bs al) < csize (.mk f n s t ks bs al) := by
  unfold partsL
  rw [psum_app, psum_app, csize]
  have := psum_B (gvs f s bs) bs
  have := psum_K (gvs f s bs) ks
  have := psum_A (gvs f s bs) al
  omega
theorem psum_take {l : List (List Str × Core)} {i : Nat} {p : List Str × Core} (h : l[i]? = some p) : psum (l.take i) + csize p.2 ≤ psum l := by
  have h1 := List.take_append_drop (i + 1) l
  have h2 := psum_app (l.take (i + 1)) (l.drop (i + 1))
  rw [h1, take_step h, psum_app] at h2
  simp only [psum] at h2
  omega
/-- What each part is given, and its size, are less than the whole. -/
theorem parts_in {f n : Int} {s : Str} {t : Ty} {ks : List Core} {bs : List Bind} {al : List Alt} {p : List Str × Core} (h : p ∈ partsL f s ks bs al) : csize p.2 < csize (.mk f n s t ks bs al) ∧ p.1.length + csize p.2 ≤ csize (.mk f n s t ks bs al) := by
  have hg := gvs_len f s bs
  rw [csize]
  unfold partsL at h
  rcases List.mem_append.1 h with h | h
  · obtain ⟨b, hb, rfl⟩ := List.mem_map.1 h
    obtain ⟨i, hi⟩ := List.getElem?_of_mem hb
    have h1 := bsizes_take_mem hi
    have h2 := bsize_body b
    have h3 := bsizes_len (bs.take i)
    have h4 := (List.getElem?_eq_some_iff.1 hi).1
    rw [List.length_take] at h3
    dsimp only
    omega
  · have hbl := bsizes_len bs
    rcases List.mem_append.1 h with h | h
    · obtain ⟨k, hk, rfl⟩ := List.mem_map.1 h
      have := csizes_mem hk
      dsimp only
      omega
    · obtain ⟨a, ha, rfl⟩ := List.mem_map.1 h
      have h1 := asizes_mem ha
      have h2 := asize_body a
      have h3 := vsum_len a.vars
      dsimp only
      rw [List.length_append]
      omega
theorem freeR_parts (A : Str → Bool) {f n : Int} {s : Str} {t : Ty} {ks : List Core} {bs : List Bind} {al : List Alt} (hf : ¬ f = 1) (G : Str → Bool) (out : List Str) : freeR A (.mk f n s t ks bs al) G out = (partsL f s ks bs al).foldl (fun o p => freeR A p.2 (ext G p.1) o) out := by
  rw [freeR, if_neg hf, freeAs_fold, freeCs_fold, freeBs_fold]
  unfold partsL
  rw [List.foldl_append, List.foldl_append, List.foldl_map, List.foldl_map, List.foldl_map]
  simp only [ext_ext]
theorem foldl_len (A : Str → Bool) (G : Str → Bool) : ∀ (l : List (List Str × Core)) (out : List Str), (l.foldl (fun o p => freeR A p.2 (ext G p.1) o) out).length ≤ out.length + psum l
  | [], out => by simp [psum]
  | p :: l, out => by
    rw [List.foldl_cons, psum]
    have := foldl_len A G l (freeR A p.2 (ext G p.1) out)
    have := freeR_len A p.2 (ext G p.1) out
    omega
/-- What is given by counts. -/
def gset (m : CM) : Str → Bool := fun s => decide (0 < cnt m s)
theorem gset_incs {m : CM} (h : ∀ s, 0 ≤ cnt m s) (g : List Str) : gset (incs g m) = ext (gset m) g := by
  funext s
  unfold gset ext
  rw [cnt_incs]
  have h1 := h s
  unfold times
  rw [Bool.eq_iff_iff]
  simp only [decide_eq_true_eq, Bool.or_eq_true]
  have h2 : s ∈ g ↔ 0 < g.count s := List.count_pos_iff.symm
  rw [h2]
  omega
theorem gset_same {m m' : CM} (h : Same m m') : gset m = gset m' := by
  funext s; unfold gset; rw [h s]
theorem lookR_cnt (m : CM) (s : Str) : lookR ⟨.int .i64, 1, 8, [.int .i64 0]⟩ (mfind s (m.map encE)) = I .i64 (cnt m s) := by
  obtain ⟨r, hr, ⟨n, h1, h2⟩ | ⟨h1, h2⟩⟩ := look_cnt m s
  · rw [hr, h1, h2]; rfl
  · rw [hr, h1, h2]; rfl
def fH (m a : CM) (out : List Str) : List (Nat × AObj) := [(800, mapO m), (801, mapO a), (802, .var 31 [.hs 900 0 out.length out.length]), (900, outO out)]
def mT : Nat := 64
def FreSpec (c : Core) : Prop := ∀ (m a : CM) (out : List Str), (∀ s, 0 ≤ cnt m s ∧ cnt m s + csize c ≤ 1000000000) → csize c ≤ 400000 → out.length + csize c ≤ 1000000 →
  ∃ m', Same m m' ∧ ImpC Tryd.prog 90 [.one (.mr 800), .pa (encCore c), .one (.mr 801), .one (.vp 802 0)] (fH m a out) (.tup []) (fH m' a (freeR (gset a) c (gset m) out))
/-- The objects of the parts' loop, but for the counts. -/
def fL (ep : R) (g : List Str) (a : CM) (out : List Str) (ks : List Core) (bs : List Bind) (al : List Alt) : List (Nat × AObj) :=
  [(4, .var mT [.mr 800]), (9, .var 107 [ep, .c (.sl 1 (g.map encS))]), (6, .var mT [.mr 801]), (7, .var 126 [.vp 802 0]), (701, .arr 46 15 (encBinds bs) 0), (702, .arr 38 10 (encCores ks) 0), (703, .arr 69 14 (encAlts al) 0), (801, mapO a), (802, .var 31 [.hs 900 0 out.length out.length]), (900, outO out)]

theorem c_free1_B {m m' a : CM} {out out' : List Str} {ks : List Core} {bs : List Bind} {al : List Alt} (g : List Str) {i : Nat} {b : _} (hx : bs[i]? = some b)
    (hf : ImpC Tryd.prog 90 [.one (.mr 800), .pa (encCore b.body), .one (.mr 801), .one (.vp 802 0)] (fH m a out) (.tup []) (fH m' a out')) :
    ImpC Tryd.prog 98 ([R.vp 4 0, R.vp 9 0, R.vp 6 0, R.vp 7 0].map V.one) ((800, mapO m) :: fL (.ep 701 i 5 bs.length) g a out ks bs al) (.tup []) ((800, mapO m') :: fL (.ep 701 i 5 bs.length) g a out' ks bs al) := by
  have hx' : (encBinds bs)[i]? = some (encBind b) := by first | exact encBinds_at hx | exact encCores_at hx | exact encAlts_at hx
  have hl : bs.length = (encBinds bs).length := by first | rw [encBinds_map, List.length_map] | rw [encCores_map, List.length_map] | rw [encAlts_map, List.length_map]
  have hlt := (List.getElem?_eq_some_iff.1 hx).1
  refine impC (n := 12) tok Tryd.func98 rfl rfl rfl ?_
  refine awp_rg mixed ?_
  refine ak 7 [(4, .row i (encBind b))] rfl ?_
  refine kc hf ?_
  refine az ?_
  exact ⟨.inl rfl, ⟨_, _, .nil, .nil, rfl⟩, ⟨⟨_, rfl, .map⟩, ⟨_, rfl, .var rfl⟩, ⟨_, rfl, .var rfl⟩, ⟨_, rfl, .var rfl⟩, ⟨_, rfl, .var rfl⟩, ⟨_, rfl, .arr⟩, ⟨_, rfl, .arr⟩, ⟨_, rfl, .arr⟩, ⟨_, rfl, .map⟩, ⟨_, rfl, .var rfl⟩, ⟨_, rfl, .arr⟩, trivial⟩, rfl⟩

theorem c_free1_K {m m' a : CM} {out out' : List Str} {ks : List Core} {bs : List Bind} {al : List Alt} (g : List Str) {i : Nat} {k : _} (hx : ks[i]? = some k)
    (hf : ImpC Tryd.prog 90 [.one (.mr 800), .pa (encCore k), .one (.mr 801), .one (.vp 802 0)] (fH m a out) (.tup []) (fH m' a out')) :
    ImpC Tryd.prog 98 ([R.vp 4 0, R.vp 9 0, R.vp 6 0, R.vp 7 0].map V.one) ((800, mapO m) :: fL (.ep 702 i 0 ks.length) g a out ks bs al) (.tup []) ((800, mapO m') :: fL (.ep 702 i 0 ks.length) g a out' ks bs al) := by
  have hx' : (encCores ks)[i]? = some (encCore k) := by first | exact encBinds_at hx | exact encCores_at hx | exact encAlts_at hx
  have hl : ks.length = (encCores ks).length := by first | rw [encBinds_map, List.length_map] | rw [encCores_map, List.length_map] | rw [encAlts_map, List.length_map]
  have hlt := (List.getElem?_eq_some_iff.1 hx).1
  refine impC (n := 12) tok Tryd.func98 rfl rfl rfl ?_
  refine awp_rg mixed ?_
  refine ak 7 [(4, .row i (encCore k))] rfl ?_
  refine kc hf ?_
  refine az ?_
  exact ⟨.inl rfl, ⟨_, _, .nil, .nil, rfl⟩, ⟨⟨_, rfl, .map⟩, ⟨_, rfl, .var rfl⟩, ⟨_, rfl, .var rfl⟩, ⟨_, rfl, .var rfl⟩, ⟨_, rfl, .var rfl⟩, ⟨_, rfl, .arr⟩, ⟨_, rfl, .arr⟩, ⟨_, rfl, .arr⟩, ⟨_, rfl, .map⟩, ⟨_, rfl, .var rfl⟩, ⟨_, rfl, .arr⟩, trivial⟩, rfl⟩

theorem c_free1_A {m m' a : CM} {out out' : List Str} {ks : List Core} {bs : List Bind} {al : List Alt} (g : List Str) {i : Nat} {al1 : _} (hx : al[i]? = some al1)
    (hf : ImpC Tryd.prog 90 [.one (.mr 800), .pa (encCore al1.body), .one (.mr 801), .one (.vp 802 0)] (fH m a out) (.tup []) (fH m' a out')) :
    ImpC Tryd.prog 98 ([R.vp 4 0, R.vp 9 0, R.vp 6 0, R.vp 7 0].map V.one) ((800, mapO m) :: fL (.ep 703 i 4 al.length) g a out ks bs al) (.tup []) ((800, mapO m') :: fL (.ep 703 i 4 al.length) g a out' ks bs al) := by
  have hx' : (encAlts al)[i]? = some (encAlt al1) := by first | exact encBinds_at hx | exact encCores_at hx | exact encAlts_at hx
  have hl : al.length = (encAlts al).length := by first | rw [encBinds_map, List.length_map] | rw [encCores_map, List.length_map] | rw [encAlts_map, List.length_map]
  have hlt := (List.getElem?_eq_some_iff.1 hx).1
  refine impC (n := 12) tok Tryd.func98 rfl rfl rfl ?_
  refine awp_rg mixed ?_
  refine ak 7 [(4, .row i (encAlt al1))] rfl ?_
  refine kc hf ?_
  refine az ?_
  exact ⟨.inl rfl, ⟨_, _, .nil, .nil, rfl⟩, ⟨⟨_, rfl, .map⟩, ⟨_, rfl, .var rfl⟩, ⟨_, rfl, .var rfl⟩, ⟨_, rfl, .var rfl⟩, ⟨_, rfl, .var rfl⟩, ⟨_, rfl, .arr⟩, ⟨_, rfl, .arr⟩, ⟨_, rfl, .arr⟩, ⟨_, rfl, .map⟩, ⟨_, rfl, .var rfl⟩, ⟨_, rfl, .arr⟩, trivial⟩, rfl⟩

theorem Same.decs {m m' : CM} {g : List Str} (h : Same (incs g m) m') : Same m (decs g m') := fun s => by
  have h1 := h s
  rw [cnt_incs] at h1
  rw [cnt_decs, ← h1]
  omega

theorem exists_seq {α : Type} {P : Nat → α → Prop} {R : Nat → α → α → Prop} (x0 : α) (h0 : P 0 x0) (h : ∀ i x, P i x → ∃ y, P (i + 1) y ∧ R i x y) : ∃ s : Nat → α, s 0 = x0 ∧ (∀ i, P i (s i)) ∧ ∀ i, R i (s i) (s (i + 1)) := by
  let f : (i : Nat) → { x : α // P i x } := fun i => Nat.rec ⟨x0, h0⟩ (fun i x => ⟨Classical.choose (h i x.1 x.2), (Classical.choose_spec (h i x.1 x.2)).1⟩) i
  exact ⟨fun i => (f i).1, rfl, fun i => (f i).2, fun i => (Classical.choose_spec (h i (f i).1 (f i).2)).2⟩
theorem pRows_len (f : Int) (s : Str) (ks : List Core) (bs : List Bind) (al : List Alt) : (pRows f s ks bs al).length = bs.length + (ks.length + al.length) := by
  unfold pRows; rw [List.length_append, List.length_append, prowB_len, prowK_len, prowA_len]
theorem partsL_len (f : Int) (s : Str) (ks : List Core) (bs : List Bind) (al : List Alt) : (partsL f s ks bs al).length = bs.length + (ks.length + al.length) := by
  unfold partsL; simp
/-- The part at a place: of which kind it is. -/
theorem parts_at (f : Int) (s : Str) (ks : List Core) (bs : List Bind) (al : List Alt) {i : Nat} (hi : i < (pRows f s ks bs al).length) :
    (∃ j b, bs[j]? = some b ∧ (pRows f s ks bs al)[i]? = some (prow 701 5 bs.length (gvs f s bs) j) ∧ (partsL f s ks bs al)[i]? = some (gvs f s bs, b.body) ∧ i = j) ∨
    (∃ j k, ks[j]? = some k ∧ (pRows f s ks bs al)[i]? = some (prow 702 0 ks.length (gvs f s bs) j) ∧ (partsL f s ks bs al)[i]? = some (gvs f s bs, k) ∧ i = bs.length + j) ∨
    (∃ j a, al[j]? = some a ∧ (pRows f s ks bs al)[i]? = some (prow 703 4 al.length (gvs f s bs ++ a.vars) j) ∧ (partsL f s ks bs al)[i]? = some (gvs f s bs ++ a.vars, a.body) ∧ i = bs.length + (ks.length + j)) := by
  rw [pRows_len] at hi
  have e1 : ∀ n j, j < n → (List.range n)[j]? = some j := fun n j h => by rw [List.getElem?_range h]
  by_cases h1 : i < bs.length
  · obtain ⟨b, hb⟩ := get_of_lt h1
    refine .inl ⟨i, b, hb, ?_, ?_, rfl⟩
    · unfold pRows prowB
      rw [List.getElem?_append_left (by simpa using h1), List.getElem?_map, e1 _ _ h1]; rfl
    · unfold partsL
      rw [List.getElem?_append_left (by simpa using h1), List.getElem?_map, hb]; rfl
  · by_cases h2 : i - bs.length < ks.length
    · obtain ⟨k, hk⟩ := get_of_lt h2
      refine .inr (.inl ⟨i - bs.length, k, hk, ?_, ?_, by omega⟩)
      · unfold pRows
        rw [List.getElem?_append_right (by rw [prowB_len]; omega), prowB_len, List.getElem?_append_left (by rw [prowK_len]; omega)]
        unfold prowK
        rw [List.getElem?_map, e1 _ _ h2]; rfl
      · unfold partsL
        rw [List.getElem?_append_right (by rw [List.length_map]; omega), List.length_map, List.getElem?_append_left (by rw [List.length_map]; omega), List.getElem?_map, hk]; rfl
    · have h3 : i - bs.length - ks.length < al.length := by omega
      obtain ⟨a, ha⟩ := get_of_lt h3
      refine .inr (.inr ⟨i - bs.length - ks.length, a, ha, ?_, ?_, by omega⟩)
      · unfold pRows
        rw [List.getElem?_append_right (by rw [prowB_len]; omega), prowB_len, List.getElem?_append_right (by rw [prowK_len]; omega), prowK_len]
        unfold prowA
        rw [List.getElem?_map, e1 _ _ h3]
        show some (prow 703 4 al.length (gvs f s bs ++ varsAt al (i - bs.length - ks.length)) _) = _
        rw [show varsAt al (i - bs.length - ks.length) = a.vars by unfold varsAt; rw [ha]; rfl]
      · unfold partsL
        rw [List.getElem?_append_right (by rw [List.length_map]; omega), List.length_map, List.getElem?_append_right (by rw [List.length_map]; omega), List.length_map, List.getElem?_map, ha]; rfl
theorem wfF (ep : R) (g : List Str) (a : CM) (out : List Str) (ks : List Core) (bs : List Bind) (al : List Alt) (h : ep.refs = [701] ∨ ep.refs = [702] ∨ ep.refs = [703]) (x : CM) : Wf [800, 4, 9, 6, 7, 701, 702, 703, 801, 802, 900] ((800, mapO x) :: fL ep g a out ks bs al) := by
  refine ⟨rfl, ?_⟩
  rcases h with h | h | h <;> simp [fL, refsH, AObj.refs, mapO, outO, R.refsL, R.refs, h, subset, AObj.live, AObj.plain] <;> rfl

theorem c_pfree_step (c : Core) (ih : ∀ x, csize x < csize c → FreSpec x) : FreSpec c := by
  intro m a out hm hsz ho
  obtain ⟨f, n, s, t, ks, bs, al⟩ := c
  by_cases hf : f = 1
  · refine ⟨m, fun _ => rfl, ?_⟩
    have hr : freeR (gset a) (.mk f n s t ks bs al) (gset m) out = if gset a s && !gset m s && !decide (s ∈ out) then out ++ [s] else out := by rw [freeR, if_pos hf]
    rw [hr]
    have hmo := mstr_enc m
    have hao := mstr_enc a
    have hlm := lookR_cnt m s
    have hla := lookR_cnt a s
    have hco := c_contains out s (by omega)
    have h0 := (hm s).1
    refine impC (n := 55) tok Tryd.func90 rfl rfl rfl ?_
    refine AWp.sub (Sub.freeze (id := 900) rfl) ?_
    refine awp_seq (ag [(1, .id 700)] rfl ?_)
    refine awp_seq (awp_seq (ag [] rfl ?_))
    refine awp_cond rfl (fun _ => ?_) (fun hb => absurd hf (of_decide_eq_false hb))
    refine awp_seq (awp_seq (agF 6 [(3, .pc (I .i64 (cnt m s))), (9, .pc (I .i64 (cnt a s))), (18, .pc (B (decide (s ∈ out))))] rfl rfl rfl ?_))
    refine awp_cond rfl (fun hb => ?_) (fun hb => ?_)
    · have hc : (gset a s && !gset m s && !decide (s ∈ out)) = true := by
        unfold gset
        by_cases e1 : cnt m s = 0 <;> by_cases e2 : 0 < cnt a s <;> by_cases e3 : s ∈ out <;> simp [e1, e2, e3] at hb ⊢
      rw [if_pos hc]
      refine ag [] rfl ?_
      refine awp_ret ?_
      exact ⟨.inr rfl, ⟨_, _, .nil, .nil, rfl⟩, ⟨⟨_, rfl, .map⟩, ⟨_, rfl, .map⟩, ⟨_, rfl, .var (by simp [R.renL, R.ren])⟩, ⟨_, rfl, by first | exact Go.AM.Ole.arrE (by simp; rfl) | exact Go.AM.Ole.arrS (by simp; rfl)⟩, trivial⟩, rfl⟩
    · have hc : ¬ (gset a s && !gset m s && !decide (s ∈ out)) = true := by
        unfold gset
        by_cases e1 : cnt m s = 0
        · by_cases e2 : 0 < cnt a s <;> by_cases e3 : s ∈ out <;> simp [e1, e2, e3] at hb ⊢
        · have e4 : 0 < cnt m s := by omega
          simp [e4]
      rw [if_neg hc]
      refine awp_skip ?_
      refine awp_ret ?_
      exact ⟨.inr rfl, ⟨_, _, .nil, .nil, rfl⟩, ⟨⟨_, rfl, .map⟩, ⟨_, rfl, .map⟩, ⟨_, rfl, .var rfl⟩, ⟨_, rfl, .arr1⟩, trivial⟩, rfl⟩
  · have hm0 : ∀ s, 0 ≤ cnt m s := fun s => (hm s).1
    rw [freeR_parts (gset a) hf]
    have hps := @psum_all f n s t ks bs al
    have hN : (pRows f s ks bs al).length = (partsL f s ks bs al).length := by rw [pRows_len, partsL_len]
    have hin : ∀ p ∈ partsL f s ks bs al, _ := fun p hp => @parts_in f n s t ks bs al p hp
    have hptk : ∀ {i p}, (partsL f s ks bs al)[i]? = some p → _ := fun {i p} h => psum_take h
    have hfl := fun i => foldl_len (gset a) (gset m) ((partsL f s ks bs al).take i) out
    have hpt : ∀ i, ∀ p, (partsL f s ks bs al)[i]? = some p → ((partsL f s ks bs al).take (i + 1)).foldl (fun o p => freeR (gset a) p.2 (ext (gset m) p.1) o) out = freeR (gset a) p.2 (ext (gset m) p.1) (((partsL f s ks bs al).take i).foldl (fun o p => freeR (gset a) p.2 (ext (gset m) p.1) o) out) := fun i p h => fold_step _ _ h
    have hat := @parts_at f s ks bs al
    have hcp := c_parts f n s t ks bs al hsz
    have hrr : ∀ x ∈ (pObj (pRows f s ks bs al)).refs, x ∈ pRefs.refs := rows_refs
    have hPN : (partsL f s ks bs al).take (pRows f s ks bs al).length = partsL f s ks bs al := by rw [hN, List.take_length]
    rw [← hPN]
    generalize partsL f s ks bs al = L at hps hN hin hptk hfl hpt hat hPN ⊢
    generalize pRows f s ks bs al = rows at hN hat hcp hrr hPN ⊢
    obtain ⟨sq, hs0, hsP, hsR⟩ := exists_seq (P := fun _ x => Same m x) (R := fun i x y => ∀ p, L[i]? = some p → ∃ m', y = decs p.1 m' ∧ Same (incs p.1 x) m' ∧ ImpC Tryd.prog 90 [.one (.mr 800), .pa (encCore p.2), .one (.mr 801), .one (.vp 802 0)] (fH (incs p.1 x) a ((L.take i).foldl (fun o p => freeR (gset a) p.2 (ext (gset m) p.1) o) out)) (.tup []) (fH m' a ((L.take (i + 1)).foldl (fun o p => freeR (gset a) p.2 (ext (gset m) p.1) o) out))) m (fun _ => rfl) (fun i x hx => by
      cases hp : L[i]? with
      | none => exact ⟨x, hx, fun p h => by cases h⟩
      | some p =>
        obtain ⟨q1, q2⟩ := hin p (List.mem_of_getElem? hp)
        have q3 : psum (L.take i) + csize p.2 ≤ psum L := hptk hp
        have q4 := hfl i
        have hx0 : ∀ s, 0 ≤ cnt x s := fun s => by rw [← hx s]; exact hm0 s
        obtain ⟨m', g1, g2⟩ := ih p.2 q1 (incs p.1 x) a ((L.take i).foldl (fun o p => freeR (gset a) p.2 (ext (gset m) p.1) o) out) (fun s => by
          have h1 := hm s
          have h2 := hx s
          have h3 := cnt_incs s p.1 x
          have h4 : 0 ≤ times s p.1 ∧ times s p.1 ≤ p.1.length := by
            unfold times
            have := List.count_le_length (a := s) (l := p.1)
            omega
          omega) (by omega) (by omega)
        rw [gset_incs hx0, ← gset_same hx, ← hpt i p hp] at g2
        exact ⟨decs p.1 m', fun s => by rw [hx s]; exact Same.decs g1 s, fun p' h => by cases h; exact ⟨m', rfl, g1, g2⟩⟩)
    refine ⟨sq rows.length, hsP _, ?_⟩
    have hrl : rows.length ≤ 800000 := by
      rw [hN]
      have : ∀ l : List (List Str × Core), l.length ≤ psum l := by
        intro l
        induction l with
        | nil => exact Nat.zero_le _
        | cons p l ih => rw [List.length_cons, psum]; have := csize_pos p.2; omega
      have := this L
      omega
    refine impC (n := 55) tok Tryd.func90 rfl rfl rfl ?_
    refine awp_seq (ag [(1, .id 700)] rfl ?_)
    refine awp_seq (awp_seq (ag [] rfl ?_))
    refine awp_cond rfl (fun hb => absurd (of_decide_eq_true hb) hf) (fun _ => ?_)
    refine awp_skip ?_
    refine awp_seq (awp_rg mixed ?_)
    refine kc hcp ?_
    refine ak 2 [] rfl ?_
    refine az ?_
    refine awp_block ?_
    refine awp_loop (fun i : Nat => mk [(4, .one (.vp 4 0)), (6, .one (.vp 6 0)), (7, .one (.vp 7 0)), (43, .one (.ra 704 0 rows.length rows.length)), (44, I .i64 ((rows.length : Nat) : Int)), (45, I .i64 i)] ((704, pObj rows) :: [(4, .var mT [.mr 800]), (6, .var mT [.mr 801]), (7, .var 126 [.vp 802 0]), (701, .arr 46 15 (encBinds bs) 0), (702, .arr 38 10 (encCores ks) 0), (703, .arr 69 14 (encAlts al) 0), (800, mapO (sq i)), (801, mapO a), (802, .var 31 [.hs 900 0 ((L.take i).foldl (fun o p => freeR (gset a) p.2 (ext (gset m) p.1) o) out).length ((L.take i).foldl (fun o p => freeR (gset a) p.2 (ext (gset m) p.1) o) out).length]), (900, outO ((L.take i).foldl (fun o p => freeR (gset a) p.2 (ext (gset m) p.1) o) out))])) (fun i => i ≤ rows.length) (fun i => rows.length - i) 0 (Nat.zero_le _) (by rw [hs0]; exact slR pRefs hrr ⟨_, rfl, .rarrS rfl⟩) ?_
    intro i hi
    refine awp_seq (ag [] rfl ?_)
    refine awp_seq (awp_cond rfl (fun hb => ?_) (fun hb => ?_))
    · have hlt : i < rows.length := by
        have : (i : Int) < (rows.length : Int) := of_decide_eq_true hb
        omega
      refine awp_skip ?_
      refine awp_seq (awp_block ?_)
      rcases hat hlt with ⟨j, b, hb', hro, hpa, _⟩ | ⟨j, k, hk', hro, hpa, _⟩ | ⟨j, al', ha', hro, hpa, _⟩
      · obtain ⟨m', e1, e2, e3⟩ := hsR i _ hpa
        obtain ⟨q1, q2⟩ := hin _ (List.mem_of_getElem? hpa)
        have hx := hsP i
        have hc1 := c_free1_B (ks := ks) (bs := bs) (al := al) (gvs f s bs) hb' e3
        have hci := c_inside (gvs f s bs) (sq i) m' _ _ [800, 4, 9, 6, 7, 701, 702, 703, 801, 802, 900] (by dsimp only at q2; omega) (fun u => by have := hm u; have := hx u; omega) (fun u => by
          have h1 := hm u
          have h2 := hx u
          have h3 := e2 u
          rw [cnt_incs] at h3
          have h4 : 0 ≤ times u (gvs f s bs) ∧ times u (gvs f s bs) ≤ (gvs f s bs).length := by
            unfold times
            have := List.count_le_length (a := u) (l := gvs f s bs)
            omega
          dsimp only at q2 h3
          omega) (wfF _ _ _ _ _ _ _ (by simp [R.refs])) (wfF _ _ _ _ _ _ _ (by simp [R.refs])) rfl (by kernel_rfl) hc1
        dsimp only at e1
        rw [← e1] at hci
        refine awp_seq (ag [(1, .rr (prow 701 5 bs.length (gvs f s bs) j))] rfl ?_)
        refine awp_rg mixed ?_
        refine ak 4 [] rfl ?_
        refine kc hci ?_
        refine az ?_
        refine ag [] rfl ?_
        exact ⟨i + 1, hlt, by dsimp only; omega, slR pRefs hrr ⟨_, rfl, .rarrS rfl⟩⟩
      · obtain ⟨m', e1, e2, e3⟩ := hsR i _ hpa
        obtain ⟨q1, q2⟩ := hin _ (List.mem_of_getElem? hpa)
        have hx := hsP i
        have hc1 := c_free1_K (ks := ks) (bs := bs) (al := al) (gvs f s bs) hk' e3
        have hci := c_inside (gvs f s bs) (sq i) m' _ _ [800, 4, 9, 6, 7, 701, 702, 703, 801, 802, 900] (by dsimp only at q2; omega) (fun u => by have := hm u; have := hx u; omega) (fun u => by
          have h1 := hm u
          have h2 := hx u
          have h3 := e2 u
          rw [cnt_incs] at h3
          have h4 : 0 ≤ times u (gvs f s bs) ∧ times u (gvs f s bs) ≤ (gvs f s bs).length := by
            unfold times
            have := List.count_le_length (a := u) (l := gvs f s bs)
            omega
          dsimp only at q2 h3
          omega) (wfF _ _ _ _ _ _ _ (by simp [R.refs])) (wfF _ _ _ _ _ _ _ (by simp [R.refs])) rfl (by kernel_rfl) hc1
        dsimp only at e1
        rw [← e1] at hci
        refine awp_seq (ag [(1, .rr (prow 702 0 ks.length (gvs f s bs) j))] rfl ?_)
        refine awp_rg mixed ?_
        refine ak 4 [] rfl ?_
        refine kc hci ?_
        refine az ?_
        refine ag [] rfl ?_
        exact ⟨i + 1, hlt, by dsimp only; omega, slR pRefs hrr ⟨_, rfl, .rarrS rfl⟩⟩
      · obtain ⟨m', e1, e2, e3⟩ := hsR i _ hpa
        obtain ⟨q1, q2⟩ := hin _ (List.mem_of_getElem? hpa)
        have hx := hsP i
        have hc1 := c_free1_A (ks := ks) (bs := bs) (al := al) (gvs f s bs ++ al'.vars) ha' e3
        have hci := c_inside (gvs f s bs ++ al'.vars) (sq i) m' _ _ [800, 4, 9, 6, 7, 701, 702, 703, 801, 802, 900] (by dsimp only at q2; omega) (fun u => by have := hm u; have := hx u; omega) (fun u => by
          have h1 := hm u
          have h2 := hx u
          have h3 := e2 u
          rw [cnt_incs] at h3
          have h4 : 0 ≤ times u (gvs f s bs ++ al'.vars) ∧ times u (gvs f s bs ++ al'.vars) ≤ (gvs f s bs ++ al'.vars).length := by
            unfold times
            have := List.count_le_length (a := u) (l := gvs f s bs ++ al'.vars)
            omega
          dsimp only at q2 h3
          omega) (wfF _ _ _ _ _ _ _ (by simp [R.refs])) (wfF _ _ _ _ _ _ _ (by simp [R.refs])) rfl (by kernel_rfl) hc1
        dsimp only at e1
        rw [← e1] at hci
        refine awp_seq (ag [(1, .rr (prow 703 4 al.length (gvs f s bs ++ al'.vars) j))] rfl ?_)
        refine awp_rg mixed ?_
        refine ak 4 [] rfl ?_
        refine kc hci ?_
        refine az ?_
        refine ag [] rfl ?_
        exact ⟨i + 1, hlt, by dsimp only; omega, slR pRefs hrr ⟨_, rfl, .rarrS rfl⟩⟩
    have hge : i = rows.length := by
      have : ¬ (i : Int) < (rows.length : Int) := of_decide_eq_false hb
      omega
    subst hge
    refine awp_exit ?_
    exact ⟨.inl rfl, ⟨_, _, .nil, .nil, rfl⟩, ⟨⟨_, rfl, .map⟩, ⟨_, rfl, .map⟩, ⟨_, rfl, .var rfl⟩, ⟨_, rfl, .arr⟩, trivial⟩, rfl⟩
theorem c_pfree : ∀ (n : Nat) (c : Core), csize c ≤ n → FreSpec c
  | 0, c, h => by have := csize_pos c; omega
  | n + 1, c, h => c_pfree_step c fun x hx => c_pfree n x (by omega)
end Go.Proofs.YtojcjjjpniimiaaDoor
