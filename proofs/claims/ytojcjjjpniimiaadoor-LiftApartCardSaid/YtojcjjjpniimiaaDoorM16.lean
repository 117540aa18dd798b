/-
  Texts La15, La16, La17, La18 in one.
-/
import Derived.Test.YtojcjjjpniimiaaDoorM15
/- CORE WITHOUT LAMBDAS (the reference of layer 25): the walk. -/
namespace Go.Proofs.YtojcjjjpniimiaaDoor
open Go Go.AM
set_option maxRecDepth 20000

/-- No type. -/
def tz (t : Ty) : Bool := decide (t.form = 0) && (decide (t.n = 0) && (t.name.isEmpty && t.args.isEmpty))
theorem tz_eq {t : Ty} (h : tz t = true) : t = zTy := by
  obtain ⟨f, n, s, a⟩ := t
  simp only [tz, Bool.and_eq_true, decide_eq_true_eq, List.isEmpty_iff] at h
  obtain ⟨h1, h2, h3, h4⟩ := h
  simp only [Ty.form, Ty.n, Ty.name, Ty.args] at h1 h2 h3 h4
  subst h1 h2 h3 h4
  rfl
mutual
/-- Lambdas have bodies, binds no types. -/
def wfR : Core → Bool
  | .mk f _ _ _ ks bs al => (if f = 5 then !ks.isEmpty else true) && (wfCs ks && (wfBs bs && wfAs al))
def wfCs : List Core → Bool
  | [] => true
  | c :: l => wfR c && wfCs l
def wfBs : List Bind → Bool
  | [] => true
  | .mk _ t c :: l => (tz t && wfR c) && wfBs l
def wfAs : List Alt → Bool
  | [] => true
  | .mk _ _ _ _ c :: l => wfR c && wfAs l
end
theorem wfCs_mem : ∀ {l : List Core}, wfCs l = true → ∀ x ∈ l, wfR x = true
  | c :: l, h, x, hx => by
    rw [wfCs, Bool.and_eq_true] at h
    rcases List.mem_cons.1 hx with rfl | hx
    · exact h.1
    · exact wfCs_mem h.2 x hx
theorem wfBs_mem : ∀ {l : List Bind}, wfBs l = true → ∀ x ∈ l, x.ty = zTy ∧ wfR x.body = true
  | .mk s t c :: l, h, x, hx => by
    simp only [wfBs, Bool.and_eq_true] at h
    rcases List.mem_cons.1 hx with rfl | hx
    · exact ⟨tz_eq h.1.1, h.1.2⟩
    · exact wfBs_mem h.2 x hx
theorem wfAs_mem : ∀ {l : List Alt}, wfAs l = true → ∀ x ∈ l, wfR x.body = true
  | .mk f n s v c :: l, h, x, hx => by
    rw [wfAs, Bool.and_eq_true] at h
    rcases List.mem_cons.1 hx with rfl | hx
    · exact h.1
    · exact wfAs_mem h.2 x hx
theorem wf_chain : ∀ (m : Nat) (c : Core), csize c ≤ m → wfR c = true → lamOk c = true ∧ wfR (chainB c) = true ∧ (chainN c).length + csize (chainB c) ≤ csize c ∧ (chainB c).form ≠ 5 ∧ (∀ s ∈ chainN c, s.length ≤ csize c) ∧ (c.form = 5 → csize (chainB c) < csize c) := by
  intro m
  induction m with
  | zero => intro c hc; have := csize_pos c; omega
  | succ m ih =>
    intro c hc h
    obtain ⟨f, n, s, t, ks, bs, al⟩ := c
    have hw := h
    simp only [wfR, Bool.and_eq_true] at hw
    by_cases hf : f = 5
    · cases ks with
      | nil => simp [hf] at hw
      | cons k ks =>
        rw [csize, csizes] at hc
        have hk := hw.2.1
        rw [wfCs, Bool.and_eq_true] at hk
        obtain ⟨h1, h2, h3, h4, h5, h6⟩ := ih k (by omega) hk.1
        rw [lamOk, chainN, chainB, if_pos hf, if_pos hf, if_pos hf, chainNs, chainBs, csize, csizes]
        refine ⟨h1, h2, by rw [List.length_cons]; omega, h4, fun x hx => ?_, fun _ => by omega⟩
        rcases List.mem_cons.1 hx with rfl | hx
        · omega
        · have := h5 x hx; omega
    · rw [chainN, chainB, if_neg hf, if_neg hf]
      exact ⟨by rw [lamOk.eq_def]; simp [hf], h, by simp, hf, by simp, fun e => absurd e hf⟩
theorem partR_chain (of : Str) : ∀ (m : Nat) (c : Core), csize c ≤ m → wfR c = true → ∀ (A : Str → Bool) (made : List Sup), partR of true c A made = partR of false (chainB c) A made := by
  intro m
  induction m with
  | zero => intro c hc; have := csize_pos c; omega
  | succ m ih =>
    intro c hc h A made
    obtain ⟨f, n, s, t, ks, bs, al⟩ := c
    have hw := h
    simp only [wfR, Bool.and_eq_true] at hw
    by_cases hf : f = 5
    · cases ks with
      | nil => simp [hf] at hw
      | cons k ks =>
        rw [csize, csizes] at hc
        have hk := hw.2.1
        rw [wfCs, Bool.and_eq_true] at hk
        rw [partR, if_pos hf, if_pos rfl, partK, ih k (by omega) hk.1, chainB, if_pos hf, chainBs]
    · rw [chainB, if_neg hf, partR, partR, if_neg hf, if_neg hf]
mutual
theorem part_len (of : Str) : ∀ (c : Core) (ch : Bool) (A : Str → Bool) (made : List Sup), made.length ≤ (partR of ch c A made).2.length ∧ (partR of ch c A made).2.length ≤ made.length + csize c
  | .mk f n s t ks bs al, ch, A, made => by
    rw [partR, csize]
    split
    · split
      · have := partK_len of ks A made; omega
      · have hp := partK_len of ks (fun x => decide (x ∈ freeR A (.mk f n s t ks bs al) (fun _ => false) [] ++ (s :: chainNs ks))) (made ++ [⟨fname of made.length, paramsR (freeR A (.mk f n s t ks bs al) (fun _ => false) [] ++ (s :: chainNs ks)), zCore⟩])
        rw [List.length_append, List.length_singleton] at hp
        dsimp only
        rw [setBody_len]
        omega
    · have h1 := partBs_len of bs (ext A (gvs f s bs)) made
      have h2 := partCs_len of ks (ext A (gvs f s bs)) (partBs of bs (ext A (gvs f s bs)) made).2
      have h3 := partAs_len of al (ext A (gvs f s bs)) (partCs of ks (ext A (gvs f s bs)) (partBs of bs (ext A (gvs f s bs)) made).2).2
      dsimp only
      omega
theorem partK_len (of : Str) : ∀ (l : List Core) (A : Str → Bool) (made : List Sup), made.length ≤ (partK of l A made).2.length ∧ (partK of l A made).2.length ≤ made.length + csizes l
  | [], _, made => by rw [partK]; exact ⟨Nat.le_refl _, Nat.le_add_right _ _⟩
  | c :: l, A, made => by
    rw [partK, csizes]
    have := part_len of c true A made
    omega
theorem partCs_len (of : Str) : ∀ (l : List Core) (A : Str → Bool) (made : List Sup), made.length ≤ (partCs of l A made).2.length ∧ (partCs of l A made).2.length ≤ made.length + csizes l
  | [], _, made => by rw [partCs]; exact ⟨Nat.le_refl _, Nat.le_add_right _ _⟩
  | c :: l, A, made => by
    rw [partCs, csizes]
    have h1 := part_len of c false A made
    have h2 := partCs_len of l A (partR of false c A made).2
    dsimp only
    omega
theorem partBs_len (of : Str) : ∀ (l : List Bind) (A : Str → Bool) (made : List Sup), made.length ≤ (partBs of l A made).2.length ∧ (partBs of l A made).2.length ≤ made.length + bsizes l
  | [], _, made => by rw [partBs]; exact ⟨Nat.le_refl _, Nat.le_add_right _ _⟩
  | .mk s t c :: l, A, made => by
    rw [partBs, bsizes, bsize]
    have h1 := part_len of c false A made
    have h2 := partBs_len of l A (partR of false c A made).2
    dsimp only
    omega
theorem partAs_len (of : Str) : ∀ (l : List Alt) (A : Str → Bool) (made : List Sup), made.length ≤ (partAs of l A made).2.length ∧ (partAs of l A made).2.length ≤ made.length + asizes l
  | [], _, made => by rw [partAs]; exact ⟨Nat.le_refl _, Nat.le_add_right _ _⟩
  | .mk f n s vs c :: l, A, made => by
    rw [partAs, asizes, asize]
    have h1 := part_len of c false (ext A vs) made
    have h2 := partAs_len of l A (partR of false c (ext A vs) made).2
    dsimp only
    omega
end
/-! ### A list, one by one -/
theorem partCs_app (of : Str) (A : Str → Bool) (c : Core) : ∀ (l : List Core) (made : List Sup), partCs of (l ++ [c]) A made = ((partCs of l A made).1 ++ [(partR of false c A (partCs of l A made).2).1], (partR of false c A (partCs of l A made).2).2)
  | [], made => by simp [partCs]
  | d :: l, made => by simp [partCs, partCs_app of A c l]
theorem partBs_app (of : Str) (A : Str → Bool) (b : Bind) : ∀ (l : List Bind) (made : List Sup), partBs of (l ++ [b]) A made = ((partBs of l A made).1 ++ [.mk b.name b.ty (partR of false b.body A (partBs of l A made).2).1], (partR of false b.body A (partBs of l A made).2).2)
  | [], made => by obtain ⟨s, t, c⟩ := b; simp [partBs, Bind.name, Bind.ty, Bind.body]
  | .mk s t c :: l, made => by simp [partBs, partBs_app of A b l]
theorem partAs_app (of : Str) (A : Str → Bool) (a : Alt) : ∀ (l : List Alt) (made : List Sup), partAs of (l ++ [a]) A made = ((partAs of l A made).1 ++ [.mk a.form a.n a.name a.vars (partR of false a.body (ext A a.vars) (partAs of l A made).2).1], (partR of false a.body (ext A a.vars) (partAs of l A made).2).2)
  | [], made => by obtain ⟨f, n, s, v, c⟩ := a; simp [partAs, Alt.form, Alt.n, Alt.name, Alt.vars, Alt.body]
  | .mk f n s v c :: l, made => by simp [partAs, partAs_app of A a l]
theorem partCs_count (of : Str) (A : Str → Bool) : ∀ (l : List Core) (made : List Sup), (partCs of l A made).1.length = l.length
  | [], _ => by rw [partCs]
  | d :: l, made => by rw [partCs]; simp [partCs_count of A l]
theorem partBs_count (of : Str) (A : Str → Bool) : ∀ (l : List Bind) (made : List Sup), (partBs of l A made).1.length = l.length
  | [], _ => by rw [partBs]
  | .mk s t c :: l, made => by rw [partBs]; simp [partBs_count of A l]
theorem partAs_count (of : Str) (A : Str → Bool) : ∀ (l : List Alt) (made : List Sup), (partAs of l A made).1.length = l.length
  | [], _ => by rw [partAs]
  | .mk f n s v c :: l, made => by rw [partAs]; simp [partAs_count of A l]
theorem setBody_set (c : Core) : ∀ (l : List Sup) (k : Nat) (y : Sup), l[k]? = some y → (setBody l k c).map encSup = (l.map encSup).set k ([.str y.name, .sl 1 (y.params.map encS)] ++ encCore c)
  | [], k, y, h => by simp at h
  | x :: l, 0, y, h => by simp at h; subst h; rfl
  | x :: l, k + 1, y, h => by
    have := setBody_set c l k y (by simpa using h)
    simp only [setBody, List.map_cons, List.set_cons_succ, this]
def madeV (l : List Sup) : V := .one (.hs 901 0 l.length l.length)
def madeO (l : List Sup) : AObj := .arr 40 12 (l.map encSup) 0
theorem gvs_len (f : Int) (s : Str) (bs : List Bind) : (gvs f s bs).length ≤ 1 + bs.length := by
  unfold gvs; rw [List.length_append, List.length_map]; split <;> simp
theorem bsizes_name : ∀ {l : List Bind}, ∀ s ∈ l.map Bind.name, s.length ≤ bsizes l
  | .mk x t c :: l, s, h => by
    rw [bsizes, bsize]
    rcases List.mem_cons.1 h with h | h
    · have e : s = x := h
      subst e
      omega
    · have := bsizes_name s h; omega
theorem gvs_mem {f n : Int} {s : Str} {t : Ty} {ks : List Core} {bs : List Bind} {al : List Alt} : ∀ x ∈ gvs f s bs, x.length ≤ csize (.mk f n s t ks bs al) := by
  intro x hx
  rw [csize]
  rcases List.mem_append.1 hx with h | h
  · split at h
    · simp only [List.mem_singleton] at h; subst h; omega
    · simp at h
  · have := bsizes_name x h; omega
theorem vsum_mem : ∀ {l : List Str} {s : Str}, s ∈ l → s.length ≤ (l.map fun v => 1 + v.length).sum
  | x :: l, s, h => by
    rcases List.mem_cons.1 h with rfl | h
    · simp; omega
    · have := vsum_mem h; simp; omega
end Go.Proofs.YtojcjjjpniimiaaDoor

/- CORE WITHOUT LAMBDAS (the reference of layer 25): the walk (2). -/
namespace Go.Proofs.YtojcjjjpniimiaaDoor
open Go Go.AM
set_option maxRecDepth 20000

/-- Names in the scope, all of them short. -/
def Short (l : List Str) : Prop := ∀ s ∈ l, s.length ≤ 1000000
def PtSpec (c : Core) : Prop := ∀ (of : Str) (ar : List Str) (made : List Sup), wfR c = true → of.length ≤ 1000000 → Short ar → csize c ≤ 400000 → made.length + csize c ≤ 1000000 → ar.length + csize c ≤ 1000000 →
  ImpC Tryd.prog 24 [.pa (encCore c), Go.AM.T of, strsV ar, madeV made] [(901, madeO made)] (.tup [.pa (encCore (partR of false c (fun s => decide (s ∈ ar)) made).1), madeV (partR of false c (fun s => decide (s ∈ ar)) made).2]) [(901, madeO (partR of false c (fun s => decide (s ∈ ar)) made).2)]

theorem appVars_snoc (s : Str) : ∀ (l : List Str) (c : Core), appVars c (l ++ [s]) = appC (appVars c l) (varC s)
  | [], _ => rfl
  | x :: l, c => by rw [List.cons_append, appVars, appVars_snoc s l]; rfl
theorem c_part_lam (c : Core) (hf : c.form = 5) (ih : ∀ x, csize x < csize c → PtSpec x) : PtSpec c := by
  intro of ar made hw hof har hsz hmd hln
  have hM : 1000000000 ≤ maxLen := by decide
  obtain ⟨w1, w2, w3, w4, w5, w6⟩ := wf_chain _ c (Nat.le_refl _) hw
  have w6 := w6 hf
  have hfr := c_Free25 c ar (by omega) hsz
  have hch := c_chain c w1 (by omega)
  have hfl := freeR_len (fun s => decide (s ∈ ar)) c (fun _ => false) []
  have hfi := freeR_in (fun s => decide (s ∈ ar)) c (fun _ => false) [] (fun s hs => by simp at hs)
  have hr : partR of false c (fun s => decide (s ∈ ar)) made = (let free := freeR (fun s => decide (s ∈ ar)) c (fun _ => false) []; let all := free ++ chainN c; let r := partR of false (chainB c) (fun x => decide (x ∈ all)) (made ++ [⟨fname of made.length, paramsR all, zCore⟩]); (appVars (varC (fname of made.length)) free, setBody r.2 made.length r.1)) := by
    have hpc := partR_chain of _ c (Nat.le_refl _) hw
    obtain ⟨f, n, s, t, ks, bs, al⟩ := c
    have hf : f = 5 := hf
    rw [partR, if_pos hf, if_neg Bool.false_ne_true]
    have hN : chainN (.mk f n s t ks bs al) = s :: chainNs ks := by rw [chainN, if_pos hf]
    simp only [hN]
    have := hpc (fun x => decide (x ∈ freeR (fun s => decide (s ∈ ar)) (.mk f n s t ks bs al) (fun _ => false) [] ++ s :: chainNs ks)) (made ++ [⟨fname of made.length, paramsR (freeR (fun s => decide (s ∈ ar)) (.mk f n s t ks bs al) (fun _ => false) [] ++ s :: chainNs ks), zCore⟩])
    rw [partR, if_pos hf, if_pos rfl] at this
    rw [this]
  rw [hr]
  dsimp only
  generalize freeR (fun s => decide (s ∈ ar)) c (fun _ => false) [] = free at hfr hfl hfi ⊢
  simp only [List.length_nil] at hfl
  have hall : Short (free ++ chainN c) := by
    intro s hs
    rcases List.mem_append.1 hs with hs | hs
    · exact har s (of_decide_eq_true (hfi s hs))
    · have := w5 s hs; omega
  have hwi := c_with free (chainN c) (by omega)
  have hpa := c_params25 (free ++ chainN c) (by rw [List.length_append]; omega) hall
  have hdc := c_dec (made.length + 1) (by omega)
  have hdl := dec_len (made.length + 1)
  have hal : (free ++ chainN c).length ≤ csize c + (chainN c).length := by rw [List.length_append]; omega
  generalize hAll : free ++ chainN c = all at hall hwi hpa hal ⊢
  have hpt := ih (chainB c) w6 of all (made ++ [⟨fname of made.length, paramsR all, zCore⟩]) w2 hof hall (by omega) (by rw [List.length_append, List.length_singleton]; omega) (by omega)
  have hln := part_len of (chainB c) false (fun x => decide (x ∈ all)) (made ++ [⟨fname of made.length, paramsR all, zCore⟩])
  rw [List.length_append, List.length_singleton] at hln
  generalize partR of false (chainB c) (fun x => decide (x ∈ all)) (made ++ [⟨fname of made.length, paramsR all, zCore⟩]) = r at hpt hln ⊢
  obtain ⟨y, hy⟩ := get_of_lt (show made.length < r.2.length by omega)
  have hy' := getEnc encSup hy
  have hset := setBody_set r.1 r.2 made.length y hy
  have hset' : r.2.length = (setBody r.2 made.length r.1).length := (setBody_len _ _ _).symm
  refine impC (n := 193) tok Tryd.func24 rfl rfl rfl ?_
  refine awp_seq (ag [] rfl ?_)
  refine awp_seq (awp_seq (ag [] rfl ?_))
  refine awp_cond rfl (fun _ => ?_) (fun hb => by have := of_decide_eq_false hb; exact absurd hf this)
  refine awp_seq (awp_rg mixed ?_)
  refine ak 2 [] rfl ?_
  refine kc hfr ?_
  refine ak 1 [] rfl ?_
  refine az ?_
  refine awp_seq (ag [(1, .pc (.tup [strsV (chainN c), .pa (encCore (chainB c))]))] rfl ?_)
  refine awp_seq (ag [(2, .pc (strsV all))] rfl ?_)
  refine awp_seq (ag [] rfl ?_)
  refine awp_seq (agN [(4, .pc (Go.AM.T (dec (made.length + 1))))] rfl ?_)
  refine awp_seq (ag [(3, .pc (strsV (paramsR all)))] rfl ?_)
  have hmk : made.map encSup ++ [encSup (Sup.mk (fname of made.length) (paramsR all) zCore)] = (made ++ [Sup.mk (fname of made.length) (paramsR all) zCore]).map encSup := by rw [List.map_append]; rfl
  refine AWp.sub (st2 := mk [(1, Go.AM.T of), (3, madeV (made ++ [⟨fname of made.length, paramsR all, zCore⟩])), (8, .one (.vp 8 0)), (10, strsV free), (12, .one (.vp 12 0)), (13, strsV all), (14, I .i64 ((made.length : Nat) : Int)), (15, Go.AM.T (fname of made.length))] [(8, .var 38 zCells), (12, .var 38 (cellsC (chainB c))), (901, madeO (made ++ [⟨fname of made.length, paramsR all, zCore⟩]))]) sl ?_
  refine awp_seq (awp_rg mixed ?_)
  refine ak 4 [] rfl ?_
  refine kc hpt ?_
  refine ak 6 [] rfl ?_
  refine az ?_
  refine awp_seq (ag [(5, .row made.length (encSup y))] rfl ?_)
  refine awp_seq (ag [] rfl ?_)
  refine AWp.sub (vp 18 (encCore (varC (fname of made.length)))) ?_
  refine awp_seq (awp_seq (ag [] rfl ?_))
  have hkf : (free.map encS).length = free.length := List.length_map _
  refine awp_block ?_
  refine awp_loop (fun i : Nat => mk [(8, .one (.vp 8 0)), (10, strsV free), (17, madeV (setBody r.2 made.length r.1)), (18, .one (.vp 18 0)), (19, I .i64 i)] [(8, .var 38 zCells), (18, .var 38 (cellsC (appVars (varC (fname of made.length)) (free.take i)))), (901, madeO (setBody r.2 made.length r.1))]) (fun i => i ≤ free.length) (fun i => free.length - i) 0 (Nat.zero_le _) (by
    refine sl (he := ⟨rfl, rfl, ?_, rfl, rfl, trivial⟩) (hh := ⟨⟨_, rfl, .var rfl⟩, ⟨_, rfl, .var rfl⟩, ⟨_, rfl, .arrS hset.symm⟩, trivial⟩)
    exact Go.AM.hs_ren hset' hset') ?_
  intro i hi
  refine awp_seq (awp_seq (ag [] rfl ?_))
  refine awp_cond rfl (fun hb => ?_) (fun hb => ?_)
  · have hlt := ltD hb hkf
    obtain ⟨s, hs⟩ := get_of_lt hlt
    have hs' := getEnc encS hs
    refine awp_skip ?_
    refine awp_seq (awp_block ?_)
    refine ag [(3, .row i (encS s)), (6, .all)] rfl ?_
    refine ag [] rfl ?_
    refine ⟨i + 1, hlt, by dsimp only; omega, Sub.trans ?_ (vp 18 (encCore (appC (appVars (varC (fname of made.length)) (free.take i)) (varC s))))⟩
    dsimp only
    rw [take_step hs, appVars_snoc]
    exact sl
  have hge := geD hb hkf hi
  subst hge
  rw [List.take_length]
  refine awp_exit ?_
  refine awp_seq (ag [] rfl ?_)
  refine awp_ret ?_
  exact ⟨.inr rfl, ⟨_, _, .cell rfl (tg rfl) rfl rfl rfl (.tmp rfl .nil), .cons .refl (.cons .refl .nil), rfl⟩, ⟨⟨_, rfl, .arr⟩, trivial⟩, rfl⟩
end Go.Proofs.YtojcjjjpniimiaaDoor

/- CORE WITHOUT LAMBDAS (the reference of layer 25): the walk (3). -/
namespace Go.Proofs.YtojcjjjpniimiaaDoor
open Go Go.AM
set_option maxRecDepth 20000

theorem c_part_non (c : Core) (hf : c.form ≠ 5) (ih : ∀ x, csize x < csize c → PtSpec x) : PtSpec c := by
  intro of ar made hw hof har hsz hmd hln
  obtain ⟨f, n, s, t, ks, bs, al⟩ := c
  have hf : ¬ f = 5 := hf
  obtain ⟨ihk, ihb, iha, hkl, hbl, hal⟩ := @size_in f n s t ks bs al
  have hw' := hw
  simp only [wfR, Bool.and_eq_true] at hw'
  obtain ⟨_, hwk, hwb, hwa⟩ := hw'
  have hgi := c_gives (.mk f n s t ks bs al) (by omega)
  have hgl := gvs_len f s bs
  have hwi := c_with ar (gvs f s bs) (by omega)
  have hsz2 := hsz
  have hmd2 := hmd
  have hln2 := hln
  rw [csize] at hsz2 hmd2 hln2
  have hbl2 := bsizes_len bs
  have hins : Short (ar ++ gvs f s bs) := by
    intro x hx
    rcases List.mem_append.1 hx with hx | hx
    · exact har x hx
    · have := gvs_mem (n := n) (t := t) (ks := ks) (al := al) x hx; omega
  have hil : (ar ++ gvs f s bs).length ≤ ar.length + 1 + bs.length := by rw [List.length_append]; omega
  have hkB : (encBinds bs).length = bs.length := by rw [encBinds_map, List.length_map]
  have hkK : (encCores ks).length = ks.length := by rw [encCores_map, List.length_map]
  have hkA : (encAlts al).length = al.length := by rw [encAlts_map, List.length_map]
  rw [show partR of false (.mk f n s t ks bs al) (fun s => decide (s ∈ ar)) made = (let rb := partBs of bs (fun x => decide (x ∈ ar ++ gvs f s bs)) made; let rk := partCs of ks (fun x => decide (x ∈ ar ++ gvs f s bs)) rb.2; let ra := partAs of al (fun x => decide (x ∈ ar ++ gvs f s bs)) rk.2; (.mk f n s t rk.1 rb.1 ra.1, ra.2)) by rw [partR, if_neg hf, memG]]
  dsimp only
  refine impC (n := 193) tok Tryd.func24 rfl rfl rfl ?_
  refine awp_seq (ag [] rfl ?_)
  refine awp_seq (awp_seq (ag [] rfl ?_))
  refine awp_cond rfl (fun hb => absurd (of_decide_eq_true hb) hf) (fun _ => ?_)
  refine awp_skip ?_
  refine awp_seq (ag [(2, .pc (strsV (gvs f s bs))), (3, .pc (strsV (ar ++ gvs f s bs)))] rfl ?_)
  generalize ar ++ gvs f s bs = ins at hins hil ⊢
  generalize hAd : (fun x => decide (x ∈ ins)) = A
  refine awp_seq (ag [] rfl ?_)
  refine AWp.sub (Sub.own (t := 21) (id := 600) 46 15 rfl rfl) ?_
  refine awp_seq (awp_seq (ag [] rfl ?_))
  refine awp_block ?_
  refine awp_loop (fun i : Nat => mk [(1, Go.AM.T of), (3, madeV (partBs of (bs.take i) A made).2), (4, .one (.vp 4 0)), (8, .one (.vp 8 0)), (20, strsV ins), (21, .one (.hs 600 0 i i)), (22, I .i64 i)] [(4, .var 38 (cellsC (.mk f n s t ks bs al))), (8, .var 38 zCells), (600, .arr 46 15 ((partBs of (bs.take i) A made).1.map encBind) 0), (901, madeO (partBs of (bs.take i) A made).2)]) (fun i => i ≤ bs.length) (fun i => bs.length - i) 0 (Nat.zero_le _) (by rw [List.take_zero, partBs]; exact sl) ?_
  intro i hi
  have hct := partBs_count of A (bs.take i) made
  rw [List.length_take, Nat.min_eq_left hi] at hct
  refine awp_seq (awp_seq (ag [] rfl ?_))
  refine awp_cond rfl (fun hb => ?_) (fun hb => ?_)
  · have hlt := ltD hb hkB
    obtain ⟨b, hbi⟩ := get_of_lt hlt
    have hbi' := encBinds_at hbi
    have hst := partBs_app of A b (bs.take i) made
    rw [← take_step hbi] at hst
    have hml := partBs_len of (bs.take i) A made
    have h1 := bsizes_take_mem hbi
    have h3 : csize b.body + 1 ≤ bsize b := by obtain ⟨s', t', c'⟩ := b; rw [bsize]; show csize c' + 1 ≤ _; omega
    have h4 : 1 ≤ bsize b := by obtain ⟨s', t', c'⟩ := b; rw [bsize]; omega
    have hbl3 := bsizes_len (bs.take i)
    rw [List.length_take] at hbl3
    obtain ⟨hty, hwb1⟩ := wfBs_mem hwb b (List.mem_of_getElem? hbi)
    have hc := ih b.body (ihb b (List.mem_of_getElem? hbi)) of ins (partBs of (bs.take i) A made).2 hwb1 hof hins (by omega) (by omega) (by omega)
    rw [hAd] at hc
    generalize partBs of (bs.take i) A made = Mi at hct hst hml hc ⊢
    refine awp_skip ?_
    refine awp_seq (awp_block ?_)
    refine awp_seq (awp_rg mixed ?_)
    refine ak 9 [(3, .row i (encBind b))] rfl ?_
    refine kc hc ?_
    refine ak 6 [] rfl ?_
    refine az ?_
    refine awp_seq (ag [] rfl ?_)
    refine ag [(4, .row i (encBind b))] rfl ?_
    refine ag [] rfl ?_
    refine ⟨i + 1, hlt, by dsimp only; omega, ?_⟩
    dsimp only
    rw [hst]
    have hrows : Mi.1.map encBind ++ [encBind (Bind.mk b.name zTy (partR of false b.body A Mi.2).1)] = (Mi.1 ++ [Bind.mk b.name b.ty (partR of false b.body A Mi.2).1]).map encBind := by rw [hty, List.map_append]; rfl
    exact sl
  have hge := geD hb hkB hi
  subst hge
  rw [List.take_length] at hct ⊢
  have hbm := partBs_len of bs A made
  generalize partBs of bs A made = RB at hct hbm ⊢
  refine awp_exit ?_
  refine AWp.sub (Sub.freeze (id := 600) rfl) (AWp.sub (cv 21 (encBinds RB.1) (h3 := (encBinds_map _).symm)) ?_)
  refine awp_seq (ag [] rfl ?_)
  refine AWp.sub (Sub.own (t := 25) (id := 601) 38 10 rfl rfl) ?_
  refine awp_seq (awp_seq (ag [] rfl ?_))
  refine awp_block ?_
  refine awp_loop (fun i : Nat => mk [(1, Go.AM.T of), (3, madeV (partCs of (ks.take i) A RB.2).2), (4, .one (.vp 4 0)), (8, .one (.vp 8 0)), (20, strsV ins), (21, .one (.c (.sl 15 (encBinds RB.1)))), (25, .one (.hs 601 0 i i)), (26, I .i64 i)] [(4, .var 38 (cellsC (.mk f n s t ks bs al))), (8, .var 38 zCells), (601, .arr 38 10 ((partCs of (ks.take i) A RB.2).1.map encCore) 0), (901, madeO (partCs of (ks.take i) A RB.2).2)]) (fun i => i ≤ ks.length) (fun i => ks.length - i) 0 (Nat.zero_le _) (by rw [List.take_zero, partCs]; exact sl) ?_
  intro i hi
  have hct2 := partCs_count of A (ks.take i) RB.2
  rw [List.length_take, Nat.min_eq_left hi] at hct2
  refine awp_seq (awp_seq (ag [] rfl ?_))
  refine awp_cond rfl (fun hb => ?_) (fun hb => ?_)
  · have hlt := ltD hb hkK
    obtain ⟨k, hki⟩ := get_of_lt hlt
    have hki' := encCores_at hki
    have hst := partCs_app of A k (ks.take i) RB.2
    rw [← take_step hki] at hst
    have hml := partCs_len of (ks.take i) A RB.2
    have h1 := csizes_take_mem hki
    have hwk1 := wfCs_mem hwk k (List.mem_of_getElem? hki)
    have hc := ih k (ihk k (List.mem_of_getElem? hki)) of ins (partCs of (ks.take i) A RB.2).2 hwk1 hof hins (by omega) (by omega) (by omega)
    rw [hAd] at hc
    generalize partCs of (ks.take i) A RB.2 = Mi at hct2 hst hml hc ⊢
    refine awp_skip ?_
    refine awp_seq (awp_block ?_)
    refine awp_seq (awp_rg mixed ?_)
    refine ak 8 [(3, .row i (encCore k))] rfl ?_
    refine kc hc ?_
    refine ak 6 [] rfl ?_
    refine az ?_
    refine awp_seq (ag [] rfl ?_)
    refine ag [] rfl ?_
    refine ag [] rfl ?_
    refine ⟨i + 1, hlt, by dsimp only; omega, ?_⟩
    dsimp only
    rw [hst]
    have hrows : Mi.1.map encCore ++ [encCore (partR of false k A Mi.2).1] = (Mi.1 ++ [(partR of false k A Mi.2).1]).map encCore := by rw [List.map_append]; rfl
    exact sl
  have hge := geD hb hkK hi
  subst hge
  rw [List.take_length] at hct2 ⊢
  have hkm := partCs_len of ks A RB.2
  generalize partCs of ks A RB.2 = RK at hct2 hkm ⊢
  refine awp_exit ?_
  refine AWp.sub (Sub.freeze (id := 601) rfl) (AWp.sub (cv 25 (encCores RK.1) (h3 := (encCores_map _).symm)) ?_)
  refine awp_seq (ag [] rfl ?_)
  refine AWp.sub (Sub.own (t := 29) (id := 602) 69 14 rfl rfl) ?_
  refine awp_seq (awp_seq (ag [] rfl ?_))
  refine awp_block ?_
  refine awp_loop (fun i : Nat => mk [(1, Go.AM.T of), (3, madeV (partAs of (al.take i) A RK.2).2), (4, .one (.vp 4 0)), (8, .one (.vp 8 0)), (20, strsV ins), (21, .one (.c (.sl 15 (encBinds RB.1)))), (25, .one (.c (.sl 10 (encCores RK.1)))), (29, .one (.hs 602 0 i i)), (30, I .i64 i)] [(4, .var 38 (cellsC (.mk f n s t ks bs al))), (8, .var 38 zCells), (602, .arr 69 14 ((partAs of (al.take i) A RK.2).1.map encAlt) 0), (901, madeO (partAs of (al.take i) A RK.2).2)]) (fun i => i ≤ al.length) (fun i => al.length - i) 0 (Nat.zero_le _) (by rw [List.take_zero, partAs]; exact sl) ?_
  intro i hi
  have hct3 := partAs_count of A (al.take i) RK.2
  rw [List.length_take, Nat.min_eq_left hi] at hct3
  refine awp_seq (awp_seq (ag [] rfl ?_))
  refine awp_cond rfl (fun hb => ?_) (fun hb => ?_)
  · have hlt := ltD hb hkA
    obtain ⟨a, hai⟩ := get_of_lt hlt
    have hai' := encAlts_at hai
    have hst := partAs_app of A a (al.take i) RK.2
    rw [← take_step hai] at hst
    have hml := partAs_len of (al.take i) A RK.2
    have h1 := asizes_take_mem hai
    have h3 : csize a.body + (a.vars.map fun v => 1 + v.length).sum ≤ asize a := by obtain ⟨f', n', s', v', c'⟩ := a; rw [asize]; show csize c' + (v'.map fun v => 1 + v.length).sum ≤ _; omega
    have h4 := vsum_len a.vars
    have hwa1 := wfAs_mem hwa a (List.mem_of_getElem? hai)
    have hins2 : Short (ins ++ a.vars) := by
      intro x hx
      rcases List.mem_append.1 hx with hx | hx
      · exact hins x hx
      · have := vsum_mem hx; omega
    have hc := ih a.body (iha a (List.mem_of_getElem? hai)) of (ins ++ a.vars) (partAs of (al.take i) A RK.2).2 hwa1 hof hins2 (by omega) (by omega) (by rw [List.length_append]; omega)
    have hwa2 := c_with ins a.vars (by omega)
    rw [memG, hAd] at hc
    generalize partAs of (al.take i) A RK.2 = Mi at hct3 hst hml hc ⊢
    obtain ⟨f', n', s', v', c'⟩ := a
    refine awp_skip ?_
    refine awp_seq (awp_block ?_)
    refine awp_seq (ag [(3, .row i (encAlt (.mk f' n' s' v' c')))] rfl ?_)
    refine awp_seq (awp_rg mixed ?_)
    refine ak 8 [(6, .pc (strsV (ins ++ v')))] rfl ?_
    refine kc hc ?_
    refine ak 6 [] rfl ?_
    refine az ?_
    refine awp_seq (ag [] rfl ?_)
    refine awp_seq (ag [] rfl ?_)
    refine ag [] rfl ?_
    refine ag [] rfl ?_
    refine ⟨i + 1, hlt, by dsimp only; omega, ?_⟩
    dsimp only
    rw [hst]
    have hrows : Mi.1.map encAlt ++ [encAlt (Alt.mk f' n' s' v' (partR of false c' (ext A v') Mi.2).1)] = (Mi.1 ++ [Alt.mk f' n' s' v' (partR of false c' (ext A v') Mi.2).1]).map encAlt := by rw [List.map_append]; rfl
    exact sl
  have hge := geD hb hkA hi
  subst hge
  rw [List.take_length] at hct3 ⊢
  generalize partAs of al A RK.2 = RA at hct3 ⊢
  refine awp_exit ?_
  refine AWp.sub (Sub.freeze (id := 602) rfl) (AWp.sub (cv 29 (encAlts RA.1) (h3 := (encAlts_map _).symm)) ?_)
  refine awp_seq (ag [] rfl ?_)
  refine awp_seq (ag [] rfl ?_)
  refine awp_seq (ag [] rfl ?_)
  refine awp_seq (ag [] rfl ?_)
  refine awp_ret ?_
  exact ⟨.inr rfl, ⟨_, _, .cell rfl (tg rfl) rfl rfl rfl (.tmp rfl .nil), .cons .refl (.cons .refl .nil), rfl⟩, ⟨⟨_, rfl, .arr⟩, trivial⟩, rfl⟩
theorem c_part : ∀ (n : Nat) (c : Core), csize c ≤ n → PtSpec c
  | 0, c, h => by have := csize_pos c; omega
  | n + 1, c, h => by
    by_cases hf : c.form = 5
    · exact c_part_lam c hf fun x hx => c_part n x (by omega)
    · exact c_part_non c hf fun x hx => c_part n x (by omega)
end Go.Proofs.YtojcjjjpniimiaaDoor

/- WHAT FITS (the reference of layer 25): the walk. -/
namespace Go.Proofs.YtojcjjjpniimiaaDoor
open Go Go.AM
set_option maxRecDepth 20000

theorem all_step {α : Type} (p : α → Bool) {l : List α} {i : Nat} {x : α} (h : l[i]? = some x) : (l.take (i + 1)).all p = ((l.take i).all p && p x) := by
  rw [take_step h, List.all_append]; simp
theorem all_false {α : Type} {p : α → Bool} {l : List α} {x : α} (h : x ∈ l) (hp : p x = false) : l.all p = false := by
  cases hl : l.all p with
  | false => rfl
  | true => have := List.all_eq_true.1 hl x h; rw [hp] at this; cases this
def FtSpec (c : Core) : Prop := ∀ ns : List Str, csize c ≤ 400000 → ns.length + csize c ≤ 1000000 → ImpC Tryd.prog 39 [.pa (encCore c), strsV ns] [] (B (fitsR c (fun s => decide (s ∈ ns)))) []
theorem bsize_body (b : Bind) : csize b.body + 1 ≤ bsize b := by obtain ⟨s', t', c'⟩ := b; rw [bsize]; show csize c' + 1 ≤ _; omega
theorem asize_body (a : Alt) : csize a.body + 1 + (a.vars.map fun v => 1 + v.length).sum ≤ asize a := by obtain ⟨f', n', s', v', c'⟩ := a; rw [asize]; show csize c' + 1 + (v'.map fun v => 1 + v.length).sum ≤ _; omega

theorem c_fits_step (c : Core) (ih : ∀ x, csize x < csize c → FtSpec x) : FtSpec c := by
  intro ns hsz hln
  obtain ⟨f, n, s, t, ks, bs, al⟩ := c
  obtain ⟨ihk, ihb, iha, hkl, hbl, hal⟩ := @size_in f n s t ks bs al
  have hh := c_has ns s (by unfold Fits; omega)
  have hgi := c_gives (.mk f n s t ks bs al) (by omega)
  have hgl := gvs_len f s bs
  have hwi := c_with ns (gvs f s bs) (by omega)
  have hsz2 := hsz
  have hln2 := hln
  rw [csize] at hsz2 hln2
  have hbl2 := bsizes_len bs
  have hil : (ns ++ gvs f s bs).length ≤ ns.length + 1 + bs.length := by rw [List.length_append]; omega
  have hkB : (encBinds bs).length = bs.length := by rw [encBinds_map, List.length_map]
  have hkK : (encCores ks).length = ks.length := by rw [encCores_map, List.length_map]
  have hkA : (encAlts al).length = al.length := by rw [encAlts_map, List.length_map]
  refine impC (n := 109) tok Tryd.func39 rfl rfl rfl ?_
  refine awp_seq (ag [] rfl ?_)
  refine awp_seq (awp_seq (agF 4 [] rfl rfl rfl ?_))
  refine awp_cond rfl (fun hb => ?_) (fun hb => ?_)
  · have h0 : f = 5 ∨ f = 7 ∨ f = 6 ∨ t.form ≠ 0 := by
      by_cases a : f = 5
      · exact .inl a
      by_cases b : f = 7
      · exact .inr (.inl b)
      by_cases d : f = 6
      · exact .inr (.inr (.inl d))
      by_cases e : t.form = 0
      · simp [Core.form, Core.ty, a, b, d, e] at hb
      · exact .inr (.inr (.inr e))
    rw [show fitsR (.mk f n s t ks bs al) (fun s => decide (s ∈ ns)) = false by rw [fitsR, if_pos h0]]
    refine awp_seq (ag [] rfl ?_)
    exact awp_ret (rtT (hc := .refl))
  have h0 : ¬ (f = 5 ∨ f = 7 ∨ f = 6 ∨ t.form ≠ 0) := by
    intro h
    by_cases a : f = 5
    · simp [Core.form, Core.ty, a] at hb
    by_cases b : f = 7
    · simp [Core.form, Core.ty, b] at hb
    by_cases d : f = 6
    · simp [Core.form, Core.ty, d] at hb
    by_cases e : t.form = 0
    · omega
    · simp [Core.form, Core.ty, a, b, d, e] at hb
  refine awp_skip ?_
  refine awp_seq (awp_seq (ag [] rfl ?_))
  refine awp_cond rfl (fun hb => ?_) (fun hb => ?_)
  · have h1 : f = 1 := of_decide_eq_true hb
    rw [show fitsR (.mk f n s t ks bs al) (fun s => decide (s ∈ ns)) = decide (s ∈ ns) by rw [fitsR, if_neg h0, if_pos h1]]
    refine awp_seq (ag [(3, .pc (B (decide (s ∈ ns))))] rfl ?_)
    exact awp_ret (rtT (hc := .refl))
  have h1 : ¬ f = 1 := of_decide_eq_false hb
  rw [show fitsR (.mk f n s t ks bs al) (fun s => decide (s ∈ ns)) = (fitsBs bs (fun x => decide (x ∈ ns ++ gvs f s bs)) && (fitsCs ks (fun x => decide (x ∈ ns ++ gvs f s bs)) && fitsAs al (fun x => decide (x ∈ ns ++ gvs f s bs)))) by rw [fitsR, if_neg h0, if_neg h1, memG]]
  refine awp_skip ?_
  refine awp_seq (ag [(2, .pc (strsV (gvs f s bs))), (3, .pc (strsV (ns ++ gvs f s bs)))] rfl ?_)
  generalize ns ++ gvs f s bs = ins at hil ⊢
  generalize hAd : (fun x => decide (x ∈ ins)) = A
  rw [fitsBs_all, fitsCs_all, fitsAs_all]
  refine awp_seq (awp_seq (ag [] rfl ?_))
  refine awp_block ?_
  refine awp_loop (fun i : Nat => mk [(2, .one (.vp 2 0)), (5, strsV ins), (6, I .i64 i)] [(2, .var 38 (cellsC (.mk f n s t ks bs al)))]) (fun i => i ≤ bs.length ∧ (bs.take i).all (fun c => fitsR c.body A && decide (c.ty.form = 0)) = true) (fun i => bs.length - i) 0 ⟨Nat.zero_le _, rfl⟩ sl ?_
  intro i ⟨hi, hall⟩
  refine awp_seq (awp_seq (ag [] rfl ?_))
  refine awp_cond rfl (fun hb => ?_) (fun hb => ?_)
  · have hlt := ltD hb hkB
    obtain ⟨b, hbi⟩ := get_of_lt hlt
    have hbi' := encBinds_at hbi
    have h2 := bsizes_take_mem hbi
    have h3 := bsize_body b
    have hbl3 := bsizes_len (bs.take i)
    rw [List.length_take] at hbl3
    have hc := ih b.body (ihb b (List.mem_of_getElem? hbi)) ins (by omega) (by omega)
    rw [hAd] at hc
    have hst := all_step (fun c : Bind => fitsR c.body A && decide (c.ty.form = 0)) hbi
    refine awp_skip ?_
    refine awp_seq (awp_block ?_)
    refine awp_seq (ag [(3, .row i (encBind b)), (7, .pc (B (fitsR b.body A)))] rfl ?_)
    refine awp_seq (agF 3 [(6, .row i (encBind b))] rfl rfl rfl ?_)
    refine awp_cond rfl (fun hb => ?_) (fun hb => ?_)
    · have hp : (fitsR b.body A && decide (b.ty.form = 0)) = false := by
        cases h5 : fitsR b.body A
        · rfl
        · simp [h5] at hb
          simp [hb]
      rw [all_false (p := fun c : Bind => fitsR c.body A && decide (c.ty.form = 0)) (List.mem_of_getElem? hbi) hp, Bool.false_and]
      refine awp_seq (ag [] rfl ?_)
      exact awp_ret (rtT (hc := .refl))
    · have hp : (fitsR b.body A && decide (b.ty.form = 0)) = true := by
        cases h5 : fitsR b.body A
        · simp [h5] at hb
        · simp [h5] at hb
          simp [hb]
      refine awp_skip ?_
      refine ag [] rfl ?_
      exact ⟨i + 1, ⟨hlt, by rw [hst, hall, hp]; rfl⟩, by dsimp only; omega, sl⟩
  have hge := geD hb hkB hi
  subst hge
  rw [List.take_length] at hall
  rw [hall, Bool.true_and]
  refine awp_exit ?_
  refine awp_seq (awp_seq (ag [] rfl ?_))
  refine awp_block ?_
  refine awp_loop (fun i : Nat => mk [(2, .one (.vp 2 0)), (5, strsV ins), (8, I .i64 i)] [(2, .var 38 (cellsC (.mk f n s t ks bs al)))]) (fun i => i ≤ ks.length ∧ (ks.take i).all (fun c => fitsR c A) = true) (fun i => ks.length - i) 0 ⟨Nat.zero_le _, rfl⟩ sl ?_
  intro i ⟨hi, hall⟩
  refine awp_seq (awp_seq (ag [] rfl ?_))
  refine awp_cond rfl (fun hb => ?_) (fun hb => ?_)
  · have hlt := ltD hb hkK
    obtain ⟨k, hki⟩ := get_of_lt hlt
    have hki' := encCores_at hki
    have h2 := csizes_take_mem hki
    have hc := ih k (ihk k (List.mem_of_getElem? hki)) ins (by omega) (by omega)
    rw [hAd] at hc
    have hst := all_step (fun c : Core => fitsR c A) hki
    refine awp_skip ?_
    refine awp_seq (awp_block ?_)
    refine awp_seq (ag [(3, .row i (encCore k)), (6, .pc (B (fitsR k A)))] rfl ?_)
    refine awp_seq (ag [] rfl ?_)
    refine awp_cond rfl (fun hb => ?_) (fun hb => ?_)
    · have hp : fitsR k A = false := by simpa using hb
      rw [all_false (p := fun c : Core => fitsR c A) (List.mem_of_getElem? hki) hp, Bool.false_and]
      refine awp_seq (ag [] rfl ?_)
      exact awp_ret (rtT (hc := .refl))
    · have hp : fitsR k A = true := by simpa using hb
      refine awp_skip ?_
      refine ag [] rfl ?_
      exact ⟨i + 1, ⟨hlt, by rw [hst, hall, hp]; rfl⟩, by dsimp only; omega, sl⟩
  have hge := geD hb hkK hi
  subst hge
  rw [List.take_length] at hall
  rw [hall, Bool.true_and]
  refine awp_exit ?_
  refine awp_seq (awp_seq (ag [] rfl ?_))
  refine awp_block ?_
  refine awp_loop (fun i : Nat => mk [(2, .one (.vp 2 0)), (5, strsV ins), (10, I .i64 i)] [(2, .var 38 (cellsC (.mk f n s t ks bs al)))]) (fun i => i ≤ al.length ∧ (al.take i).all (fun c => fitsR c.body (ext A c.vars)) = true) (fun i => al.length - i) 0 ⟨Nat.zero_le _, rfl⟩ sl ?_
  intro i ⟨hi, hall⟩
  refine awp_seq (awp_seq (ag [] rfl ?_))
  refine awp_cond rfl (fun hb => ?_) (fun hb => ?_)
  · have hlt := ltD hb hkA
    obtain ⟨a, hai⟩ := get_of_lt hlt
    have hai' := encAlts_at hai
    have h2 := asizes_take_mem hai
    have h3 := asize_body a
    have h4 := vsum_len a.vars
    have hc := ih a.body (iha a (List.mem_of_getElem? hai)) (ins ++ a.vars) (by omega) (by rw [List.length_append]; omega)
    have hw := c_with ins a.vars (by omega)
    rw [memG, hAd] at hc
    have hst := all_step (fun c : Alt => fitsR c.body (ext A c.vars)) hai
    refine awp_skip ?_
    refine awp_seq (awp_block ?_)
    refine awp_seq (ag [(3, .row i (encAlt a)), (10, .row i (encAlt a)), (13, .pc (strsV (ins ++ a.vars))), (14, .pc (B (fitsR a.body (ext A a.vars))))] rfl ?_)
    refine awp_seq (ag [] rfl ?_)
    refine awp_cond rfl (fun hb => ?_) (fun hb => ?_)
    · have hp : fitsR a.body (ext A a.vars) = false := by simpa using hb
      rw [all_false (p := fun c : Alt => fitsR c.body (ext A c.vars)) (List.mem_of_getElem? hai) hp]
      refine awp_seq (ag [] rfl ?_)
      exact awp_ret (rtT (hc := .refl))
    · have hp : fitsR a.body (ext A a.vars) = true := by simpa using hb
      refine awp_skip ?_
      refine ag [] rfl ?_
      exact ⟨i + 1, ⟨hlt, by rw [hst, hall, hp]; rfl⟩, by dsimp only; omega, sl⟩
  have hge := geD hb hkA hi
  subst hge
  rw [List.take_length] at hall
  rw [hall]
  refine awp_exit ?_
  refine awp_seq (ag [] rfl ?_)
  exact awp_ret (rtT (hc := .refl))
theorem c_fits : ∀ (n : Nat) (c : Core), csize c ≤ n → FtSpec c
  | 0, c, h => by have := csize_pos c; omega
  | n + 1, c, h => c_fits_step c fun x hx => c_fits n x (by omega)
end Go.Proofs.YtojcjjjpniimiaaDoor
