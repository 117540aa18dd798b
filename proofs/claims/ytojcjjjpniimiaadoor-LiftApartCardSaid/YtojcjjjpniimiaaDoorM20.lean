/-
  Texts Ln27, Ln28, Ln29, Ln30, Ln31 in one.
-/
import Derived.Test.YtojcjjjpniimiaaDoorM19
/- HOW MANY LAMBDAS there are, and which names: what keeps numbers small. -/
namespace Go.Proofs.YtojcjjjpniimiaaDoor
open Go Go.AM
set_option maxRecDepth 20000

mutual
def lamsN : Core → Nat
  | .mk f _ _ _ ks bs al => (if f = 5 then 1 else 0) + lamsCs ks + lamsBs bs + lamsAs al
def lamsCs : List Core → Nat
  | [] => 0
  | c :: l => lamsN c + lamsCs l
def lamsBs : List Bind → Nat
  | [] => 0
  | .mk _ _ c :: l => lamsN c + lamsBs l
def lamsAs : List Alt → Nat
  | [] => 0
  | .mk _ _ _ _ c :: l => lamsN c + lamsAs l
end
theorem lamsCs_at : ∀ {l : List Core} {i : Nat} {c : Core}, l[i]? = some c → lamsCs (l.take i) + lamsN c ≤ lamsCs l
  | d :: l, 0, c, h => by simp at h; subst h; rw [List.take_zero, lamsCs, lamsCs]; omega
  | d :: l, i + 1, c, h => by
    have := lamsCs_at (l := l) (i := i) (c := c) (by simpa using h)
    rw [List.take_succ_cons, lamsCs, lamsCs]; omega
theorem lamsBs_at : ∀ {l : List Bind} {i : Nat} {c : Bind}, l[i]? = some c → lamsBs (l.take i) + lamsN c.body ≤ lamsBs l
  | .mk s t d :: l, 0, c, h => by simp at h; subst h; rw [List.take_zero, lamsBs, lamsBs]; show 0 + lamsN d ≤ _; omega
  | .mk s t d :: l, i + 1, c, h => by
    have := lamsBs_at (l := l) (i := i) (c := c) (by simpa using h)
    rw [List.take_succ_cons, lamsBs, lamsBs]; omega
theorem lamsAs_at : ∀ {l : List Alt} {i : Nat} {c : Alt}, l[i]? = some c → lamsAs (l.take i) + lamsN c.body ≤ lamsAs l
  | .mk f n s v d :: l, 0, c, h => by simp at h; subst h; rw [List.take_zero, lamsAs, lamsAs]; show 0 + lamsN d ≤ _; omega
  | .mk f n s v d :: l, i + 1, c, h => by
    have := lamsAs_at (l := l) (i := i) (c := c) (by simpa using h)
    rw [List.take_succ_cons, lamsAs, lamsAs]; omega
theorem lamsCs_le : ∀ (l : List Core) (i : Nat), lamsCs (l.take i) ≤ lamsCs l
  | [], i => by simp
  | c :: l, 0 => by rw [List.take_zero, lamsCs]; exact Nat.zero_le _
  | c :: l, i + 1 => by rw [List.take_succ_cons, lamsCs, lamsCs]; have := lamsCs_le l i; omega
theorem lamsBs_le : ∀ (l : List Bind) (i : Nat), lamsBs (l.take i) ≤ lamsBs l
  | [], i => by simp
  | c :: l, 0 => by rw [List.take_zero, lamsBs]; exact Nat.zero_le _
  | .mk s t c :: l, i + 1 => by rw [List.take_succ_cons, lamsBs, lamsBs]; have := lamsBs_le l i; omega
theorem lamsAs_le : ∀ (l : List Alt) (i : Nat), lamsAs (l.take i) ≤ lamsAs l
  | [], i => by simp
  | c :: l, 0 => by rw [List.take_zero, lamsAs]; exact Nat.zero_le _
  | .mk f n s v c :: l, i + 1 => by rw [List.take_succ_cons, lamsAs, lamsAs]; have := lamsAs_le l i; omega
mutual
theorem part_few (of : Str) : ∀ (c : Core) (ch : Bool) (A : Str → Bool) (made : List Sup), (partR of ch c A made).2.length ≤ made.length + lamsN c
  | .mk f n s t ks bs al, ch, A, made => by
    rw [partR, lamsN]
    split
    · split
      · have := partK_few of ks A made; omega
      · have hp := partK_few of ks (fun x => decide (x ∈ freeR A (.mk f n s t ks bs al) (fun _ => false) [] ++ (s :: chainNs ks))) (made ++ [⟨fname of made.length, paramsR (freeR A (.mk f n s t ks bs al) (fun _ => false) [] ++ (s :: chainNs ks)), zCore⟩])
        rw [List.length_append, List.length_singleton] at hp
        dsimp only
        rw [setBody_len]
        omega
    · have h1 := partBs_few of bs (ext A (gvs f s bs)) made
      have h2 := partCs_few of ks (ext A (gvs f s bs)) (partBs of bs (ext A (gvs f s bs)) made).2
      have h3 := partAs_few of al (ext A (gvs f s bs)) (partCs of ks (ext A (gvs f s bs)) (partBs of bs (ext A (gvs f s bs)) made).2).2
      dsimp only
      omega
theorem partK_few (of : Str) : ∀ (l : List Core) (A : Str → Bool) (made : List Sup), (partK of l A made).2.length ≤ made.length + lamsCs l
  | [], _, made => by rw [partK]; exact Nat.le_add_right _ _
  | c :: l, A, made => by
    rw [partK, lamsCs]
    have := part_few of c true A made
    omega
theorem partCs_few (of : Str) : ∀ (l : List Core) (A : Str → Bool) (made : List Sup), (partCs of l A made).2.length ≤ made.length + lamsCs l
  | [], _, made => by rw [partCs]; exact Nat.le_add_right _ _
  | c :: l, A, made => by
    rw [partCs, lamsCs]
    have h1 := part_few of c false A made
    have h2 := partCs_few of l A (partR of false c A made).2
    dsimp only
    omega
theorem partBs_few (of : Str) : ∀ (l : List Bind) (A : Str → Bool) (made : List Sup), (partBs of l A made).2.length ≤ made.length + lamsBs l
  | [], _, made => by rw [partBs]; exact Nat.le_add_right _ _
  | .mk s t c :: l, A, made => by
    rw [partBs, lamsBs]
    have h1 := part_few of c false A made
    have h2 := partBs_few of l A (partR of false c A made).2
    dsimp only
    omega
theorem partAs_few (of : Str) : ∀ (l : List Alt) (A : Str → Bool) (made : List Sup), (partAs of l A made).2.length ≤ made.length + lamsAs l
  | [], _, made => by rw [partAs]; exact Nat.le_add_right _ _
  | .mk f n s vs c :: l, A, made => by
    rw [partAs, lamsAs]
    have h1 := part_few of c false (ext A vs) made
    have h2 := partAs_few of l A (partR of false c (ext A vs) made).2
    dsimp only
    omega
end
mutual
/-- Names are some. -/
def nmR : Core → Bool
  | .mk f _ s _ ks bs al => (if f = 5 then decide (s ∈ nm6) else true) && (nmCs ks && (nmBs bs && nmAs al))
def nmCs : List Core → Bool
  | [] => true
  | c :: l => nmR c && nmCs l
def nmBs : List Bind → Bool
  | [] => true
  | .mk s _ c :: l => (decide (s ∈ nm6) && nmR c) && nmBs l
def nmAs : List Alt → Bool
  | [] => true
  | .mk _ _ _ v c :: l => (v.all (fun s => decide (s ∈ nm6)) && nmR c) && nmAs l
end
theorem nmCs_mem : ∀ {l : List Core}, nmCs l = true → ∀ x ∈ l, nmR x = true
  | c :: l, h, x, hx => by
    rw [nmCs, Bool.and_eq_true] at h
    rcases List.mem_cons.1 hx with rfl | hx
    · exact h.1
    · exact nmCs_mem h.2 x hx
theorem nmBs_mem : ∀ {l : List Bind}, nmBs l = true → ∀ x ∈ l, x.name ∈ nm6 ∧ nmR x.body = true
  | .mk s t c :: l, h, x, hx => by
    simp only [nmBs, Bool.and_eq_true] at h
    rcases List.mem_cons.1 hx with rfl | hx
    · exact ⟨of_decide_eq_true h.1.1, h.1.2⟩
    · exact nmBs_mem h.2 x hx
theorem nmAs_mem : ∀ {l : List Alt}, nmAs l = true → ∀ x ∈ l, (∀ s ∈ x.vars, s ∈ nm6) ∧ nmR x.body = true
  | .mk f n s v c :: l, h, x, hx => by
    simp only [nmAs, Bool.and_eq_true] at h
    rcases List.mem_cons.1 hx with rfl | hx
    · exact ⟨fun u hu => of_decide_eq_true (List.all_eq_true.1 h.1.1 u hu), h.1.2⟩
    · exact nmAs_mem h.2 x hx
theorem nm_gvs {f n : Int} {s : Str} {t : Ty} {ks : List Core} {bs : List Bind} {al : List Alt} (h : nmR (.mk f n s t ks bs al) = true) : ∀ x ∈ gvs f s bs, x ∈ nm6 := by
  simp only [nmR, Bool.and_eq_true] at h
  intro x hx
  rcases List.mem_append.1 hx with hx | hx
  · split at hx
    · rename_i hf
      rw [if_pos hf] at h
      simp only [List.mem_singleton] at hx
      subst hx
      exact of_decide_eq_true h.1
    · simp at hx
  · obtain ⟨b, hb, rfl⟩ := List.mem_map.1 hx
    exact (nmBs_mem h.2.2.1 b hb).1
theorem nm_chain : ∀ (m : Nat) (c : Core), csize c ≤ m → wfR c = true → nmR c = true → (∀ s ∈ chainN c, s ∈ nm6) ∧ nmR (chainB c) = true ∧ (chainN c).length + lamsN (chainB c) ≤ lamsN c := by
  intro m
  induction m with
  | zero => intro c hc; have := csize_pos c; omega
  | succ m ih =>
    intro c hc hw h
    obtain ⟨f, n, s, t, ks, bs, al⟩ := c
    have hn := h
    simp only [wfR, Bool.and_eq_true] at hw
    simp only [nmR, Bool.and_eq_true] at hn
    by_cases hf : f = 5
    · cases ks with
      | nil => simp [hf] at hw
      | cons k ks =>
        rw [csize, csizes] at hc
        have hk := hw.2.1
        rw [wfCs, Bool.and_eq_true] at hk
        have hk2 := hn.2.1
        rw [nmCs, Bool.and_eq_true] at hk2
        obtain ⟨h1, h2, h3⟩ := ih k (by omega) hk.1 hk2.1
        rw [if_pos hf] at hn
        rw [chainN, chainB, if_pos hf, if_pos hf, chainNs, chainBs, lamsN, lamsCs, if_pos hf, List.length_cons]
        refine ⟨fun x hx => ?_, h2, by omega⟩
        rcases List.mem_cons.1 hx with rfl | hx
        · exact of_decide_eq_true hn.1
        · exact h1 x hx
    · rw [chainN, chainB, if_neg hf, if_neg hf]
      exact ⟨by simp, h, by simp⟩
theorem lams_chain : ∀ (m : Nat) (c : Core), csize c ≤ m → wfR c = true → (chainN c).length + lamsN (chainB c) ≤ lamsN c := by
  intro m
  induction m with
  | zero => intro c hc; have := csize_pos c; omega
  | succ m ih =>
    intro c hc hw
    obtain ⟨f, n, s, t, ks, bs, al⟩ := c
    simp only [wfR, Bool.and_eq_true] at hw
    by_cases hf : f = 5
    · cases ks with
      | nil => simp [hf] at hw
      | cons k ks =>
        rw [csize, csizes] at hc
        have hk := hw.2.1
        rw [wfCs, Bool.and_eq_true] at hk
        have h3 := ih k (by omega) hk.1
        rw [chainN, chainB, if_pos hf, if_pos hf, chainNs, chainBs, lamsN, lamsCs, if_pos hf, List.length_cons]
        omega
    · rw [chainN, chainB, if_neg hf, if_neg hf]
      simp
mutual
theorem freeR_once (A : Str → Bool) : ∀ (c : Core) (G : Str → Bool) (out : List Str), out.Nodup → (freeR A c G out).Nodup
  | .mk f _ x _ ks bs al, G, out, h => by
    rw [freeR]
    split
    · split
      · rename_i hc
        simp only [Bool.and_eq_true, Bool.not_eq_true', decide_eq_false_iff_not] at hc
        rw [List.nodup_append]
        exact ⟨h, by simp, fun a ha b hb e => by simp only [List.mem_singleton] at hb; subst hb; subst e; exact hc.2 ha⟩
      · exact h
    · exact freeAs_once A al _ _ (freeCs_once A ks _ _ (freeBs_once A bs _ _ h))
theorem freeCs_once (A : Str → Bool) : ∀ (l : List Core) (G : Str → Bool) (out : List Str), out.Nodup → (freeCs A l G out).Nodup
  | [], _, _, h => by rw [freeCs]; exact h
  | c :: l, G, out, h => by rw [freeCs]; exact freeCs_once A l _ _ (freeR_once A c _ _ h)
theorem freeBs_once (A : Str → Bool) : ∀ (l : List Bind) (G : Str → Bool) (out : List Str), out.Nodup → (freeBs A l G out).Nodup
  | [], _, _, h => by rw [freeBs]; exact h
  | .mk _ _ c :: l, G, out, h => by rw [freeBs]; exact freeBs_once A l _ _ (freeR_once A c _ _ h)
theorem freeAs_once (A : Str → Bool) : ∀ (l : List Alt) (G : Str → Bool) (out : List Str), out.Nodup → (freeAs A l G out).Nodup
  | [], _, _, h => by rw [freeAs]; exact h
  | .mk _ _ _ vs c :: l, G, out, h => by rw [freeAs]; exact freeAs_once A l _ _ (freeR_once A c _ _ h)
end
theorem nodup_len : ∀ (N l : List Str), l.Nodup → (∀ x ∈ l, x ∈ N) → l.length ≤ N.length
  | [], l, _, h => by
    cases l with
    | nil => simp
    | cons x l => have := h x List.mem_cons_self; simp at this
  | y :: N, l, hn, h => by
    have h1 := nodup_len N (l.erase y) (hn.erase y) fun x hx => by
      have := (hn.mem_erase_iff).1 hx
      rcases List.mem_cons.1 (h x this.2) with e | e
      · exact absurd e this.1
      · exact e
    by_cases hy : y ∈ l
    · rw [List.length_erase_of_mem hy] at h1
      rw [List.length_cons]
      omega
    · rw [List.erase_of_not_mem hy] at h1
      rw [List.length_cons]
      omega
/-- Numbers stay small in core: there are no lambdas, or the names are a few. -/
def Few5 (c : Core) (A : Str → Bool) : Prop := lamsN c = 0 ∨ (nmR c = true ∧ ∀ s, A s = true → s ∈ nm6)
end Go.Proofs.YtojcjjjpniimiaaDoor

/- EACH PART is made something else of (the program's each, with the lifter's part): the walk. -/
namespace Go.Proofs.YtojcjjjpniimiaaDoor
open Go Go.AM
set_option maxRecDepth 20000

def lfO (of : Str) (made : List Sup) : AObj := .var 79 [.c (.str of), .hs 901 0 made.length made.length]
def lH (k : Nat) (of : Str) (made : List Sup) (a : CM) : List (Nat × AObj) := [(k, mapO a), (810, lfO of made), (901, madeO made)]
def PpSpec (c : Core) : Prop := ∀ (of : Str) (a : CM) (made : List Sup), wfR c = true → of.length ≤ 1000000 → (∀ s, 0 ≤ cnt a s ∧ cnt a s + csize c ≤ 1000000000) → csize c ≤ 400000 → Few5 c (gset a) → made.length + lamsN c ≤ 100000 →
  ∃ a', Same a a' ∧ ImpC Tryd.prog 43 [.one (.vp 810 0), .pa (encCore c), .one (.mr 801)] (lH 801 of made a) (.pa (encCore (partR of false c (gset a) made).1)) (lH 801 of (partR of false c (gset a) made).2 a')
def eL (k0 : Nat) (ep : R) (g : List Str) (of : Str) (made : List Sup) (ks : List Core) (bs : List Bind) (al : List Alt) : List (Nat × AObj) :=
  [(4, .var mT [.mr k0]), (5, .var 80 [.mth 43 (.vp 810 0)]), (7, .var 107 [ep, .c (.sl 1 (g.map encS))]), (701, .arr 46 15 (encBinds bs) 0), (702, .arr 38 10 (encCores ks) 0), (703, .arr 69 14 (encAlts al) 0), (810, lfO of made), (901, madeO made)]
theorem set_enc {α : Type} (enc : List α → List (List C)) (e : α → List C) (h : ∀ l, enc l = l.map e) (l : List α) (j : Nat) (x : α) : (enc l).set j (e x) = enc (l.set j x) := by rw [h, h, List.map_set]
theorem wfE (ep : R) (g : List Str) (of : Str) (made : List Sup) (ks : List Core) (bs : List Bind) (al : List Alt) (h : ep.refs = [701] ∨ ep.refs = [702] ∨ ep.refs = [703]) (x : CM) : Wf [800, 4, 5, 7, 701, 702, 703, 810, 901] ((800, mapO x) :: eL 800 ep g of made ks bs al) := by
  refine ⟨rfl, ?_⟩
  rcases h with h | h | h <;> simp [eL, refsH, AObj.refs, mapO, lfO, madeO, R.refsL, R.refs, h, subset, AObj.live, AObj.plain] <;> rfl

theorem c_each1_B {m m' : CM} {of : Str} {made made' : List Sup} {ks : List Core} {bs : List Bind} {al : List Alt} {r : Core} (g : List Str) {j : Nat} {b : _} (hx : bs[j]? = some b)
    (hf : ImpC Tryd.prog 43 [.one (.vp 810 0), .pa (encCore b.body), .one (.mr 800)] (lH 800 of made m) (.pa (encCore r)) (lH 800 of made' m')) :
    ImpC Tryd.prog 92 ([R.vp 5 0, R.vp 7 0, R.vp 4 0].map V.one) ((800, mapO m) :: eL 800 (.ep 701 j 5 bs.length) g of made ks bs al) (.tup []) ((800, mapO m') :: eL 800 (.ep 701 j 5 bs.length) g of made' ks (bs.set j (Bind.mk b.name b.ty r)) al) := by
  have hx' : (encBinds bs)[j]? = some (encBind b) := by rw [encBinds_map]; exact getEnc encBind hx
  have hl : bs.length = (encBinds bs).length := by rw [encBinds_map, List.length_map]
  have hlt := (List.getElem?_eq_some_iff.1 hx).1
  have hset := set_enc encBinds encBind encBinds_map bs j (Bind.mk b.name b.ty r)
  refine impC (n := 13) tok Tryd.func92 rfl rfl rfl ?_
  refine awp_rg mixed ?_
  refine ak 8 [(6, .row j (encBind b))] rfl ?_
  refine km (args := [.pa (encCore b.body), .one (.mr 800)]) hf ?_
  refine ak 2 [(10, .row j (encBind b))] rfl ?_
  refine az ?_
  exact ⟨.inl rfl, ⟨_, _, .nil, .nil, rfl⟩, ⟨⟨_, rfl, .map⟩, ⟨_, rfl, .var rfl⟩, ⟨_, rfl, .var rfl⟩, ⟨_, rfl, .var rfl⟩, ⟨_, rfl, by first | exact .arr | exact .arrS hset⟩, ⟨_, rfl, by first | exact .arr | exact .arrS hset⟩, ⟨_, rfl, by first | exact .arr | exact .arrS hset⟩, ⟨_, rfl, .var rfl⟩, ⟨_, rfl, .arr⟩, trivial⟩, rfl⟩

theorem c_each1_K {m m' : CM} {of : Str} {made made' : List Sup} {ks : List Core} {bs : List Bind} {al : List Alt} {r : Core} (g : List Str) {j : Nat} {k : _} (hx : ks[j]? = some k)
    (hf : ImpC Tryd.prog 43 [.one (.vp 810 0), .pa (encCore k), .one (.mr 800)] (lH 800 of made m) (.pa (encCore r)) (lH 800 of made' m')) :
    ImpC Tryd.prog 92 ([R.vp 5 0, R.vp 7 0, R.vp 4 0].map V.one) ((800, mapO m) :: eL 800 (.ep 702 j 0 ks.length) g of made ks bs al) (.tup []) ((800, mapO m') :: eL 800 (.ep 702 j 0 ks.length) g of made' (ks.set j (r)) bs al) := by
  have hx' : (encCores ks)[j]? = some (encCore k) := by rw [encCores_map]; exact getEnc encCore hx
  have hl : ks.length = (encCores ks).length := by rw [encCores_map, List.length_map]
  have hlt := (List.getElem?_eq_some_iff.1 hx).1
  have hset := set_enc encCores encCore encCores_map ks j (r)
  refine impC (n := 13) tok Tryd.func92 rfl rfl rfl ?_
  refine awp_rg mixed ?_
  refine ak 8 [(6, .row j (encCore k))] rfl ?_
  refine km (args := [.pa (encCore k), .one (.mr 800)]) hf ?_
  refine ak 2 [(10, .row j (encCore k))] rfl ?_
  refine az ?_
  exact ⟨.inl rfl, ⟨_, _, .nil, .nil, rfl⟩, ⟨⟨_, rfl, .map⟩, ⟨_, rfl, .var rfl⟩, ⟨_, rfl, .var rfl⟩, ⟨_, rfl, .var rfl⟩, ⟨_, rfl, by first | exact .arr | exact .arrS hset⟩, ⟨_, rfl, by first | exact .arr | exact .arrS hset⟩, ⟨_, rfl, by first | exact .arr | exact .arrS hset⟩, ⟨_, rfl, .var rfl⟩, ⟨_, rfl, .arr⟩, trivial⟩, rfl⟩

theorem c_each1_A {m m' : CM} {of : Str} {made made' : List Sup} {ks : List Core} {bs : List Bind} {al : List Alt} {r : Core} (g : List Str) {j : Nat} {al1 : _} (hx : al[j]? = some al1)
    (hf : ImpC Tryd.prog 43 [.one (.vp 810 0), .pa (encCore al1.body), .one (.mr 800)] (lH 800 of made m) (.pa (encCore r)) (lH 800 of made' m')) :
    ImpC Tryd.prog 92 ([R.vp 5 0, R.vp 7 0, R.vp 4 0].map V.one) ((800, mapO m) :: eL 800 (.ep 703 j 4 al.length) g of made ks bs al) (.tup []) ((800, mapO m') :: eL 800 (.ep 703 j 4 al.length) g of made' ks bs (al.set j (Alt.mk al1.form al1.n al1.name al1.vars r))) := by
  have hx' : (encAlts al)[j]? = some (encAlt al1) := by rw [encAlts_map]; exact getEnc encAlt hx
  have hl : al.length = (encAlts al).length := by rw [encAlts_map, List.length_map]
  have hlt := (List.getElem?_eq_some_iff.1 hx).1
  have hset := set_enc encAlts encAlt encAlts_map al j (Alt.mk al1.form al1.n al1.name al1.vars r)
  refine impC (n := 13) tok Tryd.func92 rfl rfl rfl ?_
  refine awp_rg mixed ?_
  refine ak 8 [(6, .row j (encAlt al1))] rfl ?_
  refine km (args := [.pa (encCore al1.body), .one (.mr 800)]) hf ?_
  refine ak 2 [(10, .row j (encAlt al1))] rfl ?_
  refine az ?_
  exact ⟨.inl rfl, ⟨_, _, .nil, .nil, rfl⟩, ⟨⟨_, rfl, .map⟩, ⟨_, rfl, .var rfl⟩, ⟨_, rfl, .var rfl⟩, ⟨_, rfl, .var rfl⟩, ⟨_, rfl, by first | exact .arr | exact .arrS hset⟩, ⟨_, rfl, by first | exact .arr | exact .arrS hset⟩, ⟨_, rfl, by first | exact .arr | exact .arrS hset⟩, ⟨_, rfl, .var rfl⟩, ⟨_, rfl, .arr⟩, trivial⟩, rfl⟩

/-- How far the parts are: what stands in the places of binds, kids, alternatives; what was made. -/
structure Pst where
  bs : List Bind
  ks : List Core
  al : List Alt
  made : List Sup
def pst (of : Str) (A : Str → Bool) (ks : List Core) (bs : List Bind) (al : List Alt) (made : List Sup) (i : Nat) : Pst :=
  let b := partBs of (bs.take i) A made
  let k := partCs of (ks.take (i - bs.length)) A b.2
  let a := partAs of (al.take (i - bs.length - ks.length)) A k.2
  ⟨b.1 ++ bs.drop i, k.1 ++ ks.drop (i - bs.length), a.1 ++ al.drop (i - bs.length - ks.length), a.2⟩
theorem set_snoc {α : Type} {X l : List α} {i : Nat} {y : α} (hx : X.length = i) (hi : i < l.length) : (X ++ l.drop i).set i y = (X ++ [y]) ++ l.drop (i + 1) := by
  rw [List.drop_eq_getElem_cons hi, List.set_append_right _ _ (by omega), hx, Nat.sub_self, List.set_cons_zero, List.append_assoc]
  rfl
theorem at_snoc {α : Type} {X l : List α} {i : Nat} {y : α} (hx : X.length = i) (h : l[i]? = some y) : (X ++ l.drop i)[i]? = some y := by
  rw [List.getElem?_append_right (by omega), hx, Nat.sub_self, List.getElem?_drop, Nat.add_zero, h]
theorem take_len {α : Type} {l : List α} {i : Nat} (h : i ≤ l.length) : (l.take i).length = i := by rw [List.length_take]; omega
section
variable (of : Str) (A : Str → Bool) (ks : List Core) (bs : List Bind) (al : List Alt) (made : List Sup)
theorem pst_0 : pst of A ks bs al made 0 = ⟨bs, ks, al, made⟩ := by
  simp [pst, partBs, partCs, partAs]
theorem pst_end : pst of A ks bs al made (bs.length + (ks.length + al.length)) = ⟨(partBs of bs A made).1, (partCs of ks A (partBs of bs A made).2).1, (partAs of al A (partCs of ks A (partBs of bs A made).2).2).1, (partAs of al A (partCs of ks A (partBs of bs A made).2).2).2⟩ := by
  unfold pst
  have e1 : bs.length + (ks.length + al.length) - bs.length = ks.length + al.length := by omega
  have e2 : ks.length + al.length - ks.length = al.length := by omega
  dsimp only
  rw [e1, e2, List.take_of_length_le (by omega : bs.length ≤ _), List.take_of_length_le (by omega : ks.length ≤ _), List.take_length, List.drop_eq_nil_of_le (by omega), List.drop_eq_nil_of_le (by omega), List.drop_length, List.append_nil, List.append_nil, List.append_nil]
variable {of A ks bs al made}
theorem pst_B {i : Nat} {b : Bind} (h : bs[i]? = some b) : (pst of A ks bs al made i).bs[i]? = some b ∧ (pst of A ks bs al made i).bs.length = bs.length ∧ (pst of A ks bs al made (i + 1)) = ⟨(pst of A ks bs al made i).bs.set i (.mk b.name b.ty (partR of false b.body A (pst of A ks bs al made i).made).1), (pst of A ks bs al made i).ks, (pst of A ks bs al made i).al, (partR of false b.body A (pst of A ks bs al made i).made).2⟩ := by
  have hi := (List.getElem?_eq_some_iff.1 h).1
  have hc := partBs_count of A (bs.take i) made
  rw [take_len (by omega)] at hc
  have e1 : i - bs.length = 0 := by omega
  have e2 : i + 1 - bs.length = 0 := by omega
  unfold pst
  dsimp only
  rw [e1, e2]
  simp only [Nat.zero_sub, List.take_zero, partCs, partAs, List.nil_append, List.drop_zero]
  rw [take_step h, partBs_app]
  refine ⟨at_snoc hc h, by rw [List.length_append, hc, List.length_drop]; omega, ?_⟩
  rw [set_snoc hc hi]
theorem pst_K {i j : Nat} {k : Core} (hj : i = bs.length + j) (h : ks[j]? = some k) : (pst of A ks bs al made i).ks[j]? = some k ∧ (pst of A ks bs al made i).ks.length = ks.length ∧ (pst of A ks bs al made (i + 1)) = ⟨(pst of A ks bs al made i).bs, (pst of A ks bs al made i).ks.set j (partR of false k A (pst of A ks bs al made i).made).1, (pst of A ks bs al made i).al, (partR of false k A (pst of A ks bs al made i).made).2⟩ := by
  subst hj
  have hi := (List.getElem?_eq_some_iff.1 h).1
  have e1 : bs.length + j - bs.length = j := by omega
  have e2 : bs.length + j + 1 - bs.length = j + 1 := by omega
  have e3 : j - ks.length = 0 := by omega
  have e4 : j + 1 - ks.length = 0 := by omega
  unfold pst
  dsimp only
  rw [e1, e2, e3, e4]
  simp only [List.take_zero, partAs, List.nil_append, List.drop_zero]
  rw [List.take_of_length_le (by omega : bs.length ≤ bs.length + j), List.take_of_length_le (by omega : bs.length ≤ bs.length + j + 1), List.drop_eq_nil_of_le (by omega : bs.length ≤ bs.length + j), List.drop_eq_nil_of_le (by omega : bs.length ≤ bs.length + j + 1)]
  have hc := partCs_count of A (ks.take j) (partBs of bs A made).2
  rw [take_len (by omega)] at hc
  rw [take_step h, partCs_app]
  refine ⟨at_snoc hc h, by rw [List.length_append, hc, List.length_drop]; omega, ?_⟩
  rw [set_snoc hc hi]
theorem pst_A {i j : Nat} {a : Alt} (hj : i = bs.length + (ks.length + j)) (h : al[j]? = some a) : (pst of A ks bs al made i).al[j]? = some a ∧ (pst of A ks bs al made i).al.length = al.length ∧ (pst of A ks bs al made (i + 1)) = ⟨(pst of A ks bs al made i).bs, (pst of A ks bs al made i).ks, (pst of A ks bs al made i).al.set j (.mk a.form a.n a.name a.vars (partR of false a.body (ext A a.vars) (pst of A ks bs al made i).made).1), (partR of false a.body (ext A a.vars) (pst of A ks bs al made i).made).2⟩ := by
  subst hj
  have hi := (List.getElem?_eq_some_iff.1 h).1
  have e1 : bs.length + (ks.length + j) - bs.length = ks.length + j := by omega
  have e2 : bs.length + (ks.length + j) + 1 - bs.length = ks.length + (j + 1) := by omega
  have e3 : ks.length + j - ks.length = j := by omega
  have e4 : ks.length + (j + 1) - ks.length = j + 1 := by omega
  unfold pst
  dsimp only
  rw [e1, e2, e3, e4]
  rw [List.take_of_length_le (by omega : bs.length ≤ bs.length + (ks.length + j)), List.take_of_length_le (by omega : bs.length ≤ bs.length + (ks.length + j) + 1), List.drop_eq_nil_of_le (by omega : bs.length ≤ bs.length + (ks.length + j)), List.drop_eq_nil_of_le (by omega : bs.length ≤ bs.length + (ks.length + j) + 1),
    List.take_of_length_le (by omega : ks.length ≤ ks.length + j), List.take_of_length_le (by omega : ks.length ≤ ks.length + (j + 1)), List.drop_eq_nil_of_le (by omega : ks.length ≤ ks.length + j), List.drop_eq_nil_of_le (by omega : ks.length ≤ ks.length + (j + 1))]
  have hc := partAs_count of A (al.take j) (partCs of ks A (partBs of bs A made).2).2
  rw [take_len (by omega)] at hc
  rw [take_step h, partAs_app]
  refine ⟨at_snoc hc h, by rw [List.length_append, hc, List.length_drop]; omega, ?_⟩
  rw [set_snoc hc hi]
theorem pst_few (i : Nat) : (pst of A ks bs al made i).made.length ≤ made.length + lamsBs (bs.take i) + lamsCs (ks.take (i - bs.length)) + lamsAs (al.take (i - bs.length - ks.length)) := by
  unfold pst
  dsimp only
  have h1 := partBs_few of (bs.take i) A made
  have h2 := partCs_few of (ks.take (i - bs.length)) A (partBs of (bs.take i) A made).2
  have h3 := partAs_few of (al.take (i - bs.length - ks.length)) A (partCs of (ks.take (i - bs.length)) A (partBs of (bs.take i) A made).2).2
  omega
theorem pst_lens (i : Nat) (hi : i ≤ bs.length + (ks.length + al.length)) : (pst of A ks bs al made i).bs.length = bs.length ∧ (pst of A ks bs al made i).ks.length = ks.length ∧ (pst of A ks bs al made i).al.length = al.length := by
  unfold pst
  dsimp only
  rw [List.length_append, List.length_append, List.length_append, partBs_count, partCs_count, partAs_count, List.length_take, List.length_take, List.length_take, List.length_drop, List.length_drop, List.length_drop]
  omega
end
end Go.Proofs.YtojcjjjpniimiaaDoor

/- THE LIFTER: each's loop, a lambda, core without lambdas: the walks. -/
namespace Go.Proofs.YtojcjjjpniimiaaDoor
open Go Go.AM
set_option maxRecDepth 20000


theorem few_parts {f n : Int} {s : Str} {t : Ty} {ks : List Core} {bs : List Bind} {al : List Alt} (hf : ¬ f = 5) (hw : wfR (.mk f n s t ks bs al) = true) (of : Str) (A : Str → Bool) (made : List Sup) {i : Nat} (hi : i < (pRows f s ks bs al).length) {p : List Str × Core} (hp : (partsL f s ks bs al)[i]? = some p) :
    wfR p.2 = true ∧ lamsN p.2 ≤ lamsN (.mk f n s t ks bs al) ∧ (nmR (.mk f n s t ks bs al) = true → nmR p.2 = true ∧ ∀ u ∈ p.1, u ∈ nm6) ∧ (pst of A ks bs al made i).made.length + lamsN p.2 ≤ made.length + lamsN (.mk f n s t ks bs al) := by
  have hpf := @pst_few of A ks bs al made i
  simp only [wfR, Bool.and_eq_true] at hw
  have hb0 := lamsBs_le bs i
  have hk0 := lamsCs_le ks (i - bs.length)
  have ha0 := lamsAs_le al (i - bs.length - ks.length)
  rw [lamsN, if_neg hf]
  rcases parts_at f s ks bs al hi with ⟨j, b, hb, _, hpa, hij⟩ | ⟨j, k, hk, _, hpa, hij⟩ | ⟨j, a, ha, _, hpa, hij⟩
  · rw [hpa] at hp; cases hp
    have hm := List.mem_of_getElem? hb
    have hl := lamsBs_at hb
    subst hij
    have hlt := (List.getElem?_eq_some_iff.1 hb).1
    have e1 : i - bs.length = 0 := by omega
    rw [e1, List.take_zero, Nat.zero_sub, List.take_zero, lamsCs, lamsAs] at hpf
    dsimp only
    refine ⟨(wfBs_mem hw.2.2.1 b hm).2, by omega, fun hn => ⟨?_, nm_gvs hn⟩, by omega⟩
    simp only [nmR, Bool.and_eq_true] at hn
    exact (nmBs_mem hn.2.2.1 b hm).2
  · rw [hpa] at hp; cases hp
    have hm := List.mem_of_getElem? hk
    have hl := lamsCs_at hk
    subst hij
    have hlt := (List.getElem?_eq_some_iff.1 hk).1
    have e1 : bs.length + j - bs.length = j := by omega
    have e2 : j - ks.length = 0 := by omega
    rw [e1, e2, List.take_zero, lamsAs] at hpf
    dsimp only
    refine ⟨wfCs_mem hw.2.1 k hm, by omega, fun hn => ⟨?_, nm_gvs hn⟩, by omega⟩
    simp only [nmR, Bool.and_eq_true] at hn
    exact nmCs_mem hn.2.1 k hm
  · rw [hpa] at hp; cases hp
    have hm := List.mem_of_getElem? ha
    have hl := lamsAs_at ha
    subst hij
    have e1 : bs.length + (ks.length + j) - bs.length = ks.length + j := by omega
    have e2 : ks.length + j - ks.length = j := by omega
    rw [e1, e2] at hpf
    have hk1 := lamsCs_le ks (ks.length + j)
    dsimp only
    refine ⟨wfAs_mem hw.2.2.2 a hm, by omega, fun hn => ?_, by omega⟩
    have hg := nm_gvs hn
    simp only [nmR, Bool.and_eq_true] at hn
    obtain ⟨h1, h2⟩ := nmAs_mem hn.2.2.2 a hm
    refine ⟨h2, fun u hu => ?_⟩
    rcases List.mem_append.1 hu with hu | hu
    · exact hg u hu
    · exact h1 u hu

theorem c_each {f n : Int} {s : Str} {t : Ty} {ks : List Core} {bs : List Bind} {al : List Alt} (hf : ¬ f = 5) (ih : ∀ x, csize x < csize (.mk f n s t ks bs al) → PpSpec x) (of : Str) (a : CM) (made : List Sup) (hw : wfR (.mk f n s t ks bs al) = true) (hof : of.length ≤ 1000000) (hm : ∀ u, 0 ≤ cnt a u ∧ cnt a u + csize (.mk f n s t ks bs al) ≤ 1000000000) (hsz : csize (.mk f n s t ks bs al) ≤ 400000) (h5 : Few5 (.mk f n s t ks bs al) (gset a)) (hmd : made.length + lamsN (.mk f n s t ks bs al) ≤ 100000) :
    ∃ a', Same a a' ∧ ImpC Tryd.prog 70 [.one (.vp 700 0), .one (.mr 801), .one (.mth 43 (.vp 810 0))] [(801, mapO a), (700, .var 38 (cellsC (.mk f n s t ks bs al))), (810, lfO of made), (901, madeO made)] (.tup [])
      [(801, mapO a'), (700, .var 38 (cellsC (partR of false (.mk f n s t ks bs al) (gset a) made).1)), (810, lfO of (partR of false (.mk f n s t ks bs al) (gset a) made).2), (901, madeO (partR of false (.mk f n s t ks bs al) (gset a) made).2)] := by
  have hm0 : ∀ u, 0 ≤ cnt a u := fun u => (hm u).1
  have hfp := fun {i : Nat} {p : List Str × Core} (hi : i < (pRows f s ks bs al).length) (hp : (partsL f s ks bs al)[i]? = some p) => few_parts hf hw of (ext (gset a) (gvs f s bs)) made hi hp
  have hend := pst_end of (ext (gset a) (gvs f s bs)) ks bs al made
  rw [← pRows_len f s ks bs al] at hend
  have hpr : partR of false (.mk f n s t ks bs al) (gset a) made = (.mk f n s t (pst of (ext (gset a) (gvs f s bs)) ks bs al made (pRows f s ks bs al).length).ks (pst of (ext (gset a) (gvs f s bs)) ks bs al made (pRows f s ks bs al).length).bs (pst of (ext (gset a) (gvs f s bs)) ks bs al made (pRows f s ks bs al).length).al, (pst of (ext (gset a) (gvs f s bs)) ks bs al made (pRows f s ks bs al).length).made) := by
    rw [partR, if_neg hf, hend]
  rw [hpr]
  have hp0 := pst_0 of (ext (gset a) (gvs f s bs)) ks bs al made
  have hlen := fun i => @pst_lens of (ext (gset a) (gvs f s bs)) ks bs al made i
  have hN : (pRows f s ks bs al).length = (partsL f s ks bs al).length := by rw [pRows_len, partsL_len]
  have hin : ∀ p ∈ partsL f s ks bs al, _ := fun p hp => @parts_in f n s t ks bs al p hp
  have hat := @parts_at f s ks bs al
  have hcp := c_parts f n s t ks bs al hsz
  have hrr : ∀ x ∈ (pObj (pRows f s ks bs al)).refs, x ∈ pRefs.refs := rows_refs
  have hpl := pRows_len f s ks bs al
  obtain ⟨hkl, hbl, hal⟩ : ks.length < 400000 ∧ bs.length < 400000 ∧ al.length < 400000 := by
    obtain ⟨_, _, _, q1, q2, q3⟩ := @size_in f n s t ks bs al
    omega
  have hrl : (pRows f s ks bs al).length ≤ 1200000 := by omega
  obtain ⟨sq, hs0, hsP, hsR⟩ := exists_seq (P := fun _ x => Same a x) (R := fun i x y => i < (pRows f s ks bs al).length → ∀ p, (partsL f s ks bs al)[i]? = some p → ∃ m', y = decs p.1 m' ∧ Same (incs p.1 x) m' ∧
      ImpC Tryd.prog 43 [.one (.vp 810 0), .pa (encCore p.2), .one (.mr 801)] (lH 801 of (pst of (ext (gset a) (gvs f s bs)) ks bs al made i).made (incs p.1 x)) (.pa (encCore (partR of false p.2 (ext (gset a) p.1) (pst of (ext (gset a) (gvs f s bs)) ks bs al made i).made).1)) (lH 801 of (partR of false p.2 (ext (gset a) p.1) (pst of (ext (gset a) (gvs f s bs)) ks bs al made i).made).2 m')) a (fun _ => rfl) (fun i x hx => by
    by_cases hi : i < (pRows f s ks bs al).length
    · obtain ⟨p, hp⟩ := get_of_lt (l := partsL f s ks bs al) (by omega : i < (partsL f s ks bs al).length)
      obtain ⟨q1, q2⟩ := hin p (List.mem_of_getElem? hp)
      obtain ⟨w1, w2, w3, w4⟩ := hfp hi hp
      have hx0 : ∀ u, 0 ≤ cnt x u := fun u => by rw [← hx u]; exact hm0 u
      have hga : gset (incs p.1 x) = ext (gset a) p.1 := by rw [gset_incs hx0, ← gset_same hx]
      obtain ⟨m', g1, g2⟩ := ih p.2 q1 of (incs p.1 x) (pst of (ext (gset a) (gvs f s bs)) ks bs al made i).made w1 hof (fun u => by
        have h1 := hm u
        have h2 := hx u
        have h3 := cnt_incs u p.1 x
        have h4 : 0 ≤ times u p.1 ∧ times u p.1 ≤ p.1.length := by
          unfold times
          have := List.count_le_length (a := u) (l := p.1)
          omega
        omega) (by omega) (by
        rw [hga]
        rcases h5 with h5 | ⟨h5, h6⟩
        · exact .inl (by omega)
        · obtain ⟨w5, w6⟩ := w3 h5
          refine .inr ⟨w5, fun u hu => ?_⟩
          simp only [ext, Bool.or_eq_true, decide_eq_true_eq] at hu
          exact hu.elim (h6 u) (w6 u)) (by omega)
      rw [hga] at g2
      exact ⟨decs p.1 m', fun u => by rw [hx u]; exact Same.decs g1 u, fun _ p' h => by rw [hp] at h; cases h; exact ⟨m', rfl, g1, g2⟩⟩
    · exact ⟨x, hx, fun h => absurd h hi⟩)
  refine ⟨sq (pRows f s ks bs al).length, hsP _, ?_⟩
  have hPB := fun {i : Nat} {b : Bind} (hb : bs[i]? = some b) => pst_B (of := of) (A := ext (gset a) (gvs f s bs)) (ks := ks) (al := al) (made := made) hb
  have hPK := fun {i j : Nat} {k : Core} (hij : i = bs.length + j) (hk : ks[j]? = some k) => pst_K (of := of) (A := ext (gset a) (gvs f s bs)) (al := al) (made := made) hij hk
  have hPA := fun {i j : Nat} {k : Alt} (hij : i = bs.length + (ks.length + j)) (hk : al[j]? = some k) => pst_A (of := of) (A := ext (gset a) (gvs f s bs)) (made := made) hij hk
  have hext : ∀ v, ext (ext (gset a) (gvs f s bs)) v = ext (gset a) (gvs f s bs ++ v) := fun v => ext_ext _ _ _
  generalize pst of (ext (gset a) (gvs f s bs)) ks bs al made = PS at hp0 hlen hsR hPB hPK hPA hend ⊢
  generalize pRows f s ks bs al = rows at hN hat hcp hrr hrl hsR hend hpl ⊢
  refine impC (n := 21) tok Tryd.func70 rfl rfl rfl ?_
  refine awp_seq (ag [] rfl ?_)
  refine awp_seq (awp_rg mixed ?_)
  refine ak 1 [] rfl ?_
  refine kc hcp ?_
  refine ak 2 [] rfl ?_
  refine az ?_
  refine awp_block ?_
  refine awp_loop (fun i : Nat => mk [(4, .one (.vp 4 0)), (5, .one (.vp 5 0)), (9, .one (.ra 704 0 rows.length rows.length)), (10, I .i64 ((rows.length : Nat) : Int)), (11, I .i64 i)] ((704, pObj rows) :: [(4, .var mT [.mr 801]), (5, .var 80 [.mth 43 (.vp 810 0)]), (700, .var 38 (cellsO f n s t ks.length bs.length al.length)), (701, .arr 46 15 (encBinds (PS i).bs) 0), (702, .arr 38 10 (encCores (PS i).ks) 0), (703, .arr 69 14 (encAlts (PS i).al) 0), (801, mapO (sq i)), (810, lfO of (PS i).made), (901, madeO (PS i).made)])) (fun i => i ≤ rows.length) (fun i => rows.length - i) 0 (Nat.zero_le _) (by rw [hs0, hp0]; exact slR pRefs hrr ⟨_, rfl, .rarrS rfl⟩) ?_
  intro i hi
  refine awp_seq (ag [] rfl ?_)
  refine awp_seq (awp_cond rfl (fun hb => ?_) (fun hb => ?_))
  · have hlt : i < rows.length := by
      have : (i : Int) < (rows.length : Int) := of_decide_eq_true hb
      omega
    refine awp_skip ?_
    refine awp_seq (awp_block ?_)
    obtain ⟨l1, l2, l3⟩ := hlen i (by omega)
    rcases hat hlt with ⟨j, b, hb', hro, hpa, hij⟩ | ⟨j, k, hk', hro, hpa, hij⟩ | ⟨j, al', ha', hro, hpa, hij⟩
    · subst hij
      obtain ⟨r1, r2, r3⟩ := hPB hb'
      obtain ⟨m', e1, e2, e3⟩ := hsR i hlt _ hpa
      obtain ⟨q1, q2⟩ := hin _ (List.mem_of_getElem? hpa)
      have hx := hsP i
      dsimp only at e1 e3 q2
      have hc0 : ImpC Tryd.prog 43 [.one (.vp 810 0), .pa (encCore b.body), .one (.mr 800)] (lH 800 of (PS i).made (incs (gvs f s bs) (sq i))) (.pa (encCore (partR of false b.body (ext (gset a) (gvs f s bs)) (PS i).made).1)) (lH 800 of (partR of false b.body (ext (gset a) (gvs f s bs)) (PS i).made).2 m') := e3.swap 801 800
      have hc1 := c_each1_B (ks := (PS i).ks) (bs := (PS i).bs) (al := (PS i).al) (gvs f s bs) r1 hc0
      have hci := c_inside (gvs f s bs) (sq i) m' _ _ [800, 4, 5, 7, 701, 702, 703, 810, 901] (by omega) (fun u => by have := hm u; have := hx u; omega) (fun u => by
        have h1 := hm u
        have h2 := hx u
        have h3 := e2 u
        dsimp only at h3
        rw [cnt_incs] at h3
        have h4 : 0 ≤ times u (gvs f s bs) ∧ times u (gvs f s bs) ≤ (gvs f s bs).length := by
          unfold times
          have := List.count_le_length (a := u) (l := gvs f s bs)
          omega
        omega) (wfE _ _ _ _ _ _ _ (by simp [R.refs])) (wfE _ _ _ _ _ _ _ (by simp [R.refs])) rfl (by kernel_rfl) hc1
      have hcs : ImpC Tryd.prog 30 [.one (.mr 801), strsV (gvs f s bs), .one (.clo 92 [.vp 5 0, .vp 7 0, .vp 4 0])] ((801, mapO (sq i)) :: eL 801 (.ep 701 i 5 (PS i).bs.length) (gvs f s bs) of (PS i).made (PS i).ks (PS i).bs (PS i).al) (.tup []) ((801, mapO (sq (i + 1))) :: eL 801 (.ep 701 i 5 (PS i).bs.length) (gvs f s bs) of (PS (i + 1)).made (PS (i + 1)).ks (PS (i + 1)).bs (PS (i + 1)).al) := by
        rw [e1, r3]
        exact hci.swap 800 801
      rw [r2] at hcs
      refine awp_seq (ag [(1, .rr (prow 701 5 bs.length (gvs f s bs) i))] rfl ?_)
      refine awp_rg mixed ?_
      refine ak 4 [] rfl ?_
      refine kc hcs ?_
      refine az ?_
      refine ag [] rfl ?_
      exact ⟨i + 1, hlt, by dsimp only; omega, slR pRefs hrr ⟨_, rfl, .rarrS rfl⟩⟩
    · obtain ⟨r1, r2, r3⟩ := hPK hij hk'
      obtain ⟨m', e1, e2, e3⟩ := hsR i hlt _ hpa
      obtain ⟨q1, q2⟩ := hin _ (List.mem_of_getElem? hpa)
      have hx := hsP i
      dsimp only at e1 e3 q2
      have hc0 : ImpC Tryd.prog 43 [.one (.vp 810 0), .pa (encCore k), .one (.mr 800)] (lH 800 of (PS i).made (incs (gvs f s bs) (sq i))) (.pa (encCore (partR of false k (ext (gset a) (gvs f s bs)) (PS i).made).1)) (lH 800 of (partR of false k (ext (gset a) (gvs f s bs)) (PS i).made).2 m') := e3.swap 801 800
      have hc1 := c_each1_K (ks := (PS i).ks) (bs := (PS i).bs) (al := (PS i).al) (gvs f s bs) r1 hc0
      have hci := c_inside (gvs f s bs) (sq i) m' _ _ [800, 4, 5, 7, 701, 702, 703, 810, 901] (by omega) (fun u => by have := hm u; have := hx u; omega) (fun u => by
        have h1 := hm u
        have h2 := hx u
        have h3 := e2 u
        dsimp only at h3
        rw [cnt_incs] at h3
        have h4 : 0 ≤ times u (gvs f s bs) ∧ times u (gvs f s bs) ≤ (gvs f s bs).length := by
          unfold times
          have := List.count_le_length (a := u) (l := gvs f s bs)
          omega
        omega) (wfE _ _ _ _ _ _ _ (by simp [R.refs])) (wfE _ _ _ _ _ _ _ (by simp [R.refs])) rfl (by kernel_rfl) hc1
      have hcs : ImpC Tryd.prog 30 [.one (.mr 801), strsV (gvs f s bs), .one (.clo 92 [.vp 5 0, .vp 7 0, .vp 4 0])] ((801, mapO (sq i)) :: eL 801 (.ep 702 j 0 (PS i).ks.length) (gvs f s bs) of (PS i).made (PS i).ks (PS i).bs (PS i).al) (.tup []) ((801, mapO (sq (i + 1))) :: eL 801 (.ep 702 j 0 (PS i).ks.length) (gvs f s bs) of (PS (i + 1)).made (PS (i + 1)).ks (PS (i + 1)).bs (PS (i + 1)).al) := by
        rw [e1, r3]
        exact hci.swap 800 801
      rw [r2] at hcs
      refine awp_seq (ag [(1, .rr (prow 702 0 ks.length (gvs f s bs) j))] rfl ?_)
      refine awp_rg mixed ?_
      refine ak 4 [] rfl ?_
      refine kc hcs ?_
      refine az ?_
      refine ag [] rfl ?_
      exact ⟨i + 1, hlt, by dsimp only; omega, slR pRefs hrr ⟨_, rfl, .rarrS rfl⟩⟩
    · obtain ⟨r1, r2, r3⟩ := hPA hij ha'
      rw [hext] at r3
      obtain ⟨m', e1, e2, e3⟩ := hsR i hlt _ hpa
      obtain ⟨q1, q2⟩ := hin _ (List.mem_of_getElem? hpa)
      have hx := hsP i
      dsimp only at e1 e3 q2
      have hc0 : ImpC Tryd.prog 43 [.one (.vp 810 0), .pa (encCore al'.body), .one (.mr 800)] (lH 800 of (PS i).made (incs (gvs f s bs ++ al'.vars) (sq i))) (.pa (encCore (partR of false al'.body (ext (gset a) (gvs f s bs ++ al'.vars)) (PS i).made).1)) (lH 800 of (partR of false al'.body (ext (gset a) (gvs f s bs ++ al'.vars)) (PS i).made).2 m') := e3.swap 801 800
      have hc1 := c_each1_A (ks := (PS i).ks) (bs := (PS i).bs) (al := (PS i).al) (gvs f s bs ++ al'.vars) r1 hc0
      have hci := c_inside (gvs f s bs ++ al'.vars) (sq i) m' _ _ [800, 4, 5, 7, 701, 702, 703, 810, 901] (by omega) (fun u => by have := hm u; have := hx u; omega) (fun u => by
        have h1 := hm u
        have h2 := hx u
        have h3 := e2 u
        dsimp only at h3
        rw [cnt_incs] at h3
        have h4 : 0 ≤ times u (gvs f s bs ++ al'.vars) ∧ times u (gvs f s bs ++ al'.vars) ≤ (gvs f s bs ++ al'.vars).length := by
          unfold times
          have := List.count_le_length (a := u) (l := gvs f s bs ++ al'.vars)
          omega
        omega) (wfE _ _ _ _ _ _ _ (by simp [R.refs])) (wfE _ _ _ _ _ _ _ (by simp [R.refs])) rfl (by kernel_rfl) hc1
      have hcs : ImpC Tryd.prog 30 [.one (.mr 801), strsV (gvs f s bs ++ al'.vars), .one (.clo 92 [.vp 5 0, .vp 7 0, .vp 4 0])] ((801, mapO (sq i)) :: eL 801 (.ep 703 j 4 (PS i).al.length) (gvs f s bs ++ al'.vars) of (PS i).made (PS i).ks (PS i).bs (PS i).al) (.tup []) ((801, mapO (sq (i + 1))) :: eL 801 (.ep 703 j 4 (PS i).al.length) (gvs f s bs ++ al'.vars) of (PS (i + 1)).made (PS (i + 1)).ks (PS (i + 1)).bs (PS (i + 1)).al) := by
        rw [e1, r3]
        exact hci.swap 800 801
      rw [r2] at hcs
      refine awp_seq (ag [(1, .rr (prow 703 4 al.length (gvs f s bs ++ al'.vars) j))] rfl ?_)
      refine awp_rg mixed ?_
      refine ak 4 [] rfl ?_
      refine kc hcs ?_
      refine az ?_
      refine ag [] rfl ?_
      exact ⟨i + 1, hlt, by dsimp only; omega, slR pRefs hrr ⟨_, rfl, .rarrS rfl⟩⟩
  have hge : i = rows.length := by
    have : ¬ (i : Int) < (rows.length : Int) := of_decide_eq_false hb
    omega
  subst hge
  obtain ⟨l1, l2, l3⟩ := hlen rows.length (by omega)
  have k1 : bs.length = (encBinds (PS rows.length).bs).length := by rw [encBinds_map, List.length_map]; exact l1.symm
  have k2 : ks.length = (encCores (PS rows.length).ks).length := by rw [encCores_map, List.length_map]; exact l2.symm
  have k3 : al.length = (encAlts (PS rows.length).al).length := by rw [encAlts_map, List.length_map]; exact l3.symm
  refine AWp.sub (Sub.freeze (id := 701) rfl) (AWp.sub (Sub.freeze (id := 702) rfl) (AWp.sub (Sub.freeze (id := 703) rfl) (AWp.sub (vp 700 (encCore (.mk f n s t (PS rows.length).ks (PS rows.length).bs (PS rows.length).al))) ?_)))
  refine awp_exit ?_
  exact ⟨.inl rfl, ⟨_, _, .nil, .nil, rfl⟩, ⟨⟨_, rfl, .map⟩, ⟨_, rfl, .var rfl⟩, ⟨_, rfl, .var rfl⟩, ⟨_, rfl, .arr⟩, trivial⟩, rfl⟩
end Go.Proofs.YtojcjjjpniimiaaDoor

/- A LAMBDA is made a function of its own (the program's lifter.lambda): the walk. -/
namespace Go.Proofs.YtojcjjjpniimiaaDoor
open Go Go.AM
set_option maxRecDepth 20000

theorem nm_short : ∀ s ∈ nm6, s.length ≤ 1000000 := by decide
theorem gset_nil : gset [] = fun _ => false := rfl
theorem gset_incs_nil (l : List Str) : gset (incs l []) = fun x => decide (x ∈ l) := by
  rw [gset_incs (fun _ => Int.le_refl _), gset_nil]; rfl

theorem c_lambda1 {m m' : CM} {of : Str} {made made' : List Sup} {c c' : Core}
    (hf : ImpC Tryd.prog 43 [.one (.vp 810 0), .pa (encCore c), .one (.mr 800)] (lH 800 of made m) (.pa (encCore c')) (lH 800 of made' m')) :
    ImpC Tryd.prog 91 ([R.vp 3 0, R.vp 9 0, R.vp 13 0].map V.one) [(800, mapO m), (3, .var 77 [.vp 810 0]), (9, .var 38 (cellsC c)), (13, .var mT [.mr 800]), (810, lfO of made), (901, madeO made)] (.tup []) [(800, mapO m'), (3, .var 77 [.vp 810 0]), (9, .var 38 (cellsC c')), (13, .var mT [.mr 800]), (810, lfO of made'), (901, madeO made')] := by
  refine impC (n := 7) tok Tryd.func91 rfl rfl rfl ?_
  refine awp_rg mixed ?_
  refine ak 3 [] rfl ?_
  refine kc hf ?_
  refine ak 1 [] rfl ?_
  refine az ?_
  exact ⟨.inl rfl, ⟨_, _, .nil, .nil, rfl⟩, ⟨⟨_, rfl, .map⟩, ⟨_, rfl, .var rfl⟩, ⟨_, rfl, .var rfl⟩, ⟨_, rfl, .var rfl⟩, ⟨_, rfl, .var rfl⟩, ⟨_, rfl, .arr⟩, trivial⟩, rfl⟩

theorem c_lambda (c : Core) (hf : c.form = 5) (ih : ∀ x, csize x < csize c → PpSpec x) (of : Str) (a : CM) (made : List Sup) (hw : wfR c = true) (hof : of.length ≤ 1000000) (hm : ∀ u, 0 ≤ cnt a u ∧ cnt a u + csize c ≤ 1000000000) (hsz : csize c ≤ 400000) (h5 : Few5 c (gset a)) (hmd : made.length + lamsN c ≤ 100000) :
    ImpC Tryd.prog 69 [.one (.vp 810 0), .pa (encCore c), .one (.mr 801)] (lH 801 of made a) (.pa (encCore (partR of false c (gset a) made).1)) (lH 801 of (partR of false c (gset a) made).2 a) := by
  have hM : 1000000000 ≤ maxLen := by decide
  obtain ⟨w1, w2, w3, w4, w5, w6⟩ := wf_chain _ c (Nat.le_refl _) hw
  have w6 := w6 hf
  have hl1 : 1 ≤ lamsN c := by
    obtain ⟨f, n, s, t, ks, bs, al⟩ := c
    have hf : f = 5 := hf
    rw [lamsN, if_pos hf]; omega
  obtain ⟨h5, h6⟩ : nmR c = true ∧ ∀ s, gset a s = true → s ∈ nm6 := by
    rcases h5 with h5 | h5
    · omega
    · exact h5
  obtain ⟨n1, n2, n3⟩ := nm_chain _ c (Nat.le_refl _) hw h5
  obtain ⟨m', hsm, hfr⟩ := c_pfree _ c (Nat.le_refl _) [] a [] (fun s => by show (0 : Int) ≤ 0 ∧ (0 : Int) + _ ≤ _; omega) hsz (by simp; omega)
  rw [gset_nil] at hfr
  have hch := c_pchain c w1 (by omega)
  have hfi := freeR_in (gset a) c (fun _ => false) [] (fun s hs => by simp at hs)
  have hfo := freeR_once (gset a) c (fun _ => false) [] List.nodup_nil
  have hr : partR of false c (gset a) made = (let free := freeR (gset a) c (fun _ => false) []; let all := free ++ chainN c; let r := partR of false (chainB c) (fun x => decide (x ∈ all)) (made ++ [⟨fname of made.length, paramsR all, zCore⟩]); (appVars (varC (fname of made.length)) free, setBody r.2 made.length r.1)) := by
    have hpc := partR_chain of _ c (Nat.le_refl _) hw
    obtain ⟨f, n, s, t, ks, bs, al⟩ := c
    have hf : f = 5 := hf
    rw [partR, if_pos hf, if_neg Bool.false_ne_true]
    have hN : chainN (.mk f n s t ks bs al) = s :: chainNs ks := by rw [chainN, if_pos hf]
    simp only [hN]
    have := hpc (fun x => decide (x ∈ freeR (gset a) (.mk f n s t ks bs al) (fun _ => false) [] ++ s :: chainNs ks)) (made ++ [⟨fname of made.length, paramsR (freeR (gset a) (.mk f n s t ks bs al) (fun _ => false) [] ++ s :: chainNs ks), zCore⟩])
    rw [partR, if_pos hf, if_pos rfl] at this
    rw [this]
  rw [hr]
  dsimp only
  generalize freeR (gset a) c (fun _ => false) [] = free at hfr hfi hfo ⊢
  have hfn : ∀ s ∈ free, s ∈ nm6 := fun s hs => h6 s (hfi s hs)
  have hfl : free.length ≤ 6 := nodup_len nm6 free hfo hfn
  have hcl : (chainN c).length ≤ 100000 := by omega
  have hc1 : 1 ≤ (chainN c).length := by
    obtain ⟨f, n, s, t, ks, bs, al⟩ := c
    have hf : f = 5 := hf
    rw [chainN, if_pos hf]; exact Nat.le_add_left _ _
  have han : ∀ s ∈ free ++ chainN c, s ∈ nm6 := by
    intro s hs
    rcases List.mem_append.1 hs with hs | hs
    · exact hfn s hs
    · exact n1 s hs
  have hwi := c_concat free (chainN c) (by omega)
  have hpa := c_params (free ++ chainN c) (by rw [List.length_append]; omega) fun s hs => nm_short s (han s hs)
  have hdc := c_itoaL (made.length + 1) (by omega)
  have hdl := dec_len (made.length + 1)
  have hal : (free ++ chainN c).length ≤ 200000 := by rw [List.length_append]; omega
  generalize hAll : free ++ chainN c = all at hwi hpa hal han ⊢
  have hti : ∀ s, 0 ≤ times s all ∧ times s all ≤ 200000 := fun s => by
    have := times_take s all all.length
    rw [List.take_length] at this
    omega
  have hca : ∀ u, cnt (incs all []) u = times u all := fun u => by rw [cnt_incs]; show (0 : Int) + _ = _; omega
  obtain ⟨m2, hs2, hpt⟩ := ih (chainB c) w6 of (incs all []) (made ++ [⟨fname of made.length, paramsR all, zCore⟩]) w2 hof (fun u => by
    have := hti u
    rw [hca u]
    omega) (by omega) (.inr ⟨n2, fun s hs => by rw [gset_incs_nil] at hs; exact han s (of_decide_eq_true hs)⟩) (by rw [List.length_append, List.length_singleton]; omega)
  rw [gset_incs_nil] at hpt
  have hln := part_len of (chainB c) false (fun x => decide (x ∈ all)) (made ++ [⟨fname of made.length, paramsR all, zCore⟩])
  rw [List.length_append, List.length_singleton] at hln
  generalize partR of false (chainB c) (fun x => decide (x ∈ all)) (made ++ [⟨fname of made.length, paramsR all, zCore⟩]) = r at hpt hln ⊢
  have hp1 := c_lambda1 (hpt.swap 801 800)
  have hp2 := c_inside all [] m2 _ _ [800, 3, 9, 13, 810, 901] (by omega) (fun u => by show (0 : Int) ≤ (0 : Int) ∧ (0 : Int) ≤ _; omega) (fun u => by
    have := hti u
    have := hs2 u
    rw [hca u] at this
    omega) (fun x => ⟨rfl, by kernel_rfl⟩) (fun x => ⟨rfl, by kernel_rfl⟩) rfl (by kernel_rfl) hp1
  have hp3 := hp2.swap 800 803
  obtain ⟨y, hy⟩ := get_of_lt (show made.length < r.2.length by omega)
  have hy' := getEnc encSup hy
  have hset := setBody_set r.1 r.2 made.length y hy
  have hset' : r.2.length = (setBody r.2 made.length r.1).length := (setBody_len _ _ _).symm
  have hlg : [R.c (.str of), .hs 901 0 r.2.length r.2.length] = R.renL (fun i => i) [R.c (.str of), .hs 901 0 (setBody r.2 made.length r.1).length (setBody r.2 made.length r.1).length] := by rw [setBody_len]; rfl
  refine impC (n := 84) tok Tryd.func69 rfl rfl rfl ?_
  refine awp_seq (ag [] rfl ?_)
  refine awp_seq (ag [(0, .id 802)] rfl ?_)
  refine AWp.sub (Sub.ownCell (x := 802) (k := 0) (id := 900) 9 1 rfl rfl rfl) ?_
  refine AWp.sub (st2 := mk [(2, .one (.mr 801)), (3, .one (.vp 3 0)), (4, .one (.vp 4 0)), (6, .one (.vp 6 0)), (7, .one (.vp 802 0))] [(3, .var 77 [.vp 810 0]), (4, .var 38 (cellsC c)), (6, .var 38 zCells), (801, mapO a), (802, .var 31 [.hs 900 0 0 0]), (900, outO []), (810, lfO of made), (901, madeO made)]) sl ?_
  refine awp_seq (awp_rg mixed ?_)
  refine ak 3 [(0, .id 800)] rfl ?_
  refine kc hfr ?_
  refine az ?_
  refine AWp.sub (Sub.freeze (id := 900) rfl) ?_
  refine AWp.sub (vp 802 [.sl 1 (free.map encS)] (hp := .hs rfl (by simp) take_map.symm .nil)) ?_
  refine awp_seq (ag [(1, .pc (.tup [strsV (chainN c), .pa (encCore (chainB c))]))] rfl ?_)
  refine awp_seq (ag [(2, .all), (3, .pc (strsV all))] rfl ?_)
  refine awp_seq (ag [] rfl ?_)
  refine awp_seq (agN [(7, .pc (Go.AM.T (dec (made.length + 1))))] rfl ?_)
  refine awp_seq (ag [(8, .pc (strsV (paramsR all)))] rfl ?_)
  have hmk : made.map encSup ++ [encSup (Sup.mk (fname of made.length) (paramsR all) zCore)] = (made ++ [Sup.mk (fname of made.length) (paramsR all) zCore]).map encSup := by rw [List.map_append]; rfl
  have hlf : [R.c (.str of), .hs 901 0 ((made.map encSup).length + 1) ((made.map encSup).length + 1)] = R.renL (fun i => i) [R.c (.str of), .hs 901 0 (made ++ [Sup.mk (fname of made.length) (paramsR all) zCore]).length (made ++ [Sup.mk (fname of made.length) (paramsR all) zCore]).length] := by rw [List.length_append, List.length_map]; rfl
  refine AWp.sub (vp 12 (encCore (varC (fname of made.length)))) ?_
  refine AWp.sub (st2 := mk [(2, .one (.mr 801)), (3, .one (.vp 3 0)), (6, .one (.vp 6 0)), (7, .one (.vp 802 0)), (9, .one (.vp 9 0)), (10, strsV all), (11, I .i64 ((made.length : Nat) : Int)), (12, .one (.vp 12 0))] [(3, .var 77 [.vp 810 0]), (6, .var 38 zCells), (9, .var 38 (cellsC (chainB c))), (12, .var 38 (cellsC (varC (fname of made.length)))), (801, mapO a), (802, .var 31 [.c (.sl 1 (free.map encS))]), (810, lfO of (made ++ [Sup.mk (fname of made.length) (paramsR all) zCore])), (901, madeO (made ++ [Sup.mk (fname of made.length) (paramsR all) zCore]))]) (sl (hh := ⟨⟨_, rfl, .var rfl⟩, ⟨_, rfl, .var rfl⟩, ⟨_, rfl, .var rfl⟩, ⟨_, rfl, .var rfl⟩, ⟨_, rfl, .map⟩, ⟨_, rfl, .var rfl⟩, ⟨_, rfl, .var hlf⟩, ⟨_, rfl, .arrS hmk⟩, trivial⟩)) ?_
  refine awp_seq (ag [(0, .id 803)] rfl ?_)
  refine awp_seq (awp_rg mixed ?_)
  refine ak 3 [] rfl ?_
  refine kc hp3 ?_
  refine az ?_
  refine awp_seq (ag [(8, .row made.length (encSup y))] rfl ?_)
  refine awp_seq (awp_seq (ag [] rfl ?_))
  have hkf : (free.map encS).length = free.length := List.length_map _
  refine awp_block ?_
  refine awp_loop (fun i : Nat => mk [(6, .one (.vp 6 0)), (12, .one (.vp 12 0)), (71, strsV free), (72, I .i64 ((free.map encS).length : Int)), (73, I .i64 i)] [(6, .var 38 zCells), (12, .var 38 (cellsC (appVars (varC (fname of made.length)) (free.take i)))), (801, mapO a), (810, lfO of (setBody r.2 made.length r.1)), (901, madeO (setBody r.2 made.length r.1))]) (fun i => i ≤ free.length) (fun i => free.length - i) 0 (Nat.zero_le _) (by
    exact sl (hh := ⟨⟨_, rfl, .var rfl⟩, ⟨_, rfl, .var rfl⟩, ⟨_, rfl, .map⟩, ⟨_, rfl, .var hlg⟩, ⟨_, rfl, .arrS hset.symm⟩, trivial⟩)) ?_
  intro i hi
  refine awp_seq (ag [] rfl ?_)
  refine awp_seq (awp_cond rfl (fun hb => ?_) (fun hb => ?_))
  · have hlt := ltD hb hkf
    obtain ⟨s, hs⟩ := get_of_lt hlt
    have hs' := getEnc encS hs
    refine awp_skip ?_
    refine awp_seq (awp_block (awp_seq (ag [(0, .row i (encS s))] rfl ?_)))
    refine ag [(3, .all)] rfl ?_
    refine ag [] rfl ?_
    refine ⟨i + 1, hlt, by dsimp only; omega, Sub.trans ?_ (vp 12 (encCore (appC (appVars (varC (fname of made.length)) (free.take i)) (varC s))))⟩
    dsimp only
    rw [take_step hs, appVars_snoc]
    exact sl
  have hge := geD hb hkf hi
  subst hge
  rw [List.take_length]
  refine awp_exit ?_
  refine awp_seq (ag [] rfl ?_)
  refine awp_ret ?_
  exact rtC trw

theorem c_ppart_step (c : Core) (ih : ∀ x, csize x < csize c → PpSpec x) : PpSpec c := by
  intro of a made hw hof hm hsz h5 hmd
  have hm0 : ∀ s, 0 ≤ cnt a s := fun s => (hm s).1
  by_cases hf : c.form = 5
  · have h := c_lambda c hf ih of a made hw hof hm hsz h5 hmd
    refine ⟨a, fun _ => rfl, ?_⟩
    generalize partR of false c (gset a) made = r at h ⊢
    refine impC (n := 19) tok Tryd.func43 rfl rfl rfl ?_
    refine awp_seq (ag [] rfl ?_)
    refine awp_seq (awp_seq (ag [] rfl ?_))
    refine awp_cond rfl (fun _ => ?_) (fun hb => absurd hf (of_decide_eq_false hb))
    refine awp_seq (awp_rg mixed ?_)
    refine ak 3 [] rfl ?_
    refine kc h ?_
    refine ak 1 [] rfl ?_
    refine az ?_
    refine awp_ret ?_
    exact rtC trw
  · obtain ⟨f, n, s, t, ks, bs, al⟩ := c
    have hf' : ¬ f = 5 := hf
    obtain ⟨a', ha, h⟩ := c_each hf' ih of a made hw hof hm hsz h5 hmd
    refine ⟨a', ha, ?_⟩
    generalize partR of false (.mk f n s t ks bs al) (gset a) made = r at h ⊢
    refine impC (n := 19) tok Tryd.func43 rfl rfl rfl ?_
    refine awp_seq (ag [(0, .id 700)] rfl ?_)
    refine awp_seq (awp_seq (ag [] rfl ?_))
    refine awp_cond rfl (fun hb => absurd (of_decide_eq_true hb) hf) (fun _ => ?_)
    refine awp_skip ?_
    refine awp_seq (awp_rg mixed ?_)
    refine ak 3 [] rfl ?_
    refine kc h ?_
    refine az ?_
    refine awp_seq (ag [] rfl ?_)
    refine awp_ret ?_
    exact rtC trw
theorem c_ppart : ∀ (n : Nat) (c : Core), csize c ≤ n → PpSpec c
  | 0, c, h => by have := csize_pos c; omega
  | n + 1, c, h => c_ppart_step c fun x hx => c_ppart n x (by omega)
end Go.Proofs.YtojcjjjpniimiaaDoor

/- ALL BINDS are lifted (the program's Lift): the walk. -/
namespace Go.Proofs.YtojcjjjpniimiaaDoor
open Go Go.AM
set_option maxRecDepth 20000

theorem c_Lift1 {m m' : CM} {of : Str} {made made' : List Sup} {c c' : Core}
    (hf : ImpC Tryd.prog 43 [.one (.vp 810 0), .pa (encCore c), .one (.mr 800)] (lH 800 of made m) (.pa (encCore c')) (lH 800 of made' m')) :
    ImpC Tryd.prog 42 ([R.vp 8 0, R.vp 7 0, R.vp 9 0].map V.one) [(800, mapO m), (8, .var 77 [.vp 810 0]), (7, .var 38 (cellsC c)), (9, .var mT [.mr 800]), (810, lfO of made), (901, madeO made)] (.tup []) [(800, mapO m'), (8, .var 77 [.vp 810 0]), (7, .var 38 (cellsC c')), (9, .var mT [.mr 800]), (810, lfO of made'), (901, madeO made')] := by
  refine impC (n := 7) tok Tryd.func42 rfl rfl rfl ?_
  refine awp_rg mixed ?_
  refine ak 3 [] rfl ?_
  refine kc hf ?_
  refine ak 1 [] rfl ?_
  refine az ?_
  exact ⟨.inl rfl, ⟨_, _, .nil, .nil, rfl⟩, ⟨⟨_, rfl, .map⟩, ⟨_, rfl, .var rfl⟩, ⟨_, rfl, .var rfl⟩, ⟨_, rfl, .var rfl⟩, ⟨_, rfl, .var rfl⟩, ⟨_, rfl, .arr⟩, trivial⟩, rfl⟩

/-- Binds that the program can lift. -/
structure POk (b : Bind) : Prop where
  ok : BOk b
  few : Few5 (chainB b.body) (fun x => decide (x ∈ chainN b.body))
  lams : lamsN (chainB b.body) ≤ 100000
  cn : (chainN b.body).length ≤ 200000

theorem c_Lift (l : List Bind) (hl : l.length ≤ 1000) (h : ∀ b ∈ l, POk b) : ImpC Tryd.prog 17 [.one (.c (.sl 15 (l.map encBind)))] [] (lifV (liftR l)) [(500, lifO (liftR l))] := by
  have hM : 1000000000 ≤ maxLen := by decide
  have hll := liftR_len fun b hb => (h b hb).ok
  refine impC (n := 48) tok Tryd.func17 rfl rfl rfl ?_
  refine awp_seq (ag [] rfl ?_)
  refine awp_seq (ag [] rfl ?_)
  refine AWp.sub (Sub.own (t := 3) (id := 500) 40 12 rfl rfl) ?_
  refine awp_seq (awp_seq (ag [] rfl ?_))
  refine awp_block ?_
  have hkl : (l.map encBind).length = l.length := List.length_map _
  refine awp_loop (fun i : Nat => mk [(10, .one (.c (.sl 15 (l.map encBind)))), (11, I .i64 ((l.map encBind).length : Int)), (3, lifV (liftR (l.take i))), (12, I .i64 i)] [(500, lifO (liftR (l.take i)))]) (fun i => i ≤ l.length) (fun i => l.length - i) 0 (Nat.zero_le _) sl ?_
  intro i hi
  refine awp_seq (ag [] rfl ?_)
  refine awp_seq (awp_cond rfl (fun hb => ?_) (fun hb => ?_))
  · have hlt := ltD hb hkl
    obtain ⟨b, hbi⟩ := get_of_lt hlt
    have hbi' := getEnc encBind hbi
    have hm := List.mem_of_getElem? hbi
    obtain ⟨⟨hw, hs, hn⟩, hfe, hla, hcn⟩ := h b hm
    obtain ⟨w1, w2, w3, w4, w5, w6⟩ := wf_chain _ b.body (Nat.le_refl _) hw
    have hch := c_pchain b.body w1 (by omega)
    have hsh : Short (chainN b.body) := fun s hs' => by have := w5 s hs'; omega
    have hpa := c_params (chainN b.body) hcn hsh
    have hst := liftR_step hbi
    rw [liftB_eq hw] at hst
    have hlm := liftR_len (l := l.take i) fun x hx => (h x (List.mem_of_mem_take hx)).ok
    rw [List.length_take] at hlm
    have hpl := part_len b.name (chainB b.body) false (fun x => decide (x ∈ chainN b.body)) []
    simp only [List.length_nil] at hpl
    have hti : ∀ s, 0 ≤ times s (chainN b.body) ∧ times s (chainN b.body) ≤ 200000 := fun s => by
      have := times_take s (chainN b.body) (chainN b.body).length
      rw [List.take_length] at this
      omega
    have hca : ∀ u, cnt (incs (chainN b.body) []) u = times u (chainN b.body) := fun u => by rw [cnt_incs]; show (0 : Int) + _ = _; omega
    obtain ⟨m2, hs2, hpt⟩ := c_ppart _ (chainB b.body) (Nat.le_refl _) b.name (incs (chainN b.body) []) [] w2 hn (fun u => by
      have := hti u
      rw [hca u]
      omega) (by omega) (by rw [gset_incs_nil]; exact hfe) (by simp; omega)
    rw [gset_incs_nil] at hpt
    generalize partR b.name false (chainB b.body) (fun x => decide (x ∈ chainN b.body)) [] = r at hpt hst hpl
    have hp1 := c_Lift1 (hpt.swap 801 800)
    have hp2 := c_inside (chainN b.body) [] m2 _ _ [800, 8, 7, 9, 810, 901] (by omega) (fun u => by show (0 : Int) ≤ (0 : Int) ∧ (0 : Int) ≤ _; omega) (fun u => by
      have := hti u
      have := hs2 u
      rw [hca u] at this
      omega) (fun x => ⟨rfl, by kernel_rfl⟩) (fun x => ⟨rfl, by kernel_rfl⟩) rfl (by kernel_rfl) hp1
    generalize liftR (l.take i) = X at hst hlm ⊢
    refine awp_skip ?_
    refine awp_seq (awp_block (awp_seq (ag [(0, .row i (encBind b))] rfl ?_)))
    refine awp_seq (ag [(2, .pc (.tup [strsV (chainN b.body), .pa (encCore (chainB b.body))]))] rfl ?_)
    refine awp_seq (ag [(3, .id 810)] rfl ?_)
    refine AWp.sub (Sub.ownCell (x := 810) (k := 1) (id := 901) 40 12 rfl rfl rfl) ?_
    refine awp_seq (ag [(0, .id 800)] rfl ?_)
    refine awp_seq (awp_rg mixed ?_)
    refine ak 3 [] rfl ?_
    refine kc hp2 ?_
    refine az ?_
    refine awp_seq (ag [(4, .pc (strsV (paramsR (chainN b.body))))] rfl ?_)
    refine ag [(5, .all)] rfl ?_
    refine ag [] rfl ?_
    refine ⟨i + 1, hlt, by dsimp only; omega, ?_⟩
    dsimp only
    rw [hst]
    have hrows : X.map encSup ++ [encSup (Sup.mk b.name (paramsR (chainN b.body)) r.1)] ++ r.2.map encSup = (X ++ Sup.mk b.name (paramsR (chainN b.body)) r.1 :: r.2).map encSup := by
      rw [List.map_append, List.append_assoc]; rfl
    exact sl (he := ⟨rfl, rfl, Go.AM.hs_ren (by simp; omega) (by simp; omega), rfl, trivial⟩) (hh := ⟨⟨_, rfl, .arrS hrows⟩, trivial⟩)
  have hge := geD hb hkl hi
  subst hge
  rw [List.take_length]
  refine awp_exit ?_
  refine awp_seq (ag [] rfl ?_)
  exact awp_ret (rtT (hc := .refl))
end Go.Proofs.YtojcjjjpniimiaaDoor
