/-
  Texts La26, La27, La28 in one.
-/
import Derived.Test.YtojcjjjpniimiaaDoorM15
/- WHICH NAMES ARE FREE (the program's scope.free): the walk. -/
namespace Go.Proofs.YtojcjjjpniimiaaDoor
open Go Go.AM
set_option maxRecDepth 20000

/-- The parts of core: the names that are given to each, and it. -/
def partsL (f : Int) (s : Str) (ks : List Core) (bs : List Bind) (al : List Alt) : List (List Str × Core) :=
  bs.map (fun b => (gvs f s bs, b.body)) ++ (ks.map (fun k => (gvs f s bs, k)) ++ al.map (fun a => (gvs f s bs ++ a.vars, a.body)))
def psum : List (List Str × Core) → Nat
  | [] => 0
  | p :: l => csize p.2 + psum l
theorem psum_app : ∀ a b : List (List Str × Core), psum (a ++ b) = psum a + psum b
  | [], b => by simp [psum]
  | p :: a, b => by rw [List.cons_append, psum, psum, psum_app a b]; omega
theorem psum_B (g : List Str) : ∀ l : List Bind, psum (l.map fun b => (g, b.body)) ≤ bsizes l
  | [] => Nat.zero_le _
  | b :: l => by rw [List.map_cons, psum, bsizes]; have := psum_B g l; have := bsize_body b; dsimp only; omega
theorem psum_K (g : List Str) : ∀ l : List Core, psum (l.map fun b => (g, b)) ≤ csizes l
  | [] => Nat.zero_le _
  | b :: l => by rw [List.map_cons, psum, csizes]; have := psum_K g l; dsimp only; omega
theorem psum_A (g : List Str) : ∀ l : List Alt, psum (l.map fun b => (g ++ b.vars, b.body)) ≤ asizes l
  | [] => Nat.zero_le _
  | b :: l => by rw [List.map_cons, psum, asizes]; have := psum_A g l; have := asize_body b; dsimp only; omega
theorem psum_all {f n : Int} {s : Str} {t : Ty} {ks : List Core} {bs : List Bind} {al : List Alt} : psum (partsL f s ks bs al) < csize (.mk f n s t ks bs al) := by
  unfold partsL
  rw [psum_app, psum_app, csize]
  have := psum_B (gvs f s bs) bs
  have := psum_K (gvs f s bs) ks
  have := psum_A (gvs f s bs) al
  omega
theorem psum_take {l : List (List Str × Core)} {i : Nat} {p : List Str × Core} (h : l[i]? = some p) : psum (l.take i) + csize p.2 ≤ psum l := by
  have h1 := List.take_append_drop (i + 1) l
  have h2 := psum_app (l.take (i + 1)) (l.drop (i + 1))
  rw [h1, take_step h, psum_app] at h2
  simp only [psum] at h2
  omega
/-- What each part is given, and its size, are less than the whole. -/
theorem parts_in {f n : Int} {s : Str} {t : Ty} {ks : List Core} {bs : List Bind} {al : List Alt} {p : List Str × Core} (h : p ∈ partsL f s ks bs al) : csize p.2 < csize (.mk f n s t ks bs al) ∧ p.1.length + csize p.2 ≤ csize (.mk f n s t ks bs al) := by
  have hg := gvs_len f s bs
  rw [csize]
  unfold partsL at h
  rcases List.mem_append.1 h with h | h
  · obtain ⟨b, hb, rfl⟩ := List.mem_map.1 h
    obtain ⟨i, hi⟩ := List.getElem?_of_mem hb
    have h1 := bsizes_take_mem hi
    have h2 := bsize_body b
    have h3 := bsizes_len (bs.take i)
    have h4 := (List.getElem?_eq_some_iff.1 hi).1
    rw [List.length_take] at h3
    dsimp only
    omega
  · have hbl := bsizes_len bs
    rcases List.mem_append.1 h with h | h
    · obtain ⟨k, hk, rfl⟩ := List.mem_map.1 h
      have := csizes_mem hk
      dsimp only
      omega
    · obtain ⟨a, ha, rfl⟩ := List.mem_map.1 h
      have h1 := asizes_mem ha
      have h2 := asize_body a
      have h3 := vsum_len a.vars
      dsimp only
      rw [List.length_append]
      omega
theorem freeR_parts (A : Str → Bool) {f n : Int} {s : Str} {t : Ty} {ks : List Core} {bs : List Bind} {al : List Alt} (hf : ¬ f = 1) (G : Str → Bool) (out : List Str) : freeR A (.mk f n s t ks bs al) G out = (partsL f s ks bs al).foldl (fun o p => freeR A p.2 (ext G p.1) o) out := by
  rw [freeR, if_neg hf, freeAs_fold, freeCs_fold, freeBs_fold]
  unfold partsL
  rw [List.foldl_append, List.foldl_append, List.foldl_map, List.foldl_map, List.foldl_map]
  simp only [ext_ext]
theorem foldl_len (A : Str → Bool) (G : Str → Bool) : ∀ (l : List (List Str × Core)) (out : List Str), (l.foldl (fun o p => freeR A p.2 (ext G p.1) o) out).length ≤ out.length + psum l
  | [], out => by simp [psum]
  | p :: l, out => by
    rw [List.foldl_cons, psum]
    have := foldl_len A G l (freeR A p.2 (ext G p.1) out)
    have := freeR_len A p.2 (ext G p.1) out
    omega
/-- What is given by counts. -/
def gset (m : CM) : Str → Bool := fun s => decide (0 < cnt m s)
theorem gset_incs {m : CM} (h : ∀ s, 0 ≤ cnt m s) (g : List Str) : gset (incs g m) = ext (gset m) g := by
  funext s
  unfold gset ext
  rw [cnt_incs]
  have h1 := h s
  unfold times
  rw [Bool.eq_iff_iff]
  simp only [decide_eq_true_eq, Bool.or_eq_true]
  have h2 : s ∈ g ↔ 0 < g.count s := List.count_pos_iff.symm
  rw [h2]
  omega
theorem gset_same {m m' : CM} (h : Same m m') : gset m = gset m' := by
  funext s; unfold gset; rw [h s]
theorem lookR_cnt (m : CM) (s : Str) : lookR ⟨.int .i64, 1, 8, [.int .i64 0]⟩ (mfind s (m.map encE)) = I .i64 (cnt m s) := by
  obtain ⟨r, hr, ⟨n, h1, h2⟩ | ⟨h1, h2⟩⟩ := look_cnt m s
  · rw [hr, h1, h2]; rfl
  · rw [hr, h1, h2]; rfl
def fH (m a : CM) (out : List Str) : List (Nat × AObj) := [(800, mapO m), (801, mapO a), (802, .var 31 [.hs 900 0 out.length out.length]), (900, outO out)]
def mT : Nat := 64
def FreSpec (c : Core) : Prop := ∀ (m a : CM) (out : List Str), (∀ s, 0 ≤ cnt m s ∧ cnt m s + csize c ≤ 1000000000) → csize c ≤ 400000 → out.length + csize c ≤ 1000000 →
  ∃ m', Same m m' ∧ ImpC Tryd.prog 90 [.one (.mr 800), .pa (encCore c), .one (.mr 801), .one (.vp 802 0)] (fH m a out) (.tup []) (fH m' a (freeR (gset a) c (gset m) out))
/-- The objects of the parts' loop, but for the counts. -/
def fL (ep : R) (g : List Str) (a : CM) (out : List Str) (ks : List Core) (bs : List Bind) (al : List Alt) : List (Nat × AObj) :=
  [(4, .var mT [.mr 800]), (9, .var 107 [ep, .c (.sl 1 (g.map encS))]), (6, .var mT [.mr 801]), (7, .var 126 [.vp 802 0]), (701, .arr 46 15 (encBinds bs) 0), (702, .arr 38 10 (encCores ks) 0), (703, .arr 69 14 (encAlts al) 0), (801, mapO a), (802, .var 31 [.hs 900 0 out.length out.length]), (900, outO out)]

theorem c_free1_B {m m' a : CM} {out out' : List Str} {ks : List Core} {bs : List Bind} {al : List Alt} (g : List Str) {i : Nat} {b : _} (hx : bs[i]? = some b)
    (hf : ImpC Tryd.prog 90 [.one (.mr 800), .pa (encCore b.body), .one (.mr 801), .one (.vp 802 0)] (fH m a out) (.tup []) (fH m' a out')) :
    ImpC Tryd.prog 98 ([R.vp 4 0, R.vp 9 0, R.vp 6 0, R.vp 7 0].map V.one) ((800, mapO m) :: fL (.ep 701 i 5 bs.length) g a out ks bs al) (.tup []) ((800, mapO m') :: fL (.ep 701 i 5 bs.length) g a out' ks bs al) := by
  have hx' : (encBinds bs)[i]? = some (encBind b) := by first | exact encBinds_at hx | exact encCores_at hx | exact encAlts_at hx
  have hl : bs.length = (encBinds bs).length := by first | rw [encBinds_map, List.length_map] | rw [encCores_map, List.length_map] | rw [encAlts_map, List.length_map]
  have hlt := (List.getElem?_eq_some_iff.1 hx).1
  refine impC (n := 12) tok Tryd.func98 rfl rfl rfl ?_
  refine awp_rg mixed ?_
  refine ak 7 [(4, .row i (encBind b))] rfl ?_
  refine kc hf ?_
  refine az ?_
  exact ⟨.inl rfl, ⟨_, _, .nil, .nil, rfl⟩, ⟨⟨_, rfl, .map⟩, ⟨_, rfl, .var rfl⟩, ⟨_, rfl, .var rfl⟩, ⟨_, rfl, .var rfl⟩, ⟨_, rfl, .var rfl⟩, ⟨_, rfl, .arr⟩, ⟨_, rfl, .arr⟩, ⟨_, rfl, .arr⟩, ⟨_, rfl, .map⟩, ⟨_, rfl, .var rfl⟩, ⟨_, rfl, .arr⟩, trivial⟩, rfl⟩

theorem c_free1_K {m m' a : CM} {out out' : List Str} {ks : List Core} {bs : List Bind} {al : List Alt} (g : List Str) {i : Nat} {k : _} (hx : ks[i]? = some k)
    (hf : ImpC Tryd.prog 90 [.one (.mr 800), .pa (encCore k), .one (.mr 801), .one (.vp 802 0)] (fH m a out) (.tup []) (fH m' a out')) :
    ImpC Tryd.prog 98 ([R.vp 4 0, R.vp 9 0, R.vp 6 0, R.vp 7 0].map V.one) ((800, mapO m) :: fL (.ep 702 i 0 ks.length) g a out ks bs al) (.tup []) ((800, mapO m') :: fL (.ep 702 i 0 ks.length) g a out' ks bs al) := by
  have hx' : (encCores ks)[i]? = some (encCore k) := by first | exact encBinds_at hx | exact encCores_at hx | exact encAlts_at hx
  have hl : ks.length = (encCores ks).length := by first | rw [encBinds_map, List.length_map] | rw [encCores_map, List.length_map] | rw [encAlts_map, List.length_map]
  have hlt := (List.getElem?_eq_some_iff.1 hx).1
  refine impC (n := 12) tok Tryd.func98 rfl rfl rfl ?_
  refine awp_rg mixed ?_
  refine ak 7 [(4, .row i (encCore k))] rfl ?_
  refine kc hf ?_
  refine az ?_
  exact ⟨.inl rfl, ⟨_, _, .nil, .nil, rfl⟩, ⟨⟨_, rfl, .map⟩, ⟨_, rfl, .var rfl⟩, ⟨_, rfl, .var rfl⟩, ⟨_, rfl, .var rfl⟩, ⟨_, rfl, .var rfl⟩, ⟨_, rfl, .arr⟩, ⟨_, rfl, .arr⟩, ⟨_, rfl, .arr⟩, ⟨_, rfl, .map⟩, ⟨_, rfl, .var rfl⟩, ⟨_, rfl, .arr⟩, trivial⟩, rfl⟩

theorem c_free1_A {m m' a : CM} {out out' : List Str} {ks : List Core} {bs : List Bind} {al : List Alt} (g : List Str) {i : Nat} {al1 : _} (hx : al[i]? = some al1)
    (hf : ImpC Tryd.prog 90 [.one (.mr 800), .pa (encCore al1.body), .one (.mr 801), .one (.vp 802 0)] (fH m a out) (.tup []) (fH m' a out')) :
    ImpC Tryd.prog 98 ([R.vp 4 0, R.vp 9 0, R.vp 6 0, R.vp 7 0].map V.one) ((800, mapO m) :: fL (.ep 703 i 4 al.length) g a out ks bs al) (.tup []) ((800, mapO m') :: fL (.ep 703 i 4 al.length) g a out' ks bs al) := by
  have hx' : (encAlts al)[i]? = some (encAlt al1) := by first | exact encBinds_at hx | exact encCores_at hx | exact encAlts_at hx
  have hl : al.length = (encAlts al).length := by first | rw [encBinds_map, List.length_map] | rw [encCores_map, List.length_map] | rw [encAlts_map, List.length_map]
  have hlt := (List.getElem?_eq_some_iff.1 hx).1
  refine impC (n := 12) tok Tryd.func98 rfl rfl rfl ?_
  refine awp_rg mixed ?_
  refine ak 7 [(4, .row i (encAlt al1))] rfl ?_
  refine kc hf ?_
  refine az ?_
  exact ⟨.inl rfl, ⟨_, _, .nil, .nil, rfl⟩, ⟨⟨_, rfl, .map⟩, ⟨_, rfl, .var rfl⟩, ⟨_, rfl, .var rfl⟩, ⟨_, rfl, .var rfl⟩, ⟨_, rfl, .var rfl⟩, ⟨_, rfl, .arr⟩, ⟨_, rfl, .arr⟩, ⟨_, rfl, .arr⟩, ⟨_, rfl, .map⟩, ⟨_, rfl, .var rfl⟩, ⟨_, rfl, .arr⟩, trivial⟩, rfl⟩

theorem Same.decs {m m' : CM} {g : List Str} (h : Same (incs g m) m') : Same m (decs g m') := fun s => by
  have h1 := h s
  rw [cnt_incs] at h1
  rw [cnt_decs, ← h1]
  omega

theorem exists_seq {α : Type} {P : Nat → α → Prop} {R : Nat → α → α → Prop} (x0 : α) (h0 : P 0 x0) (h : ∀ i x, P i x → ∃ y, P (i + 1) y ∧ R i x y) : ∃ s : Nat → α, s 0 = x0 ∧ (∀ i, P i (s i)) ∧ ∀ i, R i (s i) (s (i + 1)) := by
  let f : (i : Nat) → { x : α // P i x } := fun i => Nat.rec ⟨x0, h0⟩ (fun i x => ⟨Classical.choose (h i x.1 x.2), (Classical.choose_spec (h i x.1 x.2)).1⟩) i
  exact ⟨fun i => (f i).1, rfl, fun i => (f i).2, fun i => (Classical.choose_spec (h i (f i).1 (f i).2)).2⟩
theorem pRows_len (f : Int) (s : Str) (ks : List Core) (bs : List Bind) (al : List Alt) : (pRows f s ks bs al).length = bs.length + (ks.length + al.length) := by
  unfold pRows; rw [List.length_append, List.length_append, prowB_len, prowK_len, prowA_len]
theorem partsL_len (f : Int) (s : Str) (ks : List Core) (bs : List Bind) (al : List Alt) : (partsL f s ks bs al).length = bs.length + (ks.length + al.length) := by
  unfold partsL; simp
/-- The part at a place: of which kind it is. -/
theorem parts_at (f : Int) (s : Str) (ks : List Core) (bs : List Bind) (al : List Alt) {i : Nat} (hi : i < (pRows f s ks bs al).length) :
    (∃ j b, bs[j]? = some b ∧ (pRows f s ks bs al)[i]? = some (prow 701 5 bs.length (gvs f s bs) j) ∧ (partsL f s ks bs al)[i]? = some (gvs f s bs, b.body) ∧ i = j) ∨
    (∃ j k, ks[j]? = some k ∧ (pRows f s ks bs al)[i]? = some (prow 702 0 ks.length (gvs f s bs) j) ∧ (partsL f s ks bs al)[i]? = some (gvs f s bs, k) ∧ i = bs.length + j) ∨
    (∃ j a, al[j]? = some a ∧ (pRows f s ks bs al)[i]? = some (prow 703 4 al.length (gvs f s bs ++ a.vars) j) ∧ (partsL f s ks bs al)[i]? = some (gvs f s bs ++ a.vars, a.body) ∧ i = bs.length + (ks.length + j)) := by
  rw [pRows_len] at hi
  have e1 : ∀ n j, j < n → (List.range n)[j]? = some j := fun n j h => by rw [List.getElem?_range h]
  by_cases h1 : i < bs.length
  · obtain ⟨b, hb⟩ := get_of_lt h1
    refine .inl ⟨i, b, hb, ?_, ?_, rfl⟩
    · unfold pRows prowB
      rw [List.getElem?_append_left (by simpa using h1), List.getElem?_map, e1 _ _ h1]; rfl
    · unfold partsL
      rw [List.getElem?_append_left (by simpa using h1), List.getElem?_map, hb]; rfl
  · by_cases h2 : i - bs.length < ks.length
    · obtain ⟨k, hk⟩ := get_of_lt h2
      refine .inr (.inl ⟨i - bs.length, k, hk, ?_, ?_, by omega⟩)
      · unfold pRows
        rw [List.getElem?_append_right (by rw [prowB_len]; omega), prowB_len, List.getElem?_append_left (by rw [prowK_len]; omega)]
        unfold prowK
        rw [List.getElem?_map, e1 _ _ h2]; rfl
      · unfold partsL
        rw [List.getElem?_append_right (by rw [List.length_map]; omega), List.length_map, List.getElem?_append_left (by rw [List.length_map]; omega), List.getElem?_map, hk]; rfl
    · have h3 : i - bs.length - ks.length < al.length := by omega
      obtain ⟨a, ha⟩ := get_of_lt h3
      refine .inr (.inr ⟨i - bs.length - ks.length, a, ha, ?_, ?_, by omega⟩)
      · unfold pRows
        rw [List.getElem?_append_right (by rw [prowB_len]; omega), prowB_len, List.getElem?_append_right (by rw [prowK_len]; omega), prowK_len]
        unfold prowA
        rw [List.getElem?_map, e1 _ _ h3]
        show some (prow 703 4 al.length (gvs f s bs ++ varsAt al (i - bs.length - ks.length)) _) = _
        rw [show varsAt al (i - bs.length - ks.length) = a.vars by unfold varsAt; rw [ha]; rfl]
      · unfold partsL
        rw [List.getElem?_append_right (by rw [List.length_map]; omega), List.length_map, List.getElem?_append_right (by rw [List.length_map]; omega), List.length_map, List.getElem?_map, ha]; rfl
theorem wfF (ep : R) (g : List Str) (a : CM) (out : List Str) (ks : List Core) (bs : List Bind) (al : List Alt) (h : ep.refs = [701] ∨ ep.refs = [702] ∨ ep.refs = [703]) (x : CM) : Wf [800, 4, 9, 6, 7, 701, 702, 703, 801, 802, 900] ((800, mapO x) :: fL ep g a out ks bs al) := by
  refine ⟨rfl, ?_⟩
  rcases h with h | h | h <;> simp [fL, refsH, AObj.refs, mapO, outO, R.refsL, R.refs, h, subset, AObj.live, AObj.plain] <;> rfl

theorem c_pfree_step (c : Core) (ih : ∀ x, csize x < csize c → FreSpec x) : FreSpec c := by
  intro m a out hm hsz ho
  obtain ⟨f, n, s, t, ks, bs, al⟩ := c
  by_cases hf : f = 1
  · refine ⟨m, fun _ => rfl, ?_⟩
    have hr : freeR (gset a) (.mk f n s t ks bs al) (gset m) out = if gset a s && !gset m s && !decide (s ∈ out) then out ++ [s] else out := by rw [freeR, if_pos hf]
    rw [hr]
    have hmo := mstr_enc m
    have hao := mstr_enc a
    have hlm := lookR_cnt m s
    have hla := lookR_cnt a s
    have hco := c_contains out s (by omega)
    have h0 := (hm s).1
    refine impC (n := 55) tok Tryd.func90 rfl rfl rfl ?_
    refine AWp.sub (Sub.freeze (id := 900) rfl) ?_
    refine awp_seq (ag [(1, .id 700)] rfl ?_)
    refine awp_seq (awp_seq (ag [] rfl ?_))
    refine awp_cond rfl (fun _ => ?_) (fun hb => absurd hf (of_decide_eq_false hb))
    refine awp_seq (awp_seq (agF 6 [(3, .pc (I .i64 (cnt m s))), (9, .pc (I .i64 (cnt a s))), (18, .pc (B (decide (s ∈ out))))] rfl rfl rfl ?_))
    refine awp_cond rfl (fun hb => ?_) (fun hb => ?_)
    · have hc : (gset a s && !gset m s && !decide (s ∈ out)) = true := by
        unfold gset
        by_cases e1 : cnt m s = 0 <;> by_cases e2 : 0 < cnt a s <;> by_cases e3 : s ∈ out <;> simp [e1, e2, e3] at hb ⊢
      rw [if_pos hc]
      refine ag [] rfl ?_
      refine awp_ret ?_
      exact ⟨.inr rfl, ⟨_, _, .nil, .nil, rfl⟩, ⟨⟨_, rfl, .map⟩, ⟨_, rfl, .map⟩, ⟨_, rfl, .var (by simp [R.renL, R.ren])⟩, ⟨_, rfl, by first | exact Go.AM.Ole.arrE (by simp; rfl) | exact Go.AM.Ole.arrS (by simp; rfl)⟩, trivial⟩, rfl⟩
    · have hc : ¬ (gset a s && !gset m s && !decide (s ∈ out)) = true := by
        unfold gset
        by_cases e1 : cnt m s = 0
        · by_cases e2 : 0 < cnt a s <;> by_cases e3 : s ∈ out <;> simp [e1, e2, e3] at hb ⊢
        · have e4 : 0 < cnt m s := by omega
          simp [e4]
      rw [if_neg hc]
      refine awp_skip ?_
      refine awp_ret ?_
      exact ⟨.inr rfl, ⟨_, _, .nil, .nil, rfl⟩, ⟨⟨_, rfl, .map⟩, ⟨_, rfl, .map⟩, ⟨_, rfl, .var rfl⟩, ⟨_, rfl, .arr1⟩, trivial⟩, rfl⟩
  · have hm0 : ∀ s, 0 ≤ cnt m s := fun s => (hm s).1
    rw [freeR_parts (gset a) hf]
    have hps := @psum_all f n s t ks bs al
    have hN : (pRows f s ks bs al).length = (partsL f s ks bs al).length := by rw [pRows_len, partsL_len]
    have hin : ∀ p ∈ partsL f s ks bs al, _ := fun p hp => @parts_in f n s t ks bs al p hp
    have hptk : ∀ {i p}, (partsL f s ks bs al)[i]? = some p → _ := fun {i p} h => psum_take h
    have hfl := fun i => foldl_len (gset a) (gset m) ((partsL f s ks bs al).take i) out
    have hpt : ∀ i, ∀ p, (partsL f s ks bs al)[i]? = some p → ((partsL f s ks bs al).take (i + 1)).foldl (fun o p => freeR (gset a) p.2 (ext (gset m) p.1) o) out = freeR (gset a) p.2 (ext (gset m) p.1) (((partsL f s ks bs al).take i).foldl (fun o p => freeR (gset a) p.2 (ext (gset m) p.1) o) out) := fun i p h => fold_step _ _ h
    have hat := @parts_at f s ks bs al
    have hcp := c_parts f n s t ks bs al hsz
    have hrr : ∀ x ∈ (pObj (pRows f s ks bs al)).refs, x ∈ pRefs.refs := rows_refs
    have hPN : (partsL f s ks bs al).take (pRows f s ks bs al).length = partsL f s ks bs al := by rw [hN, List.take_length]
    rw [← hPN]
    generalize partsL f s ks bs al = L at hps hN hin hptk hfl hpt hat hPN ⊢
    generalize pRows f s ks bs al = rows at hN hat hcp hrr hPN ⊢
    obtain ⟨sq, hs0, hsP, hsR⟩ := exists_seq (P := fun _ x => Same m x) (R := fun i x y => ∀ p, L[i]? = some p → ∃ m', y = decs p.1 m' ∧ Same (incs p.1 x) m' ∧ ImpC Tryd.prog 90 [.one (.mr 800), .pa (encCore p.2), .one (.mr 801), .one (.vp 802 0)] (fH (incs p.1 x) a ((L.take i).foldl (fun o p => freeR (gset a) p.2 (ext (gset m) p.1) o) out)) (.tup []) (fH m' a ((L.take (i + 1)).foldl (fun o p => freeR (gset a) p.2 (ext (gset m) p.1) o) out))) m (fun _ => rfl) (fun i x hx => by
      cases hp : L[i]? with
      | none => exact ⟨x, hx, fun p h => by cases h⟩
      | some p =>
        obtain ⟨q1, q2⟩ := hin p (List.mem_of_getElem? hp)
        have q3 : psum (L.take i) + csize p.2 ≤ psum L := hptk hp
        have q4 := hfl i
        have hx0 : ∀ s, 0 ≤ cnt x s := fun s => by rw [← hx s]; exact hm0 s
        obtain ⟨m', g1, g2⟩ := ih p.2 q1 (incs p.1 x) a ((L.take i).foldl (fun o p => freeR (gset a) p.2 (ext (gset m) p.1) o) out) (fun s => by
          have h1 := hm s
          have h2 := hx s
          have h3 := cnt_incs s p.1 x
          have h4 : 0 ≤ times s p.1 ∧ times s p.1 ≤ p.1.length := by
            unfold times
            have := List.count_le_length (a := s) (l := p.1)
            omega
          omega) (by omega) (by omega)
        rw [gset_incs hx0, ← gset_same hx, ← hpt i p hp] at g2
        exact ⟨decs p.1 m', fun s => by rw [hx s]; exact Same.decs g1 s, fun p' h => by cases h; exact ⟨m', rfl, g1, g2⟩⟩)
    refine ⟨sq rows.length, hsP _, ?_⟩
    have hrl : rows.length ≤ 800000 := by
      rw [hN]
      have : ∀ l : List (List Str × Core), l.length ≤ psum l := by
        intro l
        induction l with
        | nil => exact Nat.zero_le _
        | cons p l ih => rw [List.length_cons, psum]; have := csize_pos p.2; omega
      have := this L
      omega
    refine impC (n := 55) tok Tryd.func90 rfl rfl rfl ?_
    refine awp_seq (ag [(1, .id 700)] rfl ?_)
    refine awp_seq (awp_seq (ag [] rfl ?_))
    refine awp_cond rfl (fun hb => absurd (of_decide_eq_true hb) hf) (fun _ => ?_)
    refine awp_skip ?_
    refine awp_seq (awp_rg mixed ?_)
    refine kc hcp ?_
    refine ak 2 [] rfl ?_
    refine az ?_
    refine awp_block ?_
    refine awp_loop (fun i : Nat => mk [(4, .one (.vp 4 0)), (6, .one (.vp 6 0)), (7, .one (.vp 7 0)), (43, .one (.ra 704 0 rows.length rows.length)), (44, I .i64 ((rows.length : Nat) : Int)), (45, I .i64 i)] ((704, pObj rows) :: [(4, .var mT [.mr 800]), (6, .var mT [.mr 801]), (7, .var 126 [.vp 802 0]), (701, .arr 46 15 (encBinds bs) 0), (702, .arr 38 10 (encCores ks) 0), (703, .arr 69 14 (encAlts al) 0), (800, mapO (sq i)), (801, mapO a), (802, .var 31 [.hs 900 0 ((L.take i).foldl (fun o p => freeR (gset a) p.2 (ext (gset m) p.1) o) out).length ((L.take i).foldl (fun o p => freeR (gset a) p.2 (ext (gset m) p.1) o) out).length]), (900, outO ((L.take i).foldl (fun o p => freeR (gset a) p.2 (ext (gset m) p.1) o) out))])) (fun i => i ≤ rows.length) (fun i => rows.length - i) 0 (Nat.zero_le _) (by rw [hs0]; exact slR pRefs hrr ⟨_, rfl, .rarrS rfl⟩) ?_
    intro i hi
    refine awp_seq (ag [] rfl ?_)
    refine awp_seq (awp_cond rfl (fun hb => ?_) (fun hb => ?_))
    · have hlt : i < rows.length := by
        have : (i : Int) < (rows.length : Int) := of_decide_eq_true hb
        omega
      refine awp_skip ?_
      refine awp_seq (awp_block ?_)
      rcases hat hlt with ⟨j, b, hb', hro, hpa, _⟩ | ⟨j, k, hk', hro, hpa, _⟩ | ⟨j, al', ha', hro, hpa, _⟩
      · obtain ⟨m', e1, e2, e3⟩ := hsR i _ hpa
        obtain ⟨q1, q2⟩ := hin _ (List.mem_of_getElem? hpa)
        have hx := hsP i
        have hc1 := c_free1_B (ks := ks) (bs := bs) (al := al) (gvs f s bs) hb' e3
        have hci := c_inside (gvs f s bs) (sq i) m' _ _ [800, 4, 9, 6, 7, 701, 702, 703, 801, 802, 900] (by dsimp only at q2; omega) (fun u => by have := hm u; have := hx u; omega) (fun u => by
          have h1 := hm u
          have h2 := hx u
          have h3 := e2 u
          rw [cnt_incs] at h3
          have h4 : 0 ≤ times u (gvs f s bs) ∧ times u (gvs f s bs) ≤ (gvs f s bs).length := by
            unfold times
            have := List.count_le_length (a := u) (l := gvs f s bs)
            omega
          dsimp only at q2 h3
          omega) (wfF _ _ _ _ _ _ _ (by simp [R.refs])) (wfF _ _ _ _ _ _ _ (by simp [R.refs])) rfl (by kernel_rfl) hc1
        dsimp only at e1
        rw [← e1] at hci
        refine awp_seq (ag [(1, .rr (prow 701 5 bs.length (gvs f s bs) j))] rfl ?_)
        refine awp_rg mixed ?_
        refine ak 4 [] rfl ?_
        refine kc hci ?_
        refine az ?_
        refine ag [] rfl ?_
        exact ⟨i + 1, hlt, by dsimp only; omega, slR pRefs hrr ⟨_, rfl, .rarrS rfl⟩⟩
      · obtain ⟨m', e1, e2, e3⟩ := hsR i _ hpa
        obtain ⟨q1, q2⟩ := hin _ (List.mem_of_getElem? hpa)
        have hx := hsP i
        have hc1 := c_free1_K (ks := ks) (bs := bs) (al := al) (gvs f s bs) hk' e3
        have hci := c_inside (gvs f s bs) (sq i) m' _ _ [800, 4, 9, 6, 7, 701, 702, 703, 801, 802, 900] (by dsimp only at q2; omega) (fun u => by have := hm u; have := hx u; omega) (fun u => by
          have h1 := hm u
          have h2 := hx u
          have h3 := e2 u
          rw [cnt_incs] at h3
          have h4 : 0 ≤ times u (gvs f s bs) ∧ times u (gvs f s bs) ≤ (gvs f s bs).length := by
            unfold times
            have := List.count_le_length (a := u) (l := gvs f s bs)
            omega
          dsimp only at q2 h3
          omega) (wfF _ _ _ _ _ _ _ (by simp [R.refs])) (wfF _ _ _ _ _ _ _ (by simp [R.refs])) rfl (by kernel_rfl) hc1
        dsimp only at e1
        rw [← e1] at hci
        refine awp_seq (ag [(1, .rr (prow 702 0 ks.length (gvs f s bs) j))] rfl ?_)
        refine awp_rg mixed ?_
        refine ak 4 [] rfl ?_
        refine kc hci ?_
        refine az ?_
        refine ag [] rfl ?_
        exact ⟨i + 1, hlt, by dsimp only; omega, slR pRefs hrr ⟨_, rfl, .rarrS rfl⟩⟩
      · obtain ⟨m', e1, e2, e3⟩ := hsR i _ hpa
        obtain ⟨q1, q2⟩ := hin _ (List.mem_of_getElem? hpa)
        have hx := hsP i
        have hc1 := c_free1_A (ks := ks) (bs := bs) (al := al) (gvs f s bs ++ al'.vars) ha' e3
        have hci := c_inside (gvs f s bs ++ al'.vars) (sq i) m' _ _ [800, 4, 9, 6, 7, 701, 702, 703, 801, 802, 900] (by dsimp only at q2; omega) (fun u => by have := hm u; have := hx u; omega) (fun u => by
          have h1 := hm u
          have h2 := hx u
          have h3 := e2 u
          rw [cnt_incs] at h3
          have h4 : 0 ≤ times u (gvs f s bs ++ al'.vars) ∧ times u (gvs f s bs ++ al'.vars) ≤ (gvs f s bs ++ al'.vars).length := by
            unfold times
            have := List.count_le_length (a := u) (l := gvs f s bs ++ al'.vars)
            omega
          dsimp only at q2 h3
          omega) (wfF _ _ _ _ _ _ _ (by simp [R.refs])) (wfF _ _ _ _ _ _ _ (by simp [R.refs])) rfl (by kernel_rfl) hc1
        dsimp only at e1
        rw [← e1] at hci
        refine awp_seq (ag [(1, .rr (prow 703 4 al.length (gvs f s bs ++ al'.vars) j))] rfl ?_)
        refine awp_rg mixed ?_
        refine ak 4 [] rfl ?_
        refine kc hci ?_
        refine az ?_
        refine ag [] rfl ?_
        exact ⟨i + 1, hlt, by dsimp only; omega, slR pRefs hrr ⟨_, rfl, .rarrS rfl⟩⟩
    have hge : i = rows.length := by
      have : ¬ (i : Int) < (rows.length : Int) := of_decide_eq_false hb
      omega
    subst hge
    refine awp_exit ?_
    exact ⟨.inl rfl, ⟨_, _, .nil, .nil, rfl⟩, ⟨⟨_, rfl, .map⟩, ⟨_, rfl, .map⟩, ⟨_, rfl, .var rfl⟩, ⟨_, rfl, .arr⟩, trivial⟩, rfl⟩
theorem c_pfree : ∀ (n : Nat) (c : Core), csize c ≤ n → FreSpec c
  | 0, c, h => by have := csize_pos c; omega
  | n + 1, c, h => c_pfree_step c fun x hx => c_pfree n x (by omega)
end Go.Proofs.YtojcjjjpniimiaaDoor

/- HOW MANY LAMBDAS there are, and which names: what keeps numbers small. -/
namespace Go.Proofs.YtojcjjjpniimiaaDoor
open Go Go.AM
set_option maxRecDepth 20000

mutual
def lamsN : Core → Nat
  | .mk f _ _ _ ks bs al => (if f = 5 then 1 else 0) + lamsCs ks + lamsBs bs + lamsAs al
def lamsCs : List Core → Nat
  | [] => 0
  | c :: l => lamsN c + lamsCs l
def lamsBs : List Bind → Nat
  | [] => 0
  | .mk _ _ c :: l => lamsN c + lamsBs l
def lamsAs : List Alt → Nat
  | [] => 0
  | .mk _ _ _ _ c :: l => lamsN c + lamsAs l
end
theorem lamsCs_at : ∀ {l : List Core} {i : Nat} {c : Core}, l[i]? = some c → lamsCs (l.take i) + lamsN c ≤ lamsCs l
  | d :: l, 0, c, h => by simp at h; subst h; rw [List.take_zero, lamsCs, lamsCs]; omega
  | d :: l, i + 1, c, h => by
    have := lamsCs_at (l := l) (i := i) (c := c) (by simpa using h)
    rw [List.take_succ_cons, lamsCs, lamsCs]; omega
theorem lamsBs_at : ∀ {l : List Bind} {i : Nat} {c : Bind}, l[i]? = some c → lamsBs (l.take i) + lamsN c.body ≤ lamsBs l
  | .mk s t d :: l, 0, c, h => by simp at h; subst h; rw [List.take_zero, lamsBs, lamsBs]; show 0 + lamsN d ≤ _; omega
  | .mk s t d :: l, i + 1, c, h => by
    have := lamsBs_at (l := l) (i := i) (c := c) (by simpa using h)
    rw [List.take_succ_cons, lamsBs, lamsBs]; omega
theorem lamsAs_at : ∀ {l : List Alt} {i : Nat} {c : Alt}, l[i]? = some c → lamsAs (l.take i) + lamsN c.body ≤ lamsAs l
  | .mk f n s v d :: l, 0, c, h => by simp at h; subst h; rw [List.take_zero, lamsAs, lamsAs]; show 0 + lamsN d ≤ _; omega
  | .mk f n s v d :: l, i + 1, c, h => by
    have := lamsAs_at (l := l) (i := i) (c := c) (by simpa using h)
    rw [List.take_succ_cons, lamsAs, lamsAs]; omega
theorem lamsCs_le : ∀ (l : List Core) (i : Nat), lamsCs (l.take i) ≤ lamsCs l
  | [], i => by simp
  | c :: l, 0 => by rw [List.take_zero, lamsCs]; exact Nat.zero_le _
  | c :: l, i + 1 => by rw [List.take_succ_cons, lamsCs, lamsCs]; have := lamsCs_le l i; omega
theorem lamsBs_le : ∀ (l : List Bind) (i : Nat), lamsBs (l.take i) ≤ lamsBs l
  | [], i => by simp
  | c :: l, 0 => by rw [List.take_zero, lamsBs]; exact Nat.zero_le _
  | .mk s t c :: l, i + 1 => by rw [List.take_succ_cons, lamsBs, lamsBs]; have := lamsBs_le l i; omega
theorem lamsAs_le : ∀ (l : List Alt) (i : Nat), lamsAs (l.take i) ≤ lamsAs l
  | [], i => by simp
  | c :: l, 0 => by rw [List.take_zero, lamsAs]; exact Nat.zero_le _
  | .mk f n s v c :: l, i + 1 => by rw [List.take_succ_cons, lamsAs, lamsAs]; have := lamsAs_le l i; omega
mutual
theorem part_few (of : Str) : ∀ (c : Core) (ch : Bool) (A : Str → Bool) (made : List Sup), (partR of ch c A made).2.length ≤ made.length + lamsN c
  | .mk f n s t ks bs al, ch, A, made => by
    rw [partR, lamsN]
    split
    · split
      · have := partK_few of ks A made; omega
      · have hp := partK_few of ks (fun x => decide (x ∈ freeR A (.mk f n s t ks bs al) (fun _ => false) [] ++ (s :: chainNs ks))) (made ++ [⟨fname of made.length, paramsR (freeR A (.mk f n s t ks bs al) (fun _ => false) [] ++ (s :: chainNs ks)), zCore⟩])
        rw [List.length_append, List.length_singleton] at hp
        dsimp only
        rw [setBody_len]
        omega
    · have h1 := partBs_few of bs (ext A (gvs f s bs)) made
      have h2 := partCs_few of ks (ext A (gvs f s bs)) (partBs of bs (ext A (gvs f s bs)) made).2
      have h3 := partAs_few of al (ext A (gvs f s bs)) (partCs of ks (ext A (gvs f s bs)) (partBs of bs (ext A (gvs f s bs)) made).2).2
      dsimp only
      omega
theorem partK_few (of : Str) : ∀ (l : List Core) (A : Str → Bool) (made : List Sup), (partK of l A made).2.length ≤ made.length + lamsCs l
  | [], _, made => by rw [partK]; exact Nat.le_add_right _ _
  | c :: l, A, made => by
    rw [partK, lamsCs]
    have := part_few of c true A made
    omega
theorem partCs_few (of : Str) : ∀ (l : List Core) (A : Str → Bool) (made : List Sup), (partCs of l A made).2.length ≤ made.length + lamsCs l
  | [], _, made => by rw [partCs]; exact Nat.le_add_right _ _
  | c :: l, A, made => by
    rw [partCs, lamsCs]
    have h1 := part_few of c false A made
    have h2 := partCs_few of l A (partR of false c A made).2
    dsimp only
    omega
theorem partBs_few (of : Str) : ∀ (l : List Bind) (A : Str → Bool) (made : List Sup), (partBs of l A made).2.length ≤ made.length + lamsBs l
  | [], _, made => by rw [partBs]; exact Nat.le_add_right _ _
  | .mk s t c :: l, A, made => by
    rw [partBs, lamsBs]
    have h1 := part_few of c false A made
    have h2 := partBs_few of l A (partR of false c A made).2
    dsimp only
    omega
theorem partAs_few (of : Str) : ∀ (l : List Alt) (A : Str → Bool) (made : List Sup), (partAs of l A made).2.length ≤ made.length + lamsAs l
  | [], _, made => by rw [partAs]; exact Nat.le_add_right _ _
  | .mk f n s vs c :: l, A, made => by
    rw [partAs, lamsAs]
    have h1 := part_few of c false (ext A vs) made
    have h2 := partAs_few of l A (partR of false c (ext A vs) made).2
    dsimp only
    omega
end
mutual
/-- Names are some. -/
def nmR : Core → Bool
  | .mk f _ s _ ks bs al => (if f = 5 then decide (s ∈ nmL) else true) && (nmCs ks && (nmBs bs && nmAs al))
def nmCs : List Core → Bool
  | [] => true
  | c :: l => nmR c && nmCs l
def nmBs : List Bind → Bool
  | [] => true
  | .mk s _ c :: l => (decide (s ∈ nmL) && nmR c) && nmBs l
def nmAs : List Alt → Bool
  | [] => true
  | .mk _ _ _ v c :: l => (v.all (fun s => decide (s ∈ nmL)) && nmR c) && nmAs l
end
theorem nmCs_mem : ∀ {l : List Core}, nmCs l = true → ∀ x ∈ l, nmR x = true
  | c :: l, h, x, hx => by
    rw [nmCs, Bool.and_eq_true] at h
    rcases List.mem_cons.1 hx with rfl | hx
    · exact h.1
    · exact nmCs_mem h.2 x hx
theorem nmBs_mem : ∀ {l : List Bind}, nmBs l = true → ∀ x ∈ l, x.name ∈ nmL ∧ nmR x.body = true
  | .mk s t c :: l, h, x, hx => by
    simp only [nmBs, Bool.and_eq_true] at h
    rcases List.mem_cons.1 hx with rfl | hx
    · exact ⟨of_decide_eq_true h.1.1, h.1.2⟩
    · exact nmBs_mem h.2 x hx
theorem nmAs_mem : ∀ {l : List Alt}, nmAs l = true → ∀ x ∈ l, (∀ s ∈ x.vars, s ∈ nmL) ∧ nmR x.body = true
  | .mk f n s v c :: l, h, x, hx => by
    simp only [nmAs, Bool.and_eq_true] at h
    rcases List.mem_cons.1 hx with rfl | hx
    · exact ⟨fun u hu => of_decide_eq_true (List.all_eq_true.1 h.1.1 u hu), h.1.2⟩
    · exact nmAs_mem h.2 x hx
theorem nm_gvs {f n : Int} {s : Str} {t : Ty} {ks : List Core} {bs : List Bind} {al : List Alt} (h : nmR (.mk f n s t ks bs al) = true) : ∀ x ∈ gvs f s bs, x ∈ nmL := by
  simp only [nmR, Bool.and_eq_true] at h
  intro x hx
  rcases List.mem_append.1 hx with hx | hx
  · split at hx
    · rename_i hf
      rw [if_pos hf] at h
      simp only [List.mem_singleton] at hx
      subst hx
      exact of_decide_eq_true h.1
    · simp at hx
  · obtain ⟨b, hb, rfl⟩ := List.mem_map.1 hx
    exact (nmBs_mem h.2.2.1 b hb).1
theorem nm_chain : ∀ (m : Nat) (c : Core), csize c ≤ m → wfR c = true → nmR c = true → (∀ s ∈ chainN c, s ∈ nmL) ∧ nmR (chainB c) = true ∧ (chainN c).length + lamsN (chainB c) ≤ lamsN c := by
  intro m
  induction m with
  | zero => intro c hc; have := csize_pos c; omega
  | succ m ih =>
    intro c hc hw h
    obtain ⟨f, n, s, t, ks, bs, al⟩ := c
    have hn := h
    simp only [wfR, Bool.and_eq_true] at hw
    simp only [nmR, Bool.and_eq_true] at hn
    by_cases hf : f = 5
    · cases ks with
      | nil => simp [hf] at hw
      | cons k ks =>
        rw [csize, csizes] at hc
        have hk := hw.2.1
        rw [wfCs, Bool.and_eq_true] at hk
        have hk2 := hn.2.1
        rw [nmCs, Bool.and_eq_true] at hk2
        obtain ⟨h1, h2, h3⟩ := ih k (by omega) hk.1 hk2.1
        rw [if_pos hf] at hn
        rw [chainN, chainB, if_pos hf, if_pos hf, chainNs, chainBs, lamsN, lamsCs, if_pos hf, List.length_cons]
        refine ⟨fun x hx => ?_, h2, by omega⟩
        rcases List.mem_cons.1 hx with rfl | hx
        · exact of_decide_eq_true hn.1
        · exact h1 x hx
    · rw [chainN, chainB, if_neg hf, if_neg hf]
      exact ⟨by simp, h, by simp⟩
theorem lams_chain : ∀ (m : Nat) (c : Core), csize c ≤ m → wfR c = true → (chainN c).length + lamsN (chainB c) ≤ lamsN c := by
  intro m
  induction m with
  | zero => intro c hc; have := csize_pos c; omega
  | succ m ih =>
    intro c hc hw
    obtain ⟨f, n, s, t, ks, bs, al⟩ := c
    simp only [wfR, Bool.and_eq_true] at hw
    by_cases hf : f = 5
    · cases ks with
      | nil => simp [hf] at hw
      | cons k ks =>
        rw [csize, csizes] at hc
        have hk := hw.2.1
        rw [wfCs, Bool.and_eq_true] at hk
        have h3 := ih k (by omega) hk.1
        rw [chainN, chainB, if_pos hf, if_pos hf, chainNs, chainBs, lamsN, lamsCs, if_pos hf, List.length_cons]
        omega
    · rw [chainN, chainB, if_neg hf, if_neg hf]
      simp
mutual
theorem freeR_once (A : Str → Bool) : ∀ (c : Core) (G : Str → Bool) (out : List Str), out.Nodup → (freeR A c G out).Nodup
  | .mk f _ x _ ks bs al, G, out, h => by
    rw [freeR]
    split
    · split
      · rename_i hc
        simp only [Bool.and_eq_true, Bool.not_eq_true', decide_eq_false_iff_not] at hc
        rw [List.nodup_append]
        exact ⟨h, by simp, fun a ha b hb e => by simp only [List.mem_singleton] at hb; subst hb; subst e; exact hc.2 ha⟩
      · exact h
    · exact freeAs_once A al _ _ (freeCs_once A ks _ _ (freeBs_once A bs _ _ h))
theorem freeCs_once (A : Str → Bool) : ∀ (l : List Core) (G : Str → Bool) (out : List Str), out.Nodup → (freeCs A l G out).Nodup
  | [], _, _, h => by rw [freeCs]; exact h
  | c :: l, G, out, h => by rw [freeCs]; exact freeCs_once A l _ _ (freeR_once A c _ _ h)
theorem freeBs_once (A : Str → Bool) : ∀ (l : List Bind) (G : Str → Bool) (out : List Str), out.Nodup → (freeBs A l G out).Nodup
  | [], _, _, h => by rw [freeBs]; exact h
  | .mk _ _ c :: l, G, out, h => by rw [freeBs]; exact freeBs_once A l _ _ (freeR_once A c _ _ h)
theorem freeAs_once (A : Str → Bool) : ∀ (l : List Alt) (G : Str → Bool) (out : List Str), out.Nodup → (freeAs A l G out).Nodup
  | [], _, _, h => by rw [freeAs]; exact h
  | .mk _ _ _ vs c :: l, G, out, h => by rw [freeAs]; exact freeAs_once A l _ _ (freeR_once A c _ _ h)
end
theorem nodup_len : ∀ (N l : List Str), l.Nodup → (∀ x ∈ l, x ∈ N) → l.length ≤ N.length
  | [], l, _, h => by
    cases l with
    | nil => simp
    | cons x l => have := h x List.mem_cons_self; simp at this
  | y :: N, l, hn, h => by
    have h1 := nodup_len N (l.erase y) (hn.erase y) fun x hx => by
      have := (hn.mem_erase_iff).1 hx
      rcases List.mem_cons.1 (h x this.2) with e | e
      · exact absurd e this.1
      · exact e
    by_cases hy : y ∈ l
    · rw [List.length_erase_of_mem hy] at h1
      rw [List.length_cons]
      omega
    · rw [List.erase_of_not_mem hy] at h1
      rw [List.length_cons]
      omega
/-- Numbers stay small in core: there are no lambdas, or the names are a few. -/
def Few5 (c : Core) (A : Str → Bool) : Prop := lamsN c = 0 ∨ (nmR c = true ∧ ∀ s, A s = true → s ∈ nmL)
end Go.Proofs.YtojcjjjpniimiaaDoor

/- EACH PART is made something else of (the program's each, with the lifter's part): the walk. -/
namespace Go.Proofs.YtojcjjjpniimiaaDoor
open Go Go.AM
set_option maxRecDepth 20000

def lfO (of : Str) (made : List Sup) : AObj := .var 79 [.c (.str of), .hs 901 0 made.length made.length]
def lH (k : Nat) (of : Str) (made : List Sup) (a : CM) : List (Nat × AObj) := [(k, mapO a), (810, lfO of made), (901, madeO made)]
def PpSpec (c : Core) : Prop := ∀ (of : Str) (a : CM) (made : List Sup), wfR c = true → of.length ≤ 1000000 → (∀ s, 0 ≤ cnt a s ∧ cnt a s + csize c ≤ 1000000000) → csize c ≤ 400000 → Few5 c (gset a) → made.length + lamsN c ≤ 90 →
  ∃ a', Same a a' ∧ ImpC Tryd.prog 43 [.one (.vp 810 0), .pa (encCore c), .one (.mr 801)] (lH 801 of made a) (.pa (encCore (partR of false c (gset a) made).1)) (lH 801 of (partR of false c (gset a) made).2 a')
def eL (k0 : Nat) (ep : R) (g : List Str) (of : Str) (made : List Sup) (ks : List Core) (bs : List Bind) (al : List Alt) : List (Nat × AObj) :=
  [(4, .var mT [.mr k0]), (5, .var 80 [.mth 43 (.vp 810 0)]), (7, .var 107 [ep, .c (.sl 1 (g.map encS))]), (701, .arr 46 15 (encBinds bs) 0), (702, .arr 38 10 (encCores ks) 0), (703, .arr 69 14 (encAlts al) 0), (810, lfO of made), (901, madeO made)]
theorem set_enc {α : Type} (enc : List α → List (List C)) (e : α → List C) (h : ∀ l, enc l = l.map e) (l : List α) (j : Nat) (x : α) : (enc l).set j (e x) = enc (l.set j x) := by rw [h, h, List.map_set]
theorem wfE (ep : R) (g : List Str) (of : Str) (made : List Sup) (ks : List Core) (bs : List Bind) (al : List Alt) (h : ep.refs = [701] ∨ ep.refs = [702] ∨ ep.refs = [703]) (x : CM) : Wf [800, 4, 5, 7, 701, 702, 703, 810, 901] ((800, mapO x) :: eL 800 ep g of made ks bs al) := by
  refine ⟨rfl, ?_⟩
  rcases h with h | h | h <;> simp [eL, refsH, AObj.refs, mapO, lfO, madeO, R.refsL, R.refs, h, subset, AObj.live, AObj.plain] <;> rfl

theorem c_each1_B {m m' : CM} {of : Str} {made made' : List Sup} {ks : List Core} {bs : List Bind} {al : List Alt} {r : Core} (g : List Str) {j : Nat} {b : _} (hx : bs[j]? = some b)
    (hf : ImpC Tryd.prog 43 [.one (.vp 810 0), .pa (encCore b.body), .one (.mr 800)] (lH 800 of made m) (.pa (encCore r)) (lH 800 of made' m')) :
    ImpC Tryd.prog 92 ([R.vp 5 0, R.vp 7 0, R.vp 4 0].map V.one) ((800, mapO m) :: eL 800 (.ep 701 j 5 bs.length) g of made ks bs al) (.tup []) ((800, mapO m') :: eL 800 (.ep 701 j 5 bs.length) g of made' ks (bs.set j (Bind.mk b.name b.ty r)) al) := by
  have hx' : (encBinds bs)[j]? = some (encBind b) := by rw [encBinds_map]; exact getEnc encBind hx
  have hl : bs.length = (encBinds bs).length := by rw [encBinds_map, List.length_map]
  have hlt := (List.getElem?_eq_some_iff.1 hx).1
  have hset := set_enc encBinds encBind encBinds_map bs j (Bind.mk b.name b.ty r)
  refine impC (n := 13) tok Tryd.func92 rfl rfl rfl ?_
  refine awp_rg mixed ?_
  refine ak 8 [(6, .row j (encBind b))] rfl ?_
  refine km (args := [.pa (encCore b.body), .one (.mr 800)]) hf ?_
  refine ak 2 [(10, .row j (encBind b))] rfl ?_
  refine az ?_
  exact ⟨.inl rfl, ⟨_, _, .nil, .nil, rfl⟩, ⟨⟨_, rfl, .map⟩, ⟨_, rfl, .var rfl⟩, ⟨_, rfl, .var rfl⟩, ⟨_, rfl, .var rfl⟩, ⟨_, rfl, by first | exact .arr | exact .arrS hset⟩, ⟨_, rfl, by first | exact .arr | exact .arrS hset⟩, ⟨_, rfl, by first | exact .arr | exact .arrS hset⟩, ⟨_, rfl, .var rfl⟩, ⟨_, rfl, .arr⟩, trivial⟩, rfl⟩

theorem c_each1_K {m m' : CM} {of : Str} {made made' : List Sup} {ks : List Core} {bs : List Bind} {al : List Alt} {r : Core} (g : List Str) {j : Nat} {k : _} (hx : ks[j]? = some k)
    (hf : ImpC Tryd.prog 43 [.one (.vp 810 0), .pa (encCore k), .one (.mr 800)] (lH 800 of made m) (.pa (encCore r)) (lH 800 of made' m')) :
    ImpC Tryd.prog 92 ([R.vp 5 0, R.vp 7 0, R.vp 4 0].map V.one) ((800, mapO m) :: eL 800 (.ep 702 j 0 ks.length) g of made ks bs al) (.tup []) ((800, mapO m') :: eL 800 (.ep 702 j 0 ks.length) g of made' (ks.set j (r)) bs al) := by
  have hx' : (encCores ks)[j]? = some (encCore k) := by rw [encCores_map]; exact getEnc encCore hx
  have hl : ks.length = (encCores ks).length := by rw [encCores_map, List.length_map]
  have hlt := (List.getElem?_eq_some_iff.1 hx).1
  have hset := set_enc encCores encCore encCores_map ks j (r)
  refine impC (n := 13) tok Tryd.func92 rfl rfl rfl ?_
  refine awp_rg mixed ?_
  refine ak 8 [(6, .row j (encCore k))] rfl ?_
  refine km (args := [.pa (encCore k), .one (.mr 800)]) hf ?_
  refine ak 2 [(10, .row j (encCore k))] rfl ?_
  refine az ?_
  exact ⟨.inl rfl, ⟨_, _, .nil, .nil, rfl⟩, ⟨⟨_, rfl, .map⟩, ⟨_, rfl, .var rfl⟩, ⟨_, rfl, .var rfl⟩, ⟨_, rfl, .var rfl⟩, ⟨_, rfl, by first | exact .arr | exact .arrS hset⟩, ⟨_, rfl, by first | exact .arr | exact .arrS hset⟩, ⟨_, rfl, by first | exact .arr | exact .arrS hset⟩, ⟨_, rfl, .var rfl⟩, ⟨_, rfl, .arr⟩, trivial⟩, rfl⟩

theorem c_each1_A {m m' : CM} {of : Str} {made made' : List Sup} {ks : List Core} {bs : List Bind} {al : List Alt} {r : Core} (g : List Str) {j : Nat} {al1 : _} (hx : al[j]? = some al1)
    (hf : ImpC Tryd.prog 43 [.one (.vp 810 0), .pa (encCore al1.body), .one (.mr 800)] (lH 800 of made m) (.pa (encCore r)) (lH 800 of made' m')) :
    ImpC Tryd.prog 92 ([R.vp 5 0, R.vp 7 0, R.vp 4 0].map V.one) ((800, mapO m) :: eL 800 (.ep 703 j 4 al.length) g of made ks bs al) (.tup []) ((800, mapO m') :: eL 800 (.ep 703 j 4 al.length) g of made' ks bs (al.set j (Alt.mk al1.form al1.n al1.name al1.vars r))) := by
  have hx' : (encAlts al)[j]? = some (encAlt al1) := by rw [encAlts_map]; exact getEnc encAlt hx
  have hl : al.length = (encAlts al).length := by rw [encAlts_map, List.length_map]
  have hlt := (List.getElem?_eq_some_iff.1 hx).1
  have hset := set_enc encAlts encAlt encAlts_map al j (Alt.mk al1.form al1.n al1.name al1.vars r)
  refine impC (n := 13) tok Tryd.func92 rfl rfl rfl ?_
  refine awp_rg mixed ?_
  refine ak 8 [(6, .row j (encAlt al1))] rfl ?_
  refine km (args := [.pa (encCore al1.body), .one (.mr 800)]) hf ?_
  refine ak 2 [(10, .row j (encAlt al1))] rfl ?_
  refine az ?_
  exact ⟨.inl rfl, ⟨_, _, .nil, .nil, rfl⟩, ⟨⟨_, rfl, .map⟩, ⟨_, rfl, .var rfl⟩, ⟨_, rfl, .var rfl⟩, ⟨_, rfl, .var rfl⟩, ⟨_, rfl, by first | exact .arr | exact .arrS hset⟩, ⟨_, rfl, by first | exact .arr | exact .arrS hset⟩, ⟨_, rfl, by first | exact .arr | exact .arrS hset⟩, ⟨_, rfl, .var rfl⟩, ⟨_, rfl, .arr⟩, trivial⟩, rfl⟩

/-- How far the parts are: what stands in the places of binds, kids, alternatives; what was made. -/
structure Pst where
  bs : List Bind
  ks : List Core
  al : List Alt
  made : List Sup
def pst (of : Str) (A : Str → Bool) (ks : List Core) (bs : List Bind) (al : List Alt) (made : List Sup) (i : Nat) : Pst :=
  let b := partBs of (bs.take i) A made
  let k := partCs of (ks.take (i - bs.length)) A b.2
  let a := partAs of (al.take (i - bs.length - ks.length)) A k.2
  ⟨b.1 ++ bs.drop i, k.1 ++ ks.drop (i - bs.length), a.1 ++ al.drop (i - bs.length - ks.length), a.2⟩
theorem set_snoc {α : Type} {X l : List α} {i : Nat} {y : α} (hx : X.length = i) (hi : i < l.length) : (X ++ l.drop i).set i y = (X ++ [y]) ++ l.drop (i + 1) := by
  rw [List.drop_eq_getElem_cons hi, List.set_append_right _ _ (by omega), hx, Nat.sub_self, List.set_cons_zero, List.append_assoc]
  rfl
theorem at_snoc {α : Type} {X l : List α} {i : Nat} {y : α} (hx : X.length = i) (h : l[i]? = some y) : (X ++ l.drop i)[i]? = some y := by
  rw [List.getElem?_append_right (by omega), hx, Nat.sub_self, List.getElem?_drop, Nat.add_zero, h]
theorem take_len {α : Type} {l : List α} {i : Nat} (h : i ≤ l.length) : (l.take i).length = i := by rw [List.length_take]; omega
section
variable (of : Str) (A : Str → Bool) (ks : List Core) (bs : List Bind) (al : List Alt) (made : List Sup)
theorem pst_0 : pst of A ks bs al made 0 = ⟨bs, ks, al, made⟩ := by
  simp [pst, partBs, partCs, partAs]
theorem pst_end : pst of A ks bs al made (bs.length + (ks.length + al.length)) = ⟨(partBs of bs A made).1, (partCs of ks A (partBs of bs A made).2).1, (partAs of al A (partCs of ks A (partBs of bs A made).2).2).1, (partAs of al A (partCs of ks A (partBs of bs A made).2).2).2⟩ := by
  unfold pst
  have e1 : bs.length + (ks.length + al.length) - bs.length = ks.length + al.length := by omega
  have e2 : ks.length + al.length - ks.length = al.length := by omega
  dsimp only
  rw [e1, e2, List.take_of_length_le (by omega : bs.length ≤ _), List.take_of_length_le (by omega : ks.length ≤ _), List.take_length, List.drop_eq_nil_of_le (by omega), List.drop_eq_nil_of_le (by omega), List.drop_length, List.append_nil, List.append_nil, List.append_nil]
variable {of A ks bs al made}
theorem pst_B {i : Nat} {b : Bind} (h : bs[i]? = some b) : (pst of A ks bs al made i).bs[i]? = some b ∧ (pst of A ks bs al made i).bs.length = bs.length ∧ (pst of A ks bs al made (i + 1)) = ⟨(pst of A ks bs al made i).bs.set i (.mk b.name b.ty (partR of false b.body A (pst of A ks bs al made i).made).1), (pst of A ks bs al made i).ks, (pst of A ks bs al made i).al, (partR of false b.body A (pst of A ks bs al made i).made).2⟩ := by
  have hi := (List.getElem?_eq_some_iff.1 h).1
  have hc := partBs_count of A (bs.take i) made
  rw [take_len (by omega)] at hc
  have e1 : i - bs.length = 0 := by omega
  have e2 : i + 1 - bs.length = 0 := by omega
  unfold pst
  dsimp only
  rw [e1, e2]
  simp only [Nat.zero_sub, List.take_zero, partCs, partAs, List.nil_append, List.drop_zero]
  rw [take_step h, partBs_app]
  refine ⟨at_snoc hc h, by rw [List.length_append, hc, List.length_drop]; omega, ?_⟩
  rw [set_snoc hc hi]
theorem pst_K {i j : Nat} {k : Core} (hj : i = bs.length + j) (h : ks[j]? = some k) : (pst of A ks bs al made i).ks[j]? = some k ∧ (pst of A ks bs al made i).ks.length = ks.length ∧ (pst of A ks bs al made (i + 1)) = ⟨(pst of A ks bs al made i).bs, (pst of A ks bs al made i).ks.set j (partR of false k A (pst of A ks bs al made i).made).1, (pst of A ks bs al made i).al, (partR of false k A (pst of A ks bs al made i).made).2⟩ := by
  subst hj
  have hi := (List.getElem?_eq_some_iff.1 h).1
  have e1 : bs.length + j - bs.length = j := by omega
  have e2 : bs.length + j + 1 - bs.length = j + 1 := by omega
  have e3 : j - ks.length = 0 := by omega
  have e4 : j + 1 - ks.length = 0 := by omega
  unfold pst
  dsimp only
  rw [e1, e2, e3, e4]
  simp only [List.take_zero, partAs, List.nil_append, List.drop_zero]
  rw [List.take_of_length_le (by omega : bs.length ≤ bs.length + j), List.take_of_length_le (by omega : bs.length ≤ bs.length + j + 1), List.drop_eq_nil_of_le (by omega : bs.length ≤ bs.length + j), List.drop_eq_nil_of_le (by omega : bs.length ≤ bs.length + j + 1)]
  have hc := partCs_count of A (ks.take j) (partBs of bs A made).2
  rw [take_len (by omega)] at hc
  rw [take_step h, partCs_app]
  refine ⟨at_snoc hc h, by rw [List.length_append, hc, List.length_drop]; omega, ?_⟩
  rw [set_snoc hc hi]
theorem pst_A {i j : Nat} {a : Alt} (hj : i = bs.length + (ks.length + j)) (h : al[j]? = some a) : (pst of A ks bs al made i).al[j]? = some a ∧ (pst of A ks bs al made i).al.length = al.length ∧ (pst of A ks bs al made (i + 1)) = ⟨(pst of A ks bs al made i).bs, (pst of A ks bs al made i).ks, (pst of A ks bs al made i).al.set j (.mk a.form a.n a.name a.vars (partR of false a.body (ext A a.vars) (pst of A ks bs al made i).made).1), (partR of false a.body (ext A a.vars) (pst of A ks bs al made i).made).2⟩ := by
  subst hj
  have hi := (List.getElem?_eq_some_iff.1 h).1
  have e1 : bs.length + (ks.length + j) - bs.length = ks.length + j := by omega
  have e2 : bs.length + (ks.length + j) + 1 - bs.length = ks.length + (j + 1) := by omega
  have e3 : ks.length + j - ks.length = j := by omega
  have e4 : ks.length + (j + 1) - ks.length = j + 1 := by omega
  unfold pst
  dsimp only
  rw [e1, e2, e3, e4]
  rw [List.take_of_length_le (by omega : bs.length ≤ bs.length + (ks.length + j)), List.take_of_length_le (by omega : bs.length ≤ bs.length + (ks.length + j) + 1), List.drop_eq_nil_of_le (by omega : bs.length ≤ bs.length + (ks.length + j)), List.drop_eq_nil_of_le (by omega : bs.length ≤ bs.length + (ks.length + j) + 1),
    List.take_of_length_le (by omega : ks.length ≤ ks.length + j), List.take_of_length_le (by omega : ks.length ≤ ks.length + (j + 1)), List.drop_eq_nil_of_le (by omega : ks.length ≤ ks.length + j), List.drop_eq_nil_of_le (by omega : ks.length ≤ ks.length + (j + 1))]
  have hc := partAs_count of A (al.take j) (partCs of ks A (partBs of bs A made).2).2
  rw [take_len (by omega)] at hc
  rw [take_step h, partAs_app]
  refine ⟨at_snoc hc h, by rw [List.length_append, hc, List.length_drop]; omega, ?_⟩
  rw [set_snoc hc hi]
theorem pst_few (i : Nat) : (pst of A ks bs al made i).made.length ≤ made.length + lamsBs (bs.take i) + lamsCs (ks.take (i - bs.length)) + lamsAs (al.take (i - bs.length - ks.length)) := by
  unfold pst
  dsimp only
  have h1 := partBs_few of (bs.take i) A made
  have h2 := partCs_few of (ks.take (i - bs.length)) A (partBs of (bs.take i) A made).2
  have h3 := partAs_few of (al.take (i - bs.length - ks.length)) A (partCs of (ks.take (i - bs.length)) A (partBs of (bs.take i) A made).2).2
  omega
theorem pst_lens (i : Nat) (hi : i ≤ bs.length + (ks.length + al.length)) : (pst of A ks bs al made i).bs.length = bs.length ∧ (pst of A ks bs al made i).ks.length = ks.length ∧ (pst of A ks bs al made i).al.length = al.length := by
  unfold pst
  dsimp only
  rw [List.length_append, List.length_append, List.length_append, partBs_count, partCs_count, partAs_count, List.length_take, List.length_take, List.length_take, List.length_drop, List.length_drop, List.length_drop]
  omega
end
end Go.Proofs.YtojcjjjpniimiaaDoor
