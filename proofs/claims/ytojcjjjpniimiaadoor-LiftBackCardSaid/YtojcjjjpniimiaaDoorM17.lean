/-
  Texts La29, La30, La31 in one.
-/
import Derived.Test.YtojcjjjpniimiaaDoorM16
/- THE LIFTER: each's loop, a lambda, core without lambdas: the walks. -/
namespace Go.Proofs.YtojcjjjpniimiaaDoor
open Go Go.AM
set_option maxRecDepth 20000


theorem few_parts {f n : Int} {s : Str} {t : Ty} {ks : List Core} {bs : List Bind} {al : List Alt} (hf : ¬ f = 5) (hw : wfR (.mk f n s t ks bs al) = true) (of : Str) (A : Str → Bool) (made : List Sup) {i : Nat} (hi : i < (pRows f s ks bs al).length) {p : List Str × Core} (hp : (partsL f s ks bs al)[i]? = some p) :
    wfR p.2 = true ∧ lamsN p.2 ≤ lamsN (.mk f n s t ks bs al) ∧ (nmR (.mk f n s t ks bs al) = true → nmR p.2 = true ∧ ∀ u ∈ p.1, u ∈ nmL) ∧ (pst of A ks bs al made i).made.length + lamsN p.2 ≤ made.length + lamsN (.mk f n s t ks bs al) := by
  have hpf := @pst_few of A ks bs al made i
  simp only [wfR, Bool.and_eq_true] at hw
  have hb0 := lamsBs_le bs i
  have hk0 := lamsCs_le ks (i - bs.length)
  have ha0 := lamsAs_le al (i - bs.length - ks.length)
  rw [lamsN, if_neg hf]
  rcases parts_at f s ks bs al hi with ⟨j, b, hb, _, hpa, hij⟩ | ⟨j, k, hk, _, hpa, hij⟩ | ⟨j, a, ha, _, hpa, hij⟩
  · rw [hpa] at hp; cases hp
    have hm := List.mem_of_getElem? hb
    have hl := lamsBs_at hb
    subst hij
    have hlt := (List.getElem?_eq_some_iff.1 hb).1
    have e1 : i - bs.length = 0 := by omega
    rw [e1, List.take_zero, Nat.zero_sub, List.take_zero, lamsCs, lamsAs] at hpf
    dsimp only
    refine ⟨(wfBs_mem hw.2.2.1 b hm).2, by omega, fun hn => ⟨?_, nm_gvs hn⟩, by omega⟩
    simp only [nmR, Bool.and_eq_true] at hn
    exact (nmBs_mem hn.2.2.1 b hm).2
  · rw [hpa] at hp; cases hp
    have hm := List.mem_of_getElem? hk
    have hl := lamsCs_at hk
    subst hij
    have hlt := (List.getElem?_eq_some_iff.1 hk).1
    have e1 : bs.length + j - bs.length = j := by omega
    have e2 : j - ks.length = 0 := by omega
    rw [e1, e2, List.take_zero, lamsAs] at hpf
    dsimp only
    refine ⟨wfCs_mem hw.2.1 k hm, by omega, fun hn => ⟨?_, nm_gvs hn⟩, by omega⟩
    simp only [nmR, Bool.and_eq_true] at hn
    exact nmCs_mem hn.2.1 k hm
  · rw [hpa] at hp; cases hp
    have hm := List.mem_of_getElem? ha
    have hl := lamsAs_at ha
    subst hij
    have e1 : bs.length + (ks.length + j) - bs.length = ks.length + j := by omega
    have e2 : ks.length + j - ks.length = j := by omega
    rw [e1, e2] at hpf
    have hk1 := lamsCs_le ks (ks.length + j)
    dsimp only
    refine ⟨wfAs_mem hw.2.2.2 a hm, by omega, fun hn => ?_, by omega⟩
    have hg := nm_gvs hn
    simp only [nmR, Bool.and_eq_true] at hn
    obtain ⟨h1, h2⟩ := nmAs_mem hn.2.2.2 a hm
    refine ⟨h2, fun u hu => ?_⟩
    rcases List.mem_append.1 hu with hu | hu
    · exact hg u hu
    · exact h1 u hu

theorem c_each {f n : Int} {s : Str} {t : Ty} {ks : List Core} {bs : List Bind} {al : List Alt} (hf : ¬ f = 5) (ih : ∀ x, csize x < csize (.mk f n s t ks bs al) → PpSpec x) (of : Str) (a : CM) (made : List Sup) (hw : wfR (.mk f n s t ks bs al) = true) (hof : of.length ≤ 1000000) (hm : ∀ u, 0 ≤ cnt a u ∧ cnt a u + csize (.mk f n s t ks bs al) ≤ 1000000000) (hsz : csize (.mk f n s t ks bs al) ≤ 400000) (h5 : Few5 (.mk f n s t ks bs al) (gset a)) (hmd : made.length + lamsN (.mk f n s t ks bs al) ≤ 90) :
    ∃ a', Same a a' ∧ ImpC Tryd.prog 70 [.one (.vp 700 0), .one (.mr 801), .one (.mth 43 (.vp 810 0))] [(801, mapO a), (700, .var 38 (cellsC (.mk f n s t ks bs al))), (810, lfO of made), (901, madeO made)] (.tup [])
      [(801, mapO a'), (700, .var 38 (cellsC (partR of false (.mk f n s t ks bs al) (gset a) made).1)), (810, lfO of (partR of false (.mk f n s t ks bs al) (gset a) made).2), (901, madeO (partR of false (.mk f n s t ks bs al) (gset a) made).2)] := by
  have hm0 : ∀ u, 0 ≤ cnt a u := fun u => (hm u).1
  have hfp := fun {i : Nat} {p : List Str × Core} (hi : i < (pRows f s ks bs al).length) (hp : (partsL f s ks bs al)[i]? = some p) => few_parts hf hw of (ext (gset a) (gvs f s bs)) made hi hp
  have hend := pst_end of (ext (gset a) (gvs f s bs)) ks bs al made
  rw [← pRows_len f s ks bs al] at hend
  have hpr : partR of false (.mk f n s t ks bs al) (gset a) made = (.mk f n s t (pst of (ext (gset a) (gvs f s bs)) ks bs al made (pRows f s ks bs al).length).ks (pst of (ext (gset a) (gvs f s bs)) ks bs al made (pRows f s ks bs al).length).bs (pst of (ext (gset a) (gvs f s bs)) ks bs al made (pRows f s ks bs al).length).al, (pst of (ext (gset a) (gvs f s bs)) ks bs al made (pRows f s ks bs al).length).made) := by
    rw [partR, if_neg hf, hend]
  rw [hpr]
  have hp0 := pst_0 of (ext (gset a) (gvs f s bs)) ks bs al made
  have hlen := fun i => @pst_lens of (ext (gset a) (gvs f s bs)) ks bs al made i
  have hN : (pRows f s ks bs al).length = (partsL f s ks bs al).length := by rw [pRows_len, partsL_len]
  have hin : ∀ p ∈ partsL f s ks bs al, _ := fun p hp => @parts_in f n s t ks bs al p hp
  have hat := @parts_at f s ks bs al
  have hcp := c_parts f n s t ks bs al hsz
  have hrr : ∀ x ∈ (pObj (pRows f s ks bs al)).refs, x ∈ pRefs.refs := rows_refs
  have hpl := pRows_len f s ks bs al
  obtain ⟨hkl, hbl, hal⟩ : ks.length < 400000 ∧ bs.length < 400000 ∧ al.length < 400000 := by
    obtain ⟨_, _, _, q1, q2, q3⟩ := @size_in f n s t ks bs al
    omega
  have hrl : (pRows f s ks bs al).length ≤ 1200000 := by omega
  obtain ⟨sq, hs0, hsP, hsR⟩ := exists_seq (P := fun _ x => Same a x) (R := fun i x y => i < (pRows f s ks bs al).length → ∀ p, (partsL f s ks bs al)[i]? = some p → ∃ m', y = decs p.1 m' ∧ Same (incs p.1 x) m' ∧
      ImpC Tryd.prog 43 [.one (.vp 810 0), .pa (encCore p.2), .one (.mr 801)] (lH 801 of (pst of (ext (gset a) (gvs f s bs)) ks bs al made i).made (incs p.1 x)) (.pa (encCore (partR of false p.2 (ext (gset a) p.1) (pst of (ext (gset a) (gvs f s bs)) ks bs al made i).made).1)) (lH 801 of (partR of false p.2 (ext (gset a) p.1) (pst of (ext (gset a) (gvs f s bs)) ks bs al made i).made).2 m')) a (fun _ => rfl) (fun i x hx => by
    by_cases hi : i < (pRows f s ks bs al).length
    · obtain ⟨p, hp⟩ := get_of_lt (l := partsL f s ks bs al) (by omega : i < (partsL f s ks bs al).length)
      obtain ⟨q1, q2⟩ := hin p (List.mem_of_getElem? hp)
      obtain ⟨w1, w2, w3, w4⟩ := hfp hi hp
      have hx0 : ∀ u, 0 ≤ cnt x u := fun u => by rw [← hx u]; exact hm0 u
      have hga : gset (incs p.1 x) = ext (gset a) p.1 := by rw [gset_incs hx0, ← gset_same hx]
      obtain ⟨m', g1, g2⟩ := ih p.2 q1 of (incs p.1 x) (pst of (ext (gset a) (gvs f s bs)) ks bs al made i).made w1 hof (fun u => by
        have h1 := hm u
        have h2 := hx u
        have h3 := cnt_incs u p.1 x
        have h4 : 0 ≤ times u p.1 ∧ times u p.1 ≤ p.1.length := by
          unfold times
          have := List.count_le_length (a := u) (l := p.1)
          omega
        omega) (by omega) (by
        rw [hga]
        rcases h5 with h5 | ⟨h5, h6⟩
        · exact .inl (by omega)
        · obtain ⟨w5, w6⟩ := w3 h5
          refine .inr ⟨w5, fun u hu => ?_⟩
          simp only [ext, Bool.or_eq_true, decide_eq_true_eq] at hu
          exact hu.elim (h6 u) (w6 u)) (by omega)
      rw [hga] at g2
      exact ⟨decs p.1 m', fun u => by rw [hx u]; exact Same.decs g1 u, fun _ p' h => by rw [hp] at h; cases h; exact ⟨m', rfl, g1, g2⟩⟩
    · exact ⟨x, hx, fun h => absurd h hi⟩)
  refine ⟨sq (pRows f s ks bs al).length, hsP _, ?_⟩
  have hPB := fun {i : Nat} {b : Bind} (hb : bs[i]? = some b) => pst_B (of := of) (A := ext (gset a) (gvs f s bs)) (ks := ks) (al := al) (made := made) hb
  have hPK := fun {i j : Nat} {k : Core} (hij : i = bs.length + j) (hk : ks[j]? = some k) => pst_K (of := of) (A := ext (gset a) (gvs f s bs)) (al := al) (made := made) hij hk
  have hPA := fun {i j : Nat} {k : Alt} (hij : i = bs.length + (ks.length + j)) (hk : al[j]? = some k) => pst_A (of := of) (A := ext (gset a) (gvs f s bs)) (made := made) hij hk
  have hext : ∀ v, ext (ext (gset a) (gvs f s bs)) v = ext (gset a) (gvs f s bs ++ v) := fun v => ext_ext _ _ _
  generalize pst of (ext (gset a) (gvs f s bs)) ks bs al made = PS at hp0 hlen hsR hPB hPK hPA hend ⊢
  generalize pRows f s ks bs al = rows at hN hat hcp hrr hrl hsR hend hpl ⊢
  refine impC (n := 21) tok Tryd.func70 rfl rfl rfl ?_
  refine awp_seq (ag [] rfl ?_)
  refine awp_seq (awp_rg mixed ?_)
  refine ak 1 [] rfl ?_
  refine kc hcp ?_
  refine ak 2 [] rfl ?_
  refine az ?_
  refine awp_block ?_
  refine awp_loop (fun i : Nat => mk [(4, .one (.vp 4 0)), (5, .one (.vp 5 0)), (9, .one (.ra 704 0 rows.length rows.length)), (10, I .i64 ((rows.length : Nat) : Int)), (11, I .i64 i)] ((704, pObj rows) :: [(4, .var mT [.mr 801]), (5, .var 80 [.mth 43 (.vp 810 0)]), (700, .var 38 (cellsO f n s t ks.length bs.length al.length)), (701, .arr 46 15 (encBinds (PS i).bs) 0), (702, .arr 38 10 (encCores (PS i).ks) 0), (703, .arr 69 14 (encAlts (PS i).al) 0), (801, mapO (sq i)), (810, lfO of (PS i).made), (901, madeO (PS i).made)])) (fun i => i ≤ rows.length) (fun i => rows.length - i) 0 (Nat.zero_le _) (by rw [hs0, hp0]; exact slR pRefs hrr ⟨_, rfl, .rarrS rfl⟩) ?_
  intro i hi
  refine awp_seq (ag [] rfl ?_)
  refine awp_seq (awp_cond rfl (fun hb => ?_) (fun hb => ?_))
  · have hlt : i < rows.length := by
      have : (i : Int) < (rows.length : Int) := of_decide_eq_true hb
      omega
    refine awp_skip ?_
    refine awp_seq (awp_block ?_)
    obtain ⟨l1, l2, l3⟩ := hlen i (by omega)
    rcases hat hlt with ⟨j, b, hb', hro, hpa, hij⟩ | ⟨j, k, hk', hro, hpa, hij⟩ | ⟨j, al', ha', hro, hpa, hij⟩
    · subst hij
      obtain ⟨r1, r2, r3⟩ := hPB hb'
      obtain ⟨m', e1, e2, e3⟩ := hsR i hlt _ hpa
      obtain ⟨q1, q2⟩ := hin _ (List.mem_of_getElem? hpa)
      have hx := hsP i
      dsimp only at e1 e3 q2
      have hc0 : ImpC Tryd.prog 43 [.one (.vp 810 0), .pa (encCore b.body), .one (.mr 800)] (lH 800 of (PS i).made (incs (gvs f s bs) (sq i))) (.pa (encCore (partR of false b.body (ext (gset a) (gvs f s bs)) (PS i).made).1)) (lH 800 of (partR of false b.body (ext (gset a) (gvs f s bs)) (PS i).made).2 m') := e3.swap 801 800
      have hc1 := c_each1_B (ks := (PS i).ks) (bs := (PS i).bs) (al := (PS i).al) (gvs f s bs) r1 hc0
      have hci := c_inside (gvs f s bs) (sq i) m' _ _ [800, 4, 5, 7, 701, 702, 703, 810, 901] (by omega) (fun u => by have := hm u; have := hx u; omega) (fun u => by
        have h1 := hm u
        have h2 := hx u
        have h3 := e2 u
        dsimp only at h3
        rw [cnt_incs] at h3
        have h4 : 0 ≤ times u (gvs f s bs) ∧ times u (gvs f s bs) ≤ (gvs f s bs).length := by
          unfold times
          have := List.count_le_length (a := u) (l := gvs f s bs)
          omega
        omega) (wfE _ _ _ _ _ _ _ (by simp [R.refs])) (wfE _ _ _ _ _ _ _ (by simp [R.refs])) rfl (by kernel_rfl) hc1
      have hcs : ImpC Tryd.prog 30 [.one (.mr 801), strsV (gvs f s bs), .one (.clo 92 [.vp 5 0, .vp 7 0, .vp 4 0])] ((801, mapO (sq i)) :: eL 801 (.ep 701 i 5 (PS i).bs.length) (gvs f s bs) of (PS i).made (PS i).ks (PS i).bs (PS i).al) (.tup []) ((801, mapO (sq (i + 1))) :: eL 801 (.ep 701 i 5 (PS i).bs.length) (gvs f s bs) of (PS (i + 1)).made (PS (i + 1)).ks (PS (i + 1)).bs (PS (i + 1)).al) := by
        rw [e1, r3]
        exact hci.swap 800 801
      rw [r2] at hcs
      refine awp_seq (ag [(1, .rr (prow 701 5 bs.length (gvs f s bs) i))] rfl ?_)
      refine awp_rg mixed ?_
      refine ak 4 [] rfl ?_
      refine kc hcs ?_
      refine az ?_
      refine ag [] rfl ?_
      exact ⟨i + 1, hlt, by dsimp only; omega, slR pRefs hrr ⟨_, rfl, .rarrS rfl⟩⟩
    · obtain ⟨r1, r2, r3⟩ := hPK hij hk'
      obtain ⟨m', e1, e2, e3⟩ := hsR i hlt _ hpa
      obtain ⟨q1, q2⟩ := hin _ (List.mem_of_getElem? hpa)
      have hx := hsP i
      dsimp only at e1 e3 q2
      have hc0 : ImpC Tryd.prog 43 [.one (.vp 810 0), .pa (encCore k), .one (.mr 800)] (lH 800 of (PS i).made (incs (gvs f s bs) (sq i))) (.pa (encCore (partR of false k (ext (gset a) (gvs f s bs)) (PS i).made).1)) (lH 800 of (partR of false k (ext (gset a) (gvs f s bs)) (PS i).made).2 m') := e3.swap 801 800
      have hc1 := c_each1_K (ks := (PS i).ks) (bs := (PS i).bs) (al := (PS i).al) (gvs f s bs) r1 hc0
      have hci := c_inside (gvs f s bs) (sq i) m' _ _ [800, 4, 5, 7, 701, 702, 703, 810, 901] (by omega) (fun u => by have := hm u; have := hx u; omega) (fun u => by
        have h1 := hm u
        have h2 := hx u
        have h3 := e2 u
        dsimp only at h3
        rw [cnt_incs] at h3
        have h4 : 0 ≤ times u (gvs f s bs) ∧ times u (gvs f s bs) ≤ (gvs f s bs).length := by
          unfold times
          have := List.count_le_length (a := u) (l := gvs f s bs)
          omega
        omega) (wfE _ _ _ _ _ _ _ (by simp [R.refs])) (wfE _ _ _ _ _ _ _ (by simp [R.refs])) rfl (by kernel_rfl) hc1
      have hcs : ImpC Tryd.prog 30 [.one (.mr 801), strsV (gvs f s bs), .one (.clo 92 [.vp 5 0, .vp 7 0, .vp 4 0])] ((801, mapO (sq i)) :: eL 801 (.ep 702 j 0 (PS i).ks.length) (gvs f s bs) of (PS i).made (PS i).ks (PS i).bs (PS i).al) (.tup []) ((801, mapO (sq (i + 1))) :: eL 801 (.ep 702 j 0 (PS i).ks.length) (gvs f s bs) of (PS (i + 1)).made (PS (i + 1)).ks (PS (i + 1)).bs (PS (i + 1)).al) := by
        rw [e1, r3]
        exact hci.swap 800 801
      rw [r2] at hcs
      refine awp_seq (ag [(1, .rr (prow 702 0 ks.length (gvs f s bs) j))] rfl ?_)
      refine awp_rg mixed ?_
      refine ak 4 [] rfl ?_
      refine kc hcs ?_
      refine az ?_
      refine ag [] rfl ?_
      exact ⟨i + 1, hlt, by dsimp only; omega, slR pRefs hrr ⟨_, rfl, .rarrS rfl⟩⟩
    · obtain ⟨r1, r2, r3⟩ := hPA hij ha'
      rw [hext] at r3
      obtain ⟨m', e1, e2, e3⟩ := hsR i hlt _ hpa
      obtain ⟨q1, q2⟩ := hin _ (List.mem_of_getElem? hpa)
      have hx := hsP i
      dsimp only at e1 e3 q2
      have hc0 : ImpC Tryd.prog 43 [.one (.vp 810 0), .pa (encCore al'.body), .one (.mr 800)] (lH 800 of (PS i).made (incs (gvs f s bs ++ al'.vars) (sq i))) (.pa (encCore (partR of false al'.body (ext (gset a) (gvs f s bs ++ al'.vars)) (PS i).made).1)) (lH 800 of (partR of false al'.body (ext (gset a) (gvs f s bs ++ al'.vars)) (PS i).made).2 m') := e3.swap 801 800
      have hc1 := c_each1_A (ks := (PS i).ks) (bs := (PS i).bs) (al := (PS i).al) (gvs f s bs ++ al'.vars) r1 hc0
      have hci := c_inside (gvs f s bs ++ al'.vars) (sq i) m' _ _ [800, 4, 5, 7, 701, 702, 703, 810, 901] (by omega) (fun u => by have := hm u; have := hx u; omega) (fun u => by
        have h1 := hm u
        have h2 := hx u
        have h3 := e2 u
        dsimp only at h3
        rw [cnt_incs] at h3
        have h4 : 0 ≤ times u (gvs f s bs ++ al'.vars) ∧ times u (gvs f s bs ++ al'.vars) ≤ (gvs f s bs ++ al'.vars).length := by
          unfold times
          have := List.count_le_length (a := u) (l := gvs f s bs ++ al'.vars)
          omega
        omega) (wfE _ _ _ _ _ _ _ (by simp [R.refs])) (wfE _ _ _ _ _ _ _ (by simp [R.refs])) rfl (by kernel_rfl) hc1
      have hcs : ImpC Tryd.prog 30 [.one (.mr 801), strsV (gvs f s bs ++ al'.vars), .one (.clo 92 [.vp 5 0, .vp 7 0, .vp 4 0])] ((801, mapO (sq i)) :: eL 801 (.ep 703 j 4 (PS i).al.length) (gvs f s bs ++ al'.vars) of (PS i).made (PS i).ks (PS i).bs (PS i).al) (.tup []) ((801, mapO (sq (i + 1))) :: eL 801 (.ep 703 j 4 (PS i).al.length) (gvs f s bs ++ al'.vars) of (PS (i + 1)).made (PS (i + 1)).ks (PS (i + 1)).bs (PS (i + 1)).al) := by
        rw [e1, r3]
        exact hci.swap 800 801
      rw [r2] at hcs
      refine awp_seq (ag [(1, .rr (prow 703 4 al.length (gvs f s bs ++ al'.vars) j))] rfl ?_)
      refine awp_rg mixed ?_
      refine ak 4 [] rfl ?_
      refine kc hcs ?_
      refine az ?_
      refine ag [] rfl ?_
      exact ⟨i + 1, hlt, by dsimp only; omega, slR pRefs hrr ⟨_, rfl, .rarrS rfl⟩⟩
  have hge : i = rows.length := by
    have : ¬ (i : Int) < (rows.length : Int) := of_decide_eq_false hb
    omega
  subst hge
  obtain ⟨l1, l2, l3⟩ := hlen rows.length (by omega)
  have k1 : bs.length = (encBinds (PS rows.length).bs).length := by rw [encBinds_map, List.length_map]; exact l1.symm
  have k2 : ks.length = (encCores (PS rows.length).ks).length := by rw [encCores_map, List.length_map]; exact l2.symm
  have k3 : al.length = (encAlts (PS rows.length).al).length := by rw [encAlts_map, List.length_map]; exact l3.symm
  refine AWp.sub (Sub.freeze (id := 701) rfl) (AWp.sub (Sub.freeze (id := 702) rfl) (AWp.sub (Sub.freeze (id := 703) rfl) (AWp.sub (vp 700 (encCore (.mk f n s t (PS rows.length).ks (PS rows.length).bs (PS rows.length).al))) ?_)))
  refine awp_exit ?_
  exact ⟨.inl rfl, ⟨_, _, .nil, .nil, rfl⟩, ⟨⟨_, rfl, .map⟩, ⟨_, rfl, .var rfl⟩, ⟨_, rfl, .var rfl⟩, ⟨_, rfl, .arr⟩, trivial⟩, rfl⟩
end Go.Proofs.YtojcjjjpniimiaaDoor

/- A LAMBDA is made a function of its own (the program's lifter.lambda): the walk. -/
namespace Go.Proofs.YtojcjjjpniimiaaDoor
open Go Go.AM
set_option maxRecDepth 20000

theorem nm_short : ∀ s ∈ nmL, s.length ≤ 1000000 := by decide
theorem gset_nil : gset [] = fun _ => false := rfl
theorem gset_incs_nil (l : List Str) : gset (incs l []) = fun x => decide (x ∈ l) := by
  rw [gset_incs (fun _ => Int.le_refl _), gset_nil]; rfl

theorem c_lambda1 {m m' : CM} {of : Str} {made made' : List Sup} {c c' : Core}
    (hf : ImpC Tryd.prog 43 [.one (.vp 810 0), .pa (encCore c), .one (.mr 800)] (lH 800 of made m) (.pa (encCore c')) (lH 800 of made' m')) :
    ImpC Tryd.prog 91 ([R.vp 3 0, R.vp 9 0, R.vp 13 0].map V.one) [(800, mapO m), (3, .var 77 [.vp 810 0]), (9, .var 38 (cellsC c)), (13, .var mT [.mr 800]), (810, lfO of made), (901, madeO made)] (.tup []) [(800, mapO m'), (3, .var 77 [.vp 810 0]), (9, .var 38 (cellsC c')), (13, .var mT [.mr 800]), (810, lfO of made'), (901, madeO made')] := by
  refine impC (n := 7) tok Tryd.func91 rfl rfl rfl ?_
  refine awp_rg mixed ?_
  refine ak 3 [] rfl ?_
  refine kc hf ?_
  refine ak 1 [] rfl ?_
  refine az ?_
  exact ⟨.inl rfl, ⟨_, _, .nil, .nil, rfl⟩, ⟨⟨_, rfl, .map⟩, ⟨_, rfl, .var rfl⟩, ⟨_, rfl, .var rfl⟩, ⟨_, rfl, .var rfl⟩, ⟨_, rfl, .var rfl⟩, ⟨_, rfl, .arr⟩, trivial⟩, rfl⟩

theorem c_lambda (c : Core) (hf : c.form = 5) (ih : ∀ x, csize x < csize c → PpSpec x) (of : Str) (a : CM) (made : List Sup) (hw : wfR c = true) (hof : of.length ≤ 1000000) (hm : ∀ u, 0 ≤ cnt a u ∧ cnt a u + csize c ≤ 1000000000) (hsz : csize c ≤ 400000) (h5 : Few5 c (gset a)) (hmd : made.length + lamsN c ≤ 90) :
    ImpC Tryd.prog 69 [.one (.vp 810 0), .pa (encCore c), .one (.mr 801)] (lH 801 of made a) (.pa (encCore (partR of false c (gset a) made).1)) (lH 801 of (partR of false c (gset a) made).2 a) := by
  have hM : 1000000000 ≤ maxLen := by decide
  obtain ⟨w1, w2, w3, w4, w5, w6⟩ := wf_chain _ c (Nat.le_refl _) hw
  have w6 := w6 hf
  have hl1 : 1 ≤ lamsN c := by
    obtain ⟨f, n, s, t, ks, bs, al⟩ := c
    have hf : f = 5 := hf
    rw [lamsN, if_pos hf]; omega
  obtain ⟨h5, h6⟩ : nmR c = true ∧ ∀ s, gset a s = true → s ∈ nmL := by
    rcases h5 with h5 | h5
    · omega
    · exact h5
  obtain ⟨n1, n2, n3⟩ := nm_chain _ c (Nat.le_refl _) hw h5
  obtain ⟨m', hsm, hfr⟩ := c_pfree _ c (Nat.le_refl _) [] a [] (fun s => by show (0 : Int) ≤ 0 ∧ (0 : Int) + _ ≤ _; omega) hsz (by simp; omega)
  rw [gset_nil] at hfr
  have hch := c_pchain c w1 (by omega)
  have hfi := freeR_in (gset a) c (fun _ => false) [] (fun s hs => by simp at hs)
  have hfo := freeR_once (gset a) c (fun _ => false) [] List.nodup_nil
  have hr : partR of false c (gset a) made = (let free := freeR (gset a) c (fun _ => false) []; let all := free ++ chainN c; let r := partR of false (chainB c) (fun x => decide (x ∈ all)) (made ++ [⟨fname of made.length, paramsR all, zCore⟩]); (appVars (varC (fname of made.length)) free, setBody r.2 made.length r.1)) := by
    have hpc := partR_chain of _ c (Nat.le_refl _) hw
    obtain ⟨f, n, s, t, ks, bs, al⟩ := c
    have hf : f = 5 := hf
    rw [partR, if_pos hf, if_neg Bool.false_ne_true]
    have hN : chainN (.mk f n s t ks bs al) = s :: chainNs ks := by rw [chainN, if_pos hf]
    simp only [hN]
    have := hpc (fun x => decide (x ∈ freeR (gset a) (.mk f n s t ks bs al) (fun _ => false) [] ++ s :: chainNs ks)) (made ++ [⟨fname of made.length, paramsR (freeR (gset a) (.mk f n s t ks bs al) (fun _ => false) [] ++ s :: chainNs ks), zCore⟩])
    rw [partR, if_pos hf, if_pos rfl] at this
    rw [this]
  rw [hr]
  dsimp only
  generalize freeR (gset a) c (fun _ => false) [] = free at hfr hfi hfo ⊢
  have hfn : ∀ s ∈ free, s ∈ nmL := fun s hs => h6 s (hfi s hs)
  have hfl : free.length ≤ 5 := nodup_len nmL free hfo hfn
  have hcl : (chainN c).length ≤ 90 := by omega
  have hc1 : 1 ≤ (chainN c).length := by
    obtain ⟨f, n, s, t, ks, bs, al⟩ := c
    have hf : f = 5 := hf
    rw [chainN, if_pos hf]; exact Nat.le_add_left _ _
  have han : ∀ s ∈ free ++ chainN c, s ∈ nmL := by
    intro s hs
    rcases List.mem_append.1 hs with hs | hs
    · exact hfn s hs
    · exact n1 s hs
  have hwi := c_concat free (chainN c) (by omega)
  have hpa := c_params (free ++ chainN c) (by rw [List.length_append]; omega) fun s hs => nm_short s (han s hs)
  have hdc := c_itoa (made.length + 1) (by omega)
  have hdl := dec_len (made.length + 1)
  have hal : (free ++ chainN c).length ≤ 100 := by rw [List.length_append]; omega
  generalize hAll : free ++ chainN c = all at hwi hpa hal han ⊢
  have hti : ∀ s, 0 ≤ times s all ∧ times s all ≤ 100 := fun s => by
    have := times_take s all all.length
    rw [List.take_length] at this
    omega
  have hca : ∀ u, cnt (incs all []) u = times u all := fun u => by rw [cnt_incs]; show (0 : Int) + _ = _; omega
  obtain ⟨m2, hs2, hpt⟩ := ih (chainB c) w6 of (incs all []) (made ++ [⟨fname of made.length, paramsR all, zCore⟩]) w2 hof (fun u => by
    have := hti u
    rw [hca u]
    omega) (by omega) (.inr ⟨n2, fun s hs => by rw [gset_incs_nil] at hs; exact han s (of_decide_eq_true hs)⟩) (by rw [List.length_append, List.length_singleton]; omega)
  rw [gset_incs_nil] at hpt
  have hln := part_len of (chainB c) false (fun x => decide (x ∈ all)) (made ++ [⟨fname of made.length, paramsR all, zCore⟩])
  rw [List.length_append, List.length_singleton] at hln
  generalize partR of false (chainB c) (fun x => decide (x ∈ all)) (made ++ [⟨fname of made.length, paramsR all, zCore⟩]) = r at hpt hln ⊢
  have hp1 := c_lambda1 (hpt.swap 801 800)
  have hp2 := c_inside all [] m2 _ _ [800, 3, 9, 13, 810, 901] (by omega) (fun u => by show (0 : Int) ≤ (0 : Int) ∧ (0 : Int) ≤ _; omega) (fun u => by
    have := hti u
    have := hs2 u
    rw [hca u] at this
    omega) (fun x => ⟨rfl, by kernel_rfl⟩) (fun x => ⟨rfl, by kernel_rfl⟩) rfl (by kernel_rfl) hp1
  have hp3 := hp2.swap 800 803
  obtain ⟨y, hy⟩ := get_of_lt (show made.length < r.2.length by omega)
  have hy' := getEnc encSup hy
  have hset := setBody_set r.1 r.2 made.length y hy
  have hset' : r.2.length = (setBody r.2 made.length r.1).length := (setBody_len _ _ _).symm
  have hlg : [R.c (.str of), .hs 901 0 r.2.length r.2.length] = R.renL (fun i => i) [R.c (.str of), .hs 901 0 (setBody r.2 made.length r.1).length (setBody r.2 made.length r.1).length] := by rw [setBody_len]; rfl
  refine impC (n := 84) tok Tryd.func69 rfl rfl rfl ?_
  refine awp_seq (ag [] rfl ?_)
  refine awp_seq (ag [(0, .id 802)] rfl ?_)
  refine AWp.sub (Sub.ownCell (x := 802) (k := 0) (id := 900) 9 1 rfl rfl rfl) ?_
  refine AWp.sub (st2 := mk [(2, .one (.mr 801)), (3, .one (.vp 3 0)), (4, .one (.vp 4 0)), (6, .one (.vp 6 0)), (7, .one (.vp 802 0))] [(3, .var 77 [.vp 810 0]), (4, .var 38 (cellsC c)), (6, .var 38 zCells), (801, mapO a), (802, .var 31 [.hs 900 0 0 0]), (900, outO []), (810, lfO of made), (901, madeO made)]) sl ?_
  refine awp_seq (awp_rg mixed ?_)
  refine ak 3 [(0, .id 800)] rfl ?_
  refine kc hfr ?_
  refine az ?_
  refine AWp.sub (Sub.freeze (id := 900) rfl) ?_
  refine AWp.sub (vp 802 [.sl 1 (free.map encS)] (hp := .hs rfl (by simp) take_map.symm .nil)) ?_
  refine awp_seq (ag [(1, .pc (.tup [strsV (chainN c), .pa (encCore (chainB c))]))] rfl ?_)
  refine awp_seq (ag [(2, .all), (3, .pc (strsV all))] rfl ?_)
  refine awp_seq (ag [] rfl ?_)
  refine awp_seq (agN [(7, .pc (Go.AM.T (dec (made.length + 1))))] rfl ?_)
  refine awp_seq (ag [(8, .pc (strsV (paramsR all)))] rfl ?_)
  have hmk : made.map encSup ++ [encSup (Sup.mk (fname of made.length) (paramsR all) zCore)] = (made ++ [Sup.mk (fname of made.length) (paramsR all) zCore]).map encSup := by rw [List.map_append]; rfl
  have hlf : [R.c (.str of), .hs 901 0 ((made.map encSup).length + 1) ((made.map encSup).length + 1)] = R.renL (fun i => i) [R.c (.str of), .hs 901 0 (made ++ [Sup.mk (fname of made.length) (paramsR all) zCore]).length (made ++ [Sup.mk (fname of made.length) (paramsR all) zCore]).length] := by rw [List.length_append, List.length_map]; rfl
  refine AWp.sub (vp 12 (encCore (varC (fname of made.length)))) ?_
  refine AWp.sub (st2 := mk [(2, .one (.mr 801)), (3, .one (.vp 3 0)), (6, .one (.vp 6 0)), (7, .one (.vp 802 0)), (9, .one (.vp 9 0)), (10, strsV all), (11, I .i64 ((made.length : Nat) : Int)), (12, .one (.vp 12 0))] [(3, .var 77 [.vp 810 0]), (6, .var 38 zCells), (9, .var 38 (cellsC (chainB c))), (12, .var 38 (cellsC (varC (fname of made.length)))), (801, mapO a), (802, .var 31 [.c (.sl 1 (free.map encS))]), (810, lfO of (made ++ [Sup.mk (fname of made.length) (paramsR all) zCore])), (901, madeO (made ++ [Sup.mk (fname of made.length) (paramsR all) zCore]))]) (sl (hh := ⟨⟨_, rfl, .var rfl⟩, ⟨_, rfl, .var rfl⟩, ⟨_, rfl, .var rfl⟩, ⟨_, rfl, .var rfl⟩, ⟨_, rfl, .map⟩, ⟨_, rfl, .var rfl⟩, ⟨_, rfl, .var hlf⟩, ⟨_, rfl, .arrS hmk⟩, trivial⟩)) ?_
  refine awp_seq (ag [(0, .id 803)] rfl ?_)
  refine awp_seq (awp_rg mixed ?_)
  refine ak 3 [] rfl ?_
  refine kc hp3 ?_
  refine az ?_
  refine awp_seq (ag [(8, .row made.length (encSup y))] rfl ?_)
  refine awp_seq (awp_seq (ag [] rfl ?_))
  have hkf : (free.map encS).length = free.length := List.length_map _
  refine awp_block ?_
  refine awp_loop (fun i : Nat => mk [(6, .one (.vp 6 0)), (12, .one (.vp 12 0)), (71, strsV free), (72, I .i64 ((free.map encS).length : Int)), (73, I .i64 i)] [(6, .var 38 zCells), (12, .var 38 (cellsC (appVars (varC (fname of made.length)) (free.take i)))), (801, mapO a), (810, lfO of (setBody r.2 made.length r.1)), (901, madeO (setBody r.2 made.length r.1))]) (fun i => i ≤ free.length) (fun i => free.length - i) 0 (Nat.zero_le _) (by
    exact sl (hh := ⟨⟨_, rfl, .var rfl⟩, ⟨_, rfl, .var rfl⟩, ⟨_, rfl, .map⟩, ⟨_, rfl, .var hlg⟩, ⟨_, rfl, .arrS hset.symm⟩, trivial⟩)) ?_
  intro i hi
  refine awp_seq (ag [] rfl ?_)
  refine awp_seq (awp_cond rfl (fun hb => ?_) (fun hb => ?_))
  · have hlt := ltD hb hkf
    obtain ⟨s, hs⟩ := get_of_lt hlt
    have hs' := getEnc encS hs
    refine awp_skip ?_
    refine awp_seq (awp_block (awp_seq (ag [(0, .row i (encS s))] rfl ?_)))
    refine ag [(3, .all)] rfl ?_
    refine ag [] rfl ?_
    refine ⟨i + 1, hlt, by dsimp only; omega, Sub.trans ?_ (vp 12 (encCore (appC (appVars (varC (fname of made.length)) (free.take i)) (varC s))))⟩
    dsimp only
    rw [take_step hs, appVars_snoc]
    exact sl
  have hge := geD hb hkf hi
  subst hge
  rw [List.take_length]
  refine awp_exit ?_
  refine awp_seq (ag [] rfl ?_)
  refine awp_ret ?_
  exact rtC trw

theorem c_ppart_step (c : Core) (ih : ∀ x, csize x < csize c → PpSpec x) : PpSpec c := by
  intro of a made hw hof hm hsz h5 hmd
  have hm0 : ∀ s, 0 ≤ cnt a s := fun s => (hm s).1
  by_cases hf : c.form = 5
  · have h := c_lambda c hf ih of a made hw hof hm hsz h5 hmd
    refine ⟨a, fun _ => rfl, ?_⟩
    generalize partR of false c (gset a) made = r at h ⊢
    refine impC (n := 19) tok Tryd.func43 rfl rfl rfl ?_
    refine awp_seq (ag [] rfl ?_)
    refine awp_seq (awp_seq (ag [] rfl ?_))
    refine awp_cond rfl (fun _ => ?_) (fun hb => absurd hf (of_decide_eq_false hb))
    refine awp_seq (awp_rg mixed ?_)
    refine ak 3 [] rfl ?_
    refine kc h ?_
    refine ak 1 [] rfl ?_
    refine az ?_
    refine awp_ret ?_
    exact rtC trw
  · obtain ⟨f, n, s, t, ks, bs, al⟩ := c
    have hf' : ¬ f = 5 := hf
    obtain ⟨a', ha, h⟩ := c_each hf' ih of a made hw hof hm hsz h5 hmd
    refine ⟨a', ha, ?_⟩
    generalize partR of false (.mk f n s t ks bs al) (gset a) made = r at h ⊢
    refine impC (n := 19) tok Tryd.func43 rfl rfl rfl ?_
    refine awp_seq (ag [(0, .id 700)] rfl ?_)
    refine awp_seq (awp_seq (ag [] rfl ?_))
    refine awp_cond rfl (fun hb => absurd (of_decide_eq_true hb) hf) (fun _ => ?_)
    refine awp_skip ?_
    refine awp_seq (awp_rg mixed ?_)
    refine ak 3 [] rfl ?_
    refine kc h ?_
    refine az ?_
    refine awp_seq (ag [] rfl ?_)
    refine awp_ret ?_
    exact rtC trw
theorem c_ppart : ∀ (n : Nat) (c : Core), csize c ≤ n → PpSpec c
  | 0, c, h => by have := csize_pos c; omega
  | n + 1, c, h => c_ppart_step c fun x hx => c_ppart n x (by omega)
end Go.Proofs.YtojcjjjpniimiaaDoor

/- ALL BINDS are lifted (the program's Lift): the walk. -/
namespace Go.Proofs.YtojcjjjpniimiaaDoor
open Go Go.AM
set_option maxRecDepth 20000

theorem c_Lift1 {m m' : CM} {of : Str} {made made' : List Sup} {c c' : Core}
    (hf : ImpC Tryd.prog 43 [.one (.vp 810 0), .pa (encCore c), .one (.mr 800)] (lH 800 of made m) (.pa (encCore c')) (lH 800 of made' m')) :
    ImpC Tryd.prog 42 ([R.vp 8 0, R.vp 7 0, R.vp 9 0].map V.one) [(800, mapO m), (8, .var 77 [.vp 810 0]), (7, .var 38 (cellsC c)), (9, .var mT [.mr 800]), (810, lfO of made), (901, madeO made)] (.tup []) [(800, mapO m'), (8, .var 77 [.vp 810 0]), (7, .var 38 (cellsC c')), (9, .var mT [.mr 800]), (810, lfO of made'), (901, madeO made')] := by
  refine impC (n := 7) tok Tryd.func42 rfl rfl rfl ?_
  refine awp_rg mixed ?_
  refine ak 3 [] rfl ?_
  refine kc hf ?_
  refine ak 1 [] rfl ?_
  refine az ?_
  exact ⟨.inl rfl, ⟨_, _, .nil, .nil, rfl⟩, ⟨⟨_, rfl, .map⟩, ⟨_, rfl, .var rfl⟩, ⟨_, rfl, .var rfl⟩, ⟨_, rfl, .var rfl⟩, ⟨_, rfl, .var rfl⟩, ⟨_, rfl, .arr⟩, trivial⟩, rfl⟩

/-- Binds that the program can lift. -/
structure POk (b : Bind) : Prop where
  ok : BOk b
  few : Few5 (chainB b.body) (fun x => decide (x ∈ chainN b.body))
  lams : lamsN (chainB b.body) ≤ 90
  cn : (chainN b.body).length ≤ 100

theorem c_Lift (l : List Bind) (hl : l.length ≤ 1000) (h : ∀ b ∈ l, POk b) : ImpC Tryd.prog 17 [.one (.c (.sl 15 (l.map encBind)))] [] (lifV (liftR l)) [(500, lifO (liftR l))] := by
  have hM : 1000000000 ≤ maxLen := by decide
  have hll := liftR_len fun b hb => (h b hb).ok
  refine impC (n := 48) tok Tryd.func17 rfl rfl rfl ?_
  refine awp_seq (ag [] rfl ?_)
  refine awp_seq (ag [] rfl ?_)
  refine AWp.sub (Sub.own (t := 3) (id := 500) 40 12 rfl rfl) ?_
  refine awp_seq (awp_seq (ag [] rfl ?_))
  refine awp_block ?_
  have hkl : (l.map encBind).length = l.length := List.length_map _
  refine awp_loop (fun i : Nat => mk [(10, .one (.c (.sl 15 (l.map encBind)))), (11, I .i64 ((l.map encBind).length : Int)), (3, lifV (liftR (l.take i))), (12, I .i64 i)] [(500, lifO (liftR (l.take i)))]) (fun i => i ≤ l.length) (fun i => l.length - i) 0 (Nat.zero_le _) sl ?_
  intro i hi
  refine awp_seq (ag [] rfl ?_)
  refine awp_seq (awp_cond rfl (fun hb => ?_) (fun hb => ?_))
  · have hlt := ltD hb hkl
    obtain ⟨b, hbi⟩ := get_of_lt hlt
    have hbi' := getEnc encBind hbi
    have hm := List.mem_of_getElem? hbi
    obtain ⟨⟨hw, hs, hn⟩, hfe, hla, hcn⟩ := h b hm
    obtain ⟨w1, w2, w3, w4, w5, w6⟩ := wf_chain _ b.body (Nat.le_refl _) hw
    have hch := c_pchain b.body w1 (by omega)
    have hsh : Short (chainN b.body) := fun s hs' => by have := w5 s hs'; omega
    have hpa := c_params (chainN b.body) hcn hsh
    have hst := liftR_step hbi
    rw [liftB_eq hw] at hst
    have hlm := liftR_len (l := l.take i) fun x hx => (h x (List.mem_of_mem_take hx)).ok
    rw [List.length_take] at hlm
    have hpl := part_len b.name (chainB b.body) false (fun x => decide (x ∈ chainN b.body)) []
    simp only [List.length_nil] at hpl
    have hti : ∀ s, 0 ≤ times s (chainN b.body) ∧ times s (chainN b.body) ≤ 100 := fun s => by
      have := times_take s (chainN b.body) (chainN b.body).length
      rw [List.take_length] at this
      omega
    have hca : ∀ u, cnt (incs (chainN b.body) []) u = times u (chainN b.body) := fun u => by rw [cnt_incs]; show (0 : Int) + _ = _; omega
    obtain ⟨m2, hs2, hpt⟩ := c_ppart _ (chainB b.body) (Nat.le_refl _) b.name (incs (chainN b.body) []) [] w2 hn (fun u => by
      have := hti u
      rw [hca u]
      omega) (by omega) (by rw [gset_incs_nil]; exact hfe) (by simp; omega)
    rw [gset_incs_nil] at hpt
    generalize partR b.name false (chainB b.body) (fun x => decide (x ∈ chainN b.body)) [] = r at hpt hst hpl
    have hp1 := c_Lift1 (hpt.swap 801 800)
    have hp2 := c_inside (chainN b.body) [] m2 _ _ [800, 8, 7, 9, 810, 901] (by omega) (fun u => by show (0 : Int) ≤ (0 : Int) ∧ (0 : Int) ≤ _; omega) (fun u => by
      have := hti u
      have := hs2 u
      rw [hca u] at this
      omega) (fun x => ⟨rfl, by kernel_rfl⟩) (fun x => ⟨rfl, by kernel_rfl⟩) rfl (by kernel_rfl) hp1
    generalize liftR (l.take i) = X at hst hlm ⊢
    refine awp_skip ?_
    refine awp_seq (awp_block (awp_seq (ag [(0, .row i (encBind b))] rfl ?_)))
    refine awp_seq (ag [(2, .pc (.tup [strsV (chainN b.body), .pa (encCore (chainB b.body))]))] rfl ?_)
    refine awp_seq (ag [(3, .id 810)] rfl ?_)
    refine AWp.sub (Sub.ownCell (x := 810) (k := 1) (id := 901) 40 12 rfl rfl rfl) ?_
    refine awp_seq (ag [(0, .id 800)] rfl ?_)
    refine awp_seq (awp_rg mixed ?_)
    refine ak 3 [] rfl ?_
    refine kc hp2 ?_
    refine az ?_
    refine awp_seq (ag [(4, .pc (strsV (paramsR (chainN b.body))))] rfl ?_)
    refine ag [(5, .all)] rfl ?_
    refine ag [] rfl ?_
    refine ⟨i + 1, hlt, by dsimp only; omega, ?_⟩
    dsimp only
    rw [hst]
    have hrows : X.map encSup ++ [encSup (Sup.mk b.name (paramsR (chainN b.body)) r.1)] ++ r.2.map encSup = (X ++ Sup.mk b.name (paramsR (chainN b.body)) r.1 :: r.2).map encSup := by
      rw [List.map_append, List.append_assoc]; rfl
    exact sl (he := ⟨rfl, rfl, Go.AM.hs_ren (by simp; omega) (by simp; omega), rfl, trivial⟩) (hh := ⟨⟨_, rfl, .arrS hrows⟩, trivial⟩)
  have hge := geD hb hkl hi
  subst hge
  rw [List.take_length]
  refine awp_exit ?_
  refine awp_seq (ag [] rfl ?_)
  exact awp_ret (rtT (hc := .refl))
end Go.Proofs.YtojcjjjpniimiaaDoor
