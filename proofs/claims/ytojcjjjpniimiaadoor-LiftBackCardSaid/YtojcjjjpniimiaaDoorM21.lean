/-
  Texts La46, La47, La48, La49 in one.
-/
import Derived.Test.YtojcjjjpniimiaaDoorM20
/- A COPY of core (the program's copied): the same again. -/
namespace Go.Proofs.YtojcjjjpniimiaaDoor
open Go Go.AM
set_option maxRecDepth 20000

def CpSpec (c : Core) : Prop := csize c ≤ 400000 → ImpC Tryd.prog 51 [.pa (encCore c)] [] (.pa (encCore c)) []
theorem c_copied_step (c : Core) (ih : ∀ x, csize x < csize c → CpSpec x) : CpSpec c := by
  intro hsz
  obtain ⟨f, n, s, t, ks, bs, al⟩ := c
  have hin : ∀ p ∈ partsL f s ks bs al, _ := fun p hp => @parts_in f n s t ks bs al p hp
  have hat := @parts_at f s ks bs al
  have hcp := c_parts f n s t ks bs al hsz
  have hrr : ∀ x ∈ (pObj (pRows f s ks bs al)).refs, x ∈ pRefs.refs := rows_refs
  have hpl := pRows_len f s ks bs al
  obtain ⟨hkl, hbl, hal⟩ : ks.length < 400000 ∧ bs.length < 400000 ∧ al.length < 400000 := by
    obtain ⟨_, _, _, q1, q2, q3⟩ := @size_in f n s t ks bs al
    omega
  have hrl : (pRows f s ks bs al).length ≤ 1200000 := by omega
  have k1 : bs.length = (encBinds bs).length := by rw [encBinds_map, List.length_map]
  have k2 : ks.length = (encCores ks).length := by rw [encCores_map, List.length_map]
  have k3 : al.length = (encAlts al).length := by rw [encAlts_map, List.length_map]
  generalize partsL f s ks bs al = L at hin hat
  generalize pRows f s ks bs al = rows at hat hcp hrr hrl hpl
  refine impC (n := 21) tok Tryd.func51 rfl rfl rfl ?_
  refine awp_seq (ag [(0, .id 700)] rfl ?_)
  refine awp_seq (awp_seq (awp_rg mixed ?_))
  refine kc hcp ?_
  refine ak 2 [] rfl ?_
  refine az ?_
  refine awp_block ?_
  refine awp_loop (fun i : Nat => mk [(1, .one (.vp 700 0)), (2, .one (.vp 2 0)), (5, .one (.ra 704 0 rows.length rows.length)), (6, I .i64 ((rows.length : Nat) : Int)), (7, I .i64 i)] ((704, pObj rows) :: [(2, .var 38 zCells), (700, .var 38 (cellsO f n s t ks.length bs.length al.length)), (701, .arr 46 15 (encBinds bs) 0), (702, .arr 38 10 (encCores ks) 0), (703, .arr 69 14 (encAlts al) 0)])) (fun i => i ≤ rows.length) (fun i => rows.length - i) 0 (Nat.zero_le _) (slR pRefs hrr ⟨_, rfl, .rarrS rfl⟩) ?_
  intro i hi
  refine awp_seq (ag [] rfl ?_)
  refine awp_seq (awp_cond rfl (fun hb => ?_) (fun hb => ?_))
  · have hlt : i < rows.length := by
      have : (i : Int) < (rows.length : Int) := of_decide_eq_true hb
      omega
    refine awp_skip ?_
    refine awp_seq (awp_block ?_)
    rcases hat hlt with ⟨j, b, hb', hro, hpa, _⟩ | ⟨j, k, hk', hro, hpa, _⟩ | ⟨j, al', ha', hro, hpa, _⟩
    · obtain ⟨q1, q2⟩ := hin _ (List.mem_of_getElem? hpa)
      have hc := ih b.body q1 (by dsimp only at q2; omega)
      have hx' := encBinds_at hb'
      have hlt2 := (List.getElem?_eq_some_iff.1 hb').1
      have hsame := set_same hx'
      refine awp_seq (ag [(1, .rr (prow 701 5 bs.length (gvs f s bs) j))] rfl ?_)
      refine awp_rg mixed ?_
      refine ak 6 [(5, .row j (encBind b))] rfl ?_
      refine kc hc ?_
      refine ak 2 [(8, .row j (encBind b))] rfl ?_
      refine az ?_
      refine ag [] rfl ?_
      exact ⟨i + 1, hlt, by dsimp only; omega, slR pRefs hrr ⟨_, rfl, .rarrS rfl⟩ (hh := ⟨⟨_, rfl, .var rfl⟩, ⟨_, rfl, .var rfl⟩, ⟨_, rfl, by first | exact .arr | exact .arrS hsame⟩, ⟨_, rfl, by first | exact .arr | exact .arrS hsame⟩, ⟨_, rfl, by first | exact .arr | exact .arrS hsame⟩, trivial⟩)⟩
    · obtain ⟨q1, q2⟩ := hin _ (List.mem_of_getElem? hpa)
      have hc := ih k q1 (by dsimp only at q2; omega)
      have hx' := encCores_at hk'
      have hlt2 := (List.getElem?_eq_some_iff.1 hk').1
      have hsame := set_same hx'
      refine awp_seq (ag [(1, .rr (prow 702 0 ks.length (gvs f s bs) j))] rfl ?_)
      refine awp_rg mixed ?_
      refine ak 6 [(5, .row j (encCore k))] rfl ?_
      refine kc hc ?_
      refine ak 2 [(8, .row j (encCore k))] rfl ?_
      refine az ?_
      refine ag [] rfl ?_
      exact ⟨i + 1, hlt, by dsimp only; omega, slR pRefs hrr ⟨_, rfl, .rarrS rfl⟩ (hh := ⟨⟨_, rfl, .var rfl⟩, ⟨_, rfl, .var rfl⟩, ⟨_, rfl, by first | exact .arr | exact .arrS hsame⟩, ⟨_, rfl, by first | exact .arr | exact .arrS hsame⟩, ⟨_, rfl, by first | exact .arr | exact .arrS hsame⟩, trivial⟩)⟩
    · obtain ⟨q1, q2⟩ := hin _ (List.mem_of_getElem? hpa)
      have hc := ih al'.body q1 (by dsimp only at q2; omega)
      have hx' := encAlts_at ha'
      have hlt2 := (List.getElem?_eq_some_iff.1 ha').1
      have hsame := set_same hx'
      refine awp_seq (ag [(1, .rr (prow 703 4 al.length (gvs f s bs ++ al'.vars) j))] rfl ?_)
      refine awp_rg mixed ?_
      refine ak 6 [(5, .row j (encAlt al'))] rfl ?_
      refine kc hc ?_
      refine ak 2 [(8, .row j (encAlt al'))] rfl ?_
      refine az ?_
      refine ag [] rfl ?_
      exact ⟨i + 1, hlt, by dsimp only; omega, slR pRefs hrr ⟨_, rfl, .rarrS rfl⟩ (hh := ⟨⟨_, rfl, .var rfl⟩, ⟨_, rfl, .var rfl⟩, ⟨_, rfl, by first | exact .arr | exact .arrS hsame⟩, ⟨_, rfl, by first | exact .arr | exact .arrS hsame⟩, ⟨_, rfl, by first | exact .arr | exact .arrS hsame⟩, trivial⟩)⟩
  have hge : i = rows.length := by
    have : ¬ (i : Int) < (rows.length : Int) := of_decide_eq_false hb
    omega
  subst hge
  refine awp_exit ?_
  refine AWp.sub (Sub.freeze (id := 701) rfl) (AWp.sub (Sub.freeze (id := 702) rfl) (AWp.sub (Sub.freeze (id := 703) rfl) (AWp.sub (vp 700 (encCore (.mk f n s t ks bs al))) ?_)))
  refine awp_seq (ag [] rfl ?_)
  refine awp_ret ?_
  exact rtC trw
theorem c_copied : ∀ (n : Nat) (c : Core), csize c ≤ n → CpSpec c
  | 0, c, h => by have := csize_pos c; omega
  | n + 1, c, h => c_copied_step c fun x hx => c_copied n x (by omega)
end Go.Proofs.YtojcjjjpniimiaaDoor

/- slices.Backward of texts: the function that it hands back. -/
namespace Go.Proofs.YtojcjjjpniimiaaDoor
open Go Go.AM
set_option maxRecDepth 20000

theorem c_backward (l : List Str) : ImpC Tryd.prog 52 [strsV l] [] (.one (.clo 84 [.vp 771 0])) [(771, .var 31 [.c (.sl 1 (l.map encS))])] := by
  refine impC (n := 4) tok Tryd.func52 rfl rfl rfl ?_
  refine awp_seq (ag [(0, .id 771)] rfl ?_)
  refine awp_seq (ag [] rfl ?_)
  refine awp_ret ?_
  exact ⟨.inr rfl, ⟨_, _, .tmp rfl .nil, .cons .refl .nil, rfl⟩, ⟨⟨_, rfl, .var rfl⟩, trivial⟩, rfl⟩
def bkO (l : List Str) : AObj := .var 31 [.c (.sl 1 (l.map encS))]
theorem c_backward1 (l : List Str) (hl : l.length ≤ 1000000) (idl : Nat) (ks : List Nat) (H : Nat → List (Nat × AObj)) (hw : ∀ k, Wf ks ((771, bkO l) :: H k)) (hks : subset [idl, 771] ks = true)
    (hr : ∀ k s, l[k]? = some s → RndC Tryd.prog idl [I .i64 (k : Nat), Go.AM.T s] ((771, bkO l) :: H (k + 1)) true ((771, bkO l) :: H k)) : ImpC Tryd.prog 84 [.one (.yl idl), .one (.vp 771 0)] ((771, bkO l) :: H l.length) (.tup []) ((771, bkO l) :: H 0) := by
  have hkk : keys ((771, bkO l) :: H l.length) = ks := (hw _).keys
  have hkl : (l.map encS).length = l.length := List.length_map _
  refine impC (n := 19) tok Tryd.func84 rfl rfl rfl ?_
  rw [hkk]
  refine awp_seq (ag [] rfl ?_)
  refine awp_block ?_
  refine awp_loop (fun k : Nat => mk [(0, .one (.yl idl)), (1, .one (.vp 771 0)), (3, I .i64 ((k : Int) - 1))] ((771, bkO l) :: H k)) (fun k => k ≤ l.length) (fun k => k) l.length (Nat.le_refl _) (Sub.heap (hw _) ⟨rfl, rfl, by show some (I .i64 (((l.map encS).length : Int) - 1)) = _; rw [hkl], trivial⟩ (fun _ _ h => h) (by simpa [refsE, V.refs, R.refs, I] using hks) (subset_refl _) rfl) ?_
  intro k hk
  refine awp_seq (awp_seq (ag [] rfl ?_))
  refine awp_cond rfl (fun hb => ?_) (fun hb => ?_)
  · have hk1 : 0 ≤ (k : Int) - 1 := by simpa using hb
    obtain ⟨m, rfl⟩ : ∃ m, k = m + 1 := ⟨k - 1, by omega⟩
    rw [show ((m + 1 : Nat) : Int) - 1 = (m : Nat) by omega]
    obtain ⟨s, hs⟩ := get_of_lt (show m < l.length by omega)
    have hs' := getEnc encS hs
    refine awp_skip ?_
    refine awp_seq (awp_block ?_)
    refine awp_seq (awp_rg mixed ?_)
    refine ak 6 [(4, .row m (encS s))] rfl ?_
    refine k_ (g_ rfl rfl (r_yield (d := 17) ((771, bkO l) :: H (m + 1)) ((771, bkO l) :: H m) rfl rfl (blt_lt rfl) rfl (hr m s hs) (.cons rfl .refl (.cons rfl .refl .nil)) (hw _).all ((hw _).hout (hw _)) ((hw _).callOk (by have := hks; simp [subset, V.refs, V.refsL, R.refs] at this ⊢; exact this.1)))) ?_
    refine ak 1 [] rfl ?_
    refine az ?_
    refine awp_cond rfl (fun hb => by cases hb) (fun _ => ?_)
    refine awp_skip ?_
    refine ag [] rfl ?_
    exact ⟨m, by omega, by dsimp only; omega, Sub.heap (hw _) ⟨rfl, rfl, rfl, trivial⟩ (fun id o h => by
      show updL (Go.AM.look ((771, bkO l) :: H (m + 1))) (outs ((771, bkO l) :: H m)) id = some o
      rw [updL_outs, h]) (by simpa [refsE, V.refs, R.refs, I] using hks) (subset_refl _) rfl⟩
  · refine awp_exit ?_
    obtain rfl : k = 0 := by
      have : ¬ 0 ≤ (k : Int) - 1 := by simpa using hb
      omega
    exact ⟨.inl rfl, Fin.heap (hw _) (hw _) (fun _ _ h => h) .nil .nil rfl⟩
end Go.Proofs.YtojcjjjpniimiaaDoor

/- BINDS AGAIN (the program's Binds): the walk. -/
namespace Go.Proofs.YtojcjjjpniimiaaDoor
open Go Go.AM
set_option maxRecDepth 20000

theorem b_back1 : bodied Tryd.prog 84 := bod_ (by kernel_rfl)
def coV (c : Core) : AObj := .var 38 (cellsC c)
theorem c_pbinds (l : List Sup) (hl : l.length ≤ 1000000) (hp : ∀ x ∈ l, x.params.length ≤ 100 ∧ csize x.body ≤ 400000) : ImpC Tryd.prog 20 [supsV l] [] (.one (.c (.sl 15 ((bindsR l).map encBind)))) [] := by
  refine impC (n := 36) tok Tryd.func20 rfl rfl rfl ?_
  refine awp_seq (ag [] rfl ?_)
  refine awp_seq (ag [] rfl ?_)
  refine AWp.sub (Sub.own (t := 3) (id := 500) 46 15 rfl rfl) ?_
  refine awp_seq (awp_seq (ag [] rfl ?_))
  refine awp_block ?_
  have hkl : (l.map encSup).length = l.length := List.length_map _
  refine awp_loop (fun i : Nat => mkm [(9, supsV l), (10, I .i64 ((l.map encSup).length : Int)), (3, .one (.hs 500 0 i i)), (11, I .i64 i)] [(500, .arr 46 15 ((bindsR (l.take i)).map encBind) 0)] i) (fun i => i ≤ l.length) (fun i => l.length - i) 0 (Nat.zero_le _) (Sub.listM ⟨rfl, rfl, rfl, rfl, trivial⟩ ⟨⟨_, rfl, .arr⟩, trivial⟩ rfl (fun i hi => absurd hi (Nat.not_lt_zero i)) rfl) ?_
  intro i hi
  have hbl : (bindsR (l.take i)).length = i := by unfold bindsR; rw [List.length_map, List.length_take]; omega
  refine awp_seq (ag [] rfl ?_)
  refine awp_seq (awp_cond rfl (fun hb => ?_) (fun hb => ?_))
  · have hlt := ltD hb hkl
    obtain ⟨x, hx⟩ := get_of_lt hlt
    have hx' := getEnc encSup hx
    obtain ⟨hpx, hcx⟩ := hp x (List.mem_of_getElem? hx)
    have hco := c_copied _ x.body (Nat.le_refl _) hcx
    have hbk := c_backward x.params
    refine awp_skip ?_
    refine awp_seq (awp_block ?_)
    refine awp_seq (ag [(0, .row i (encSup x))] rfl ?_)
    refine awp_seq (ag [(2, .pc (.pa (encCore x.body)))] rfl ?_)
    refine awp_seq (awp_seq (awp_rg mixed ?_))
    refine ak 2 [] rfl ?_
    refine kc hbk ?_
    refine az ?_
    refine awp_block ?_
    refine awp_range (st' := .ready) (j := none) (hin := [(771, bkO x.params), (6, coV (lamsR x.body (x.params.drop x.params.length)))]) (hout := [(771, bkO x.params), (6, coV (lamsR x.body (x.params.drop 0)))]) 900 (1000 + i) [(6, .one (.vp 6 0))]
      (mkm [(9, supsV l), (10, I .i64 ((l.map encSup).length : Int)), (3, .one (.hs 500 0 i i)), (11, I .i64 i), (5, .one (.vp 5 0)), (6, .one (.vp 6 0))] [(500, .arr 46 15 ((bindsR (l.take i)).map encBind) 0), (5, .var 40 ((encSup x).map R.c)), (6, coV (lamsR x.body x.params))] (i + 1))
      b_back1 rfl ⟨rfl, trivial⟩ ⟨rfl, by rw [List.drop_length]; rfl, trivial⟩ ⟨.inl (by simp [keys]), .inl (by simp [keys]), trivial⟩ rfl ?_
      (ImpC.row (c_backward1 x.params (by omega) 900 [771, 900, 6] (fun k => [(900, .lp .ready none ⟨36, _, _, _⟩ [(6, .one (.vp 6 0))]), (6, coV (lamsR x.body (x.params.drop k)))]) (fun k => ⟨rfl, rfl⟩) rfl ?_) look_swap look_swap) ?_ (by simp) ?_ ?_
    · repeat first | exact far_mkm dm_out | exact far_raw dm_out | refine far_upd ?_ | refine far_updL ?_
    · intro k s hs
      have hd := lamsR_drop x.body hs
      refine RndC.row ?_ look_swap look_swap
      refine RndC.of (j := none) (fun l => ?_) rfl
      refine ag [] rfl ?_
      refine ⟨rfl, ?_⟩
      refine awp_block ?_
      refine AWp.cut (mk [] [(771, bkO x.params), (6, coV (lamC s (lamsR x.body (x.params.drop (k + 1)))))]) (ag [(2, .all)] rfl (Sub.trans sl (vp 6 (encCore (lamC s (lamsR x.body (x.params.drop (k + 1)))))))) ?_
      rw [hd]
      exact ⟨rfl, ⟨⟨_, rfl, .var rfl⟩, ⟨_, rfl, .var rfl⟩, trivial⟩, rfl⟩
    · exact far_ok rfl
    · exact Sub.rangeM ⟨rfl, rfl, rfl, rfl, rfl, rfl, trivial⟩ ⟨⟨_, rfl, .arr⟩, ⟨_, rfl, .var rfl⟩, ⟨_, rfl, .var rfl⟩, trivial⟩ rfl (fun j hj => by repeat first | exact far_mkm (dm_in hj) | exact far_raw (dm_in hj) | refine far_upd ?_ | refine far_updL ?_) rfl rfl
    refine ag [(5, .all)] rfl ?_
    refine ag [] rfl ?_
    have hrows : (bindsR (l.take i)).map encBind ++ [encBind (Bind.mk x.name zTy (lamsR x.body x.params))] = (bindsR (l.take (i + 1))).map encBind := by
      unfold bindsR; rw [take_step hx]; simp
    exact ⟨i + 1, hlt, by dsimp only; omega, Sub.listM ⟨rfl, rfl, Go.AM.hs_ren (by simp; omega) (by simp; omega), rfl, trivial⟩ ⟨⟨_, rfl, .arrS hrows⟩, trivial⟩ rfl (fun j hj => by repeat first | exact far_mkm (dm_in hj) | exact far_raw (dm_in hj) | refine far_upd ?_ | refine far_updL ?_) rfl⟩
  · have hge := geD hb hkl hi
    subst hge
    rw [List.take_length] at hbl ⊢
    refine awp_exit ?_
    refine awp_seq (ag [] rfl ?_)
    refine AWp.sub (Sub.freeze (id := 500) rfl) ?_
    exact awp_ret (rtT (hc := hs_all rfl rfl (by rw [List.length_map]; exact hbl.symm) rfl))
end Go.Proofs.YtojcjjjpniimiaaDoor

/- LiftBack: the walk. -/
namespace Go.Proofs.YtojcjjjpniimiaaDoor
open Go Go.AM
set_option maxRecDepth 20000

def bdV (l : List Bind) : V := .one (.c (.sl 15 (l.map encBind)))
theorem c_LiftBack (l : List (List Int)) (hl : Fits l) (hn : ∀ x ∈ l, Nums x ∧ Fits x) :
    ImpC Tryd.prog 6 [.one (.c (.sl 1 (l.map encL)))] [] (B true) [] := by
  have hbi : ImpC Tryd.prog 8 [.one (.c (.sl 1 (l.map encL)))] [] (bdV (lbinds l)) [] := c_lbinds l hl hn
  have hbg := lbinds_g l
  have hbl : (lbinds l).length ≤ 4 := by
    unfold lbinds
    rw [List.length_map, lbase_len]
    omega
  have hlf : ImpC Tryd.prog 7 [bdV (lbinds l)] [] (supsV (liftR (lbinds l))) [] := ImpC.plain (c_lift25 (lbinds l) (by omega) fun b hb => (hbg b hb).pok.ok) (List.length_map _).symm
  obtain ⟨hsz, hsl⟩ := liftR_small hbg
  have hsg := lbinds_sg l
  have hlv := c_lives
  generalize lbinds l = L at hbi hbl hlf hsl hsz hsg
  generalize liftR L = S at hlf hsz hsl hsg
  have hbb : (bindsR S).length = S.length := List.length_map _
  have hpb : ImpC Tryd.prog 20 [supsV S] [] (bdV (bindsR S)) [] := c_pbinds S (by omega) fun x hx => by have := hsz x hx; omega
  have hrb : ImpC Tryd.prog 21 [supsV S] [] (bdV (bindsR S)) [] := c_binds25 S (by omega) fun x hx => by have := hsz x hx; omega
  have hla := c_Lift (bindsR S) (by omega) (SG.binds hsg)
  rw [SG.again hsg] at hla
  have hla2 : ImpC Tryd.prog 17 [bdV (bindsR S)] [] (supsV S) [] := ImpC.plain hla (List.length_map _).symm
  have hse := c_seq S (by omega) fun x hx => ⟨(hsg x hx).z0, by have := hsz x hx; omega, by have := hsz x hx; omega⟩
  have hce : ∀ b ∈ bindsR S, ∃ s c, b = .mk s zTy c ∧ ImpC Tryd.prog 22 [.pa (encCore c), .pa (encCore c)] [] (B true) [] := by
    intro b hb
    obtain ⟨x, hx, rfl⟩ := List.mem_map.1 hb
    refine ⟨_, _, rfl, c_ceq _ _ (Nat.le_refl _) (z0_lams _ (hsg x hx).z0) ?_⟩
    have h1 := lams_size x.params x.body (hsg x hx).sh
    have := hsz x hx
    omega
  generalize bindsR S = W at hbb hpb hrb hla2 hce
  clear hbg hla hsg hsz
  have hkW : (W.map encBind).length = W.length := List.length_map _
  refine impC (n := 66) tok Tryd.func6 rfl rfl rfl ?_
  refine awp_seq (ag [] rfl ?_)
  refine awp_seq (ag [(1, .pc (bdV L)), (2, .pc (supsV S))] rfl ?_)
  refine awp_seq (ag [(1, .pc (bdV W))] rfl ?_)
  refine awp_seq (ag [(1, .pc (bdV W))] rfl ?_)
  refine awp_seq (awp_seq (ag [] rfl ?_))
  refine awp_cond rfl (fun hb => by simp at hb) (fun _ => ?_)
  refine awp_skip ?_
  refine awp_seq (awp_seq (ag [] rfl ?_))
  refine awp_block ?_
  refine awp_loop (fun i : Nat => mk [(3, supsV S), (4, bdV W), (5, bdV W), (6, I .i64 i)] []) (fun i => i ≤ W.length) (fun i => W.length - i) 0 (Nat.zero_le _) sl ?_
  intro i hi
  refine awp_seq (awp_seq (ag [] rfl ?_))
  refine awp_cond rfl (fun hb => ?_) (fun hb => ?_)
  · have hlt := ltD hb hkW
    obtain ⟨b, hbi⟩ := get_of_lt hlt
    have hbi' := getEnc encBind hbi
    obtain ⟨s, c, rfl, hc⟩ := hce b (List.mem_of_getElem? hbi)
    refine awp_skip ?_
    refine awp_seq (awp_block ?_)
    refine awp_seq (ag [(2, .row i (encBind (.mk s zTy c))), (7, .row i (encBind (.mk s zTy c))), (11, .bv false), (14, .row i (encBind (.mk s zTy c))), (19, .bv false), (20, .bv false), (23, .row i (encBind (.mk s zTy c))), (28, .row i (encBind (.mk s zTy c))), (31, .pc (B true)), (33, .bv false)] rfl ?_)
    refine awp_cond rfl (fun hb => by simp at hb) (fun _ => ?_)
    refine awp_skip ?_
    refine ag [] rfl ?_
    exact ⟨i + 1, hlt, by dsimp only; omega, sl⟩
  have hge := geD hb hkW hi
  subst hge
  refine awp_exit ?_
  refine awp_seq (ag [(1, .pc (supsV S)), (3, .pc (B true)), (4, .bv true), (5, .pc (B true)), (6, .bv true)] rfl ?_)
  exact awp_ret rtT
end Go.Proofs.YtojcjjjpniimiaaDoor
