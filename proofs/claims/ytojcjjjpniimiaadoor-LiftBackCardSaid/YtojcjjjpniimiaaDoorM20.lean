/-
  Texts La41, La43, Lp6, La44 in one.
-/
import Derived.Test.YtojcjjjpniimiaaDoorM19
/- THE LAW's BINDS: the walk. -/
namespace Go.Proofs.YtojcjjjpniimiaaDoor
open Go Go.AM
set_option maxRecDepth 20000

def encL (x : List Int) : List C := [.sl 1 (x.map encI)]
theorem lbase_len (l : List (List Int)) (k : Nat) : (lbase l k).length = k := by simp [lbase]
theorem lbase_step (l : List (List Int)) {i : Nat} {s : Str} {x : List Int} (hs : lnames[i]? = some s) (hx : l[i]? = some x) : lbase l (i + 1) = lbase l i ++ [.mk s zTy (eraseR (madeR x))] := by
  unfold lbase
  rw [List.range_succ, List.map_append, List.map_singleton, hs, hx]
  rfl
theorem c_lbinds (l : List (List Int)) (hl : Fits l) (hn : ∀ x ∈ l, Nums x ∧ Fits x) : ImpC Tryd.prog 8 [.one (.c (.sl 1 (l.map encL)))] [] (.one (.c (.sl 15 ((lbinds l).map encBind)))) [] := by
  unfold Fits at hl
  have hkl : (l.map encL).length = l.length := List.length_map _
  have hlb := lbase_len l
  refine impC (n := 77) tok Tryd.func8 rfl rfl rfl ?_
  refine awp_seq (ag [] rfl ?_)
  refine awp_seq (ag [(0, .all)] rfl ?_)
  refine awp_seq (ag [] rfl ?_)
  refine AWp.sub (Sub.own (t := 4) (id := 500) 46 15 rfl rfl) ?_
  refine awp_seq (awp_seq (ag [] rfl ?_))
  refine awp_block ?_
  refine awp_loop (fun i : Nat => mk [(0, .one (.c (.sl 1 (l.map encL)))), (3, strsV lnames), (4, .one (.hs 500 0 i i)), (5, I .i64 i)] [(500, .arr 46 15 ((lbase l i).map encBind) 0)]) (fun i => i ≤ min l.length 4) (fun i => 4 - i) 0 (Nat.zero_le _) sl ?_
  intro i hi
  have hli := hlb i
  have hli2 : ((lbase l i).map encBind).length = i := by rw [List.length_map]; exact hli
  refine awp_seq (awp_seq (agF 5 [] rfl rfl rfl ?_))
  refine awp_cond rfl (fun hb => ?_) (fun hb => ?_)
  · have hlt : i < l.length ∧ i < 4 := by
      simp at hb
      omega
    obtain ⟨x, hx⟩ := get_of_lt hlt.1
    have hx' := getEnc encL hx
    obtain ⟨s, hs⟩ := get_of_lt (show i < lnames.length from hlt.2)
    have hs' := getEnc encS hs
    obtain ⟨n1, n2⟩ := hn x (List.mem_of_getElem? hx)
    have hmd := c_made x n1 n2
    obtain ⟨m1, m2, m3, m4⟩ := made_g x
    have her : ImpC Tryd.prog 12 [.pa (encCore (madeR x))] [] (.pa (encCore (eraseR (madeR x)))) [] := c_erase _ (madeR x) (Nat.le_refl _) (by omega)
    have hst := lbase_step l hs hx
    have hrows : (lbase l i).map encBind ++ [encBind (.mk s zTy (eraseR (madeR x)))] = (lbase l (i + 1)).map encBind := by rw [hst, List.map_append]; rfl
    generalize madeR x = c at hmd her hrows
    generalize eraseR c = e at her hrows
    refine awp_skip ?_
    refine awp_seq (awp_block ?_)
    refine agN [(3, .row i (encS s)), (7, .row i (encL x)), (9, .pc (.pa (encCore c))), (10, .pc (.pa (encCore e))), (12, .all)] rfl ?_
    refine ag [] rfl ?_
    exact ⟨i + 1, by omega, by dsimp only; omega, sl⟩
  have hge : i = min l.length 4 := by
    simp at hb
    omega
  subst hge
  refine awp_exit ?_
  have hk : min l.length 4 ≤ 4 := Nat.min_le_right _ _
  have hLl : (lbinds l).length = min l.length 4 := by unfold lbinds; rw [List.length_map]; exact hlb _
  have hBL : ∀ {i b}, (lbase l (min l.length 4))[i]? = some b → (lbinds l)[i]? = some (closeB (lnames.take (min l.length 4)) b) := fun h => by unfold lbinds; rw [List.getElem?_map, h]; rfl
  have hgB : ∀ b ∈ lbase l (min l.length 4), gR b.body = true ∧ csize b.body ≤ 3000 := fun b hb => by
    obtain ⟨i, hi, rfl⟩ := List.mem_map.1 hb
    obtain ⟨m1, m2, m3, m4⟩ := made_g (l[i]?.getD [])
    exact ⟨m1, m3⟩
  have hb0 := hlb (min l.length 4)
  generalize lbinds l = L at hLl hBL ⊢
  generalize lbase l (min l.length 4) = B0 at hb0 hBL hgB ⊢
  generalize min l.length 4 = k at hk hLl hBL hb0 ⊢
  refine awp_seq (awp_seq (ag [] rfl ?_))
  refine awp_block ?_
  refine awp_loop (fun i : Nat => mk [(3, strsV lnames), (4, .one (.hs 500 0 k k)), (6, I .i64 i)] [(500, .arr 46 15 ((L.take i ++ B0.drop i).map encBind) 0)]) (fun i => i ≤ k) (fun i => k - i) 0 (Nat.zero_le _) sl ?_
  intro i hi
  have hml : ((L.take i ++ B0.drop i).map encBind).length = k := by rw [List.length_map, List.length_append, List.length_take, List.length_drop]; omega
  have hml2 : (L.take i ++ B0.drop i).length = k := by rw [List.length_append, List.length_take, List.length_drop]; omega
  refine awp_seq (awp_seq (ag [] rfl ?_))
  refine awp_cond rfl (fun hb => ?_) (fun hb => ?_)
  · have hlt : i < k := by
      have : (i : Int) < (k : Int) := of_decide_eq_true hb
      omega
    obtain ⟨b, hbi⟩ := get_of_lt (show i < B0.length by omega)
    obtain ⟨g1, g2⟩ := hgB b (List.mem_of_getElem? hbi)
    have hLi := hBL hbi
    have hMi : (L.take i ++ B0.drop i)[i]? = some b := at_snoc (by rw [List.length_take]; omega) hbi
    have hMi' := getEnc encBind hMi
    have hstep : (L.take i ++ B0.drop i).set i (closeB (lnames.take k) b) = L.take (i + 1) ++ B0.drop (i + 1) := set_take (by omega) hLi
    have hfr := c_Free18 b.body (by omega)
    have hff := g_free b.body (fun _ => false) [] g1 (by simp)
    have hfl : (fR b.body (fun _ => false) []).length ≤ 5 := nodup_len nmL _ (fR_once _ _ _ List.nodup_nil) hff
    have hcb : closeB (lnames.take k) b = .mk b.name b.ty (closeR (lnames.take k) (fR b.body (fun _ => false) []) b.body) := rfl
    rw [hcb] at hstep
    generalize fR b.body (fun _ => false) [] = free at hfr hfl hstep
    generalize L.take i ++ B0.drop i = M at hml hml2 hMi hMi' hstep ⊢
    have hkf : (free.map encS).length = free.length := List.length_map _
    have hM0 : M.map encBind = (M.set i (.mk b.name b.ty (closeR (lnames.take k) (free.take 0) b.body))).map encBind := by
      rw [List.take_zero, closeR]
      rw [show Bind.mk b.name b.ty b.body = b by cases b; rfl, set_same hMi]
    refine awp_skip ?_
    refine awp_seq (awp_block ?_)
    refine awp_seq (ag [(4, .row i (encBind b)), (5, .pc (strsV free))] rfl ?_)
    refine awp_seq (ag [] rfl ?_)
    refine awp_block ?_
    refine awp_loop (fun j : Nat => mk [(3, strsV lnames), (4, .one (.hs 500 0 k k)), (6, I .i64 i), (7, strsV free), (8, I .i64 j)] [(500, .arr 46 15 ((M.set i (.mk b.name b.ty (closeR (lnames.take k) (free.take j) b.body))).map encBind) 0)]) (fun j => j ≤ free.length) (fun j => free.length - j) 0 (Nat.zero_le _) (by rw [← hM0]; exact sl) ?_
    intro j hj
    have hsl : ((M.set i (Bind.mk b.name b.ty (closeR (lnames.take k) (free.take j) b.body))).map encBind).length = k := by rw [List.length_map, List.length_set]; exact hml2
    refine awp_seq (awp_seq (ag [] rfl ?_))
    refine awp_cond rfl (fun hb => ?_) (fun hb => ?_)
    · have hlt2 := ltD hb hkf
      obtain ⟨s, hs⟩ := get_of_lt hlt2
      have hs' := getEnc encS hs
      have hst : closeR (lnames.take k) (free.take (j + 1)) b.body = if s ∈ lnames.take k then closeR (lnames.take k) (free.take j) b.body else lamC s (closeR (lnames.take k) (free.take j) b.body) := by rw [take_step hs, closeR_app]
      have hrow : (M.set i (Bind.mk b.name b.ty (closeR (lnames.take k) (free.take j) b.body)))[i]? = some (Bind.mk b.name b.ty (closeR (lnames.take k) (free.take j) b.body)) := List.getElem?_set_self (by omega)
      have hrow' := getEnc encBind hrow
      have hss : ∀ y, (M.set i (Bind.mk b.name b.ty (closeR (lnames.take k) (free.take j) b.body))).set i y = M.set i y := fun y => List.set_set _
      have hha : ImpC Tryd.prog 27 [.one (.c (.sl 1 ((lnames.map encS).take k))), Go.AM.T s] [] (B (decide (s ∈ lnames.take k))) [] := by rw [← List.map_take]; exact c_has _ _ (by unfold Fits; rw [List.length_take]; omega)
      generalize closeR (lnames.take k) (free.take j) b.body = c at hst hrow hrow' hss hsl ⊢
      have hlc := c_lam25 s c
      generalize hM2 : M.set i (Bind.mk b.name b.ty c) = M2 at hrow hrow' hss hsl ⊢
      refine awp_skip ?_
      refine awp_seq (awp_block ?_)
      refine awp_seq (agN [(6, .row j (encS s)), (8, .pc (B (decide (s ∈ lnames.take k))))] rfl ?_)
      refine awp_cond rfl (fun hb => ?_) (fun hb => ?_)
      · have hin : ¬ s ∈ lnames.take k := by simpa using hb
        rw [if_neg hin] at hst
        have hset : (M2.map encBind).set i (encBind (.mk b.name b.ty (lamC s c))) = (M.set i (.mk b.name b.ty (lamC s c))).map encBind := by rw [← hss, List.map_set]
        refine agN [(4, .row j (encS s)), (10, .row i (encBind (.mk b.name b.ty c))), (11, .pc (.pa (encCore (lamC s c)))), (14, .row i (encBind (.mk b.name b.ty c)))] rfl ?_
        refine ag [] rfl ?_
        refine ⟨j + 1, hlt2, by dsimp only; omega, ?_⟩
        dsimp only
        rw [hst]
        exact sl
      · have hin : s ∈ lnames.take k := by simpa using hb
        rw [if_pos hin] at hst
        rw [← hM2]
        refine awp_skip ?_
        refine ag [] rfl ?_
        refine ⟨j + 1, hlt2, by dsimp only; omega, ?_⟩
        dsimp only
        rw [hst]
        exact sl
    have hge2 := geD hb hkf hj
    subst hge2
    refine awp_exit ?_
    rw [List.take_length, hstep]
    refine ag [] rfl ?_
    exact ⟨i + 1, hlt, by dsimp only; omega, sl⟩
  have hge : i = k := by
    have : ¬ (i : Int) < (k : Int) := of_decide_eq_false hb
    omega
  subst hge
  have hend : L.take i ++ B0.drop i = L := by rw [← hLl, List.take_length, List.drop_of_length_le (by omega), List.append_nil]
  rw [hend]
  refine awp_exit ?_
  refine awp_seq (ag [] rfl ?_)
  refine AWp.sub (Sub.freeze (id := 500) rfl) ?_
  exact awp_ret (rtT (hc := hs_all rfl rfl (by rw [List.length_map]; exact hLl.symm) rfl))
end Go.Proofs.YtojcjjjpniimiaaDoor

/- LiftSound: the walk. -/
namespace Go.Proofs.YtojcjjjpniimiaaDoor
open Go Go.AM
set_option maxRecDepth 20000

theorem liftB_cons {b : Bind} (h : wfR b.body = true) : ∃ x new, liftB b = x :: new ∧ x.name = b.name := ⟨_, _, liftB_eq h, rfl⟩
/-- Where in what is lifted one is: behind so many of the binds. -/
inductive Pos (L : List Bind) : Nat → Nat → Prop
  | nil : Pos L 0 0
  | mid {i r : Nat} {b : Bind} : L[i]? = some b → 1 ≤ r → r ≤ (liftB b).length → Pos L ((liftR (L.take i)).length + r) (i + 1)
theorem liftR_at {L : List Bind} {i r : Nat} {b : Bind} {x : Sup} (h : L[i]? = some b) (hx : (liftB b)[r]? = some x) : (liftR L)[(liftR (L.take i)).length + r]? = some x := by
  have hk := (List.getElem?_eq_some_iff.1 h).1
  have h1 : liftR L = liftR (L.take i) ++ (liftB b ++ liftR (L.drop (i + 1))) := by
    have : L = L.take i ++ (b :: L.drop (i + 1)) := by
      conv => lhs; rw [← List.take_append_drop i L]
      rw [List.drop_eq_getElem_cons hk, (List.getElem?_eq_some_iff.1 h).2]
    conv => lhs; rw [this]
    unfold liftR
    rw [List.flatMap_append, List.flatMap_cons]
  have hr := (List.getElem?_eq_some_iff.1 hx).1
  rw [h1, List.getElem?_append_right (by omega), Nat.add_sub_cancel_left, List.getElem?_append_left hr, hx]
theorem liftR_take_len {L : List Bind} {i : Nat} {b : Bind} (h : L[i]? = some b) : (liftR (L.take (i + 1))).length = (liftR (L.take i)).length + (liftB b).length := by
  rw [liftR_step h, List.length_append]
/-- A step: the next is the next bind's own, or one that was made of the bind's. -/
theorem Pos.step {L : List Bind} {N : List Str} (hg : ∀ b ∈ L, BG N b) {j i : Nat} (h : Pos L j i) (hj : j < (liftR L).length) :
    (∃ b x, L[i]? = some b ∧ (liftR L)[j]? = some x ∧ x.name = b.name ∧ Pos L (j + 1) (i + 1)) ∨
    (∃ b x k, 1 ≤ i ∧ L[i - 1]? = some b ∧ (liftR L)[j]? = some x ∧ x.name = fname b.name k ∧ Pos L (j + 1) i) := by
  have hstart : ∀ i : Nat, (liftR (L.take i)).length < (liftR L).length → ∃ b x, L[i]? = some b ∧ (liftR L)[(liftR (L.take i)).length]? = some x ∧ x.name = b.name ∧ Pos L ((liftR (L.take i)).length + 1) (i + 1) := by
    intro i hi
    have hil : i < L.length := by
      apply Nat.lt_of_not_le
      intro hle
      rw [List.take_of_length_le hle] at hi
      omega
    obtain ⟨b, hb⟩ := get_of_lt hil
    obtain ⟨w1, _, _⟩ := g_wf _ (hg b (List.mem_of_getElem? hb)).g
    obtain ⟨x, new, e1, e2⟩ := liftB_cons w1
    have := liftR_at (r := 0) hb (by rw [e1]; rfl)
    exact ⟨b, x, hb, this, e2, .mid hb (Nat.le_refl _) (by rw [e1]; simp)⟩
  cases h with
  | nil => exact .inl (by simpa [liftR] using hstart 0 (by simpa [liftR] using hj))
  | mid hb h1 h2 =>
    rename_i i r b
    by_cases hr : r < (liftB b).length
    · refine .inr ?_
      obtain ⟨x, hx⟩ := get_of_lt hr
      obtain ⟨q, new, e1, _, _, _, _, e2, _⟩ := liftB_ok (hg b (List.mem_of_getElem? hb)).lok
      have hxn : x.name = fname b.name (r - 1) := by
        have hx' := hx
        rw [e1] at hx'
        obtain ⟨r', rfl⟩ : ∃ r', r = r' + 1 := ⟨r - 1, by omega⟩
        rw [List.getElem?_cons_succ] at hx'
        exact e2 r' x hx'
      exact ⟨b, x, r - 1, by omega, by rw [Nat.add_sub_cancel]; exact hb, liftR_at hb hx, hxn, Pos.mid (r := r + 1) hb (by omega) (by omega)⟩
    · have hre : r = (liftB b).length := by omega
      subst hre
      have := hstart (i + 1) (by rw [liftR_take_len hb]; exact hj)
      rw [liftR_take_len hb] at this
      exact .inl this
theorem Pos.end {L : List Bind} {N : List Str} (hg : ∀ b ∈ L, BG N b) {i : Nat} (h : Pos L (liftR L).length i) : i = L.length := by
  generalize hj : (liftR L).length = j at h
  cases h with
  | nil =>
    cases L with
    | nil => rfl
    | cons b L =>
      obtain ⟨w1, _, _⟩ := g_wf _ (hg b List.mem_cons_self).g
      obtain ⟨x, new, e1, e2⟩ := liftB_cons w1
      unfold liftR at hj
      rw [List.flatMap_cons, e1] at hj
      simp at hj
  | mid hb h1 h2 =>
    rename_i i r b
    apply Nat.le_antisymm (List.getElem?_eq_some_iff.1 hb).1
    apply Nat.le_of_not_lt
    intro hlt
    obtain ⟨c, hc⟩ := get_of_lt hlt
    obtain ⟨w1, _, _⟩ := g_wf _ (hg c (List.mem_of_getElem? hc)).g
    obtain ⟨x, new, e1, e2⟩ := liftB_cons w1
    have h3 := liftR_at (r := 0) hc (by rw [e1]; rfl)
    have h4 := (List.getElem?_eq_some_iff.1 h3).1
    rw [liftR_take_len hb] at h4
    omega
theorem Pos.le {L : List Bind} {j i : Nat} (h : Pos L j i) : i ≤ L.length := by
  cases h with
  | nil => exact Nat.zero_le _
  | mid hb _ _ => exact (List.getElem?_eq_some_iff.1 hb).1
theorem fname_pre (s : Str) (k : Nat) : s.length < (fname s k).length ∧ (fname s k).take s.length = s ∧ 4 ≤ (fname s k).length + (if s = [] then 4 else 0) := by
  unfold fname
  refine ⟨by simp, by simp, ?_⟩
  split
  · omega
  · rename_i h
    have : 1 ≤ s.length := by cases s with | nil => exact absurd rfl h | cons => simp
    have h2 : 1 ≤ (dec (k + 1)).length := by
      unfold dec
      rw [digits]
      split <;> simp
    simp
    omega
theorem lbinds_check (l : List (List Int)) : checkR (liftR (lbinds l)) = true := by
  refine (lift_check (l := lbinds l) (fun b hb => ?_) ?_).1
  · rw [lbinds_names]; exact (lbinds_g l b hb).lok
  · have : ((lbinds l).map fun b => b.name.head?) = ((lbinds l).map Bind.name).map List.head? := by rw [List.map_map]; rfl
    rw [this, lbinds_names]
    have hk : min l.length 4 = 0 ∨ min l.length 4 = 1 ∨ min l.length 4 = 2 ∨ min l.length 4 = 3 ∨ min l.length 4 = 4 := by omega
    rcases hk with h | h | h | h | h <;> rw [h] <;> decide
end Go.Proofs.YtojcjjjpniimiaaDoor

/- COMBINATORS (6): binds again, and lifted once more: no types, no lambdas but the chains. -/
namespace Go.Proofs.YtojcjjjpniimiaaDoor
open Go Go.AM
set_option maxRecDepth 20000

mutual
theorem g_z0 : ∀ c : Core, gR c = true → z0R c = true
  | .mk f n s t ks bs al, h => by
    rw [gR] at h
    simp only [Bool.and_eq_true] at h
    obtain ⟨⟨_, _, h1⟩, _, h2, h3, h4⟩ := h
    rw [z0R, h1, g_z0Cs ks h2, g_z0Bs bs h3, g_z0As al h4]
    rfl
theorem g_z0Cs : ∀ l : List Core, gCs l = true → z0Cs l = true
  | [], _ => by rw [z0Cs]
  | c :: l, h => by
    rw [gCs, Bool.and_eq_true] at h
    rw [z0Cs, g_z0 c h.1, g_z0Cs l h.2]; rfl
theorem g_z0Bs : ∀ l : List Bind, gBs l = true → z0Bs l = true
  | [], _ => by rw [z0Bs]
  | .mk s t c :: l, h => by
    simp only [gBs, Bool.and_eq_true] at h
    rw [z0Bs, h.1.1.2, g_z0 c h.1.2, g_z0Bs l h.2]; rfl
theorem g_z0As : ∀ l : List Alt, gAs l = true → z0As l = true
  | [], _ => by rw [z0As]
  | .mk f n s v c :: l, h => by
    simp only [gAs, Bool.and_eq_true] at h
    rw [z0As, g_z0 c h.1.2, g_z0As l h.2]; rfl
end
theorem z0_appVars : ∀ (l : List Str) (c : Core), z0R c = true → z0R (appVars c l) = true
  | [], _, h => h
  | s :: l, c, h => by
    rw [appVars]
    refine z0_appVars l _ ?_
    simp only [appC, varC, z0R, z0Cs, z0Bs, z0As, h]
    rfl
def AllZ (l : List Sup) : Prop := ∀ x ∈ l, z0R x.body = true
mutual
theorem part_z0 (of : Str) : ∀ (c : Core) (ch : Bool) (A : Str → Bool) (made : List Sup), z0R c = true → AllZ made → z0R (partR of ch c A made).1 = true ∧ AllZ (partR of ch c A made).2
  | .mk f n s t ks bs al, ch, A, made, h, hm => by
    have h0 := h
    simp only [z0R, Bool.and_eq_true] at h
    obtain ⟨h1, h2, h3, h4⟩ := h
    rw [partR]
    split
    · split
      · exact partK_z0 of ks A made h2 hm
      · have hp := partK_z0 of ks (fun x => decide (x ∈ freeR A (.mk f n s t ks bs al) (fun _ => false) [] ++ (s :: chainNs ks))) (made ++ [⟨fname of made.length, paramsR (freeR A (.mk f n s t ks bs al) (fun _ => false) [] ++ (s :: chainNs ks)), zCore⟩]) h2 (by
          intro x hx
          rcases List.mem_append.1 hx with hx | hx
          · exact hm x hx
          · simp only [List.mem_singleton] at hx; subst hx; rfl)
        exact ⟨z0_appVars _ _ rfl, setBody_mem hp.2 fun x _ => hp.1⟩
    · have q1 := partBs_z0 of bs (ext A (gvs f s bs)) made h3 hm
      have q2 := partCs_z0 of ks (ext A (gvs f s bs)) _ h2 q1.2
      have q3 := partAs_z0 of al (ext A (gvs f s bs)) _ h4 q2.2
      refine ⟨?_, q3.2⟩
      dsimp only
      rw [z0R, h1, q1.1, q2.1, q3.1]
      rfl
theorem partK_z0 (of : Str) : ∀ (l : List Core) (A : Str → Bool) (made : List Sup), z0Cs l = true → AllZ made → z0R (partK of l A made).1 = true ∧ AllZ (partK of l A made).2
  | [], _, made, _, hm => by rw [partK]; exact ⟨rfl, hm⟩
  | c :: l, A, made, h, hm => by
    rw [z0Cs, Bool.and_eq_true] at h
    rw [partK]
    exact part_z0 of c true A made h.1 hm
theorem partCs_z0 (of : Str) : ∀ (l : List Core) (A : Str → Bool) (made : List Sup), z0Cs l = true → AllZ made → z0Cs (partCs of l A made).1 = true ∧ AllZ (partCs of l A made).2
  | [], _, made, _, hm => by rw [partCs]; exact ⟨rfl, hm⟩
  | c :: l, A, made, h, hm => by
    rw [z0Cs, Bool.and_eq_true] at h
    rw [partCs]
    have h1 := part_z0 of c false A made h.1 hm
    have h2 := partCs_z0 of l A _ h.2 h1.2
    exact ⟨by dsimp only; rw [z0Cs, h1.1, h2.1]; rfl, h2.2⟩
theorem partBs_z0 (of : Str) : ∀ (l : List Bind) (A : Str → Bool) (made : List Sup), z0Bs l = true → AllZ made → z0Bs (partBs of l A made).1 = true ∧ AllZ (partBs of l A made).2
  | [], _, made, _, hm => by rw [partBs]; exact ⟨rfl, hm⟩
  | .mk s t c :: l, A, made, h, hm => by
    simp only [z0Bs, Bool.and_eq_true] at h
    rw [partBs]
    have h1 := part_z0 of c false A made h.1.2 hm
    have h2 := partBs_z0 of l A _ h.2 h1.2
    exact ⟨by dsimp only; rw [z0Bs, h.1.1, h1.1, h2.1]; rfl, h2.2⟩
theorem partAs_z0 (of : Str) : ∀ (l : List Alt) (A : Str → Bool) (made : List Sup), z0As l = true → AllZ made → z0As (partAs of l A made).1 = true ∧ AllZ (partAs of l A made).2
  | [], _, made, _, hm => by rw [partAs]; exact ⟨rfl, hm⟩
  | .mk f n s vs c :: l, A, made, h, hm => by
    simp only [z0As, Bool.and_eq_true] at h
    rw [partAs]
    have h1 := part_z0 of c false (ext A vs) made h.1 hm
    have h2 := partAs_z0 of l A _ h.2 h1.2
    exact ⟨by dsimp only; rw [z0As, h1.1, h2.1]; rfl, h2.2⟩
end
theorem liftR_z0 {l : List Bind} (h : ∀ b ∈ l, z0R b.body = true) : ∀ x ∈ liftR l, z0R x.body = true := by
  intro x hx
  obtain ⟨b, hb, hx'⟩ := List.mem_flatMap.1 hx
  have := part_z0 b.name b.body true (fun x => decide (x ∈ chainN b.body)) [] (h b hb) (fun x hx => by simp at hx)
  rcases List.mem_cons.1 hx' with rfl | hx'
  · exact this.1
  · exact this.2 x hx'
theorem z0_lams : ∀ (l : List Str) {c : Core}, z0R c = true → z0R (lamsR c l) = true
  | [], _, h => h
  | s :: l, c, h => by
    simp only [lamsR, z0R, z0Cs, z0Bs, z0As, z0_lams l h]
    rfl
mutual
theorem ll_wf : ∀ c : Core, ll c = true → z0R c = true → wfR c = true ∧ lamsN c = 0
  | .mk f n s t ks bs al, h, hz => by
    simp only [ll, Bool.and_eq_true, Bool.not_eq_true', decide_eq_false_iff_not] at h
    simp only [z0R, Bool.and_eq_true] at hz
    obtain ⟨k1, k2⟩ := ll_wfCs ks h.2.1 hz.2.1
    obtain ⟨b1, b2⟩ := ll_wfBs bs h.2.2.1 hz.2.2.1
    obtain ⟨a1, a2⟩ := ll_wfAs al h.2.2.2 hz.2.2.2
    rw [wfR, lamsN, if_neg h.1, if_neg h.1, k1, k2, b1, b2, a1, a2]
    exact ⟨rfl, rfl⟩
theorem ll_wfCs : ∀ l : List Core, llCs l = true → z0Cs l = true → wfCs l = true ∧ lamsCs l = 0
  | [], _, _ => by rw [wfCs, lamsCs]; exact ⟨rfl, rfl⟩
  | c :: l, h, hz => by
    rw [llCs, Bool.and_eq_true] at h
    rw [z0Cs, Bool.and_eq_true] at hz
    obtain ⟨h1, h2⟩ := ll_wf c h.1 hz.1
    obtain ⟨h3, h4⟩ := ll_wfCs l h.2 hz.2
    rw [wfCs, lamsCs, h1, h2, h3, h4]
    exact ⟨rfl, rfl⟩
theorem ll_wfBs : ∀ l : List Bind, llBs l = true → z0Bs l = true → wfBs l = true ∧ lamsBs l = 0
  | [], _, _ => by rw [wfBs, lamsBs]; exact ⟨rfl, rfl⟩
  | .mk s t c :: l, h, hz => by
    rw [llBs, Bool.and_eq_true] at h
    simp only [z0Bs, Bool.and_eq_true] at hz
    obtain ⟨h1, h2⟩ := ll_wf c h.1 hz.1.2
    obtain ⟨h3, h4⟩ := ll_wfBs l h.2 hz.2
    rw [wfBs, lamsBs, h1, h2, h3, h4, hz.1.1]
    exact ⟨rfl, rfl⟩
theorem ll_wfAs : ∀ l : List Alt, llAs l = true → z0As l = true → wfAs l = true ∧ lamsAs l = 0
  | [], _, _ => by rw [wfAs, lamsAs]; exact ⟨rfl, rfl⟩
  | .mk f n s vs c :: l, h, hz => by
    rw [llAs, Bool.and_eq_true] at h
    simp only [z0As, Bool.and_eq_true] at hz
    obtain ⟨h1, h2⟩ := ll_wf c h.1 hz.1
    obtain ⟨h3, h4⟩ := ll_wfAs l h.2 hz.2
    rw [wfAs, lamsAs, h1, h2, h3, h4]
    exact ⟨rfl, rfl⟩
end
theorem wf_lams : ∀ (l : List Str) {c : Core}, wfR c = true → wfR (lamsR c l) = true
  | [], _, h => h
  | s :: l, c, h => by
    simp only [lamsR, wfR, wfCs, wfBs, wfAs, wf_lams l h]
    rfl
theorem chainB_ll : ∀ (l : List Str) (c : Core), ll c = true → chainB (lamsR c l) = c
  | [], .mk f n s t ks bs al, h => by
    simp only [ll, Bool.and_eq_true] at h
    rw [lamsR, chainB, if_neg (by simpa using h.1)]
  | s :: l, c, h => by rw [lamsR, chainB, if_pos rfl, chainBs, chainB_ll l c h]
theorem lams_size : ∀ (l : List Str) (c : Core), Sh40 l → csize (lamsR c l) ≤ csize c + 41 * l.length
  | [], _, _ => by rw [lamsR]; exact Nat.le_add_right _ _
  | s :: l, c, h => by
    have ih := lams_size l c fun x hx => h x (List.mem_cons_of_mem _ hx)
    have h1 := h s List.mem_cons_self
    rw [lamsR, csize, csizes, csizes, bsizes, asizes, List.length_cons]
    omega
/-- What the law LiftBack needs of what is lifted. -/
structure SG (x : Sup) : Prop where
  z0 : z0R x.body = true
  ll : ll x.body = true
  once : onceR x.params = true
  sz : csize x.body ≤ 10000
  pl : x.params.length ≤ 100
  sh : Sh40 x.params
  nm : x.name.length ≤ 1000000
theorem lbinds_sg (l : List (List Int)) : ∀ x ∈ liftR (lbinds l), SG x := by
  have hg := lbinds_g l
  have hl := (lift_check (l := lbinds l) (fun b hb => by rw [lbinds_names]; exact (hg b hb).lok) (by
    have : ((lbinds l).map fun b => b.name.head?) = ((lbinds l).map Bind.name).map List.head? := by rw [List.map_map]; rfl
    rw [this, lbinds_names]
    have hk : min l.length 4 = 0 ∨ min l.length 4 = 1 ∨ min l.length 4 = 2 ∨ min l.length 4 = 3 ∨ min l.length 4 = 4 := by omega
    rcases hk with h | h | h | h | h <;> rw [h] <;> decide)).2
  have hz := liftR_z0 (l := lbinds l) fun b hb => g_z0 _ (hg b hb).g
  have hs := (liftR_small hg).1
  have hsh := liftR_short hg
  intro x hx
  refine ⟨hz x hx, (hl x hx).1, (hl x hx).2, (hs x hx).1, (hs x hx).2, hsh x hx, ?_⟩
  obtain ⟨b, hb, hx'⟩ := List.mem_flatMap.1 hx
  obtain ⟨r, new, h1, hlen, _, _, _, h2, _⟩ := liftB_ok (hg b hb).lok
  have hnm := (hg b hb).nm
  rw [h1] at hx'
  rcases List.mem_cons.1 hx' with rfl | hx'
  · show b.name.length ≤ _; omega
  · obtain ⟨i, hi⟩ := List.getElem?_of_mem hx'
    rw [h2 i x hi]
    have := dec_len (i + 1)
    unfold fname
    simp only [List.length_append, List.length_cons, List.length_nil]
    omega
/-- Binds of such can be lifted, and what is lifted is the same. -/
theorem SG.pok {x : Sup} (h : SG x) : POk (.mk x.name zTy (lamsR x.body x.params)) := by
  obtain ⟨w1, w2⟩ := ll_wf _ h.ll h.z0
  have h1 := lams_size x.params x.body h.sh
  have h2 := h.sz
  have h3 := h.pl
  refine ⟨⟨wf_lams _ w1, by show csize (lamsR x.body x.params) ≤ _; omega, h.nm⟩, .inl ?_, ?_, ?_⟩
  · show lamsN (chainB (lamsR x.body x.params)) = 0
    rw [chainB_ll _ _ h.ll, w2]
  · show lamsN (chainB (lamsR x.body x.params)) ≤ 90
    rw [chainB_ll _ _ h.ll, w2]; omega
  · show (chainN (lamsR x.body x.params)).length ≤ 100
    rw [chainN_lams _ _ h.ll]; exact h3
theorem SG.again {l : List Sup} (h : ∀ x ∈ l, SG x) : liftR (bindsR l) = l := lift_again l fun x hx => ⟨(h x hx).ll, (h x hx).once⟩
theorem SG.binds {l : List Sup} (h : ∀ x ∈ l, SG x) : ∀ b ∈ bindsR l, POk b := fun b hb => by
  obtain ⟨x, hx, rfl⟩ := List.mem_map.1 hb
  exact (h x hx).pok
end Go.Proofs.YtojcjjjpniimiaaDoor

/- LiftSound: the walk (2). -/
namespace Go.Proofs.YtojcjjjpniimiaaDoor
open Go Go.AM
set_option maxRecDepth 20000

theorem c_LiftSound (l : List (List Int)) (hl : Fits l) (hn : ∀ x ∈ l, Nums x ∧ Fits x) :
    ImpC Tryd.prog 4 [.one (.c (.sl 1 (l.map encL)))] [] (B true) [] := by
  have hbi := c_lbinds l hl hn
  have hbg := lbinds_g l
  have hbl : (lbinds l).length ≤ 4 := by
    unfold lbinds
    rw [List.length_map, lbase_len]
    omega
  have hlf := c_Lift (lbinds l) (by omega) fun b hb => (hbg b hb).pok
  obtain ⟨hsz, hsl⟩ := liftR_small hbg
  have hlv := c_lives
  have hck := c_Check (liftR (lbinds l)) (by omega) (fun x hx => by have := hsz x hx; omega)
  rw [lbinds_check] at hck
  have hstep := fun {j i} => @Pos.step (lbinds l) _ hbg j i
  have hend := fun {i} => @Pos.end (lbinds l) _ hbg i
  have hle := fun {j i} => @Pos.le (lbinds l) j i
  have hp0 : Pos (lbinds l) 0 0 := .nil
  have hnm : ∀ b ∈ lbinds l, b.name.length ≤ 3 ∧ b.name ≠ [] := fun b hb => ⟨(hbg b hb).nm, (hbg b hb).ne⟩
  generalize lbinds l = L at hbi hbl hlf hsl hsz hck hstep hend hle hp0 hnm
  generalize liftR L = S at hlf hsz hsl hck hstep hend
  have hkL : (L.map encBind).length = L.length := List.length_map _
  have hkS : (S.map encSup).length = S.length := List.length_map _
  clear hbg
  refine impC (n := 87) tok Tryd.func4 rfl rfl rfl ?_
  refine awp_seq (ag [] rfl ?_)
  refine awp_seq (ag [(1, .pc (.one (.c (.sl 15 (L.map encBind)))))] rfl ?_)
  refine awp_seq (awp_rg mixed ?_)
  refine ak 1 [] rfl ?_
  refine kc hlf ?_
  refine ak 1 [] rfl ?_
  refine az ?_
  refine AWp.sub (Sub.freeze (id := 500) rfl) (AWp.sub (cv 4 (S.map encSup)) ?_)
  refine awp_seq (ag [] rfl ?_)
  refine awp_seq (awp_seq (ag [] rfl ?_))
  refine awp_block ?_
  refine awp_loop (fun x : Nat × Nat => mk [(3, .one (.c (.sl 15 (L.map encBind)))), (4, supsV S), (5, I .i64 x.2), (6, I .i64 x.1)] []) (fun x => Pos L x.1 x.2 ∧ x.1 ≤ S.length) (fun x => S.length - x.1) (0, 0) ⟨hp0, Nat.zero_le _⟩ sl ?_
  rintro ⟨j, i⟩ ⟨hp, hj⟩
  dsimp only at hp hj ⊢
  have hil := hle hp
  refine awp_seq (awp_seq (ag [] rfl ?_))
  refine awp_cond rfl (fun hb => ?_) (fun hb => ?_)
  · have hlt := ltD hb hkS
    refine awp_skip ?_
    refine awp_seq (awp_block ?_)
    rcases hstep hp hlt with ⟨b, x, hbi2, hxj, hxn, hp'⟩ | ⟨b, x, k, hi1, hbi2, hxj, hxn, hp'⟩
    · have hb' := getEnc encBind hbi2
      have hx' := getEnc encSup hxj
      have hiL := (List.getElem?_eq_some_iff.1 hbi2).1
      refine awp_seq (agN [(4, .bv true), (7, .row j (encSup x)), (12, .row i (encBind b)), (16, .bv true)] rfl ?_)
      refine awp_cond rfl (fun hb => ?_) (fun hb => absurd hxn (of_decide_eq_false hb))
      refine ag [] rfl ?_
      refine ag [] rfl ?_
      exact ⟨(j + 1, i + 1), ⟨hp', hlt⟩, by dsimp only; omega, sl⟩
    · have hb' := getEnc encBind hbi2
      have hx' := getEnc encSup hxj
      obtain ⟨hbn, hbe⟩ := hnm b (List.mem_of_getElem? hbi2)
      obtain ⟨f1, f2, f3⟩ := fname_pre b.name k
      rw [if_neg hbe] at f3
      rw [← hxn] at f1 f2 f3
      refine awp_seq (AWp.cut (mk [(3, .one (.c (.sl 15 (L.map encBind)))), (4, supsV S), (5, I .i64 i), (6, I .i64 j), (33, B false)] []) ?_ ?_)
      · by_cases hiL : i < L.length
        · obtain ⟨b2, hb2⟩ := get_of_lt hiL
          have hb2' := getEnc encBind hb2
          have hn2 := (hnm b2 (List.mem_of_getElem? hb2)).1
          have hne : decide (x.name = b2.name) = false := decide_eq_false fun e => by rw [e] at f3; omega
          refine agN [(4, .bv true), (7, .row j (encSup x)), (12, .row i (encBind b2)), (16, .bv true)] rfl ?_
          rw [← hne]
          exact sl
        · refine agN [(4, .bv false), (16, .bv false)] rfl ?_
          exact sl
      refine awp_cond rfl (fun hb => by cases hb) (fun _ => ?_)
      have hi0 : decide ((i : Int) = 0) = false := decide_eq_false (by omega)
      have hln : decide ((x.name.length : Int) ≤ (b.name.length : Int)) = false := decide_eq_false (by omega)
      refine awp_seq (agN [(2, .bv false), (5, .row j (encSup x)), (12, .row (i - 1) (encBind b)), (17, .bv false), (18, .bv false), (21, .row j (encSup x)), (27, .row (i - 1) (encBind b)), (35, .row (i - 1) (encBind b)), (39, .bv false)] rfl ?_)
      refine awp_cond rfl (fun hb => ?_) (fun _ => ?_)
      · exfalso
        simp [f2] at hb
      refine awp_skip ?_
      refine ag [] rfl ?_
      exact ⟨(j + 1, i), ⟨hp', hlt⟩, by dsimp only; omega, sl⟩
  have hge := geD hb hkS hj
  subst hge
  have hiL := hend hp
  subst hiL
  refine awp_exit ?_
  refine awp_seq (ag [(4, .bv true), (6, .pc (B true)), (7, .bv true), (9, .pc (B true))] rfl ?_)
  exact awp_ret rtT
end Go.Proofs.YtojcjjjpniimiaaDoor
