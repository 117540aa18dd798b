/-
  Texts La19, La20, La21, La22 in one.
-/
import Derived.Test.YtojcjjjpniimiaaDoorM16
/- CORE HELD AGAINST ITSELF; binds again; what is lifted (the reference of layer 25): the walks. -/
namespace Go.Proofs.YtojcjjjpniimiaaDoor
open Go Go.AM
set_option maxRecDepth 20000

theorem c_teq0 : ImpC Tryd.prog 53 [.pa (encTy zTy), .pa (encTy zTy)] [] (B true) [] := by
  refine impC (n := 55) tok Tryd.func53 rfl rfl rfl ?_
  refine awp_seq (ag [] rfl ?_)
  refine awp_seq (awp_seq (ag [] rfl ?_))
  refine awp_cond rfl (fun hb => by cases hb) (fun _ => ?_)
  refine awp_skip ?_
  refine awp_seq (awp_seq (ag [] rfl ?_))
  refine awp_block ?_
  refine awp_loop (fun _ : Unit => mk [(2, .one (.vp 2 0)), (3, .one (.vp 3 0)), (5, I .i64 0)] [(2, .var 34 ((encTy zTy).map .c)), (3, .var 34 ((encTy zTy).map .c))]) (fun _ => True) (fun _ => 0) () trivial sl ?_
  intro _ _
  refine awp_seq (awp_seq (ag [] rfl ?_))
  refine awp_cond rfl (fun hb => by cases hb) (fun _ => ?_)
  refine awp_exit ?_
  refine awp_seq (ag [] rfl ?_)
  exact awp_ret (rtT (hc := .refl))

mutual
/-- No types. -/
def z0R : Core → Bool
  | .mk _ _ _ t ks bs al => tz t && (z0Cs ks && (z0Bs bs && z0As al))
def z0Cs : List Core → Bool
  | [] => true
  | c :: l => z0R c && z0Cs l
def z0Bs : List Bind → Bool
  | [] => true
  | .mk _ t c :: l => (tz t && z0R c) && z0Bs l
def z0As : List Alt → Bool
  | [] => true
  | .mk _ _ _ _ c :: l => z0R c && z0As l
end
theorem z0Cs_mem : ∀ {l : List Core}, z0Cs l = true → ∀ x ∈ l, z0R x = true
  | c :: l, h, x, hx => by
    rw [z0Cs, Bool.and_eq_true] at h
    rcases List.mem_cons.1 hx with rfl | hx
    · exact h.1
    · exact z0Cs_mem h.2 x hx
theorem z0Bs_mem : ∀ {l : List Bind}, z0Bs l = true → ∀ x ∈ l, x.ty = zTy ∧ z0R x.body = true
  | .mk s t c :: l, h, x, hx => by
    simp only [z0Bs, Bool.and_eq_true] at h
    rcases List.mem_cons.1 hx with rfl | hx
    · exact ⟨tz_eq h.1.1, h.1.2⟩
    · exact z0Bs_mem h.2 x hx
theorem z0As_mem : ∀ {l : List Alt}, z0As l = true → ∀ x ∈ l, z0R x.body = true
  | .mk f n s v c :: l, h, x, hx => by
    rw [z0As, Bool.and_eq_true] at h
    rcases List.mem_cons.1 hx with rfl | hx
    · exact h.1
    · exact z0As_mem h.2 x hx
def CeSpec (c : Core) : Prop := z0R c = true → csize c ≤ 4000000 → ImpC Tryd.prog 22 [.pa (encCore c), .pa (encCore c)] [] (B true) []
theorem c_ceq_step (c : Core) (ih : ∀ x, csize x < csize c → CeSpec x) : CeSpec c := by
  intro hz hsz
  obtain ⟨f, n, s, t, ks, bs, al⟩ := c
  obtain ⟨ihk, ihb, iha, hkl, hbl, hal⟩ := @size_in f n s t ks bs al
  simp only [z0R, Bool.and_eq_true] at hz
  obtain ⟨ht, hzk, hzb, hza⟩ := hz
  have ht := tz_eq ht
  subst ht
  have hte := c_teq0
  have hkB : (encBinds bs).length = bs.length := by rw [encBinds_map, List.length_map]
  have hkK : (encCores ks).length = ks.length := by rw [encCores_map, List.length_map]
  have hkA : (encAlts al).length = al.length := by rw [encAlts_map, List.length_map]
  refine impC (n := 187) tok Tryd.func22 rfl rfl rfl ?_
  refine awp_seq (ag [] rfl ?_)
  refine awp_seq (awp_seq (ag [(5, .bv false), (11, .bv false), (12, .bv false), (18, .bv false), (19, .bv false), (27, .bv false), (28, .bv false), (36, .bv false), (37, .bv false), (45, .bv false), (46, .bv false), (51, .pc (B true)), (53, .bv false)] rfl ?_))
  refine awp_cond rfl (fun hb => by simp at hb) (fun _ => ?_)
  refine awp_skip ?_
  refine awp_seq (awp_seq (ag [] rfl ?_))
  refine awp_block ?_
  refine awp_loop (fun i : Nat => mk [(2, .one (.vp 2 0)), (3, .one (.vp 3 0)), (5, I .i64 i)] [(2, .var 38 (cellsC (.mk f n s zTy ks bs al))), (3, .var 38 (cellsC (.mk f n s zTy ks bs al)))]) (fun i => i ≤ ks.length) (fun i => ks.length - i) 0 (Nat.zero_le _) sl ?_
  intro i hi
  refine awp_seq (awp_seq (ag [] rfl ?_))
  refine awp_cond rfl (fun hb => ?_) (fun hb => ?_)
  · have hlt := ltD hb hkK
    obtain ⟨k, hki⟩ := get_of_lt hlt
    have hki' := encCores_at hki
    have hm := List.mem_of_getElem? hki
    have hc := ih k (ihk k hm) (z0Cs_mem hzk k hm) (by have := ihk k hm; omega)
    refine awp_skip ?_
    refine awp_seq (awp_block ?_)
    refine awp_seq (ag [(3, .row i (encCore k)), (8, .row i (encCore k)), (10, .pc (B true))] rfl ?_)
    refine awp_cond rfl (fun hb => by simp at hb) (fun _ => ?_)
    refine awp_skip ?_
    refine ag [] rfl ?_
    exact ⟨i + 1, hlt, by dsimp only; omega, sl⟩
  refine awp_exit ?_
  refine awp_seq (awp_seq (ag [] rfl ?_))
  refine awp_block ?_
  refine awp_loop (fun i : Nat => mk [(2, .one (.vp 2 0)), (3, .one (.vp 3 0)), (6, I .i64 i)] [(2, .var 38 (cellsC (.mk f n s zTy ks bs al))), (3, .var 38 (cellsC (.mk f n s zTy ks bs al)))]) (fun i => i ≤ bs.length) (fun i => bs.length - i) 0 (Nat.zero_le _) sl ?_
  intro i hi
  refine awp_seq (awp_seq (ag [] rfl ?_))
  refine awp_cond rfl (fun hb => ?_) (fun hb => ?_)
  · have hlt := ltD hb hkB
    obtain ⟨b, hbi⟩ := get_of_lt hlt
    have hbi' := encBinds_at hbi
    have hm := List.mem_of_getElem? hbi
    obtain ⟨hty, hzb1⟩ := z0Bs_mem hzb b hm
    have hc := ih b.body (ihb b hm) hzb1 (by have := ihb b hm; omega)
    obtain ⟨s', t', c'⟩ := b
    have hty : t' = zTy := hty
    subst hty
    refine awp_skip ?_
    refine awp_seq (awp_block ?_)
    refine awp_seq (ag [(3, .row i (encBind (.mk s' zTy c'))), (9, .row i (encBind (.mk s' zTy c'))), (13, .bv false), (17, .row i (encBind (.mk s' zTy c'))), (23, .row i (encBind (.mk s' zTy c'))), (26, .pc (B true)), (28, .bv false), (29, .bv false), (33, .row i (encBind (.mk s' zTy c'))), (39, .row i (encBind (.mk s' zTy c'))), (42, .pc (B true)), (44, .bv false)] rfl ?_)
    refine awp_cond rfl (fun hb => by simp at hb) (fun _ => ?_)
    refine awp_skip ?_
    refine ag [] rfl ?_
    exact ⟨i + 1, hlt, by dsimp only; omega, sl⟩
  refine awp_exit ?_
  refine awp_seq (awp_seq (ag [] rfl ?_))
  refine awp_block ?_
  refine awp_loop (fun i : Nat => mk [(2, .one (.vp 2 0)), (3, .one (.vp 3 0)), (7, I .i64 i)] [(2, .var 38 (cellsC (.mk f n s zTy ks bs al))), (3, .var 38 (cellsC (.mk f n s zTy ks bs al)))]) (fun i => i ≤ al.length) (fun i => al.length - i) 0 (Nat.zero_le _) sl ?_
  intro i hi
  refine awp_seq (awp_seq (ag [] rfl ?_))
  refine awp_cond rfl (fun hb => ?_) (fun hb => ?_)
  · have hlt := ltD hb hkA
    obtain ⟨a, hai⟩ := get_of_lt hlt
    have hai' := encAlts_at hai
    have hm := List.mem_of_getElem? hai
    have hc := ih a.body (iha a hm) (z0As_mem hza a hm) (by have := iha a hm; omega)
    have hav := asizes_mem hm
    have hab := asize_body a
    have hvl := vsum_len a.vars
    have hst := c_sameTexts a.vars a.vars (by rw [csize] at hsz; omega)
    rw [decide_eq_true rfl] at hst
    obtain ⟨f', n', s', v', c'⟩ := a
    refine awp_skip ?_
    refine awp_seq (awp_block ?_)
    refine awp_seq (ag [(3, .row i (encAlt (.mk f' n' s' v' c')))] rfl ?_)
    refine awp_seq (ag [(3, .row i (encAlt (.mk f' n' s' v' c')))] rfl ?_)
    refine awp_seq (ag [(5, .bv false), (11, .bv false), (12, .bv false), (18, .bv false), (19, .bv false), (24, .pc (B true)), (26, .bv false), (27, .bv false), (32, .pc (B true)), (34, .bv false)] rfl ?_)
    refine awp_cond rfl (fun hb => by simp at hb) (fun _ => ?_)
    refine awp_skip ?_
    refine ag [] rfl ?_
    exact ⟨i + 1, hlt, by dsimp only; omega, sl⟩
  refine awp_exit ?_
  refine awp_seq (ag [] rfl ?_)
  exact awp_ret (rtT (hc := .refl))
theorem c_ceq : ∀ (n : Nat) (c : Core), csize c ≤ n → CeSpec c
  | 0, c, h => by have := csize_pos c; omega
  | n + 1, c, h => c_ceq_step c fun x hx => c_ceq n x (by omega)

def supsV (l : List Sup) : V := .one (.c (.sl 12 (l.map encSup)))
theorem c_seq (l : List Sup) (hl : l.length ≤ 1000000) (h : ∀ x ∈ l, z0R x.body = true ∧ csize x.body ≤ 4000000 ∧ x.params.length ≤ 4000000) : ImpC Tryd.prog 19 [supsV l, supsV l] [] (B true) [] := by
  refine impC (n := 56) tok Tryd.func19 rfl rfl rfl ?_
  refine awp_seq (ag [] rfl ?_)
  refine awp_seq (awp_seq (ag [] rfl ?_))
  refine awp_cond rfl (fun hb => by simp at hb) (fun _ => ?_)
  refine awp_skip ?_
  refine awp_seq (awp_seq (ag [] rfl ?_))
  refine awp_block ?_
  have hkl : (l.map encSup).length = l.length := List.length_map _
  refine awp_loop (fun i : Nat => mk [(0, supsV l), (1, supsV l), (5, I .i64 i)] []) (fun i => i ≤ l.length) (fun i => l.length - i) 0 (Nat.zero_le _) sl ?_
  intro i hi
  refine awp_seq (awp_seq (ag [] rfl ?_))
  refine awp_cond rfl (fun hb => ?_) (fun hb => ?_)
  · have hlt := ltD hb hkl
    obtain ⟨x, hx⟩ := get_of_lt hlt
    have hx' := getEnc encSup hx
    obtain ⟨h1, h2, h3⟩ := h x (List.mem_of_getElem? hx)
    have hc := c_ceq _ x.body (Nat.le_refl _) h1 h2
    have hst := c_sameTexts x.params x.params (by omega)
    rw [decide_eq_true rfl] at hst
    refine awp_skip ?_
    refine awp_seq (awp_block ?_)
    refine awp_seq (ag [(2, .row i (encSup x)), (7, .row i (encSup x)), (11, .bv false), (14, .row i (encSup x)), (19, .row i (encSup x)), (22, .pc (B true)), (24, .bv false), (25, .bv false), (28, .row i (encSup x)), (33, .row i (encSup x)), (36, .pc (B true)), (38, .bv false)] rfl ?_)
    refine awp_cond rfl (fun hb => by simp at hb) (fun _ => ?_)
    refine awp_skip ?_
    refine ag [] rfl ?_
    exact ⟨i + 1, hlt, by dsimp only; omega, sl⟩
  refine awp_exit ?_
  refine awp_seq (ag [] rfl ?_)
  exact awp_ret (rtT (hc := .refl))
end Go.Proofs.YtojcjjjpniimiaaDoor

/- WHAT IS LIFTED, binds again (the reference of layer 25): the walks. -/
namespace Go.Proofs.YtojcjjjpniimiaaDoor
open Go Go.AM
set_option maxRecDepth 20000

theorem c_part_nil (c : Core) (of : Str) (ar : List Str) (hw : wfR c = true) (hof : of.length ≤ 1000000) (har : Short ar) (hsz : csize c ≤ 400000) (hln : ar.length + csize c ≤ 1000000) :
    ImpC Tryd.prog 24 [.pa (encCore c), Go.AM.T of, strsV ar, .one (.c .nl)] [] (.tup [.pa (encCore (partR of false c (fun s => decide (s ∈ ar)) []).1), madeV (partR of false c (fun s => decide (s ∈ ar)) []).2]) [(901, madeO (partR of false c (fun s => decide (s ∈ ar)) []).2)] := by
  have h := c_part _ c (Nat.le_refl _) of ar [] hw hof har hsz (by simp; omega) hln
  exact ImpC.nilArg (pre := [.pa (encCore c), Go.AM.T of, strsV ar]) (post := []) (hin := []) h rfl
/-- Binds that can be lifted. -/
structure BOk (b : Bind) : Prop where
  wf : wfR b.body = true
  sz : csize b.body ≤ 400000
  nm : b.name.length ≤ 1000000
def lifV (l : List Sup) : V := .one (.hs 500 0 l.length l.length)
def lifO (l : List Sup) : AObj := .arr 40 12 (l.map encSup) 0
theorem liftR_step {l : List Bind} {i : Nat} {b : Bind} (h : l[i]? = some b) : liftR (l.take (i + 1)) = liftR (l.take i) ++ liftB b := by
  unfold liftR; rw [take_step h]; simp
theorem liftB_eq {b : Bind} (h : wfR b.body = true) : liftB b = ⟨b.name, paramsR (chainN b.body), (partR b.name false (chainB b.body) (fun x => decide (x ∈ chainN b.body)) []).1⟩ :: (partR b.name false (chainB b.body) (fun x => decide (x ∈ chainN b.body)) []).2 := by
  unfold liftB; rw [partR_chain _ _ b.body (Nat.le_refl _) h]
theorem liftB_len {b : Bind} (h : wfR b.body = true) : (liftB b).length ≤ 1 + csize b.body := by
  rw [liftB_eq h, List.length_cons]
  obtain ⟨w1, w2, w3, w4, w5, w6⟩ := wf_chain _ b.body (Nat.le_refl _) h
  have := part_len b.name (chainB b.body) false (fun x => decide (x ∈ chainN b.body)) []
  simp only [List.length_nil] at this
  omega
theorem liftR_len : ∀ {l : List Bind}, (∀ b ∈ l, BOk b) → (liftR l).length ≤ l.length * 400001
  | [], _ => by simp [liftR]
  | b :: l, h => by
    have ih := liftR_len (l := l) fun x hx => h x (List.mem_cons_of_mem _ hx)
    have h1 := h b List.mem_cons_self
    have h2 := liftB_len h1.wf
    have h3 := h1.sz
    rw [liftR, List.flatMap_cons, List.length_append, List.length_cons]
    unfold liftR at ih
    omega

theorem c_lift25 (l : List Bind) (hl : l.length ≤ 100) (h : ∀ b ∈ l, BOk b) : ImpC Tryd.prog 7 [.one (.c (.sl 15 (l.map encBind)))] [] (lifV (liftR l)) [(500, lifO (liftR l))] := by
  have hll := liftR_len h
  refine impC (n := 51) tok Tryd.func7 rfl rfl rfl ?_
  refine awp_seq (ag [] rfl ?_)
  refine awp_seq (ag [] rfl ?_)
  refine awp_seq (awp_seq (ag [] rfl ?_))
  refine AWp.sub (Sub.own (t := 3) (id := 500) 40 12 rfl rfl) ?_
  refine awp_block ?_
  have hkl : (l.map encBind).length = l.length := List.length_map _
  refine awp_loop (fun i : Nat => mk [(0, .one (.c (.sl 15 (l.map encBind)))), (3, lifV (liftR (l.take i))), (4, I .i64 i)] [(500, lifO (liftR (l.take i)))]) (fun i => i ≤ l.length) (fun i => l.length - i) 0 (Nat.zero_le _) sl ?_
  intro i hi
  refine awp_seq (awp_seq (ag [] rfl ?_))
  refine awp_cond rfl (fun hb => ?_) (fun hb => ?_)
  · have hlt := ltD hb hkl
    obtain ⟨b, hbi⟩ := get_of_lt hlt
    have hbi' := getEnc encBind hbi
    have hm := List.mem_of_getElem? hbi
    obtain ⟨hw, hs, hn⟩ := h b hm
    obtain ⟨w1, w2, w3, w4, w5, w6⟩ := wf_chain _ b.body (Nat.le_refl _) hw
    have hch := c_chain b.body w1 (by omega)
    have hsh : Short (chainN b.body) := fun s hs' => by have := w5 s hs'; omega
    have hpt := c_part_nil (chainB b.body) b.name (chainN b.body) w2 hn hsh (by omega) (by omega)
    have hpa := c_params25 (chainN b.body) (by omega) hsh
    have hst := liftR_step hbi
    rw [liftB_eq hw] at hst
    have hlm := liftR_len (l := l.take i) fun x hx => h x (List.mem_of_mem_take hx)
    rw [List.length_take] at hlm
    have hpl := part_len b.name (chainB b.body) false (fun x => decide (x ∈ chainN b.body)) []
    simp only [List.length_nil] at hpl
    generalize partR b.name false (chainB b.body) (fun x => decide (x ∈ chainN b.body)) [] = r at hpt hst hpl
    generalize liftR (l.take i) = X at hst hlm ⊢
    refine awp_skip ?_
    refine awp_seq (awp_block ?_)
    refine awp_seq (ag [(2, .row i (encBind b)), (5, .pc (.tup [strsV (chainN b.body), .pa (encCore (chainB b.body))]))] rfl ?_)
    refine awp_seq (awp_rg mixed ?_)
    refine ak 7 [(3, .row i (encBind b))] rfl ?_
    refine kc hpt ?_
    refine ak 6 [] rfl ?_
    refine az ?_
    refine awp_seq (ag [(3, .row i (encBind b)), (7, .pc (strsV (paramsR (chainN b.body))))] rfl ?_)
    refine ag [(2, .all)] rfl ?_
    refine ag [] rfl ?_
    refine ⟨i + 1, hlt, by dsimp only; omega, ?_⟩
    dsimp only
    rw [hst]
    have hrows : X.map encSup ++ [encSup (Sup.mk b.name (paramsR (chainN b.body)) r.1)] ++ r.2.map encSup = (X ++ Sup.mk b.name (paramsR (chainN b.body)) r.1 :: r.2).map encSup := by
      rw [List.map_append, List.append_assoc]; rfl
    refine sl (he := ⟨rfl, Go.AM.hs_ren (by simp; omega) (by simp; omega), rfl, trivial⟩) (hh := ⟨⟨_, rfl, .arrS hrows⟩, trivial⟩)
  have hge := geD hb hkl hi
  subst hge
  rw [List.take_length]
  refine awp_exit ?_
  refine awp_seq (ag [] rfl ?_)
  exact awp_ret (rtT (hc := .refl))

def lamC (s : Str) (c : Core) : Core := .mk 5 0 s zTy [c] [] []
theorem lamsR_drop (c : Core) {l : List Str} {k : Nat} {s : Str} (h : l[k]? = some s) : lamsR c (l.drop k) = lamC s (lamsR c (l.drop (k + 1))) := by
  have hk : k < l.length := (List.getElem?_eq_some_iff.1 h).1
  rw [List.drop_eq_getElem_cons hk, (List.getElem?_eq_some_iff.1 h).2]
  rfl
theorem c_binds25 (l : List Sup) (hl : l.length ≤ 1000000) (hp : ∀ x ∈ l, x.params.length ≤ 1000000) : ImpC Tryd.prog 21 [supsV l] [] (.one (.c (.sl 15 ((bindsR l).map encBind)))) [] := by
  refine impC (n := 51) tok Tryd.func21 rfl rfl rfl ?_
  refine awp_seq (ag [] rfl ?_)
  refine awp_seq (ag [] rfl ?_)
  refine awp_seq (awp_seq (ag [] rfl ?_))
  refine AWp.sub (Sub.own (t := 3) (id := 500) 46 15 rfl rfl) ?_
  refine awp_block ?_
  have hkl : (l.map encSup).length = l.length := List.length_map _
  refine awp_loop (fun i : Nat => mk [(0, supsV l), (3, .one (.hs 500 0 i i)), (4, I .i64 i)] [(500, .arr 46 15 ((bindsR (l.take i)).map encBind) 0)]) (fun i => i ≤ l.length) (fun i => l.length - i) 0 (Nat.zero_le _) sl ?_
  intro i hi
  have hbl : (bindsR (l.take i)).length = i := by unfold bindsR; rw [List.length_map, List.length_take]; omega
  refine awp_seq (awp_seq (ag [] rfl ?_))
  refine awp_cond rfl (fun hb => ?_) (fun hb => ?_)
  · have hlt := ltD hb hkl
    obtain ⟨x, hx⟩ := get_of_lt hlt
    have hx' := getEnc encSup hx
    have hpx := hp x (List.mem_of_getElem? hx)
    refine awp_skip ?_
    refine awp_seq (awp_block ?_)
    refine awp_seq (ag [(2, .row i (encSup x))] rfl ?_)
    refine awp_seq (awp_seq (ag [(2, .row i (encSup x))] rfl ?_))
    have hpe : (x.params.map encS).length = x.params.length := List.length_map _
    refine awp_block ?_
    refine awp_loop (fun j : Nat => mk [(0, supsV l), (3, .one (.hs 500 0 i i)), (4, I .i64 i), (5, .one (.vp 5 0)), (6, I .i64 ((j : Int) - 1))] [(5, .var 38 (cellsC (lamsR x.body (x.params.drop j)))), (500, .arr 46 15 ((bindsR (l.take i)).map encBind) 0)]) (fun j => j ≤ x.params.length) (fun j => j) x.params.length (Nat.le_refl _) (by rw [List.drop_length, lamsR]; refine sl (he := ⟨rfl, rfl, rfl, rfl, ?_, trivial⟩); show some (I .i64 (((x.params.map encS).length : Int) - 1)) = _; rw [hpe]; rfl) ?_
    intro j hj
    refine awp_seq (awp_seq (ag [] rfl ?_))
    refine awp_cond rfl (fun hb => ?_) (fun hb => ?_)
    · have h0 : 1 ≤ j := by
        have : (0 : Int) ≤ (j : Int) - 1 := by simpa using hb
        omega
      obtain ⟨s, hs⟩ := get_of_lt (show j - 1 < x.params.length by omega)
      have hs' := getEnc encS hs
      have hd := lamsR_drop x.body hs
      rw [show j - 1 + 1 = j by omega] at hd
      refine awp_skip ?_
      refine awp_seq (awp_block ?_)
      refine ag [(2, .row i (encSup x)), (6, .row (j - 1) (encS s)), (9, .all)] rfl ?_
      refine ag [] rfl ?_
      refine ⟨j - 1, by dsimp only; omega, by dsimp only; omega, Sub.trans ?_ (vp 5 (encCore (lamC s (lamsR x.body (x.params.drop j)))))⟩
      dsimp only
      rw [hd]
      refine sl (he := ⟨rfl, rfl, rfl, rfl, ?_, trivial⟩)
      show some (I .i64 (((j : Int) - 1) - 1)) = some (I .i64 (((j - 1 : Nat) : Int) - 1))
      rw [show (((j - 1 : Nat) : Int)) = (j : Int) - 1 by omega]
    · have h0 : j = 0 := by
        have : ¬ (0 : Int) ≤ (j : Int) - 1 := by simpa using hb
        omega
      subst h0
      rw [List.drop_zero]
      have hrows : (bindsR (l.take i)).map encBind ++ [encBind (Bind.mk x.name zTy (lamsR x.body x.params))] = (bindsR (l.take (i + 1))).map encBind := by
        unfold bindsR; rw [take_step hx]; simp
      refine awp_exit ?_
      refine ag [(3, .row i (encSup x))] rfl ?_
      refine ag [] rfl ?_
      exact ⟨i + 1, hlt, by dsimp only; omega, sl⟩
  have hge := geD hb hkl hi
  subst hge
  rw [List.take_length] at hbl ⊢
  refine awp_exit ?_
  refine awp_seq (ag [] rfl ?_)
  refine AWp.sub (Sub.freeze (id := 500) rfl) ?_
  exact awp_ret (rtT (hc := hs_all rfl rfl (by rw [List.length_map]; exact hbl.symm) rfl))
end Go.Proofs.YtojcjjjpniimiaaDoor

/- WHICH COMBINATORS ARE SUCH (the reference of layer 25): the walk. -/
namespace Go.Proofs.YtojcjjjpniimiaaDoor
open Go Go.AM
set_option maxRecDepth 20000

theorem once_step {l : List Str} {i : Nat} {s : Str} (h : l[i]? = some s) : onceR (l.take (i + 1)) = (onceR (l.take i) && !decide (s ∈ l.take i)) := by
  rw [take_step h]
  have e : onceR (l.take i ++ [s]) = true ↔ (onceR (l.take i) && !decide (s ∈ l.take i)) = true := by
    rw [onceR_iff, List.nodup_append, Bool.and_eq_true, onceR_iff]
    simp only [List.mem_singleton, forall_eq, Bool.not_eq_true', decide_eq_false_iff_not, List.nodup_cons, List.not_mem_nil, not_false_eq_true, List.nodup_nil, and_self, true_and]
    constructor
    · rintro ⟨h1, h2⟩
      exact ⟨h1, fun h => h2 s h rfl⟩
    · rintro ⟨h1, h2⟩
      exact ⟨h1, fun a ha e => h2 (e ▸ ha)⟩
  exact Bool.eq_iff_iff.2 e
theorem once_false {l : List Str} {i : Nat} {s : Str} (h : l[i]? = some s) (hm : s ∈ l.take i) : onceR l = false := by
  cases hl : onceR l with
  | false => rfl
  | true =>
    have h1 := (onceR_iff l).1 hl
    have h2 := (List.take_append_drop i l) ▸ h1
    rw [List.nodup_append] at h2
    have hk : i < l.length := (List.getElem?_eq_some_iff.1 h).1
    have : s ∈ l.drop i := by
      rw [List.drop_eq_getElem_cons hk, (List.getElem?_eq_some_iff.1 h).2]
      exact List.mem_cons_self
    exact absurd rfl (h2.2.2 s hm s this)

theorem c_check25 (l : List Sup) (hl : l.length ≤ 100000) (h : ∀ x ∈ l, csize x.body ≤ 400000 ∧ x.params.length ≤ 100000) : ImpC Tryd.prog 16 [supsV l] [] (B (checkR l)) [] := by
  refine impC (n := 76) tok Tryd.func16 rfl rfl rfl ?_
  refine awp_seq (ag [] rfl ?_)
  refine awp_seq (ag [] rfl ?_)
  refine awp_seq (awp_seq (ag [] rfl ?_))
  refine AWp.sub (Sub.own (t := 3) (id := 500) 9 1 rfl rfl) (AWp.sub (Sub.freeze (id := 500) rfl) ?_)
  have hkl : (l.map encSup).length = l.length := List.length_map _
  rw [show checkR l = (onceR (l.map (·.name)) && l.all fun x => onceR x.params && fitsR x.body (ext (fun s => decide (s ∈ l.map (·.name))) x.params)) from rfl]
  refine awp_block ?_
  refine awp_loop (fun i : Nat => mk [(0, supsV l), (3, .one (.hs 500 0 i i)), (4, I .i64 i)] [(500, .arr 9 1 (((l.map (·.name)).take i).map encS) 2)]) (fun i => i ≤ l.length ∧ onceR ((l.map (·.name)).take i) = true) (fun i => l.length - i) 0 ⟨Nat.zero_le _, rfl⟩ sl ?_
  intro i ⟨hi, ho⟩
  have hnl : ((l.map (·.name)).take i).length = i := by rw [List.length_take, List.length_map]; omega
  refine awp_seq (awp_seq (ag [] rfl ?_))
  refine awp_cond rfl (fun hb => ?_) (fun hb => ?_)
  · have hlt := ltD hb hkl
    obtain ⟨x, hx⟩ := get_of_lt hlt
    have hx' := getEnc encSup hx
    have hxn : (l.map (·.name))[i]? = some x.name := by rw [List.getElem?_map, hx]; rfl
    have hst := once_step hxn
    have hh := c_has ((l.map (·.name)).take i) x.name (by unfold Fits; omega)
    refine awp_skip ?_
    refine awp_seq (awp_block ?_)
    refine awp_seq (awp_seq (ag [(3, .row i (encSup x)), (6, .pc (B (decide (x.name ∈ (l.map (·.name)).take i))))] rfl ?_))
    refine awp_cond rfl (fun hb => ?_) (fun hb => ?_)
    · have hm : x.name ∈ (l.map (·.name)).take i := of_decide_eq_true hb
      rw [once_false hxn hm, Bool.false_and]
      refine awp_seq (ag [] rfl ?_)
      exact awp_ret (rtT (hc := .refl))
    · have hm : ¬ x.name ∈ (l.map (·.name)).take i := of_decide_eq_false hb
      refine awp_skip ?_
      refine ag [(3, .row i (encSup x)), (7, .fz)] rfl ?_
      refine ag [] rfl ?_
      have hrows : ((l.map (·.name)).take i).map encS ++ [encS x.name] = ((l.map (·.name)).take (i + 1)).map encS := by rw [take_step hxn]; simp
      exact ⟨i + 1, ⟨hlt, by rw [hst, ho, decide_eq_false hm]; rfl⟩, by dsimp only; omega, sl⟩
  have hge := geD hb hkl hi
  subst hge
  rw [show (l.map (·.name)).take l.length = l.map (·.name) by rw [List.take_of_length_le]; simp] at ho ⊢
  rw [ho, Bool.true_and]
  have hnl2 : (l.map (·.name)).length = l.length := List.length_map _
  generalize l.map (·.name) = N at hnl2 ⊢
  refine awp_exit ?_
  refine AWp.sub (cv 3 (N.map encS)) ?_
  refine awp_seq (awp_seq (ag [] rfl ?_))
  refine awp_block ?_
  refine awp_loop (fun i : Nat => mk [(0, supsV l), (3, strsV N), (5, I .i64 i)] []) (fun i => i ≤ l.length ∧ (l.take i).all (fun x => onceR x.params && fitsR x.body (ext (fun s => decide (s ∈ N)) x.params)) = true) (fun i => l.length - i) 0 ⟨Nat.zero_le _, rfl⟩ sl ?_
  intro i ⟨hi, hall⟩
  refine awp_seq (awp_seq (ag [] rfl ?_))
  refine awp_cond rfl (fun hb => ?_) (fun hb => ?_)
  · have hlt := ltD hb hkl
    obtain ⟨x, hx⟩ := get_of_lt hlt
    have hx' := getEnc encSup hx
    have hm := List.mem_of_getElem? hx
    obtain ⟨hxs, hxp⟩ := h x hm
    have hst := all_step (fun x : Sup => onceR x.params && fitsR x.body (ext (fun s => decide (s ∈ N)) x.params)) hx
    have hw := c_with N x.params (by omega)
    have hf := c_fits _ x.body (Nat.le_refl _) (N ++ x.params) hxs (by rw [List.length_append]; omega)
    rw [memG] at hf
    have hkp : (x.params.map encS).length = x.params.length := List.length_map _
    refine awp_skip ?_
    refine awp_seq (awp_block ?_)
    refine awp_seq (awp_seq (ag [] rfl ?_))
    refine awp_block ?_
    refine awp_loop (fun k : Nat => mk [(0, supsV l), (3, strsV N), (5, I .i64 i), (6, I .i64 k)] []) (fun k => k ≤ x.params.length ∧ onceR (x.params.take k) = true) (fun k => x.params.length - k) 0 ⟨Nat.zero_le _, rfl⟩ sl ?_
    intro k ⟨hk, hok⟩
    refine awp_seq (awp_seq (ag [(3, .row i (encSup x))] rfl ?_))
    refine awp_cond rfl (fun hb => ?_) (fun hb => ?_)
    · have hlt2 := ltD hb hkp
      obtain ⟨s, hs⟩ := get_of_lt hlt2
      have hs' := getEnc encS hs
      have hst2 := once_step hs
      have hh := c_has (x.params.take k) s (by unfold Fits; rw [List.length_take]; omega)
      have hh' : ImpC Tryd.prog 27 [.one (.c (.sl 1 ((x.params.map encS).take k))), Go.AM.T s] [] (B (decide (s ∈ x.params.take k))) [] := by rw [← List.map_take]; exact hh
      refine awp_skip ?_
      refine awp_seq (awp_block ?_)
      refine awp_seq (agN [(2, .row i (encSup x)), (9, .row i (encSup x)), (13, .row k (encS s)), (15, .pc (B (decide (s ∈ x.params.take k))))] rfl ?_)
      refine awp_cond rfl (fun hb => ?_) (fun hb => ?_)
      · have hm2 : s ∈ x.params.take k := of_decide_eq_true hb
        rw [all_false (p := fun x : Sup => onceR x.params && fitsR x.body (ext (fun s => decide (s ∈ N)) x.params)) hm (by rw [once_false hs hm2]; rfl)]
        refine awp_seq (ag [] rfl ?_)
        exact awp_ret (rtT (hc := .refl))
      · have hm2 : ¬ s ∈ x.params.take k := of_decide_eq_false hb
        refine awp_skip ?_
        refine ag [] rfl ?_
        exact ⟨k + 1, ⟨hlt2, by rw [hst2, hok, decide_eq_false hm2]; rfl⟩, by dsimp only; omega, sl⟩
    · have hge2 := geD hb hkp hk
      subst hge2
      rw [List.take_length] at hok
      refine awp_exit ?_
      refine awp_seq (ag [(2, .row i (encSup x)), (8, .row i (encSup x)), (11, .pc (strsV (N ++ x.params))), (12, .pc (B (fitsR x.body (ext (fun s => decide (s ∈ N)) x.params))))] rfl ?_)
      refine awp_seq (ag [] rfl ?_)
      refine awp_cond rfl (fun hb => ?_) (fun hb => ?_)
      · have hp : fitsR x.body (ext (fun s => decide (s ∈ N)) x.params) = false := by simpa using hb
        rw [all_false (p := fun x : Sup => onceR x.params && fitsR x.body (ext (fun s => decide (s ∈ N)) x.params)) hm (by rw [hp, Bool.and_false])]
        refine awp_seq (ag [] rfl ?_)
        exact awp_ret (rtT (hc := .refl))
      · have hp : fitsR x.body (ext (fun s => decide (s ∈ N)) x.params) = true := by simpa using hb
        refine awp_skip ?_
        refine ag [] rfl ?_
        exact ⟨i + 1, ⟨hlt, by rw [hst, hall, hok, hp]; rfl⟩, by dsimp only; omega, sl⟩
  have hge := geD hb hkl hi
  subst hge
  rw [List.take_length] at hall
  rw [hall]
  refine awp_exit ?_
  refine awp_seq (ag [] rfl ?_)
  exact awp_ret (rtT (hc := .refl))
end Go.Proofs.YtojcjjjpniimiaaDoor

/- GO'S LIBRARY: copies, lists put together, what is contained, small numbers as texts. -/
namespace Go.Proofs.YtojcjjjpniimiaaDoor
open Go Go.AM Go.Shelf
set_option maxRecDepth 20000

theorem c_clone_string (l : List (List C)) (h : l.length ≤ 1000000) : ImpC Tryd.prog 71 [.one (.c (.sl 1 l))] [] (.one (.hs 710 0 l.length l.length)) [(710, .arr 9 1 l 0)] := by
  refine impC (n := 8) tok Tryd.func71 rfl rfl rfl ?_
  refine awp_seq (ag [] rfl ?_)
  refine awp_sl 0 rfl (fun hl => ?_) ?_
  · subst hl
    refine awp_seq (awp_seq (ag [] rfl ?_))
    refine awp_cond rfl (fun _ => ?_) (fun hb => by cases hb)
    refine awp_seq (ag [] rfl ?_)
    refine AWp.sub (Sub.own (t := 2) (id := 710) 9 1 rfl rfl) ?_
    exact awp_ret rtT
  · refine awp_seq (awp_seq (ag [] rfl ?_))
    refine awp_cond rfl (fun hb => by cases hb) (fun _ => ?_)
    refine awp_skip ?_
    refine awp_seq (ag [(0, .id 710)] rfl ?_)
    refine AWp.sub (st2 := mk [(2, .one (.hs 710 0 l.length l.length))] [(710, .arr 9 1 l 0)]) sl ?_
    exact awp_ret rtT
theorem c_clone_binds (l : List (List C)) (h : l.length ≤ 1000000) : ImpC Tryd.prog 86 [.one (.c (.sl 15 l))] [] (.one (.hs 701 0 l.length l.length)) [(701, .arr 46 15 l 0)] := by
  refine impC (n := 8) tok Tryd.func86 rfl rfl rfl ?_
  refine awp_seq (ag [] rfl ?_)
  refine awp_sl 0 rfl (fun hl => ?_) ?_
  · subst hl
    refine awp_seq (awp_seq (ag [] rfl ?_))
    refine awp_cond rfl (fun _ => ?_) (fun hb => by cases hb)
    refine awp_seq (ag [] rfl ?_)
    refine AWp.sub (Sub.own (t := 2) (id := 701) 46 15 rfl rfl) ?_
    exact awp_ret rtT
  · refine awp_seq (awp_seq (ag [] rfl ?_))
    refine awp_cond rfl (fun hb => by cases hb) (fun _ => ?_)
    refine awp_skip ?_
    refine awp_seq (ag [(0, .id 701)] rfl ?_)
    refine AWp.sub (st2 := mk [(2, .one (.hs 701 0 l.length l.length))] [(701, .arr 46 15 l 0)]) sl ?_
    exact awp_ret rtT
theorem c_clone_cores (l : List (List C)) (h : l.length ≤ 1000000) : ImpC Tryd.prog 87 [.one (.c (.sl 10 l))] [] (.one (.hs 702 0 l.length l.length)) [(702, .arr 38 10 l 0)] := by
  refine impC (n := 8) tok Tryd.func87 rfl rfl rfl ?_
  refine awp_seq (ag [] rfl ?_)
  refine awp_sl 0 rfl (fun hl => ?_) ?_
  · subst hl
    refine awp_seq (awp_seq (ag [] rfl ?_))
    refine awp_cond rfl (fun _ => ?_) (fun hb => by cases hb)
    refine awp_seq (ag [] rfl ?_)
    refine AWp.sub (Sub.own (t := 2) (id := 702) 38 10 rfl rfl) ?_
    exact awp_ret rtT
  · refine awp_seq (awp_seq (ag [] rfl ?_))
    refine awp_cond rfl (fun hb => by cases hb) (fun _ => ?_)
    refine awp_skip ?_
    refine awp_seq (ag [(0, .id 702)] rfl ?_)
    refine AWp.sub (st2 := mk [(2, .one (.hs 702 0 l.length l.length))] [(702, .arr 38 10 l 0)]) sl ?_
    exact awp_ret rtT
theorem c_clone_alts (l : List (List C)) (h : l.length ≤ 1000000) : ImpC Tryd.prog 88 [.one (.c (.sl 14 l))] [] (.one (.hs 703 0 l.length l.length)) [(703, .arr 69 14 l 0)] := by
  refine impC (n := 8) tok Tryd.func88 rfl rfl rfl ?_
  refine awp_seq (ag [] rfl ?_)
  refine awp_sl 0 rfl (fun hl => ?_) ?_
  · subst hl
    refine awp_seq (awp_seq (ag [] rfl ?_))
    refine awp_cond rfl (fun _ => ?_) (fun hb => by cases hb)
    refine awp_seq (ag [] rfl ?_)
    refine AWp.sub (Sub.own (t := 2) (id := 703) 69 14 rfl rfl) ?_
    exact awp_ret rtT
  · refine awp_seq (awp_seq (ag [] rfl ?_))
    refine awp_cond rfl (fun hb => by cases hb) (fun _ => ?_)
    refine awp_skip ?_
    refine awp_seq (ag [(0, .id 703)] rfl ?_)
    refine AWp.sub (st2 := mk [(2, .one (.hs 703 0 l.length l.length))] [(703, .arr 69 14 l 0)]) sl ?_
    exact awp_ret rtT

/-- The first place of a text; below 0: none. -/
def fidx (s : Str) : List Str → Int → Int
  | [], _ => -1
  | x :: l, k => if s = x then k else fidx s l (k + 1)
theorem fidx_mem (s : Str) : ∀ (l : List Str) (k : Int), 0 ≤ k → (decide (0 ≤ fidx s l k) = decide (s ∈ l))
  | [], k, _ => by simp [fidx]
  | x :: l, k, hk => by
    rw [fidx]
    split
    · rename_i h; subst h; simp [hk]
    · rename_i h; rw [fidx_mem s l (k + 1) (by omega)]; simp [h]
theorem c_index (l : List Str) (s : Str) (h : l.length ≤ 8000000) : ImpC Tryd.prog 93 [strsV l, Go.AM.T s] [] (I .i64 (fidx s l 0)) [] := by
  refine impC (n := 19) tok Tryd.func93 rfl rfl rfl ?_
  refine awp_seq (ag [] rfl ?_)
  refine awp_seq (awp_seq (ag [] rfl ?_))
  have hka : (l.map encS).length = l.length := List.length_map _
  refine awp_block ?_
  refine awp_loop (fun i : Nat => mk [(0, strsV l), (1, Go.AM.T s), (7, I .i64 ((l.map encS).length : Int)), (8, I .i64 i)] []) (fun i => i ≤ l.length ∧ fidx s l 0 = fidx s (l.drop i) i) (fun i => l.length - i) 0 ⟨Nat.zero_le _, rfl⟩ sl ?_
  intro i ⟨hi, he⟩
  refine awp_seq (ag [] rfl ?_)
  refine awp_seq (awp_cond rfl (fun hb => ?_) (fun hb => ?_))
  · have hlt := ltD hb hka
    obtain ⟨x, hx⟩ := get_of_lt hlt
    have hx' := getEnc encS hx
    have hd : l.drop i = x :: l.drop (i + 1) := by rw [List.drop_eq_getElem_cons hlt, (List.getElem?_eq_some_iff.1 hx).2]
    rw [hd, fidx] at he
    refine awp_skip ?_
    refine awp_seq (awp_block ?_)
    refine awp_seq (ag [] rfl ?_)
    refine awp_seq (ag [(3, .row i (encS x))] rfl ?_)
    refine awp_cond rfl (fun hb => ?_) (fun hb => ?_)
    · have hs : s = x := of_decide_eq_true hb
      rw [if_pos hs] at he
      rw [he]
      refine awp_seq (ag [] rfl ?_)
      exact awp_ret rtT
    · have hs : ¬ s = x := of_decide_eq_false hb
      rw [if_neg hs] at he
      refine awp_skip ?_
      refine ag [] rfl ?_
      exact ⟨i + 1, ⟨hlt, he⟩, by dsimp only; omega, sl⟩
  · have hge := geD hb hka hi
    subst hge
    rw [List.drop_length, fidx] at he
    rw [he]
    refine awp_exit ?_
    refine awp_seq (ag [] rfl ?_)
    exact awp_ret rtT
theorem c_contains (l : List Str) (s : Str) (h : l.length ≤ 8000000) : ImpC Tryd.prog 72 [strsV l, Go.AM.T s] [] (B (decide (s ∈ l))) [] := by
  have hi := c_index l s h
  refine impC (n := 9) tok Tryd.func72 rfl rfl rfl ?_
  refine awp_seq (ag [] rfl ?_)
  refine awp_seq (ag [(2, .pc (I .i64 (fidx s l 0)))] rfl ?_)
  rw [← fidx_mem s l 0 (by omega)]
  exact awp_ret rtT

def gr : Ren := ⟨fun f => if f = 4 then 97 else f, fun t => if t = 22 then 31 else if t = 25 then 9 else t, fun g => g⟩
theorem gl : Lays8.n4 Tryd.prog gr where
  mixed := mixed
  f4 := ⟨Tryd.f97.name, by kernel_rfl, by kernel_rfl⟩
  t0 := by kernel_rfl
  a0 := fun w => by kernel_rfl
  z0 := fun w => by kernel_rfl
  v0 := fun w => by kernel_rfl
  t3 := by kernel_rfl
  a3 := fun w => by kernel_rfl
  z3 := fun w => by kernel_rfl
  v3 := fun w => by kernel_rfl
  t4 := by kernel_rfl
  a4 := fun w => by kernel_rfl
  z4 := fun w => by kernel_rfl
  v4 := fun w => by kernel_rfl
  t9 := by kernel_rfl
  a9 := fun w => by kernel_rfl
  z9 := fun w => by kernel_rfl
  v9 := fun w => by kernel_rfl
  t20 := by kernel_rfl
  a20 := fun w => by kernel_rfl
  z20 := fun w => by kernel_rfl
  v20 := fun w => by kernel_rfl
  t22 := by kernel_rfl
  a22 := fun w => by kernel_rfl
  z22 := fun w => by kernel_rfl
  v22 := fun w => by kernel_rfl
theorem c_grow (k : Nat) (h : k ≤ 4000000) : ImpC Tryd.prog 97 [.one (.c .nl), I .i64 (k : Int)] [] (.one (.hs 720 0 0 0)) [(720, .arr 9 1 [] 0)] :=
  grow_nil (ρ := gr) (ei := ⟨.str, 1, 16, [.str []]⟩) gl tok (tg rfl) rfl k (by show k * 16 ≤ _; omega) (by omega)
/-- Two lists of texts. -/
theorem c_concat (a b : List Str) (h : a.length + b.length ≤ 4000000) : ImpC Tryd.prog 89 [.one (.c (.sl 1 [[.sl 1 (a.map encS)], [.sl 1 (b.map encS)]]))] [] (strsV (a ++ b)) [] := by
  have hg := c_grow (a.length + b.length) h
  have hla : (a.map encS).length = a.length := List.length_map _
  have hlb : (b.map encS).length = b.length := List.length_map _
  refine impC (n := 36) tok Tryd.func89 rfl rfl rfl ?_
  refine awp_seq (ag [] rfl ?_)
  refine awp_seq (ag [] rfl ?_)
  refine awp_seq (awp_seq (ag [] rfl ?_))
  refine awp_block ?_
  refine awp_loop (fun i : Nat => mk [(0, .one (.c (.sl 1 [[.sl 1 (a.map encS)], [.sl 1 (b.map encS)]]))), (3, I .i64 ((if i = 0 then 0 else if i = 1 then a.length else a.length + b.length : Nat) : Int)), (9, .one (.c (.sl 1 [[.sl 1 (a.map encS)], [.sl 1 (b.map encS)]]))), (10, I .i64 2), (11, I .i64 i)] []) (fun i => i ≤ 2) (fun i => 2 - i) 0 (Nat.zero_le _) sl ?_
  intro i hi
  refine awp_seq (ag [] rfl ?_)
  refine awp_seq (awp_cond rfl (fun hb => ?_) (fun hb => ?_))
  · have hlt : i < 2 := by
      have : (i : Int) < 2 := of_decide_eq_true hb
      omega
    refine awp_skip ?_
    refine awp_seq (awp_block ?_)
    have hi2 : i = 0 ∨ i = 1 := by omega
    rcases hi2 with rfl | rfl
    · refine awp_seq (ag [] rfl ?_)
      refine awp_seq (agN [] rfl ?_)
      refine awp_seq (ag [] rfl ?_)
      refine awp_cond rfl (fun hb => ?_) (fun _ => ?_)
      · exfalso
        have : ((0 + (a.map encS).length : Nat) : Int) < 0 := of_decide_eq_true hb
        omega
      refine awp_skip ?_
      refine ag [] rfl ?_
      refine ⟨1, by omega, by dsimp only; omega, sl (he := ⟨rfl, ?_, rfl, rfl, rfl, trivial⟩)⟩
      show some (I .i64 ((0 + (a.map encS).length : Nat) : Int)) = some (I .i64 ((a.length : Nat) : Int))
      rw [hla, Nat.zero_add]
    · refine awp_seq (ag [] rfl ?_)
      refine awp_seq (agN [] rfl ?_)
      refine awp_seq (ag [] rfl ?_)
      refine awp_cond rfl (fun hb => ?_) (fun _ => ?_)
      · exfalso
        have : ((a.length + (b.map encS).length : Nat) : Int) < 0 := of_decide_eq_true hb
        omega
      refine awp_skip ?_
      refine ag [] rfl ?_
      refine ⟨2, by omega, by dsimp only; omega, sl (he := ⟨rfl, ?_, rfl, rfl, rfl, trivial⟩)⟩
      show some (I .i64 ((a.length + (b.map encS).length : Nat) : Int)) = some (I .i64 ((a.length + b.length : Nat) : Int))
      rw [hlb]
  have hge : i = 2 := by
    have : ¬ (i : Int) < 2 := of_decide_eq_false hb
    omega
  subst hge
  refine awp_exit ?_
  refine awp_seq (awp_rg mixed ?_)
  refine ak 1 [] rfl ?_
  refine kc hg ?_
  refine ak 1 [] rfl ?_
  refine az ?_
  refine awp_seq (awp_seq (ag [] rfl ?_))
  refine awp_block ?_
  refine awp_loop (fun i : Nat => mk [(6, .one (.hs 720 0 (if i = 0 then 0 else if i = 1 then a.length else a.length + b.length) (if i = 0 then 0 else if i = 1 then a.length else a.length + b.length))), (25, .one (.c (.sl 1 [[.sl 1 (a.map encS)], [.sl 1 (b.map encS)]]))), (26, I .i64 2), (27, I .i64 i)] [(720, .arr 9 1 (if i = 0 then [] else if i = 1 then a.map encS else a.map encS ++ b.map encS) 0)]) (fun i => i ≤ 2) (fun i => 2 - i) 0 (Nat.zero_le _) sl ?_
  intro i hi
  refine awp_seq (ag [] rfl ?_)
  refine awp_seq (awp_cond rfl (fun hb => ?_) (fun hb => ?_))
  · have hlt : i < 2 := by
      have : (i : Int) < 2 := of_decide_eq_true hb
      omega
    refine awp_skip ?_
    refine awp_seq (awp_block ?_)
    have hi2 : i = 0 ∨ i = 1 := by omega
    rcases hi2 with rfl | rfl
    · refine awp_seq (ag [] rfl ?_)
      refine ag [] rfl ?_
      refine ag [] rfl ?_
      exact ⟨1, by omega, by dsimp only; omega, sl⟩
    · refine awp_seq (ag [] rfl ?_)
      refine ag [] rfl ?_
      refine ag [] rfl ?_
      exact ⟨2, by omega, by dsimp only; omega, sl⟩
  have hge : i = 2 := by
    have : ¬ (i : Int) < 2 := of_decide_eq_false hb
    omega
  subst hge
  refine awp_exit ?_
  refine awp_seq (ag [] rfl ?_)
  refine AWp.sub (Sub.freeze (id := 720) rfl) ?_
  exact awp_ret (rtT (hc := hs_all rfl rfl (by simp) (by simp)))
/-- Small numbers as texts. -/
def smalls : Str := [48, 49, 50, 51, 52, 53, 54, 55, 56, 57, 97, 98, 99, 100, 101, 102, 103, 104, 105, 106, 107, 108, 109, 110, 111, 112, 113, 114, 115, 116, 117, 118, 119, 120, 121, 122]
def pairs : Str := (List.range 100).flatMap fun k => [UInt8.ofNat (48 + k / 10), UInt8.ofNat (48 + k % 10)]
theorem small1 : ∀ k : Fin 10, ((smalls.take (k.val + 1)).drop k.val) = dec k.val := by decide
theorem small2 : ∀ k : Fin 100, 10 ≤ k.val → ((pairs.take (k.val * 2 + 2)).drop (k.val * 2)) = dec k.val := by decide
theorem c_itoa (k : Nat) (h : k < 100) : ImpC Tryd.prog 73 [I .i64 (k : Int)] [] (Go.AM.T (dec k)) [] := by
  have h1 : ImpC Tryd.prog 101 [I .i64 (k : Int)] [] (Go.AM.T (dec k)) [] := by
    refine impC (n := 15) tok Tryd.func101 rfl rfl rfl ?_
    refine awp_seq (ag [] rfl ?_)
    refine awp_seq (awp_seq (ag [] rfl ?_))
    refine awp_cond rfl (fun hb => ?_) (fun hb => ?_)
    · have hk : k < 10 := by
        have : (k : Int) < 10 := of_decide_eq_true hb
        omega
      rw [← small1 ⟨k, hk⟩]
      refine awp_seq (agN [] rfl ?_ (hc := ⟨by show k + 1 ≤ 36; omega, by show k ≤ k + 1; omega, by show k + 1 ≤ 9223372036854775807; omega, trivial⟩))
      exact awp_ret rtT
    · have hk : 10 ≤ k := by
        have : ¬ (k : Int) < 10 := of_decide_eq_false hb
        omega
      rw [← small2 ⟨k, h⟩ hk]
      refine awp_skip ?_
      refine awp_seq (agN [] rfl ?_ (hc := ⟨by show k * 2 + 2 ≤ 200; omega, by show k * 2 ≤ k * 2 + 2; omega, by show k * 2 + 2 ≤ 9223372036854775807; omega, by show k * 2 ≤ 9223372036854775807; omega, by show k * 2 ≤ 9223372036854775807; omega, trivial⟩))
      exact awp_ret rtT
  have h2 : ImpC Tryd.prog 99 [I .i64 (k : Int), I .i64 10] [] (Go.AM.T (dec k)) [] := by
    refine impC (n := 54) tok Tryd.func99 rfl rfl rfl ?_
    refine awp_seq (ag [] rfl ?_)
    refine awp_seq (awp_seq (ag [] rfl ?_))
    refine awp_cond rfl (fun _ => ?_) (fun hb => by cases hb)
    refine awp_seq (awp_seq (agF 3 [] rfl rfl rfl ?_))
    refine awp_cond rfl (fun hb => ?_) (fun hb => ?_)
    · refine awp_seq (ag [(1, .pc (Go.AM.T (dec k)))] rfl ?_)
      exact awp_ret rtT
    · exfalso
      have h3 : (0 : Int) ≤ (k : Int) := by omega
      have h4 : (k : Int) < 100 := by omega
      simp [h3, h4] at hb
  have h3 : ImpC Tryd.prog 94 [I .i64 (k : Int)] [] (Go.AM.T (dec k)) [] := by
    refine impC (n := 5) tok Tryd.func94 rfl rfl rfl ?_
    refine awp_seq (ag [] rfl ?_)
    refine awp_seq (ag [(1, .pc (Go.AM.T (dec k)))] rfl ?_)
    exact awp_ret rtT
  refine impC (n := 5) tok Tryd.func73 rfl rfl rfl ?_
  refine awp_seq (ag [] rfl ?_)
  refine awp_seq (ag [(1, .pc (Go.AM.T (dec k)))] rfl ?_)
  exact awp_ret rtT
end Go.Proofs.YtojcjjjpniimiaaDoor
