/-
  Texts Lb1, Lb2, Lb3, Lb4, Lb5 in one.
-/
import Derived.Test.YtnookidjdjhfhaaGreatDoorM11
/- THE PROGRAM's Erase, and Binds: the walk. -/
namespace Go.Proofs.YtnookidjdjhfhaaGreatDoor
open Go Go.AM
set_option maxRecDepth 20000

mutual
/-- What is given a type, or takes one, has a body. -/
def tkR : Core → Bool
  | .mk f _ _ _ ks bs al => (if f = 6 ∨ f = 7 then !ks.isEmpty else true) && (tkCs ks && (tkBs bs && tkAs al))
def tkCs : List Core → Bool
  | [] => true
  | c :: l => tkR c && tkCs l
def tkBs : List Bind → Bool
  | [] => true
  | .mk _ _ c :: l => tkR c && tkBs l
def tkAs : List Alt → Bool
  | [] => true
  | .mk _ _ _ _ c :: l => tkR c && tkAs l
end
theorem tkCs_mem : ∀ {l : List Core}, tkCs l = true → ∀ x ∈ l, tkR x = true
  | c :: l, h, x, hx => by
    rw [tkCs, Bool.and_eq_true] at h
    rcases List.mem_cons.1 hx with rfl | hx
    · exact h.1
    · exact tkCs_mem h.2 x hx
theorem tkBs_mem : ∀ {l : List Bind}, tkBs l = true → ∀ x ∈ l, tkR x.body = true
  | .mk s t c :: l, h, x, hx => by
    rw [tkBs, Bool.and_eq_true] at h
    rcases List.mem_cons.1 hx with rfl | hx
    · exact h.1
    · exact tkBs_mem h.2 x hx
theorem tkAs_mem : ∀ {l : List Alt}, tkAs l = true → ∀ x ∈ l, tkR x.body = true
  | .mk f n s v c :: l, h, x, hx => by
    rw [tkAs, Bool.and_eq_true] at h
    rcases List.mem_cons.1 hx with rfl | hx
    · exact h.1
    · exact tkAs_mem h.2 x hx
mutual
theorem raw_tk : ∀ c, rawR c = true → tkR c = true
  | .mk f n s t ks bs al, h => by
    rw [rawR] at h
    simp only [Bool.and_eq_true] at h
    obtain ⟨h1, h2, h3, h4⟩ := h
    rw [tkR, raw_tks ks h2, raw_tkb bs h3, raw_tka al h4]
    simp only [Bool.and_true]
    by_cases h6 : f = 6 ∨ f = 7
    · rw [if_neg (by omega), if_pos h6] at h1
      rw [if_pos h6]; exact h1
    · rw [if_neg h6]
theorem raw_tks : ∀ l, rawCs l = true → tkCs l = true
  | [], _ => by rw [tkCs]
  | c :: l, h => by
    rw [rawCs, Bool.and_eq_true] at h
    rw [tkCs, raw_tk c h.1, raw_tks l h.2]; rfl
theorem raw_tkb : ∀ l, rawBs l = true → tkBs l = true
  | [], _ => by rw [tkBs]
  | .mk s t c :: l, h => by
    simp only [rawBs, Bool.and_eq_true] at h
    rw [tkBs, raw_tk c h.1.2, raw_tkb l h.2]; rfl
theorem raw_tka : ∀ l, rawAs l = true → tkAs l = true
  | [], _ => by rw [tkAs]
  | .mk f n s v c :: l, h => by
    simp only [rawAs, Bool.and_eq_true] at h
    rw [tkAs, raw_tk c h.1.2, raw_tka l h.2]; rfl
end
mutual
theorem erase_z0 : ∀ c : Core, z0R (eraseR c) = true
  | .mk f n s t ks bs al => by
    have hk := erase_z0s ks
    rw [eraseR]
    split
    · cases ks with
      | nil => rename_i h; simp at h
      | cons k ks => rw [eraseCs] at hk ⊢; rw [z0Cs, Bool.and_eq_true] at hk; exact hk.1
    · rw [z0R, hk, erase_z0b bs, erase_z0a al]; rfl
theorem erase_z0s : ∀ l : List Core, z0Cs (eraseCs l) = true
  | [] => by rw [eraseCs, z0Cs]
  | c :: l => by rw [eraseCs, z0Cs, erase_z0 c, erase_z0s l]; rfl
theorem erase_z0b : ∀ l : List Bind, z0Bs (eraseBs l) = true
  | [] => by rw [eraseBs, z0Bs]
  | .mk s t c :: l => by rw [eraseBs, eraseB, z0Bs, erase_z0 c, erase_z0b l]; rfl
theorem erase_z0a : ∀ l : List Alt, z0As (eraseAs l) = true
  | [] => by rw [eraseAs, z0As]
  | .mk f n s v c :: l => by rw [eraseAs, eraseA, z0As, erase_z0 c, erase_z0a l]; rfl
end
def PeSpec (c : Core) : Prop := ImpC Tryz.prog 6 [.pa (encCore c)] [] (.pa (encCore (eraseR c))) []
theorem c_pebinds (l : List Bind) (hl : l.length ≤ 1000000) (ih : ∀ b ∈ l, PeSpec b.body) : ImpC Tryz.prog 8 [.one (.c (.sl 15 (encBinds l)))] [] (.one (.c (.sl 15 (encBinds (eraseBs l))))) [] := by
  refine impC (n := 23) tok Tryz.func8 rfl rfl rfl ?_
  refine awp_seq (ag [] rfl ?_)
  refine awp_seq (ag [] rfl ?_)
  refine AWp.sub (Sub.own (t := 3) (id := 500) 35 15 rfl rfl) ?_
  refine awp_seq (awp_seq (ag [] rfl ?_))
  have hle : (encBinds l).length = l.length := by rw [encBinds_map, List.length_map]
  refine awp_block ?_
  refine awp_loop (fun i : Nat => mk [(6, .one (.c (.sl 15 (encBinds l)))), (7, I .i64 ((encBinds l).length : Int)), (3, .one (.hs 500 0 i i)), (8, I .i64 i)] [(500, .arr 35 15 ((l.take i).map fun b => encBind (eraseB b)) 0)]) (fun i => i ≤ l.length) (fun i => l.length - i) 0 (Nat.zero_le _) sl ?_
  intro i hi
  refine awp_seq (ag [] rfl ?_)
  refine awp_seq (awp_cond rfl (fun hb => ?_) (fun hb => ?_))
  · have hlt := ltD hb hle
    obtain ⟨b, hbi⟩ := get_of_lt hlt
    have hbi' := encBinds_at hbi
    have hrows := take_map1 (fun b => encBind (eraseB b)) hbi
    have hk := ih b (List.mem_of_getElem? hbi)
    obtain ⟨s, t, c⟩ := b
    have hk : PeSpec c := hk
    refine awp_skip ?_
    refine awp_seq (awp_block ?_)
    refine awp_seq (ag [(0, .row i (encBind (.mk s t c)))] rfl ?_)
    refine ag [(5, .pc (.pa (encCore (eraseR c)))), (7, .all)] rfl ?_
    refine ag [] rfl ?_
    exact ⟨i + 1, hlt, by dsimp only; omega, sl⟩
  · have hge := geD hb hle hi
    subst hge
    have hr : (l.take l.length).map (fun b => encBind (eraseB b)) = encBinds (eraseBs l) := by rw [List.take_length, encBinds_map, eraseBs_map, List.map_map]; rfl
    rw [hr]
    have h2 : l.length = (encBinds (eraseBs l)).length := by rw [encBinds_map, eraseBs_map, List.length_map, List.length_map]
    refine awp_exit ?_
    refine awp_seq (ag [] rfl ?_)
    refine AWp.sub (Sub.freeze (id := 500) rfl) ?_
    exact awp_ret (rtT (hc := hs_all rfl rfl h2 rfl))
theorem vsum_le (a : Alt) : a.vars.length ≤ asize a := by
  obtain ⟨f, n, s, v, c⟩ := a
  rw [asize]
  have : ∀ l : List Str, l.length ≤ (l.map fun v => 1 + v.length).sum := by
    intro l
    induction l with
    | nil => simp
    | cons x l ih => rw [List.map_cons, List.sum_cons, List.length_cons]; omega
  have := this v
  show v.length ≤ _
  omega
theorem c_perase_step (c : Core) (hc : csize c ≤ 1000000) (htk : tkR c = true) (ih : ∀ x, csize x < csize c → tkR x = true → PeSpec x) : PeSpec c := by
  refine impC (n := 68) tok Tryz.func6 rfl rfl rfl ?_
  refine awp_seq (ag [] rfl ?_)
  refine awp_seq (awp_block ?_)
  refine awp_loop (fun x : Core => mk [(1, .one (.vp 1 0)), (2, .one (.vp 2 0))] [(1, .var 30 (cellsC x)), (2, .var 30 zCells)]) (fun x => eraseR x = eraseR c ∧ csize x ≤ csize c ∧ tkR x = true) csize c ⟨rfl, Nat.le_refl _, htk⟩ sl ?_
  rintro ⟨f, n, s, t, ks, bs, al⟩ ⟨he, hsz, htx⟩
  simp only [tkR, Bool.and_eq_true] at htx
  obtain ⟨t1, t2, t3, t4⟩ := htx
  obtain ⟨ihk, ihb, iha, hkl, hbl, hal⟩ := @size_in f n s t ks bs al
  refine awp_seq (awp_seq (agF 4 [] rfl rfl rfl ?_))
  refine awp_cond rfl (fun hb => ?_) (fun hb => ?_)
  · have h67 : f = 6 ∨ f = 7 := by
      by_cases h6 : f = 6 ∨ f = 7
      · exact h6
      · exfalso
        have : ¬ f = 6 ∧ ¬ f = 7 := by omega
        simp [Core.form, this.1, this.2] at hb
    rw [if_pos h67] at t1
    cases ks with
    | nil => simp at t1
    | cons k0 ks =>
      have hr : eraseR (.mk f n s t (k0 :: ks) bs al) = eraseR k0 := by
        rw [eraseR, if_pos ⟨h67, by simp⟩, eraseCs]
        rfl
      rw [hr] at he
      have hk := ihk k0 (by simp)
      refine awp_skip ?_
      refine awp_block (ag [(2, .row 0 (encCore k0))] rfl ?_)
      exact ⟨k0, ⟨he, by omega, tkCs_mem t2 k0 (by simp)⟩, hk, sl⟩
  · have hcond : ¬ (f = 6 ∨ f = 7) := by
      rintro (rfl | rfl) <;> simp [Core.form] at hb
    have hB := c_pebinds bs (by omega) fun b hb => ih _ (by have := ihb b hb; omega) (tkBs_mem t3 b hb)
    rw [eraseR, if_neg (fun h => hcond h.1)] at he
    refine awp_exit ?_
    rw [← he]
    refine awp_seq (ag [(8, .pc (.one (.c (.sl 15 (encBinds (eraseBs bs))))))] rfl ?_)
    refine awp_seq (awp_seq (ag [] rfl ?_))
    refine AWp.sub (Sub.ownCell (x := 3) (k := 7) (id := 500) 30 10 rfl rfl rfl) ?_
    have hkE : (encCores ks).length = ks.length := by rw [encCores_map, List.length_map]
    refine awp_block ?_
    refine awp_loop (fun i : Nat => mk [(1, .one (.vp 1 0)), (2, .one (.vp 2 0)), (3, .one (.vp 3 0)), (31, .one (.c (.sl 10 (encCores ks)))), (32, I .i64 ((encCores ks).length : Int)), (33, I .i64 i)] [(1, .var 30 (cellsC (.mk f n s t ks bs al))), (2, .var 30 zCells), (3, .var 30 [.c (.int .i64 f), .c (.int .i64 n), .c (.str s), .c (.int .i64 0), .c (.int .i64 0), .c (.str []), .c .nl, .hs 500 0 i i, .c (.sl 15 (encBinds (eraseBs bs))), .c .nl]), (500, .arr 30 10 ((ks.take i).map fun x => encCore (eraseR x)) 0)]) (fun i => i ≤ ks.length) (fun i => ks.length - i) 0 (Nat.zero_le _) sl ?_
    intro i hi
    refine awp_seq (ag [] rfl ?_)
    refine awp_seq (awp_cond rfl (fun hb => ?_) (fun hb => ?_))
    · have hlt : i < ks.length := ltD hb hkE
      obtain ⟨k, hki⟩ := get_of_lt hlt
      have hki' := encCores_at hki
      have hm := List.mem_of_getElem? hki
      have he := ih k (by have := ihk k hm; omega) (tkCs_mem t2 k hm)
      have hrows := take_map1 (fun x => encCore (eraseR x)) hki
      refine awp_skip ?_
      refine awp_seq (awp_block ?_)
      refine awp_seq (ag [(0, .row i (encCore k))] rfl ?_)
      refine ag [(3, .pc (.pa (encCore (eraseR k))))] rfl ?_
      refine ag [] rfl ?_
      exact ⟨i + 1, hlt, by dsimp only; omega, sl⟩
    · have hge : i = ks.length := geD hb hkE hi
      subst hge
      have hKs : (ks.take ks.length).map (fun x => encCore (eraseR x)) = encCores (eraseCs ks) := by rw [List.take_length, encCores_map, eraseCs_map, List.map_map]; rfl
      rw [hKs]
      refine awp_exit ?_
      refine AWp.sub (Sub.freeze (id := 500) rfl) ?_
      refine awp_seq (awp_seq (ag [] rfl ?_))
      refine AWp.sub (Sub.ownCell (x := 3) (k := 9) (id := 501) 52 14 rfl rfl rfl) ?_
      have hkA : (encAlts al).length = al.length := by rw [encAlts_map, List.length_map]
      refine awp_block ?_
      refine awp_loop (fun i : Nat => mk [(2, .one (.vp 2 0)), (3, .one (.vp 3 0)), (46, .one (.c (.sl 14 (encAlts al)))), (47, I .i64 ((encAlts al).length : Int)), (48, I .i64 i)] [(2, .var 30 zCells), (3, .var 30 [.c (.int .i64 f), .c (.int .i64 n), .c (.str s), .c (.int .i64 0), .c (.int .i64 0), .c (.str []), .c .nl, .hs 500 0 ks.length ks.length, .c (.sl 15 (encBinds (eraseBs bs))), .hs 501 0 i i]), (500, .arr 30 10 (encCores (eraseCs ks)) 2), (501, .arr 52 14 ((al.take i).map fun x => encAlt (eraseA x)) 0)]) (fun i => i ≤ al.length) (fun i => al.length - i) 0 (Nat.zero_le _) sl ?_
      intro j hj
      refine awp_seq (ag [] rfl ?_)
      refine awp_seq (awp_cond rfl (fun hb => ?_) (fun hb => ?_))
      · have hlt : j < al.length := ltD hb hkA
        obtain ⟨a, hai⟩ := get_of_lt hlt
        have hai' := encAlts_at hai
        have hm := List.mem_of_getElem? hai
        have he := ih a.body (by have := iha a hm; omega) (tkAs_mem t4 a hm)
        have hrows := take_map1 (fun x => encAlt (eraseA x)) hai
        have hav := asizes_mem hm
        have hvl := vsum_le a
        obtain ⟨f', n', s', v', c'⟩ := a
        have he : PeSpec c' := he
        have hcl : ImpC Tryz.prog 20 [.one (.c (.sl 1 (v'.map encS)))] [] (.one (.c (.sl 1 (v'.map encS)))) [] := ImpC.plain (c_clone_string (v'.map encS) (by rw [List.length_map]; rw [csize] at hsz; have : v'.length ≤ asize (.mk f' n' s' v' c') := hvl; omega)) rfl
        refine awp_skip ?_
        refine awp_seq (awp_block ?_)
        refine awp_seq (ag [(0, .row j (encAlt (.mk f' n' s' v' c')))] rfl ?_)
        refine awp_seq (ag [(2, .pc (.one (.c (.sl 1 (v'.map encS))))), (5, .pc (.pa (encCore (eraseR c'))))] rfl ?_)
        refine ag [] rfl ?_
        refine ag [] rfl ?_
        exact ⟨j + 1, hlt, by dsimp only; omega, sl⟩
      · have hge := geD hb hkA hj
        subst hge
        have hAs : (al.take al.length).map (fun x => encAlt (eraseA x)) = encAlts (eraseAs al) := by rw [List.take_length, encAlts_map, eraseAs_map, List.map_map]; rfl
        rw [hAs]
        refine awp_exit ?_
        refine awp_seq (ag [] rfl ?_)
        refine AWp.sub (Sub.freeze (id := 501) rfl) ?_
        have h1 : ks.length = (encCores (eraseCs ks)).length := by rw [encCores_map, eraseCs_map, List.map_map, List.length_map]
        have h2 : al.length = (encAlts (eraseAs al)).length := by rw [encAlts_map, eraseAs_map, List.map_map, List.length_map]
        exact awp_ret (rtC trw)
theorem c_perase : ∀ (n : Nat) (c : Core), csize c ≤ n → csize c ≤ 1000000 → tkR c = true → PeSpec c
  | 0, c, h, _, _ => by have := csize_pos c; omega
  | n + 1, c, h, hm, ht => c_perase_step c hm ht fun x hx htx => c_perase n x (by omega) (by omega) htx
end Go.Proofs.YtnookidjdjhfhaaGreatDoor

/- CORE WITHOUT TYPES held against itself (fugueref18.Equal): the walk. -/
namespace Go.Proofs.YtnookidjdjhfhaaGreatDoor
open Go Go.AM
set_option maxRecDepth 20000

theorem c_teq0 : ImpC Tryz.prog 22 [.pa (encTy zTy), .pa (encTy zTy)] [] (B true) [] := by
  refine impC (n := 55) tok Tryz.func22 rfl rfl rfl ?_
  refine awp_seq (ag [] rfl ?_)
  refine awp_seq (awp_seq (ag [] rfl ?_))
  refine awp_cond rfl (fun hb => by cases hb) (fun _ => ?_)
  refine awp_skip ?_
  refine awp_seq (awp_seq (ag [] rfl ?_))
  refine awp_block ?_
  refine awp_loop (fun _ : Unit => mk [(2, .one (.vp 2 0)), (3, .one (.vp 3 0)), (5, I .i64 0)] [(2, .var 25 ((encTy zTy).map .c)), (3, .var 25 ((encTy zTy).map .c))]) (fun _ => True) (fun _ => 0) () trivial sl ?_
  intro _ _
  refine awp_seq (awp_seq (ag [] rfl ?_))
  refine awp_cond rfl (fun hb => by cases hb) (fun _ => ?_)
  refine awp_exit ?_
  refine awp_seq (ag [] rfl ?_)
  exact awp_ret (rtT (hc := .refl))

def EqSpec (c : Core) : Prop := z0R c = true → csize c ≤ 4000000 → ImpC Tryz.prog 9 [.pa (encCore c), .pa (encCore c)] [] (B true) []
theorem c_eq18_step (c : Core) (ih : ∀ x, csize x < csize c → EqSpec x) : EqSpec c := by
  intro hz hsz
  obtain ⟨f, n, s, t, ks, bs, al⟩ := c
  obtain ⟨ihk, ihb, iha, hkl, hbl, hal⟩ := @size_in f n s t ks bs al
  simp only [z0R, Bool.and_eq_true] at hz
  obtain ⟨ht, hzk, hzb, hza⟩ := hz
  have ht := tz_eq ht
  subst ht
  have hte := c_teq0
  have hkB : (encBinds bs).length = bs.length := by rw [encBinds_map, List.length_map]
  have hkK : (encCores ks).length = ks.length := by rw [encCores_map, List.length_map]
  have hkA : (encAlts al).length = al.length := by rw [encAlts_map, List.length_map]
  refine impC (n := 184) tok Tryz.func9 rfl rfl rfl ?_
  refine awp_seq (ag [] rfl ?_)
  refine awp_seq (awp_seq (ag [(5, .bv false), (11, .bv false), (12, .bv false), (18, .bv false), (19, .bv false), (27, .bv false), (28, .bv false), (36, .bv false), (37, .bv false), (45, .bv false)] rfl ?_))
  refine awp_cond rfl (fun hb => by simp at hb) (fun _ => ?_)
  refine awp_skip ?_
  refine awp_seq (ag [(4, .pc (B true))] rfl ?_)
  refine awp_seq (awp_seq (ag [] rfl ?_))
  refine awp_block ?_
  refine awp_loop (fun i : Nat => mk [(2, .one (.vp 2 0)), (3, .one (.vp 3 0)), (5, B true), (6, I .i64 i)] [(2, .var 30 (cellsC (.mk f n s zTy ks bs al))), (3, .var 30 (cellsC (.mk f n s zTy ks bs al)))]) (fun i => i ≤ ks.length) (fun i => ks.length - i) 0 (Nat.zero_le _) sl ?_
  intro i hi
  refine awp_seq (awp_seq (agF 6 [] rfl rfl rfl ?_))
  refine awp_cond rfl (fun hb => ?_) (fun hb => ?_)
  · have hlt : i < ks.length := by
      have h1 : i < (encKids (.mk f n s zTy ks bs al)).length := by simpa using hb
      rw [encKids] at h1
      omega
    obtain ⟨k, hki⟩ := get_of_lt hlt
    have hki' := encCores_at hki
    have hm := List.mem_of_getElem? hki
    have hc := ih k (ihk k hm) (z0Cs_mem hzk k hm) (by have := ihk k hm; omega)
    refine awp_skip ?_
    refine awp_seq (awp_block ?_)
    refine ag [(3, .row i (encCore k)), (8, .row i (encCore k)), (10, .pc (B true))] rfl ?_
    refine ag [] rfl ?_
    exact ⟨i + 1, hlt, by dsimp only; omega, sl⟩
  refine awp_exit ?_
  refine awp_seq (awp_seq (ag [] rfl ?_))
  refine awp_block ?_
  refine awp_loop (fun i : Nat => mk [(2, .one (.vp 2 0)), (3, .one (.vp 3 0)), (5, B true), (7, I .i64 i)] [(2, .var 30 (cellsC (.mk f n s zTy ks bs al))), (3, .var 30 (cellsC (.mk f n s zTy ks bs al)))]) (fun i => i ≤ bs.length) (fun i => bs.length - i) 0 (Nat.zero_le _) sl ?_
  intro i hi
  refine awp_seq (awp_seq (agF 6 [] rfl rfl rfl ?_))
  refine awp_cond rfl (fun hb => ?_) (fun hb => ?_)
  · have hlt : i < bs.length := by
      have h1 : i < (encLets (.mk f n s zTy ks bs al)).length := by simpa using hb
      rw [encLets] at h1
      omega
    obtain ⟨b, hbi⟩ := get_of_lt hlt
    have hbi' := encBinds_at hbi
    have hm := List.mem_of_getElem? hbi
    obtain ⟨hty, hzb1⟩ := z0Bs_mem hzb b hm
    have hc := ih b.body (ihb b hm) hzb1 (by have := ihb b hm; omega)
    obtain ⟨s', t', c'⟩ := b
    have hty : t' = zTy := hty
    subst hty
    refine awp_skip ?_
    refine awp_seq (awp_block ?_)
    refine awp_seq (ag [(3, .row i (encBind (.mk s' zTy c'))), (9, .row i (encBind (.mk s' zTy c'))), (12, .pc (B true))] rfl ?_)
    refine awp_seq (awp_seq (ag [] rfl ?_))
    refine awp_cond rfl (fun _ => ?_) (fun hb => by cases hb)
    refine ag [(3, .row i (encBind (.mk s' zTy c'))), (9, .row i (encBind (.mk s' zTy c'))), (12, .pc (B true))] rfl ?_
    refine awp_seq (ag [(3, .row i (encBind (.mk s' zTy c'))), (9, .row i (encBind (.mk s' zTy c')))] rfl ?_)
    refine awp_cond rfl (fun hb => by simp at hb) (fun _ => ?_)
    refine awp_skip ?_
    refine ag [] rfl ?_
    exact ⟨i + 1, hlt, by dsimp only; omega, sl⟩
  refine awp_exit ?_
  refine awp_seq (awp_seq (ag [] rfl ?_))
  refine awp_block ?_
  refine awp_loop (fun i : Nat => mk [(2, .one (.vp 2 0)), (3, .one (.vp 3 0)), (5, B true), (8, I .i64 i)] [(2, .var 30 (cellsC (.mk f n s zTy ks bs al))), (3, .var 30 (cellsC (.mk f n s zTy ks bs al)))]) (fun i => i ≤ al.length) (fun i => al.length - i) 0 (Nat.zero_le _) sl ?_
  intro i hi
  refine awp_seq (awp_seq (agF 6 [] rfl rfl rfl ?_))
  refine awp_cond rfl (fun hb => ?_) (fun hb => ?_)
  · have hlt : i < al.length := by
      have h1 : i < (encCases (.mk f n s zTy ks bs al)).length := by simpa using hb
      rw [encCases] at h1
      omega
    obtain ⟨a, hai⟩ := get_of_lt hlt
    have hai' := encAlts_at hai
    have hm := List.mem_of_getElem? hai
    have hc := ih a.body (iha a hm) (z0As_mem hza a hm) (by have := iha a hm; omega)
    have hav := asizes_mem hm
    have hvl := vsum_le a
    have hst := c_sameTexts a.vars a.vars (by rw [csize] at hsz; omega)
    rw [decide_eq_true rfl] at hst
    obtain ⟨f', n', s', v', c'⟩ := a
    refine awp_skip ?_
    refine awp_seq (awp_block ?_)
    refine awp_seq (ag [(3, .row i (encAlt (.mk f' n' s' v' c')))] rfl ?_)
    refine awp_seq (ag [(3, .row i (encAlt (.mk f' n' s' v' c')))] rfl ?_)
    refine awp_seq (ag [(4, .pc (B true))] rfl ?_)
    refine awp_seq (awp_seq (ag [] rfl ?_))
    refine awp_cond rfl (fun _ => ?_) (fun hb => by cases hb)
    refine ag [(4, .pc (B true))] rfl ?_
    refine awp_seq (ag [(5, .bv false), (11, .bv false), (12, .bv false), (18, .bv false)] rfl ?_)
    refine awp_cond rfl (fun hb => by simp at hb) (fun _ => ?_)
    refine awp_skip ?_
    refine ag [] rfl ?_
    exact ⟨i + 1, hlt, by dsimp only; omega, sl⟩
  refine awp_exit ?_
  refine awp_seq (ag [] rfl ?_)
  exact awp_ret rtT
theorem c_eq18 : ∀ (n : Nat) (c : Core), csize c ≤ n → EqSpec c
  | 0, c, h => by have := csize_pos c; omega
  | n + 1, c, h => c_eq18_step c fun x hx => c_eq18 n x (by omega)
end Go.Proofs.YtnookidjdjhfhaaGreatDoor

/- IS CORE ERASED (the program's Erased, and the reference's): the walks. -/
namespace Go.Proofs.YtnookidjdjhfhaaGreatDoor
open Go Go.AM
set_option maxRecDepth 20000

mutual
/-- Core without types. -/
def erdR : Core → Bool
  | .mk f _ _ t ks bs al => (!decide (f = 6) && (!decide (f = 7) && decide (t.form = 0))) && (erdCs ks && (erdBs bs && erdAs al))
def erdCs : List Core → Bool
  | [] => true
  | c :: l => erdR c && erdCs l
def erdBs : List Bind → Bool
  | [] => true
  | .mk _ t c :: l => (erdR c && decide (t.form = 0)) && erdBs l
def erdAs : List Alt → Bool
  | [] => true
  | .mk _ _ _ _ c :: l => erdR c && erdAs l
end
def erdBo : List Bind → Bool
  | [] => true
  | .mk _ _ c :: l => erdR c && erdBo l
theorem erdBs_any : ∀ l : List Bind, erdBs l = (!l.any tyd && erdBo l)
  | [] => by simp [erdBs, erdBo]
  | .mk s t c :: l => by
    rw [erdBs, erdBo, erdBs_any l, List.any_cons, show tyd (.mk s t c) = !decide (t.form = 0) from rfl]
    cases erdR c <;> cases decide (t.form = 0) <;> cases l.any tyd <;> cases erdBo l <;> rfl
def tpd : Core → Bool
  | .mk f _ _ t _ bs _ => decide (f = 6) || (decide (f = 7) || (!decide (t.form = 0) || bs.any tyd))
theorem erd_tpd {f n : Int} {s : Str} {t : Ty} {ks : List Core} {bs : List Bind} {al : List Alt} : erdR (.mk f n s t ks bs al) = (!tpd (.mk f n s t ks bs al) && (erdCs ks && (erdBo bs && erdAs al))) := by
  rw [erdR, tpd, erdBs_any]
  cases decide (f = 6) <;> cases decide (f = 7) <;> cases decide (t.form = 0) <;> cases bs.any tyd <;> cases erdCs ks <;> simp
theorem c_tpd (c : Core) (hs : csize c ≤ 1000000) : ImpC Tryz.prog 25 [.pa (encCore c)] [] (B (tpd c)) [] := by
  obtain ⟨f, n, s, t, ks, bs, al⟩ := c
  obtain ⟨_, _, _, _, hbl, _⟩ := @size_in f n s t ks bs al
  have hcb : ImpC Tryz.prog 51 [.one (.c (.sl 15 (encBinds bs))), .one (.clo 52 [])] [] (B (bs.any tyd)) [] := by rw [encBinds_map]; exact c_contains_binds bs (by omega)
  refine impC (n := 22) tok Tryz.func25 rfl rfl rfl ?_
  refine awp_seq (ag [] rfl ?_)
  by_cases h6 : f = 6
  · subst h6
    refine awp_seq (ag [(3, .bv true), (8, .bv true), (14, .bv true)] rfl ?_)
    rw [show tpd (.mk 6 n s t ks bs al) = true from rfl]
    exact awp_ret rtT
  have e6 : decide (f = 6) = false := decide_eq_false h6
  by_cases h7 : f = 7
  · subst h7
    refine awp_seq (ag [(3, .bv false), (8, .bv true), (14, .bv true)] rfl ?_)
    rw [show tpd (.mk 7 n s t ks bs al) = true from rfl]
    exact awp_ret rtT
  have e7 : decide (f = 7) = false := decide_eq_false h7
  by_cases h0 : t.form = 0
  · have e0 : decide (t.form = 0) = true := decide_eq_true h0
    have e0' : (!decide (t.form = 0)) = false := by rw [e0]; rfl
    rw [show tpd (.mk f n s t ks bs al) = bs.any tyd by rw [tpd, e6, e7, e0]; rfl]
    refine awp_seq (awp_rg mixed ?_)
    refine ak 17 [(3, .bv false), (7, .bv false), (8, .bv false), (13, .bv false), (14, .bv false)] rfl ?_
    refine kcG hcb ?_
    refine ak 2 [(18, .bv false)] rfl ?_
    refine az ?_
    exact awp_ret rtT
  · have e0 : decide (t.form = 0) = false := decide_eq_false h0
    have e0' : (!decide (t.form = 0)) = true := by rw [e0]; rfl
    rw [show tpd (.mk f n s t ks bs al) = true by rw [tpd, e6, e7, e0]; rfl]
    refine awp_seq (ag [(3, .bv false), (7, .bv false), (8, .bv false), (13, .bv false), (14, .bv true), (18, .bv true)] rfl ?_)
    exact awp_ret rtT
def ErSpec (c : Core) : Prop := csize c ≤ 1000000 → ImpC Tryz.prog 11 [.pa (encCore c)] [] (B (erdR c)) []
theorem erdCs_drop {l : List Core} {i : Nat} {x : Core} (h : l[i]? = some x) : erdCs (l.drop i) = (erdR x && erdCs (l.drop (i + 1))) := by
  rw [List.drop_eq_getElem_cons (List.getElem?_eq_some_iff.1 h).1, (List.getElem?_eq_some_iff.1 h).2, erdCs]
theorem erdBo_drop {l : List Bind} {i : Nat} {x : Bind} (h : l[i]? = some x) : erdBo (l.drop i) = (erdR x.body && erdBo (l.drop (i + 1))) := by
  rw [List.drop_eq_getElem_cons (List.getElem?_eq_some_iff.1 h).1, (List.getElem?_eq_some_iff.1 h).2]
  obtain ⟨s, t, c⟩ := x
  rw [erdBo]; rfl
theorem erdBs_drop {l : List Bind} {i : Nat} {x : Bind} (h : l[i]? = some x) : erdBs (l.drop i) = ((erdR x.body && decide (x.ty.form = 0)) && erdBs (l.drop (i + 1))) := by
  rw [List.drop_eq_getElem_cons (List.getElem?_eq_some_iff.1 h).1, (List.getElem?_eq_some_iff.1 h).2]
  obtain ⟨s, t, c⟩ := x
  rw [erdBs]; rfl
theorem erdAs_drop {l : List Alt} {i : Nat} {x : Alt} (h : l[i]? = some x) : erdAs (l.drop i) = (erdR x.body && erdAs (l.drop (i + 1))) := by
  rw [List.drop_eq_getElem_cons (List.getElem?_eq_some_iff.1 h).1, (List.getElem?_eq_some_iff.1 h).2]
  obtain ⟨f, n, s, v, c⟩ := x
  rw [erdAs]; rfl
theorem c_perd_step (c : Core) (ih : ∀ x, csize x < csize c → ErSpec x) : ErSpec c := by
  intro hsz
  have htp := c_tpd c hsz
  obtain ⟨f, n, s, t, ks, bs, al⟩ := c
  obtain ⟨ihk, ihb, iha, hkl, hbl, hal⟩ := @size_in f n s t ks bs al
  have hkB : (encBinds bs).length = bs.length := by rw [encBinds_map, List.length_map]
  have hkK : (encCores ks).length = ks.length := by rw [encCores_map, List.length_map]
  have hkA : (encAlts al).length = al.length := by rw [encAlts_map, List.length_map]
  have he := @erd_tpd f n s t ks bs al
  generalize tpd (.mk f n s t ks bs al) = tp at htp he
  refine impC (n := 46) tok Tryz.func11 rfl rfl rfl ?_
  refine awp_seq (ag [] rfl ?_)
  refine awp_seq (awp_seq (ag [(1, .pc (B tp))] rfl ?_))
  refine awp_cond rfl (fun hb => ?_) (fun hb => ?_)
  · have hb : tp = true := hb
    rw [hb] at he
    rw [show erdR (.mk f n s t ks bs al) = false from he]
    refine awp_seq (ag [] rfl ?_)
    exact awp_ret rtT
  have hb : tp = false := hb
  rw [hb, Bool.not_false, Bool.true_and] at he
  generalize erdR (.mk f n s t ks bs al) = res at he ⊢
  refine awp_skip ?_
  refine awp_seq (awp_seq (ag [] rfl ?_))
  refine awp_block ?_
  refine awp_loop (fun i : Nat => mk [(1, .one (.vp 1 0)), (12, .one (.c (.sl 10 (encCores ks)))), (13, I .i64 ((encCores ks).length : Int)), (14, I .i64 i)] [(1, .var 30 (cellsC (.mk f n s t ks bs al)))]) (fun i => i ≤ ks.length ∧ res = (erdCs (ks.drop i) && (erdBo bs && erdAs al))) (fun i => ks.length - i) 0 ⟨Nat.zero_le _, he⟩ sl ?_
  rintro i ⟨hi, hr⟩
  refine awp_seq (ag [] rfl ?_)
  refine awp_seq (awp_cond rfl (fun hb => ?_) (fun hb => ?_))
  · have hlt := ltD hb hkK
    obtain ⟨k, hki⟩ := get_of_lt hlt
    have hki' := encCores_at hki
    have hm := List.mem_of_getElem? hki
    have hc := ih k (ihk k hm) (by have := ihk k hm; omega)
    rw [erdCs_drop hki] at hr
    refine awp_skip ?_
    refine awp_seq (awp_block (awp_seq (ag [(0, .row i (encCore k))] rfl ?_)))
    refine awp_seq (ag [(1, .pc (B (erdR k)))] rfl ?_)
    refine awp_cond rfl (fun hb => ?_) (fun hb => ?_)
    · have hb : erdR k = false := by simpa using hb
      rw [hb] at hr
      rw [show res = false from hr]
      refine awp_seq (ag [] rfl ?_)
      exact awp_ret rtT
    · have hb : erdR k = true := by simpa using hb
      rw [hb, Bool.true_and] at hr
      refine awp_skip ?_
      refine ag [] rfl ?_
      exact ⟨i + 1, ⟨hlt, hr⟩, by dsimp only; omega, sl⟩
  have hge := geD hb hkK hi
  subst hge
  rw [List.drop_length, erdCs, Bool.true_and] at hr
  refine awp_exit ?_
  refine awp_seq (awp_seq (ag [] rfl ?_))
  refine awp_block ?_
  refine awp_loop (fun i : Nat => mk [(1, .one (.vp 1 0)), (23, .one (.c (.sl 15 (encBinds bs)))), (24, I .i64 ((encBinds bs).length : Int)), (25, I .i64 i)] [(1, .var 30 (cellsC (.mk f n s t ks bs al)))]) (fun i => i ≤ bs.length ∧ res = (erdBo (bs.drop i) && erdAs al)) (fun i => bs.length - i) 0 ⟨Nat.zero_le _, hr⟩ sl ?_
  rintro i ⟨hi, hr⟩
  refine awp_seq (ag [] rfl ?_)
  refine awp_seq (awp_cond rfl (fun hb => ?_) (fun hb => ?_))
  · have hlt := ltD hb hkB
    obtain ⟨b, hbi⟩ := get_of_lt hlt
    have hbi' := encBinds_at hbi
    have hm := List.mem_of_getElem? hbi
    have hc := ih b.body (ihb b hm) (by have := ihb b hm; omega)
    rw [erdBo_drop hbi] at hr
    obtain ⟨s', t', c'⟩ := b
    have hc : ImpC Tryz.prog 11 [.pa (encCore c')] [] (B (erdR c')) [] := hc
    refine awp_skip ?_
    refine awp_seq (awp_block (awp_seq (ag [(0, .row i (encBind (.mk s' t' c')))] rfl ?_)))
    refine awp_seq (ag [(2, .pc (B (erdR c')))] rfl ?_)
    refine awp_cond rfl (fun hb => ?_) (fun hb => ?_)
    · have hb : erdR c' = false := by simpa using hb
      rw [show erdR (Bind.mk s' t' c').body = false from hb] at hr
      rw [show res = false from hr]
      refine awp_seq (ag [] rfl ?_)
      exact awp_ret rtT
    · have hb : erdR c' = true := by simpa using hb
      rw [show erdR (Bind.mk s' t' c').body = true from hb, Bool.true_and] at hr
      refine awp_skip ?_
      refine ag [] rfl ?_
      exact ⟨i + 1, ⟨hlt, hr⟩, by dsimp only; omega, sl⟩
  have hge := geD hb hkB hi
  subst hge
  rw [List.drop_length, erdBo, Bool.true_and] at hr
  refine awp_exit ?_
  refine awp_seq (awp_seq (ag [] rfl ?_))
  refine awp_block ?_
  refine awp_loop (fun i : Nat => mk [(35, .one (.c (.sl 14 (encAlts al)))), (36, I .i64 ((encAlts al).length : Int)), (37, I .i64 i)] []) (fun i => i ≤ al.length ∧ res = erdAs (al.drop i)) (fun i => al.length - i) 0 ⟨Nat.zero_le _, hr⟩ sl ?_
  rintro i ⟨hi, hr⟩
  refine awp_seq (ag [] rfl ?_)
  refine awp_seq (awp_cond rfl (fun hb => ?_) (fun hb => ?_))
  · have hlt := ltD hb hkA
    obtain ⟨a, hai⟩ := get_of_lt hlt
    have hai' := encAlts_at hai
    have hm := List.mem_of_getElem? hai
    have hc := ih a.body (iha a hm) (by have := iha a hm; omega)
    rw [erdAs_drop hai] at hr
    obtain ⟨f', n', s', v', c'⟩ := a
    have hc : ImpC Tryz.prog 11 [.pa (encCore c')] [] (B (erdR c')) [] := hc
    refine awp_skip ?_
    refine awp_seq (awp_block (awp_seq (ag [(0, .row i (encAlt (.mk f' n' s' v' c')))] rfl ?_)))
    refine awp_seq (ag [(2, .pc (B (erdR c')))] rfl ?_)
    refine awp_cond rfl (fun hb => ?_) (fun hb => ?_)
    · have hb : erdR c' = false := by simpa using hb
      rw [show erdR (Alt.mk f' n' s' v' c').body = false from hb] at hr
      rw [show res = false from hr]
      refine awp_seq (ag [] rfl ?_)
      exact awp_ret rtT
    · have hb : erdR c' = true := by simpa using hb
      rw [show erdR (Alt.mk f' n' s' v' c').body = true from hb, Bool.true_and] at hr
      refine awp_skip ?_
      refine ag [] rfl ?_
      exact ⟨i + 1, ⟨hlt, hr⟩, by dsimp only; omega, sl⟩
  have hge := geD hb hkA hi
  subst hge
  rw [List.drop_length, erdAs] at hr
  rw [hr]
  refine awp_exit ?_
  refine awp_seq (ag [] rfl ?_)
  exact awp_ret rtT
theorem c_perd : ∀ (n : Nat) (c : Core), csize c ≤ n → ErSpec c
  | 0, c, h => by have := csize_pos c; omega
  | n + 1, c, h => c_perd_step c fun x hx => c_perd n x (by omega)
end Go.Proofs.YtnookidjdjhfhaaGreatDoor

/- IS CORE ERASED (the reference's Erased): the walk. -/
namespace Go.Proofs.YtnookidjdjhfhaaGreatDoor
open Go Go.AM
set_option maxRecDepth 20000

def RrSpec (c : Core) : Prop := csize c ≤ 1000000 → ImpC Tryz.prog 12 [.pa (encCore c)] [] (B (erdR c)) []
theorem c_rerd_step (c : Core) (ih : ∀ x, csize x < csize c → RrSpec x) : RrSpec c := by
  intro hsz
  obtain ⟨f, n, s, t, ks, bs, al⟩ := c
  obtain ⟨ihk, ihb, iha, hkl, hbl, hal⟩ := @size_in f n s t ks bs al
  have hkB : (encBinds bs).length = bs.length := by rw [encBinds_map, List.length_map]
  have hkK : (encCores ks).length = ks.length := by rw [encCores_map, List.length_map]
  have hkA : (encAlts al).length = al.length := by rw [encAlts_map, List.length_map]
  have he : erdR (.mk f n s t ks bs al) = (!(bif decide (f = 6) then (bif true then true else !decide (t.form = 0)) else (bif decide (f = 7) then true else !decide (t.form = 0))) && (erdCs ks && (erdBs bs && erdAs al))) := by
    rw [erdR]
    cases decide (f = 6) <;> cases decide (f = 7) <;> cases decide (t.form = 0) <;> rfl
  refine impC (n := 80) tok Tryz.func12 rfl rfl rfl ?_
  refine awp_seq (ag [] rfl ?_)
  refine awp_seq (awp_seq (agF 4 [] rfl rfl rfl ?_))
  refine awp_cond rfl (fun hb => ?_) (fun hb => ?_)
  · have hb : (bif decide (f = 6) then (bif true then true else !decide (t.form = 0)) else (bif decide (f = 7) then true else !decide (t.form = 0))) = true := hb
    rw [hb] at he
    rw [show erdR (.mk f n s t ks bs al) = false from he]
    refine awp_seq (ag [] rfl ?_)
    exact awp_ret rtT
  have hb : (bif decide (f = 6) then (bif true then true else !decide (t.form = 0)) else (bif decide (f = 7) then true else !decide (t.form = 0))) = false := hb
  rw [hb, Bool.not_false, Bool.true_and] at he
  generalize erdR (.mk f n s t ks bs al) = res at he ⊢
  refine awp_skip ?_
  refine awp_seq (awp_seq (ag [] rfl ?_))
  refine awp_block ?_
  refine awp_loop (fun i : Nat => mk [(1, .one (.vp 1 0)), (3, I .i64 i)] [(1, .var 30 (cellsC (.mk f n s t ks bs al)))]) (fun i => i ≤ ks.length ∧ res = (erdCs (ks.drop i) && (erdBs bs && erdAs al))) (fun i => ks.length - i) 0 ⟨Nat.zero_le _, he⟩ sl ?_
  rintro i ⟨hi, hr⟩
  refine awp_seq (awp_seq (ag [] rfl ?_))
  refine awp_cond rfl (fun hb => ?_) (fun hb => ?_)
  · have hlt := ltD hb hkK
    obtain ⟨k, hki⟩ := get_of_lt hlt
    have hki' := encCores_at hki
    have hm := List.mem_of_getElem? hki
    have hc := ih k (ihk k hm) (by have := ihk k hm; omega)
    rw [erdCs_drop hki] at hr
    refine awp_skip ?_
    refine awp_seq (awp_block (awp_seq (ag [(3, .row i (encCore k)), (5, .pc (B (erdR k)))] rfl ?_)))
    refine awp_seq (ag [] rfl ?_)
    refine awp_cond rfl (fun hb => ?_) (fun hb => ?_)
    · have hb : erdR k = false := by simpa using hb
      rw [hb] at hr
      rw [show res = false from hr]
      refine awp_seq (ag [] rfl ?_)
      exact awp_ret rtT
    · have hb : erdR k = true := by simpa using hb
      rw [hb, Bool.true_and] at hr
      refine awp_skip ?_
      refine ag [] rfl ?_
      exact ⟨i + 1, ⟨hlt, hr⟩, by dsimp only; omega, sl⟩
  have hge := geD hb hkK hi
  subst hge
  rw [List.drop_length, erdCs, Bool.true_and] at hr
  refine awp_exit ?_
  refine awp_seq (awp_seq (ag [] rfl ?_))
  refine awp_block ?_
  refine awp_loop (fun i : Nat => mk [(1, .one (.vp 1 0)), (5, I .i64 i)] [(1, .var 30 (cellsC (.mk f n s t ks bs al)))]) (fun i => i ≤ bs.length ∧ res = (erdBs (bs.drop i) && erdAs al)) (fun i => bs.length - i) 0 ⟨Nat.zero_le _, hr⟩ sl ?_
  rintro i ⟨hi, hr⟩
  refine awp_seq (awp_seq (ag [] rfl ?_))
  refine awp_cond rfl (fun hb => ?_) (fun hb => ?_)
  · have hlt := ltD hb hkB
    obtain ⟨b, hbi⟩ := get_of_lt hlt
    have hbi' := encBinds_at hbi
    have hm := List.mem_of_getElem? hbi
    have hc := ih b.body (ihb b hm) (by have := ihb b hm; omega)
    rw [erdBs_drop hbi] at hr
    obtain ⟨s', t', c'⟩ := b
    have hc : ImpC Tryz.prog 12 [.pa (encCore c')] [] (B (erdR c')) [] := hc
    have hr : res = ((erdR c' && decide (t'.form = 0)) && erdBs (bs.drop (i + 1)) && erdAs al) := hr
    refine awp_skip ?_
    refine awp_seq (awp_block (awp_seq (ag [(3, .row i (encBind (.mk s' t' c'))), (6, .pc (B (erdR c')))] rfl ?_)))
    refine awp_seq (agF 3 [(6, .row i (encBind (.mk s' t' c')))] rfl rfl rfl ?_)
    refine awp_cond rfl (fun hb => ?_) (fun hb => ?_)
    · have hb : (erdR c' && decide (t'.form = 0)) = false := by
        cases h1 : erdR c'
        · rfl
        · rw [h1] at hb
          have hb : (!decide (t'.form = 0)) = true := hb
          rw [Bool.true_and]
          simpa using hb
      rw [hb] at hr
      rw [show res = false from hr]
      refine awp_seq (ag [] rfl ?_)
      exact awp_ret rtT
    · have hb : (erdR c' && decide (t'.form = 0)) = true := by
        cases h1 : erdR c'
        · simp [h1] at hb
        · rw [h1] at hb
          have hb : (!decide (t'.form = 0)) = false := hb
          rw [Bool.true_and]
          simpa using hb
      rw [hb, Bool.true_and] at hr
      refine awp_skip ?_
      refine ag [] rfl ?_
      exact ⟨i + 1, ⟨hlt, hr⟩, by dsimp only; omega, sl⟩
  have hge := geD hb hkB hi
  subst hge
  rw [List.drop_length, erdBs, Bool.true_and] at hr
  refine awp_exit ?_
  refine awp_seq (awp_seq (ag [] rfl ?_))
  refine awp_block ?_
  refine awp_loop (fun i : Nat => mk [(1, .one (.vp 1 0)), (7, I .i64 i)] [(1, .var 30 (cellsC (.mk f n s t ks bs al)))]) (fun i => i ≤ al.length ∧ res = erdAs (al.drop i)) (fun i => al.length - i) 0 ⟨Nat.zero_le _, hr⟩ sl ?_
  rintro i ⟨hi, hr⟩
  refine awp_seq (awp_seq (ag [] rfl ?_))
  refine awp_cond rfl (fun hb => ?_) (fun hb => ?_)
  · have hlt := ltD hb hkA
    obtain ⟨a, hai⟩ := get_of_lt hlt
    have hai' := encAlts_at hai
    have hm := List.mem_of_getElem? hai
    have hc := ih a.body (iha a hm) (by have := iha a hm; omega)
    rw [erdAs_drop hai] at hr
    obtain ⟨f', n', s', v', c'⟩ := a
    have hc : ImpC Tryz.prog 12 [.pa (encCore c')] [] (B (erdR c')) [] := hc
    refine awp_skip ?_
    refine awp_seq (awp_block (awp_seq (ag [(3, .row i (encAlt (.mk f' n' s' v' c'))), (6, .pc (B (erdR c')))] rfl ?_)))
    refine awp_seq (ag [] rfl ?_)
    refine awp_cond rfl (fun hb => ?_) (fun hb => ?_)
    · have hb : erdR c' = false := by simpa using hb
      rw [show erdR (Alt.mk f' n' s' v' c').body = false from hb] at hr
      rw [show res = false from hr]
      refine awp_seq (ag [] rfl ?_)
      exact awp_ret rtT
    · have hb : erdR c' = true := by simpa using hb
      rw [show erdR (Alt.mk f' n' s' v' c').body = true from hb, Bool.true_and] at hr
      refine awp_skip ?_
      refine ag [] rfl ?_
      exact ⟨i + 1, ⟨hlt, hr⟩, by dsimp only; omega, sl⟩
  have hge := geD hb hkA hi
  subst hge
  rw [List.drop_length, erdAs] at hr
  rw [hr]
  refine awp_exit ?_
  refine awp_seq (ag [] rfl ?_)
  exact awp_ret rtT
theorem c_rerd : ∀ (n : Nat) (c : Core), csize c ≤ n → RrSpec c
  | 0, c, h => by have := csize_pos c; omega
  | n + 1, c, h => c_rerd_step c fun x hx => c_rerd n x (by omega)
mutual
/-- What is left without types has none. -/
theorem erase_erd : ∀ c : Core, tkR c = true → erdR (eraseR c) = true
  | .mk f n s t ks bs al, h => by
    simp only [tkR, Bool.and_eq_true] at h
    obtain ⟨h1, h2, h3, h4⟩ := h
    have hk := erase_erds ks h2
    rw [eraseR]
    by_cases h67 : f = 6 ∨ f = 7
    · rw [if_pos h67] at h1
      cases ks with
      | nil => simp at h1
      | cons k ks =>
        rw [if_pos ⟨h67, by simp⟩]
        rw [eraseCs] at hk ⊢
        rw [erdCs, Bool.and_eq_true] at hk
        exact hk.1
    · rw [if_neg (fun h => h67 h.1), erdR, hk, erase_erdb bs h3, erase_erda al h4]
      rw [decide_eq_false (fun e => h67 (.inl e)), decide_eq_false (fun e => h67 (.inr e))]
      rfl
theorem erase_erds : ∀ l : List Core, tkCs l = true → erdCs (eraseCs l) = true
  | [], _ => by rw [eraseCs, erdCs]
  | c :: l, h => by
    rw [tkCs, Bool.and_eq_true] at h
    rw [eraseCs, erdCs, erase_erd c h.1, erase_erds l h.2]; rfl
theorem erase_erdb : ∀ l : List Bind, tkBs l = true → erdBs (eraseBs l) = true
  | [], _ => by rw [eraseBs, erdBs]
  | .mk s t c :: l, h => by
    rw [tkBs, Bool.and_eq_true] at h
    rw [eraseBs, eraseB, erdBs, erase_erd c h.1, erase_erdb l h.2]; rfl
theorem erase_erda : ∀ l : List Alt, tkAs l = true → erdAs (eraseAs l) = true
  | [], _ => by rw [eraseAs, erdAs]
  | .mk f n s v c :: l, h => by
    rw [tkAs, Bool.and_eq_true] at h
    rw [eraseAs, eraseA, erdAs, erase_erd c h.1, erase_erda l h.2]; rfl
end
end Go.Proofs.YtnookidjdjhfhaaGreatDoor

/- A TYPE WITHOUT TAlls, made of numbers (fugueref04.Plain): the walk. -/
namespace Go.Proofs.YtnookidjdjhfhaaGreatDoor
open Go Go.AM
set_option maxRecDepth 20000

def tcnL : List Str := [[73, 110, 116], [66, 111, 111, 108], [76], [80], [70], [45, 62]]
theorem c_tcon (n : Int) (hn : i64 n) : ImpC Tryz.prog 48 [I .i64 n] [] (Go.AM.T (oneOf tcnL n)) [] := by
  refine impC (n := 8) tok Tryz.func48 rfl rfl rfl ?_
  refine awp_seq (ag [] rfl ?_)
  obtain ⟨k, hk⟩ := Int.eq_ofNat_of_zero_le (around_lt n (k := 6) (by omega)).1
  have hx := oneOf_at (l := tcnL) (n := n) (by decide) hk
  have hlt := (around_lt n (k := 6) (by omega)).2
  refine awp_seq (awp_rg mixed ?_)
  refine ak 2 [] rfl ?_
  refine kc (c_around n 6 hn (by omega)) ?_
  refine ak 3 [(3, .row k []), (4, .row k (encS (oneOf tcnL n)))] rfl ?_
  refine az ?_
  refine awp_ret ?_
  exact ⟨.inr rfl, ⟨_, _, .tmp rfl .nil, .cons .refl .nil, rfl⟩, trivial, rfl⟩
/-- A type, made of numbers, so many levels deep yet. -/
def buildR : Nat → List Int → Ty × List Int
  | _, [] => (tInt, [])
  | 0, x :: l =>
    if around x 40 % 5 < 2 then (.mk 2 0 (oneOf tnmL (around x 40 / 10)) [], l)
    else if around x 40 % 5 < 3 then (.mk 1 (1 + around x 40 / 10) [] [], l)
    else (.mk 3 0 (oneOf tcnL (around x 40 / 5)) [], l)
  | d + 1, x :: l =>
    if around x 40 % 10 < 2 then (.mk 2 0 (oneOf tnmL (around x 40 / 10)) [], l)
    else if around x 40 % 10 < 3 then (.mk 1 (1 + around x 40 / 10) [] [], l)
    else if around x 40 % 10 < 5 then (.mk 3 0 (oneOf tcnL (around x 40 / 5)) [], l)
    else if around x 40 % 10 < 8 then (tfun (buildR d l).1 (buildR d (buildR d l).2).1, (buildR d (buildR d l).2).2)
    else (tapp (buildR d l).1 (buildR d (buildR d l).2).1, (buildR d (buildR d l).2).2)
theorem buildR_suf : ∀ (d : Nat) (l : List Int), (buildR d l).2 <:+ l
  | 0, [] => by simp [buildR]
  | _ + 1, [] => by simp [buildR]
  | 0, x :: l => by
    have h : l <:+ x :: l := ⟨[x], rfl⟩
    rw [buildR]
    split
    · exact h
    · split <;> exact h
  | d + 1, x :: l => by
    have h : l <:+ x :: l := ⟨[x], rfl⟩
    have h2 := ((buildR_suf d (buildR d l).2).trans (buildR_suf d l)).trans h
    rw [buildR]
    split
    · exact h
    · split
      · exact h
      · split
        · exact h
        · split <;> exact h2
def intsV (l : List Int) : V := .one (.c (.sl 1 (l.map encI)))
theorem c_build : ∀ (d : Nat) (l : List Int) (dp : Int), Nums l → Fits l → dp + d = 5 → 0 ≤ dp → ImpC Tryz.prog 21 [intsV l, I .i64 dp, B false] [] (.tup [tyV (buildR d l).1, intsV (buildR d l).2]) [] := by
  intro d
  induction d with
  | zero =>
    intro l dp hl hf hd h0
    refine impC (n := 90) tok Tryz.func21 rfl rfl rfl ?_
    refine awp_seq (ag [] rfl ?_)
    refine awp_seq (awp_seq (ag [] rfl ?_))
    cases l with
    | nil =>
      refine awp_cond rfl (fun _ => ?_) (fun hb => by simp at hb)
      refine awp_seq (ag [] rfl ?_)
      refine awp_ret ?_
      rw [show buildR 0 [] = (tInt, []) by simp [buildR]]
      exact ⟨.inr rfl, ⟨_, _, .cell rfl (tg rfl) rfl rfl rfl (.tmp rfl .nil), .cons (.pa (.c .refl (.c .refl (.c .refl (.c .nl .nil))))) (.cons .refl .nil), rfl⟩, trivial, rfl⟩
    | cons x l =>
      have hx := hl x (by simp)
      have hn := around_lt x (k := 40) (by omega)
      have har := c_around x 40 hx (by omega)
      rw [buildR]
      generalize around x 40 = n at hn har ⊢
      refine awp_cond rfl (fun hb => by simp at hb; omega) (fun _ => ?_)
      refine awp_skip ?_
      refine awp_seq (ag [(1, .row 0 (encI x)), (3, .pc (I .i64 n))] rfl ?_)
      refine awp_seq (ag [] rfl ?_)
      refine awp_seq (ag [] rfl ?_)
      refine awp_seq (awp_seq (ag [] rfl ?_))
      refine awp_cond rfl (fun _ => ?_) (fun hb => by simp at hb; omega)
      refine ag [] rfl ?_
      refine awp_seq (awp_seq (ag [] rfl ?_))
      refine awp_cond rfl (fun hb => ?_) (fun hb => ?_)
      · have hb : n % 5 < 2 := by simpa using hb
        rw [if_pos hb]
        have hnm := c_tname (n / 10) (by unfold i64; omega)
        refine awp_seq (ag [(2, .pc (Go.AM.T (oneOf tnmL (n / 10))))] rfl ?_)
        refine awp_ret ?_
        exact ⟨.inr rfl, ⟨_, _, .cell rfl (tg rfl) rfl rfl rfl (.tmp rfl .nil), .cons (.pa (.c .refl (.c .refl (.c .refl (.c .nl .nil))))) (.cons .refl .nil), rfl⟩, trivial, rfl⟩
      have hb2 : ¬ n % 5 < 2 := by simpa using hb
      rw [if_neg hb2]
      refine awp_skip ?_
      refine awp_seq (awp_seq (ag [] rfl ?_))
      refine awp_cond rfl (fun hb => ?_) (fun hb => ?_)
      · have hb : n % 5 < 3 := by simpa using hb
        rw [if_pos hb]
        refine awp_seq (ag [] rfl ?_)
        refine awp_ret ?_
        exact ⟨.inr rfl, ⟨_, _, .cell rfl (tg rfl) rfl rfl rfl (.tmp rfl .nil), .cons (.pa (.c .refl (.c .refl (.c .refl (.c .nl .nil))))) (.cons .refl .nil), rfl⟩, trivial, rfl⟩
      have hb3 : ¬ n % 5 < 3 := by simpa using hb
      rw [if_neg hb3]
      refine awp_skip ?_
      refine awp_seq (awp_seq (ag [] rfl ?_))
      refine awp_cond rfl (fun _ => ?_) (fun hb => by simp at hb; omega)
      have hcn := c_tcon (n / 5) (by unfold i64; omega)
      refine awp_seq (ag [(2, .pc (Go.AM.T (oneOf tcnL (n / 5))))] rfl ?_)
      refine awp_ret ?_
      exact ⟨.inr rfl, ⟨_, _, .cell rfl (tg rfl) rfl rfl rfl (.tmp rfl .nil), .cons (.pa (.c .refl (.c .refl (.c .refl (.c .nl .nil))))) (.cons .refl .nil), rfl⟩, trivial, rfl⟩
  | succ d ih =>
    intro l dp hl hf hd h0
    refine impC (n := 90) tok Tryz.func21 rfl rfl rfl ?_
    refine awp_seq (ag [] rfl ?_)
    refine awp_seq (awp_seq (ag [] rfl ?_))
    cases l with
    | nil =>
      refine awp_cond rfl (fun _ => ?_) (fun hb => by simp at hb)
      refine awp_seq (ag [] rfl ?_)
      refine awp_ret ?_
      rw [show buildR (d + 1) [] = (tInt, []) by simp [buildR]]
      exact ⟨.inr rfl, ⟨_, _, .cell rfl (tg rfl) rfl rfl rfl (.tmp rfl .nil), .cons (.pa (.c .refl (.c .refl (.c .refl (.c .nl .nil))))) (.cons .refl .nil), rfl⟩, trivial, rfl⟩
    | cons x l =>
      have hx := hl x (by simp)
      have hn := around_lt x (k := 40) (by omega)
      have har := c_around x 40 hx (by omega)
      have hs1 : l <:+ x :: l := ⟨[x], rfl⟩
      have hl1 := hl.suf hs1
      have hf1 := hf.suf hs1
      have hs2 := buildR_suf d l
      have ih1 := ih l (dp + 1) hl1 hf1 (by omega) (by omega)
      have ih2 := ih (buildR d l).2 (dp + 1) (hl1.suf hs2) (hf1.suf hs2) (by omega) (by omega)
      rw [buildR]
      generalize around x 40 = n at hn har ⊢
      generalize buildR d (buildR d l).2 = r2 at ih2 ⊢
      generalize buildR d l = r1 at ih1 ih2 ⊢
      obtain ⟨⟨f1, n1, s1, a1⟩, l1⟩ := r1
      obtain ⟨⟨f2, n2, s2, a2⟩, l2⟩ := r2
      have hfu := c_fun (.mk f1 n1 s1 a1) (.mk f2 n2 s2 a2)
      have hap := c_app (.mk f1 n1 s1 a1) (.mk f2 n2 s2 a2)
      refine awp_cond rfl (fun hb => by simp at hb; omega) (fun _ => ?_)
      refine awp_skip ?_
      refine awp_seq (ag [(1, .row 0 (encI x)), (3, .pc (I .i64 n))] rfl ?_)
      refine awp_seq (ag [] rfl ?_)
      refine awp_seq (ag [] rfl ?_)
      refine awp_seq (awp_seq (ag [] rfl ?_))
      refine awp_cond rfl (fun hb => by simp at hb; omega) (fun _ => ?_)
      refine awp_skip ?_
      refine awp_seq (awp_seq (ag [] rfl ?_))
      refine awp_cond rfl (fun hb => ?_) (fun hb => ?_)
      · have hb : n % 10 < 2 := by simpa using hb
        rw [if_pos hb]
        have hnm := c_tname (n / 10) (by unfold i64; omega)
        refine awp_seq (ag [(2, .pc (Go.AM.T (oneOf tnmL (n / 10))))] rfl ?_)
        refine awp_ret ?_
        exact ⟨.inr rfl, ⟨_, _, .cell rfl (tg rfl) rfl rfl rfl (.tmp rfl .nil), .cons (.pa (.c .refl (.c .refl (.c .refl (.c .nl .nil))))) (.cons .refl .nil), rfl⟩, trivial, rfl⟩
      have hb2 : ¬ n % 10 < 2 := by simpa using hb
      rw [if_neg hb2]
      refine awp_skip ?_
      refine awp_seq (awp_seq (ag [] rfl ?_))
      refine awp_cond rfl (fun hb => ?_) (fun hb => ?_)
      · have hb : n % 10 < 3 := by simpa using hb
        rw [if_pos hb]
        refine awp_seq (ag [] rfl ?_)
        refine awp_ret ?_
        exact ⟨.inr rfl, ⟨_, _, .cell rfl (tg rfl) rfl rfl rfl (.tmp rfl .nil), .cons (.pa (.c .refl (.c .refl (.c .refl (.c .nl .nil))))) (.cons .refl .nil), rfl⟩, trivial, rfl⟩
      have hb3 : ¬ n % 10 < 3 := by simpa using hb
      rw [if_neg hb3]
      refine awp_skip ?_
      refine awp_seq (awp_seq (ag [] rfl ?_))
      refine awp_cond rfl (fun hb => ?_) (fun hb => ?_)
      · have hb : n % 10 < 5 := by simpa using hb
        rw [if_pos hb]
        have hcn := c_tcon (n / 5) (by unfold i64; omega)
        refine awp_seq (ag [(2, .pc (Go.AM.T (oneOf tcnL (n / 5))))] rfl ?_)
        refine awp_ret ?_
        exact ⟨.inr rfl, ⟨_, _, .cell rfl (tg rfl) rfl rfl rfl (.tmp rfl .nil), .cons (.pa (.c .refl (.c .refl (.c .refl (.c .nl .nil))))) (.cons .refl .nil), rfl⟩, trivial, rfl⟩
      have hb5 : ¬ n % 10 < 5 := by simpa using hb
      rw [if_neg hb5]
      refine awp_skip ?_
      refine awp_seq (ag [(4, .pc (.tup [tyV (.mk f1 n1 s1 a1), intsV l1]))] rfl ?_)
      refine awp_seq (awp_seq (AWp.cut (mk [(0, intsV l), (1, I .i64 dp), (2, B false), (6, .one (.vp 6 0)), (8, I .i64 n), (9, I .i64 (n % 10)), (10, .one (.vp 10 0)), (11, intsV l1), (64, B false)] [(6, .var 25 [.c (.int .i64 0), .c (.int .i64 0), .c (.str []), .c .nl]), (10, .var 25 ((encTy (.mk f1 n1 s1 a1)).map R.c))]) ?_ ?_))
      · by_cases h9 : n % 10 = 9
        · have e9 : decide (n % 10 = 9) = true := decide_eq_true h9
          exact ag [(2, .bv true), (4, .bv true)] rfl sl
        · have e9 : decide (n % 10 = 9) = false := decide_eq_false h9
          exact ag [(2, .bv false), (4, .bv false)] rfl sl
      refine awp_cond rfl (fun hb => by cases hb) (fun _ => ?_)
      refine awp_skip ?_
      refine awp_seq (ag [(4, .pc (.tup [tyV (.mk f2 n2 s2 a2), intsV l2]))] rfl ?_)
      refine awp_seq (awp_seq (ag [] rfl ?_))
      refine awp_cond rfl (fun hb => ?_) (fun hb => ?_)
      · have hb : n % 10 < 8 := by simpa using hb
        rw [if_pos hb]
        refine awp_seq (ag [(2, .pc (.pa (encTy (tfun (.mk f1 n1 s1 a1) (.mk f2 n2 s2 a2)))))] rfl ?_)
        refine awp_ret ?_
        exact ⟨.inr rfl, ⟨_, _, .cell rfl (tg rfl) rfl rfl rfl (.tmp rfl .nil), .cons .refl (.cons .refl .nil), rfl⟩, trivial, rfl⟩
      · have hb : ¬ n % 10 < 8 := by simpa using hb
        rw [if_neg hb]
        refine awp_skip ?_
        refine awp_seq (ag [(2, .pc (.pa (encTy (tapp (.mk f1 n1 s1 a1) (.mk f2 n2 s2 a2)))))] rfl ?_)
        refine awp_ret ?_
        exact ⟨.inr rfl, ⟨_, _, .cell rfl (tg rfl) rfl rfl rfl (.tmp rfl .nil), .cons .refl (.cons .refl .nil), rfl⟩, trivial, rfl⟩
theorem c_plain (l : List Int) (hl : Nums l) (hf : Fits l) : ImpC Tryz.prog 7 [intsV l] [] (tyV (buildR 5 (l.take 24)).1) [] := by
  have hi : ImpC Tryz.prog 18 [intsV l, I .i64 (24 : Nat)] [] (intsV (l.take 24)) [] := c_ints l 24 hf (by omega)
  have hb := c_build 5 (l.take 24) 0 (fun x hx => hl x (List.mem_of_mem_take hx)) (by unfold Fits at *; rw [List.length_take]; omega) (by omega) (by omega)
  generalize buildR 5 (l.take 24) = r at hb ⊢
  obtain ⟨⟨f1, n1, s1, a1⟩, l1⟩ := r
  refine impC (n := 12) tok Tryz.func7 rfl rfl rfl ?_
  refine awp_seq (ag [] rfl ?_)
  refine awp_seq (ag [(1, .pc (intsV (l.take 24))), (2, .pc (.tup [tyV (.mk f1 n1 s1 a1), intsV l1]))] rfl ?_)
  refine awp_seq (ag [] rfl ?_)
  refine awp_ret ?_
  exact ⟨.inr rfl, ⟨_, _, .cell rfl (tg rfl) rfl rfl rfl .nil, .cons .refl .nil, rfl⟩, trivial, rfl⟩
end Go.Proofs.YtnookidjdjhfhaaGreatDoor
