/-
  Texts Lc1, Lc2, Lc3, Lc4, Lc5, Lc6 in one.
-/
import Derived.Test.YtnookidjdjhfhaaGreatDoorM12
/- SMALL TYPES AND CORE (types.own, types.Subst, core.typ at leaves; makers). -/
namespace Go.Proofs.YtnookidjdjhfhaaGreatDoor
open Go Go.AM
set_option maxRecDepth 20000

/-- A type that is a leaf. -/
def tlf (t : Ty) : Bool := decide (t.form ≠ 4) && (decide (t.form ≠ 5) && t.args.isEmpty)
theorem tlf_z : tlf zTy = true := rfl
theorem c_town (f n : Int) (s : Str) : ImpC Tryz.prog 86 [tyV (.mk f n s [])] [] (tyV (.mk f n s [])) [] := by
  refine impC (n := 22) tok Tryz.func86 rfl rfl rfl ?_
  refine awp_seq (ag [] rfl ?_)
  refine awp_seq (ag [] rfl ?_)
  refine awp_seq (awp_seq (ag [] rfl ?_))
  refine awp_block ?_
  refine awp_loop (fun _ : Unit => mk [(1, .one (.vp 1 0)), (2, .one (.vp 2 0)), (3, .one (.c .nl)), (8, I .i64 0), (9, I .i64 0)] [(1, .var 25 ((encTy (.mk f n s [])).map R.c)), (2, .var 25 [.c (.int .i64 0), .c (.int .i64 0), .c (.str []), .c .nl])]) (fun _ => True) (fun _ => 0) () trivial sl ?_
  intro _ _
  refine awp_seq (ag [] rfl ?_)
  refine awp_seq (awp_cond rfl (fun hb => by cases hb) (fun _ => ?_))
  refine awp_exit ?_
  refine awp_seq (ag [] rfl ?_)
  refine awp_seq (ag [] rfl ?_)
  exact awp_ret (rtC trw)
theorem c_ctsubst (t : Ty) (h : tlf t = true) : ImpC Tryz.prog 65 [tyV t, .one (.c .nl), .one (.c .nl)] [] (tyV t) [] := by
  obtain ⟨f, n, s, a⟩ := t
  simp only [tlf, Bool.and_eq_true, List.isEmpty_iff] at h
  obtain ⟨h4, h5, h6⟩ := h
  have h6 : a = [] := h6
  subst h6
  have h4 : ¬ f = 4 := of_decide_eq_true h4
  have h5 : ¬ f = 5 := of_decide_eq_true h5
  have ho := c_town f n s
  have hi : ImpC Tryz.prog 85 [strsV [], Go.AM.T s] [] (I .i64 (-1)) [] := c_index [] s (by simp)
  refine impC (n := 48) tok Tryz.func65 rfl rfl rfl ?_
  refine awp_seq (ag [] rfl ?_)
  refine awp_seq (awp_seq (ag [] rfl ?_))
  refine awp_block (awp_seq (ag [] rfl ?_))
  refine awp_cond rfl (fun hb => ?_) (fun hb => ?_)
  · refine awp_seq (ag [(3, .pc (I .i64 (-1)))] rfl ?_)
    refine awp_seq (ag [] rfl ?_)
    refine awp_cond rfl (fun hb => by cases hb) (fun _ => ?_)
    refine awp_skip ?_
    refine awp_seq (ag [(1, .pc (tyV (.mk f n s [])))] rfl ?_)
    exact awp_ret (rtC trw)
  · refine awp_seq (ag [] rfl ?_)
    refine awp_cond rfl (fun hb => absurd (of_decide_eq_true hb) h4) (fun _ => ?_)
    refine awp_seq (ag [] rfl ?_)
    refine awp_cond rfl (fun hb => absurd (of_decide_eq_true hb) h5) (fun _ => ?_)
    refine awp_skip ?_
    refine awp_seq (ag [(1, .pc (tyV (.mk f n s [])))] rfl ?_)
    exact awp_ret (rtC trw)
theorem c_ctyp (t : Ty) (h : tlf t = true) : ImpC Tryz.prog 54 [tyV t] [] (tyV t) [] := by
  have hs := c_ctsubst t h
  obtain ⟨f, n, s, a⟩ := t
  refine impC (n := 5) tok Tryz.func54 rfl rfl rfl ?_
  refine awp_seq (ag [] rfl ?_)
  refine awp_seq (awp_rg mixed ?_)
  refine ak 1 [] rfl ?_
  refine kc hs ?_
  refine ak 1 [] rfl ?_
  refine az ?_
  exact awp_ret (rtC trw)
theorem c_tyvar (s : Str) : ImpC Tryz.prog 28 [Go.AM.T s] [] (tyV (.mk 2 0 s [])) [] := by
  refine impC (n := 5) tok Tryz.func28 rfl rfl rfl ?_
  refine awp_seq (ag [] rfl ?_)
  refine awp_seq (ag [] rfl ?_)
  exact awp_ret (rtC trw)
theorem c_tycon (s : Str) : ImpC Tryz.prog 32 [Go.AM.T s] [] (tyV (.mk 3 0 s [])) [] := by
  refine impC (n := 5) tok Tryz.func32 rfl rfl rfl ?_
  refine awp_seq (ag [] rfl ?_)
  refine awp_seq (ag [] rfl ?_)
  exact awp_ret (rtC trw)
theorem c_cvar (s : Str) : ImpC Tryz.prog 29 [Go.AM.T s] [] (.pa (encCore (.mk 1 0 s zTy [] [] []))) [] := by
  refine impC (n := 5) tok Tryz.func29 rfl rfl rfl ?_
  refine awp_seq (ag [] rfl ?_)
  refine awp_seq (ag [] rfl ?_)
  exact awp_ret (rtC trw)
theorem c_cint (n : Int) : ImpC Tryz.prog 33 [I .i64 n] [] (.pa (encCore (.mk 3 n [] zTy [] [] []))) [] := by
  refine impC (n := 5) tok Tryz.func33 rfl rfl rfl ?_
  refine awp_seq (ag [] rfl ?_)
  refine awp_seq (ag [] rfl ?_)
  exact awp_ret (rtC trw)
end Go.Proofs.YtnookidjdjhfhaaGreatDoor

/- THE PARTS of core, and its names, as groups (core.groups), where core has no binds and no alternatives. -/
namespace Go.Proofs.YtnookidjdjhfhaaGreatDoor
open Go Go.AM
set_option maxRecDepth 20000

theorem refsR_all {L : List Nat} : ∀ {rows : List (List R)}, (∀ row ∈ rows, ∀ x ∈ R.refsL row, x ∈ L) → ∀ x ∈ refsR rows, x ∈ L
  | [], _, x, hx => by simp [refsR] at hx
  | r :: rows, h, x, hx => by
    rcases List.mem_append.1 hx with hx | hx
    · exact h r List.mem_cons_self x hx
    · exact refsR_all (fun q hq => h q (List.mem_cons_of_mem _ hq)) x hx
def cellsO (f n : Int) (s : Str) (t : Ty) (nk nb na : Nat) : List R := [.c (.int .i64 f), .c (.int .i64 n), .c (.str s), .c (.int .i64 t.form), .c (.int .i64 t.n), .c (.str t.name), .c (.sl 4 (encArgs t)), .hs 702 0 nk nk, .hs 701 0 nb nb, .hs 703 0 na na]
def gNm : Bool → List (List R)
  | true => [[.vp 700 2]]
  | false => []
def gN : Bool → Nat
  | true => 1
  | false => 0
def gPo (rows : List (List R)) : AObj := .rarr 68 1 rows
def gRow (n i : Nat) : List R := [.ep 702 i 0 n]
def gRows (n k : Nat) : List (List R) := (List.range k).map (gRow n)
theorem gRows_step (n k : Nat) : gRows n (k + 1) = gRows n k ++ [gRow n k] := by unfold gRows; rw [List.range_succ, List.map_append]; rfl
theorem gRows_len (n k : Nat) : (gRows n k).length = k := by simp [gRows]
def gRefs : AObj := gPo [[.ep 702 0 0 0]]
theorem gRows_refs {n k : Nat} : ∀ x ∈ (gPo (gRows n k)).refs, x ∈ gRefs.refs := by
  refine refsR_all fun row hr x hx => ?_
  show x ∈ ([702] : List Nat)
  obtain ⟨i, _, rfl⟩ := List.mem_map.1 hr
  simpa [gRow, R.refsL, R.refs] using hx
def gIn (f n : Int) (s : Str) (t : Ty) (ks : List Core) : List (Nat × AObj) :=
  [(700, .var 30 (cellsO f n s t ks.length 0 0)), (701, .arr 35 15 [] 0), (702, .arr 30 10 (encCores ks) 0), (703, .arr 52 14 [] 0)]
def gOut (b : Bool) (f n : Int) (s : Str) (t : Ty) (ks : List Core) : List (Nat × AObj) :=
  (712, gPo (gRows ks.length ks.length)) :: (713, .rarr 72 2 [[.ra 711 0 (gN b) (gN b), .ra 712 0 (gRows ks.length ks.length).length (gRows ks.length ks.length).length]]) :: (711, .rarr 74 1 (gNm b)) :: gIn f n s t ks
theorem c_groupsO (b : Bool) (f n : Int) (s : Str) (t : Ty) (ks : List Core) (hb5 : decide (f = 5) = b) (hk : ks.length ≤ 1000000) :
    ImpC Tryz.prog 35 [.one (.vp 700 0)] (gIn f n s t ks) (.one (.ra 713 0 1 1)) (gOut b f n s t ks) := by
  have hkK : (encCores ks).length = ks.length := by rw [encCores_map, List.length_map]
  refine impC (n := 123) tok Tryz.func35 rfl rfl rfl ?_
  refine awp_seq (ag [] rfl ?_)
  refine awp_seq (ag [] rfl ?_)
  refine AWp.sub (Sub.ownCellR (x := 3) (k := 1) (id := 712) 68 1 rfl rfl rfl) (AWp.sub (Sub.ownCellR (x := 3) (k := 0) (id := 711) 74 1 rfl rfl rfl) ?_)
  refine awp_seq (awp_seq (ag [] rfl ?_))
  refine awp_block ?_
  refine awp_loop (fun i : Nat => mk [(0, .one (.vp 700 0)), (3, .one (.vp 3 0)), (16, I .i64 ((ks.length : Nat) : Int)), (17, I .i64 i)] ((712, gPo (gRows ks.length i)) :: (3, .var 72 [.ra 711 0 0 0, .ra 712 0 (gRows ks.length i).length (gRows ks.length i).length]) :: (711, .rarr 74 1 []) :: gIn f n s t ks)) (fun i => i ≤ ks.length) (fun i => ks.length - i) 0 (Nat.zero_le _) (slR gRefs gRows_refs ⟨_, rfl, .rarrS rfl⟩) ?_
  intro i hi
  have hpl := gRows_len ks.length i
  refine awp_seq (ag [] rfl ?_)
  refine awp_seq (awp_cond rfl (fun hb => ?_) (fun hb => ?_))
  · have hlt : i < ks.length := by
      have : (i : Int) < (ks.length : Int) := of_decide_eq_true hb
      omega
    have hst := gRows_step ks.length i
    refine awp_skip ?_
    refine awp_seq (awp_block (awp_seq (ag [] rfl ?_)))
    refine ag [] rfl ?_
    refine ag [] rfl ?_
    refine ⟨i + 1, hlt, by dsimp only; omega, ?_⟩
    dsimp only
    rw [hst]
    refine slR gRefs (by rw [← hst]; exact gRows_refs) ⟨_, rfl, .rarrS rfl⟩ (hh := ⟨⟨_, rfl, .var ?_⟩, ⟨_, rfl, .rarr rfl⟩, ⟨_, rfl, .var rfl⟩, ⟨_, rfl, .arr⟩, ⟨_, rfl, .arr⟩, ⟨_, rfl, .arr⟩, trivial⟩)
    rw [List.length_append]
    rfl
  have hge : i = ks.length := by
    have : ¬ (i : Int) < (ks.length : Int) := of_decide_eq_false hb
    omega
  subst hge
  refine awp_exit ?_
  refine awp_seq (AWp.cut (mk [(0, .one (.vp 700 0)), (3, .one (.vp 3 0))] ((712, gPo (gRows ks.length ks.length)) :: (3, .var 72 [.ra 711 0 (gN b) (gN b), .ra 712 0 (gRows ks.length ks.length).length (gRows ks.length ks.length).length]) :: (711, .rarr 74 1 (gNm b)) :: gIn f n s t ks)) ?_ ?_)
  · refine awp_seq (ag [] rfl ?_)
    refine awp_cond rfl (fun hb => ?_) (fun hb => ?_)
    · have hb : decide (f = 5) = true := hb
      rw [hb] at hb5
      subst hb5
      exact ag [] rfl (slR gRefs gRows_refs ⟨_, rfl, .rarrS rfl⟩)
    · have hb : decide (f = 5) = false := hb
      rw [hb] at hb5
      subst hb5
      exact awp_skip (slR gRefs gRows_refs ⟨_, rfl, .rarrS rfl⟩)
  refine awp_seq (awp_seq (ag [] rfl ?_))
  refine awp_block ?_
  cases b with
  | true =>
    refine awp_loop (fun _ : Unit => mk [(0, .one (.vp 700 0)), (3, .one (.vp 3 0)), (49, I .i64 0), (50, I .i64 0)] ((712, gPo (gRows ks.length ks.length)) :: (3, .var 72 [.ra 711 0 1 1, .ra 712 0 (gRows ks.length ks.length).length (gRows ks.length ks.length).length]) :: (711, .rarr 74 1 [[.vp 700 2]]) :: gIn f n s t ks)) (fun _ => True) (fun _ => 0) () trivial (slR gRefs gRows_refs ⟨_, rfl, .rarrS rfl⟩) ?_
    intro _ _
    refine awp_seq (ag [] rfl ?_)
    refine awp_seq (awp_cond rfl (fun hb => by cases hb) (fun _ => ?_))
    refine awp_exit ?_
    refine awp_seq (ag [(1, .id 713)] rfl ?_)
    refine awp_seq (awp_seq (ag [] rfl ?_))
    refine awp_block ?_
    refine awp_loop (fun _ : Unit => mk [(0, .one (.vp 700 0)), (7, .one (.ra 713 0 1 1)), (82, I .i64 0), (83, I .i64 0)] (gOut true f n s t ks)) (fun _ => True) (fun _ => 0) () trivial (slR gRefs gRows_refs ⟨_, rfl, .rarrS rfl⟩) ?_
    intro _ _
    refine awp_seq (ag [] rfl ?_)
    refine awp_seq (awp_cond rfl (fun hb => by cases hb) (fun _ => ?_))
    refine awp_exit ?_
    refine awp_seq (ag [] rfl ?_)
    refine awp_ret ⟨.inr rfl, ?_⟩
    exact finR gRefs gRows_refs ⟨_, _, .tmp rfl .nil, .cons .refl .nil, rfl⟩ ⟨⟨_, rfl, .rarrS rfl⟩, ⟨_, rfl, .rarr rfl⟩, ⟨_, rfl, .rarr rfl⟩, ⟨_, rfl, .var rfl⟩, ⟨_, rfl, .arr⟩, ⟨_, rfl, .arr⟩, ⟨_, rfl, .arr⟩, trivial⟩ rfl rfl
  | false =>
    refine awp_loop (fun _ : Unit => mk [(0, .one (.vp 700 0)), (3, .one (.vp 3 0)), (49, I .i64 0), (50, I .i64 0)] ((712, gPo (gRows ks.length ks.length)) :: (3, .var 72 [.ra 711 0 0 0, .ra 712 0 (gRows ks.length ks.length).length (gRows ks.length ks.length).length]) :: (711, .rarr 74 1 []) :: gIn f n s t ks)) (fun _ => True) (fun _ => 0) () trivial (slR gRefs gRows_refs ⟨_, rfl, .rarrS rfl⟩) ?_
    intro _ _
    refine awp_seq (ag [] rfl ?_)
    refine awp_seq (awp_cond rfl (fun hb => by cases hb) (fun _ => ?_))
    refine awp_exit ?_
    refine awp_seq (ag [(1, .id 713)] rfl ?_)
    refine awp_seq (awp_seq (ag [] rfl ?_))
    refine awp_block ?_
    refine awp_loop (fun _ : Unit => mk [(0, .one (.vp 700 0)), (7, .one (.ra 713 0 1 1)), (82, I .i64 0), (83, I .i64 0)] (gOut false f n s t ks)) (fun _ => True) (fun _ => 0) () trivial (slR gRefs gRows_refs ⟨_, rfl, .rarrS rfl⟩) ?_
    intro _ _
    refine awp_seq (ag [] rfl ?_)
    refine awp_seq (awp_cond rfl (fun hb => by cases hb) (fun _ => ?_))
    refine awp_exit ?_
    refine awp_seq (ag [] rfl ?_)
    refine awp_ret ⟨.inr rfl, ?_⟩
    exact finR gRefs gRows_refs ⟨_, _, .tmp rfl .nil, .cons .refl .nil, rfl⟩ ⟨⟨_, rfl, .rarrS rfl⟩, ⟨_, rfl, .rarr rfl⟩, ⟨_, rfl, .rarr rfl⟩, ⟨_, rfl, .var rfl⟩, ⟨_, rfl, .arr⟩, ⟨_, rfl, .arr⟩, ⟨_, rfl, .arr⟩, trivial⟩ rfl rfl
end Go.Proofs.YtnookidjdjhfhaaGreatDoor

/- CORE IN MEMORY OF ITS OWN (core.own), where it has no binds, no alternatives, and no types but leaves. -/
namespace Go.Proofs.YtnookidjdjhfhaaGreatDoor
open Go Go.AM
set_option maxRecDepth 20000

mutual
def smR : Core → Bool
  | .mk _ _ _ t ks bs al => (tlf t && (bs.isEmpty && al.isEmpty)) && smCs ks
def smCs : List Core → Bool
  | [] => true
  | c :: l => smR c && smCs l
end
theorem smCs_mem : ∀ {l : List Core}, smCs l = true → ∀ x ∈ l, smR x = true
  | c :: l, h, x, hx => by
    rw [smCs, Bool.and_eq_true] at h
    rcases List.mem_cons.1 hx with rfl | hx
    · exact h.1
    · exact smCs_mem h.2 x hx
theorem same_set {α : Type} : ∀ {l : List α} {j : Nat} {x : α}, l[j]? = some x → l.set j x = l
  | [], _, _, h => by simp at h
  | y :: l, 0, x, h => by simp at h; subst h; rfl
  | y :: l, j + 1, x, h => by
    rw [List.set_cons_succ, same_set (by simpa using h)]
def OwSpec (c : Core) : Prop := smR c = true → csize c ≤ 100000 → ImpC Tryz.prog 53 [.pa (encCore c)] [] (.pa (encCore c)) []
def owO (b : Bool) (f n : Int) (s : Str) (t : Ty) (ks : List Core) : List (Nat × AObj) :=
  (712, gPo (gRows ks.length ks.length)) :: (713, .rarr 72 2 [[.ra 711 0 (gN b) (gN b), .ra 712 0 (gRows ks.length ks.length).length (gRows ks.length ks.length).length]]) :: (711, .rarr 74 1 (gNm b)) :: (2, .var 30 zCells) :: gIn f n s t ks
theorem c_own_step (c : Core) (ih : ∀ x, csize x < csize c → OwSpec x) : OwSpec c := by
  intro hsm hsz
  obtain ⟨f, n, s, t, ks, bs, al⟩ := c
  obtain ⟨ihk, ihb, iha, hkl, hbl, hal⟩ := @size_in f n s t ks bs al
  simp only [smR, Bool.and_eq_true, List.isEmpty_iff] at hsm
  obtain ⟨⟨ht, h1, h2⟩, hks⟩ := hsm
  subst h1 h2
  have hty := c_ctyp t ht
  have hkK : (encCores ks).length = ks.length := by rw [encCores_map, List.length_map]
  have k2 : ks.length = (encCores ks).length := hkK.symm
  have hck := c_clone_cores (encCores ks) (by omega)
  have hcb := c_clone_binds [] (by simp)
  have hca := c_clone_alts [] (by simp)
  rw [hkK] at hck
  have hgr := c_groupsO (decide (f = 5)) f n s t ks rfl (by omega)
  have hgl := gRows_len ks.length ks.length
  generalize decide (f = 5) = b at hgr
  refine impC (n := 85) tok Tryz.func53 rfl rfl rfl ?_
  refine awp_seq (ag [(0, .id 700)] rfl ?_)
  refine awp_seq (ag [(2, .pc (tyV t))] rfl ?_)
  refine awp_seq (awp_rg mixed ?_)
  refine ak 2 [] rfl ?_
  refine kc hck ?_
  refine ak 2 [] rfl ?_
  refine kc hcb ?_
  refine ak 2 [] rfl ?_
  refine kc hca ?_
  refine ak 6 [] rfl ?_
  refine az ?_
  refine awp_seq (awp_seq (ag [] rfl ?_))
  refine awp_block ?_
  refine awp_loop (fun _ : Unit => mk [(1, .one (.vp 700 0)), (2, .one (.vp 2 0)), (27, I .i64 0), (28, I .i64 0)] ((2, .var 30 zCells) :: gIn f n s t ks)) (fun _ => True) (fun _ => 0) () trivial sl ?_
  intro _ _
  refine awp_seq (ag [] rfl ?_)
  refine awp_seq (awp_cond rfl (fun hb => by cases hb) (fun _ => ?_))
  refine awp_exit ?_
  refine awp_seq (awp_seq (ag [] rfl ?_))
  refine awp_block ?_
  refine awp_loop (fun _ : Unit => mk [(1, .one (.vp 700 0)), (2, .one (.vp 2 0)), (46, I .i64 0), (47, I .i64 0)] ((2, .var 30 zCells) :: gIn f n s t ks)) (fun _ => True) (fun _ => 0) () trivial sl ?_
  intro _ _
  refine awp_seq (ag [] rfl ?_)
  refine awp_seq (awp_cond rfl (fun hb => by cases hb) (fun _ => ?_))
  refine awp_exit ?_
  cases b with
  | true =>
    refine awp_seq (awp_seq (awp_rg mixed ?_))
    refine kc hgr ?_
    refine ak 2 [] rfl ?_
    refine az ?_
    refine awp_block ?_
    refine awp_loop (fun i : Nat => mk [(1, .one (.vp 700 0)), (2, .one (.vp 2 0)), (63, .one (.ra 713 0 1 1)), (64, I .i64 1), (65, I .i64 i)] (owO true f n s t ks)) (fun i => i ≤ 1) (fun i => 1 - i) 0 (Nat.zero_le _) (slR gRefs gRows_refs ⟨_, rfl, .rarrS rfl⟩) ?_
    intro i hi
    refine awp_seq (ag [] rfl ?_)
    refine awp_seq (awp_cond rfl (fun hb => ?_) (fun hb => ?_))
    · have hi0 : i = 0 := by
        have : (i : Int) < 1 := of_decide_eq_true hb
        omega
      subst hi0
      refine awp_skip ?_
      refine awp_seq (awp_block (awp_seq (ag [(1, .rr [.ra 711 0 1 1, .ra 712 0 (gRows ks.length ks.length).length (gRows ks.length ks.length).length])] rfl ?_)))
      refine awp_seq (ag [] rfl ?_)
      refine awp_block ?_
      refine awp_loop (fun j : Nat => mk [(1, .one (.vp 700 0)), (2, .one (.vp 2 0)), (63, .one (.ra 713 0 1 1)), (64, I .i64 1), (65, I .i64 (0 : Nat)), (70, .one (.ra 712 0 (gRows ks.length ks.length).length (gRows ks.length ks.length).length)), (71, I .i64 (((gRows ks.length ks.length).length : Nat) : Int)), (72, I .i64 j)] (owO true f n s t ks)) (fun j => j ≤ ks.length) (fun j => ks.length - j) 0 (Nat.zero_le _) (slR gRefs gRows_refs ⟨_, rfl, .rarrS rfl⟩) ?_
      intro j hj
      refine awp_seq (ag [] rfl ?_)
      refine awp_seq (awp_cond rfl (fun hb => ?_) (fun hb => ?_))
      · have hlt : j < ks.length := by
          have : (j : Int) < ((gRows ks.length ks.length).length : Int) := of_decide_eq_true hb
          omega
        obtain ⟨k, hki⟩ := get_of_lt hlt
        have hki' := encCores_at hki
        have hm := List.mem_of_getElem? hki
        have hc := ih k (ihk k hm) (smCs_mem hks k hm) (by have := ihk k hm; omega)
        have hsame := same_set hki'
        have hrow : (gRows ks.length ks.length)[j]? = some (gRow ks.length j) := by
          unfold gRows; rw [List.getElem?_map, List.getElem?_range hlt]; rfl
        refine awp_skip ?_
        refine awp_seq (awp_block (awp_seq (ag [(1, .rr (gRow ks.length j))] rfl ?_)))
        refine awp_rg mixed ?_
        refine ak 4 [(3, .row j (encCore k))] rfl ?_
        refine kc hc ?_
        refine ak 2 [(6, .row j (encCore k))] rfl ?_
        refine az ?_
        refine ag [] rfl ?_
        exact ⟨j + 1, hlt, by dsimp only; omega, slR gRefs gRows_refs ⟨_, rfl, .rarrS rfl⟩ (hh := ⟨⟨_, rfl, .rarr rfl⟩, ⟨_, rfl, .rarr rfl⟩, ⟨_, rfl, .var rfl⟩, ⟨_, rfl, .var rfl⟩, ⟨_, rfl, .arr⟩, ⟨_, rfl, by first | exact .arr | exact .arrS hsame⟩, ⟨_, rfl, .arr⟩, trivial⟩)⟩
      refine awp_exit ?_
      refine ag [] rfl ?_
      exact ⟨1, Nat.le_refl _, by dsimp only; omega, slR gRefs gRows_refs ⟨_, rfl, .rarrS rfl⟩⟩
    refine awp_exit ?_
    refine AWp.sub (Sub.freeze (id := 701) rfl) (AWp.sub (Sub.freeze (id := 702) rfl) (AWp.sub (Sub.freeze (id := 703) rfl) (AWp.sub (vp 700 (encCore (.mk f n s t ks [] []))) ?_)))
    refine awp_seq (ag [] rfl ?_)
    exact awp_ret (rtC trw)
  | false =>
    refine awp_seq (awp_seq (awp_rg mixed ?_))
    refine kc hgr ?_
    refine ak 2 [] rfl ?_
    refine az ?_
    refine awp_block ?_
    refine awp_loop (fun i : Nat => mk [(1, .one (.vp 700 0)), (2, .one (.vp 2 0)), (63, .one (.ra 713 0 1 1)), (64, I .i64 1), (65, I .i64 i)] (owO false f n s t ks)) (fun i => i ≤ 1) (fun i => 1 - i) 0 (Nat.zero_le _) (slR gRefs gRows_refs ⟨_, rfl, .rarrS rfl⟩) ?_
    intro i hi
    refine awp_seq (ag [] rfl ?_)
    refine awp_seq (awp_cond rfl (fun hb => ?_) (fun hb => ?_))
    · have hi0 : i = 0 := by
        have : (i : Int) < 1 := of_decide_eq_true hb
        omega
      subst hi0
      refine awp_skip ?_
      refine awp_seq (awp_block (awp_seq (ag [(1, .rr [.ra 711 0 0 0, .ra 712 0 (gRows ks.length ks.length).length (gRows ks.length ks.length).length])] rfl ?_)))
      refine awp_seq (ag [] rfl ?_)
      refine awp_block ?_
      refine awp_loop (fun j : Nat => mk [(1, .one (.vp 700 0)), (2, .one (.vp 2 0)), (63, .one (.ra 713 0 1 1)), (64, I .i64 1), (65, I .i64 (0 : Nat)), (70, .one (.ra 712 0 (gRows ks.length ks.length).length (gRows ks.length ks.length).length)), (71, I .i64 (((gRows ks.length ks.length).length : Nat) : Int)), (72, I .i64 j)] (owO false f n s t ks)) (fun j => j ≤ ks.length) (fun j => ks.length - j) 0 (Nat.zero_le _) (slR gRefs gRows_refs ⟨_, rfl, .rarrS rfl⟩) ?_
      intro j hj
      refine awp_seq (ag [] rfl ?_)
      refine awp_seq (awp_cond rfl (fun hb => ?_) (fun hb => ?_))
      · have hlt : j < ks.length := by
          have : (j : Int) < ((gRows ks.length ks.length).length : Int) := of_decide_eq_true hb
          omega
        obtain ⟨k, hki⟩ := get_of_lt hlt
        have hki' := encCores_at hki
        have hm := List.mem_of_getElem? hki
        have hc := ih k (ihk k hm) (smCs_mem hks k hm) (by have := ihk k hm; omega)
        have hsame := same_set hki'
        have hrow : (gRows ks.length ks.length)[j]? = some (gRow ks.length j) := by
          unfold gRows; rw [List.getElem?_map, List.getElem?_range hlt]; rfl
        refine awp_skip ?_
        refine awp_seq (awp_block (awp_seq (ag [(1, .rr (gRow ks.length j))] rfl ?_)))
        refine awp_rg mixed ?_
        refine ak 4 [(3, .row j (encCore k))] rfl ?_
        refine kc hc ?_
        refine ak 2 [(6, .row j (encCore k))] rfl ?_
        refine az ?_
        refine ag [] rfl ?_
        exact ⟨j + 1, hlt, by dsimp only; omega, slR gRefs gRows_refs ⟨_, rfl, .rarrS rfl⟩ (hh := ⟨⟨_, rfl, .rarr rfl⟩, ⟨_, rfl, .rarr rfl⟩, ⟨_, rfl, .var rfl⟩, ⟨_, rfl, .var rfl⟩, ⟨_, rfl, .arr⟩, ⟨_, rfl, by first | exact .arr | exact .arrS hsame⟩, ⟨_, rfl, .arr⟩, trivial⟩)⟩
      refine awp_exit ?_
      refine ag [] rfl ?_
      exact ⟨1, Nat.le_refl _, by dsimp only; omega, slR gRefs gRows_refs ⟨_, rfl, .rarrS rfl⟩⟩
    refine awp_exit ?_
    refine AWp.sub (Sub.freeze (id := 701) rfl) (AWp.sub (Sub.freeze (id := 702) rfl) (AWp.sub (Sub.freeze (id := 703) rfl) (AWp.sub (vp 700 (encCore (.mk f n s t ks [] []))) ?_)))
    refine awp_seq (ag [] rfl ?_)
    exact awp_ret (rtC trw)
theorem c_own : ∀ (n : Nat) (c : Core), csize c ≤ n → OwSpec c
  | 0, c, h => by have := csize_pos c; omega
  | n + 1, c, h => c_own_step c fun x hx => c_own n x (by omega)
end Go.Proofs.YtnookidjdjhfhaaGreatDoor

/- CORE IS MADE (core.Lam, TLam, TApp, App), where it is simple. -/
namespace Go.Proofs.YtnookidjdjhfhaaGreatDoor
open Go Go.AM
set_option maxRecDepth 20000

def lamT (s : Str) (t : Ty) (c : Core) : Core := .mk 5 0 s t [c] [] []
def tlamC (s : Str) (c : Core) : Core := .mk 7 0 s zTy [c] [] []
def tappC (c : Core) (t : Ty) : Core := .mk 6 0 [] t [c] [] []
def capp (f a : Core) : Core := .mk 4 0 [] zTy [f, a] [] []
theorem c_clam (s : Str) (t : Ty) (c : Core) (ht : tlf t = true) (hc : smR c = true) (hs : csize c ≤ 100000) : ImpC Tryz.prog 27 [Go.AM.T s, tyV t, .pa (encCore c)] [] (.pa (encCore (lamT s t c))) [] := by
  have h1 := c_ctyp t ht
  have h2 := c_own _ c (Nat.le_refl _) hc hs
  refine impC (n := 14) tok Tryz.func27 rfl rfl rfl ?_
  refine awp_seq (ag [] rfl ?_)
  refine awp_seq (ag [(2, .pc (tyV t)), (4, .pc (.pa (encCore c))), (5, .all)] rfl ?_)
  exact awp_ret (rtC trw)
theorem c_ctlam (s : Str) (c : Core) (hc : smR c = true) (hs : csize c ≤ 100000) : ImpC Tryz.prog 26 [.pa (encCore c), strsV [s]] [] (.pa (encCore (tlamC s c))) [] := by
  have h2 := c_own _ c (Nat.le_refl _) hc hs
  refine impC (n := 27) tok Tryz.func26 rfl rfl rfl ?_
  refine awp_seq (ag [] rfl ?_)
  refine awp_seq (ag [(1, .pc (.pa (encCore c)))] rfl ?_)
  refine awp_seq (awp_seq (ag [] rfl ?_))
  refine awp_block ?_
  refine awp_loop (fun i : Nat => mk [(1, strsV [s]), (4, .one (.vp 4 0)), (5, .one (.vp 5 0)), (10, I .i64 1), (11, I .i64 i)] [(4, .var 30 zCells), (5, .var 30 (cellsC (if i = 0 then c else tlamC s c)))]) (fun i => i ≤ 1) (fun i => 1 - i) 0 (Nat.zero_le _) sl ?_
  intro i hi
  refine awp_seq (ag [] rfl ?_)
  refine awp_seq (awp_cond rfl (fun hb => ?_) (fun hb => ?_))
  · have hi0 : i = 0 := by
      have : (i : Int) < 1 := of_decide_eq_true hb
      omega
    subst hi0
    rw [if_pos rfl]
    refine awp_skip ?_
    refine awp_seq (awp_block (awp_seq (ag [] rfl ?_)))
    refine ag [(6, .row 0 (encS s)), (9, .all)] rfl ?_
    refine ag [] rfl ?_
    exact ⟨1, Nat.le_refl _, by dsimp only; omega, Sub.trans sl (vp 5 (encCore (tlamC s c)))⟩
  have hi1 : i = 1 := by
    have : ¬ (i : Int) < 1 := of_decide_eq_false hb
    omega
  subst hi1
  rw [if_neg (by omega)]
  refine awp_exit ?_
  refine awp_seq (ag [] rfl ?_)
  exact awp_ret (rtC trw)
theorem c_ctapp (c : Core) (t : Ty) (ht : tlf t = true) (hc : smR c = true) (hs : csize c ≤ 100000) : ImpC Tryz.prog 31 [.pa (encCore c), .one (.c (.sl 4 [encTy t]))] [] (.pa (encCore (tappC c t))) [] := by
  have h1 := c_ctyp t ht
  have h2 := c_own _ c (Nat.le_refl _) hc hs
  refine impC (n := 23) tok Tryz.func31 rfl rfl rfl ?_
  refine awp_seq (ag [] rfl ?_)
  refine awp_seq (ag [(1, .pc (.pa (encCore c)))] rfl ?_)
  refine awp_seq (awp_seq (ag [] rfl ?_))
  refine awp_block ?_
  refine awp_loop (fun i : Nat => mk [(4, .one (.vp 4 0)), (5, .one (.vp 5 0)), (10, .one (.c (.sl 4 [encTy t]))), (11, I .i64 1), (12, I .i64 i)] [(4, .var 30 zCells), (5, .var 30 (cellsC (if i = 0 then c else tappC c t)))]) (fun i => i ≤ 1) (fun i => 1 - i) 0 (Nat.zero_le _) sl ?_
  intro i hi
  refine awp_seq (ag [] rfl ?_)
  refine awp_seq (awp_cond rfl (fun hb => ?_) (fun hb => ?_))
  · have hi0 : i = 0 := by
      have : (i : Int) < 1 := of_decide_eq_true hb
      omega
    subst hi0
    rw [if_pos rfl]
    refine awp_skip ?_
    refine awp_seq (awp_block (awp_seq (ag [(0, .row 0 (encTy t))] rfl ?_)))
    refine ag [(1, .pc (tyV t)), (3, .all)] rfl ?_
    refine ag [] rfl ?_
    exact ⟨1, Nat.le_refl _, by dsimp only; omega, Sub.trans sl (vp 5 (encCore (tappC c t)))⟩
  have hi1 : i = 1 := by
    have : ¬ (i : Int) < 1 := of_decide_eq_false hb
    omega
  subst hi1
  rw [if_neg (by omega)]
  refine awp_exit ?_
  refine awp_seq (ag [] rfl ?_)
  exact awp_ret (rtC trw)
theorem c_capp (c a : Core) (hc : smR c = true) (ha : smR a = true) (hs : csize c ≤ 100000) (hs2 : csize a ≤ 100000) : ImpC Tryz.prog 30 [.pa (encCore c), .one (.c (.sl 10 [encCore a]))] [] (.pa (encCore (capp c a))) [] := by
  have h1 := c_own _ a (Nat.le_refl _) ha hs2
  have h2 := c_own _ c (Nat.le_refl _) hc hs
  refine impC (n := 23) tok Tryz.func30 rfl rfl rfl ?_
  refine awp_seq (ag [] rfl ?_)
  refine awp_seq (ag [(1, .pc (.pa (encCore c)))] rfl ?_)
  refine awp_seq (awp_seq (ag [] rfl ?_))
  refine awp_block ?_
  refine awp_loop (fun i : Nat => mk [(4, .one (.vp 4 0)), (5, .one (.vp 5 0)), (10, .one (.c (.sl 10 [encCore a]))), (11, I .i64 1), (12, I .i64 i)] [(4, .var 30 zCells), (5, .var 30 (cellsC (if i = 0 then c else capp c a)))]) (fun i => i ≤ 1) (fun i => 1 - i) 0 (Nat.zero_le _) sl ?_
  intro i hi
  refine awp_seq (ag [] rfl ?_)
  refine awp_seq (awp_cond rfl (fun hb => ?_) (fun hb => ?_))
  · have hi0 : i = 0 := by
      have : (i : Int) < 1 := of_decide_eq_true hb
      omega
    subst hi0
    rw [if_pos rfl]
    refine awp_skip ?_
    refine awp_seq (awp_block (awp_seq (ag [(0, .row 0 (encCore a))] rfl ?_)))
    refine ag [(2, .pc (.pa (encCore a))), (3, .all)] rfl ?_
    refine ag [] rfl ?_
    exact ⟨1, Nat.le_refl _, by dsimp only; omega, Sub.trans sl (vp 5 (encCore (capp c a)))⟩
  have hi1 : i = 1 := by
    have : ¬ (i : Int) < 1 := of_decide_eq_false hb
    omega
  subst hi1
  rw [if_neg (by omega)]
  refine awp_exit ?_
  refine awp_seq (ag [] rfl ?_)
  exact awp_ret (rtC trw)
theorem c_capp0 (c : Core) (hc : smR c = true) (hs : csize c ≤ 100000) : ImpC Tryz.prog 30 [.pa (encCore c), .one (.c (.sl 10 []))] [] (.pa (encCore c)) [] := by
  have h2 := c_own _ c (Nat.le_refl _) hc hs
  refine impC (n := 23) tok Tryz.func30 rfl rfl rfl ?_
  refine awp_seq (ag [] rfl ?_)
  refine awp_seq (ag [(1, .pc (.pa (encCore c)))] rfl ?_)
  refine awp_seq (awp_seq (ag [] rfl ?_))
  refine awp_block ?_
  refine awp_loop (fun _ : Unit => mk [(4, .one (.vp 4 0)), (5, .one (.vp 5 0)), (11, I .i64 0), (12, I .i64 0)] [(4, .var 30 zCells), (5, .var 30 (cellsC c))]) (fun _ => True) (fun _ => 0) () trivial sl ?_
  intro _ _
  refine awp_seq (ag [] rfl ?_)
  refine awp_seq (awp_cond rfl (fun hb => by cases hb) (fun _ => ?_))
  refine awp_exit ?_
  refine awp_seq (ag [] rfl ?_)
  exact awp_ret (rtC trw)
end Go.Proofs.YtnookidjdjhfhaaGreatDoor

/- THE PARTS of core, and its names, as groups (core.groups), to be read: of any core that stays. -/
namespace Go.Proofs.YtnookidjdjhfhaaGreatDoor
open Go Go.AM
set_option maxRecDepth 20000

def nm0 (c : Core) : List (List C) := if c.form = 5 then [[.pt ((encCore c).drop 2)]] else []
def bnRow (b : Bind) : List C := [.pt ((encBind b).drop 0)]
def bpRow (b : Bind) : List C := [.pt ((encBind b).drop 5)]
def kpRow (k : Core) : List C := [.pt (encCore k)]
def vnRow (v : Str) : List C := [.pt (encS v)]
def agRow (a : Alt) : List C := [.sl 1 (a.vars.map vnRow), .sl 1 [[.pt ((encAlt a).drop 4)]]]
def grRow (c : Core) : List C := [.sl 1 (nm0 c ++ c.binds.map bnRow), .sl 1 (c.kids.map kpRow ++ c.binds.map bpRow)]
def encGroups (c : Core) : List (List C) := grRow c :: c.alts.map agRow
theorem take_snoc {α : Type} (f : α → List C) (w : List (List C)) {l : List α} {i : Nat} {x : α} (h : l[i]? = some x) : w ++ (l.take i).map f ++ [f x] = w ++ (l.take (i + 1)).map f := by
  rw [take_step h, List.map_append, List.append_assoc]; rfl
theorem c_groupsP (c : Core) (hsz : csize c ≤ 400000) : ImpC Tryz.prog 35 [.one (.c (.pt (encCore c)))] [] (.one (.c (.sl 2 (encGroups c)))) [] := by
  obtain ⟨f, n, s, t, ks, bs, al⟩ := c
  obtain ⟨ihk, ihb, iha, hkl, hbl, hal⟩ := @size_in f n s t ks bs al
  have hkB : (encBinds bs).length = bs.length := by rw [encBinds_map, List.length_map]
  have hkK : (encCores ks).length = ks.length := by rw [encCores_map, List.length_map]
  have hkA : (encAlts al).length = al.length := by rw [encAlts_map, List.length_map]
  have hW : (nm0 (.mk f n s t ks bs al)).length ≤ 1 := by unfold nm0; split <;> simp
  have hW5 : nm0 (.mk f n s t ks bs al) = if f = 5 then [[.pt ((encCore (.mk f n s t ks bs al)).drop 2)]] else [] := rfl
  have hEG : encGroups (.mk f n s t ks bs al) = [.sl 1 (nm0 (.mk f n s t ks bs al) ++ bs.map bnRow), .sl 1 (ks.map kpRow ++ bs.map bpRow)] :: al.map agRow := rfl
  rw [hEG]
  generalize nm0 (.mk f n s t ks bs al) = W at hW hW5 ⊢
  refine impC (n := 123) tok Tryz.func35 rfl rfl rfl ?_
  refine awp_seq (ag [] rfl ?_)
  refine awp_seq (ag [] rfl ?_)
  refine AWp.sub (Sub.ownCell (x := 3) (k := 1) (id := 712) 68 1 rfl rfl rfl) (AWp.sub (Sub.ownCell (x := 3) (k := 0) (id := 711) 74 1 rfl rfl rfl) ?_)
  refine awp_seq (awp_seq (ag [] rfl ?_))
  refine awp_block ?_
  refine awp_loop (fun i : Nat => mk [(0, .one (.c (.pt (encCore (.mk f n s t ks bs al))))), (3, .one (.vp 3 0)), (16, I .i64 ((encCores ks).length : Int)), (17, I .i64 i)] [(3, .var 72 [.hs 711 0 0 0, .hs 712 0 i i]), (711, .arr 74 1 [] 0), (712, .arr 68 1 ((ks.take i).map kpRow) 0)]) (fun i => i ≤ ks.length) (fun i => ks.length - i) 0 (Nat.zero_le _) sl ?_
  intro i hi
  refine awp_seq (ag [] rfl ?_)
  refine awp_seq (awp_cond rfl (fun hb => ?_) (fun hb => ?_))
  · have hlt := ltD hb hkK
    obtain ⟨k, hki⟩ := get_of_lt hlt
    have hki' := encCores_at hki
    have hrows := take_map1 kpRow hki
    refine awp_skip ?_
    refine awp_seq (awp_block (awp_seq (ag [] rfl ?_)))
    refine ag [(7, .row i (encCore k))] rfl ?_
    refine ag [] rfl ?_
    exact ⟨i + 1, hlt, by dsimp only; omega, sl⟩
  have hge := geD hb hkK hi
  subst hge
  rw [List.take_length]
  refine awp_exit ?_
  refine awp_seq (AWp.cut (mk [(0, .one (.c (.pt (encCore (.mk f n s t ks bs al))))), (3, .one (.vp 3 0))] [(3, .var 72 [.hs 711 0 W.length W.length, .hs 712 0 ks.length ks.length]), (711, .arr 74 1 W 0), (712, .arr 68 1 (ks.map kpRow) 0)]) ?_ ?_)
  · refine awp_seq (ag [] rfl ?_)
    refine awp_cond rfl (fun hb => ?_) (fun hb => ?_)
    · have h5 : f = 5 := of_decide_eq_true hb
      rw [if_pos h5] at hW5
      subst hW5
      exact ag [] rfl sl
    · have h5 : ¬ f = 5 := of_decide_eq_false hb
      rw [if_neg h5] at hW5
      subst hW5
      exact awp_skip sl
  clear hW5
  refine awp_seq (awp_seq (ag [] rfl ?_))
  refine awp_block ?_
  refine awp_loop (fun i : Nat => mk [(0, .one (.c (.pt (encCore (.mk f n s t ks bs al))))), (3, .one (.vp 3 0)), (49, I .i64 ((encBinds bs).length : Int)), (50, I .i64 i)] [(3, .var 72 [.hs 711 0 (W.length + i) (W.length + i), .hs 712 0 (ks.length + i) (ks.length + i)]), (711, .arr 74 1 (W ++ (bs.take i).map bnRow) 0), (712, .arr 68 1 (ks.map kpRow ++ (bs.take i).map bpRow) 0)]) (fun i => i ≤ bs.length) (fun i => bs.length - i) 0 (Nat.zero_le _) sl ?_
  intro i hi
  refine awp_seq (ag [] rfl ?_)
  refine awp_seq (awp_cond rfl (fun hb => ?_) (fun hb => ?_))
  · have hlt := ltD hb hkB
    obtain ⟨b, hbi⟩ := get_of_lt hlt
    have hbi' := encBinds_at hbi
    have hr1 := take_snoc bnRow W hbi
    have hr2 := take_snoc bpRow (ks.map kpRow) hbi
    refine awp_skip ?_
    refine awp_seq (awp_block (awp_seq (ag [] rfl ?_)))
    refine awp_seq (ag [(5, .row i (encBind b))] rfl ?_)
    refine ag [] rfl ?_
    refine ag [] rfl ?_
    exact ⟨i + 1, hlt, by dsimp only; omega, sl⟩
  have hge := geD hb hkB hi
  subst hge
  rw [List.take_length]
  have hl1 : (W ++ bs.map bnRow).length = W.length + bs.length := by simp
  have hl2 : (ks.map kpRow ++ bs.map bpRow).length = ks.length + bs.length := by simp
  rw [← hl1, ← hl2]
  generalize W ++ bs.map bnRow = N0
  generalize ks.map kpRow ++ bs.map bpRow = P0
  refine awp_exit ?_
  refine AWp.sub (Sub.freeze (id := 711) rfl) (AWp.sub (Sub.freeze (id := 712) rfl) (AWp.sub (vp 3 [.sl 1 N0, .sl 1 P0]) ?_))
  refine awp_seq (ag [(1, .id 500)] rfl ?_)
  refine awp_seq (awp_seq (ag [] rfl ?_))
  refine awp_block ?_
  refine awp_loop (fun i : Nat => mk [(0, .one (.c (.pt (encCore (.mk f n s t ks bs al))))), (7, .one (.hs 500 0 (1 + i) (1 + i))), (82, I .i64 ((encAlts al).length : Int)), (83, I .i64 i)] [(500, .arr 72 2 ([[.sl 1 N0, .sl 1 P0]] ++ (al.take i).map agRow) 0)]) (fun i => i ≤ al.length) (fun i => al.length - i) 0 (Nat.zero_le _) sl ?_
  intro i hi
  refine awp_seq (ag [] rfl ?_)
  refine awp_seq (awp_cond rfl (fun hb => ?_) (fun hb => ?_))
  · have hlt := ltD hb hkA
    obtain ⟨a, hai⟩ := get_of_lt hlt
    have hai' := encAlts_at hai
    have hav := asizes_mem (List.mem_of_getElem? hai)
    have hvl := vsum_le a
    have hrows := take_snoc agRow [[.sl 1 N0, .sl 1 P0]] hai
    have hvk : (a.vars.map encS).length = a.vars.length := List.length_map _
    have hgl : (([[.sl 1 N0, .sl 1 P0]] : List (List C)) ++ (al.take i).map agRow).length = 1 + i := by
      rw [List.length_append, List.length_map, List.length_take]
      show 1 + min i al.length = _
      omega
    have hall : al.length ≤ 400000 := by omega
    generalize ([[.sl 1 N0, .sl 1 P0]] : List (List C)) ++ (al.take i).map agRow = G at hgl hrows ⊢
    rw [csize] at hsz
    refine awp_skip ?_
    refine awp_seq (awp_block (awp_seq (ag [] rfl ?_)))
    refine awp_seq (ag [(5, .row i (encAlt a))] rfl ?_)
    refine awp_seq (ag [(3, .all)] rfl ?_)
    refine AWp.sub (Sub.ownCell (x := 10) (k := 0) (id := 721) 74 1 rfl rfl rfl) ?_
    refine awp_seq (awp_seq (ag [] rfl ?_))
    refine awp_block ?_
    refine awp_loop (fun j : Nat => mk [(0, .one (.c (.pt (encCore (.mk f n s t ks bs al))))), (7, .one (.hs 500 0 (1 + i) (1 + i))), (9, .one (.c (.pt (encAlt a)))), (10, .one (.vp 10 0)), (82, I .i64 ((encAlts al).length : Int)), (83, I .i64 i), (101, I .i64 ((a.vars.map encS).length : Int)), (102, I .i64 j)] [(500, .arr 72 2 G 0), (10, .var 72 [.hs 721 0 j j, .c (.sl 1 [[.pt ((encAlt a).drop 4)]])]), (721, .arr 74 1 ((a.vars.take j).map vnRow) 0)]) (fun j => j ≤ a.vars.length) (fun j => a.vars.length - j) 0 (Nat.zero_le _) sl ?_
    intro j hj
    refine awp_seq (ag [] rfl ?_)
    refine awp_seq (awp_cond rfl (fun hb => ?_) (fun hb => ?_))
    · have hlt2 := ltD hb hvk
      obtain ⟨v, hv⟩ := get_of_lt hlt2
      have hv' := getEnc encS hv
      have hr3 := take_map1 vnRow hv
      refine awp_skip ?_
      refine awp_seq (awp_block (awp_seq (ag [] rfl ?_)))
      refine ag [(7, .row j (encS v))] rfl ?_
      refine ag [] rfl ?_
      exact ⟨j + 1, hlt2, by dsimp only; omega, sl⟩
    have hge2 := geD hb hvk hj
    subst hge2
    rw [List.take_length]
    have hlv : a.vars.length = (a.vars.map vnRow).length := (List.length_map _).symm
    refine awp_exit ?_
    refine AWp.sub (Sub.freeze (id := 721) rfl) (AWp.sub (vp 10 (agRow a)) ?_)
    refine ag [(2, .all)] rfl ?_
    refine ag [] rfl ?_
    exact ⟨i + 1, hlt, by dsimp only; omega, sl⟩
  have hge := geD hb hkA hi
  subst hge
  rw [List.take_length]
  refine awp_exit ?_
  refine awp_seq (ag [] rfl ?_)
  refine AWp.sub (Sub.freeze (id := 500) rfl) ?_
  exact awp_ret (rtT (hc := hs_all rfl rfl (by simp; omega) rfl))
end Go.Proofs.YtnookidjdjhfhaaGreatDoor

/- HOW MANY NODES (core.Size): the walk. -/
namespace Go.Proofs.YtnookidjdjhfhaaGreatDoor
open Go Go.AM
set_option maxRecDepth 20000

/-- The groups of core: pointers to names, and the parts. -/
def gl (c : Core) : List (List (List C) × List Core) := (nm0 c ++ c.binds.map bnRow, c.kids ++ c.binds.map Bind.body) :: c.alts.map fun a => (a.vars.map vnRow, [a.body])
def glRow (g : List (List C) × List Core) : List C := [.sl 1 g.1, .sl 1 (g.2.map kpRow)]
theorem encGroups_eq (c : Core) : encGroups c = (gl c).map glRow := by
  obtain ⟨f, n, s, t, ks, bs, al⟩ := c
  unfold encGroups gl
  rw [List.map_cons, List.map_map]
  congr 1
  unfold grRow glRow
  rw [List.map_append, List.map_map]
  rfl
mutual
def sizeR : Core → Nat
  | .mk _ _ _ _ ks bs al => 1 + (sizeCs ks + (sizeBs bs + sizeAs al))
def sizeCs : List Core → Nat
  | [] => 0
  | c :: l => sizeR c + sizeCs l
def sizeBs : List Bind → Nat
  | [] => 0
  | .mk _ _ c :: l => sizeR c + sizeBs l
def sizeAs : List Alt → Nat
  | [] => 0
  | .mk _ _ _ _ c :: l => sizeR c + sizeAs l
end
theorem sizeCs_app : ∀ a b, sizeCs (a ++ b) = sizeCs a + sizeCs b
  | [], b => by rw [List.nil_append, sizeCs, Nat.zero_add]
  | x :: a, b => by rw [List.cons_append, sizeCs, sizeCs, sizeCs_app a b, Nat.add_assoc]
theorem sizeBs_map : ∀ l : List Bind, sizeCs (l.map Bind.body) = sizeBs l
  | [] => by rw [List.map_nil, sizeCs, sizeBs]
  | .mk s t c :: l => by rw [List.map_cons, sizeCs, sizeBs, sizeBs_map l]; rfl
def gsum : List (List (List C) × List Core) → Nat
  | [] => 0
  | g :: l => sizeCs g.2 + gsum l
theorem gsum_alts : ∀ l : List Alt, gsum (l.map fun a => (a.vars.map vnRow, [a.body])) = sizeAs l
  | [] => by rw [List.map_nil, gsum, sizeAs]
  | .mk f n s v c :: l => by rw [List.map_cons, gsum, sizeAs, gsum_alts l, sizeCs, sizeCs]; rfl
theorem size_gl (c : Core) : sizeR c = 1 + gsum (gl c) := by
  obtain ⟨f, n, s, t, ks, bs, al⟩ := c
  unfold gl
  rw [gsum, sizeR]
  show _ = 1 + (sizeCs (ks ++ bs.map Bind.body) + gsum (al.map fun a => (a.vars.map vnRow, [a.body])))
  rw [sizeCs_app, sizeBs_map, gsum_alts]
  omega
mutual
theorem size_le : ∀ c : Core, sizeR c ≤ csize c
  | .mk f n s t ks bs al => by rw [sizeR, csize]; have := size_leC ks; have := size_leB bs; have := size_leA al; omega
theorem size_leC : ∀ l : List Core, sizeCs l ≤ csizes l
  | [] => by rw [sizeCs]; exact Nat.zero_le _
  | c :: l => by rw [sizeCs, csizes]; have := size_le c; have := size_leC l; omega
theorem size_leB : ∀ l : List Bind, sizeBs l ≤ bsizes l
  | [] => by rw [sizeBs]; exact Nat.zero_le _
  | .mk s t c :: l => by rw [sizeBs, bsizes, bsize]; have := size_le c; have := size_leB l; omega
theorem size_leA : ∀ l : List Alt, sizeAs l ≤ asizes l
  | [] => by rw [sizeAs]; exact Nat.zero_le _
  | .mk f n s v c :: l => by rw [sizeAs, asizes, asize]; have := size_le c; have := size_leA l; omega
end
theorem gl_in {c : Core} {g : List (List C) × List Core} (h : g ∈ gl c) {x : Core} (hx : x ∈ g.2) : csize x < csize c := by
  obtain ⟨f, n, s, t, ks, bs, al⟩ := c
  obtain ⟨ihk, ihb, iha, hkl, hbl, hal⟩ := @size_in f n s t ks bs al
  unfold gl at h
  rcases List.mem_cons.1 h with rfl | h
  · rcases List.mem_append.1 hx with hx | hx
    · exact ihk x hx
    · obtain ⟨b, hb, rfl⟩ := List.mem_map.1 hx
      exact ihb b hb
  · obtain ⟨a, ha, rfl⟩ := List.mem_map.1 h
    rw [List.mem_singleton.1 hx]
    exact iha a ha
theorem gl_len (c : Core) : (gl c).length ≤ csize c ∧ ∀ g ∈ gl c, g.2.length ≤ csize c ∧ g.1.length ≤ csize c := by
  obtain ⟨f, n, s, t, ks, bs, al⟩ := c
  have h1 := csizes_len ks
  have h2 := bsizes_len bs
  have h3 := asizes_len al
  have hW : (nm0 (.mk f n s t ks bs al)).length ≤ 1 := by unfold nm0; split <;> simp
  rw [csize]
  unfold gl
  refine ⟨?_, fun g hg => ?_⟩
  · rw [List.length_cons, List.length_map]
    show al.length + 1 ≤ _
    omega
  · rcases List.mem_cons.1 hg with rfl | hg
    · rw [List.length_append, List.length_append, List.length_map, List.length_map]
      show ks.length + bs.length ≤ _ ∧ _ + bs.length ≤ _
      omega
    · obtain ⟨a, ha, rfl⟩ := List.mem_map.1 hg
      have h4 := asizes_mem (show a ∈ al from ha)
      have h5 := vsum_le a
      have h6 : 1 ≤ asize a := by obtain ⟨f, n, s, v, c⟩ := a; rw [asize]; omega
      show [a.body].length ≤ _ ∧ (a.vars.map vnRow).length ≤ _
      rw [List.length_map, List.length_singleton]
      omega
theorem gsum_take {l : List (List (List C) × List Core)} {i : Nat} {g : List (List C) × List Core} (h : l[i]? = some g) : gsum (l.take (i + 1)) = gsum (l.take i) + sizeCs g.2 := by
  have app : ∀ a b, gsum (a ++ b) = gsum a + gsum b := by
    intro a b
    induction a with
    | nil => rw [List.nil_append, gsum, Nat.zero_add]
    | cons x a ih => rw [List.cons_append, gsum, gsum, ih, Nat.add_assoc]
  rw [take_step h, app, gsum, gsum, Nat.add_zero]
theorem sizeCs_take {l : List Core} {i : Nat} {x : Core} (h : l[i]? = some x) : sizeCs (l.take (i + 1)) = sizeCs (l.take i) + sizeR x := by
  rw [take_step h, sizeCs_app, sizeCs, sizeCs, Nat.add_zero]
theorem gsum_le (l : List (List (List C) × List Core)) (i : Nat) : gsum (l.take i) ≤ gsum l := by
  induction l generalizing i with
  | nil => simp
  | cons g l ih =>
    cases i with
    | zero => simp [gsum]
    | succ i => rw [List.take_succ_cons, gsum, gsum]; have := ih i; omega
theorem sizeCs_le (l : List Core) (i : Nat) : sizeCs (l.take i) ≤ sizeCs l := by
  induction l generalizing i with
  | nil => simp
  | cons g l ih =>
    cases i with
    | zero => simp [sizeCs]
    | succ i => rw [List.take_succ_cons, sizeCs, sizeCs]; have := ih i; omega
def SzSpec (c : Core) : Prop := csize c ≤ 400000 → ImpC Tryz.prog 17 [.pa (encCore c)] [] (I .i64 (sizeR c : Nat)) []
theorem c_size_step (c : Core) (ih : ∀ x, csize x < csize c → SzSpec x) : SzSpec c := by
  intro hsz
  have hgr := c_groupsP c hsz
  have hsi := size_gl c
  have hsl := size_le c
  have hin := fun {g} (h : g ∈ gl c) {x} hx => @gl_in c g h x hx
  obtain ⟨hgl, hgm⟩ := gl_len c
  rw [encGroups_eq] at hgr
  rw [hsi] at hsl ⊢
  generalize gl c = L at hgr hsi hsl hin hgl hgm ⊢
  have hkL : (L.map glRow).length = L.length := List.length_map _
  refine impC (n := 30) tok Tryz.func17 rfl rfl rfl ?_
  refine awp_seq (ag [] rfl ?_)
  refine awp_seq (ag [] rfl ?_)
  refine AWp.sub (Sub.fvar (id := 1) (l := encCore c) rfl (by simp [keys])) ?_
  refine AWp.sub (st2 := mk [(1, .one (.c (.pt (encCore c)))), (3, I .i64 1)] []) sl ?_
  refine awp_seq (awp_seq (awp_rg mixed ?_))
  refine kc hgr ?_
  refine ak 2 [] rfl ?_
  refine az ?_
  refine awp_block ?_
  refine awp_loop (fun i : Nat => mk [(3, I .i64 ((1 + gsum (L.take i) : Nat) : Int)), (8, .one (.c (.sl 2 (L.map glRow)))), (9, I .i64 ((L.map glRow).length : Int)), (10, I .i64 i)] []) (fun i => i ≤ L.length) (fun i => L.length - i) 0 (Nat.zero_le _) sl ?_
  intro i hi
  refine awp_seq (ag [] rfl ?_)
  refine awp_seq (awp_cond rfl (fun hb => ?_) (fun hb => ?_))
  · have hlt := ltD hb hkL
    obtain ⟨g, hg⟩ := get_of_lt hlt
    have hg' := getEnc glRow hg
    have hgi := List.mem_of_getElem? hg
    obtain ⟨hl1, hl2⟩ := hgm g hgi
    have hgt := gsum_take hg
    have hgl1 := gsum_le L (i + 1)
    have hkG : (g.2.map kpRow).length = g.2.length := List.length_map _
    obtain ⟨G1, G⟩ := g
    dsimp only at hl1 hl2 hgt hkG
    refine awp_skip ?_
    refine awp_seq (awp_block (awp_seq (ag [(0, .row i (glRow (G1, G)))] rfl ?_)))
    refine awp_seq (ag [] rfl ?_)
    refine awp_block ?_
    refine awp_loop (fun j : Nat => mk [(3, I .i64 ((1 + gsum (L.take i) + sizeCs (G.take j) : Nat) : Int)), (8, .one (.c (.sl 2 (L.map glRow)))), (9, I .i64 ((L.map glRow).length : Int)), (10, I .i64 i), (15, .one (.c (.sl 1 (G.map kpRow)))), (16, I .i64 ((G.map kpRow).length : Int)), (17, I .i64 j)] []) (fun j => j ≤ G.length) (fun j => G.length - j) 0 (Nat.zero_le _) sl ?_
    intro j hj
    refine awp_seq (ag [] rfl ?_)
    refine awp_seq (awp_cond rfl (fun hb => ?_) (fun hb => ?_))
    · have hlt2 := ltD hb hkG
      obtain ⟨p, hp⟩ := get_of_lt hlt2
      have hp' := getEnc kpRow hp
      have hpc := hin hgi (List.mem_of_getElem? hp)
      have hc := ih p hpc (by omega)
      have hst := sizeCs_take hp
      have hsl2 := sizeCs_le G (j + 1)
      have hadd : ((1 + gsum (L.take i) + sizeCs (G.take j) : Nat) : Int) + ((sizeR p : Nat) : Int) = ((1 + gsum (L.take i) + sizeCs (G.take (j + 1)) : Nat) : Int) := by rw [hst]; omega
      refine awp_skip ?_
      refine awp_seq (awp_block (awp_seq (ag [(0, .row j (kpRow p))] rfl ?_)))
      refine ag [(4, .pc (I .i64 (sizeR p : Nat)))] rfl ?_
      refine ag [] rfl ?_
      refine ⟨j + 1, hlt2, by dsimp only; omega, ?_⟩
      dsimp only
      rw [← hadd]
      exact sl
    have hge2 := geD hb hkG hj
    subst hge2
    rw [List.take_length]
    refine awp_exit ?_
    refine ag [] rfl ?_
    refine ⟨i + 1, hlt, by dsimp only; omega, ?_⟩
    dsimp only
    rw [show 1 + gsum (L.take (i + 1)) = 1 + gsum (L.take i) + sizeCs G by rw [hgt]; omega]
    exact sl
  have hge := geD hb hkL hi
  subst hge
  rw [List.take_length]
  refine awp_exit ?_
  refine awp_seq (ag [] rfl ?_)
  exact awp_ret rtT
theorem c_size : ∀ (n : Nat) (c : Core), csize c ≤ n → SzSpec c
  | 0, c, h => by have := csize_pos c; omega
  | n + 1, c, h => c_size_step c fun x hx => c_size n x (by omega)
end Go.Proofs.YtnookidjdjhfhaaGreatDoor
