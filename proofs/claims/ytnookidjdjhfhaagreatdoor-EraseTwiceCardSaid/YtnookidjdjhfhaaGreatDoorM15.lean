/-
  Texts Ld1, Ld2, Ld3, Ld4 in one.
-/
import Derived.Test.YtnookidjdjhfhaaGreatDoorM14
/- TEXTS THAT ARE NOT THERE YET are put behind others (core.more); is a name among those that pointers lead to. -/
namespace Go.Proofs.YtnookidjdjhfhaaGreatDoor
open Go Go.AM
set_option maxRecDepth 20000

def mor1 (o : List Str) (s : Str) : List Str := if s ∈ o then o else o ++ [s]
def morR (o l : List Str) : List Str := l.foldl mor1 o
theorem morR_step (o : List Str) {l : List Str} {i : Nat} {s : Str} (h : l[i]? = some s) : morR o (l.take (i + 1)) = mor1 (morR o (l.take i)) s := by
  unfold morR; rw [take_step h, List.foldl_append]; rfl
theorem mor1_len (o : List Str) (s : Str) : (mor1 o s).length ≤ o.length + 1 := by unfold mor1; split <;> simp
theorem morR_len (o : List Str) : ∀ l : List Str, (morR o l).length ≤ o.length + l.length := by
  intro l
  induction l generalizing o with
  | nil => exact Nat.le_refl _
  | cons s l ih =>
    have h1 := ih (mor1 o s)
    have h2 := mor1_len o s
    show (morR (mor1 o s) l).length ≤ _
    rw [List.length_cons]; omega
def ouO (o : List Str) : AObj := .arr 9 1 (o.map encS) 1
def ouV (o : List Str) : V := .one (.hs 500 0 o.length o.length)
theorem c_more (o l : List Str) (h : o.length + l.length ≤ 8000000) : ImpC Tryz.prog 38 [ouV o, strsV l] [(500, ouO o)] (ouV (morR o l)) [(500, ouO (morR o l))] := by
  have hkl : (l.map encS).length = l.length := List.length_map _
  refine impC (n := 23) tok Tryz.func38 rfl rfl rfl ?_
  refine awp_seq (ag [] rfl ?_)
  refine awp_seq (awp_seq (ag [] rfl ?_))
  refine awp_block ?_
  refine awp_loop (fun i : Nat => mk [(0, ouV (morR o (l.take i))), (7, strsV l), (8, I .i64 ((l.map encS).length : Int)), (9, I .i64 i)] [(500, ouO (morR o (l.take i)))]) (fun i => i ≤ l.length) (fun i => l.length - i) 0 (Nat.zero_le _) sl ?_
  intro i hi
  refine awp_seq (ag [] rfl ?_)
  refine awp_seq (awp_cond rfl (fun hb => ?_) (fun hb => ?_))
  · have hlt := ltD hb hkl
    obtain ⟨s, hs⟩ := get_of_lt hlt
    have hs' := getEnc encS hs
    have hst := morR_step o hs
    have hml := morR_len o (l.take i)
    rw [List.length_take] at hml
    generalize morR o (l.take i) = x at hst hml ⊢
    have hco := c_contains x s (by omega)
    refine awp_skip ?_
    refine awp_seq (awp_block ?_)
    refine awp_seq (ag [(0, .row i (encS s))] rfl ?_)
    refine AWp.sub (Sub.freeze (id := 500) rfl) ?_
    refine awp_seq (ag [(2, .pc (B (decide (s ∈ x))))] rfl ?_)
    refine awp_cond rfl (fun hb => ?_) (fun hb => ?_)
    · have hin : ¬ s ∈ x := by simpa using hb
      rw [mor1, if_neg hin] at hst
      refine ag [] rfl ?_
      refine ag [] rfl ?_
      refine ⟨i + 1, hlt, by dsimp only; omega, ?_⟩
      dsimp only
      rw [hst]
      exact sl (he := ⟨Go.AM.hs_ren (by simp) (by simp), rfl, rfl, rfl, trivial⟩) (hh := ⟨⟨_, rfl, by first | exact Go.AM.Ole.arrE (by simp; rfl) | exact Go.AM.Ole.arrS (by simp; rfl)⟩, trivial⟩)
    · have hin : s ∈ x := by simpa using hb
      rw [mor1, if_pos hin] at hst
      refine awp_skip ?_
      refine ag [] rfl ?_
      refine ⟨i + 1, hlt, by dsimp only; omega, ?_⟩
      dsimp only
      rw [hst]
      exact sl
  have hge := geD hb hkl hi
  subst hge
  rw [List.take_length]
  refine awp_exit ?_
  refine awp_seq (ag [] rfl ?_)
  exact awp_ret rtT
/-- A pointer to a name. -/
def nrow (p : Str × List C) : List C := [.pt (.str p.1 :: p.2)]
def suO (s : Str) : AObj := .var 9 [.c (.str s)]
theorem c_free1 (p : Str × List C) (s : Str) : ImpC Tryz.prog 37 [.one (.c (.pt (.str p.1 :: p.2))), .one (.vp 9 0)] [(9, suO s)] (B (decide (p.1 = s))) [(9, suO s)] := by
  refine impC (n := 9) tok Tryz.func37 rfl rfl rfl ?_
  refine awp_seq (ag [] rfl ?_)
  refine awp_seq (ag [] rfl ?_)
  exact awp_ret rtT
theorem c_idxp (l : List (Str × List C)) (s : Str) (hl : l.length ≤ 1000000000) : ImpC Tryz.prog 58 [.one (.c (.sl 1 (l.map nrow))), .one (.clo 37 [.vp 9 0])] [(9, suO s)] (I .i64 (idxR (fun p => decide (p.1 = s)) l 0)) [(9, suO s)] := by
  have hkl : (l.map nrow).length = l.length := List.length_map _
  generalize hP : (fun p : Str × List C => decide (p.1 = s)) = P
  refine impC (n := 19) tok Tryz.func58 rfl rfl rfl ?_
  refine awp_seq (ag [] rfl ?_)
  refine awp_seq (awp_seq (ag [] rfl ?_))
  refine awp_block ?_
  refine awp_loop (fun i : Nat => mk [(0, .one (.c (.sl 1 (l.map nrow)))), (1, .one (.clo 37 [.vp 9 0])), (7, I .i64 ((l.map nrow).length : Int)), (8, I .i64 i)] [(9, suO s)]) (fun i => i ≤ l.length ∧ idxR P l 0 = idxR P (l.drop i) i) (fun i => l.length - i) 0 ⟨Nat.zero_le _, rfl⟩ sl ?_
  intro i ⟨hi, hid⟩
  refine awp_seq (ag [] rfl ?_)
  refine awp_seq (awp_cond rfl (fun hb => ?_) (fun hb => ?_))
  · have hlt := ltD hb hkl
    obtain ⟨p, hp⟩ := get_of_lt hlt
    have hp' := getEnc nrow hp
    have hc : ImpC Tryz.prog 37 ([.one (.c (.pt (.str p.1 :: p.2)))] ++ ([.vp 9 0] : List R).map V.one) [(9, suO s)] (B (P p)) [(9, suO s)] := by rw [← hP]; exact c_free1 p s
    have hdr : l.drop i = p :: l.drop (i + 1) := by rw [List.drop_eq_getElem_cons hlt, (List.getElem?_eq_some_iff.1 hp).2]
    rw [hdr, idxR] at hid
    refine awp_skip ?_
    refine awp_seq (awp_block (awp_seq (ag [] rfl ?_)))
    refine awp_seq (awp_rg mixed ?_)
    refine ak 5 [(3, .row i (nrow p))] rfl ?_
    refine kv (args := [.one (.c (.pt (.str p.1 :: p.2)))]) hc ?_
    refine az ?_
    refine awp_cond rfl (fun hb => ?_) (fun hb => ?_)
    · have hb : P p = true := hb
      rw [if_pos hb] at hid
      rw [hid]
      refine awp_seq (ag [] rfl ?_)
      exact awp_ret rtT
    · have hb : P p = false := hb
      rw [if_neg (by rw [hb]; exact Bool.false_ne_true)] at hid
      refine awp_skip ?_
      refine ag [] rfl ?_
      exact ⟨i + 1, ⟨hlt, hid⟩, by dsimp only; omega, sl⟩
  have hge := geD hb hkl hi
  subst hge
  rw [List.drop_length, idxR] at hid
  rw [hid]
  refine awp_exit ?_
  refine awp_seq (ag [] rfl ?_)
  exact awp_ret (rtT (v := I .i64 (-1)) (hc := .refl))
theorem c_conp (l : List (Str × List C)) (s : Str) (hl : l.length ≤ 1000000000) : ImpC Tryz.prog 36 [.one (.c (.sl 1 (l.map nrow))), .one (.clo 37 [.vp 9 0])] [(9, suO s)] (B (decide (s ∈ l.map (·.1)))) [(9, suO s)] := by
  have h := c_idxp l s hl
  have hany : decide (s ∈ l.map (·.1)) = l.any fun p => decide (p.1 = s) := by
    rw [Bool.eq_iff_iff]
    simp only [decide_eq_true_eq, List.any_eq_true, List.mem_map]
  rw [hany, ← idx_any _ l 0]
  refine impC (n := 9) tok Tryz.func36 rfl rfl rfl ?_
  refine awp_seq (ag [] rfl ?_)
  refine awp_seq (awp_rg mixed ?_)
  refine ak 2 [] rfl ?_
  refine kc h ?_
  refine ak 2 [] rfl ?_
  refine az ?_
  exact awp_ret rtT
end Go.Proofs.YtnookidjdjhfhaaGreatDoor

/- WHICH NAMES ARE FREE (core.Free): the walk. -/
namespace Go.Proofs.YtnookidjdjhfhaaGreatDoor
open Go Go.AM
set_option maxRecDepth 20000

/-- The groups again: names with what lies behind them, and the parts. -/
def gm (c : Core) : List (List (Str × List C) × List Core) :=
  ((if c.form = 5 then [(c.name, (encCore c).drop 3)] else []) ++ c.binds.map (fun b => (b.name, (encBind b).drop 1)), c.kids ++ c.binds.map Bind.body) :: c.alts.map fun a => (a.vars.map (fun v => (v, [])), [a.body])
def gmG (g : List (Str × List C) × List Core) : List (List C) × List Core := (g.1.map nrow, g.2)
theorem gl_gm (c : Core) : gl c = (gm c).map gmG := by
  obtain ⟨f, n, s, t, ks, bs, al⟩ := c
  unfold gl gm
  rw [List.map_cons, List.map_map]
  congr 1
  · unfold gmG
    rw [List.map_append, List.map_map]
    congr 2
    unfold nm0
    split <;> rfl
  · congr 1
    funext a
    unfold gmG
    simp only [Function.comp, List.map_map]
    rfl
/-- Names that are free in parts, behind those that were met, but some that are given. -/
def pfG (G : List Str) (o : List Str) (s : Str) : List Str := if s ∈ G then o else mor1 o s
def pfP (G : List Str) (o l : List Str) : List Str := l.foldl (pfG G) o
def gvN (f : Int) (s : Str) (bs : List Bind) : List Str := (if f = 5 then [s] else []) ++ bs.map Bind.name
mutual
def pfR : Core → List Str
  | .mk f _ s _ ks bs al => if f = 1 then [s] else pfAs al (pfBs (gvN f s bs) bs (pfCs (gvN f s bs) ks []))
def pfCs (G : List Str) : List Core → List Str → List Str
  | [], o => o
  | c :: l, o => pfCs G l (pfP G o (pfR c))
def pfBs (G : List Str) : List Bind → List Str → List Str
  | [], o => o
  | .mk _ _ c :: l, o => pfBs G l (pfP G o (pfR c))
def pfAs : List Alt → List Str → List Str
  | [], o => o
  | .mk _ _ _ v c :: l, o => pfAs l (pfP v o (pfR c))
end
def pfL (G : List Str) (l : List Core) (o : List Str) : List Str := l.foldl (fun o c => pfP G o (pfR c)) o
def pfM (L : List (List (Str × List C) × List Core)) (o : List Str) : List Str := L.foldl (fun o g => pfL (g.1.map (·.1)) g.2 o) o
theorem pfCs_eq (G : List Str) : ∀ (l : List Core) (o : List Str), pfCs G l o = pfL G l o
  | [], o => by rw [pfCs]; rfl
  | c :: l, o => by rw [pfCs, pfCs_eq G l]; rfl
theorem pfBs_eq (G : List Str) : ∀ (l : List Bind) (o : List Str), pfBs G l o = pfL G (l.map Bind.body) o
  | [], o => by rw [pfBs]; rfl
  | .mk s t c :: l, o => by rw [pfBs, pfBs_eq G l]; rfl
theorem pfAs_eq : ∀ (l : List Alt) (o : List Str), pfAs l o = pfM (l.map fun a => (a.vars.map (fun v => (v, [])), [a.body])) o
  | [], o => by rw [pfAs]; rfl
  | .mk f n s v c :: l, o => by
    rw [pfAs, pfAs_eq l]
    have : (v.map (fun v => ((v, []) : Str × List C))).map (·.1) = v := by rw [List.map_map]; exact List.map_id _
    show _ = pfM _ (pfL ((v.map (fun v => ((v, []) : Str × List C))).map (·.1)) [c] o)
    rw [this]
    rfl
theorem pf_gm (c : Core) (h : ¬ c.form = 1) : pfR c = pfM (gm c) [] := by
  obtain ⟨f, n, s, t, ks, bs, al⟩ := c
  have h : ¬ f = 1 := h
  rw [pfR, if_neg h, pfAs_eq, pfBs_eq, pfCs_eq]
  unfold gm
  show _ = pfM _ (pfL _ _ [])
  congr 1
  unfold pfL
  rw [List.foldl_append]
  have : gvN f s bs = (((if f = 5 then [((s, (encCore (.mk f n s t ks bs al)).drop 3) : Str × List C)] else []) ++ bs.map (fun b => (b.name, (encBind b).drop 1))).map (·.1)) := by
    unfold gvN
    rw [List.map_append, List.map_map]
    congr 1
    split <;> rfl
  rw [this]
  rfl
theorem pfG_len (G o : List Str) (s : Str) : (pfG G o s).length ≤ o.length + 1 := by
  unfold pfG; split
  · omega
  · exact mor1_len o s
theorem pfP_len (G o : List Str) : ∀ l : List Str, (pfP G o l).length ≤ o.length + l.length := by
  intro l
  induction l generalizing o with
  | nil => exact Nat.le_refl _
  | cons s l ih =>
    have h1 := ih (pfG G o s)
    have h2 := pfG_len G o s
    show (pfP G (pfG G o s) l).length ≤ _
    rw [List.length_cons]; omega
mutual
theorem pf_le : ∀ c : Core, (pfR c).length ≤ csize c
  | .mk f n s t ks bs al => by
    rw [pfR, csize]
    split
    · simp; omega
    · have h1 := pf_leC (gvN f s bs) ks []
      have h2 := pf_leB (gvN f s bs) bs (pfCs (gvN f s bs) ks [])
      have h3 := pf_leA al (pfBs (gvN f s bs) bs (pfCs (gvN f s bs) ks []))
      simp only [List.length_nil] at h1
      omega
theorem pf_leC (G : List Str) : ∀ (l : List Core) (o : List Str), (pfCs G l o).length ≤ o.length + csizes l
  | [], o => by rw [pfCs]; omega
  | c :: l, o => by
    rw [pfCs, csizes]
    have h1 := pf_leC G l (pfP G o (pfR c))
    have h2 := pfP_len G o (pfR c)
    have h3 := pf_le c
    omega
theorem pf_leB (G : List Str) : ∀ (l : List Bind) (o : List Str), (pfBs G l o).length ≤ o.length + bsizes l
  | [], o => by rw [pfBs]; omega
  | .mk s t c :: l, o => by
    rw [pfBs, bsizes, bsize]
    have h1 := pf_leB G l (pfP G o (pfR c))
    have h2 := pfP_len G o (pfR c)
    have h3 := pf_le c
    omega
theorem pf_leA : ∀ (l : List Alt) (o : List Str), (pfAs l o).length ≤ o.length + asizes l
  | [], o => by rw [pfAs]; omega
  | .mk f n s v c :: l, o => by
    rw [pfAs, asizes, asize]
    have h1 := pf_leA l (pfP v o (pfR c))
    have h2 := pfP_len v o (pfR c)
    have h3 := pf_le c
    omega
end
theorem pfP_step (G o : List Str) {l : List Str} {i : Nat} {s : Str} (h : l[i]? = some s) : pfP G o (l.take (i + 1)) = pfG G (pfP G o (l.take i)) s := by
  unfold pfP; rw [take_step h, List.foldl_append]; rfl
theorem pfL_step (G o : List Str) {l : List Core} {i : Nat} {c : Core} (h : l[i]? = some c) : pfL G (l.take (i + 1)) o = pfP G (pfL G (l.take i) o) (pfR c) := by
  unfold pfL; rw [take_step h, List.foldl_append]; rfl
theorem pfM_step (o : List Str) {l : List (List (Str × List C) × List Core)} {i : Nat} {g : List (Str × List C) × List Core} (h : l[i]? = some g) : pfM (l.take (i + 1)) o = pfL (g.1.map (·.1)) g.2 (pfM (l.take i) o) := by
  unfold pfM; rw [take_step h, List.foldl_append]; rfl
/-- All that is met stays few. -/
theorem pfL_len (G : List Str) : ∀ (l : List Core) (o : List Str), (pfL G l o).length ≤ o.length + csizes l := fun l o => by rw [← pfCs_eq]; exact pf_leC G l o
def gcs : List (List (Str × List C) × List Core) → Nat
  | [] => 0
  | g :: l => csizes g.2 + gcs l
theorem pfM_len : ∀ (L : List (List (Str × List C) × List Core)) (o : List Str), (pfM L o).length ≤ o.length + gcs L
  | [], o => Nat.le_refl _
  | g :: L, o => by
    have h1 := pfM_len L (pfL (g.1.map (·.1)) g.2 o)
    have h2 := pfL_len (g.1.map (·.1)) g.2 o
    show (pfM L (pfL (g.1.map (·.1)) g.2 o)).length ≤ _
    rw [gcs]; omega
theorem csizes_app : ∀ a b : List Core, csizes (a ++ b) = csizes a + csizes b
  | [], b => by rw [List.nil_append, csizes, Nat.zero_add]
  | x :: a, b => by rw [List.cons_append, csizes, csizes, csizes_app a b, Nat.add_assoc]
theorem csizes_bs : ∀ l : List Bind, csizes (l.map Bind.body) ≤ bsizes l
  | [] => by rw [List.map_nil, csizes]; exact Nat.zero_le _
  | .mk s t c :: l => by rw [List.map_cons, csizes, bsizes, bsize]; have := csizes_bs l; show csize c + _ ≤ _; omega
theorem gcs_al : ∀ l : List Alt, gcs (l.map fun a => (a.vars.map (fun v => (v, [])), [a.body])) ≤ asizes l
  | [] => by rw [List.map_nil, gcs]; exact Nat.zero_le _
  | .mk f n s v c :: l => by rw [List.map_cons, gcs, asizes, asize, csizes, csizes]; have := gcs_al l; show csize c + 0 + _ ≤ _; omega
theorem gcs_le (c : Core) : gcs (gm c) ≤ csize c := by
  obtain ⟨f, n, s, t, ks, bs, al⟩ := c
  unfold gm
  rw [gcs, csize]
  have h1 := csizes_app ks (bs.map Bind.body)
  have h2 := csizes_bs bs
  have h3 := gcs_al al
  show csizes (ks ++ bs.map Bind.body) + gcs (al.map fun a => (a.vars.map (fun v => (v, [])), [a.body])) ≤ _
  omega
theorem gcs_app : ∀ a b, gcs (a ++ b) = gcs a + gcs b
  | [], b => by rw [List.nil_append, gcs, Nat.zero_add]
  | x :: a, b => by rw [List.cons_append, gcs, gcs, gcs_app a b, Nat.add_assoc]
theorem gcs_at {L : List (List (Str × List C) × List Core)} {i : Nat} {g : List (Str × List C) × List Core} (h : L[i]? = some g) : gcs (L.take i) + csizes g.2 ≤ gcs L := by
  have h1 := List.take_append_drop (i + 1) L
  have h2 := gcs_app (L.take (i + 1)) (L.drop (i + 1))
  rw [h1, take_step h, gcs_app] at h2
  simp only [gcs] at h2
  omega
theorem csizes_at {l : List Core} {i : Nat} {c : Core} (h : l[i]? = some c) : csizes (l.take i) + csize c ≤ csizes l := by
  have h1 := List.take_append_drop (i + 1) l
  have h2 := csizes_app (l.take (i + 1)) (l.drop (i + 1))
  rw [h1, take_step h, csizes_app] at h2
  simp only [csizes] at h2
  omega
def PfSpec (c : Core) : Prop := csize c ≤ 400000 → ImpC Tryz.prog 15 [.pa (encCore c)] [] (strsV (pfR c)) []
theorem c_pfree_step (c : Core) (ih : ∀ x, csize x < csize c → PfSpec x) : PfSpec c := by
  intro hsz
  by_cases h1 : c.form = 1
  · obtain ⟨f, n, s, t, ks, bs, al⟩ := c
    have h1 : f = 1 := h1
    subst h1
    rw [pfR, if_pos rfl]
    refine impC (n := 51) tok Tryz.func15 rfl rfl rfl ?_
    refine awp_seq (ag [] rfl ?_)
    refine awp_seq (awp_seq (ag [] rfl ?_))
    refine awp_cond rfl (fun _ => ?_) (fun hb => by cases hb)
    refine awp_seq (ag [(2, .all)] rfl ?_)
    exact awp_ret rtT
  have hgr := c_groupsP c hsz
  have hpf := pf_gm c h1
  have hin : ∀ g ∈ gm c, ∀ x ∈ g.2, csize x < csize c := fun g hg x hx => gl_in (g := gmG g) (by rw [gl_gm]; exact List.mem_map.2 ⟨g, hg, rfl⟩) hx
  obtain ⟨hgl, hgm⟩ := gl_len c
  rw [gl_gm, List.length_map] at hgl
  have hgm2 : ∀ g ∈ gm c, g.2.length ≤ csize c ∧ g.1.length ≤ csize c := fun g hg => by
    have := hgm (gmG g) (by rw [gl_gm]; exact List.mem_map.2 ⟨g, hg, rfl⟩)
    unfold gmG at this
    rw [List.length_map] at this
    exact this
  have hgc := gcs_le c
  rw [encGroups_eq, gl_gm, List.map_map] at hgr
  rw [hpf]
  clear hpf hgm
  generalize gm c = L at hgr hin hgl hgm2 hgc ⊢
  have hkL : (L.map (glRow ∘ gmG)).length = L.length := List.length_map _
  refine impC (n := 51) tok Tryz.func15 rfl rfl rfl ?_
  refine awp_seq (ag [] rfl ?_)
  refine awp_seq (awp_seq (ag [] rfl ?_))
  refine awp_cond rfl (fun hb => absurd (of_decide_eq_true hb) h1) (fun _ => ?_)
  refine awp_skip ?_
  refine awp_seq (ag [] rfl ?_)
  refine AWp.sub (Sub.fvar (id := 1) (l := encCore c) rfl (by simp [keys])) ?_
  refine AWp.sub (st2 := mk [(1, .one (.c (.pt (encCore c)))), (3, .one (.c .nl))] []) sl ?_
  refine AWp.sub (Sub.own (t := 3) (id := 500) 9 1 rfl rfl) ?_
  refine awp_seq (awp_seq (awp_rg mixed ?_))
  refine kc hgr ?_
  refine ak 2 [] rfl ?_
  refine az ?_
  refine awp_block ?_
  refine awp_loop (fun i : Nat => mk [(3, ouV (pfM (L.take i) [])), (16, .one (.c (.sl 2 (L.map (glRow ∘ gmG))))), (17, I .i64 ((L.map (glRow ∘ gmG)).length : Int)), (18, I .i64 i)] [(500, ouO (pfM (L.take i) []))]) (fun i => i ≤ L.length) (fun i => L.length - i) 0 (Nat.zero_le _) sl ?_
  intro i hi
  refine awp_seq (ag [] rfl ?_)
  refine awp_seq (awp_cond rfl (fun hb => ?_) (fun hb => ?_))
  · have hlt := ltD hb hkL
    obtain ⟨g, hg⟩ := get_of_lt hlt
    have hg' := getEnc (glRow ∘ gmG) hg
    have hgi := List.mem_of_getElem? hg
    obtain ⟨hl1, hl2⟩ := hgm2 g hgi
    have hst := pfM_step [] hg
    have hml := pfM_len (L.take i) []
    have hga := gcs_at hg
    simp only [List.length_nil] at hml
    have hinG := hin g hgi
    have hkG : (g.2.map kpRow).length = g.2.length := List.length_map _
    obtain ⟨G1, G⟩ := g
    have hg' : (L.map (glRow ∘ gmG))[i]? = some [.sl 1 (G1.map nrow), .sl 1 (G.map kpRow)] := hg'
    dsimp only at hl1 hl2 hst hkG hga hinG
    generalize hG0 : G1.map (·.1) = G0 at hst
    generalize pfM (L.take i) [] = x0 at hst hml ⊢
    refine awp_skip ?_
    refine awp_seq (awp_block (awp_seq (ag [(0, .row i [.sl 1 (G1.map nrow), .sl 1 (G.map kpRow)])] rfl ?_)))
    refine awp_seq (ag [] rfl ?_)
    refine awp_block ?_
    refine awp_loop (fun j : Nat => mk [(3, ouV (pfL G0 (G.take j) x0)), (5, .one (.vp 5 0)), (16, .one (.c (.sl 2 (L.map (glRow ∘ gmG))))), (17, I .i64 ((L.map (glRow ∘ gmG)).length : Int)), (18, I .i64 i), (23, .one (.c (.sl 1 (G.map kpRow)))), (24, I .i64 ((G.map kpRow).length : Int)), (25, I .i64 j)] [(5, .var 72 [.c (.sl 1 (G1.map nrow)), .c (.sl 1 (G.map kpRow))]), (500, ouO (pfL G0 (G.take j) x0))]) (fun j => j ≤ G.length) (fun j => G.length - j) 0 (Nat.zero_le _) sl ?_
    intro j hj
    refine awp_seq (ag [] rfl ?_)
    refine awp_seq (awp_cond rfl (fun hb => ?_) (fun hb => ?_))
    · have hlt2 := ltD hb hkG
      obtain ⟨p, hp⟩ := get_of_lt hlt2
      have hp' := getEnc kpRow hp
      have hpi := List.mem_of_getElem? hp
      have hpc := hinG p hpi
      have hc := ih p hpc (by omega)
      have hst2 := pfL_step G0 x0 hp
      have hml2 := pfL_len G0 (G.take j) x0
      have hca := csizes_at hp
      have hple := pf_le p
      generalize pfL G0 (G.take j) x0 = x1 at hst2 hml2 ⊢
      generalize pfR p = F at hc hst2 hple
      have hkF : (F.map encS).length = F.length := List.length_map _
      refine awp_skip ?_
      refine awp_seq (awp_block (awp_seq (ag [(0, .row j (kpRow p))] rfl ?_)))
      refine awp_seq (ag [(3, .pc (strsV F))] rfl ?_)
      refine awp_block ?_
      refine awp_loop (fun k : Nat => mk [(3, ouV (pfP G0 x1 (F.take k))), (5, .one (.vp 5 0)), (16, .one (.c (.sl 2 (L.map (glRow ∘ gmG))))), (17, I .i64 ((L.map (glRow ∘ gmG)).length : Int)), (18, I .i64 i), (23, .one (.c (.sl 1 (G.map kpRow)))), (24, I .i64 ((G.map kpRow).length : Int)), (25, I .i64 j), (32, strsV F), (33, I .i64 ((F.map encS).length : Int)), (34, I .i64 k)] [(5, .var 72 [.c (.sl 1 (G1.map nrow)), .c (.sl 1 (G.map kpRow))]), (500, ouO (pfP G0 x1 (F.take k)))]) (fun k => k ≤ F.length) (fun k => F.length - k) 0 (Nat.zero_le _) sl ?_
      intro k hk
      refine awp_seq (ag [] rfl ?_)
      refine awp_seq (awp_cond rfl (fun hb => ?_) (fun hb => ?_))
      · have hlt3 := ltD hb hkF
        obtain ⟨s, hs⟩ := get_of_lt hlt3
        have hs' := getEnc encS hs
        have hst3 := pfP_step G0 x1 hs
        have hml3 := pfP_len G0 x1 (F.take k)
        rw [List.length_take] at hml3
        generalize pfP G0 x1 (F.take k) = x2 at hst3 hml3 ⊢
        have hcp := c_conp G1 s (by omega)
        rw [hG0] at hcp
        have hmo := c_more x2 [s] (by simp; omega)
        rw [show morR x2 [s] = mor1 x2 s from rfl] at hmo
        refine awp_skip ?_
        refine awp_seq (awp_block (awp_seq (ag [(0, .row k (encS s))] rfl ?_)))
        refine awp_seq (awp_rg mixed ?_)
        refine ak 3 [] rfl ?_
        refine kc hcp ?_
        refine ak 1 [] rfl ?_
        refine az ?_
        refine awp_cond rfl (fun hb => ?_) (fun hb => ?_)
        · have hni : ¬ s ∈ G0 := by simpa using hb
          rw [pfG, if_neg hni] at hst3
          refine awp_rg mixed ?_
          refine ak 3 [(2, .all)] rfl ?_
          refine kc hmo ?_
          refine ak 1 [] rfl ?_
          refine az ?_
          refine ag [] rfl ?_
          refine ⟨k + 1, hlt3, by dsimp only; omega, ?_⟩
          dsimp only
          rw [hst3]
          exact sl
        · have hni : s ∈ G0 := by simpa using hb
          rw [pfG, if_pos hni] at hst3
          refine awp_skip ?_
          refine ag [] rfl ?_
          refine ⟨k + 1, hlt3, by dsimp only; omega, ?_⟩
          dsimp only
          rw [hst3]
          exact sl
      have hge3 := geD hb hkF hk
      subst hge3
      rw [List.take_length, ← hst2]
      refine awp_exit ?_
      refine ag [] rfl ?_
      exact ⟨j + 1, hlt2, by dsimp only; omega, sl⟩
    have hge2 := geD hb hkG hj
    subst hge2
    rw [List.take_length, ← hst]
    refine awp_exit ?_
    refine ag [] rfl ?_
    exact ⟨i + 1, hlt, by dsimp only; omega, sl⟩
  have hge := geD hb hkL hi
  subst hge
  rw [List.take_length]
  refine awp_exit ?_
  refine awp_seq (ag [] rfl ?_)
  refine AWp.sub (Sub.freeze (id := 500) rfl) ?_
  exact awp_ret (rtT (hc := hs_all rfl rfl (List.length_map _).symm rfl))
theorem c_pfree : ∀ (n : Nat) (c : Core), csize c ≤ n → PfSpec c
  | 0, c, h => by have := csize_pos c; omega
  | n + 1, c, h => c_pfree_step c fun x hx => c_pfree n x (by omega)
end Go.Proofs.YtnookidjdjhfhaaGreatDoor

/- WHAT IS LEFT WITHOUT TYPES: the names that are free in it, how many nodes it has; what is left of that. -/
namespace Go.Proofs.YtnookidjdjhfhaaGreatDoor
open Go Go.AM
set_option maxRecDepth 20000

mutual
/-- What is given a type, or takes one, has one body, and nothing else. -/
def oneR : Core → Bool
  | .mk f _ _ _ ks bs al => (if f = 6 ∨ f = 7 then decide (ks.length = 1) && (bs.isEmpty && al.isEmpty) else true) && (oneCs ks && (oneBs bs && oneAs al))
def oneCs : List Core → Bool
  | [] => true
  | c :: l => oneR c && oneCs l
def oneBs : List Bind → Bool
  | [] => true
  | .mk _ _ c :: l => oneR c && oneBs l
def oneAs : List Alt → Bool
  | [] => true
  | .mk _ _ _ _ c :: l => oneR c && oneAs l
end
theorem oneBs_app : ∀ a b, oneBs (a ++ b) = (oneBs a && oneBs b)
  | [], b => by rw [List.nil_append, oneBs, Bool.true_and]
  | .mk s t c :: a, b => by rw [List.cons_append, oneBs, oneBs, oneBs_app a b, Bool.and_assoc]
theorem oneAs_app : ∀ a b, oneAs (a ++ b) = (oneAs a && oneAs b)
  | [], b => by rw [List.nil_append, oneAs, Bool.true_and]
  | .mk f n s v c :: a, b => by rw [List.cons_append, oneAs, oneAs, oneAs_app a b, Bool.and_assoc]
def One1 (g : List Int → Int → Mk) : Prop := ∀ l left, oneR (g l left).1 = true
theorem bindsTo_one {g : List Int → Int → Mk} (h : One1 g) (ns : List Str) (l : List Int) (left : Int) : ∀ i : Nat, oneBs (bindsTo g ns l left i).1 = true
  | 0 => by simp [bindsTo, oneBs]
  | i + 1 => by
    simp only [bindsTo]
    rw [oneBs_app, bindsTo_one h ns l left i, oneBs, oneBs, h]; rfl
theorem altsTo_one {g : List Int → Int → Mk} (h : One1 g) (n : Int) (l : List Int) (left : Int) : ∀ i : Nat, oneAs (altsTo g n l left i).1 = true
  | 0 => by simp [altsTo, oneAs]
  | i + 1 => by
    simp only [altsTo]
    rw [oneAs_app, altsTo_one h n l left i]
    split
    · rw [oneAs, oneAs, h]; rfl
    · split
      · rw [oneAs, oneAs, h]; rfl
      · rw [oneAs, oneAs, h]; rfl
theorem coreK_one {g : List Int → Int → Mk} (h : One1 g) (n k : Int) (l : List Int) (left : Int) : oneR (coreK g n k l left).1 = true := by
  have h1 := h l left
  have h2 := h (g l left).2.1 (g l left).2.2
  have h3 := h (typR 2 l).2 left
  unfold coreK
  split
  · simp [oneR, oneCs, oneBs, oneAs]
  split
  · simp [oneR, oneCs, oneBs, oneAs]
  split
  · simp [oneR, oneCs, oneBs, oneAs]
  split
  · simp [oneR, oneCs, oneBs, oneAs, h1, h2]
  split
  · simp [oneR, oneCs, oneBs, oneAs, h3]
  split
  · simp [oneR, oneCs, oneBs, oneAs, h3]
  split
  · simp [oneR, oneCs, oneBs, oneAs, h1]
  split
  · have hb := bindsTo_one h (namesR l).1 (namesR l).2 left (namesR l).1.length
    generalize bindsTo g (namesR l).1 (namesR l).2 left (namesR l).1.length = r at hb ⊢
    have h4 := h r.2.1 r.2.2
    simp [oneR, oneCs, oneAs, hb, h4]
  split
  · have hb := altsTo_one h n (g (typR 2 l).2 left).2.1 (g (typR 2 l).2 left).2.2 (n / 14 % 4).toNat
    dsimp only
    generalize altsTo g n (g (typR 2 l).2 left).2.1 (g (typR 2 l).2 left).2.2 (n / 14 % 4).toNat = r at hb ⊢
    simp [oneR, oneCs, oneBs, hb, h3]
  split
  · simp [oneR, oneCs, oneBs, oneAs, h1, h2]
  · simp [oneR, oneCs, oneBs, oneAs]
theorem coreR_one : ∀ f : Nat, One1 (coreR f)
  | 0 => fun l left => coreK_one (g := fun l left => ((.mk 0 0 [] zTy [] [] [], l, left) : Mk)) (fun _ _ => by simp [oneR, oneCs, oneBs, oneAs]) _ _ _ _
  | f + 1 => fun l left => coreK_one (coreR_one f) _ _ _ _
theorem made_one (l : List Int) : oneR (madeR l) = true := coreR_one 6 (l.take 60) 30

theorem mor1_nd {o : List Str} {s : Str} (h : o.Nodup) : (mor1 o s).Nodup := by
  unfold mor1
  split
  · exact h
  · rename_i hs
    rw [List.nodup_append]
    exact ⟨h, by simp, fun a ha b hb e => by rw [List.mem_singleton.1 hb] at e; subst e; exact hs ha⟩
theorem pfP_nd (G : List Str) : ∀ (l o : List Str), o.Nodup → (pfP G o l).Nodup
  | [], _, h => h
  | s :: l, o, h => by
    show (pfP G (pfG G o s) l).Nodup
    refine pfP_nd G l _ ?_
    unfold pfG
    split
    · exact h
    · exact mor1_nd h
theorem pfP_id : ∀ (l o : List Str), (o ++ l).Nodup → pfP [] o l = o ++ l
  | [], o, _ => (List.append_nil o).symm
  | s :: l, o, h => by
    have hs : ¬ s ∈ o := fun hm => by
      rw [List.nodup_append] at h
      exact h.2.2 s hm s List.mem_cons_self rfl
    show pfP [] (pfG [] o s) l = _
    rw [show pfG [] o s = o ++ [s] by simp [pfG, mor1, hs]]
    rw [pfP_id l (o ++ [s]) (by simpa using h)]
    simp
mutual
theorem pf_nd : ∀ c : Core, (pfR c).Nodup
  | .mk f n s t ks bs al => by
    rw [pfR]
    split
    · simp
    · exact pf_ndA al _ (pf_ndB _ bs _ (pf_ndC _ ks _ List.nodup_nil))
theorem pf_ndC (G : List Str) : ∀ (l : List Core) (o : List Str), o.Nodup → (pfCs G l o).Nodup
  | [], _, h => by rw [pfCs]; exact h
  | c :: l, o, h => by rw [pfCs]; exact pf_ndC G l _ (pfP_nd G _ _ h)
theorem pf_ndB (G : List Str) : ∀ (l : List Bind) (o : List Str), o.Nodup → (pfBs G l o).Nodup
  | [], _, h => by rw [pfBs]; exact h
  | .mk s t c :: l, o, h => by rw [pfBs]; exact pf_ndB G l _ (pfP_nd G _ _ h)
theorem pf_ndA : ∀ (l : List Alt) (o : List Str), o.Nodup → (pfAs l o).Nodup
  | [], _, h => by rw [pfAs]; exact h
  | .mk f n s v c :: l, o, h => by rw [pfAs]; exact pf_ndA l _ (pfP_nd v _ _ h)
end
theorem gvN_erase (f : Int) (s : Str) (bs : List Bind) : gvN f s (eraseBs bs) = gvN f s bs := by
  unfold gvN
  congr 1
  induction bs with
  | nil => rw [eraseBs]
  | cons b l ih =>
    obtain ⟨s', t', c'⟩ := b
    rw [eraseBs, eraseB, List.map_cons, List.map_cons, ih]; rfl
mutual
/-- The same names are free. -/
theorem pf_erase : ∀ c : Core, oneR c = true → pfR (eraseR c) = pfR c
  | .mk f n s t ks bs al, h => by
    simp only [oneR, Bool.and_eq_true] at h
    obtain ⟨h1, h2, h3, h4⟩ := h
    have hk := pf_eraseC ks h2
    by_cases h67 : f = 6 ∨ f = 7
    · rw [if_pos h67] at h1
      simp only [Bool.and_eq_true, decide_eq_true_eq, List.isEmpty_iff] at h1
      obtain ⟨e1, e2, e3⟩ := h1
      subst e2 e3
      obtain ⟨k, rfl⟩ := List.length_eq_one_iff.1 e1
      have hk := hk [] []
      rw [eraseR, if_pos ⟨h67, by simp⟩, eraseCs]
      rw [eraseCs, eraseCs, pfCs, pfCs, pfCs, pfCs, pfP_id _ [] (by simpa using pf_nd _), pfP_id _ [] (by simpa using pf_nd _)] at hk
      rw [pfR, if_neg (by omega), pfAs, pfBs, pfCs, pfCs]
      have hg : gvN f s [] = [] := by unfold gvN; rw [if_neg (by omega)]; rfl
      rw [hg, pfP_id _ [] (by simpa using pf_nd _)]
      exact hk
    · rw [eraseR, if_neg (fun h => h67 h.1), pfR, pfR]
      split
      · rfl
      · rw [gvN_erase, hk, pf_eraseB bs h3, pf_eraseA al h4]
theorem pf_eraseC : ∀ l : List Core, oneCs l = true → ∀ (G o : List Str), pfCs G (eraseCs l) o = pfCs G l o
  | [], _, G, o => by rw [eraseCs]
  | c :: l, h, G, o => by
    rw [oneCs, Bool.and_eq_true] at h
    rw [eraseCs, pfCs, pfCs, pf_erase c h.1, pf_eraseC l h.2]
theorem pf_eraseB : ∀ l : List Bind, oneBs l = true → ∀ (G o : List Str), pfBs G (eraseBs l) o = pfBs G l o
  | [], _, G, o => by rw [eraseBs]
  | .mk s t c :: l, h, G, o => by
    rw [oneBs, Bool.and_eq_true] at h
    rw [eraseBs, eraseB, pfBs, pfBs, pf_erase c h.1, pf_eraseB l h.2]
theorem pf_eraseA : ∀ l : List Alt, oneAs l = true → ∀ (o : List Str), pfAs (eraseAs l) o = pfAs l o
  | [], _, o => by rw [eraseAs]
  | .mk f n s v c :: l, h, o => by
    rw [oneAs, Bool.and_eq_true] at h
    rw [eraseAs, eraseA, pfAs, pfAs, pf_erase c h.1, pf_eraseA l h.2]
end
mutual
/-- No more nodes. -/
theorem sz_erase : ∀ c : Core, sizeR (eraseR c) ≤ sizeR c
  | .mk f n s t ks bs al => by
    have h1 := sz_eraseC ks
    have h2 := sz_eraseB bs
    have h3 := sz_eraseA al
    rw [eraseR]
    split
    · cases ks with
      | nil => rename_i h; simp at h
      | cons k ks =>
        rw [eraseCs, sizeCs, sizeCs] at h1
        rw [eraseCs, sizeR, sizeCs]
        have := sz_erase k
        show sizeR (eraseR k) ≤ _
        omega
    · rw [sizeR, sizeR]; omega
theorem sz_eraseC : ∀ l : List Core, sizeCs (eraseCs l) ≤ sizeCs l
  | [] => by rw [eraseCs]; exact Nat.le_refl _
  | c :: l => by rw [eraseCs, sizeCs, sizeCs]; have := sz_erase c; have := sz_eraseC l; omega
theorem sz_eraseB : ∀ l : List Bind, sizeBs (eraseBs l) ≤ sizeBs l
  | [] => by rw [eraseBs]; exact Nat.le_refl _
  | .mk s t c :: l => by rw [eraseBs, eraseB, sizeBs, sizeBs]; have := sz_erase c; have := sz_eraseB l; omega
theorem sz_eraseA : ∀ l : List Alt, sizeAs (eraseAs l) ≤ sizeAs l
  | [] => by rw [eraseAs]; exact Nat.le_refl _
  | .mk f n s v c :: l => by rw [eraseAs, eraseA, sizeAs, sizeAs]; have := sz_erase c; have := sz_eraseA l; omega
end
mutual
/-- Of what has no types the same is left. -/
theorem erase_id : ∀ c : Core, erdR c = true → z0R c = true → eraseR c = c
  | .mk f n s t ks bs al, h, hz => by
    simp only [erdR, Bool.and_eq_true, Bool.not_eq_true', decide_eq_false_iff_not, decide_eq_true_eq] at h
    obtain ⟨⟨h6, h7, _⟩, h1, h2, h3⟩ := h
    simp only [z0R, Bool.and_eq_true] at hz
    obtain ⟨ht, z1, z2, z3⟩ := hz
    have ht := tz_eq ht
    subst ht
    rw [eraseR, if_neg (fun h => h.1.elim h6 h7), erase_idC ks h1 z1, erase_idB bs h2 z2, erase_idA al h3 z3]
theorem erase_idC : ∀ l : List Core, erdCs l = true → z0Cs l = true → eraseCs l = l
  | [], _, _ => by rw [eraseCs]
  | c :: l, h, hz => by
    rw [erdCs, Bool.and_eq_true] at h
    rw [z0Cs, Bool.and_eq_true] at hz
    rw [eraseCs, erase_id c h.1 hz.1, erase_idC l h.2 hz.2]
theorem erase_idB : ∀ l : List Bind, erdBs l = true → z0Bs l = true → eraseBs l = l
  | [], _, _ => by rw [eraseBs]
  | .mk s t c :: l, h, hz => by
    simp only [erdBs, Bool.and_eq_true] at h
    simp only [z0Bs, Bool.and_eq_true] at hz
    have ht := tz_eq hz.1.1
    subst ht
    rw [eraseBs, eraseB, erase_id c h.1.1 hz.1.2, erase_idB l h.2 hz.2]
theorem erase_idA : ∀ l : List Alt, erdAs l = true → z0As l = true → eraseAs l = l
  | [], _, _ => by rw [eraseAs]
  | .mk f n s v c :: l, h, hz => by
    rw [erdAs, Bool.and_eq_true] at h
    rw [z0As, Bool.and_eq_true] at hz
    rw [eraseAs, eraseA, erase_id c h.1 hz.1, erase_idA l h.2 hz.2]
end
mutual
theorem erd_tk : ∀ c : Core, erdR c = true → tkR c = true
  | .mk f n s t ks bs al, h => by
    simp only [erdR, Bool.and_eq_true, Bool.not_eq_true', decide_eq_false_iff_not] at h
    obtain ⟨⟨h6, h7, _⟩, h1, h2, h3⟩ := h
    rw [tkR, if_neg (fun h => h.elim h6 h7), erd_tkC ks h1, erd_tkB bs h2, erd_tkA al h3]; rfl
theorem erd_tkC : ∀ l : List Core, erdCs l = true → tkCs l = true
  | [], _ => by rw [tkCs]
  | c :: l, h => by
    rw [erdCs, Bool.and_eq_true] at h
    rw [tkCs, erd_tk c h.1, erd_tkC l h.2]; rfl
theorem erd_tkB : ∀ l : List Bind, erdBs l = true → tkBs l = true
  | [], _ => by rw [tkBs]
  | .mk s t c :: l, h => by
    simp only [erdBs, Bool.and_eq_true] at h
    rw [tkBs, erd_tk c h.1.1, erd_tkB l h.2]; rfl
theorem erd_tkA : ∀ l : List Alt, erdAs l = true → tkAs l = true
  | [], _ => by rw [tkAs]
  | .mk f n s v c :: l, h => by
    rw [erdAs, Bool.and_eq_true] at h
    rw [tkAs, erd_tk c h.1, erd_tkA l h.2]; rfl
end
end Go.Proofs.YtnookidjdjhfhaaGreatDoor

/- TYPES' VARIABLES of core without types (core.Types): none. EraseTwice: the walk. -/
namespace Go.Proofs.YtnookidjdjhfhaaGreatDoor
open Go Go.AM
set_option maxRecDepth 20000

theorem c_tfree0 : ImpC Tryz.prog 39 [tyV zTy] [] (strsV []) [] := by
  refine impC (n := 50) tok Tryz.func39 rfl rfl rfl ?_
  refine awp_seq (ag [] rfl ?_)
  refine awp_seq (awp_seq (ag [] rfl ?_))
  refine awp_cond rfl (fun hb => by cases hb) (fun _ => ?_)
  refine awp_skip ?_
  refine awp_seq (ag [] rfl ?_)
  refine awp_seq (awp_seq (ag [] rfl ?_))
  refine awp_block ?_
  refine awp_loop (fun _ : Unit => mk [(3, .one (.c .nl)), (16, I .i64 0), (17, I .i64 0)] []) (fun _ => True) (fun _ => 0) () trivial sl ?_
  intro _ _
  refine awp_seq (ag [] rfl ?_)
  refine awp_seq (awp_cond rfl (fun hb => by cases hb) (fun _ => ?_))
  refine awp_exit ?_
  refine awp_seq (ag [] rfl ?_)
  exact awp_ret rtT
theorem c_more0 : ImpC Tryz.prog 38 [strsV [], strsV []] [] (strsV []) [] := by
  refine impC (n := 23) tok Tryz.func38 rfl rfl rfl ?_
  refine awp_seq (ag [] rfl ?_)
  refine awp_seq (awp_seq (ag [] rfl ?_))
  refine awp_block ?_
  refine awp_loop (fun _ : Unit => mk [(0, strsV []), (8, I .i64 0), (9, I .i64 0)] []) (fun _ => True) (fun _ => 0) () trivial sl ?_
  intro _ _
  refine awp_seq (ag [] rfl ?_)
  refine awp_seq (awp_cond rfl (fun hb => by cases hb) (fun _ => ?_))
  refine awp_exit ?_
  refine awp_seq (ag [] rfl ?_)
  exact awp_ret rtT
def TyN (c : Core) : Prop := z0R c = true → csize c ≤ 400000 → ImpC Tryz.prog 16 [.pa (encCore c)] [] (strsV []) []
theorem c_types0_step (c : Core) (ih : ∀ x, csize x < csize c → TyN x) : TyN c := by
  intro hz hsz
  obtain ⟨f, n, s, t, ks, bs, al⟩ := c
  obtain ⟨ihk, ihb, iha, hkl, hbl, hal⟩ := @size_in f n s t ks bs al
  simp only [z0R, Bool.and_eq_true] at hz
  obtain ⟨ht, hzk, hzb, hza⟩ := hz
  have ht := tz_eq ht
  subst ht
  have hkB : (encBinds bs).length = bs.length := by rw [encBinds_map, List.length_map]
  have hkK : (encCores ks).length = ks.length := by rw [encCores_map, List.length_map]
  have hkA : (encAlts al).length = al.length := by rw [encAlts_map, List.length_map]
  have htf := c_tfree0
  have hmo := c_more0
  refine impC (n := 76) tok Tryz.func16 rfl rfl rfl ?_
  refine awp_seq (ag [] rfl ?_)
  refine awp_seq (ag [(2, .pc (strsV [])), (3, .pc (strsV []))] rfl ?_)
  refine awp_seq (awp_seq (ag [] rfl ?_))
  refine awp_block ?_
  refine awp_loop (fun i : Nat => mk [(1, .one (.vp 1 0)), (3, strsV []), (17, .one (.c (.sl 10 (encCores ks)))), (18, I .i64 ((encCores ks).length : Int)), (19, I .i64 i)] [(1, .var 30 (cellsC (.mk f n s zTy ks bs al)))]) (fun i => i ≤ ks.length) (fun i => ks.length - i) 0 (Nat.zero_le _) sl ?_
  intro i hi
  refine awp_seq (ag [] rfl ?_)
  refine awp_seq (awp_cond rfl (fun hb => ?_) (fun hb => ?_))
  · have hlt := ltD hb hkK
    obtain ⟨k, hki⟩ := get_of_lt hlt
    have hki' := encCores_at hki
    have hm := List.mem_of_getElem? hki
    have hc := ih k (ihk k hm) (z0Cs_mem hzk k hm) (by have := ihk k hm; omega)
    refine awp_skip ?_
    refine awp_seq (awp_block (awp_seq (ag [(0, .row i (encCore k))] rfl ?_)))
    refine awp_seq (ag [(1, .pc (strsV []))] rfl ?_)
    refine awp_block ?_
    refine awp_loop (fun _ : Unit => mk [(1, .one (.vp 1 0)), (3, strsV []), (17, .one (.c (.sl 10 (encCores ks)))), (18, I .i64 ((encCores ks).length : Int)), (19, I .i64 i), (25, I .i64 0), (26, I .i64 0)] [(1, .var 30 (cellsC (.mk f n s zTy ks bs al)))]) (fun _ => True) (fun _ => 0) () trivial sl ?_
    intro _ _
    refine awp_seq (ag [] rfl ?_)
    refine awp_seq (awp_cond rfl (fun hb => by cases hb) (fun _ => ?_))
    refine awp_exit ?_
    refine ag [] rfl ?_
    exact ⟨i + 1, hlt, by dsimp only; omega, sl⟩
  have hge := geD hb hkK hi
  subst hge
  refine awp_exit ?_
  refine awp_seq (awp_seq (ag [] rfl ?_))
  refine awp_block ?_
  refine awp_loop (fun i : Nat => mk [(1, .one (.vp 1 0)), (3, strsV []), (46, .one (.c (.sl 15 (encBinds bs)))), (47, I .i64 ((encBinds bs).length : Int)), (48, I .i64 i)] [(1, .var 30 (cellsC (.mk f n s zTy ks bs al)))]) (fun i => i ≤ bs.length) (fun i => bs.length - i) 0 (Nat.zero_le _) sl ?_
  intro i hi
  refine awp_seq (ag [] rfl ?_)
  refine awp_seq (awp_cond rfl (fun hb => ?_) (fun hb => ?_))
  · have hlt := ltD hb hkB
    obtain ⟨b, hbi⟩ := get_of_lt hlt
    have hbi' := encBinds_at hbi
    have hm := List.mem_of_getElem? hbi
    obtain ⟨hty, hzb1⟩ := z0Bs_mem hzb b hm
    have hc := ih b.body (ihb b hm) hzb1 (by have := ihb b hm; omega)
    obtain ⟨s', t', c'⟩ := b
    have hty : t' = zTy := hty
    subst hty
    have hc : ImpC Tryz.prog 16 [.pa (encCore c')] [] (strsV []) [] := hc
    refine awp_skip ?_
    refine awp_seq (awp_block (awp_seq (ag [(0, .row i (encBind (.mk s' zTy c')))] rfl ?_)))
    refine ag [(3, .pc (strsV [])), (4, .pc (strsV [])), (7, .pc (strsV [])), (8, .pc (strsV []))] rfl ?_
    refine ag [] rfl ?_
    exact ⟨i + 1, hlt, by dsimp only; omega, sl⟩
  have hge := geD hb hkB hi
  subst hge
  refine awp_exit ?_
  refine awp_seq (awp_seq (ag [] rfl ?_))
  refine awp_block ?_
  refine awp_loop (fun i : Nat => mk [(3, strsV []), (63, .one (.c (.sl 14 (encAlts al)))), (64, I .i64 ((encAlts al).length : Int)), (65, I .i64 i)] []) (fun i => i ≤ al.length) (fun i => al.length - i) 0 (Nat.zero_le _) sl ?_
  intro i hi
  refine awp_seq (ag [] rfl ?_)
  refine awp_seq (awp_cond rfl (fun hb => ?_) (fun hb => ?_))
  · have hlt := ltD hb hkA
    obtain ⟨a, hai⟩ := get_of_lt hlt
    have hai' := encAlts_at hai
    have hm := List.mem_of_getElem? hai
    have hc := ih a.body (iha a hm) (z0As_mem hza a hm) (by have := iha a hm; omega)
    obtain ⟨f', n', s', v', c'⟩ := a
    have hc : ImpC Tryz.prog 16 [.pa (encCore c')] [] (strsV []) [] := hc
    refine awp_skip ?_
    refine awp_seq (awp_block (awp_seq (ag [(0, .row i (encAlt (.mk f' n' s' v' c')))] rfl ?_)))
    refine ag [(3, .pc (strsV [])), (4, .pc (strsV []))] rfl ?_
    refine ag [] rfl ?_
    exact ⟨i + 1, hlt, by dsimp only; omega, sl⟩
  have hge := geD hb hkA hi
  subst hge
  refine awp_exit ?_
  refine awp_seq (ag [] rfl ?_)
  exact awp_ret rtT
theorem c_types0 : ∀ (n : Nat) (c : Core), csize c ≤ n → TyN c
  | 0, c, h => by have := csize_pos c; omega
  | n + 1, c, h => c_types0_step c fun x hx => c_types0 n x (by omega)
theorem c_EraseTwice (l : List Int) (hl : Nums l) (hf : Fits l) : ImpC Tryz.prog 4 [intsV l] [] (B true) [] := by
  have hma : ImpC Tryz.prog 5 [intsV l] [] (.pa (encCore (madeR l))) [] := c_made l hl hf
  obtain ⟨h1, h2⟩ := made_raw l
  have h3 := raw_tk _ h1
  have h4 := (erase_le (madeR l)).1
  have ho := made_one l
  have hlv := c_lives24
  generalize madeR l = a at hma h1 h2 h3 h4 ho
  have hd := erase_erd a h3
  have hz := erase_z0 a
  have hpe : ImpC Tryz.prog 6 [.pa (encCore a)] [] (.pa (encCore (eraseR a))) [] := c_perase _ a (Nat.le_refl _) (by omega) h3
  have hpe2 : ImpC Tryz.prog 6 [.pa (encCore (eraseR a))] [] (.pa (encCore (eraseR a))) [] := by
    have := c_perase _ (eraseR a) (Nat.le_refl _) (by omega) (erd_tk _ hd)
    rw [PeSpec, erase_id _ hd hz] at this
    exact this
  have her := c_perd _ (eraseR a) (Nat.le_refl _) (by omega)
  rw [hd] at her
  have heq := c_eq18 _ (eraseR a) (Nat.le_refl _) hz (by omega)
  have hf1 := c_pfree _ (eraseR a) (Nat.le_refl _) (by omega)
  have hf2 := c_pfree _ a (Nat.le_refl _) (by omega)
  rw [pf_erase a ho] at hf1
  have hfl := pf_le a
  have hst := c_sameTexts (pfR a) (pfR a) (by omega)
  rw [decide_eq_true rfl] at hst
  have hty := c_types0 _ (eraseR a) (Nat.le_refl _) hz (by omega)
  have hs1 := c_size _ (eraseR a) (Nat.le_refl _) (by omega)
  have hs2 := c_size _ a (Nat.le_refl _) (by omega)
  have hsl : decide (((sizeR (eraseR a) : Nat) : Int) ≤ ((sizeR a : Nat) : Int)) = true := decide_eq_true (by have := sz_erase a; omega)
  generalize pfR a = F at hf1 hf2 hst
  generalize sizeR (eraseR a) = n1 at hs1 hsl
  generalize sizeR a = n2 at hs2 hsl
  generalize eraseR a = x at *
  refine impC (n := 40) tok Tryz.func4 rfl rfl rfl ?_
  refine awp_seq (ag [] rfl ?_)
  refine awp_seq (ag [(1, .pc (.pa (encCore a)))] rfl ?_)
  refine awp_seq (ag [(1, .pc (.pa (encCore x)))] rfl ?_)
  refine awp_seq (ag [(1, .pc (B true)), (2, .bv true), (4, .pc (.pa (encCore x))), (6, .pc (B true)), (7, .bv true), (8, .bv true), (10, .pc (strsV F)), (12, .pc (strsV F)), (13, .pc (B true)), (14, .bv true), (15, .bv true), (17, .pc (strsV [])), (20, .bv true), (21, .bv true), (23, .pc (I .i64 (n1 : Nat))), (25, .pc (I .i64 (n2 : Nat))), (27, .bv true), (28, .bv true), (29, .pc (B true)), (30, .bv true)] rfl ?_)
  exact awp_ret rtT
end Go.Proofs.YtnookidjdjhfhaaGreatDoor
