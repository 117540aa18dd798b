/-
  Texts Ld2, Lg5, Lg6, Lg7, Lg8, Lg9, Lg10, Lg11 in one.
-/
import Derived.Test.YtmoekkcdkjopgaaGreatDoorM10
/- WHICH NAMES ARE FREE (core.Free): the walk. -/
namespace Go.Proofs.YtmoekkcdkjopgaaGreatDoor
open Go Go.AM
set_option maxRecDepth 20000
/-- The groups again: names with what lies behind them, and the parts. -/
def gm (c : Core) : List (List (Str × List C) × List Core) :=
  ((if c.form = 5 then [(c.name, (encCore c).drop 3)] else []) ++ c.binds.map (fun b => (b.name, (encBind b).drop 1)), c.kids ++ c.binds.map Bind.body) :: c.alts.map fun a => (a.vars.map (fun v => (v, [])), [a.body])
def gmG (g : List (Str × List C) × List Core) : List (List C) × List Core := (g.1.map nrow, g.2)
theorem gl_gm (c : Core) : gl c = (gm c).map gmG := by
  obtain ⟨f, n, s, t, ks, bs, al⟩ := c
  unfold gl gm
  rw [List.map_cons, List.map_map]
  congr 1
  · unfold gmG
    rw [List.map_append, List.map_map]
    congr 2
    unfold nm0
    split <;> rfl
  · congr 1
    funext a
    unfold gmG
    simp only [Function.comp, List.map_map]
    rfl
/-- Names that are free in parts, behind those that were met, but some that are given. -/
def pfG (G : List Str) (o : List Str) (s : Str) : List Str := if s ∈ G then o else mor1 o s
def pfP (G : List Str) (o l : List Str) : List Str := l.foldl (pfG G) o
def gvN (f : Int) (s : Str) (bs : List Bind) : List Str := (if f = 5 then [s] else []) ++ bs.map Bind.name
mutual
def pfR : Core → List Str
  | .mk f _ s _ ks bs al => if f = 1 then [s] else pfAs al (pfBs (gvN f s bs) bs (pfCs (gvN f s bs) ks []))
def pfCs (G : List Str) : List Core → List Str → List Str
  | [], o => o
  | c :: l, o => pfCs G l (pfP G o (pfR c))
def pfBs (G : List Str) : List Bind → List Str → List Str
  | [], o => o
  | .mk _ _ c :: l, o => pfBs G l (pfP G o (pfR c))
def pfAs : List Alt → List Str → List Str
  | [], o => o
  | .mk _ _ _ v c :: l, o => pfAs l (pfP v o (pfR c))
end
def pfL (G : List Str) (l : List Core) (o : List Str) : List Str := l.foldl (fun o c => pfP G o (pfR c)) o
def pfM (L : List (List (Str × List C) × List Core)) (o : List Str) : List Str := L.foldl (fun o g => pfL (g.1.map (·.1)) g.2 o) o
theorem pfCs_eq (G : List Str) : ∀ (l : List Core) (o : List Str), pfCs G l o = pfL G l o
  | [], o => by rw [pfCs]; rfl
  | c :: l, o => by rw [pfCs, pfCs_eq G l]; rfl
theorem pfBs_eq (G : List Str) : ∀ (l : List Bind) (o : List Str), pfBs G l o = pfL G (l.map Bind.body) o
  | [], o => by rw [pfBs]; rfl
  | .mk s t c :: l, o => by rw [pfBs, pfBs_eq G l]; rfl
theorem pfAs_eq : ∀ (l : List Alt) (o : List Str), pfAs l o = pfM (l.map fun a => (a.vars.map (fun v => (v, [])), [a.body])) o
  | [], o => by rw [pfAs]; rfl
  | .mk f n s v c :: l, o => by
    rw [pfAs, pfAs_eq l]
    have : (v.map (fun v => ((v, []) : Str × List C))).map (·.1) = v := by rw [List.map_map]; exact List.map_id _
    show _ = pfM _ (pfL ((v.map (fun v => ((v, []) : Str × List C))).map (·.1)) [c] o)
    rw [this]
    rfl
theorem pf_gm (c : Core) (h : ¬ c.form = 1) : pfR c = pfM (gm c) [] := by
  obtain ⟨f, n, s, t, ks, bs, al⟩ := c
  have h : ¬ f = 1 := h
  rw [pfR, if_neg h, pfAs_eq, pfBs_eq, pfCs_eq]
  unfold gm
  show _ = pfM _ (pfL _ _ [])
  congr 1
  unfold pfL
  rw [List.foldl_append]
  have : gvN f s bs = (((if f = 5 then [((s, (encCore (.mk f n s t ks bs al)).drop 3) : Str × List C)] else []) ++ bs.map (fun b => (b.name, (encBind b).drop 1))).map (·.1)) := by
    unfold gvN
    rw [List.map_append, List.map_map]
    congr 1
    split <;> rfl
  rw [this]
  rfl
theorem pfG_len (G o : List Str) (s : Str) : (pfG G o s).length ≤ o.length + 1 := by
  unfold pfG; split
  · omega
  · exact mor1_len o s
theorem pfP_len (G o : List Str) : ∀ l : List Str, (pfP G o l).length ≤ o.length + l.length := by
  intro l
  induction l generalizing o with
  | nil => exact Nat.le_refl _
  | cons s l ih =>
    have h1 := ih (pfG G o s)
    have h2 := pfG_len G o s
    show (pfP G (pfG G o s) l).length ≤ _
    rw [List.length_cons]; omega
mutual
theorem pf_le : ∀ c : Core, (pfR c).length ≤ csize c
  | .mk f n s t ks bs al => by
    rw [pfR, csize]
    split
    · simp; omega
    · have h1 := pf_leC (gvN f s bs) ks []
      have h2 := pf_leB (gvN f s bs) bs (pfCs (gvN f s bs) ks [])
      have h3 := pf_leA al (pfBs (gvN f s bs) bs (pfCs (gvN f s bs) ks []))
      simp only [List.length_nil] at h1
      omega
theorem pf_leC (G : List Str) : ∀ (l : List Core) (o : List Str), (pfCs G l o).length ≤ o.length + csizes l
  | [], o => by rw [pfCs]; omega
  | c :: l, o => by
    rw [pfCs, csizes]
    have h1 := pf_leC G l (pfP G o (pfR c))
    have h2 := pfP_len G o (pfR c)
    have h3 := pf_le c
    omega
theorem pf_leB (G : List Str) : ∀ (l : List Bind) (o : List Str), (pfBs G l o).length ≤ o.length + bsizes l
  | [], o => by rw [pfBs]; omega
  | .mk s t c :: l, o => by
    rw [pfBs, bsizes, bsize]
    have h1 := pf_leB G l (pfP G o (pfR c))
    have h2 := pfP_len G o (pfR c)
    have h3 := pf_le c
    omega
theorem pf_leA : ∀ (l : List Alt) (o : List Str), (pfAs l o).length ≤ o.length + asizes l
  | [], o => by rw [pfAs]; omega
  | .mk f n s v c :: l, o => by
    rw [pfAs, asizes, asize]
    have h1 := pf_leA l (pfP v o (pfR c))
    have h2 := pfP_len v o (pfR c)
    have h3 := pf_le c
    omega
end
theorem pfP_step (G o : List Str) {l : List Str} {i : Nat} {s : Str} (h : l[i]? = some s) : pfP G o (l.take (i + 1)) = pfG G (pfP G o (l.take i)) s := by
  unfold pfP; rw [take_step h, List.foldl_append]; rfl
theorem pfL_step (G o : List Str) {l : List Core} {i : Nat} {c : Core} (h : l[i]? = some c) : pfL G (l.take (i + 1)) o = pfP G (pfL G (l.take i) o) (pfR c) := by
  unfold pfL; rw [take_step h, List.foldl_append]; rfl
theorem pfM_step (o : List Str) {l : List (List (Str × List C) × List Core)} {i : Nat} {g : List (Str × List C) × List Core} (h : l[i]? = some g) : pfM (l.take (i + 1)) o = pfL (g.1.map (·.1)) g.2 (pfM (l.take i) o) := by
  unfold pfM; rw [take_step h, List.foldl_append]; rfl
/-- All that is met stays few. -/
theorem pfL_len (G : List Str) : ∀ (l : List Core) (o : List Str), (pfL G l o).length ≤ o.length + csizes l := fun l o => by rw [← pfCs_eq]; exact pf_leC G l o
def gcs : List (List (Str × List C) × List Core) → Nat
  | [] => 0
  | g :: l => csizes g.2 + gcs l
theorem pfM_len : ∀ (L : List (List (Str × List C) × List Core)) (o : List Str), (pfM L o).length ≤ o.length + gcs L
  | [], o => Nat.le_refl _
  | g :: L, o => by
    have h1 := pfM_len L (pfL (g.1.map (·.1)) g.2 o)
    have h2 := pfL_len (g.1.map (·.1)) g.2 o
    show (pfM L (pfL (g.1.map (·.1)) g.2 o)).length ≤ _
    rw [gcs]; omega
theorem csizes_app : ∀ a b : List Core, csizes (a ++ b) = csizes a + csizes b
  | [], b => by rw [List.nil_append, csizes, Nat.zero_add]
  | x :: a, b => by rw [List.cons_append, csizes, csizes, csizes_app a b, Nat.add_assoc]
theorem csizes_bs : ∀ l : List Bind, csizes (l.map Bind.body) ≤ bsizes l
  | [] => by rw [List.map_nil, csizes]; exact Nat.zero_le _
  | .mk s t c :: l => by rw [List.map_cons, csizes, bsizes, bsize]; have := csizes_bs l; show csize c + _ ≤ _; omega
theorem gcs_al : ∀ l : List Alt, gcs (l.map fun a => (a.vars.map (fun v => (v, [])), [a.body])) ≤ asizes l
  | [] => by rw [List.map_nil, gcs]; exact Nat.zero_le _
  | .mk f n s v c :: l => by rw [List.map_cons, gcs, asizes, asize, csizes, csizes]; have := gcs_al l; show csize c + 0 + _ ≤ _; omega
theorem gcs_le (c : Core) : gcs (gm c) ≤ csize c := by
  obtain ⟨f, n, s, t, ks, bs, al⟩ := c
  unfold gm
  rw [gcs, csize]
  have h1 := csizes_app ks (bs.map Bind.body)
  have h2 := csizes_bs bs
  have h3 := gcs_al al
  show csizes (ks ++ bs.map Bind.body) + gcs (al.map fun a => (a.vars.map (fun v => (v, [])), [a.body])) ≤ _
  omega
theorem gcs_app : ∀ a b, gcs (a ++ b) = gcs a + gcs b
  | [], b => by rw [List.nil_append, gcs, Nat.zero_add]
  | x :: a, b => by rw [List.cons_append, gcs, gcs, gcs_app a b, Nat.add_assoc]
theorem gcs_at {L : List (List (Str × List C) × List Core)} {i : Nat} {g : List (Str × List C) × List Core} (h : L[i]? = some g) : gcs (L.take i) + csizes g.2 ≤ gcs L := by
  have h1 := List.take_append_drop (i + 1) L
  have h2 := gcs_app (L.take (i + 1)) (L.drop (i + 1))
  rw [h1, take_step h, gcs_app] at h2
  simp only [gcs] at h2
  omega
theorem csizes_at {l : List Core} {i : Nat} {c : Core} (h : l[i]? = some c) : csizes (l.take i) + csize c ≤ csizes l := by
  have h1 := List.take_append_drop (i + 1) l
  have h2 := csizes_app (l.take (i + 1)) (l.drop (i + 1))
  rw [h1, take_step h, csizes_app] at h2
  simp only [csizes] at h2
  omega
def PfSpec (c : Core) : Prop := csize c ≤ 40000000000 → ImpC Tryz.prog 67 [.pa (encCore c)] [] (strsV (pfR c)) []
theorem c_pfree_step (c : Core) (ih : ∀ x, csize x < csize c → PfSpec x) : PfSpec c := by
  intro hsz
  by_cases h1 : c.form = 1
  · obtain ⟨f, n, s, t, ks, bs, al⟩ := c
    have h1 : f = 1 := h1
    subst h1
    rw [pfR, if_pos rfl]
    refine impC (n := 51) tok Tryz.func67 rfl rfl rfl ?_
    refine awp_seq (ag [] rfl ?_)
    refine awp_seq (awp_seq (ag [] rfl ?_))
    refine awp_cond rfl (fun _ => ?_) (fun hb => by cases hb)
    refine awp_seq (ag [(2, .all)] rfl ?_)
    exact awp_ret rtT
  have hgr := c_groupsP c hsz
  have hpf := pf_gm c h1
  have hin : ∀ g ∈ gm c, ∀ x ∈ g.2, csize x < csize c := fun g hg x hx => gl_in (g := gmG g) (by rw [gl_gm]; exact List.mem_map.2 ⟨g, hg, rfl⟩) hx
  obtain ⟨hgl, hgm⟩ := gl_len c
  rw [gl_gm, List.length_map] at hgl
  have hgm2 : ∀ g ∈ gm c, g.2.length ≤ csize c ∧ g.1.length ≤ csize c := fun g hg => by
    have := hgm (gmG g) (by rw [gl_gm]; exact List.mem_map.2 ⟨g, hg, rfl⟩)
    unfold gmG at this
    rw [List.length_map] at this
    exact this
  have hgc := gcs_le c
  rw [encGroups_eq, gl_gm, List.map_map] at hgr
  rw [hpf]
  clear hpf hgm
  generalize gm c = L at hgr hin hgl hgm2 hgc ⊢
  have hkL : (L.map (glRow ∘ gmG)).length = L.length := List.length_map _
  refine impC (n := 51) tok Tryz.func67 rfl rfl rfl ?_
  refine awp_seq (ag [] rfl ?_)
  refine awp_seq (awp_seq (ag [] rfl ?_))
  refine awp_cond rfl (fun hb => absurd (of_decide_eq_true hb) h1) (fun _ => ?_)
  refine awp_skip ?_
  refine awp_seq (ag [] rfl ?_)
  refine AWp.sub (Sub.fvar (id := 1) (l := encCore c) rfl (by simp [keys])) ?_
  refine AWp.sub (st2 := mk [(1, .one (.c (.pt (encCore c)))), (3, .one (.c .nl))] []) sl ?_
  refine AWp.sub (Sub.own (t := 3) (id := 500) 9 1 rfl rfl) ?_
  refine awp_seq (awp_seq (awp_rg mixed ?_))
  refine kc hgr ?_
  refine ak 2 [] rfl ?_
  refine az ?_
  refine awp_block ?_
  refine awp_loop (fun i : Nat => mk [(3, ouV (pfM (L.take i) [])), (16, .one (.c (.sl 2 (L.map (glRow ∘ gmG))))), (17, I .i64 ((L.map (glRow ∘ gmG)).length : Int)), (18, I .i64 i)] [(500, ouO (pfM (L.take i) []))]) (fun i => i ≤ L.length) (fun i => L.length - i) 0 (Nat.zero_le _) sl ?_
  intro i hi
  refine awp_seq (ag [] rfl ?_)
  refine awp_seq (awp_cond rfl (fun hb => ?_) (fun hb => ?_))
  · have hlt := ltD hb hkL
    obtain ⟨g, hg⟩ := get_of_lt hlt
    have hg' := getEnc (glRow ∘ gmG) hg
    have hgi := List.mem_of_getElem? hg
    obtain ⟨hl1, hl2⟩ := hgm2 g hgi
    have hst := pfM_step [] hg
    have hml := pfM_len (L.take i) []
    have hga := gcs_at hg
    simp only [List.length_nil] at hml
    have hinG := hin g hgi
    have hkG : (g.2.map kpRow).length = g.2.length := List.length_map _
    obtain ⟨G1, G⟩ := g
    have hg' : (L.map (glRow ∘ gmG))[i]? = some [.sl 1 (G1.map nrow), .sl 1 (G.map kpRow)] := hg'
    dsimp only at hl1 hl2 hst hkG hga hinG
    generalize hG0 : G1.map (·.1) = G0 at hst
    generalize pfM (L.take i) [] = x0 at hst hml ⊢
    refine awp_skip ?_
    refine awp_seq (awp_block (awp_seq (ag [(0, .row i [.sl 1 (G1.map nrow), .sl 1 (G.map kpRow)])] rfl ?_)))
    refine awp_seq (ag [] rfl ?_)
    refine awp_block ?_
    refine awp_loop (fun j : Nat => mk [(3, ouV (pfL G0 (G.take j) x0)), (5, .one (.vp 5 0)), (16, .one (.c (.sl 2 (L.map (glRow ∘ gmG))))), (17, I .i64 ((L.map (glRow ∘ gmG)).length : Int)), (18, I .i64 i), (23, .one (.c (.sl 1 (G.map kpRow)))), (24, I .i64 ((G.map kpRow).length : Int)), (25, I .i64 j)] [(5, .var 125 [.c (.sl 1 (G1.map nrow)), .c (.sl 1 (G.map kpRow))]), (500, ouO (pfL G0 (G.take j) x0))]) (fun j => j ≤ G.length) (fun j => G.length - j) 0 (Nat.zero_le _) sl ?_
    intro j hj
    refine awp_seq (ag [] rfl ?_)
    refine awp_seq (awp_cond rfl (fun hb => ?_) (fun hb => ?_))
    · have hlt2 := ltD hb hkG
      obtain ⟨p, hp⟩ := get_of_lt hlt2
      have hp' := getEnc kpRow hp
      have hpi := List.mem_of_getElem? hp
      have hpc := hinG p hpi
      have hc := ih p hpc (by omega)
      have hst2 := pfL_step G0 x0 hp
      have hml2 := pfL_len G0 (G.take j) x0
      have hca := csizes_at hp
      have hple := pf_le p
      generalize pfL G0 (G.take j) x0 = x1 at hst2 hml2 ⊢
      generalize pfR p = F at hc hst2 hple
      have hkF : (F.map encS).length = F.length := List.length_map _
      refine awp_skip ?_
      refine awp_seq (awp_block (awp_seq (ag [(0, .row j (kpRow p))] rfl ?_)))
      refine awp_seq (ag [(3, .pc (strsV F))] rfl ?_)
      refine awp_block ?_
      refine awp_loop (fun k : Nat => mk [(3, ouV (pfP G0 x1 (F.take k))), (5, .one (.vp 5 0)), (16, .one (.c (.sl 2 (L.map (glRow ∘ gmG))))), (17, I .i64 ((L.map (glRow ∘ gmG)).length : Int)), (18, I .i64 i), (23, .one (.c (.sl 1 (G.map kpRow)))), (24, I .i64 ((G.map kpRow).length : Int)), (25, I .i64 j), (32, strsV F), (33, I .i64 ((F.map encS).length : Int)), (34, I .i64 k)] [(5, .var 125 [.c (.sl 1 (G1.map nrow)), .c (.sl 1 (G.map kpRow))]), (500, ouO (pfP G0 x1 (F.take k)))]) (fun k => k ≤ F.length) (fun k => F.length - k) 0 (Nat.zero_le _) sl ?_
      intro k hk
      refine awp_seq (ag [] rfl ?_)
      refine awp_seq (awp_cond rfl (fun hb => ?_) (fun hb => ?_))
      · have hlt3 := ltD hb hkF
        obtain ⟨s, hs⟩ := get_of_lt hlt3
        have hs' := getEnc encS hs
        have hst3 := pfP_step G0 x1 hs
        have hml3 := pfP_len G0 x1 (F.take k)
        rw [List.length_take] at hml3
        generalize pfP G0 x1 (F.take k) = x2 at hst3 hml3 ⊢
        have hcp := c_conp G1 s (by omega)
        rw [hG0] at hcp
        have hmo := c_more x2 [s] (by simp; omega)
        rw [show morR x2 [s] = mor1 x2 s from rfl] at hmo
        refine awp_skip ?_
        refine awp_seq (awp_block (awp_seq (ag [(0, .row k (encS s))] rfl ?_)))
        refine awp_seq (awp_rg mixed ?_)
        refine ak 3 [] rfl ?_
        refine kc hcp ?_
        refine ak 1 [] rfl ?_
        refine az ?_
        refine awp_cond rfl (fun hb => ?_) (fun hb => ?_)
        · have hni : ¬ s ∈ G0 := by simpa using hb
          rw [pfG, if_neg hni] at hst3
          refine awp_rg mixed ?_
          refine ak 3 [(2, .all)] rfl ?_
          refine kc hmo ?_
          refine ak 1 [] rfl ?_
          refine az ?_
          refine ag [] rfl ?_
          refine ⟨k + 1, hlt3, by dsimp only; omega, ?_⟩
          dsimp only
          rw [hst3]
          exact sl
        · have hni : s ∈ G0 := by simpa using hb
          rw [pfG, if_pos hni] at hst3
          refine awp_skip ?_
          refine ag [] rfl ?_
          refine ⟨k + 1, hlt3, by dsimp only; omega, ?_⟩
          dsimp only
          rw [hst3]
          exact sl
      have hge3 := geD hb hkF hk
      subst hge3
      rw [List.take_length, ← hst2]
      refine awp_exit ?_
      refine ag [] rfl ?_
      exact ⟨j + 1, hlt2, by dsimp only; omega, sl⟩
    have hge2 := geD hb hkG hj
    subst hge2
    rw [List.take_length, ← hst]
    refine awp_exit ?_
    refine ag [] rfl ?_
    exact ⟨i + 1, hlt, by dsimp only; omega, sl⟩
  have hge := geD hb hkL hi
  subst hge
  rw [List.take_length]
  refine awp_exit ?_
  refine awp_seq (ag [] rfl ?_)
  refine AWp.sub (Sub.freeze (id := 500) rfl) ?_
  exact awp_ret (rtT (hc := hs_all rfl rfl (List.length_map _).symm rfl))
theorem c_pfree : ∀ (n : Nat) (c : Core), csize c ≤ n → PfSpec c
  | 0, c, h => by have := csize_pos c; omega
  | n + 1, c, h => c_pfree_step c fun x hx => c_pfree n x (by omega)
end Go.Proofs.YtmoekkcdkjopgaaGreatDoor

/- CORE IN THE PLACE OF A NAME: what the program computes, as a function. -/
namespace Go.Proofs.YtmoekkcdkjopgaaGreatDoor
open Go Go.AM
def vC (z : Str) : Core := .mk 1 0 z zTy [] [] []
section
variable (sb : Core → Str → Core → Core)
/-- One name of a group becomes another one, where it is among those that are free in what is put. -/
noncomputable def gStep (far : List Str) (st : List Str × List Core × List Str) (n : Str) : List Str × List Core × List Str :=
  if n ∈ far then (st.1 ++ [freshR st.2.2], st.2.1.map (fun p => sb p n (vC (freshR st.2.2))), st.2.2 ++ [freshR st.2.2]) else (st.1 ++ [n], st.2.1, st.2.2)
noncomputable def gAll (far : List Str) (ns : List Str) (st : List Str × List Core × List Str) : List Str × List Core × List Str := ns.foldl (gStep sb far) st
def putIn (s : Str) (ns : List Str) (ps : List Core) : Prop := s ∈ ps.flatMap pfR ∧ ¬ s ∈ ns
open Classical in
/-- A group: its names, its parts. -/
noncomputable def putR (s : Str) (b : Core) (ns : List Str) (ps : List Core) : List Str × List Core :=
  if putIn s ns ps then
    ((gAll sb (pfR b) ns ([], ps, ps.flatMap pfR ++ ns ++ pfR b)).1, (gAll sb (pfR b) ns ([], ps, ps.flatMap pfR ++ ns ++ pfR b)).2.1.map (fun p => sb p s b))
  else (ns, ps)
end
def mkB : List Ty → List Str → List Core → List Bind
  | t :: ts, n :: ns, p :: ps => .mk n t p :: mkB ts ns ps
  | _, _, _ => []
open Classical in
noncomputable def subG (clr : Core → List Str → Core) : Nat → Core → Str → Core → Core
  | 0, c, _, _ => c
  | k + 1, c, s, b =>
    if c.form = 1 ∧ c.name = s then b else
      match (if c.form = 7 ∧ s ∈ pfR c then clr c [] else c) with
      | .mk f n nm t ks bs al =>
        .mk f n (if f = 5 then (putR (subG clr k) s b (gvN f nm bs) (ks ++ bs.map Bind.body)).1.headD nm else nm) t
          ((putR (subG clr k) s b (gvN f nm bs) (ks ++ bs.map Bind.body)).2.take ks.length)
          (mkB (bs.map Bind.ty) (putR (subG clr k) s b (gvN f nm bs) (ks ++ bs.map Bind.body)).1 ((putR (subG clr k) s b (gvN f nm bs) (ks ++ bs.map Bind.body)).2.drop ks.length))
          (al.map fun a => .mk a.form a.n a.name (putR (subG clr k) s b a.vars [a.body]).1 ((putR (subG clr k) s b a.vars [a.body]).2.headD a.body))
/-! ### How many there are -/
section
variable {sb : Core → Str → Core → Core}
theorem gStep_len {far : List Str} {st : List Str × List Core × List Str} {n : Str} : (gStep sb far st n).1.length = st.1.length + 1 ∧ (gStep sb far st n).2.1.length = st.2.1.length ∧ (gStep sb far st n).2.2.length ≤ st.2.2.length + 1 := by
  unfold gStep
  split <;> simp
theorem gAll_len {far : List Str} : ∀ {ns : List Str} {st : List Str × List Core × List Str}, (gAll sb far ns st).1.length = st.1.length + ns.length ∧ (gAll sb far ns st).2.1.length = st.2.1.length ∧ (gAll sb far ns st).2.2.length ≤ st.2.2.length + ns.length
  | [], st => by simp [gAll]
  | n :: ns, st => by
    have h := gAll_len (far := far) (ns := ns) (st := gStep sb far st n)
    obtain ⟨g1, g2, g3⟩ := gStep_len (sb := sb) (far := far) (st := st) (n := n)
    unfold gAll at h ⊢
    rw [List.foldl_cons, List.length_cons]
    omega
theorem gAll_snoc {far ns : List Str} {st : List Str × List Core × List Str} {i : Nat} {n : Str} (h : ns[i]? = some n) : gAll sb far (ns.take (i + 1)) st = gStep sb far (gAll sb far (ns.take i) st) n := by
  unfold gAll
  rw [List.take_add_one, h, List.foldl_append]; rfl
theorem putR_len {s : Str} {b : Core} {ns : List Str} {ps : List Core} : (putR sb s b ns ps).1.length = ns.length ∧ (putR sb s b ns ps).2.length = ps.length := by
  unfold putR
  split
  · obtain ⟨h1, h2, _⟩ := gAll_len (sb := sb) (far := pfR b) (ns := ns) (st := ([], ps, ps.flatMap pfR ++ ns ++ pfR b))
    exact ⟨by simpa using h1, by simpa using h2⟩
  · exact ⟨rfl, rfl⟩
end
end Go.Proofs.YtmoekkcdkjopgaaGreatDoor

/- A GROUP'S PARTS, one by one (core.group.put$1): of what has kids and binds. -/
namespace Go.Proofs.YtmoekkcdkjopgaaGreatDoor
open Go Go.AM
set_option maxRecDepth 20000
def mixP (sb : Core → Core) (ps : List Core) (j : Nat) : List Core := (ps.take j).map sb ++ ps.drop j
theorem mixP_len {sb : Core → Core} {ps : List Core} {j : Nat} : (mixP sb ps j).length = ps.length := by unfold mixP; simp; omega
theorem mixP_at {sb : Core → Core} {ps : List Core} {j : Nat} {p : Core} (h : ps[j]? = some p) : (mixP sb ps j)[j]? = some p := by
  have hlt : j < ps.length := (List.getElem?_eq_some_iff.1 h).1
  unfold mixP
  rw [List.getElem?_append_right (by simp; omega), List.length_map, List.length_take, Nat.min_eq_left (by omega), Nat.sub_self, List.getElem?_drop, Nat.add_zero, h]
theorem mixP_succ {sb : Core → Core} {ps : List Core} {j : Nat} {p : Core} (h : ps[j]? = some p) : mixP sb ps (j + 1) = (mixP sb ps j).set j (sb p) := by
  have hlt : j < ps.length := (List.getElem?_eq_some_iff.1 h).1
  unfold mixP
  rw [drop_at h, set_mid (by simp; omega), List.take_add_one, h]
  simp
theorem mixP_zero {sb : Core → Core} {ps : List Core} : mixP sb ps 0 = ps := by simp [mixP]
theorem mixP_end {sb : Core → Core} {ps : List Core} : mixP sb ps ps.length = ps.map sb := by simp [mixP]
theorem encCores_set (l : List Core) (j : Nat) (x : Core) : (encCores l).set j (encCore x) = encCores (l.set j x) := by
  rw [encCores_map, encCores_map, List.map_set]
theorem mkB_at : ∀ {ts : List Ty} {ns : List Str} {ps : List Core} {j : Nat} {t : Ty} {n : Str} {p : Core}, ts[j]? = some t → ns[j]? = some n → ps[j]? = some p → (mkB ts ns ps)[j]? = some (.mk n t p)
  | t' :: ts, n' :: ns, p' :: ps, 0, t, n, p, h1, h2, h3 => by
    simp at h1 h2 h3; subst h1 h2 h3; rfl
  | t' :: ts, n' :: ns, p' :: ps, j + 1, t, n, p, h1, h2, h3 => by
    simp only [List.getElem?_cons_succ] at h1 h2 h3
    simp only [mkB, List.getElem?_cons_succ]
    exact mkB_at h1 h2 h3
theorem mkB_len : ∀ {ts : List Ty} {ns : List Str} {ps : List Core}, ns.length = ts.length → ps.length = ts.length → (mkB ts ns ps).length = ts.length
  | [], _, _, _, _ => by unfold mkB; rfl
  | t :: ts, n :: ns, p :: ps, h1, h2 => by
    simp only [List.length_cons] at h1 h2
    simp only [mkB, List.length_cons, mkB_len (ts := ts) (ns := ns) (ps := ps) (by omega) (by omega)]
theorem mkB_setp : ∀ {ts : List Ty} {ns : List Str} {ps : List Core} {j : Nat} {t : Ty} {n : Str} (x : Core), ts[j]? = some t → ns[j]? = some n → j < ps.length → (mkB ts ns ps).set j (.mk n t x) = mkB ts ns (ps.set j x)
  | t' :: ts, n' :: ns, p' :: ps, 0, t, n, x, h1, h2, _ => by
    simp at h1 h2; subst h1 h2; rfl
  | t' :: ts, n' :: ns, p' :: ps, j + 1, t, n, x, h1, h2, h3 => by
    simp only [List.getElem?_cons_succ] at h1 h2
    simp only [mkB, List.set_cons_succ]
    rw [mkB_setp x h1 h2 (by simpa using h3)]
theorem mkB_setn : ∀ {ts : List Ty} {ns : List Str} {ps : List Core} {j : Nat} {t : Ty} {p : Core} (z : Str), ts[j]? = some t → ps[j]? = some p → j < ns.length → (mkB ts ns ps).set j (.mk z t p) = mkB ts (ns.set j z) ps
  | t' :: ts, n' :: ns, p' :: ps, 0, t, p, z, h1, h2, _ => by
    simp at h1 h2; subst h1 h2; rfl
  | t' :: ts, n' :: ns, p' :: ps, j + 1, t, p, z, h1, h2, h3 => by
    simp only [List.getElem?_cons_succ] at h1 h2
    simp only [mkB, List.set_cons_succ]
    rw [mkB_setn z h1 h2 (by simpa using h3)]
theorem encBinds_set (l : List Bind) (j : Nat) (x : Bind) : (encBinds l).set j (encBind x) = encBinds (l.set j x) := by
  rw [encBinds_map, encBinds_map, List.map_set]
theorem encAt {l : List Core} {j : Nat} {x : Core} (h : l[j]? = some x) : (encCores l)[j]? = some (encCore x) := encCores_at h
def grO (nG : List R) (pG : List R) : AObj := .var 125 [.ras nG.length 1 nG, .ras pG.length 1 pG]
/-! ### What has kids and binds -/
def tH (tys : List Ty) (nk : Nat) (ns : List Str) (ps : List Core) : List (Nat × AObj) := [(701, .arr 73 15 (encBinds (mkB tys ns (ps.drop nk))) 0), (702, .arr 37 10 (encCores (ps.take nk)) 0)]
def tN (nb : Nat) : List R := (nR false nb nb).flatten
def tP (nk nb : Nat) : List R := (pR nk nb nb).flatten
theorem flat_len {es : Nat} : ∀ {l : List (List R)}, (∀ r ∈ l, r.length = es) → l.flatten.length = l.length * es
  | [], _ => by simp
  | r :: l, h => by
    rw [List.flatten_cons, List.length_append, flat_len fun q hq => h q (List.mem_cons_of_mem _ hq), h r List.mem_cons_self, List.length_cons, Nat.add_mul]
    omega
theorem tP_len {nk nb : Nat} : (tP nk nb).length = nk + nb := by unfold tP; rw [flat_len pR_one, pR_len]; omega
theorem tP_at1 {nk nb j : Nat} (h : j < nk) : ((tP nk nb).drop (j * 1)).take 1 = [.ep 702 j 0 nk] := take_flat pR_one j _ (pR_at1 h)
theorem tP_at2 {nk nb j : Nat} (h : j < nb) : ((tP nk nb).drop ((nk + j) * 1)).take 1 = [.ep 701 j 5 nb] := take_flat pR_one _ _ (pR_at2 h)
theorem tN_one {nb : Nat} : ∀ r ∈ nR false nb nb, r.length = 1 := fun r hr => by
  unfold nR at hr
  exact rgR_one (fun _ => rfl) r (by simpa [gNm] using hr)
theorem tN_len {nb : Nat} : (tN nb).length = nb := by
  unfold tN
  rw [flat_len tN_one]
  unfold nR
  rw [List.length_append, rgR_len]; simp [gNm]
theorem tN_at {nb j : Nat} (h : j < nb) : ((tN nb).drop (j * 1)).take 1 = [.ep 701 j 0 nb] := take_flat tN_one j _ (by
  unfold nR
  rw [List.getElem?_append_right (by simp [gNm])]
  simp only [gNm, List.length_nil, Nat.sub_zero]
  exact rgR_at h)
theorem tP_refs {nk nb : Nat} : ∀ x ∈ R.refsL (tP nk nb), x = 701 ∨ x = 702 := fun x hx => by
  unfold tP at hx
  rw [refsL_flat] at hx
  unfold pR at hx
  rw [refsR_app] at hx
  rcases List.mem_append.1 hx with hx | hx
  · exact .inr (rgR_refs (L := fun x => x = 702) (fun j x hx => by simpa [R.refsL, R.refs] using hx) _ x hx)
  · exact .inl (rgR_refs (L := fun x => x = 701) (fun j x hx => by simpa [R.refsL, R.refs] using hx) _ x hx)
theorem tN_refs {nb : Nat} : ∀ x ∈ R.refsL (tN nb), x = 701 := fun x hx => by
  unfold tN at hx
  rw [refsL_flat] at hx
  unfold nR at hx
  rw [refsR_app] at hx
  rcases List.mem_append.1 hx with hx | hx
  · simp [gNm, refsR] at hx
  · exact rgR_refs (L := fun x => x = 701) (fun j x hx => by simpa [R.refsL, R.refs] using hx) _ x hx
theorem tG_refs {nk nb : Nat} : ∀ x ∈ (grO (tN nb) (tP nk nb)).refs, x = 701 ∨ x = 702 := fun x hx => by
  have hx : x ∈ R.refsL (tN nb) ++ (R.refsL (tP nk nb) ++ []) := hx
  rw [List.append_nil] at hx
  rcases List.mem_append.1 hx with hx | hx
  · exact .inl (tN_refs x hx)
  · exact tP_refs x hx
abbrev tG (tys : List Ty) (nk : Nat) (ns : List Str) (ps : List Core) : List (Nat × AObj) := (3, grO (tN tys.length) (tP nk tys.length)) :: tH tys nk ns ps
theorem tGW {tys : List Ty} {nk : Nat} {ns : List Str} {ps : List Core} : GW (tG tys nk ns ps) [] := ⟨⟨fun _ h => (by cases h), List.nodup_nil, fun _ h => (by cases h)⟩, fun x hx => by
  have hx : x ∈ (grO (tN tys.length) (tP nk tys.length)).refs ++ [] := hx
  rw [List.append_nil] at hx
  rcases tG_refs x hx with rfl | rfl
  · exact .inl (by simp [tG, tH, keys])
  · exact .inl (by simp [tG, tH, keys]), rfl, rfl⟩
theorem c_allT (tys : List Ty) (nk : Nat) (ns : List Str) (ps : List Core) (nm : Str) (b : Core) (sb : Core → Core) (hn : ns.length = tys.length) (hp : ps.length = nk + tys.length) (hb : ps.length ≤ 40000000000)
    (hs : ∀ p ∈ ps, ImpC Tryz.prog 25 [.pa (encCore p), Go.AM.T nm, .pa (encCore b)] [] (.pa (encCore (sb p))) []) :
    ImpC Tryz.prog 131 [Go.AM.T nm, .pa (encCore b), .one (.vp 3 0)] (tG tys nk ns ps ++ []) (.tup []) (tG tys nk ns (ps.map sb) ++ []) := by
  have hF : TF [] := tGW (tys := tys) (nk := nk) (ns := ns) (ps := ps).tf
  have hpl := tP_len (nk := nk) (nb := tys.length)
  have hkr : ∀ x ∈ R.refsL (tP nk tys.length), Kn [(4, .var 37 (cellsC b))] (tG tys nk ns ps) [] x := fun x hx => by
    rcases tP_refs x hx with rfl | rfl
    · exact .inr (.inl (by simp [tG, tH, keys]))
    · exact .inr (.inl (by simp [tG, tH, keys]))
  refine impCT hF (n := 23) tok Tryz.func131 rfl rfl rfl ?_
  refine awp_seq (ag [] rfl ?_)
  refine awp_seq (ag [] rfl ?_)
  refine awp_block ?_
  refine awp_loop (fun j : Nat => mkt [(0, Go.AM.T nm), (2, .one (.vp 3 0)), (4, .one (.vp 4 0)), (8, .one (.ras (tP nk tys.length).length 1 (tP nk tys.length))), (9, I .i64 (((tP nk tys.length).length : Nat) : Int)), (10, I .i64 j)] ([(4, .var 37 (cellsC b))] ++ tG tys nk ns (mixP sb ps j)) []) (fun j => j ≤ (tP nk tys.length).length) (fun j => (tP nk tys.length).length - j) 0 (Nat.zero_le _) ?_ ?_
  · rw [mixP_zero]
    exact slG tGW (h1 := Kn.app Kn.nil (Kn.app (Kn.of rfl) (Kn.app (Kn.of rfl) (Kn.app hkr Kn.nil))))
  intro j hj
  have hkr : ∀ ps', ∀ x ∈ R.refsL (tP nk tys.length), Kn [(4, .var 37 (cellsC b))] (tG tys nk ns ps') [] x := fun ps' x hx => by
    rcases tP_refs x hx with rfl | rfl
    · exact .inr (.inl (by simp [tG, tH, keys]))
    · exact .inr (.inl (by simp [tG, tH, keys]))
  refine awp_seq (ag [] rfl ?_)
  refine awp_seq (awp_cond rfl (fun hb => ?_) (fun hb => ?_))
  · have hlt : j < (tP nk tys.length).length := by
      have : (j : Int) < ((tP nk tys.length).length : Int) := of_decide_eq_true hb
      omega
    obtain ⟨p, hpj⟩ := get_of_lt (show j < ps.length by omega)
    have hc := hs p (List.mem_of_getElem? hpj)
    have hmj := mixP_at (sb := sb) hpj
    have hms := mixP_succ (sb := sb) hpj
    have hml := mixP_len (sb := sb) (ps := ps) (j := j)
    generalize mixP sb ps j = qs at hmj hms hml ⊢
    have hsz1 : nk = (encCores (qs.take nk)).length := by rw [encCores_map, List.length_map, List.length_take]; omega
    have hsz2 : tys.length = (encBinds (mkB tys ns (qs.drop nk))).length := by rw [encBinds_map, List.length_map, mkB_len hn (by rw [List.length_drop]; omega)]
    refine awp_skip ?_
    by_cases hjk : j < nk
    · have ht1 := tP_at1 (nb := tys.length) hjk
      have hrow : (encCores (qs.take nk))[j]? = some (encCore p) := encAt (by rw [List.getElem?_take, if_pos hjk, hmj])
      refine awp_seq (awp_block (awp_seq (ag [(0, .rowR j [.ep 702 j 0 nk])] rfl ?_)))
      refine awp_rg mixed ?_
      refine ak 6 [(3, .row j (encCore p))] rfl ?_
      refine kc hc ?_
      refine ak 2 [(8, .row j (encCore p))] rfl ?_
      refine az ?_
      refine ag [] rfl ?_
      refine ⟨j + 1, hlt, by dsimp only; omega, ?_⟩
      dsimp only
      rw [hms]
      refine slG tGW (fun i hi => GW.kf i hi) (h1 := Kn.app Kn.nil (Kn.app (Kn.of rfl) (Kn.app (Kn.of rfl) (Kn.app (hkr _) Kn.nil)))) (hh := ⟨⟨_, rfl, .varS rfl⟩, ⟨_, rfl, .varS rfl⟩, ⟨_, rfl, .arrS ?_⟩, ⟨_, rfl, .arrS ?_⟩, trivial⟩)
      · rw [List.drop_set_of_lt hjk]
      · rw [List.take_set]
        exact encCores_set _ _ _
    · obtain ⟨j', rfl⟩ : ∃ j', j = nk + j' := ⟨j - nk, by omega⟩
      have hjb : j' < tys.length := by omega
      obtain ⟨t, ht⟩ := get_of_lt hjb
      obtain ⟨n, hnn⟩ := get_of_lt (show j' < ns.length by omega)
      have hd : (qs.drop nk)[j']? = some p := by rw [List.getElem?_drop]; exact hmj
      have ht1 := tP_at2 (nk := nk) hjb
      have hrow : (encBinds (mkB tys ns (qs.drop nk)))[j']? = some (encBind (.mk n t p)) := encBinds_at (mkB_at ht hnn hd)
      refine awp_seq (awp_block (awp_seq (ag [(0, .rowR (nk + j') [.ep 701 j' 5 tys.length])] rfl ?_)))
      refine awp_rg mixed ?_
      refine ak 6 [(3, .row j' (encBind (.mk n t p)))] rfl ?_
      refine kc hc ?_
      refine ak 2 [(8, .row j' (encBind (.mk n t p)))] rfl ?_
      refine az ?_
      refine ag [] rfl ?_
      refine ⟨nk + j' + 1, hlt, by dsimp only; omega, ?_⟩
      dsimp only
      rw [hms]
      refine slG tGW (fun i hi => GW.kf i hi) (h1 := Kn.app Kn.nil (Kn.app (Kn.of rfl) (Kn.app (Kn.of rfl) (Kn.app (hkr _) Kn.nil)))) (hh := ⟨⟨_, rfl, .varS rfl⟩, ⟨_, rfl, .varS rfl⟩, ⟨_, rfl, .arrS ?_⟩, ⟨_, rfl, .arrS ?_⟩, trivial⟩)
      · rw [List.drop_set, if_neg (by omega), Nat.add_sub_cancel_left, ← mkB_setp _ ht hnn (by rw [List.length_drop]; omega), ← encBinds_set]
        rfl
      · rw [List.take_set_of_le (by omega)]
  have hge : j = ps.length := by
    have : ¬ (j : Int) < ((tP nk tys.length).length : Int) := of_decide_eq_false hb
    omega
  subst hge
  rw [mixP_end]
  refine awp_exit ?_
  exact ⟨.inl rfl, finT (hl := tG tys nk ns (ps.map sb)) hF (by repeat (first | exact FarEq.raw hF | (refine FarEq.updL hF ?_) | (refine FarEq.upd hF ?_))) ⟨[], [], .nil, .nil, rfl⟩ (fun _ h => by cases h) tGW.refs (fun i hi => GW.kf i hi) (fun p hp => by rcases List.mem_append.1 hp with hp | hp; exact (List.all_eq_true.1 (tGW (tys := tys) (nk := nk) (ns := ns) (ps := ps)).plain) p hp; cases hp)⟩
end Go.Proofs.YtmoekkcdkjopgaaGreatDoor

/- A GROUP (core.group.put): of what has kids and binds. -/
namespace Go.Proofs.YtmoekkcdkjopgaaGreatDoor
open Go Go.AM
set_option maxRecDepth 20000
theorem c_cvarG (s : Str) : ImpC Tryz.prog 52 [Go.AM.T s] [] (.pa (encCore (vC s))) [] := by
  refine impC (n := 5) tok Tryz.func52 rfl rfl rfl ?_
  refine awp_seq (ag [] rfl ?_)
  refine awp_seq (ag [] rfl ?_)
  exact awp_ret (rtC trw)
theorem fm_step {l : List Core} {j : Nat} {p : Core} (h : l[j]? = some p) : (l.take (j + 1)).flatMap pfR = (l.take j).flatMap pfR ++ pfR p := by
  rw [List.take_add_one, h, List.flatMap_append]
  simp
theorem fm_len (l : List Core) (j : Nat) : ((l.take j).flatMap pfR).length ≤ (l.flatMap pfR).length := by
  have : l.flatMap pfR = (l.take j).flatMap pfR ++ (l.drop j).flatMap pfR := by rw [← List.flatMap_append, List.take_append_drop]
  rw [this, List.length_append]; omega
/-- What is known of the parts: they, and what comes of them when names turn, may be put into. -/
structure PutOk (sb : Core → Str → Core → Core) (P : Core → Prop) (s : Str) (b : Core) (ps : List Core) : Prop where
  in_ : ∀ p ∈ ps, P p
  free : ∀ p ∈ ps, ImpC Tryz.prog 67 [.pa (encCore p)] [] (strsV (pfR p)) []
  far : ImpC Tryz.prog 67 [.pa (encCore b)] [] (strsV (pfR b)) []
  ren : ∀ p n z, P p → z.length ≤ 30 → P (sb p n (vC z))
  subz : ∀ p n z, P p → z.length ≤ 30 → ImpC Tryz.prog 25 [.pa (encCore p), Go.AM.T n, .pa (encCore (vC z))] [] (.pa (encCore (sb p n (vC z)))) []
  subb : ∀ p, P p → ImpC Tryz.prog 25 [.pa (encCore p), Go.AM.T s, .pa (encCore b)] [] (.pa (encCore (sb p s b))) []
  itoa : ItoaTo 20000000000
/-- The state on the way: names, parts, what is taken. -/
noncomputable def gSt (sb : Core → Str → Core → Core) (b : Core) (ns : List Str) (ps : List Core) (i : Nat) : List Str × List Core × List Str := gAll sb (pfR b) (ns.take i) ([], ps, ps.flatMap pfR ++ ns ++ pfR b)
noncomputable def gNs (sb : Core → Str → Core → Core) (b : Core) (ns : List Str) (ps : List Core) (i : Nat) : List Str := (gSt sb b ns ps i).1 ++ ns.drop i
section
variable {sb : Core → Str → Core → Core} {b : Core} {ns : List Str} {ps : List Core} {i : Nat} {n : Str}
theorem gSt_lens (hi : i ≤ ns.length) : (gSt sb b ns ps i).1.length = i ∧ (gSt sb b ns ps i).2.1.length = ps.length ∧ (gSt sb b ns ps i).2.2.length ≤ (ps.flatMap pfR ++ ns ++ pfR b).length + i := by
  obtain ⟨h1, h2, h3⟩ := gAll_len (sb := sb) (far := pfR b) (ns := ns.take i) (st := ([], ps, ps.flatMap pfR ++ ns ++ pfR b))
  rw [List.length_take, Nat.min_eq_left hi] at h1 h3
  exact ⟨by unfold gSt; simpa using h1, h2, h3⟩
theorem gNs_len (hi : i ≤ ns.length) : (gNs sb b ns ps i).length = ns.length := by
  unfold gNs
  rw [List.length_append, (gSt_lens hi).1, List.length_drop]; omega
theorem gNs_at (h : ns[i]? = some n) : (gNs sb b ns ps i)[i]? = some n := by
  have hlt : i < ns.length := (List.getElem?_eq_some_iff.1 h).1
  unfold gNs
  rw [List.getElem?_append_right (by rw [(gSt_lens (Nat.le_of_lt hlt)).1]; exact Nat.le_refl _), (gSt_lens (Nat.le_of_lt hlt)).1, Nat.sub_self, List.getElem?_drop, Nat.add_zero, h]
theorem gSt_succ (h : ns[i]? = some n) : gSt sb b ns ps (i + 1) = gStep sb (pfR b) (gSt sb b ns ps i) n := gAll_snoc h
theorem gNs_in (h : ns[i]? = some n) (hf : n ∈ pfR b) : gNs sb b ns ps (i + 1) = (gNs sb b ns ps i).set i (freshR (gSt sb b ns ps i).2.2) := by
  have hlt : i < ns.length := (List.getElem?_eq_some_iff.1 h).1
  have hl := (gSt_lens (sb := sb) (b := b) (ps := ps) (Nat.le_of_lt hlt)).1
  unfold gNs
  rw [gSt_succ h, drop_at h, set_mid hl]
  unfold gStep
  rw [if_pos hf]
  simp
theorem gNs_out (h : ns[i]? = some n) (hf : ¬ n ∈ pfR b) : gNs sb b ns ps (i + 1) = gNs sb b ns ps i := by
  unfold gNs
  rw [gSt_succ h, drop_at h]
  unfold gStep
  rw [if_neg hf]
  simp
theorem gNs_zero : gNs sb b ns ps 0 = ns := by unfold gNs gSt gAll; simp
theorem gSt_zero : gSt sb b ns ps 0 = ([], ps, ps.flatMap pfR ++ ns ++ pfR b) := by unfold gSt gAll; simp
theorem gNs_end : gNs sb b ns ps ns.length = (gSt sb b ns ps ns.length).1 := by unfold gNs; simp
theorem gSt_end : gSt sb b ns ps ns.length = gAll sb (pfR b) ns ([], ps, ps.flatMap pfR ++ ns ++ pfR b) := by unfold gSt; rw [List.take_length]
theorem gSt_P {P : Core → Prop} {s : Str} (h : PutOk sb P s b ps) : ∀ {i : Nat}, i ≤ ns.length → (gSt sb b ns ps i).2.2.length ≤ 20000000000 → (∀ j, j ≤ i → (gSt sb b ns ps j).2.2.length ≤ 20000000000) → ∀ p ∈ (gSt sb b ns ps i).2.1, P p
  | 0, _, _, _ => by rw [gSt_zero]; exact h.in_
  | i + 1, hi, _, hb => by
    obtain ⟨n, hn⟩ := get_of_lt (show i < ns.length by omega)
    have ih := gSt_P h (i := i) (by omega) (hb i (by omega)) fun j hj => hb j (by omega)
    rw [gSt_succ hn]
    unfold gStep
    split
    · intro p hp
      obtain ⟨q, hq, rfl⟩ := List.mem_map.1 hp
      exact h.ren q n _ (ih q hq) (Nat.le_trans (fresh_len _ (hb i (by omega))) (by omega))
    · exact ih
end
end Go.Proofs.YtmoekkcdkjopgaaGreatDoor

/- A GROUP (core.group.put): of what has kids and binds: the walk. -/
namespace Go.Proofs.YtmoekkcdkjopgaaGreatDoor
open Go Go.AM
set_option maxRecDepth 20000
def tkA (l : List Str) : AObj := .arr 9 1 (l.map encS) 2
def tkV (l : List Str) : V := .one (.hs 720 0 l.length l.length)
def gpV (nG pG : List R) : V := .ma [.ras nG.length 1 nG, .ras pG.length 1 pG]
theorem tHW {tys : List Ty} {nk : Nat} {ns : List Str} {ps : List Core} : GW (tH tys nk ns ps) [] := ⟨tGW (tys := tys) (nk := nk) (ns := ns) (ps := ps).tf, fun x hx => (by cases hx), rfl, rfl⟩
theorem t_callOk {tys : List Ty} {nk : Nat} {ns : List Str} {ps : List Core} {n : Str} {l : List C} : callOk ([Go.AM.T n, .pa l] ++ List.map V.one [R.vp 3 0]) (tG tys nk ns ps ++ []) = true := by
  refine callOkT (tHW (tys := tys) (nk := nk) (ns := ns) (ps := ps)).tf (fun x hx => .inl ?_) tGW.refs
  have : x = 3 := by simpa [V.refsL, V.refs, R.refs] using hx
  subst this
  simp [tG, keys]
theorem c_putT (tys : List Ty) (nk : Nat) (ns : List Str) (ps : List Core) (s : Str) (b : Core) (sb : Core → Str → Core → Core) (P : Core → Prop) (hn : ns.length = tys.length) (hp : ps.length = nk + tys.length) (hok : PutOk sb P s b ps)
    (hM : (ps.flatMap pfR).length + 2 * ns.length + (pfR b).length + ps.length ≤ 20000000000) :
    ImpC Tryz.prog 68 [gpV (tN tys.length) (tP nk tys.length), Go.AM.T s, .pa (encCore b)] (tH tys nk ns ps ++ []) (.tup []) (tH tys nk (putR sb s b ns ps).1 (putR sb s b ns ps).2 ++ []) := by
  have hF : TF [] := tHW (tys := tys) (nk := nk) (ns := ns) (ps := ps).tf
  have hpl := tP_len (nk := nk) (nb := tys.length)
  have hnl := tN_len (nb := tys.length)
  have hkp : ∀ ex ns' ps', ∀ x ∈ R.refsL (tP nk tys.length), Kn ex (tH tys nk ns' ps') [] x := fun ex ns' ps' x hx => by
    rcases tP_refs x hx with rfl | rfl
    · exact .inr (.inl (by simp [tH, keys]))
    · exact .inr (.inl (by simp [tH, keys]))
  have hkn : ∀ ex ns' ps', ∀ x ∈ R.refsL (tN tys.length), Kn ex (tH tys nk ns' ps') [] x := fun ex ns' ps' x hx => by
    have := tN_refs x hx
    subst this
    exact .inr (.inl (by simp [tH, keys]))
  have hkg : ∀ ex ns' ps', ∀ x ∈ (grO (tN tys.length) (tP nk tys.length)).refs, Kn ex (tH tys nk ns' ps') [] x := fun ex ns' ps' x hx => by
    rcases tG_refs x hx with rfl | rfl
    · exact .inr (.inl (by simp [tH, keys]))
    · exact .inr (.inl (by simp [tH, keys]))
  have hsz1 : ∀ ps' : List Core, ps'.length = ps.length → nk = (encCores (ps'.take nk)).length := fun ps' h => by rw [encCores_map, List.length_map, List.length_take]; omega
  have hsz2 : ∀ (ns' : List Str) (ps' : List Core), ns'.length = ns.length → ps'.length = ps.length → tys.length = (encBinds (mkB tys ns' (ps'.drop nk))).length := fun ns' ps' h h' => by rw [encBinds_map, List.length_map, mkB_len (by omega) (by rw [List.length_drop]; omega)]
  have hs1 := hsz1 ps rfl
  have hs2 := hsz2 ns ps rfl rfl
  refine impCT hF (n := 92) tok Tryz.func68 rfl rfl rfl ?_
  refine awp_seq (ag [] rfl ?_)
  refine awp_seq (ag [] rfl ?_)
  refine AWp.sub (Sub.own (t := 6) (id := 720) 9 1 rfl rfl) (AWp.sub (Sub.freeze (id := 720) rfl) ?_)
  refine awp_seq (awp_seq (ag [] rfl ?_))
  refine awp_block ?_
  refine awp_loop (fun j : Nat => mkt [(1, Go.AM.T s), (3, .one (.vp 3 0)), (5, .one (.vp 5 0)), (6, tkV ((ps.take j).flatMap pfR)), (17, .one (.ras (tP nk tys.length).length 1 (tP nk tys.length))), (18, I .i64 (((tP nk tys.length).length : Nat) : Int)), (19, I .i64 j)] ([(3, grO (tN tys.length) (tP nk tys.length)), (5, .var 37 (cellsC b)), (720, tkA ((ps.take j).flatMap pfR))] ++ tH tys nk ns ps) []) (fun j => j ≤ (tP nk tys.length).length) (fun j => (tP nk tys.length).length - j) 0 (Nat.zero_le _) ?_ ?_
  · exact slG tHW (h1 := Kn.app Kn.nil (Kn.app (Kn.of rfl) (Kn.app (Kn.of rfl) (Kn.app (Kn.of rfl) (Kn.app (hkp _ _ _) Kn.nil))))) (h2 := ⟨hkg _ _ _, Kn.of rfl, Kn.of rfl, trivial⟩)
  · intro j hj
    refine awp_seq (ag [] rfl ?_)
    refine awp_seq (awp_cond rfl (fun hb => ?_) (fun hb => ?_))
    · have hlt : j < (tP nk tys.length).length := by
        have : (j : Int) < ((tP nk tys.length).length : Int) := of_decide_eq_true hb
        omega
      obtain ⟨p, hpj⟩ := get_of_lt (show j < ps.length by omega)
      have hf := hok.free p (List.mem_of_getElem? hpj)
      have hst := fm_step hpj
      have hl1 := fm_len ps (j + 1)
      rw [hst, List.length_append] at hl1
      have hq1 : (((ps.take j).flatMap pfR).map encS).length = ((ps.take j).flatMap pfR).length := List.length_map _
      have hq2 : ((pfR p).map encS).length = (pfR p).length := List.length_map _
      generalize (ps.take j).flatMap pfR = q at hst hl1 hq1 ⊢
      refine awp_skip ?_
      by_cases hjk : j < nk
      · have ht1 := tP_at1 (nb := tys.length) hjk
        have hrow : (encCores (ps.take nk))[j]? = some (encCore p) := encAt (by rw [List.getElem?_take, if_pos hjk, hpj])
        refine awp_seq (awp_block (awp_seq (ag [(0, .rowR j [.ep 702 j 0 nk])] rfl ?_)))
        refine awp_rg mixed ?_
        refine ak 4 [(3, .row j (encCore p))] rfl ?_
        refine kc hf ?_
        refine ak 2 [] rfl ?_
        refine az ?_
        refine AWp.sub (Sub.freeze (id := 720) rfl) ?_
        refine ag [] rfl ?_
        refine ⟨j + 1, hlt, by dsimp only; omega, ?_⟩
        dsimp only
        rw [hst]
        exact slG tHW (h1 := Kn.app Kn.nil (Kn.app (Kn.of rfl) (Kn.app (Kn.of rfl) (Kn.app (Kn.of rfl) (Kn.app (hkp _ _ _) Kn.nil))))) (h2 := ⟨hkg _ _ _, Kn.of rfl, Kn.of rfl, trivial⟩) (he := ⟨rfl, rfl, rfl, Go.AM.hs_ren (by simp) (by simp), congrArg some (V.ren_id _).symm, rfl, rfl, trivial⟩) (hh := ⟨⟨_, rfl, .varS rfl⟩, ⟨_, rfl, .varS rfl⟩, ⟨_, rfl, .arrS (by simp)⟩, ⟨_, rfl, .arr⟩, ⟨_, rfl, .arr⟩, trivial⟩)
      · obtain ⟨j', rfl⟩ : ∃ j', j = nk + j' := ⟨j - nk, by omega⟩
        have hjb : j' < tys.length := by omega
        obtain ⟨t, ht⟩ := get_of_lt hjb
        obtain ⟨n, hnn⟩ := get_of_lt (show j' < ns.length by omega)
        have hd : (ps.drop nk)[j']? = some p := by rw [List.getElem?_drop]; exact hpj
        have ht1 := tP_at2 (nk := nk) hjb
        have hrow : (encBinds (mkB tys ns (ps.drop nk)))[j']? = some (encBind (.mk n t p)) := encBinds_at (mkB_at ht hnn hd)
        refine awp_seq (awp_block (awp_seq (ag [(0, .rowR (nk + j') [.ep 701 j' 5 tys.length])] rfl ?_)))
        refine awp_rg mixed ?_
        refine ak 4 [(3, .row j' (encBind (.mk n t p)))] rfl ?_
        refine kc hf ?_
        refine ak 2 [] rfl ?_
        refine az ?_
        refine AWp.sub (Sub.freeze (id := 720) rfl) ?_
        refine ag [] rfl ?_
        refine ⟨nk + j' + 1, hlt, by dsimp only; omega, ?_⟩
        dsimp only
        rw [hst]
        exact slG tHW (h1 := Kn.app Kn.nil (Kn.app (Kn.of rfl) (Kn.app (Kn.of rfl) (Kn.app (Kn.of rfl) (Kn.app (hkp _ _ _) Kn.nil))))) (h2 := ⟨hkg _ _ _, Kn.of rfl, Kn.of rfl, trivial⟩) (he := ⟨rfl, rfl, rfl, Go.AM.hs_ren (by simp) (by simp), congrArg some (V.ren_id _).symm, rfl, rfl, trivial⟩) (hh := ⟨⟨_, rfl, .varS rfl⟩, ⟨_, rfl, .varS rfl⟩, ⟨_, rfl, .arrS (by simp)⟩, ⟨_, rfl, .arr⟩, ⟨_, rfl, .arr⟩, trivial⟩)
    have hge : j = ps.length := by
      have : ¬ (j : Int) < ((tP nk tys.length).length : Int) := of_decide_eq_false hb
      omega
    subst hge
    rw [List.take_length]
    refine awp_exit ?_
    have hct := c_contains (ps.flatMap pfR) s (by omega)
    refine awp_seq (awp_seq (awp_rg mixed ?_))
    refine ak 2 [] rfl ?_
    refine kc hct ?_
    refine ak 1 [] rfl ?_
    refine az ?_
    refine awp_cond rfl (fun hb => ?_) (fun hb => ?_)
    · have hno : ¬ s ∈ ps.flatMap pfR := by
        intro h
        have hb : (!decide (s ∈ ps.flatMap pfR)) = true := hb
        rw [decide_eq_true h] at hb; cases hb
      have he : putR sb s b ns ps = (ns, ps) := by unfold putR; rw [if_neg fun h => hno h.1]
      rw [he]
      exact awp_ret ⟨.inr rfl, finT hF (by repeat (first | exact FarEq.raw hF | (refine FarEq.updL hF ?_) | (refine FarEq.upd hF ?_))) ⟨[], [], .nil, .nil, rfl⟩ (fun _ h => by cases h) tHW.refs (fun i hi => GW.kf i hi) (fun p hp => by rcases List.mem_append.1 hp with hp | hp; exact (List.all_eq_true.1 (tHW (tys := tys) (nk := nk) (ns := ns) (ps := ps)).plain) p hp; cases hp)⟩
    have hin : s ∈ ps.flatMap pfR := by
      have hb : (!decide (s ∈ ps.flatMap pfR)) = false := hb
      by_cases h : s ∈ ps.flatMap pfR
      · exact h
      · rw [decide_eq_false h] at hb; cases hb
    refine awp_skip ?_
    refine awp_seq (awp_seq (ag [] rfl ?_))
    refine awp_block ?_
    refine awp_loop (fun j : Nat => mkt [(1, Go.AM.T s), (3, .one (.vp 3 0)), (5, .one (.vp 5 0)), (6, tkV (ps.flatMap pfR ++ ns.take j)), (35, .one (.ras (tN tys.length).length 1 (tN tys.length))), (36, I .i64 (((tN tys.length).length : Nat) : Int)), (37, I .i64 j)] ([(3, grO (tN tys.length) (tP nk tys.length)), (5, .var 37 (cellsC b)), (720, tkA (ps.flatMap pfR ++ ns.take j))] ++ tH tys nk ns ps) []) (fun j => j ≤ (tN tys.length).length ∧ ¬ s ∈ ns.take j) (fun j => (tN tys.length).length - j) 0 ⟨Nat.zero_le _, by simp⟩ ?_ ?_
    · exact slG tHW (h1 := Kn.app Kn.nil (Kn.app (Kn.of rfl) (Kn.app (Kn.of rfl) (Kn.app (Kn.of rfl) (Kn.app (hkn _ _ _) Kn.nil))))) (h2 := ⟨hkg _ _ _, Kn.of rfl, Kn.of rfl, trivial⟩) (he := ⟨rfl, rfl, rfl, Go.AM.hs_ren (by simp) (by simp), congrArg some (V.ren_id _).symm, rfl, rfl, trivial⟩) (hh := ⟨⟨_, rfl, .varS rfl⟩, ⟨_, rfl, .varS rfl⟩, ⟨_, rfl, .arrS (by simp)⟩, ⟨_, rfl, .arr⟩, ⟨_, rfl, .arr⟩, trivial⟩)
    rintro j ⟨hj, hnos⟩
    refine awp_seq (ag [] rfl ?_)
    refine awp_seq (awp_cond rfl (fun hb => ?_) (fun hb => ?_))
    · have hlt : j < (tN tys.length).length := by
        have : (j : Int) < ((tN tys.length).length : Int) := of_decide_eq_true hb
        omega
      have hjb : j < tys.length := by omega
      obtain ⟨t, ht⟩ := get_of_lt hjb
      obtain ⟨n, hnn⟩ := get_of_lt (show j < ns.length by omega)
      obtain ⟨p, hpj⟩ := get_of_lt (show nk + j < ps.length by omega)
      have hd : (ps.drop nk)[j]? = some p := by rw [List.getElem?_drop]; exact hpj
      have ht1 := tN_at hjb
      have hrow : (encBinds (mkB tys ns (ps.drop nk)))[j]? = some (encBind (.mk n t p)) := encBinds_at (mkB_at ht hnn hd)
      have hstp : ns.take (j + 1) = ns.take j ++ [n] := by rw [List.take_add_one, hnn]; rfl
      have hq1 : ((ps.flatMap pfR ++ ns.take j).map encS).length = (ps.flatMap pfR ++ ns.take j).length := List.length_map _
      have hql : (ps.flatMap pfR ++ ns.take j).length ≤ 20000000000 := by rw [List.length_append, List.length_take]; omega
      refine awp_skip ?_
      refine awp_seq (awp_block (awp_seq (ag [(0, .rowR j [.ep 701 j 0 tys.length])] rfl ?_)))
      refine awp_seq (awp_seq (ag [(2, .row j (encBind (.mk n t p)))] rfl ?_))
      refine awp_cond rfl (fun hb => ?_) (fun hb => ?_)
      · have hns : n = s := of_decide_eq_true hb
        have he : putR sb s b ns ps = (ns, ps) := by
          unfold putR
          rw [if_neg fun h => h.2 (hns ▸ List.mem_of_getElem? hnn)]
        rw [he]
        exact awp_ret ⟨.inr rfl, finT hF (by repeat (first | exact FarEq.raw hF | (refine FarEq.updL hF ?_) | (refine FarEq.upd hF ?_))) ⟨[], [], .nil, .nil, rfl⟩ (fun _ h => by cases h) tHW.refs (fun i hi => GW.kf i hi) (fun p hp => by rcases List.mem_append.1 hp with hp | hp; exact (List.all_eq_true.1 (tHW (tys := tys) (nk := nk) (ns := ns) (ps := ps)).plain) p hp; cases hp)⟩
      have hns : ¬ n = s := of_decide_eq_false hb
      refine awp_skip ?_
      generalize ps.flatMap pfR = fm at *
      rw [show fm ++ ns.take j = fm ++ ns.take j from rfl]
      generalize hq : fm ++ ns.take j = q at *
      refine ag [(3, .row j (encBind (.mk n t p)))] rfl ?_
      refine AWp.sub (Sub.freeze (id := 720) rfl) ?_
      refine ag [] rfl ?_
      refine ⟨j + 1, ⟨hlt, ?_⟩, by dsimp only; omega, ?_⟩
      · rw [hstp]
        intro h
        rcases List.mem_append.1 h with h | h
        · exact hnos h
        · exact hns (List.mem_singleton.1 h).symm
      dsimp only
      rw [hstp, ← List.append_assoc, hq]
      exact slG tHW (h1 := Kn.app Kn.nil (Kn.app (Kn.of rfl) (Kn.app (Kn.of rfl) (Kn.app (Kn.of rfl) (Kn.app (hkn _ _ _) Kn.nil))))) (h2 := ⟨hkg _ _ _, Kn.of rfl, Kn.of rfl, trivial⟩) (he := ⟨rfl, rfl, rfl, Go.AM.hs_ren (by simp) (by simp), congrArg some (V.ren_id _).symm, rfl, rfl, trivial⟩) (hh := ⟨⟨_, rfl, .varS rfl⟩, ⟨_, rfl, .varS rfl⟩, ⟨_, rfl, .arrS (by simp [encS, Bind.name])⟩, ⟨_, rfl, .arr⟩, ⟨_, rfl, .arr⟩, trivial⟩)
    have hge : j = ns.length := by
      have : ¬ (j : Int) < ((tN tys.length).length : Int) := of_decide_eq_false hb
      omega
    subst hge
    rw [List.take_length] at hnos ⊢
    have hput : putR sb s b ns ps = ((gSt sb b ns ps ns.length).1, (gSt sb b ns ps ns.length).2.1.map fun p => sb p s b) := by
      unfold putR
      rw [if_pos ⟨hin, hnos⟩, gSt_end]
    have hql : (ps.flatMap pfR ++ ns).length ≤ 20000000000 := by rw [List.length_append]; omega
    have hq1 : ((ps.flatMap pfR ++ ns).map encS).length = (ps.flatMap pfR ++ ns).length := List.length_map _
    have hq2 : ((pfR b).map encS).length = (pfR b).length := List.length_map _
    have hfar := hok.far
    refine awp_exit ?_
    refine awp_seq (awp_rg mixed ?_)
    refine ak 1 [] rfl ?_
    refine kc hfar ?_
    refine ak 1 [] rfl ?_
    refine az ?_
    have hlq : (ps.flatMap pfR ++ ns).length + (pfR b).length ≤ 20000000000 := by rw [List.length_append]; omega
    refine awp_seq (ag [] rfl ?_)
    refine AWp.sub (Sub.freeze (id := 720) rfl) ?_
    refine awp_seq (ag [] rfl ?_)
    refine awp_seq (awp_seq (ag [] rfl ?_))
    refine awp_block ?_
    have hall : ∀ i, i ≤ ns.length → (gSt sb b ns ps i).2.2.length ≤ 20000000000 := fun i hi => by
      have h1 := (gSt_lens (sb := sb) (b := b) (ps := ps) hi).2.2
      simp only [List.length_append] at h1
      omega
    refine awp_loop (fun i : Nat => mkt [(1, Go.AM.T s), (5, .one (.vp 5 0)), (6, tkV (gSt sb b ns ps i).2.2), (11, strsV (pfR b)), (12, .one (.clo 131 [.vp 3 0])), (60, .one (.ras (tN tys.length).length 1 (tN tys.length))), (61, I .i64 (((tN tys.length).length : Nat) : Int)), (62, I .i64 i)] ([(3, grO (tN tys.length) (tP nk tys.length)), (5, .var 37 (cellsC b)), (720, tkA (gSt sb b ns ps i).2.2)] ++ tH tys nk (gNs sb b ns ps i) (gSt sb b ns ps i).2.1) []) (fun i => i ≤ (tN tys.length).length) (fun i => (tN tys.length).length - i) 0 (Nat.zero_le _) ?_ ?_
    · rw [gSt_zero, gNs_zero]
      exact slG tHW (h1 := Kn.app Kn.nil (Kn.app (Kn.of rfl) (Kn.app (Kn.of rfl) (Kn.app Kn.nil (Kn.app (Kn.of rfl) (Kn.app (hkn _ _ _) Kn.nil)))))) (h2 := ⟨hkg _ _ _, Kn.of rfl, Kn.of rfl, trivial⟩) (he := ⟨rfl, rfl, Go.AM.hs_ren (by simp only [List.length_append, List.length_map]) (by simp only [List.length_append, List.length_map]), rfl, rfl, congrArg some (V.ren_id _).symm, rfl, rfl, trivial⟩) (hh := ⟨⟨_, rfl, .varS rfl⟩, ⟨_, rfl, .varS rfl⟩, ⟨_, rfl, .arrS (by simp)⟩, ⟨_, rfl, .arr⟩, ⟨_, rfl, .arr⟩, trivial⟩)
    intro i hi
    have hle : i ≤ ns.length := by omega
    refine awp_seq (ag [] rfl ?_)
    refine awp_seq (awp_cond rfl (fun hb => ?_) (fun hb => ?_))
    · have hlt : i < (tN tys.length).length := by
        have : (i : Int) < ((tN tys.length).length : Int) := of_decide_eq_true hb
        omega
      have hjb : i < tys.length := by omega
      obtain ⟨t, ht⟩ := get_of_lt hjb
      obtain ⟨n, hnn⟩ := get_of_lt (show i < ns.length by omega)
      obtain ⟨hg1, hg2, hg3⟩ := gSt_lens (sb := sb) (b := b) (ps := ps) hle
      have hgl := gNs_len (sb := sb) (b := b) (ps := ps) hle
      have hga := gNs_at (sb := sb) (b := b) (ps := ps) hnn
      have hP := gSt_P hok hle (hall i hle) (fun j hj => hall j (by omega))
      have hs3 := hsz1 _ hg2
      have hs4 := hsz2 _ _ hgl hg2
      have hsucc := gSt_succ (sb := sb) (b := b) (ps := ps) hnn
      have hnin := gNs_in (sb := sb) (b := b) (ps := ps) hnn
      have hnout := gNs_out (sb := sb) (b := b) (ps := ps) hnn
      have hall0 := hall i hle
      have ht1 := tN_at hjb
      have hcf := c_contains (pfR b) n (by omega)
      have hcr := c_fresh (gSt sb b ns ps i).2.2 (by omega) fun k hk => hok.itoa k (by omega)
      generalize gSt sb b ns ps i = G at *
      generalize gNs sb b ns ps i = N at *
      obtain ⟨d0, qs, tk⟩ := G
      dsimp only at *
      obtain ⟨p, hpj⟩ := get_of_lt (show nk + i < qs.length by omega)
      have hd : (qs.drop nk)[i]? = some p := by rw [List.getElem?_drop]; exact hpj
      have hrow : (encBinds (mkB tys N (qs.drop nk)))[i]? = some (encBind (.mk n t p)) := encBinds_at (mkB_at ht hga hd)
      refine awp_skip ?_
      refine awp_seq (awp_block (awp_seq (ag [(0, .rowR i [.ep 701 i 0 tys.length])] rfl ?_)))
      refine awp_seq (awp_rg mixed ?_)
      refine ak 4 [(3, .row i (encBind (.mk n t p)))] rfl ?_
      refine kc hcf ?_
      refine az ?_
      refine awp_cond rfl (fun hb => ?_) (fun hb => ?_)
      · have hmem : n ∈ pfR b := of_decide_eq_true hb
        have hnin := hnin hmem
        unfold gStep at hsucc
        rw [if_pos hmem] at hsucc
        dsimp only at hsucc
        have hz : (freshR tk).length ≤ 30 := Nat.le_trans (fresh_len _ hall0) (by omega)
        have hca := c_allT tys nk N qs n (vC (freshR tk)) (fun p => sb p n (vC (freshR tk))) (by omega) (by omega) (by omega) fun p hp => hok.subz p n _ (hP p hp) hz
        have hcv := c_cvarG (freshR tk)
        have hqt : (tk.map encS).length = tk.length := List.length_map _
        generalize freshR tk = z at *
        refine awp_seq (awp_rg mixed ?_)
        refine ak 1 [] rfl ?_
        refine kc hcr ?_
        refine ak 1 [] rfl ?_
        refine az ?_
        refine awp_seq (ag [] rfl ?_)
        refine AWp.sub (Sub.freeze (id := 720) rfl) ?_
        refine awp_seq (awp_rg mixed ?_)
        refine ak 5 [(3, .row i (encBind (.mk n t p)))] rfl ?_
        refine kc hcv ?_
        refine kv (caps := [.vp 3 0]) (args := [Go.AM.T n, .pa (encCore (vC z))]) hca ?_ (hok := t_callOk)
        refine az ?_
        have hml : (qs.map fun p => sb p n (vC z)).length = ps.length := by rw [List.length_map]; exact hg2
        have hd2 : ((qs.map fun p => sb p n (vC z)).drop nk)[i]? = some (sb p n (vC z)) := by rw [List.getElem?_drop, List.getElem?_map, hpj]; rfl
        have hrow2 : (encBinds (mkB tys N ((qs.map fun p => sb p n (vC z)).drop nk)))[i]? = some (encBind (.mk n t (sb p n (vC z)))) := encBinds_at (mkB_at ht hga hd2)
        have hs5 := hsz1 _ hml
        have hs6 := hsz2 _ _ hgl hml
        refine ag [(3, .row i (encBind (.mk n t (sb p n (vC z)))))] rfl ?_
        refine ag [] rfl ?_
        refine ⟨i + 1, hlt, by dsimp only; omega, ?_⟩
        dsimp only
        rw [hsucc, hnin]
        dsimp only
        refine slG tHW (fun i hi => GW.kf i hi) (h1 := Kn.app Kn.nil (Kn.app (Kn.of rfl) (Kn.app (Kn.of rfl) (Kn.app Kn.nil (Kn.app (Kn.of rfl) (Kn.app (hkn _ _ _) Kn.nil)))))) (h2 := ⟨hkg _ _ _, Kn.of rfl, Kn.of rfl, trivial⟩) (he := ⟨rfl, rfl, Go.AM.hs_ren (by simp) (by simp), rfl, rfl, congrArg some (V.ren_id _).symm, rfl, rfl, trivial⟩) (hh := ⟨⟨_, rfl, .varS rfl⟩, ⟨_, rfl, .varS rfl⟩, ⟨_, rfl, .arrS (by simp [encS])⟩, ⟨_, rfl, .arrS ?_⟩, ⟨_, rfl, .arr⟩, trivial⟩)
        rw [← mkB_setn z ht hd2 (by omega), ← encBinds_set]
        rfl
      · have hmem : ¬ n ∈ pfR b := of_decide_eq_false hb
        unfold gStep at hsucc
        rw [if_neg hmem] at hsucc
        dsimp only at hsucc
        refine awp_skip ?_
        refine ag [] rfl ?_
        refine ⟨i + 1, hlt, by dsimp only; omega, ?_⟩
        dsimp only
        rw [hsucc, hnout hmem]
        exact slG tHW (fun i hi => GW.kf i hi) (h1 := Kn.app Kn.nil (Kn.app (Kn.of rfl) (Kn.app (Kn.of rfl) (Kn.app Kn.nil (Kn.app (Kn.of rfl) (Kn.app (hkn _ _ _) Kn.nil)))))) (h2 := ⟨hkg _ _ _, Kn.of rfl, Kn.of rfl, trivial⟩)
    have hge : i = ns.length := by
      have : ¬ (i : Int) < ((tN tys.length).length : Int) := of_decide_eq_false hb
      omega
    subst hge
    have hP := gSt_P hok (Nat.le_refl ns.length) (hall _ (Nat.le_refl _)) (fun j hj => hall j hj)
    obtain ⟨hg1, hg2, _⟩ := gSt_lens (sb := sb) (b := b) (ps := ps) (Nat.le_refl ns.length)
    rw [hput]
    rw [gNs_end]
    generalize gSt sb b ns ps ns.length = G at *
    obtain ⟨N, qs, tk⟩ := G
    dsimp only at *
    have hca := c_allT tys nk N qs s b (fun p => sb p s b) (by omega) (by omega) (by omega) fun p hp => hok.subb p (hP p hp)
    refine awp_exit ?_
    refine awp_rg mixed ?_
    refine ak 3 [] rfl ?_
    refine kv (caps := [.vp 3 0]) (args := [Go.AM.T s, .pa (encCore b)]) hca ?_ (hok := t_callOk)
    refine az ?_
    exact ⟨.inl rfl, finT hF (FarEq.outs hF) ⟨[], [], .nil, .nil, rfl⟩ (fun _ h => by cases h) tHW.refs (fun i hi => GW.kf i hi) (fun p hp => by rcases List.mem_append.1 hp with hp | hp; exact (List.all_eq_true.1 (tHW (tys := tys) (nk := nk) (ns := ns) (ps := ps)).plain) p hp; cases hp)⟩
end Go.Proofs.YtmoekkcdkjopgaaGreatDoor

/- A GROUP (core.group.put): of an alternative. -/
namespace Go.Proofs.YtmoekkcdkjopgaaGreatDoor
open Go Go.AM
set_option maxRecDepth 20000
def rowA (af an : Int) (anm : Str) (nv : Nat) (p : Core) : List R := [.c (.int .i64 af), .c (.int .i64 an), .c (.str anm), .hs 704 0 nv nv] ++ (encCore p).map R.c
def aH (rs : List (List R)) (k : Nat) (af an : Int) (anm : Str) (nv : Nat) (ns : List Str) (p : Core) : List (Nat × AObj) := [(703, .rarr 78 14 (rs.set k (rowA af an anm nv p))), (704, .arr 9 1 (ns.map encS) 0)]
def aN (nv : Nat) : List R := (rgR (fun j => [.ep 704 j 0 nv]) nv).flatten
def aP (k na : Nat) : List R := [.rp 703 k 4 na]
theorem aN_len {nv : Nat} : (aN nv).length = nv := by
  unfold aN
  rw [flat_len (rgR_one fun _ => rfl), rgR_len, Nat.mul_one]
theorem aN_at {nv j : Nat} (h : j < nv) : ((aN nv).drop (j * 1)).take 1 = [.ep 704 j 0 nv] := take_flat (rgR_one fun _ => rfl) j _ (rgR_at h)
theorem aN_refs {nv : Nat} : ∀ x ∈ R.refsL (aN nv), x = 704 := fun x hx => by
  unfold aN at hx
  rw [refsL_flat] at hx
  exact rgR_refs (L := fun x => x = 704) (fun j x hx => by simpa [R.refsL, R.refs] using hx) _ x hx
theorem aG_refs {k na nv : Nat} : ∀ x ∈ (grO (aN nv) (aP k na)).refs, x = 703 ∨ x = 704 := fun x hx => by
  have hx : x ∈ R.refsL (aN nv) ++ (R.refsL (aP k na) ++ []) := hx
  rw [List.append_nil] at hx
  rcases List.mem_append.1 hx with hx | hx
  · exact .inr (aN_refs x hx)
  · exact .inl (by simpa [aP, R.refsL, R.refs] using hx)
theorem refsR_set {x : Nat} : ∀ {rs : List (List R)} {k : Nat} {r : List R}, x ∈ refsR (rs.set k r) → x ∈ refsR rs ∨ x ∈ R.refsL r
  | [], _, _, h => .inl h
  | q :: rs, 0, r, h => by
    rcases List.mem_append.1 (show x ∈ R.refsL r ++ refsR rs from h) with h | h
    · exact .inr h
    · exact .inl (List.mem_append.2 (.inr h))
  | q :: rs, k + 1, r, h => by
    rcases List.mem_append.1 (show x ∈ R.refsL q ++ refsR (rs.set k r) from h) with h | h
    · exact .inl (List.mem_append.2 (.inl h))
    · exact (refsR_set h).imp (fun h => List.mem_append.2 (.inr h)) id
theorem rowA_refs {af an : Int} {anm : Str} {nv : Nat} {p : Core} {x : Nat} (h : x ∈ R.refsL (rowA af an anm nv p)) : x = 704 := by
  unfold rowA encCore at h
  simpa [R.refsL, R.refs] using h
abbrev aG (rs : List (List R)) (k : Nat) (af an : Int) (anm : Str) (nv : Nat) (ns : List Str) (p : Core) : List (Nat × AObj) := (3, grO (aN nv) (aP k rs.length)) :: aH rs k af an anm nv ns p
section
variable {rs : List (List R)} {k : Nat} {af an : Int} {anm : Str} {nv : Nat} {ns : List Str} {p : Core} {F : List (Nat × AObj)}
theorem aHW (hF : TF F) (hr : ∀ x ∈ refsR rs, x ∈ keys F) : GW (aH rs k af an anm nv ns p) F := ⟨hF, fun x hx => by
  have hx : x ∈ refsR (rs.set k (rowA af an anm nv p)) ++ [] := hx
  rw [List.append_nil] at hx
  rcases refsR_set hx with h | h
  · exact .inr (hr x h)
  · rw [rowA_refs h]; exact .inl (by simp [aH, keys]), rfl, rfl⟩
theorem aGW (hF : TF F) (hr : ∀ x ∈ refsR rs, x ∈ keys F) : GW (aG rs k af an anm nv ns p) F := ⟨hF, fun x hx => by
  rcases List.mem_append.1 (show x ∈ (grO (aN nv) (aP k rs.length)).refs ++ refsH (aH rs k af an anm nv ns p) from hx) with hx | hx
  · rcases aG_refs x hx with rfl | rfl
    · exact .inl (by simp [aG, aH, keys])
    · exact .inl (by simp [aG, aH, keys])
  · exact ((aHW hF hr).refs x hx).imp (fun h => List.mem_cons_of_mem _ h) id, rfl, rfl⟩
end
theorem rsSet {rs : List (List R)} {k : Nat} {r r' : List R} : (rs.set k r).set k r' = rs.set k r' := List.set_set ..
theorem c_allA (rs : List (List R)) (k : Nat) (af an : Int) (anm : Str) (nv : Nat) (ns : List Str) (p : Core) (F : List (Nat × AObj)) (nm : Str) (b : Core) (sb : Core → Core) (hF : TF F) (hr : ∀ x ∈ refsR rs, x ∈ keys F) (hk : k < rs.length)
    (hc : ImpC Tryz.prog 25 [.pa (encCore p), Go.AM.T nm, .pa (encCore b)] [] (.pa (encCore (sb p))) []) :
    ImpC Tryz.prog 131 [Go.AM.T nm, .pa (encCore b), .one (.vp 3 0)] (aG rs k af an anm nv ns p ++ F) (.tup []) (aG rs k af an anm nv ns (sb p) ++ F) := by
  have W : ∀ p, GW (aG rs k af an anm nv ns p) F := fun p => aGW hF hr
  have hsz : rs.length = (rs.set k (rowA af an anm nv p)).length := (List.length_set ..).symm
  have hrow : (rs.set k (rowA af an anm nv p))[k]? = some (rowA af an anm nv p) := List.getElem?_set_self hk
  refine impCT hF (n := 23) tok Tryz.func131 rfl rfl rfl ?_
  refine awp_seq (ag [] rfl ?_)
  refine awp_seq (ag [] rfl ?_)
  refine awp_block ?_
  refine awp_loop (fun j : Nat => mkt [(0, Go.AM.T nm), (2, .one (.vp 3 0)), (4, .one (.vp 4 0)), (8, .one (.ras 1 1 (aP k rs.length))), (9, I .i64 ((1 : Nat) : Int)), (10, I .i64 j)] ([(4, .var 37 (cellsC b))] ++ aG rs k af an anm nv ns (if j = 0 then p else sb p)) F) (fun j => j ≤ 1) (fun j => 1 - j) 0 (Nat.zero_le _) ?_ ?_
  · exact slG (W _)
  intro j hj
  refine awp_seq (ag [] rfl ?_)
  refine awp_seq (awp_cond rfl (fun hb => ?_) (fun hb => ?_))
  · have hj0 : j = 0 := by
      have : (j : Int) < ((1 : Nat) : Int) := of_decide_eq_true hb
      omega
    subst hj0
    rw [if_pos rfl]
    refine awp_skip ?_
    refine awp_seq (awp_block (awp_seq (ag [] rfl ?_)))
    refine awp_rg mixed ?_
    refine ak 6 [(3, .rr (rowA af an anm nv p))] rfl ?_
    refine kc hc ?_
    refine ak 2 [(8, .rr (rowA af an anm nv p))] rfl ?_
    refine az ?_
    refine ag [] rfl ?_
    refine ⟨1, Nat.le_refl _, by dsimp only; omega, ?_⟩
    dsimp only
    rw [if_neg (by decide)]
    exact slG (W _) (fun i hi => GW.kf i hi) (hh := ⟨⟨_, rfl, .varS rfl⟩, ⟨_, rfl, .varS rfl⟩, ⟨_, rfl, .rarrS rsSet⟩, ⟨_, rfl, .arr⟩, trivial⟩)
  have hge : j = 1 := by
    have : ¬ (j : Int) < ((1 : Nat) : Int) := of_decide_eq_false hb
    omega
  subst hge
  rw [if_neg (by decide)]
  refine awp_exit ?_
  exact ⟨.inl rfl, finT hF (by repeat (first | exact FarEq.raw hF | (refine FarEq.updL hF ?_) | (refine FarEq.upd hF ?_))) ⟨[], [], .nil, .nil, rfl⟩ (fun _ h => by cases h) (W _).refs (fun i hi => GW.kf i hi) (fun q hq => by rcases List.mem_append.1 hq with hq | hq; exact (List.all_eq_true.1 (W p).plain) q hq; exact (hF.ok q hq).2)⟩
end Go.Proofs.YtmoekkcdkjopgaaGreatDoor

/- A GROUP (core.group.put): of an alternative: the walk. -/
namespace Go.Proofs.YtmoekkcdkjopgaaGreatDoor
open Go Go.AM
set_option maxRecDepth 20000
theorem a_callOk {rs : List (List R)} {k : Nat} {af an : Int} {anm : Str} {nv : Nat} {ns : List Str} {p : Core} {F : List (Nat × AObj)} (hF : TF F) (hr : ∀ x ∈ refsR rs, x ∈ keys F) {n : Str} {l : List C} : callOk ([Go.AM.T n, .pa l] ++ List.map V.one [R.vp 3 0]) (aG rs k af an anm nv ns p ++ F) = true := by
  refine callOkT hF (fun x hx => .inl ?_) (aGW hF hr).refs
  have : x = 3 := by simpa [V.refsL, V.refs, R.refs] using hx
  subst this
  simp [aG, keys]
theorem a_out {rs : List (List R)} {k : Nat} {af an : Int} {anm : Str} {nv : Nat} {ns ns' : List Str} {p p' : Core} {F : List (Nat × AObj)} {h : Heap} : AllP (fun q => q.1 ∈ keys (aG rs k af an anm nv ns p ++ F) ∨ h q.1 = none) (aG rs k af an anm nv ns' p' ++ F) := AllP.of fun q hq => .inl (by
  have h1 : q.1 ∈ keys (aG rs k af an anm nv ns' p' ++ F) := List.mem_map.2 ⟨q, hq, rfl⟩
  exact h1)
theorem c_putA (rs : List (List R)) (k : Nat) (af an : Int) (anm : Str) (nv : Nat) (ns : List Str) (p : Core) (F : List (Nat × AObj)) (s : Str) (b : Core) (sb : Core → Str → Core → Core) (P : Core → Prop) (hF : TF F) (hr : ∀ x ∈ refsR rs, x ∈ keys F) (hk : k < rs.length) (hn : ns.length = nv) (hok : PutOk sb P s b [p])
    (hM : (pfR p).length + 2 * ns.length + (pfR b).length + 1 ≤ 20000000000) :
    ∃ q, (putR sb s b ns [p]).2 = [q] ∧ ImpC Tryz.prog 68 [gpV (aN nv) (aP k rs.length), Go.AM.T s, .pa (encCore b)] (aH rs k af an anm nv ns p ++ F) (.tup []) (aH rs k af an anm nv (putR sb s b ns [p]).1 q ++ F) := by
  have hln := (putR_len (sb := sb) (s := s) (b := b) (ns := ns) (ps := [p])).2
  obtain ⟨q, hq⟩ : ∃ q, (putR sb s b ns [p]).2 = [q] := List.length_eq_one_iff.1 hln
  refine ⟨q, hq, ?_⟩
  have hnl := aN_len (nv := nv)
  have W : ∀ ns p, GW (aH rs k af an anm nv ns p) F := fun _ _ => aHW hF hr
  have hkn : ∀ ex ns' p', ∀ x ∈ R.refsL (aN nv), Kn ex (aH rs k af an anm nv ns' p') F x := fun ex ns' p' x hx => by
    have := aN_refs x hx
    subst this
    exact .inr (.inl (by simp [aH, keys]))
  have hkg : ∀ ex ns' p', ∀ x ∈ (grO (aN nv) (aP k rs.length)).refs, Kn ex (aH rs k af an anm nv ns' p') F x := fun ex ns' p' x hx => by
    rcases aG_refs x hx with rfl | rfl
    · exact .inr (.inl (by simp [aH, keys]))
    · exact .inr (.inl (by simp [aH, keys]))
  have hsz : ∀ p, rs.length = (rs.set k (rowA af an anm nv p)).length := fun p => (List.length_set ..).symm
  have hrow : ∀ p, (rs.set k (rowA af an anm nv p))[k]? = some (rowA af an anm nv p) := fun p => List.getElem?_set_self hk
  have hszp := hsz p
  have hrowp := hrow p
  have hfl : ([p] : List Core).flatMap pfR = pfR p := by simp
  have hkl : nv = (ns.map encS).length := by rw [List.length_map]; exact hn.symm
  have hf := hok.free p (by simp)
  have hq0 : ((pfR p).map encS).length = (pfR p).length := List.length_map _
  refine impCT hF (n := 92) tok Tryz.func68 rfl rfl rfl ?_
  refine awp_seq (ag [] rfl ?_)
  refine awp_seq (ag [] rfl ?_)
  refine AWp.sub (Sub.own (t := 6) (id := 720) 9 1 rfl rfl) (AWp.sub (Sub.freeze (id := 720) rfl) ?_)
  refine awp_seq (awp_seq (ag [] rfl ?_))
  refine awp_block ?_
  refine awp_loop (fun j : Nat => mkt [(1, Go.AM.T s), (3, .one (.vp 3 0)), (5, .one (.vp 5 0)), (6, tkV (if j = 0 then [] else pfR p)), (17, .one (.ras 1 1 (aP k rs.length))), (18, I .i64 ((1 : Nat) : Int)), (19, I .i64 j)] ([(3, grO (aN nv) (aP k rs.length)), (5, .var 37 (cellsC b)), (720, tkA (if j = 0 then [] else pfR p))] ++ aH rs k af an anm nv ns p) F) (fun j => j ≤ 1) (fun j => 1 - j) 0 (Nat.zero_le _) ?_ ?_
  · exact slG (W _ _) (h2 := ⟨hkg _ _ _, Kn.of rfl, Kn.of rfl, trivial⟩)
  · intro j hj
    refine awp_seq (ag [] rfl ?_)
    refine awp_seq (awp_cond rfl (fun hb => ?_) (fun hb => ?_))
    · have hj0 : j = 0 := by
        have : (j : Int) < ((1 : Nat) : Int) := of_decide_eq_true hb
        omega
      subst hj0
      rw [if_pos rfl]
      refine awp_skip ?_
      refine awp_seq (awp_block (awp_seq (ag [] rfl ?_)))
      refine awp_rg mixed ?_
      refine ak 4 [(3, .rr (rowA af an anm nv p))] rfl ?_
      refine kc hf ?_
      refine ak 2 [] rfl ?_
      refine az ?_
      refine AWp.sub (Sub.freeze (id := 720) rfl) ?_
      refine ag [] rfl ?_
      refine ⟨1, Nat.le_refl _, by dsimp only; omega, ?_⟩
      dsimp only
      rw [if_neg (by decide)]
      exact slG (W _ _) (h2 := ⟨hkg _ _ _, Kn.of rfl, Kn.of rfl, trivial⟩) (he := ⟨rfl, rfl, rfl, Go.AM.hs_ren (by simp) (by simp), rfl, rfl, rfl, trivial⟩) (hh := ⟨⟨_, rfl, .varS rfl⟩, ⟨_, rfl, .varS rfl⟩, ⟨_, rfl, .arrS (by simp)⟩, ⟨_, rfl, .rarrS rfl⟩, ⟨_, rfl, .arr⟩, trivial⟩)
    have hge : j = 1 := by
      have : ¬ (j : Int) < ((1 : Nat) : Int) := of_decide_eq_false hb
      omega
    subst hge
    rw [if_neg (by decide)]
    refine awp_exit ?_
    have hct := c_contains (pfR p) s (by omega)
    refine awp_seq (awp_seq (awp_rg mixed ?_))
    refine ak 2 [] rfl ?_
    refine kc hct ?_
    refine ak 1 [] rfl ?_
    refine az ?_
    refine awp_cond rfl (fun hb => ?_) (fun hb => ?_)
    · have hno : ¬ s ∈ pfR p := by
        intro h
        have hb : (!decide (s ∈ pfR p)) = true := hb
        rw [decide_eq_true h] at hb; cases hb
      have he : putR sb s b ns [p] = (ns, [p]) := by unfold putR; rw [if_neg fun h => hno (by have := h.1; rwa [hfl] at this)]
      have hqp : q = p := by rw [he] at hq; exact (List.singleton_inj.1 hq).symm
      rw [he, hqp]
      exact awp_ret ⟨.inr rfl, finT hF (by repeat (first | exact FarEq.raw hF | (refine FarEq.updL hF ?_) | (refine FarEq.upd hF ?_))) ⟨[], [], .nil, .nil, rfl⟩ (fun _ h => by cases h) (W _ _).refs (fun i hi => GW.kf i hi) (fun q hq => by rcases List.mem_append.1 hq with hq | hq; exact (List.all_eq_true.1 (W ns p).plain) q hq; exact (hF.ok q hq).2)⟩
    have hin : s ∈ pfR p := by
      have hb : (!decide (s ∈ pfR p)) = false := hb
      by_cases h : s ∈ pfR p
      · exact h
      · rw [decide_eq_false h] at hb; cases hb
    refine awp_skip ?_
    refine awp_seq (awp_seq (ag [] rfl ?_))
    refine awp_block ?_
    refine awp_loop (fun j : Nat => mkt [(1, Go.AM.T s), (3, .one (.vp 3 0)), (5, .one (.vp 5 0)), (6, tkV (pfR p ++ ns.take j)), (35, .one (.ras (aN nv).length 1 (aN nv))), (36, I .i64 (((aN nv).length : Nat) : Int)), (37, I .i64 j)] ([(3, grO (aN nv) (aP k rs.length)), (5, .var 37 (cellsC b)), (720, tkA (pfR p ++ ns.take j))] ++ aH rs k af an anm nv ns p) F) (fun j => j ≤ (aN nv).length ∧ ¬ s ∈ ns.take j) (fun j => (aN nv).length - j) 0 ⟨Nat.zero_le _, by simp⟩ ?_ ?_
    · exact slG (W _ _) (h1 := Kn.app Kn.nil (Kn.app (Kn.of rfl) (Kn.app (Kn.of rfl) (Kn.app (Kn.of rfl) (Kn.app (hkn _ _ _) Kn.nil))))) (h2 := ⟨hkg _ _ _, Kn.of rfl, Kn.of rfl, trivial⟩) (he := ⟨rfl, rfl, rfl, Go.AM.hs_ren (by simp) (by simp), congrArg some (V.ren_id _).symm, rfl, rfl, trivial⟩) (hh := ⟨⟨_, rfl, .varS rfl⟩, ⟨_, rfl, .varS rfl⟩, ⟨_, rfl, .arrS (by simp)⟩, ⟨_, rfl, .rarrS rfl⟩, ⟨_, rfl, .arr⟩, trivial⟩)
    rintro j ⟨hj, hnos⟩
    refine awp_seq (ag [] rfl ?_)
    refine awp_seq (awp_cond rfl (fun hb => ?_) (fun hb => ?_))
    · have hlt : j < (aN nv).length := by
        have : (j : Int) < ((aN nv).length : Int) := of_decide_eq_true hb
        omega
      have hjb : j < nv := by omega
      obtain ⟨n, hnn⟩ := get_of_lt (show j < ns.length by omega)
      have ht1 := aN_at hjb
      have hrown : (ns.map encS)[j]? = some (encS n) := getEnc encS hnn
      have hstp : ns.take (j + 1) = ns.take j ++ [n] := by rw [List.take_add_one, hnn]; rfl
      have hq1 : ((pfR p ++ ns.take j).map encS).length = (pfR p ++ ns.take j).length := List.length_map _
      have hql : (pfR p ++ ns.take j).length ≤ 20000000000 := by rw [List.length_append, List.length_take]; omega
      refine awp_skip ?_
      refine awp_seq (awp_block (awp_seq (ag [(0, .rowR j [.ep 704 j 0 nv])] rfl ?_)))
      refine awp_seq (awp_seq (ag [(2, .row j (encS n))] rfl ?_))
      refine awp_cond rfl (fun hb => ?_) (fun hb => ?_)
      · have hns : n = s := of_decide_eq_true hb
        have he : putR sb s b ns [p] = (ns, [p]) := by
          unfold putR
          rw [if_neg fun h => h.2 (hns ▸ List.mem_of_getElem? hnn)]
        have hqp : q = p := by rw [he] at hq; exact (List.singleton_inj.1 hq).symm
        rw [he, hqp]
        exact awp_ret ⟨.inr rfl, finT hF (by repeat (first | exact FarEq.raw hF | (refine FarEq.updL hF ?_) | (refine FarEq.upd hF ?_))) ⟨[], [], .nil, .nil, rfl⟩ (fun _ h => by cases h) (W _ _).refs (fun i hi => GW.kf i hi) (fun q hq => by rcases List.mem_append.1 hq with hq | hq; exact (List.all_eq_true.1 (W ns p).plain) q hq; exact (hF.ok q hq).2)⟩
      have hns : ¬ n = s := of_decide_eq_false hb
      refine awp_skip ?_
      generalize pfR p = fm at *
      generalize hq2 : fm ++ ns.take j = qq at *
      refine ag [(3, .row j (encS n))] rfl ?_
      refine AWp.sub (Sub.freeze (id := 720) rfl) ?_
      refine ag [] rfl ?_
      refine ⟨j + 1, ⟨hlt, ?_⟩, by dsimp only; omega, ?_⟩
      · rw [hstp]
        intro h
        rcases List.mem_append.1 h with h | h
        · exact hnos h
        · exact hns (List.mem_singleton.1 h).symm
      dsimp only
      rw [hstp, ← List.append_assoc, hq2]
      exact slG (W _ _) (h1 := Kn.app Kn.nil (Kn.app (Kn.of rfl) (Kn.app (Kn.of rfl) (Kn.app (Kn.of rfl) (Kn.app (hkn _ _ _) Kn.nil))))) (h2 := ⟨hkg _ _ _, Kn.of rfl, Kn.of rfl, trivial⟩) (he := ⟨rfl, rfl, rfl, Go.AM.hs_ren (by simp) (by simp), congrArg some (V.ren_id _).symm, rfl, rfl, trivial⟩) (hh := ⟨⟨_, rfl, .varS rfl⟩, ⟨_, rfl, .varS rfl⟩, ⟨_, rfl, .arrS (by simp [encS])⟩, ⟨_, rfl, .rarrS rfl⟩, ⟨_, rfl, .arr⟩, trivial⟩)
    have hge : j = ns.length := by
      have : ¬ (j : Int) < ((aN nv).length : Int) := of_decide_eq_false hb
      omega
    subst hge
    rw [List.take_length] at hnos ⊢
    have hput : putR sb s b ns [p] = ((gSt sb b ns [p] ns.length).1, (gSt sb b ns [p] ns.length).2.1.map fun p => sb p s b) := by
      unfold putR
      rw [if_pos ⟨by rw [hfl]; exact hin, hnos⟩, gSt_end]
    have hql : (pfR p ++ ns).length ≤ 20000000000 := by rw [List.length_append]; omega
    have hq1 : ((pfR p ++ ns).map encS).length = (pfR p ++ ns).length := List.length_map _
    have hq2 : ((pfR b).map encS).length = (pfR b).length := List.length_map _
    have hfar := hok.far
    refine awp_exit ?_
    refine awp_seq (awp_rg mixed ?_)
    refine ak 1 [] rfl ?_
    refine kc hfar ?_
    refine ak 1 [] rfl ?_
    refine az ?_
    have hlq : (pfR p ++ ns).length + (pfR b).length ≤ 20000000000 := by rw [List.length_append]; omega
    refine awp_seq (ag [] rfl ?_)
    refine AWp.sub (Sub.freeze (id := 720) rfl) ?_
    refine awp_seq (ag [] rfl ?_)
    refine awp_seq (awp_seq (ag [] rfl ?_))
    refine awp_block ?_
    have hall : ∀ i, i ≤ ns.length → (gSt sb b ns [p] i).2.2.length ≤ 20000000000 := fun i hi => by
      have h1 := (gSt_lens (sb := sb) (b := b) (ps := [p]) hi).2.2
      rw [hfl] at h1
      simp only [List.length_append] at h1
      omega
    have hone : ∀ i, i ≤ ns.length → ∃ x, (gSt sb b ns [p] i).2.1 = [x] := fun i hi => List.length_eq_one_iff.1 (gSt_lens (sb := sb) (b := b) (ps := [p]) hi).2.1
    have hhd : ∀ i, i ≤ ns.length → (gSt sb b ns [p] i).2.1 = [(gSt sb b ns [p] i).2.1.headD p] := fun i hi => by
      obtain ⟨x, hx⟩ := hone i hi
      rw [hx]; rfl
    refine awp_loop (fun i : Nat => mkt [(1, Go.AM.T s), (5, .one (.vp 5 0)), (6, tkV (gSt sb b ns [p] i).2.2), (11, strsV (pfR b)), (12, .one (.clo 131 [.vp 3 0])), (60, .one (.ras (aN nv).length 1 (aN nv))), (61, I .i64 (((aN nv).length : Nat) : Int)), (62, I .i64 i)] ([(3, grO (aN nv) (aP k rs.length)), (5, .var 37 (cellsC b)), (720, tkA (gSt sb b ns [p] i).2.2)] ++ aH rs k af an anm nv (gNs sb b ns [p] i) ((gSt sb b ns [p] i).2.1.headD p)) F) (fun i => i ≤ (aN nv).length) (fun i => (aN nv).length - i) 0 (Nat.zero_le _) ?_ ?_
    · rw [gSt_zero, gNs_zero, hfl]
      exact slG (W _ _) (h1 := Kn.app Kn.nil (Kn.app (Kn.of rfl) (Kn.app (Kn.of rfl) (Kn.app Kn.nil (Kn.app (Kn.of rfl) (Kn.app (hkn _ _ _) Kn.nil)))))) (h2 := ⟨hkg _ _ _, Kn.of rfl, Kn.of rfl, trivial⟩) (he := ⟨rfl, rfl, Go.AM.hs_ren (by simp only [List.length_append, List.length_map]) (by simp only [List.length_append, List.length_map]), rfl, rfl, congrArg some (V.ren_id _).symm, rfl, rfl, trivial⟩) (hh := ⟨⟨_, rfl, .varS rfl⟩, ⟨_, rfl, .varS rfl⟩, ⟨_, rfl, .arrS (by simp)⟩, ⟨_, rfl, .rarrS rfl⟩, ⟨_, rfl, .arr⟩, trivial⟩)
    intro i hi
    have hle : i ≤ ns.length := by omega
    refine awp_seq (ag [] rfl ?_)
    refine awp_seq (awp_cond rfl (fun hb => ?_) (fun hb => ?_))
    · have hlt : i < (aN nv).length := by
        have : (i : Int) < ((aN nv).length : Int) := of_decide_eq_true hb
        omega
      have hjb : i < nv := by omega
      obtain ⟨n, hnn⟩ := get_of_lt (show i < ns.length by omega)
      obtain ⟨hg1, hg2, hg3⟩ := gSt_lens (sb := sb) (b := b) (ps := [p]) hle
      have hgl := gNs_len (sb := sb) (b := b) (ps := [p]) hle
      have hga := gNs_at (sb := sb) (b := b) (ps := [p]) hnn
      have hP := gSt_P hok hle (hall i hle) (fun j hj => hall j (by omega))
      have hsucc := gSt_succ (sb := sb) (b := b) (ps := [p]) hnn
      have hnin := gNs_in (sb := sb) (b := b) (ps := [p]) hnn
      have hnout := gNs_out (sb := sb) (b := b) (ps := [p]) hnn
      have hall0 := hall i hle
      have hhi := hhd i hle
      have ht1 := aN_at hjb
      have hcf := c_contains (pfR b) n (by omega)
      have hcr := c_fresh (gSt sb b ns [p] i).2.2 (by omega) fun k hk => hok.itoa k (by omega)
      generalize gSt sb b ns [p] i = G at *
      generalize gNs sb b ns [p] i = N at *
      obtain ⟨d0, qs, tk⟩ := G
      dsimp only at *
      generalize qs.headD p = x at hhi ⊢
      subst hhi
      have hrown : (N.map encS)[i]? = some (encS n) := getEnc encS hga
      have hkN : nv = (N.map encS).length := by rw [List.length_map]; omega
      have hszx := hsz x
      have hrowx := hrow x
      refine awp_skip ?_
      refine awp_seq (awp_block (awp_seq (ag [(0, .rowR i [.ep 704 i 0 nv])] rfl ?_)))
      refine awp_seq (awp_rg mixed ?_)
      refine ak 4 [(3, .row i (encS n))] rfl ?_
      refine kc hcf ?_
      refine az ?_
      refine awp_cond rfl (fun hb => ?_) (fun hb => ?_)
      · have hmem : n ∈ pfR b := of_decide_eq_true hb
        have hnin := hnin hmem
        unfold gStep at hsucc
        rw [if_pos hmem] at hsucc
        dsimp only at hsucc
        have hz : (freshR tk).length ≤ 30 := Nat.le_trans (fresh_len _ hall0) (by omega)
        have hca := c_allA rs k af an anm nv N x F n (vC (freshR tk)) (fun p => sb p n (vC (freshR tk))) hF hr hk (hok.subz x n _ (hP x (by simp)) hz)
        have hcv := c_cvarG (freshR tk)
        have hqt : (tk.map encS).length = tk.length := List.length_map _
        generalize freshR tk = z at *
        refine awp_seq (awp_rg mixed ?_)
        refine ak 1 [] rfl ?_
        refine kc hcr ?_
        refine ak 1 [] rfl ?_
        refine az ?_
        refine awp_seq (ag [] rfl ?_)
        refine AWp.sub (Sub.freeze (id := 720) rfl) ?_
        refine awp_seq (awp_rg mixed ?_)
        refine ak 5 [(3, .row i (encS n))] rfl ?_
        refine kc hcv ?_
        refine kv (caps := [.vp 3 0]) (args := [Go.AM.T n, .pa (encCore (vC z))]) hca ?_ (hin' := AllP.app ⟨rfl, rfl, rfl, trivial⟩ (FarEq.all (by repeat (first | exact FarEq.raw hF | (refine FarEq.updL hF ?_) | (refine FarEq.upd hF ?_))))) (hout' := a_out) (hok := a_callOk hF hr)
        refine az ?_
        refine AWp.sub (Sub.outsT hF) ?_
        refine ag [(3, .row i (encS n))] rfl ?_
        refine ag [] rfl ?_
        refine ⟨i + 1, hlt, by dsimp only; omega, ?_⟩
        dsimp only
        rw [hsucc, hnin]
        dsimp only
        refine slG (W _ _) (fun i hi => GW.kf i hi) (by repeat (first | exact FarEq.bif hF (FarEq.outs hF) | (refine FarEq.updL hF ?_) | (refine FarEq.upd hF ?_))) (h1 := Kn.app Kn.nil (Kn.app (Kn.of rfl) (Kn.app (Kn.of rfl) (Kn.app Kn.nil (Kn.app (Kn.of rfl) (Kn.app (hkn _ _ _) Kn.nil)))))) (h2 := ⟨hkg _ _ _, Kn.of rfl, Kn.of rfl, trivial⟩) (he := ⟨rfl, rfl, Go.AM.hs_ren (by simp) (by simp), rfl, rfl, congrArg some (V.ren_id _).symm, rfl, rfl, trivial⟩) (hh := ⟨⟨_, rfl, .varS rfl⟩, ⟨_, rfl, .varS rfl⟩, ⟨_, rfl, .arrS (by simp [encS])⟩, ⟨_, rfl, .rarrS rfl⟩, ⟨_, rfl, .arrS ?_⟩, trivial⟩)
        rw [List.map_set]; rfl
      · have hmem : ¬ n ∈ pfR b := of_decide_eq_false hb
        unfold gStep at hsucc
        rw [if_neg hmem] at hsucc
        dsimp only at hsucc
        refine awp_skip ?_
        refine ag [] rfl ?_
        refine ⟨i + 1, hlt, by dsimp only; omega, ?_⟩
        dsimp only
        rw [hsucc, hnout hmem]
        exact slG (W _ _) (fun i hi => GW.kf i hi) (h1 := Kn.app Kn.nil (Kn.app (Kn.of rfl) (Kn.app (Kn.of rfl) (Kn.app Kn.nil (Kn.app (Kn.of rfl) (Kn.app (hkn _ _ _) Kn.nil)))))) (h2 := ⟨hkg _ _ _, Kn.of rfl, Kn.of rfl, trivial⟩)
    have hge : i = ns.length := by
      have : ¬ (i : Int) < ((aN nv).length : Int) := of_decide_eq_false hb
      omega
    subst hge
    have hP := gSt_P hok (Nat.le_refl ns.length) (hall _ (Nat.le_refl _)) (fun j hj => hall j hj)
    have hhi := hhd _ (Nat.le_refl ns.length)
    rw [hput] at hq ⊢
    rw [gNs_end]
    generalize gSt sb b ns [p] ns.length = G at *
    obtain ⟨N, qs, tk⟩ := G
    dsimp only at *
    generalize qs.headD p = x at hhi ⊢
    subst hhi
    have hqx : q = sb x s b := (List.singleton_inj.1 hq).symm
    subst hqx
    have hca := c_allA rs k af an anm nv N x F s b (fun p => sb p s b) hF hr hk (hok.subb x (hP x (by simp)))
    refine awp_exit ?_
    refine awp_rg mixed ?_
    refine ak 3 [] rfl ?_
    refine kv (caps := [.vp 3 0]) (args := [Go.AM.T s, .pa (encCore b)]) hca ?_ (hin' := AllP.app ⟨rfl, rfl, rfl, trivial⟩ (FarEq.all (by repeat (first | exact FarEq.raw hF | (refine FarEq.updL hF ?_) | (refine FarEq.upd hF ?_))))) (hout' := a_out) (hok := a_callOk hF hr)
    refine az ?_
    refine ⟨.inl rfl, finT hF (FarEq.outs hF) ⟨[], [], .nil, .nil, rfl⟩ (fun _ h => by cases h) (W _ _).refs (fun i hi => GW.kf i hi) (fun q hq => by rcases List.mem_append.1 hq with hq | hq; exact (List.all_eq_true.1 (W ns p).plain) q hq; exact (hF.ok q hq).2)⟩
end Go.Proofs.YtmoekkcdkjopgaaGreatDoor

/- A GROUP (core.group.put): of a lambda. -/
namespace Go.Proofs.YtmoekkcdkjopgaaGreatDoor
open Go Go.AM
set_option maxRecDepth 20000
abbrev lH (n : Int) (t : Ty) (x : Str) (k : Core) : List (Nat × AObj) := gHl 5 n x t [k] [] []
def lN : List R := [.vp 700 2]
def lP : List R := [.ep 702 0 0 1]
abbrev lG (n : Int) (t : Ty) (x : Str) (k : Core) : List (Nat × AObj) := (3, grO lN lP) :: lH n t x k
theorem lHW {n : Int} {t : Ty} {x : Str} {k : Core} : GW (lH n t x k) [] := gW
theorem lGW {n : Int} {t : Ty} {x : Str} {k : Core} : GW (lG n t x k) [] := ⟨lHW (n := n) (t := t) (x := x) (k := k).tf, fun y hy => by
  rcases List.mem_append.1 (show y ∈ (grO lN lP).refs ++ refsH (lH n t x k) from hy) with hy | hy
  · have : y = 700 ∨ y = 702 := by simpa [grO, lN, lP, AObj.refs, R.refsL, R.refs] using hy
    rcases this with rfl | rfl
    · exact .inl (by simp [lG, gHl, keys])
    · exact .inl (by simp [lG, gHl, keys])
  · exact (lHW.refs y hy).imp (fun h => List.mem_cons_of_mem _ h) id, rfl, rfl⟩
theorem c_allL (n : Int) (t : Ty) (x : Str) (k : Core) (nm : Str) (b : Core) (sb : Core → Core)
    (hc : ImpC Tryz.prog 25 [.pa (encCore k), Go.AM.T nm, .pa (encCore b)] [] (.pa (encCore (sb k))) []) :
    ImpC Tryz.prog 131 [Go.AM.T nm, .pa (encCore b), .one (.vp 3 0)] (lG n t x k ++ []) (.tup []) (lG n t x (sb k) ++ []) := by
  have hF : TF [] := lHW (n := n) (t := t) (x := x) (k := k).tf
  refine impCT hF (n := 23) tok Tryz.func131 rfl rfl rfl ?_
  refine awp_seq (ag [] rfl ?_)
  refine awp_seq (ag [] rfl ?_)
  refine awp_block ?_
  refine awp_loop (fun j : Nat => mkt [(0, Go.AM.T nm), (2, .one (.vp 3 0)), (4, .one (.vp 4 0)), (8, .one (.ras 1 1 lP)), (9, I .i64 ((1 : Nat) : Int)), (10, I .i64 j)] ([(4, .var 37 (cellsC b))] ++ lG n t x (if j = 0 then k else sb k)) []) (fun j => j ≤ 1) (fun j => 1 - j) 0 (Nat.zero_le _) ?_ ?_
  · exact slG lGW
  intro j hj
  refine awp_seq (ag [] rfl ?_)
  refine awp_seq (awp_cond rfl (fun hb => ?_) (fun hb => ?_))
  · have hj0 : j = 0 := by
      have : (j : Int) < ((1 : Nat) : Int) := of_decide_eq_true hb
      omega
    subst hj0
    rw [if_pos rfl]
    refine awp_skip ?_
    refine awp_seq (awp_block (awp_seq (ag [] rfl ?_)))
    refine awp_rg mixed ?_
    refine ak 6 [(3, .row 0 (encCore k))] rfl ?_
    refine kc hc ?_
    refine ak 2 [(8, .row 0 (encCore k))] rfl ?_
    refine az ?_
    refine ag [] rfl ?_
    refine ⟨1, Nat.le_refl _, by dsimp only; omega, ?_⟩
    dsimp only
    rw [if_neg (by decide)]
    exact slG lGW (fun i hi => GW.kf i hi)
  have hge : j = 1 := by
    have : ¬ (j : Int) < ((1 : Nat) : Int) := of_decide_eq_false hb
    omega
  subst hge
  rw [if_neg (by decide)]
  refine awp_exit ?_
  exact ⟨.inl rfl, finT hF (by repeat (first | exact FarEq.raw hF | (refine FarEq.updL hF ?_) | (refine FarEq.upd hF ?_))) ⟨[], [], .nil, .nil, rfl⟩ (fun _ h => by cases h) lGW.refs (fun i hi => GW.kf i hi) (fun q hq => by rcases List.mem_append.1 hq with hq | hq; exact (List.all_eq_true.1 (lGW (n := n) (t := t) (x := x) (k := k)).plain) q hq; cases hq)⟩
theorem c_putL (n : Int) (t : Ty) (x : Str) (k : Core) (s : Str) (b : Core) (sb : Core → Str → Core → Core) (P : Core → Prop) (hok : PutOk sb P s b [k])
    (hM : (pfR k).length + 2 + (pfR b).length + 1 ≤ 20000000000) :
    ∃ x' q, putR sb s b [x] [k] = ([x'], [q]) ∧ ImpC Tryz.prog 68 [gpV lN lP, Go.AM.T s, .pa (encCore b)] (lH n t x k ++ []) (.tup []) (lH n t x' q ++ []) := by
  have hF : TF [] := lHW (n := n) (t := t) (x := x) (k := k).tf
  have hfl : ([k] : List Core).flatMap pfR = pfR k := by simp
  have hf := hok.free k (by simp)
  have hq0 : ((pfR k).map encS).length = (pfR k).length := List.length_map _
  have hk0 : k = k := rfl
  have step0 : s ∉ pfR k ∨ s = x → putR sb s b [x] [k] = ([x], [k]) := fun h => by
    unfold putR
    rw [if_neg]
    rintro ⟨h1, h2⟩
    rw [hfl] at h1
    rcases h with h | h
    · exact h h1
    · exact h2 (by simp [h])
  by_cases hin : s ∈ pfR k
  case neg =>
    refine ⟨x, k, step0 (.inl hin), ?_⟩
    refine impCT hF (n := 92) tok Tryz.func68 rfl rfl rfl ?_
    refine awp_seq (ag [] rfl ?_)
    refine awp_seq (ag [] rfl ?_)
    refine AWp.sub (Sub.own (t := 6) (id := 720) 9 1 rfl rfl) (AWp.sub (Sub.freeze (id := 720) rfl) ?_)
    refine awp_seq (awp_seq (ag [] rfl ?_))
    refine awp_block ?_
    refine awp_loop (fun j : Nat => mkt [(1, Go.AM.T s), (3, .one (.vp 3 0)), (5, .one (.vp 5 0)), (6, tkV (if j = 0 then [] else pfR k)), (17, .one (.ras 1 1 lP)), (18, I .i64 ((1 : Nat) : Int)), (19, I .i64 j)] ([(3, grO lN lP), (5, .var 37 (cellsC b)), (720, tkA (if j = 0 then [] else pfR k))] ++ lH n t x k) []) (fun j => j ≤ 1) (fun j => 1 - j) 0 (Nat.zero_le _) (slG lHW) ?_
    intro j hj
    refine awp_seq (ag [] rfl ?_)
    refine awp_seq (awp_cond rfl (fun hb => ?_) (fun hb => ?_))
    · have hj0 : j = 0 := by
        have : (j : Int) < ((1 : Nat) : Int) := of_decide_eq_true hb
        omega
      subst hj0
      rw [if_pos rfl]
      refine awp_skip ?_
      refine awp_seq (awp_block (awp_seq (ag [] rfl ?_)))
      refine awp_rg mixed ?_
      refine ak 4 [(3, .row 0 (encCore k))] rfl ?_
      refine kc hf ?_
      refine ak 2 [] rfl ?_
      refine az ?_
      refine AWp.sub (Sub.freeze (id := 720) rfl) ?_
      refine ag [] rfl ?_
      refine ⟨1, Nat.le_refl _, by dsimp only; omega, ?_⟩
      dsimp only
      rw [if_neg (by decide)]
      exact slG lHW (he := ⟨rfl, rfl, rfl, Go.AM.hs_ren (by simp) (by simp), rfl, rfl, rfl, trivial⟩) (hh := ⟨⟨_, rfl, .varS rfl⟩, ⟨_, rfl, .varS rfl⟩, ⟨_, rfl, .arrS (by simp)⟩, ⟨_, rfl, .varS rfl⟩, ⟨_, rfl, .arr⟩, ⟨_, rfl, .arr⟩, ⟨_, rfl, .rarrS rfl⟩, trivial⟩)
    have hge : j = 1 := by
      have : ¬ (j : Int) < ((1 : Nat) : Int) := of_decide_eq_false hb
      omega
    subst hge
    rw [if_neg (by decide)]
    refine awp_exit ?_
    have hct := c_contains (pfR k) s (by omega)
    rw [decide_eq_false hin] at hct
    refine awp_seq (awp_seq (awp_rg mixed ?_))
    refine ak 2 [] rfl ?_
    refine kc hct ?_
    refine ak 1 [] rfl ?_
    refine az ?_
    refine awp_cond rfl (fun hb => ?_) (fun hb => by cases hb)
    exact awp_ret ⟨.inr rfl, finT hF (by repeat (first | exact FarEq.raw hF | (refine FarEq.updL hF ?_) | (refine FarEq.upd hF ?_))) ⟨[], [], .nil, .nil, rfl⟩ (fun _ h => by cases h) lHW.refs (fun i hi => GW.kf i hi) (fun q hq => by rcases List.mem_append.1 hq with hq | hq; exact (List.all_eq_true.1 (lHW (n := n) (t := t) (x := x) (k := k)).plain) q hq; cases hq)⟩
  by_cases hsx : s = x
  case pos =>
    refine ⟨x, k, step0 (.inr hsx), ?_⟩
    refine impCT hF (n := 92) tok Tryz.func68 rfl rfl rfl ?_
    refine awp_seq (ag [] rfl ?_)
    refine awp_seq (ag [] rfl ?_)
    refine AWp.sub (Sub.own (t := 6) (id := 720) 9 1 rfl rfl) (AWp.sub (Sub.freeze (id := 720) rfl) ?_)
    refine awp_seq (awp_seq (ag [] rfl ?_))
    refine awp_block ?_
    refine awp_loop (fun j : Nat => mkt [(1, Go.AM.T s), (3, .one (.vp 3 0)), (5, .one (.vp 5 0)), (6, tkV (if j = 0 then [] else pfR k)), (17, .one (.ras 1 1 lP)), (18, I .i64 ((1 : Nat) : Int)), (19, I .i64 j)] ([(3, grO lN lP), (5, .var 37 (cellsC b)), (720, tkA (if j = 0 then [] else pfR k))] ++ lH n t x k) []) (fun j => j ≤ 1) (fun j => 1 - j) 0 (Nat.zero_le _) (slG lHW) ?_
    intro j hj
    refine awp_seq (ag [] rfl ?_)
    refine awp_seq (awp_cond rfl (fun hb => ?_) (fun hb => ?_))
    · have hj0 : j = 0 := by
        have : (j : Int) < ((1 : Nat) : Int) := of_decide_eq_true hb
        omega
      subst hj0
      rw [if_pos rfl]
      refine awp_skip ?_
      refine awp_seq (awp_block (awp_seq (ag [] rfl ?_)))
      refine awp_rg mixed ?_
      refine ak 4 [(3, .row 0 (encCore k))] rfl ?_
      refine kc hf ?_
      refine ak 2 [] rfl ?_
      refine az ?_
      refine AWp.sub (Sub.freeze (id := 720) rfl) ?_
      refine ag [] rfl ?_
      refine ⟨1, Nat.le_refl _, by dsimp only; omega, ?_⟩
      dsimp only
      rw [if_neg (by decide)]
      exact slG lHW (he := ⟨rfl, rfl, rfl, Go.AM.hs_ren (by simp) (by simp), rfl, rfl, rfl, trivial⟩) (hh := ⟨⟨_, rfl, .varS rfl⟩, ⟨_, rfl, .varS rfl⟩, ⟨_, rfl, .arrS (by simp)⟩, ⟨_, rfl, .varS rfl⟩, ⟨_, rfl, .arr⟩, ⟨_, rfl, .arr⟩, ⟨_, rfl, .rarrS rfl⟩, trivial⟩)
    have hge : j = 1 := by
      have : ¬ (j : Int) < ((1 : Nat) : Int) := of_decide_eq_false hb
      omega
    subst hge
    rw [if_neg (by decide)]
    refine awp_exit ?_
    have hct := c_contains (pfR k) s (by omega)
    rw [decide_eq_true hin] at hct
    refine awp_seq (awp_seq (awp_rg mixed ?_))
    refine ak 2 [] rfl ?_
    refine kc hct ?_
    refine ak 1 [] rfl ?_
    refine az ?_
    refine awp_cond rfl (fun hb => by cases hb) (fun hb => ?_)
    refine awp_skip ?_
    refine awp_seq (awp_seq (ag [] rfl ?_))
    refine awp_block ?_
    refine awp_loop (fun _ : Unit => mkt [(1, Go.AM.T s), (3, .one (.vp 3 0)), (5, .one (.vp 5 0)), (6, tkV (pfR k)), (35, .one (.ras 1 1 lN)), (36, I .i64 ((1 : Nat) : Int)), (37, I .i64 (0 : Nat))] ([(3, grO lN lP), (5, .var 37 (cellsC b)), (720, tkA (pfR k))] ++ lH n t x k) []) (fun _ => True) (fun _ => 0) () trivial (slG lHW) ?_
    intro _ _
    refine awp_seq (ag [] rfl ?_)
    refine awp_seq (awp_cond rfl (fun hb => ?_) (fun hb => by cases hb))
    refine awp_skip ?_
    refine awp_seq (awp_block (awp_seq (ag [] rfl ?_)))
    refine awp_seq (awp_seq (ag [] rfl ?_))
    refine awp_cond rfl (fun hb => ?_) (fun hb => absurd hsx.symm (of_decide_eq_false hb))
    exact awp_ret ⟨.inr rfl, finT hF (by repeat (first | exact FarEq.raw hF | (refine FarEq.updL hF ?_) | (refine FarEq.upd hF ?_))) ⟨[], [], .nil, .nil, rfl⟩ (fun _ h => by cases h) lHW.refs (fun i hi => GW.kf i hi) (fun q hq => by rcases List.mem_append.1 hq with hq | hq; exact (List.all_eq_true.1 (lHW (n := n) (t := t) (x := x) (k := k)).plain) q hq; cases hq)⟩
  -- it goes in
  have hq1 : ((pfR k ++ [x]).map encS).length = (pfR k ++ [x]).length := List.length_map _
  have hq2 : ((pfR b).map encS).length = (pfR b).length := List.length_map _
  have hlx : (pfR k ++ [x]).length = (pfR k).length + 1 := by simp
  have hfar := hok.far
  have hP := hok.in_ k (by simp)
  have hct := c_contains (pfR k) s (by omega)
  rw [decide_eq_true hin] at hct
  have hcf := c_contains (pfR b) x (by omega)
  have hpin : putIn s [x] [k] := ⟨by rw [hfl]; exact hin, by simpa using hsx⟩
  by_cases hxb : x ∈ pfR b
  case pos =>
    have htl : (pfR k ++ [x] ++ pfR b).length ≤ 20000000000 := by rw [List.length_append]; omega
    have hz : (freshR (pfR k ++ [x] ++ pfR b)).length ≤ 30 := Nat.le_trans (fresh_len _ htl) (by omega)
    have hcr := c_fresh (pfR k ++ [x] ++ pfR b) (by omega) fun k hk => hok.itoa k (by omega)
    refine ⟨freshR (pfR k ++ [x] ++ pfR b), sb (sb k x (vC (freshR (pfR k ++ [x] ++ pfR b)))) s b, ?_, ?_⟩
    · unfold putR
      rw [if_pos hpin, hfl]
      unfold gAll
      simp only [List.foldl_cons, List.foldl_nil]
      unfold gStep
      rw [if_pos hxb]; rfl
    rw [decide_eq_true hxb] at hcf
    have hqt : ((pfR k ++ [x] ++ pfR b).map encS).length = (pfR k ++ [x] ++ pfR b).length := List.length_map _
    have hqa : (pfR k ++ [x] ++ pfR b).length = (pfR k).length + 1 + (pfR b).length := by rw [List.length_append, hlx]
    have hca := c_allL n t x k x (vC (freshR (pfR k ++ [x] ++ pfR b))) (fun p => sb p x (vC (freshR (pfR k ++ [x] ++ pfR b)))) (hok.subz k x _ hP hz)
    have hca2 := c_allL n t (freshR (pfR k ++ [x] ++ pfR b)) (sb k x (vC (freshR (pfR k ++ [x] ++ pfR b)))) s b (fun p => sb p s b) (hok.subb _ (hok.ren k x _ hP hz))
    have hcv := c_cvarG (freshR (pfR k ++ [x] ++ pfR b))
    generalize hzz : freshR (pfR k ++ [x] ++ pfR b) = z at *
    refine impCT hF (n := 92) tok Tryz.func68 rfl rfl rfl ?_
    refine awp_seq (ag [] rfl ?_)
    refine awp_seq (ag [] rfl ?_)
    refine AWp.sub (Sub.own (t := 6) (id := 720) 9 1 rfl rfl) (AWp.sub (Sub.freeze (id := 720) rfl) ?_)
    refine awp_seq (awp_seq (ag [] rfl ?_))
    refine awp_block ?_
    refine awp_loop (fun j : Nat => mkt [(1, Go.AM.T s), (3, .one (.vp 3 0)), (5, .one (.vp 5 0)), (6, tkV (if j = 0 then [] else pfR k)), (17, .one (.ras 1 1 lP)), (18, I .i64 ((1 : Nat) : Int)), (19, I .i64 j)] ([(3, grO lN lP), (5, .var 37 (cellsC b)), (720, tkA (if j = 0 then [] else pfR k))] ++ lH n t x k) []) (fun j => j ≤ 1) (fun j => 1 - j) 0 (Nat.zero_le _) (slG lHW) ?_
    intro j hj
    refine awp_seq (ag [] rfl ?_)
    refine awp_seq (awp_cond rfl (fun hb => ?_) (fun hb => ?_))
    · have hj0 : j = 0 := by
        have : (j : Int) < ((1 : Nat) : Int) := of_decide_eq_true hb
        omega
      subst hj0
      rw [if_pos rfl]
      refine awp_skip ?_
      refine awp_seq (awp_block (awp_seq (ag [] rfl ?_)))
      refine awp_rg mixed ?_
      refine ak 4 [(3, .row 0 (encCore k))] rfl ?_
      refine kc hf ?_
      refine ak 2 [] rfl ?_
      refine az ?_
      refine AWp.sub (Sub.freeze (id := 720) rfl) ?_
      refine ag [] rfl ?_
      refine ⟨1, Nat.le_refl _, by dsimp only; omega, ?_⟩
      dsimp only
      rw [if_neg (by decide)]
      exact slG lHW (he := ⟨rfl, rfl, rfl, Go.AM.hs_ren (by simp) (by simp), rfl, rfl, rfl, trivial⟩) (hh := ⟨⟨_, rfl, .varS rfl⟩, ⟨_, rfl, .varS rfl⟩, ⟨_, rfl, .arrS (by simp)⟩, ⟨_, rfl, .varS rfl⟩, ⟨_, rfl, .arr⟩, ⟨_, rfl, .arr⟩, ⟨_, rfl, .rarrS rfl⟩, trivial⟩)
    have hge : j = 1 := by
      have : ¬ (j : Int) < ((1 : Nat) : Int) := of_decide_eq_false hb
      omega
    subst hge
    rw [if_neg (by decide)]
    refine awp_exit ?_
    refine awp_seq (awp_seq (awp_rg mixed ?_))
    refine ak 2 [] rfl ?_
    refine kc hct ?_
    refine ak 1 [] rfl ?_
    refine az ?_
    refine awp_cond rfl (fun hb => by cases hb) (fun hb => ?_)
    refine awp_skip ?_
    refine awp_seq (awp_seq (ag [] rfl ?_))
    refine awp_block ?_
    refine awp_loop (fun j : Nat => mkt [(1, Go.AM.T s), (3, .one (.vp 3 0)), (5, .one (.vp 5 0)), (6, tkV (if j = 0 then pfR k else pfR k ++ [x])), (35, .one (.ras 1 1 lN)), (36, I .i64 ((1 : Nat) : Int)), (37, I .i64 j)] ([(3, grO lN lP), (5, .var 37 (cellsC b)), (720, tkA (if j = 0 then pfR k else pfR k ++ [x]))] ++ lH n t x k) []) (fun j => j ≤ 1) (fun j => 1 - j) 0 (Nat.zero_le _) (slG lHW) ?_
    intro j hj
    refine awp_seq (ag [] rfl ?_)
    refine awp_seq (awp_cond rfl (fun hb => ?_) (fun hb => ?_))
    · have hj0 : j = 0 := by
        have : (j : Int) < ((1 : Nat) : Int) := of_decide_eq_true hb
        omega
      subst hj0
      rw [if_pos rfl]
      refine awp_skip ?_
      refine awp_seq (awp_block (awp_seq (ag [] rfl ?_)))
      refine awp_seq (awp_seq (ag [] rfl ?_))
      refine awp_cond rfl (fun hb => absurd (of_decide_eq_true hb).symm hsx) (fun hb => ?_)
      refine awp_skip ?_
      refine ag [] rfl ?_
      refine AWp.sub (Sub.freeze (id := 720) rfl) ?_
      refine ag [] rfl ?_
      refine ⟨1, Nat.le_refl _, by dsimp only; omega, ?_⟩
      dsimp only
      rw [if_neg (by decide)]
      exact slG lHW (he := ⟨rfl, rfl, rfl, Go.AM.hs_ren (by simp) (by simp), rfl, rfl, rfl, trivial⟩) (hh := ⟨⟨_, rfl, .varS rfl⟩, ⟨_, rfl, .varS rfl⟩, ⟨_, rfl, .arrS (by simp [encS])⟩, ⟨_, rfl, .varS rfl⟩, ⟨_, rfl, .arr⟩, ⟨_, rfl, .arr⟩, ⟨_, rfl, .rarrS rfl⟩, trivial⟩)
    have hge : j = 1 := by
      have : ¬ (j : Int) < ((1 : Nat) : Int) := of_decide_eq_false hb
      omega
    subst hge
    rw [if_neg (by decide)]
    refine awp_exit ?_
    refine awp_seq (awp_rg mixed ?_)
    refine ak 1 [] rfl ?_
    refine kc hfar ?_
    refine ak 1 [] rfl ?_
    refine az ?_
    refine awp_seq (ag [] rfl ?_)
    refine AWp.sub (Sub.freeze (id := 720) rfl) ?_
    refine awp_seq (ag [] rfl ?_)
    refine awp_seq (awp_seq (ag [] rfl ?_))
    refine awp_block ?_
    refine awp_loop (fun i : Nat => mkt [(1, Go.AM.T s), (5, .one (.vp 5 0)), (6, tkV (if i = 0 then pfR k ++ [x] ++ pfR b else pfR k ++ [x] ++ pfR b ++ [z])), (11, strsV (pfR b)), (12, .one (.clo 131 [.vp 3 0])), (60, .one (.ras 1 1 lN)), (61, I .i64 ((1 : Nat) : Int)), (62, I .i64 i)] ([(3, grO lN lP), (5, .var 37 (cellsC b)), (720, tkA (if i = 0 then pfR k ++ [x] ++ pfR b else pfR k ++ [x] ++ pfR b ++ [z]))] ++ lH n t (if i = 0 then x else z) (if i = 0 then k else sb k x (vC z))) []) (fun i => i ≤ 1) (fun i => 1 - i) 0 (Nat.zero_le _) ?_ ?_
    · rw [if_pos rfl, if_pos rfl, if_pos rfl]
      exact slG lHW (he := ⟨rfl, rfl, Go.AM.hs_ren (by simp only [List.length_append, List.length_map]) (by simp only [List.length_append, List.length_map]), rfl, rfl, rfl, rfl, rfl, trivial⟩) (hh := ⟨⟨_, rfl, .varS rfl⟩, ⟨_, rfl, .varS rfl⟩, ⟨_, rfl, .arrS (by simp )⟩, ⟨_, rfl, .varS rfl⟩, ⟨_, rfl, .arr⟩, ⟨_, rfl, .arr⟩, ⟨_, rfl, .rarrS rfl⟩, trivial⟩)
    intro i hi
    refine awp_seq (ag [] rfl ?_)
    refine awp_seq (awp_cond rfl (fun hb => ?_) (fun hb => ?_))
    · have hi0 : i = 0 := by
        have : (i : Int) < ((1 : Nat) : Int) := of_decide_eq_true hb
        omega
      subst hi0
      rw [if_pos rfl, if_pos rfl, if_pos rfl]
      generalize pfR k ++ [x] ++ pfR b = tk at *
      refine awp_skip ?_
      refine awp_seq (awp_block (awp_seq (ag [] rfl ?_)))
      refine awp_seq (awp_rg mixed ?_)
      refine ak 4 [] rfl ?_
      refine kc hcf ?_
      refine az ?_
      refine awp_cond rfl (fun hb => ?_) (fun hb => by cases hb)
      refine awp_seq (awp_rg mixed ?_)
      refine ak 1 [] rfl ?_
      refine kc hcr ?_
      refine ak 1 [] rfl ?_
      refine az ?_
      refine awp_seq (ag [] rfl ?_)
      refine AWp.sub (Sub.freeze (id := 720) rfl) ?_
      refine awp_seq (awp_rg mixed ?_)
      refine ak 5 [] rfl ?_
      refine kc hcv ?_
      refine kv (caps := [.vp 3 0]) (args := [Go.AM.T x, .pa (encCore (vC z))]) hca ?_
      refine az ?_
      refine ag [] rfl ?_
      refine ag [] rfl ?_
      refine ⟨1, Nat.le_refl _, by dsimp only; omega, ?_⟩
      dsimp only
      rw [if_neg (by decide), if_neg (by decide), if_neg (by decide)]
      exact slG lHW (fun i hi => GW.kf i hi) (he := ⟨rfl, rfl, Go.AM.hs_ren (by simp) (by simp), rfl, rfl, rfl, rfl, rfl, trivial⟩) (hh := ⟨⟨_, rfl, .varS rfl⟩, ⟨_, rfl, .varS rfl⟩, ⟨_, rfl, .arrS (by simp [encS])⟩, ⟨_, rfl, .varS rfl⟩, ⟨_, rfl, .arr⟩, ⟨_, rfl, .arr⟩, ⟨_, rfl, .rarrS rfl⟩, trivial⟩)
    have hge : i = 1 := by
      have : ¬ (i : Int) < ((1 : Nat) : Int) := of_decide_eq_false hb
      omega
    subst hge
    rw [if_neg (by decide), if_neg (by decide), if_neg (by decide)]
    refine awp_exit ?_
    refine awp_rg mixed ?_
    refine ak 3 [] rfl ?_
    refine kv (caps := [.vp 3 0]) (args := [Go.AM.T s, .pa (encCore b)]) hca2 ?_
    refine az ?_
    exact ⟨.inl rfl, finT hF (FarEq.outs hF) ⟨[], [], .nil, .nil, rfl⟩ (fun _ h => by cases h) lHW.refs (fun i hi => GW.kf i hi) (fun q hq => by rcases List.mem_append.1 hq with hq | hq; exact (List.all_eq_true.1 (lHW (n := n) (t := t) (x := x) (k := k)).plain) q hq; cases hq)⟩
  refine ⟨x, sb k s b, ?_, ?_⟩
  · unfold putR
    rw [if_pos hpin, hfl]
    unfold gAll
    simp only [List.foldl_cons, List.foldl_nil]
    unfold gStep
    rw [if_neg hxb]; rfl
  rw [decide_eq_false hxb] at hcf
  have hca2 := c_allL n t x k s b (fun p => sb p s b) (hok.subb _ hP)
  refine impCT hF (n := 92) tok Tryz.func68 rfl rfl rfl ?_
  refine awp_seq (ag [] rfl ?_)
  refine awp_seq (ag [] rfl ?_)
  refine AWp.sub (Sub.own (t := 6) (id := 720) 9 1 rfl rfl) (AWp.sub (Sub.freeze (id := 720) rfl) ?_)
  refine awp_seq (awp_seq (ag [] rfl ?_))
  refine awp_block ?_
  refine awp_loop (fun j : Nat => mkt [(1, Go.AM.T s), (3, .one (.vp 3 0)), (5, .one (.vp 5 0)), (6, tkV (if j = 0 then [] else pfR k)), (17, .one (.ras 1 1 lP)), (18, I .i64 ((1 : Nat) : Int)), (19, I .i64 j)] ([(3, grO lN lP), (5, .var 37 (cellsC b)), (720, tkA (if j = 0 then [] else pfR k))] ++ lH n t x k) []) (fun j => j ≤ 1) (fun j => 1 - j) 0 (Nat.zero_le _) (slG lHW) ?_
  intro j hj
  refine awp_seq (ag [] rfl ?_)
  refine awp_seq (awp_cond rfl (fun hb => ?_) (fun hb => ?_))
  · have hj0 : j = 0 := by
      have : (j : Int) < ((1 : Nat) : Int) := of_decide_eq_true hb
      omega
    subst hj0
    rw [if_pos rfl]
    refine awp_skip ?_
    refine awp_seq (awp_block (awp_seq (ag [] rfl ?_)))
    refine awp_rg mixed ?_
    refine ak 4 [(3, .row 0 (encCore k))] rfl ?_
    refine kc hf ?_
    refine ak 2 [] rfl ?_
    refine az ?_
    refine AWp.sub (Sub.freeze (id := 720) rfl) ?_
    refine ag [] rfl ?_
    refine ⟨1, Nat.le_refl _, by dsimp only; omega, ?_⟩
    dsimp only
    rw [if_neg (by decide)]
    exact slG lHW (he := ⟨rfl, rfl, rfl, Go.AM.hs_ren (by simp) (by simp), rfl, rfl, rfl, trivial⟩) (hh := ⟨⟨_, rfl, .varS rfl⟩, ⟨_, rfl, .varS rfl⟩, ⟨_, rfl, .arrS (by simp)⟩, ⟨_, rfl, .varS rfl⟩, ⟨_, rfl, .arr⟩, ⟨_, rfl, .arr⟩, ⟨_, rfl, .rarrS rfl⟩, trivial⟩)
  have hge : j = 1 := by
    have : ¬ (j : Int) < ((1 : Nat) : Int) := of_decide_eq_false hb
    omega
  subst hge
  rw [if_neg (by decide)]
  refine awp_exit ?_
  refine awp_seq (awp_seq (awp_rg mixed ?_))
  refine ak 2 [] rfl ?_
  refine kc hct ?_
  refine ak 1 [] rfl ?_
  refine az ?_
  refine awp_cond rfl (fun hb => by cases hb) (fun hb => ?_)
  refine awp_skip ?_
  refine awp_seq (awp_seq (ag [] rfl ?_))
  refine awp_block ?_
  refine awp_loop (fun j : Nat => mkt [(1, Go.AM.T s), (3, .one (.vp 3 0)), (5, .one (.vp 5 0)), (6, tkV (if j = 0 then pfR k else pfR k ++ [x])), (35, .one (.ras 1 1 lN)), (36, I .i64 ((1 : Nat) : Int)), (37, I .i64 j)] ([(3, grO lN lP), (5, .var 37 (cellsC b)), (720, tkA (if j = 0 then pfR k else pfR k ++ [x]))] ++ lH n t x k) []) (fun j => j ≤ 1) (fun j => 1 - j) 0 (Nat.zero_le _) (slG lHW) ?_
  intro j hj
  refine awp_seq (ag [] rfl ?_)
  refine awp_seq (awp_cond rfl (fun hb => ?_) (fun hb => ?_))
  · have hj0 : j = 0 := by
      have : (j : Int) < ((1 : Nat) : Int) := of_decide_eq_true hb
      omega
    subst hj0
    rw [if_pos rfl]
    refine awp_skip ?_
    refine awp_seq (awp_block (awp_seq (ag [] rfl ?_)))
    refine awp_seq (awp_seq (ag [] rfl ?_))
    refine awp_cond rfl (fun hb => absurd (of_decide_eq_true hb).symm hsx) (fun hb => ?_)
    refine awp_skip ?_
    refine ag [] rfl ?_
    refine AWp.sub (Sub.freeze (id := 720) rfl) ?_
    refine ag [] rfl ?_
    refine ⟨1, Nat.le_refl _, by dsimp only; omega, ?_⟩
    dsimp only
    rw [if_neg (by decide)]
    exact slG lHW (he := ⟨rfl, rfl, rfl, Go.AM.hs_ren (by simp) (by simp), rfl, rfl, rfl, trivial⟩) (hh := ⟨⟨_, rfl, .varS rfl⟩, ⟨_, rfl, .varS rfl⟩, ⟨_, rfl, .arrS (by simp [encS])⟩, ⟨_, rfl, .varS rfl⟩, ⟨_, rfl, .arr⟩, ⟨_, rfl, .arr⟩, ⟨_, rfl, .rarrS rfl⟩, trivial⟩)
  have hge : j = 1 := by
    have : ¬ (j : Int) < ((1 : Nat) : Int) := of_decide_eq_false hb
    omega
  subst hge
  rw [if_neg (by decide)]
  refine awp_exit ?_
  refine awp_seq (awp_rg mixed ?_)
  refine ak 1 [] rfl ?_
  refine kc hfar ?_
  refine ak 1 [] rfl ?_
  refine az ?_
  refine awp_seq (ag [] rfl ?_)
  refine AWp.sub (Sub.freeze (id := 720) rfl) ?_
  refine awp_seq (ag [] rfl ?_)
  refine awp_seq (awp_seq (ag [] rfl ?_))
  refine awp_block ?_
  refine awp_loop (fun i : Nat => mkt [(1, Go.AM.T s), (5, .one (.vp 5 0)), (11, strsV (pfR b)), (12, .one (.clo 131 [.vp 3 0])), (60, .one (.ras 1 1 lN)), (61, I .i64 ((1 : Nat) : Int)), (62, I .i64 i)] ([(3, grO lN lP), (5, .var 37 (cellsC b))] ++ lH n t x k) []) (fun i => i ≤ 1) (fun i => 1 - i) 0 (Nat.zero_le _) (slG lHW) ?_
  intro i hi
  refine awp_seq (ag [] rfl ?_)
  refine awp_seq (awp_cond rfl (fun hb => ?_) (fun hb => ?_))
  · have hi0 : i = 0 := by
      have : (i : Int) < ((1 : Nat) : Int) := of_decide_eq_true hb
      omega
    subst hi0
    refine awp_skip ?_
    refine awp_seq (awp_block (awp_seq (ag [] rfl ?_)))
    refine awp_seq (awp_rg mixed ?_)
    refine ak 4 [] rfl ?_
    refine kc hcf ?_
    refine az ?_
    refine awp_cond rfl (fun hb => by cases hb) (fun hb => ?_)
    refine awp_skip ?_
    refine ag [] rfl ?_
    exact ⟨1, Nat.le_refl _, by dsimp only; omega, slG lHW⟩
  have hge : i = 1 := by
    have : ¬ (i : Int) < ((1 : Nat) : Int) := of_decide_eq_false hb
    omega
  subst hge
  refine awp_exit ?_
  refine awp_rg mixed ?_
  refine ak 3 [] rfl ?_
  refine kv (caps := [.vp 3 0]) (args := [Go.AM.T s, .pa (encCore b)]) hca2 ?_
  refine az ?_
  exact ⟨.inl rfl, finT hF (FarEq.outs hF) ⟨[], [], .nil, .nil, rfl⟩ (fun _ h => by cases h) lHW.refs (fun i hi => GW.kf i hi) (fun q hq => by rcases List.mem_append.1 hq with hq | hq; exact (List.all_eq_true.1 (lHW (n := n) (t := t) (x := x) (k := k)).plain) q hq; cases hq)⟩
end Go.Proofs.YtmoekkcdkjopgaaGreatDoor
