/-
  Texts Lc9, Ld3, Lg23, Lg24, Lg25, Lg26, Lg28, Lg27, Li8, Li9 in one.
-/
import Derived.Test.YtmoekkcdkjopgaaGreatDoorM13
import Derived.Shelf.Strconv.Itoa3
import Derived.Lib.LaidTab
/- THE DOCUMENT's EXAMPLE lives (fuguelaw24.lives): the walk. -/
namespace Go.Proofs.YtmoekkcdkjopgaaGreatDoor
open Go Go.AM
set_option maxRecDepth 20000
def mcV : V := .ma [.c (.sl 15 []), .mr 620]
theorem c_stepE : ImpC Tryz.prog 78 [mcV, .pa (encCore exE)] [(620, opsO)] (.tup [.pa (encCore exI), I .i64 0]) [(620, opsO)] := by
  have hs := c_subX
  refine impC (n := 113) tok Tryz.func78 rfl rfl rfl ?_
  refine awp_seq (ag [] rfl ?_)
  refine awp_seq (ag [] rfl ?_)
  refine awp_seq (awp_seq (ag [] rfl ?_))
  refine awp_block (awp_seq (ag [] rfl ?_))
  refine awp_cond rfl (fun hb => by cases hb) (fun _ => ?_)
  refine awp_seq (ag [] rfl ?_)
  refine awp_cond rfl (fun _ => ?_) (fun hb => by cases hb)
  refine awp_seq (ag [(2, .row 0 (encCore exL))] rfl ?_)
  refine awp_block (awp_seq (ag [] rfl ?_))
  refine awp_cond rfl (fun _ => ?_) (fun hb => by cases hb)
  refine awp_seq (ag [(2, .row 0 (encCore exX)), (8, .row 1 (encCore exI)), (10, .pc (.pa (encCore exI)))] rfl ?_)
  exact awp_ret ⟨.inr rfl, ⟨_, _, .cell rfl (tg rfl) rfl rfl rfl (.tmp rfl .nil), .cons .refl (.cons .refl .nil), rfl⟩, ⟨⟨_, rfl, .map⟩, trivial⟩, rfl⟩
theorem c_whnfE : ImpC Tryz.prog 31 [.one (.c (.sl 15 [])), .pa (encCore exE), I .i64 9] [] (.tup [.pa (encCore exI), I .i64 1, I .i64 0]) [] := by
  have hE := c_showsE
  have hI := c_showsI
  have hst := c_stepE
  have hap := c_capp0 exI rfl (by decide)
  have hz := c_size _ exI (Nat.le_refl _) (by decide)
  rw [show sizeR exI = 1 by simp [exI, sizeR, sizeCs, sizeBs, sizeAs]] at hz
  refine impC (n := 43) tok Tryz.func31 rfl rfl rfl ?_
  refine awp_seq (ag [] rfl ?_)
  refine awp_seq (awp_rg mixed ?_)
  refine ak 1 [] rfl ?_
  refine kc c_ops ?_
  refine ak 3 [] rfl ?_
  refine az ?_
  refine awp_seq (ag [] rfl ?_)
  refine awp_seq (awp_block ?_)
  refine awp_loop (fun i : Bool => mk [(2, I .i64 9), (4, .one (.vp 4 0)), (6, .one (.vp 6 0)), (9, .one (.vp 9 0)), (10, I .i64 (if i then 1 else 0))] [(4, .var 37 (cellsC (if i then exI else exE))), (6, .var 37 zCells), (9, .var 137 [.c (.sl 15 []), .mr 620]), (620, opsO)]) (fun _ => True) (fun i => if i then 0 else 1) false trivial sl ?_
  intro i _
  cases i with
  | false =>
    refine awp_seq (awp_seq (ag [(1, .pc (B false))] rfl ?_))
    refine awp_cond rfl (fun _ => ?_) (fun hb => by cases hb)
    refine awp_skip ?_
    refine awp_seq (awp_block (awp_seq (awp_seq (ag [] rfl ?_))))
    refine awp_cond rfl (fun hb => by cases hb) (fun _ => ?_)
    refine awp_skip ?_
    refine awp_seq (awp_rg mixed ?_)
    refine ak 2 [] rfl ?_
    refine kc hst ?_
    refine ak 6 [] rfl ?_
    refine az ?_
    refine awp_seq (awp_seq (ag [] rfl ?_))
    refine awp_cond rfl (fun hb => by cases hb) (fun _ => ?_)
    refine awp_skip ?_
    refine awp_seq (ag [] rfl ?_)
    refine awp_seq (ag [(1, .pc (I .i64 (1 : Nat)))] rfl ?_)
    refine awp_cond rfl (fun hb => by cases hb) (fun _ => ?_)
    refine awp_skip ?_
    refine ag [] rfl ?_
    exact ⟨true, trivial, by decide, sl⟩
  | true =>
    refine awp_seq (awp_seq (ag [(1, .pc (B true))] rfl ?_))
    refine awp_cond rfl (fun hb => by cases hb) (fun _ => ?_)
    refine awp_exit ?_
    refine awp_seq (ag [(1, .pc (.pa (encCore exI)))] rfl ?_)
    exact awp_ret ⟨.inr rfl, ⟨_, _, .cell rfl (tg rfl) rfl rfl rfl (.tmp rfl (.tmp rfl .nil)), .cons .refl (.cons .refl (.cons .refl .nil)), rfl⟩, trivial, rfl⟩
def exTa : Ty := .mk 2 0 [97] []
def exA : Core := tlamC [97] (lamT [120] exTa exX)
def exB : Core := tappC exA tInt
def exC0 : Core := capp exB exI
theorem c_lives24 : ImpC Tryz.prog 29 [] [] (B true) [] := by
  have h1 := c_tyvar [97]
  have h2 := c_cvar [120]
  have h3 := c_clam [120] exTa exX rfl rfl (by decide)
  have h4 := c_ctlam [97] (lamT [120] exTa exX) rfl (by decide)
  have h5 := c_tycon [73, 110, 116]
  have h6 := c_ctapp exA tInt rfl rfl (by decide)
  have h7 := c_cint 3
  have h8 := c_capp exB exI rfl rfl (by decide) (by decide)
  have h9 : ImpC Tryz.prog 22 [.pa (encCore exC0)] [] (.pa (encCore exE)) [] := c_perase _ exC0 (Nat.le_refl _) (by decide) rfl
  have h10 := c_whnfE
  refine impC (n := 60) tok Tryz.func29 rfl rfl rfl ?_
  refine awp_seq (ag [] rfl ?_)
  refine awp_seq (ag [(0, .pc (tyV exTa)), (1, .pc (.pa (encCore exX))), (2, .pc (.pa (encCore (lamT [120] exTa exX)))), (3, .all), (4, .pc (.pa (encCore exA)))] rfl ?_)
  refine awp_seq (ag [(1, .pc (tyV tInt)), (2, .all), (3, .pc (.pa (encCore exB))), (4, .pc (.pa (encCore exI))), (5, .all), (6, .pc (.pa (encCore exC0))), (7, .pc (.pa (encCore exE)))] rfl ?_)
  refine awp_seq (ag [(1, .pc (.tup [.pa (encCore exI), I .i64 1, I .i64 0]))] rfl ?_)
  refine awp_seq (ag [(3, .bv true), (8, .bv true), (9, .bv true), (12, .row 0 (encCore exL)), (16, .bv true), (17, .bv true), (21, .bv true), (22, .bv true), (26, .bv true), (27, .bv true), (30, .bv true), (31, .bv true), (34, .bv true)] rfl ?_)
  exact awp_ret rtT
end Go.Proofs.YtmoekkcdkjopgaaGreatDoor

/- WHAT IS LEFT WITHOUT TYPES: the names that are free in it, how many nodes it has; what is left of that. -/
namespace Go.Proofs.YtmoekkcdkjopgaaGreatDoor
open Go Go.AM
set_option maxRecDepth 20000
mutual
/-- What is given a type, or takes one, has one body, and nothing else. -/
def oneR : Core → Bool
  | .mk f _ _ _ ks bs al => (if f = 6 ∨ f = 7 then decide (ks.length = 1) && (bs.isEmpty && al.isEmpty) else true) && (oneCs ks && (oneBs bs && oneAs al))
def oneCs : List Core → Bool
  | [] => true
  | c :: l => oneR c && oneCs l
def oneBs : List Bind → Bool
  | [] => true
  | .mk _ _ c :: l => oneR c && oneBs l
def oneAs : List Alt → Bool
  | [] => true
  | .mk _ _ _ _ c :: l => oneR c && oneAs l
end
theorem mor1_nd {o : List Str} {s : Str} (h : o.Nodup) : (mor1 o s).Nodup := by
  unfold mor1
  split
  · exact h
  · rename_i hs
    rw [List.nodup_append]
    exact ⟨h, by simp, fun a ha b hb e => by rw [List.mem_singleton.1 hb] at e; subst e; exact hs ha⟩
theorem pfP_nd (G : List Str) : ∀ (l o : List Str), o.Nodup → (pfP G o l).Nodup
  | [], _, h => h
  | s :: l, o, h => by
    show (pfP G (pfG G o s) l).Nodup
    refine pfP_nd G l _ ?_
    unfold pfG
    split
    · exact h
    · exact mor1_nd h
theorem pfP_id : ∀ (l o : List Str), (o ++ l).Nodup → pfP [] o l = o ++ l
  | [], o, _ => (List.append_nil o).symm
  | s :: l, o, h => by
    have hs : ¬ s ∈ o := fun hm => by
      rw [List.nodup_append] at h
      exact h.2.2 s hm s List.mem_cons_self rfl
    show pfP [] (pfG [] o s) l = _
    rw [show pfG [] o s = o ++ [s] by simp [pfG, mor1, hs]]
    rw [pfP_id l (o ++ [s]) (by simpa using h)]
    simp
mutual
theorem pf_nd : ∀ c : Core, (pfR c).Nodup
  | .mk f n s t ks bs al => by
    rw [pfR]
    split
    · simp
    · exact pf_ndA al _ (pf_ndB _ bs _ (pf_ndC _ ks _ List.nodup_nil))
theorem pf_ndC (G : List Str) : ∀ (l : List Core) (o : List Str), o.Nodup → (pfCs G l o).Nodup
  | [], _, h => by rw [pfCs]; exact h
  | c :: l, o, h => by rw [pfCs]; exact pf_ndC G l _ (pfP_nd G _ _ h)
theorem pf_ndB (G : List Str) : ∀ (l : List Bind) (o : List Str), o.Nodup → (pfBs G l o).Nodup
  | [], _, h => by rw [pfBs]; exact h
  | .mk s t c :: l, o, h => by rw [pfBs]; exact pf_ndB G l _ (pfP_nd G _ _ h)
theorem pf_ndA : ∀ (l : List Alt) (o : List Str), o.Nodup → (pfAs l o).Nodup
  | [], _, h => by rw [pfAs]; exact h
  | .mk f n s v c :: l, o, h => by rw [pfAs]; exact pf_ndA l _ (pfP_nd v _ _ h)
end
theorem gvN_erase (f : Int) (s : Str) (bs : List Bind) : gvN f s (eraseBs bs) = gvN f s bs := by
  unfold gvN
  congr 1
  induction bs with
  | nil => rw [eraseBs]
  | cons b l ih =>
    obtain ⟨s', t', c'⟩ := b
    rw [eraseBs, eraseB, List.map_cons, List.map_cons, ih]; rfl
mutual
/-- The same names are free. -/
theorem pf_erase : ∀ c : Core, oneR c = true → pfR (eraseR c) = pfR c
  | .mk f n s t ks bs al, h => by
    simp only [oneR, Bool.and_eq_true] at h
    obtain ⟨h1, h2, h3, h4⟩ := h
    have hk := pf_eraseC ks h2
    by_cases h67 : f = 6 ∨ f = 7
    · rw [if_pos h67] at h1
      simp only [Bool.and_eq_true, decide_eq_true_eq, List.isEmpty_iff] at h1
      obtain ⟨e1, e2, e3⟩ := h1
      subst e2 e3
      obtain ⟨k, rfl⟩ := List.length_eq_one_iff.1 e1
      have hk := hk [] []
      rw [eraseR, if_pos ⟨h67, by simp⟩, eraseCs]
      rw [eraseCs, eraseCs, pfCs, pfCs, pfCs, pfCs, pfP_id _ [] (by simpa using pf_nd _), pfP_id _ [] (by simpa using pf_nd _)] at hk
      rw [pfR, if_neg (by omega), pfAs, pfBs, pfCs, pfCs]
      have hg : gvN f s [] = [] := by unfold gvN; rw [if_neg (by omega)]; rfl
      rw [hg, pfP_id _ [] (by simpa using pf_nd _)]
      exact hk
    · rw [eraseR, if_neg (fun h => h67 h.1), pfR, pfR]
      split
      · rfl
      · rw [gvN_erase, hk, pf_eraseB bs h3, pf_eraseA al h4]
theorem pf_eraseC : ∀ l : List Core, oneCs l = true → ∀ (G o : List Str), pfCs G (eraseCs l) o = pfCs G l o
  | [], _, G, o => by rw [eraseCs]
  | c :: l, h, G, o => by
    rw [oneCs, Bool.and_eq_true] at h
    rw [eraseCs, pfCs, pfCs, pf_erase c h.1, pf_eraseC l h.2]
theorem pf_eraseB : ∀ l : List Bind, oneBs l = true → ∀ (G o : List Str), pfBs G (eraseBs l) o = pfBs G l o
  | [], _, G, o => by rw [eraseBs]
  | .mk s t c :: l, h, G, o => by
    rw [oneBs, Bool.and_eq_true] at h
    rw [eraseBs, eraseB, pfBs, pfBs, pf_erase c h.1, pf_eraseB l h.2]
theorem pf_eraseA : ∀ l : List Alt, oneAs l = true → ∀ (o : List Str), pfAs (eraseAs l) o = pfAs l o
  | [], _, o => by rw [eraseAs]
  | .mk f n s v c :: l, h, o => by
    rw [oneAs, Bool.and_eq_true] at h
    rw [eraseAs, eraseA, pfAs, pfAs, pf_erase c h.1, pf_eraseA l h.2]
end
end Go.Proofs.YtmoekkcdkjopgaaGreatDoor

/- CORE IN THE PLACE OF A NAME, types among it: plain laws. -/
namespace Go.Proofs.YtmoekkcdkjopgaaGreatDoor
open Go Go.AM
set_option maxRecDepth 20000
mutual
theorem one_wf : ∀ c : Core, wfC c = true → oneR c = true
  | .mk f n s t ks bs al, h => by
    obtain ⟨h1, h2, h3, h4⟩ := wfC_un h
    rw [oneR, one_wfs ks h2, one_wfb bs h3, one_wfa al h4]
    by_cases h67 : f = 6 ∨ f = 7
    · obtain ⟨⟨k, rfl⟩, rfl, rfl⟩ := h1 (.inr h67)
      rw [if_pos h67]; simp
    · rw [if_neg h67]; rfl
theorem one_wfs : ∀ l : List Core, (∀ x ∈ l, wfC x = true) → oneCs l = true
  | [], _ => rfl
  | c :: l, h => by rw [oneCs, one_wf c (h c List.mem_cons_self), one_wfs l fun x hx => h x (List.mem_cons_of_mem _ hx)]; rfl
theorem one_wfb : ∀ l : List Bind, (∀ x ∈ l, wfC x.body = true) → oneBs l = true
  | [], _ => rfl
  | .mk s t c :: l, h => by rw [oneBs, one_wf c (h _ List.mem_cons_self), one_wfb l fun x hx => h x (List.mem_cons_of_mem _ hx)]; rfl
theorem one_wfa : ∀ l : List Alt, (∀ x ∈ l, wfC x.body = true) → oneAs l = true
  | [], _ => rfl
  | .mk f n s vs c :: l, h => by rw [oneAs, one_wf c (h _ List.mem_cons_self), one_wfa l fun x hx => h x (List.mem_cons_of_mem _ hx)]; rfl
end
theorem pf_er {c : Core} (h : wfC c = true) : pfR (eraseR c) = pfR c := pf_erase c (one_wf c h)
mutual
theorem wf_er : ∀ c : Core, wfC c = true → wfC (eraseR c) = true ∧ (eraseR c).form ≠ 6 ∧ (eraseR c).form ≠ 7
  | .mk f n s t ks bs al, h => by
    obtain ⟨h1, h2, h3, h4⟩ := wfC_un h
    have h0 := wfC_var h
    have k2 := wf_ers ks h2
    have k3 := wf_erb bs h3
    have k4 := wf_era al h4
    by_cases h67 : f = 6 ∨ f = 7
    · obtain ⟨⟨k, rfl⟩, rfl, rfl⟩ := h1 (.inr h67)
      rw [eraseR, if_pos ⟨h67, by simp⟩, eraseCs]
      exact wf_er k (h2 k List.mem_cons_self)
    · rw [eraseR, if_neg fun h => h67 h.1]
      refine ⟨wfC_mk (fun hf => ?_) (fun hf => ?_) k2 k3 k4, fun h => h67 (.inl h), fun h => h67 (.inr h)⟩
      · obtain ⟨⟨k, rfl⟩, rfl, rfl⟩ := h1 hf
        rw [eraseCs, eraseCs, eraseBs, eraseAs]
        exact ⟨⟨_, rfl⟩, rfl, rfl⟩
      · obtain ⟨rfl, rfl, rfl⟩ := h0 hf
        rw [eraseCs, eraseBs, eraseAs]
        exact ⟨rfl, rfl, rfl⟩
theorem wf_ers : ∀ l : List Core, (∀ x ∈ l, wfC x = true) → ∀ x ∈ eraseCs l, wfC x = true
  | [], _, x, hx => by rw [eraseCs] at hx; cases hx
  | c :: l, h, x, hx => by
    rw [eraseCs] at hx
    rcases List.mem_cons.1 hx with rfl | hx
    · exact (wf_er c (h c List.mem_cons_self)).1
    · exact wf_ers l (fun x hx => h x (List.mem_cons_of_mem _ hx)) x hx
theorem wf_erb : ∀ l : List Bind, (∀ x ∈ l, wfC x.body = true) → ∀ x ∈ eraseBs l, wfC x.body = true
  | [], _, x, hx => by rw [eraseBs] at hx; cases hx
  | .mk s t c :: l, h, x, hx => by
    rw [eraseBs, eraseB] at hx
    rcases List.mem_cons.1 hx with rfl | hx
    · exact (wf_er c (h _ List.mem_cons_self)).1
    · exact wf_erb l (fun x hx => h x (List.mem_cons_of_mem _ hx)) x hx
theorem wf_era : ∀ l : List Alt, (∀ x ∈ l, wfC x.body = true) → ∀ x ∈ eraseAs l, wfC x.body = true
  | [], _, x, hx => by rw [eraseAs] at hx; cases hx
  | .mk f n s vs c :: l, h, x, hx => by
    rw [eraseAs, eraseA] at hx
    rcases List.mem_cons.1 hx with rfl | hx
    · exact (wf_er c (h _ List.mem_cons_self)).1
    · exact wf_era l (fun x hx => h x (List.mem_cons_of_mem _ hx)) x hx
end
/-! ### What is free -/
theorem mor1_in {o : List Str} {x y : Str} (h : y ∈ o) : y ∈ mor1 o x := by
  unfold mor1
  split
  · exact h
  · exact List.mem_append.2 (.inl h)
theorem mor1_new {o : List Str} {x : Str} : x ∈ mor1 o x := by
  unfold mor1
  split
  · assumption
  · exact List.mem_append.2 (.inr (by simp))
theorem pfG_in {G o : List Str} {x y : Str} (h : y ∈ o) : y ∈ pfG G o x := by
  unfold pfG
  split
  · exact h
  · exact mor1_in h
theorem pfP_in {G : List Str} : ∀ {l o : List Str} {y : Str}, y ∈ o → y ∈ pfP G o l
  | [], _, _, h => h
  | x :: l, o, y, h => pfP_in (G := G) (l := l) (o := pfG G o x) (pfG_in h)
theorem pfP_mem {G : List Str} : ∀ {l o : List Str} {y : Str}, y ∈ l → ¬ y ∈ G → y ∈ pfP G o l
  | x :: l, o, y, h, hG => by
    rcases List.mem_cons.1 h with rfl | h
    · refine pfP_in (G := G) (l := l) (o := pfG G o y) ?_
      unfold pfG
      rw [if_neg hG]; exact mor1_new
    · exact pfP_mem (l := l) (o := pfG G o x) h hG
theorem pfCs_in {G : List Str} : ∀ {l : List Core} {o : List Str} {y : Str}, y ∈ o → y ∈ pfCs G l o
  | [], _, _, h => by rw [pfCs]; exact h
  | c :: l, o, y, h => by rw [pfCs]; exact pfCs_in (pfP_in h)
theorem pfBs_in {G : List Str} : ∀ {l : List Bind} {o : List Str} {y : Str}, y ∈ o → y ∈ pfBs G l o
  | [], _, _, h => by rw [pfBs]; exact h
  | .mk s t c :: l, o, y, h => by rw [pfBs]; exact pfBs_in (pfP_in h)
theorem pfAs_in : ∀ {l : List Alt} {o : List Str} {y : Str}, y ∈ o → y ∈ pfAs l o
  | [], _, _, h => by rw [pfAs]; exact h
  | .mk f n s vs c :: l, o, y, h => by rw [pfAs]; exact pfAs_in (pfP_in h)
theorem pfCs_mem {G : List Str} : ∀ {l : List Core} {o : List Str} {y : Str} {c : Core}, c ∈ l → y ∈ pfR c → ¬ y ∈ G → y ∈ pfCs G l o
  | d :: l, o, y, c, h, hy, hG => by
    rw [pfCs]
    rcases List.mem_cons.1 h with rfl | h
    · exact pfCs_in (pfP_mem hy hG)
    · exact pfCs_mem h hy hG
theorem pfBs_mem {G : List Str} : ∀ {l : List Bind} {o : List Str} {y : Str} {c : Bind}, c ∈ l → y ∈ pfR c.body → ¬ y ∈ G → y ∈ pfBs G l o
  | .mk s t d :: l, o, y, c, h, hy, hG => by
    rw [pfBs]
    rcases List.mem_cons.1 h with rfl | h
    · exact pfBs_in (pfP_mem hy hG)
    · exact pfBs_mem h hy hG
theorem pfAs_mem : ∀ {l : List Alt} {o : List Str} {y : Str} {c : Alt}, c ∈ l → y ∈ pfR c.body → ¬ y ∈ c.vars → y ∈ pfAs l o
  | .mk f n s vs d :: l, o, y, c, h, hy, hG => by
    rw [pfAs]
    rcases List.mem_cons.1 h with rfl | h
    · exact pfAs_in (pfP_mem hy hG)
    · exact pfAs_mem h hy hG
theorem pf_main {f n : Int} {nm : Str} {t : Ty} {ks : List Core} {bs : List Bind} {al : List Alt} (hf : f ≠ 1) {y : Str} (h : y ∈ (ks ++ bs.map Bind.body).flatMap pfR) (hG : ¬ y ∈ gvN f nm bs) : y ∈ pfR (.mk f n nm t ks bs al) := by
  rw [pfR, if_neg hf]
  refine pfAs_in ?_
  obtain ⟨c, hc, hy⟩ := List.mem_flatMap.1 h
  rcases List.mem_append.1 hc with hc | hc
  · exact pfBs_in (pfCs_mem hc hy hG)
  · obtain ⟨b, hb, rfl⟩ := List.mem_map.1 hc
    exact pfBs_mem hb hy hG
theorem pf_alt {f n : Int} {nm : Str} {t : Ty} {ks : List Core} {bs : List Bind} {al : List Alt} (hf : f ≠ 1) {a : Alt} (ha : a ∈ al) {y : Str} (h : y ∈ pfR a.body) (hG : ¬ y ∈ a.vars) : y ∈ pfR (.mk f n nm t ks bs al) := by
  rw [pfR, if_neg hf]
  exact pfAs_mem ha h hG
/-- Where a name is not free nothing is put. -/
theorem subG_id (clr : Core → List Str → Core) (j : Nat) : ∀ (c : Core) (s : Str) (b : Core), wfC c = true → c.form ≠ 7 → ¬ s ∈ pfR c → subG clr (j + 1) c s b = c
  | .mk f n nm t ks bs al, s, b, hw, h7, hs => by
    have h7 : f ≠ 7 := h7
    obtain ⟨w1, _⟩ := wfC_un hw
    rw [subG]
    by_cases h1 : f = 1
    · obtain ⟨rfl, rfl, rfl⟩ := wfC_var hw h1
      have hne : ¬ nm = s := fun h => hs (by rw [pfR, if_pos h1, h]; exact List.mem_cons_self)
      rw [if_neg (fun h => hne h.2), if_neg (fun h : (Core.mk f n nm t [] [] []).form = 7 ∧ _ => h7 h.1)]
      dsimp only
      rw [if_neg (show ¬ f = 5 by omega)]
      rfl
    · rw [if_neg (fun h : (Core.mk f n nm t ks bs al).form = 1 ∧ _ => h1 h.1), if_neg (fun h : (Core.mk f n nm t ks bs al).form = 7 ∧ _ => h7 h.1)]
      dsimp only
      have e1 : putR (subG clr j) s b (gvN f nm bs) (ks ++ bs.map Bind.body) = (gvN f nm bs, ks ++ bs.map Bind.body) := by
        unfold putR
        rw [if_neg]
        exact fun h => hs (pf_main h1 h.1 h.2)
      rw [e1]
      have e2 : (al.map fun a => Alt.mk a.form a.n a.name (putR (subG clr j) s b a.vars [a.body]).1 ((putR (subG clr j) s b a.vars [a.body]).2.headD a.body)) = al := by
        conv => rhs; rw [← List.map_id al]
        refine List.map_congr_left fun a ha => ?_
        have e3 : putR (subG clr j) s b a.vars [a.body] = (a.vars, [a.body]) := by
          unfold putR
          rw [if_neg]
          exact fun h => hs (pf_alt h1 ha (by simpa using h.1) h.2)
        rw [e3]
        cases a
        rfl
      rw [e2]
      dsimp only
      rw [List.take_left, List.drop_left]
      by_cases h5 : f = 5
      · obtain ⟨_, rfl, rfl⟩ := w1 (.inl h5)
        rw [if_pos h5]
        have : (gvN f nm []).headD nm = nm := by unfold gvN; rw [if_pos h5]; rfl
        rw [this]; rfl
      · rw [if_neg h5]
        have : gvN f nm bs = bs.map Bind.name := by unfold gvN; rw [if_neg h5]; rfl
        rw [this, mkB_id]
/-! ### Two ways to put that agree behind a map -/
section
variable {sb sb' : Core → Str → Core → Core} {P : Core → Prop} {e : Core → Core}
theorem gAll_comm (hz : ∀ p n z, P p → z.length ≤ 30 → P (sb p n (vC z)) ∧ e (sb p n (vC z)) = sb' (e p) n (vC z)) {far : List Str} : ∀ {ns : List Str} {st : List Str × List Core × List Str}, (∀ p ∈ st.2.1, P p) → st.2.2.length + ns.length ≤ 20000000000 →
    gAll sb' far ns (st.1, st.2.1.map e, st.2.2) = ((gAll sb far ns st).1, (gAll sb far ns st).2.1.map e, (gAll sb far ns st).2.2) ∧ ∀ p ∈ (gAll sb far ns st).2.1, P p
  | [], st, hP, _ => ⟨rfl, hP⟩
  | n :: ns, st, hP, hl => by
    simp only [List.length_cons] at hl
    have hg := gStep_len (sb := sb) (far := far) (st := st) (n := n)
    have hf : (freshR st.2.2).length ≤ 30 := Nat.le_trans (fresh_len _ (by omega)) (by omega)
    have e1 : gAll sb far (n :: ns) st = gAll sb far ns (gStep sb far st n) := rfl
    have e2 : gAll sb' far (n :: ns) (st.1, st.2.1.map e, st.2.2) = gAll sb' far ns (gStep sb' far (st.1, st.2.1.map e, st.2.2) n) := rfl
    have hP2 : ∀ p ∈ (gStep sb far st n).2.1, P p := fun p hp => by
      unfold gStep at hp
      split at hp
      · obtain ⟨q, hq, rfl⟩ := List.mem_map.1 hp
        exact (hz q n _ (hP q hq) hf).1
      · exact hP p hp
    have e3 : gStep sb' far (st.1, st.2.1.map e, st.2.2) n = ((gStep sb far st n).1, (gStep sb far st n).2.1.map e, (gStep sb far st n).2.2) := by
      unfold gStep
      by_cases hn : n ∈ far
      · rw [if_pos hn, if_pos hn]
        dsimp only
        rw [List.map_map, List.map_map]
        congr 2
        exact List.map_congr_left fun p hp => (hz p n _ (hP p hp) hf).2.symm
      · rw [if_neg hn, if_neg hn]
    rw [e1, e2, e3]
    exact gAll_comm hz (st := gStep sb far st n) hP2 (by omega)
theorem putR_comm (hz : ∀ p n z, P p → z.length ≤ 30 → P (sb p n (vC z)) ∧ e (sb p n (vC z)) = sb' (e p) n (vC z)) (hpf : ∀ p, P p → pfR (e p) = pfR p) {s : Str} {b b' : Core} (hb : pfR b' = pfR b) (hs : ∀ p, P p → e (sb p s b) = sb' (e p) s b')
    {ns : List Str} {ps : List Core} (hP : ∀ p ∈ ps, P p) (hl : (ps.flatMap pfR).length + 2 * ns.length + (pfR b).length ≤ 20000000000) :
    putR sb' s b' ns (ps.map e) = ((putR sb s b ns ps).1, (putR sb s b ns ps).2.map e) := by
  have ef : (ps.map e).flatMap pfR = ps.flatMap pfR := by
    rw [List.flatMap_map]
    clear hl
    induction ps with
    | nil => rfl
    | cons p ps ih => rw [List.flatMap_cons, List.flatMap_cons, hpf p (hP p List.mem_cons_self), ih fun q hq => hP q (List.mem_cons_of_mem _ hq)]
  unfold putR
  have ei : putIn s ns (ps.map e) ↔ putIn s ns ps := by unfold putIn; rw [ef]
  by_cases h : putIn s ns ps
  · rw [if_pos h, if_pos (ei.2 h), ef, hb]
    obtain ⟨g1, g2⟩ := gAll_comm hz (far := pfR b) (ns := ns) (st := ([], ps, ps.flatMap pfR ++ ns ++ pfR b)) hP (by simp only [List.length_append]; omega)
    dsimp only at g1
    rw [g1]
    dsimp only
    rw [List.map_map, List.map_map]
    congr 1
    exact List.map_congr_left fun p hp => (hs p (g2 p hp)).symm
  · rw [if_neg h, if_neg (fun k => h (ei.1 k))]
end
theorem mkB_er : ∀ (ts : List Ty) (ns : List Str) (ps : List Core), eraseBs (mkB ts ns ps) = mkB (ts.map fun _ => zTy) ns (ps.map eraseR)
  | [], _, _ => by unfold mkB; rw [eraseBs]; rfl
  | t :: ts, [], _ => by unfold mkB; rw [eraseBs]; rfl
  | t :: ts, _ :: _, [] => by unfold mkB; rw [eraseBs]; rfl
  | t :: ts, n :: ns, p :: ps => by
    rw [List.map_cons, List.map_cons]
    unfold mkB
    rw [eraseBs, eraseB, mkB_er ts ns ps]
end Go.Proofs.YtmoekkcdkjopgaaGreatDoor

/- CORE IN THE PLACE OF A NAME, types among it: what a round keeps; what is left of it without types. -/
namespace Go.Proofs.YtmoekkcdkjopgaaGreatDoor
open Go Go.AM
set_option maxRecDepth 20000
/-- What is known of a group into which was put. -/
structure PK (B : Nat) (T : Ty → Prop) (ns : List Str) (ps : List Core) (r : List Str × List Core) : Prop where
  len1 : r.1.length = ns.length
  len2 : r.2.length = ps.length
  wf : ∀ q ∈ r.2, wfC q = true ∧ allT T q
  sm : A2 (fun p q => m30 q ≤ m30 p * B) ps r.2
  nm : A2 NR ns r.1
theorem putR_PK {sb : Core → Str → Core → Core} {P : Core → Prop} {B : Nat} {T : Ty → Prop} {s : Str} {b : Core} {ns : List Str} {ps : List Core} (hB : 1 ≤ B) (hP : ∀ p ∈ ps, P p)
    (hz : ∀ p n z, P p → z.length ≤ 30 → P (sb p n (vC z)) ∧ m30 (sb p n (vC z)) ≤ m30 p) (hPQ : ∀ p, P p → wfC p = true ∧ allT T p) (hs : ∀ p, P p → wfC (sb p s b) = true ∧ allT T (sb p s b) ∧ m30 (sb p s b) ≤ m30 p * B)
    (hl : (ps.flatMap pfR).length + 2 * ns.length + (pfR b).length ≤ 20000000000) : PK B T ns ps (putR sb s b ns ps) := by
  obtain ⟨l1, l2⟩ := putR_len (sb := sb) (s := s) (b := b) (ns := ns) (ps := ps)
  obtain ⟨⟨qs, h1, h2⟩, h3⟩ := putR_rel (sb := sb) (Rel := fun p q => P p → (P q ∧ m30 q ≤ m30 p)) (fun p h => ⟨h, Nat.le_refl _⟩)
    (fun p q r hpq hqr h => by
      obtain ⟨a1, a2⟩ := hpq h
      obtain ⟨b1, b2⟩ := hqr a1
      exact ⟨b1, Nat.le_trans b2 a2⟩) (s := s) (b := b) (ns := ns) (ps := ps) (fun p n z hzl h => hz p n z h hzl) hl
  have hq : ∀ q ∈ qs, P q := fun q hq => by
    obtain ⟨p, hp, hpq⟩ := h1.mem q hq
    exact (hpq (hP p hp)).1
  have hA : A2 (fun p q => m30 q ≤ m30 p) ps qs := by
    clear h2 hq hl h3 l1 l2
    induction h1 with
    | nil => exact .nil
    | cons r _ ih2 => exact .cons (r (hP _ List.mem_cons_self)).2 (ih2 fun p hp => hP p (List.mem_cons_of_mem _ hp))
  have hup : ∀ k : Nat, k ≤ k * B := fun k => Nat.le_mul_of_pos_right _ hB
  refine ⟨l1, l2, fun x hx => ?_, ?_, h3⟩
  · rcases h2 with h2 | h2
    · rw [h2] at hx; exact hPQ x (hq x hx)
    · rw [h2] at hx
      obtain ⟨q, hq', rfl⟩ := List.mem_map.1 hx
      exact ⟨(hs q (hq q hq')).1, (hs q (hq q hq')).2.1⟩
  · rcases h2 with h2 | h2
    · rw [h2]; exact A2.mono (fun p q h => Nat.le_trans h (hup _)) hA
    · rw [h2]
      clear h2 h3 l1 l2 hl h1
      have key : ∀ {ps qs : List Core}, A2 (fun p q => m30 q ≤ m30 p) ps qs → (∀ q ∈ qs, P q) → A2 (fun p q => m30 q ≤ m30 p * B) ps (qs.map fun p => sb p s b) := by
        intro ps qs h
        induction h with
        | nil => intro _; exact .nil
        | cons r _ ih => exact fun hq => .cons (Nat.le_trans (hs _ (hq _ List.mem_cons_self)).2.2 (Nat.mul_le_mul_right _ r)) (ih fun q h => hq q (List.mem_cons_of_mem _ h))
      exact key hA hq
theorem m30s_A2B {B : Nat} {ps qs : List Core} (h : A2 (fun p q => m30 q ≤ m30 p * B) ps qs) : m30s qs ≤ m30s ps * B := by
  induction h with
  | nil => rw [m30s]; exact Nat.zero_le _
  | cons r _ ih => rw [m30s, m30s, Nat.add_mul]; omega
theorem mkB_m30B {B : Nat} (hB : 1 ≤ B) : ∀ {ts : List Ty} {ns : List Str} {ps : List Core} {bs : List Bind}, A2 (fun (b : Bind) n => w30 n ≤ w30 b.name) bs ns → A2 (fun (b : Bind) p => m30 p ≤ m30 b.body * B) bs ps → m30b (mkB ts ns ps) ≤ m30b bs * B
  | [], _, _, _, _, _ => by unfold mkB; rw [m30b]; exact Nat.zero_le _
  | t :: ts, _, _, _, .nil, .nil => by unfold mkB; rw [m30b]; exact Nat.zero_le _
  | t :: ts, n :: ns, p :: ps, .mk s ty c :: bs, .cons h1 h2, .cons h3 h4 => by
    unfold mkB
    rw [m30b, m30b]
    have := mkB_m30B hB (ts := ts) h2 h4
    have h1 : w30 n ≤ w30 s := h1
    have h3 : m30 p ≤ m30 c * B := h3
    have h5 : 1 + w30 s ≤ (1 + w30 s) * B := Nat.le_mul_of_pos_right _ hB
    rw [Nat.add_mul, Nat.add_mul]
    omega
section
variable {sb : Core → Str → Core → Core} {B : Nat} {T : Ty → Prop} {f n : Int} {nm : Str} {t : Ty} {ks : List Core} {bs : List Bind} {al : List Alt} {s : Str} {b : Core}
theorem newA_m30 (hB : 1 ≤ B) {l : List Alt} (h : ∀ a ∈ l, A2 (fun p q => m30 q ≤ m30 p * B) [a.body] (putR sb s b a.vars [a.body]).2 ∧ A2 NR a.vars (putR sb s b a.vars [a.body]).1) : m30a (l.map (newA sb s b)) ≤ m30a l * B := by
  induction l with
  | nil => exact Nat.zero_le _
  | cons a l ihl =>
    obtain ⟨af, an, anm, vs, ab⟩ := a
    obtain ⟨g1, g2⟩ := h _ List.mem_cons_self
    have := ihl fun x hx => h x (List.mem_cons_of_mem _ hx)
    have g1 : A2 (fun p q => m30 q ≤ m30 p * B) [ab] (putR sb s b vs [ab]).2 := g1
    have g2 : A2 NR vs (putR sb s b vs [ab]).1 := g2
    have g4 := sum_NR g2
    have g3 : m30 ((putR sb s b vs [ab]).2.headD ab) ≤ m30 ab * B := by
      cases hx : (putR sb s b vs [ab]).2 with
      | nil => rw [hx] at g1; cases g1
      | cons y l' =>
        rw [hx] at g1
        cases g1 with
        | cons h _ => exact h
    have e : newA sb s b (Alt.mk af an anm vs ab) = .mk af an anm (putR sb s b vs [ab]).1 ((putR sb s b vs [ab]).2.headD ab) := rfl
    rw [List.map_cons, e, m30a, m30a]
    have g5 : 1 + w30 anm + (vs.map fun v => 1 + w30 v).sum ≤ (1 + w30 anm + (vs.map fun v => 1 + w30 v).sum) * B := Nat.le_mul_of_pos_right _ hB
    rw [Nat.add_mul, Nat.add_mul (1 + w30 anm + _)]
    omega
theorem asmS_keep (hB : 1 ≤ B) (hg : PK B T (gvN f nm bs) (ks ++ bs.map Bind.body) (putR sb s b (gvN f nm bs) (ks ++ bs.map Bind.body))) (ha : ∀ a ∈ al, PK B T a.vars [a.body] (putR sb s b a.vars [a.body]))
    (h0 : T t) (hb : ∀ x ∈ bs, T x.ty) (w1 : f = 5 ∨ f = 6 ∨ f = 7 → (∃ k, ks = [k]) ∧ bs = [] ∧ al = []) (w0 : f = 1 → ks = [] ∧ bs = [] ∧ al = []) :
    wfC (asmS sb s b (.mk f n nm t ks bs al)) = true ∧ allT T (asmS sb s b (.mk f n nm t ks bs al)) ∧ m30 (asmS sb s b (.mk f n nm t ks bs al)) ≤ m30 (.mk f n nm t ks bs al) * B := by
  have hN : ∀ a ∈ al, wfC (newA sb s b a).body = true ∧ allT T (newA sb s b a).body := fun a ha' => by
    show wfC ((putR sb s b a.vars [a.body]).2.headD a.body) = true ∧ allT T ((putR sb s b a.vars [a.body]).2.headD a.body)
    obtain ⟨y, hy⟩ := List.length_eq_one_iff.1 (ha a ha').len2
    rw [hy]
    exact (ha a ha').wf y (by rw [hy]; exact List.mem_singleton.2 rfl)
  have e4 : m30a (al.map (newA sb s b)) ≤ m30a al * B := newA_m30 hB fun a ha' => ⟨(ha a ha').sm, (ha a ha').nm⟩
  rw [asmS]
  unfold zNm zKs zBs
  generalize putR sb s b (gvN f nm bs) (ks ++ bs.map Bind.body) = r at hg ⊢
  obtain ⟨r1, r2⟩ := r
  obtain ⟨l1, l2, q2, q1, q4⟩ := hg
  dsimp only at *
  refine ⟨wfC_mk (fun hf => ?_) (fun hf => ?_) (fun x hx => (q2 x (List.mem_of_mem_take hx)).1) (fun x hx => (q2 _ (List.mem_of_mem_drop (mkB_mem hx).1)).1) (fun x hx => ?_), ?_, ?_⟩
  · obtain ⟨⟨y, rfl⟩, rfl, rfl⟩ := w1 hf
    obtain ⟨y', rfl⟩ := List.length_eq_one_iff.1 (show r2.length = 1 from l2)
    exact ⟨⟨y', rfl⟩, rfl, rfl⟩
  · obtain ⟨rfl, rfl, rfl⟩ := w0 hf
    exact ⟨rfl, rfl, rfl⟩
  · obtain ⟨a, ha', rfl⟩ := List.mem_map.1 hx
    exact (hN a ha').1
  · rw [allT]
    refine ⟨h0, allTs_iff.2 fun x hx => (q2 x (List.mem_of_mem_take hx)).2, allTb_iff.2 fun x hx => ?_, allTa_iff.2 fun x hx => ?_⟩
    · obtain ⟨h1, h2⟩ := mkB_mem hx
      obtain ⟨y, hy, hyt⟩ := List.mem_map.1 h2
      exact ⟨by rw [← hyt]; exact hb y hy, (q2 _ (List.mem_of_mem_drop h1)).2⟩
    · obtain ⟨a, ha', rfl⟩ := List.mem_map.1 hx
      exact (hN a ha').2
  · rw [m30, m30]
    have e1 : w30 (if f = 5 then r1.headD nm else nm) ≤ w30 nm := by
      split
      · rename_i hf
        unfold gvN at q4
        rw [if_pos hf] at q4
        cases q4 with
        | cons h _ => exact h.w
      · exact Nat.le_refl _
    have e2 : m30s (r2.take ks.length) ≤ m30s ks * B := by
      have := (q1.take ks.length)
      rw [List.take_left] at this
      exact m30s_A2B this
    have e3 : m30b (mkB (bs.map Bind.ty) r1 (r2.drop ks.length)) ≤ m30b bs * B := by
      by_cases hf : f = 5
      · obtain ⟨_, rfl, _⟩ := w1 (.inl hf)
        show m30b (mkB [] _ _) ≤ _
        unfold mkB; rw [m30b]; exact Nat.zero_le _
      · have h4 := q4
        unfold gvN at h4
        rw [if_neg hf, List.nil_append] at h4
        have h5 := q1.drop ks.length
        rw [List.drop_left] at h5
        exact mkB_m30B hB (A2.mapL (A2.mono (fun a b h => h.w) h4)) (A2.mapL h5)
    have e5 : 1 + w30 nm ≤ (1 + w30 nm) * B := Nat.le_mul_of_pos_right _ hB
    rw [Nat.add_mul, Nat.add_mul, Nat.add_mul]
    omega
end
theorem erase_body (bs : List Bind) : (eraseBs bs).map Bind.body = (bs.map Bind.body).map eraseR := by
  rw [eraseBs_map, List.map_map, List.map_map]
  refine List.map_congr_left fun b _ => ?_
  cases b; rw [Function.comp, Function.comp, eraseB]; rfl
theorem erase_ty (bs : List Bind) : (eraseBs bs).map Bind.ty = (bs.map Bind.ty).map fun _ => zTy := by
  rw [eraseBs_map, List.map_map, List.map_map]
  refine List.map_congr_left fun b _ => ?_
  cases b; rw [Function.comp, Function.comp, eraseB]; rfl
/-- What is left of a round, of what is no application to a type, and no taking of one. -/
theorem asmS_er (clr : Core → List Str → Core) (j : Nat) {sb : Core → Str → Core → Core} {f n : Int} {nm : Str} {t : Ty} {ks : List Core} {bs : List Bind} {al : List Alt} {s : Str} {b : Core} (h67 : ¬ (f = 6 ∨ f = 7)) (hv : ¬ (f = 1 ∧ nm = s))
    (hg : putR (subG clr j) s (eraseR b) (gvN f nm bs) ((ks ++ bs.map Bind.body).map eraseR) = ((putR sb s b (gvN f nm bs) (ks ++ bs.map Bind.body)).1, (putR sb s b (gvN f nm bs) (ks ++ bs.map Bind.body)).2.map eraseR))
    (ha : ∀ a ∈ al, putR (subG clr j) s (eraseR b) a.vars ([a.body].map eraseR) = ((putR sb s b a.vars [a.body]).1, (putR sb s b a.vars [a.body]).2.map eraseR)) :
    eraseR (asmS sb s b (.mk f n nm t ks bs al)) = subG clr (j + 1) (eraseR (.mk f n nm t ks bs al)) s (eraseR b) := by
  have e0 : eraseR (.mk f n nm t ks bs al) = .mk f n nm zTy (eraseCs ks) (eraseBs bs) (eraseAs al) := by rw [eraseR, if_neg fun h => h67 h.1]
  have e1 : ∀ nm' t' ks' bs' al', eraseR (.mk f n nm' t' ks' bs' al') = .mk f n nm' zTy (eraseCs ks') (eraseBs bs') (eraseAs al') := fun _ _ _ _ _ => by rw [eraseR, if_neg fun h => h67 h.1]
  rw [e0, asmS, e1, subG, if_neg (fun h : (Core.mk f n nm zTy (eraseCs ks) (eraseBs bs) (eraseAs al)).form = 1 ∧ (Core.mk f n nm zTy (eraseCs ks) (eraseBs bs) (eraseAs al)).name = s => hv h), if_neg (fun h : (Core.mk f n nm zTy (eraseCs ks) (eraseBs bs) (eraseAs al)).form = 7 ∧ _ => h67 (.inr h.1))]
  dsimp only
  have e2 : eraseCs ks ++ (eraseBs bs).map Bind.body = (ks ++ bs.map Bind.body).map eraseR := by rw [erase_body, eraseCs_map, List.map_append]
  have e3 : (eraseCs ks).length = ks.length := by rw [eraseCs_map, List.length_map]
  have e4 : (eraseAs al).map (fun a => Alt.mk a.form a.n a.name (putR (subG clr j) s (eraseR b) a.vars [a.body]).1 ((putR (subG clr j) s (eraseR b) a.vars [a.body]).2.headD a.body)) = eraseAs (al.map (newA sb s b)) := by
    rw [eraseAs_map, eraseAs_map, List.map_map, List.map_map]
    refine List.map_congr_left fun a ha' => ?_
    have hx := ha a ha'
    obtain ⟨af, an, anm, vs, ab⟩ := a
    have hx : putR (subG clr j) s (eraseR b) vs [eraseR ab] = ((putR sb s b vs [ab]).1, (putR sb s b vs [ab]).2.map eraseR) := hx
    show Alt.mk af an anm (putR (subG clr j) s (eraseR b) vs [eraseR ab]).1 ((putR (subG clr j) s (eraseR b) vs [eraseR ab]).2.headD (eraseR ab)) = Alt.mk af an anm (putR sb s b vs [ab]).1 (eraseR ((putR sb s b vs [ab]).2.headD ab))
    rw [hx]
    cases (putR sb s b vs [ab]).2 <;> rfl
  rw [e2, e3, e4, gvN_erase, hg, erase_ty]
  unfold zNm zKs zBs
  dsimp only
  rw [eraseCs_map, mkB_er, List.map_take, List.map_drop]
end Go.Proofs.YtmoekkcdkjopgaaGreatDoor

/- CORE IN THE PLACE OF A NAME, types among it: some core, of which is left what is put without types. -/
namespace Go.Proofs.YtmoekkcdkjopgaaGreatDoor
open Go Go.AM
set_option maxRecDepth 20000
def SGood (clr : Core → List Str → Core) (K : Nat) (c : Core) (s : Str) (b r : Core) : Prop :=
  ImpC Tryz.prog 25 [.pa (encCore c), Go.AM.T s, .pa (encCore b)] [] (.pa (encCore r)) [] ∧ wfC r = true ∧ allT (TOk K) r ∧ (∀ B, 1 ≤ B → m30 b ≤ 31 * B → m30 r ≤ m30 c * B) ∧ ∀ j, m30 c ≤ j → eraseR r = subG clr j (eraseR c) s (eraseR b)
theorem TOk_z {K : Nat} (h : 31 ≤ K) : TOk K zTy := ⟨by decide, Nat.le_trans (by decide) h⟩
theorem wfC_vC {z : Str} : wfC (vC z) = true := wfC_mk (fun h => by omega) (fun _ => ⟨rfl, rfl, rfl⟩) (fun _ h => by cases h) (fun _ h => by cases h) (fun _ h => by cases h)
theorem er_vC {z : Str} : eraseR (vC z) = vC z := by
  unfold vC
  rw [eraseR, if_neg (fun h => by omega), eraseCs, eraseBs, eraseAs]
open Classical in
theorem e_sub_step (clr : Core → List Str → Core) (hI : ItoaTo 20000000000) {K : Nat} (hK1 : 31 ≤ K) (hK2 : K ≤ 2790) (c : Core) (s : Str) (b : Core) (hc : m30 c ≤ 300000) (hbm : m30 b ≤ 300000) (hw : wfC c = true) (hwb : wfC b = true) (hT : allT (TOk K) c) (hTb : allT (TOk K) b)
    (ih : ∀ x s' b', m30 x < m30 c → wfC x = true → allT (TOk K) x → (b' = b ∨ ∃ z, z.length ≤ 30 ∧ b' = vC z) → ∃ r, SGood clr K x s' b' r) : ∃ r, SGood clr K c s b r := by
  have hcs := csize_m30 c
  have hbs := csize_m30 b
  have hG : ∀ x, allT (TOk K) x → allT TyG x := fun x h => allT_mono (fun t ht => TyG_of hI hK2 ht) x h
  have hpfb := pf_m30 b
  have hpfc := pf_m30 c
  have hfreec := c_pfree (csize c) c (Nat.le_refl _) (by omega)
  have hfreeb := c_pfree (csize b) b (Nat.le_refl _) (by omega)
  have hcTb := cT_le b hTb
  have hbK : m30 b * K ≤ 300000 * 2790 := Nat.mul_le_mul hbm hK2
  have htyb := c_ctypes (csize b) b (Nat.le_refl _) (by omega) (by omega)
  have htlb := ty_len b
  have hTc := hT
  have hTGc := hG c hT
  obtain ⟨f, n, nm, t, ks, bs, al⟩ := c
  obtain ⟨w1, w2, w3, w4⟩ := wfC_un hw
  have w0 := wfC_var hw
  by_cases hv : f = 1 ∧ nm = s
  · refine ⟨b, c_sub_var f n nm t ks bs al s b hv (by omega) (hG b hTb), hwb, hTb, ?_, fun j hj => ?_⟩
    · intro B hB hb'
      exact Nat.le_trans hb' (Nat.mul_le_mul_right _ (m30_pos _))
    · have := m30_pos (.mk f n nm t ks bs al)
      obtain ⟨j, rfl⟩ : ∃ i, j = i + 1 := ⟨j - 1, by omega⟩
      have e0 : eraseR (.mk f n nm t ks bs al) = .mk f n nm zTy (eraseCs ks) (eraseBs bs) (eraseAs al) := by rw [eraseR, if_neg fun h => by omega]
      rw [e0, subG]
      exact (if_pos hv).symm
  rw [allT] at hT
  obtain ⟨t0, t1, t2, t3⟩ := hT
  have hm := hc
  rw [m30] at hm
  have h30 := w30_30 nm
  have hclr : ∃ nm1 ks1, (f = 7 → bs = [] ∧ al = [] ∧ ∃ fl : List Str, ImpC Tryz.prog 67 [.pa (encCore (.mk f n nm t ks bs al))] [] (strsV fl) [] ∧ fl.length ≤ 20000000000 ∧
      (s ∈ fl → ∃ tl : List Str, ImpC Tryz.prog 61 [.pa (encCore b)] [] (strsV tl) [] ∧ ImpC Tryz.prog 62 [.one (.vp 700 0), strsV tl] (gHl f n nm t ks [] []) (.tup []) (gHl f n nm1 t ks1 [] [])) ∧
      (¬ s ∈ fl → nm1 = nm ∧ ks1 = ks)) ∧ (f ≠ 7 → nm1 = nm ∧ ks1 = ks) ∧ ks1.length = ks.length ∧ w30 nm1 ≤ w30 nm ∧ ks1.map skT = ks.map skT ∧
      ∀ x ∈ ks1, ∃ y ∈ ks, m30 x ≤ m30 y ∧ skT x = skT y ∧ allT (TOk K) x := by
    by_cases h7 : f = 7
    · subst h7
      obtain ⟨⟨kid, rfl⟩, rfl, rfl⟩ := w1 (.inr (.inr rfl))
      have hkT : allT (TOk K) kid := allTs_iff.1 t1 kid List.mem_cons_self
      have hkw : wfC kid = true := w2 kid List.mem_cons_self
      have hkm : m30 kid ≤ 300000 := by
        rw [m30s, m30s] at hm; omega
      by_cases hsf : s ∈ pfR (.mk 7 n nm t [kid] [] [])
      · by_cases hnf : nm ∈ tyR b
        · have hk1 := csize_m30 kid
          have hk2 := cT_le kid hkT
          have hk3 : m30 kid * K ≤ 300000 * 2790 := Nat.mul_le_mul (by omega) hK2
          have hk4 := ty_len kid
          have hkty := c_ctypes (csize kid) kid (Nat.le_refl _) (by omega) (by omega)
          have hz : (freshR (tyR b ++ tyR kid)).length ≤ 21 := fresh_len _ (by rw [List.length_append]; omega)
          obtain ⟨kid', c1, c2, c3, c4⟩ := e_sT hI hK2 (m30 kid) kid (Nat.le_refl _) hkm hkw hkT nm 1 (vT (freshR (tyR b ++ tyR kid))) (ByOk.var hz)
          rw [Nat.mul_one] at c4
          refine ⟨freshR (tyR b ++ tyR kid), [kid'], fun _ => ⟨rfl, rfl, _, hfreec, by omega, fun _ => ⟨_, htyb, c_clearY n nm t kid kid' (tyR b) (by omega) hnf hI hkty (by omega) c1⟩, fun h => absurd hsf h⟩, fun h => absurd rfl h, rfl, w30_z (by omega), by simp [c2], fun x hx => ?_⟩
          rw [List.mem_singleton.1 hx]
          exact ⟨kid, List.mem_cons_self, c3, c2, c4⟩
        · refine ⟨nm, [kid], fun _ => ⟨rfl, rfl, _, hfreec, by omega, fun _ => ⟨_, htyb, c_clearN n nm t kid (tyR b) (by omega) hnf⟩, fun h => absurd hsf h⟩, fun _ => ⟨rfl, rfl⟩, rfl, Nat.le_refl _, rfl, fun x hx => ⟨x, hx, Nat.le_refl _, rfl, ?_⟩⟩
          rw [List.mem_singleton.1 hx]; exact hkT
      · refine ⟨nm, [kid], fun _ => ⟨rfl, rfl, _, hfreec, by omega, fun h => absurd h hsf, fun _ => ⟨rfl, rfl⟩⟩, fun _ => ⟨rfl, rfl⟩, rfl, Nat.le_refl _, rfl, fun x hx => ⟨x, hx, Nat.le_refl _, rfl, ?_⟩⟩
        rw [List.mem_singleton.1 hx]; exact hkT
    · exact ⟨nm, ks, fun h => absurd h h7, fun _ => ⟨rfl, rfl⟩, rfl, Nat.le_refl _, rfl, fun x hx => ⟨x, hx, Nat.le_refl _, rfl, allTs_iff.1 t1 x hx⟩⟩
  obtain ⟨nm1, ks1, q1, q2, q3, q4, q5, q6⟩ := hclr
  let P : Core → Prop := fun x => m30 x < m30 (.mk f n nm t ks bs al) ∧ wfC x = true ∧ allT (TOk K) x
  have hP1 : ∀ x ∈ ks1, P x := fun x hx => by
    obtain ⟨y, hy, e1, e2, e3⟩ := q6 x hx
    have := m30s_mem hy
    refine ⟨by rw [m30]; omega, ?_, e3⟩
    rw [← wf_sk, e2, wf_sk]; exact w2 y hy
  have hP2 : ∀ x ∈ bs, P x.body := fun x hx => by
    have := m30b_mem hx
    exact ⟨by rw [m30]; omega, w3 x hx, (allTb_iff.1 t2 x hx).2⟩
  have hP3 : ∀ x ∈ al, P x.body := fun x hx => by
    have := m30a_mem hx
    exact ⟨by rw [m30]; omega, w4 x hx, allTa_iff.1 t3 x hx⟩
  have hPs : ∀ p ∈ ks1 ++ bs.map Bind.body, P p := fun p hp => by
    rcases List.mem_append.1 hp with hp | hp
    · exact hP1 p hp
    · obtain ⟨x, hx, rfl⟩ := List.mem_map.1 hp
      exact hP2 x hx
  have hsb : ∃ sb : Core → Str → Core → Core, ∀ x s' b', P x → (b' = b ∨ ∃ z, z.length ≤ 30 ∧ b' = vC z) → SGood clr K x s' b' (sb x s' b') :=
    ⟨fun x s' b' => if h : ∃ r, SGood clr K x s' b' r then Classical.choose h else x, fun x s' b' hx hb' => by
      have h := ih x s' b' hx.1 hx.2.1 hx.2.2 hb'
      dsimp only
      rw [dif_pos h]; exact Classical.choose_spec h⟩
  obtain ⟨sb, hsb⟩ := hsb
  have hz : ∀ p m z, P p → z.length ≤ 30 → P (sb p m (vC z)) ∧ m30 (sb p m (vC z)) ≤ m30 p := fun p m z hp hz => by
    obtain ⟨_, g2, g3, g4, _⟩ := hsb p m (vC z) hp (.inr ⟨z, hz, rfl⟩)
    have g4 := g4 1 (Nat.le_refl _) (by rw [m30_vC hz]; exact Nat.le_refl _)
    rw [Nat.mul_one] at g4
    exact ⟨⟨Nat.lt_of_le_of_lt g4 hp.1, g2, g3⟩, g4⟩
  have hfree : ∀ p, P p → ImpC Tryz.prog 67 [.pa (encCore p)] [] (strsV (pfR p)) [] := fun p hp => c_pfree (csize p) p (Nat.le_refl _) (by have := csize_m30 p; have := hp.1; omega)
  have hok : ∀ ps, (∀ p ∈ ps, P p) → PutOk sb P s b ps := fun ps hps => ⟨hps, fun p hp => hfree p (hps p hp), hfreeb, fun p m z hp hzl => (hz p m z hp hzl).1, fun p m z hp hzl => (hsb p m (vC z) hp (.inr ⟨z, hzl, rfl⟩)).1, fun p hp => (hsb p s b hp (.inl rfl)).1, hI⟩
  have hmk : m30s ks1 ≤ m30s ks := by
    by_cases h7 : f = 7
    · obtain ⟨⟨kid, rfl⟩, _⟩ := w1 (.inr (.inr h7))
      obtain ⟨k1, rfl⟩ := List.length_eq_one_iff.1 q3
      obtain ⟨y, hy, e, _⟩ := q6 k1 List.mem_cons_self
      rw [List.mem_singleton.1 hy] at e
      rw [m30s, m30s, m30s, m30s]; omega
    · rw [(q2 h7).2]; exact Nat.le_refl _
  have w1' : f = 5 ∨ f = 6 ∨ f = 7 → (∃ k, ks1 = [k]) ∧ bs = [] ∧ al = [] := fun hf => by
    obtain ⟨⟨k, rfl⟩, e2, e3⟩ := w1 hf
    exact ⟨List.length_eq_one_iff.1 q3, e2, e3⟩
  have w0' : f = 1 → ks1 = [] ∧ bs = [] ∧ al = [] := fun hf => by
    obtain ⟨rfl, e2, e3⟩ := w0 hf
    exact ⟨List.length_eq_zero_iff.1 q3, e2, e3⟩
  have hfm := fm_m30 (ks1 ++ bs.map Bind.body)
  rw [m30s_app] at hfm
  have hbsb := m30s_bs bs
  have hksl := m30s_len ks1
  have hgv := gvN_len (f := f) (nm := nm1) (bs := bs)
  have hla : ∀ a ∈ al, (pfR a.body).length + 2 * a.vars.length + (pfR b).length + 1 ≤ 20000000000 := fun a ha => by
    have h1 := m30a_mem ha
    have h2 := sum_len a.vars
    have h3 := pf_m30 a.body
    omega
  have hM : ((ks1 ++ bs.map Bind.body).flatMap pfR).length + 2 * (1 + bs.length) + (pfR b).length + (ks1.length + bs.length) ≤ 20000000000 := by omega
  have hQ : ∀ p, P p → wfC p = true ∧ allT (TOk K) p := fun p hp => hp.2
  have hS : ∀ B, 1 ≤ B → m30 b ≤ 31 * B → ∀ p, P p → wfC (sb p s b) = true ∧ allT (TOk K) (sb p s b) ∧ m30 (sb p s b) ≤ m30 p * B := fun B hB hbB p hp => by
    obtain ⟨_, g2, g3, g4, _⟩ := hsb p s b hp (.inl rfl)
    exact ⟨g2, g3, g4 B hB hbB⟩
  have hcom : ∀ j, m30 (.mk f n nm t ks bs al) ≤ j + 1 → ∀ (ns : List Str) (ps : List Core), (∀ p ∈ ps, P p) → (ps.flatMap pfR).length + 2 * ns.length + (pfR b).length ≤ 20000000000 →
      putR (subG clr j) s (eraseR b) ns (ps.map eraseR) = ((putR sb s b ns ps).1, (putR sb s b ns ps).2.map eraseR) := fun j hj ns ps hps hl =>
    putR_comm (P := P) (fun p m z hp hzl => by
      obtain ⟨_, _, _, _, g5⟩ := hsb p m (vC z) hp (.inr ⟨z, hzl, rfl⟩)
      have g5 := g5 j (by have := hp.1; omega)
      rw [er_vC] at g5
      exact ⟨(hz p m z hp hzl).1, g5⟩) (fun p hp => pf_er hp.2.1) (pf_er hwb) (fun p hp => (hsb p s b hp (.inl rfl)).2.2.2.2 j (by have := hp.1; omega)) hps hl
  have hkeep : ∀ B, 1 ≤ B → m30 b ≤ 31 * B → wfC (asmS sb s b (.mk f n nm1 t ks1 bs al)) = true ∧ allT (TOk K) (asmS sb s b (.mk f n nm1 t ks1 bs al)) ∧ m30 (asmS sb s b (.mk f n nm1 t ks1 bs al)) ≤ m30 (.mk f n nm1 t ks1 bs al) * B := fun B hB hbB => by
    have hg := putR_PK (T := TOk K) (ns := gvN f nm1 bs) hB hPs hz hQ (hS B hB hbB) (by omega)
    have hga : ∀ a ∈ al, PK B (TOk K) a.vars [a.body] (putR sb s b a.vars [a.body]) := fun a ha => putR_PK hB (fun p hp => by rw [List.mem_singleton.1 hp]; exact hP3 a ha) hz hQ (hS B hB hbB) (by
      have := hla a ha
      simp only [List.flatMap_cons, List.flatMap_nil, List.append_nil]
      omega)
    exact asmS_keep (n := n) hB hg hga t0 (fun x hx => (allTb_iff.1 t2 x hx).1) w1' w0'
  obtain ⟨r1, r2, _⟩ := hkeep (m30 b) (by have := m30_pos b; omega) (by omega)
  refine ⟨_, c_sub_walk sb P f n nm nm1 t ks ks1 bs al s b (by omega) hTGc hv q3 (fun hf => w1' (.inl hf)) q1 q2 (hok _ hPs) (fun a ha => hok _ fun p hp => by rw [List.mem_singleton.1 hp]; exact hP3 a ha) hM hla, r1, r2, fun B hB hbB => ?_, fun j hj => ?_⟩
  · refine Nat.le_trans (hkeep B hB hbB).2.2 (Nat.mul_le_mul_right _ ?_)
    rw [m30, m30]; omega
  · have := m30_pos (.mk f n nm t ks bs al)
    obtain ⟨j, rfl⟩ : ∃ i, j = i + 1 := ⟨j - 1, by omega⟩
    by_cases h67 : f = 6 ∨ f = 7
    · obtain ⟨⟨k1, rfl⟩, rfl, rfl⟩ := w1' (.inr h67)
      obtain ⟨⟨k, rfl⟩, _, _⟩ := w1 (.inr h67)
      have hk : skT k1 = skT k := by simpa using q5
      have hPk := hP1 k1 List.mem_cons_self
      have hkw := w2 k List.mem_cons_self
      have e1 : eraseR k1 = eraseR k := by rw [← erase_sk k1 hPk.2.1, hk, erase_sk k hkw]
      have e2 : eraseR (.mk f n nm t [k] [] []) = eraseR k := by rw [eraseR, if_pos ⟨h67, by simp⟩, eraseCs]; rfl
      have hgn : gvN f nm1 [] = [] := by unfold gvN; rw [if_neg (by omega)]; rfl
      have e3 : ∀ q, eraseR (.mk f n nm1 t [q] [] []) = eraseR q := fun q => by rw [eraseR, if_pos ⟨h67, by simp⟩, eraseCs]; rfl
      have e4 : asmS sb s b (.mk f n nm1 t [k1] [] []) = .mk f n nm1 t ((putR sb s b [] [k1]).2.take 1) [] [] := by
        rw [asmS]
        unfold zNm zKs zBs
        rw [hgn, if_neg (by omega)]
        rfl
      rw [e4, e2]
      by_cases hin : s ∈ pfR k1
      · have e5 : putR sb s b [] [k1] = ([], [sb k1 s b]) := by
          unfold putR
          rw [if_pos ⟨by simpa using hin, by simp⟩]
          rfl
        rw [e5]
        show eraseR (.mk f n nm1 t [sb k1 s b] [] []) = _
        rw [e3, ← e1]
        exact (hsb k1 s b hPk (.inl rfl)).2.2.2.2 (j + 1) (by have := hPk.1; omega)
      · have e5 : putR sb s b [] [k1] = ([], [k1]) := by
          unfold putR
          rw [if_neg]
          exact fun h => hin (by simpa using h.1)
        rw [e5]
        show eraseR (.mk f n nm1 t [k1] [] []) = _
        obtain ⟨v1, _, v3⟩ := wf_er k hkw
        rw [e3, e1, subG_id clr j (eraseR k) s (eraseR b) v1 v3 (by rw [← e1, pf_er hPk.2.1]; exact hin)]
    · obtain ⟨rfl, rfl⟩ := q2 fun h => h67 (.inr h)
      exact asmS_er clr j h67 hv (hcom j hj _ _ hPs (by omega)) fun a ha => hcom j hj _ _ (fun p hp => by rw [List.mem_singleton.1 hp]; exact hP3 a ha) (by
        have := hla a ha
        simp only [List.flatMap_cons, List.flatMap_nil, List.append_nil]
        omega)
/-- core.Subst: some core, of which is left what is put without types. -/
theorem e_sub (clr : Core → List Str → Core) (hI : ItoaTo 20000000000) {K : Nat} (hK1 : 31 ≤ K) (hK2 : K ≤ 2790) : ∀ (m : Nat) (c : Core) (s : Str) (b : Core), m30 c ≤ m → m30 c ≤ 300000 → m30 b ≤ 300000 → wfC c = true → wfC b = true → allT (TOk K) c → allT (TOk K) b → ∃ r, SGood clr K c s b r
  | 0, c, _, _, h, _, _, _, _, _, _ => by have := m30_pos c; omega
  | m + 1, c, s, b, h, hc, hb, hw, hwb, hT, hTb => e_sub_step clr hI hK1 hK2 c s b hc hb hw hwb hT hTb fun x s' b' hx hxw hxT hb' => by
    rcases hb' with rfl | ⟨z, hz, rfl⟩
    · exact e_sub clr hI hK1 hK2 m x s' b' (by omega) (by omega) hb hxw hwb hxT hTb
    · exact e_sub clr hI hK1 hK2 m x s' (vC z) (by omega) (by omega) (by rw [m30_vC hz]; omega) hxw wfC_vC hxT (allT_vC (TOk_z hK1))
end Go.Proofs.YtmoekkcdkjopgaaGreatDoor

/- CORE THAT IS THE SAME AS ITSELF (core.Same), without types (1): names put together, places, types that are none. -/
namespace Go.Proofs.YtmoekkcdkjopgaaGreatDoor
open Go Go.AM Go.Shelf
set_option maxRecDepth 20000
def gr8 : Ren := ⟨fun f => if f = 4 then 192 else f, fun t => if t = 22 then 76 else if t = 25 then 9 else t, fun g => g⟩
theorem gl8 : Lays8.n4 Tryz.prog gr8 where
  mixed := mixed
  f4 := ⟨Tryz.f192.name, by kernel_rfl, by kernel_rfl⟩
  t0 := by kernel_rfl
  a0 := fun w => by kernel_rfl
  z0 := fun w => by kernel_rfl
  v0 := fun w => by kernel_rfl
  t3 := by kernel_rfl
  a3 := fun w => by kernel_rfl
  z3 := fun w => by kernel_rfl
  v3 := fun w => by kernel_rfl
  t4 := by kernel_rfl
  a4 := fun w => by kernel_rfl
  z4 := fun w => by kernel_rfl
  v4 := fun w => by kernel_rfl
  t9 := by kernel_rfl
  a9 := fun w => by kernel_rfl
  z9 := fun w => by kernel_rfl
  v9 := fun w => by kernel_rfl
  t20 := by kernel_rfl
  a20 := fun w => by kernel_rfl
  z20 := fun w => by kernel_rfl
  v20 := fun w => by kernel_rfl
  t22 := by kernel_rfl
  a22 := fun w => by kernel_rfl
  z22 := fun w => by kernel_rfl
  v22 := fun w => by kernel_rfl
theorem c_grow (k : Nat) (h : k ≤ 4000000) : ImpC Tryz.prog 192 [.one (.c .nl), I .i64 (k : Int)] [] (.one (.hs 720 0 0 0)) [(720, .arr 9 1 [] 0)] :=
  grow_nil (ρ := gr8) (ei := ⟨.str, 1, 16, [.str []]⟩) gl8 tok (tg rfl) rfl k (by show k * 16 ≤ _; omega) (by omega)
/-- Two lists of texts. -/
theorem c_concat (a b : List Str) (h : a.length + b.length ≤ 4000000) : ImpC Tryz.prog 177 [.one (.c (.sl 1 [[.sl 1 (a.map encS)], [.sl 1 (b.map encS)]]))] [] (strsV (a ++ b)) [] := by
  have hg := c_grow (a.length + b.length) h
  have hla : (a.map encS).length = a.length := List.length_map _
  have hlb : (b.map encS).length = b.length := List.length_map _
  refine impC (n := 36) tok Tryz.func177 rfl rfl rfl ?_
  refine awp_seq (ag [] rfl ?_)
  refine awp_seq (ag [] rfl ?_)
  refine awp_seq (awp_seq (ag [] rfl ?_))
  refine awp_block ?_
  refine awp_loop (fun i : Nat => mk [(0, .one (.c (.sl 1 [[.sl 1 (a.map encS)], [.sl 1 (b.map encS)]]))), (3, I .i64 ((if i = 0 then 0 else if i = 1 then a.length else a.length + b.length : Nat) : Int)), (9, .one (.c (.sl 1 [[.sl 1 (a.map encS)], [.sl 1 (b.map encS)]]))), (10, I .i64 2), (11, I .i64 i)] []) (fun i => i ≤ 2) (fun i => 2 - i) 0 (Nat.zero_le _) sl ?_
  intro i hi
  refine awp_seq (ag [] rfl ?_)
  refine awp_seq (awp_cond rfl (fun hb => ?_) (fun hb => ?_))
  · have hlt : i < 2 := by
      have : (i : Int) < 2 := of_decide_eq_true hb
      omega
    refine awp_skip ?_
    refine awp_seq (awp_block ?_)
    have hi2 : i = 0 ∨ i = 1 := by omega
    rcases hi2 with rfl | rfl
    · refine awp_seq (ag [] rfl ?_)
      refine awp_seq (agN [] rfl ?_)
      refine awp_seq (ag [] rfl ?_)
      refine awp_cond rfl (fun hb => ?_) (fun _ => ?_)
      · exfalso
        have : ((0 + (a.map encS).length : Nat) : Int) < 0 := of_decide_eq_true hb
        omega
      refine awp_skip ?_
      refine ag [] rfl ?_
      refine ⟨1, by omega, by dsimp only; omega, sl (he := ⟨rfl, ?_, rfl, rfl, rfl, trivial⟩)⟩
      show some (I .i64 ((0 + (a.map encS).length : Nat) : Int)) = some (I .i64 ((a.length : Nat) : Int))
      rw [hla, Nat.zero_add]
    · refine awp_seq (ag [] rfl ?_)
      refine awp_seq (agN [] rfl ?_)
      refine awp_seq (ag [] rfl ?_)
      refine awp_cond rfl (fun hb => ?_) (fun _ => ?_)
      · exfalso
        have : ((a.length + (b.map encS).length : Nat) : Int) < 0 := of_decide_eq_true hb
        omega
      refine awp_skip ?_
      refine ag [] rfl ?_
      refine ⟨2, by omega, by dsimp only; omega, sl (he := ⟨rfl, ?_, rfl, rfl, rfl, trivial⟩)⟩
      show some (I .i64 ((a.length + (b.map encS).length : Nat) : Int)) = some (I .i64 ((a.length + b.length : Nat) : Int))
      rw [hlb]
  have hge : i = 2 := by
    have : ¬ (i : Int) < 2 := of_decide_eq_false hb
    omega
  subst hge
  refine awp_exit ?_
  refine awp_seq (awp_rg mixed ?_)
  refine ak 1 [] rfl ?_
  refine kc hg ?_
  refine ak 1 [] rfl ?_
  refine az ?_
  refine awp_seq (awp_seq (ag [] rfl ?_))
  refine awp_block ?_
  refine awp_loop (fun i : Nat => mk [(6, .one (.hs 720 0 (if i = 0 then 0 else if i = 1 then a.length else a.length + b.length) (if i = 0 then 0 else if i = 1 then a.length else a.length + b.length))), (25, .one (.c (.sl 1 [[.sl 1 (a.map encS)], [.sl 1 (b.map encS)]]))), (26, I .i64 2), (27, I .i64 i)] [(720, .arr 9 1 (if i = 0 then [] else if i = 1 then a.map encS else a.map encS ++ b.map encS) 0)]) (fun i => i ≤ 2) (fun i => 2 - i) 0 (Nat.zero_le _) sl ?_
  intro i hi
  refine awp_seq (ag [] rfl ?_)
  refine awp_seq (awp_cond rfl (fun hb => ?_) (fun hb => ?_))
  · have hlt : i < 2 := by
      have : (i : Int) < 2 := of_decide_eq_true hb
      omega
    refine awp_skip ?_
    refine awp_seq (awp_block ?_)
    have hi2 : i = 0 ∨ i = 1 := by omega
    rcases hi2 with rfl | rfl
    · refine awp_seq (ag [] rfl ?_)
      refine ag [] rfl ?_
      refine ag [] rfl ?_
      exact ⟨1, by omega, by dsimp only; omega, sl⟩
    · refine awp_seq (ag [] rfl ?_)
      refine ag [] rfl ?_
      refine ag [] rfl ?_
      exact ⟨2, by omega, by dsimp only; omega, sl⟩
  have hge : i = 2 := by
    have : ¬ (i : Int) < 2 := of_decide_eq_false hb
    omega
  subst hge
  refine awp_exit ?_
  refine awp_seq (ag [] rfl ?_)
  refine AWp.sub (Sub.freeze (id := 720) rfl) ?_
  exact awp_ret (rtT (hc := hs_all rfl rfl (by simp) (by simp)))
/-- Names that are given from the outside on; no types' variables. -/
def gvV (ns : List Str) : V := .pa [.sl 1 (ns.map encS), .sl 1 []]
def plF (ns : List Str) (s : Str) : Nat → Nat → Int
  | 0, _ => -1
  | m + 1, i => if ns[ns.length - 1 - i]? = some s then ((ns.length - 1 - i : Nat) : Int) else plF ns s m (i + 1)
theorem c_place (ns : List Str) (s : Str) (h : ns.length ≤ 1000000000) : ImpC Tryz.prog 135 [gvV ns, Go.AM.T s] [] (I .i64 (plF ns s ns.length 0)) [] := by
  have hk : (ns.map encS).length = ns.length := List.length_map _
  refine impC (n := 28) tok Tryz.func135 rfl rfl rfl ?_
  refine awp_seq (ag [] rfl ?_)
  refine awp_seq (awp_seq (ag [] rfl ?_))
  refine awp_block ?_
  refine awp_loop (fun i : Nat => mk [(1, Go.AM.T s), (2, .one (.vp 2 0)), (9, I .i64 ((ns.map encS).length : Int)), (10, I .i64 i)] [(2, .var 131 [.c (.sl 1 (ns.map encS)), .c (.sl 1 [])])]) (fun i => i ≤ ns.length ∧ plF ns s ns.length 0 = plF ns s (ns.length - i) i) (fun i => ns.length - i) 0 ⟨Nat.zero_le _, rfl⟩ sl ?_
  intro i hi
  obtain ⟨hi, he⟩ := hi
  refine awp_seq (ag [] rfl ?_)
  refine awp_seq (awp_cond rfl (fun hb => ?_) (fun hb => ?_))
  · have hlt := ltD hb hk
    have hix : ns.length - 1 - i < ns.length := by omega
    obtain ⟨n, hn⟩ := get_of_lt hix
    have hn' := getEnc encS hn
    have hr : ns.length - i = (ns.length - (i + 1)) + 1 := by omega
    rw [hr, plF, hn] at he
    refine awp_skip ?_
    refine awp_seq (awp_block (awp_seq (ag [] rfl ?_)))
    refine awp_seq (ag [] rfl ?_)
    have e0 : (((ns.map encS).length : Int) - 1) - (i : Int) = ((ns.length - 1 - i : Nat) : Int) := by rw [hk]; omega
    refine AWp.sub (st2 := mk [(1, Go.AM.T s), (2, .one (.vp 2 0)), (6, I .i64 ((ns.length - 1 - i : Nat) : Int)), (9, I .i64 ((ns.map encS).length : Int)), (10, I .i64 i)] [(2, .var 131 [.c (.sl 1 (ns.map encS)), .c (.sl 1 [])])]) (sl (he := ⟨rfl, rfl, congrArg (fun x => some (I .i64 x)) e0, rfl, rfl, trivial⟩)) ?_
    refine awp_seq (ag [(3, .row (ns.length - 1 - i) (encS n))] rfl ?_)
    refine awp_cond rfl (fun hb => ?_) (fun hb => ?_)
    · have hns : n = s := of_decide_eq_true hb
      rw [if_pos (by rw [hns])] at he
      rw [he]
      refine awp_seq (ag [] rfl ?_)
      exact awp_ret rtT
    · have hns : ¬ n = s := of_decide_eq_false hb
      rw [if_neg (fun h => hns (by simpa using h))] at he
      refine awp_skip ?_
      refine ag [] rfl ?_
      exact ⟨i + 1, ⟨hlt, he⟩, by dsimp only; omega, sl⟩
  have hge := geD hb hk hi
  subst hge
  rw [he, Nat.sub_self, plF]
  refine awp_exit ?_
  refine awp_seq (ag [] rfl ?_)
  exact awp_ret rtT
theorem c_closed (t : Ty) (ns : List Str) : ImpC Tryz.prog 134 [gvV ns, tyV t] [] (tyV t) [] := by
  refine impC (n := 26) tok Tryz.func134 rfl rfl rfl ?_
  refine awp_seq (ag [] rfl ?_)
  refine awp_seq (awp_seq (ag [] rfl ?_))
  refine awp_block ?_
  refine awp_loop (fun _ : Unit => mk [(3, .one (.vp 3 0)), (4, .one (.vp 4 0)), (8, I .i64 0), (9, I .i64 0)] [(3, .var 33 ((encTy t).map R.c)), (4, .var 33 [.c (.int .i64 0), .c (.int .i64 0), .c (.str []), .c .nl])]) (fun _ => True) (fun _ => 0) () trivial sl ?_
  intro _ _
  refine awp_seq (ag [] rfl ?_)
  refine awp_seq (awp_cond rfl (fun hb => by cases hb) (fun _ => ?_))
  refine awp_exit ?_
  refine awp_seq (ag [] rfl ?_)
  exact awp_ret (rtC trw)
theorem c_with (ns : List Str) (L : List (Str × List C)) (h : ns.length + L.length ≤ 1000000000) : ImpC Tryz.prog 136 [gvV ns, .one (.c (.sl 1 (L.map nrow))), strsV []] [] (gvV (ns ++ L.map (·.1))) [] := by
  have hcl := c_clone_string (ns.map encS) (by rw [List.length_map]; omega)
  have hco := c_concat [] [] (by decide)
  have hkL : (L.map nrow).length = L.length := List.length_map _
  have hkn : (ns.map encS).length = ns.length := List.length_map _
  refine impC (n := 35) tok Tryz.func136 rfl rfl rfl ?_
  refine awp_seq (ag [] rfl ?_)
  refine awp_seq (awp_rg mixed ?_)
  refine ak 2 [] rfl ?_
  refine kc hcl ?_
  refine ak 4 [(6, .all)] rfl ?_
  refine kc hco ?_
  refine ak 4 [] rfl ?_
  refine az ?_
  refine awp_seq (awp_seq (ag [] rfl ?_))
  refine awp_block ?_
  refine awp_loop (fun i : Nat => mk [(3, .one (.vp 3 0)), (6, .one (.vp 6 0)), (19, .one (.c (.sl 1 (L.map nrow)))), (20, I .i64 ((L.map nrow).length : Int)), (21, I .i64 i)] [(3, .var 131 [.hs 710 0 ((ns.map encS).length + i) ((ns.map encS).length + i), .c (.sl 1 [])]), (6, .var 131 [.c .nl, .c .nl]), (710, .arr 9 1 (ns.map encS ++ (L.take i).map fun p => encS p.1) 0)]) (fun i => i ≤ L.length) (fun i => L.length - i) 0 (Nat.zero_le _) ?_ ?_
  · exact sl (hh := ⟨⟨_, rfl, .var rfl⟩, ⟨_, rfl, .var rfl⟩, ⟨_, rfl, .arrS (by simp)⟩, trivial⟩)
  · intro i hi
    refine awp_seq (ag [] rfl ?_)
    refine awp_seq (awp_cond rfl (fun hb => ?_) (fun hb => ?_))
    · have hlt := ltD hb hkL
      obtain ⟨p, hp⟩ := get_of_lt hlt
      have hp' := getEnc nrow hp
      have hrow : ns.map encS ++ (L.take i).map (fun p => encS p.1) ++ [encS p.1] = ns.map encS ++ (L.take (i + 1)).map (fun p => encS p.1) := by rw [take_step hp, List.map_append, List.append_assoc]; rfl
      have hln : (ns.map encS ++ (L.take i).map (fun p => encS p.1)).length = (ns.map encS).length + i := by simp; omega
      refine awp_skip ?_
      refine awp_seq (awp_block (awp_seq (ag [(0, .row i (nrow p))] rfl ?_)))
      refine ag [] rfl ?_
      refine ag [] rfl ?_
      exact ⟨i + 1, hlt, by dsimp only; omega, sl (hh := ⟨⟨_, rfl, .varS (by rw [hln]; rfl)⟩, ⟨_, rfl, .var rfl⟩, ⟨_, rfl, .arrS hrow⟩, trivial⟩)⟩
    have hge := geD hb hkL hi
    subst hge
    rw [List.take_length]
    have hln : (ns.map encS).length + L.length = (ns.map encS ++ L.map (fun p => encS p.1)).length := by simp
    have hres : gvV (ns ++ L.map (·.1)) = .pa [.sl 1 (ns.map encS ++ L.map (fun p => encS p.1)), .sl 1 []] := by unfold gvV; rw [List.map_append, List.map_map]; rfl
    rw [hres]
    refine awp_exit ?_
    refine AWp.sub (Sub.freeze (id := 710) rfl) ?_
    refine AWp.sub (Sub.varPure (x := 3) rfl (.hs rfl hln (by rw [List.drop_zero, hln, List.take_length]) (.c .refl .nil))) ?_
    refine awp_seq (ag [] rfl ?_)
    exact awp_ret (rtC trw)
end Go.Proofs.YtmoekkcdkjopgaaGreatDoor

/- CORE THAT IS THE SAME AS ITSELF (core.Same), without types (2): the walk. -/
namespace Go.Proofs.YtmoekkcdkjopgaaGreatDoor
open Go Go.AM
set_option maxRecDepth 20000
/-- Two types that are none. -/
theorem c_tsame0 : ImpC Tryz.prog 176 [tyV zTy, tyV zTy, strsV [], strsV []] [] (B true) [] := by
  refine impC (n := 116) tok Tryz.func176 rfl rfl rfl ?_
  refine awp_seq (ag [] rfl ?_)
  refine awp_seq (awp_seq (ag [(5, .bv false), (11, .bv false), (12, .bv false), (20, .bv false)] rfl ?_))
  refine awp_cond rfl (fun hb => by simp at hb) (fun _ => ?_)
  refine awp_skip ?_
  refine awp_seq (awp_seq (ag [] rfl ?_))
  refine awp_block ?_
  refine awp_seq (ag [] rfl ?_)
  refine awp_cond rfl (fun hb => by cases hb) (fun _ => ?_)
  refine awp_seq (ag [] rfl ?_)
  refine awp_cond rfl (fun hb => by cases hb) (fun _ => ?_)
  refine awp_skip ?_
  refine awp_seq (awp_seq (ag [] rfl ?_))
  refine awp_cond rfl (fun hb => by cases hb) (fun _ => ?_)
  refine awp_skip ?_
  refine awp_seq (awp_seq (ag [] rfl ?_))
  refine awp_block ?_
  refine awp_loop (fun _ : Unit => mk [(97, I .i64 0), (98, I .i64 0)] []) (fun _ => True) (fun _ => 0) () trivial sl ?_
  intro _ _
  refine awp_seq (ag [] rfl ?_)
  refine awp_seq (awp_cond rfl (fun hb => by cases hb) (fun _ => ?_))
  refine awp_exit ?_
  refine awp_seq (ag [] rfl ?_)
  exact awp_ret rtT
theorem c_tSame0 : ImpC Tryz.prog 133 [tyV zTy, tyV zTy] [] (B true) [] := by
  have h := c_tsame0
  refine impC (n := 8) tok Tryz.func133 rfl rfl rfl ?_
  refine awp_seq (ag [] rfl ?_)
  refine awp_seq (awp_rg mixed ?_)
  refine ak 2 [] rfl ?_
  refine kc h ?_
  refine ak 1 [] rfl ?_
  refine az ?_
  exact awp_ret rtT
def gvO (ns : List Str) : AObj := .var 131 [.c (.sl 1 (ns.map encS)), .c (.sl 1 [])]
theorem c_alike (ns : List Str) : ImpC Tryz.prog 132 ([tyV zTy, tyV zTy] ++ ([.vp 6 0, .vp 7 0] : List R).map V.one) [(6, gvO ns), (7, gvO ns)] (B true) [(6, gvO ns), (7, gvO ns)] := by
  have hcl := c_closed zTy ns
  have hs := c_tSame0
  refine impC (n := 14) tok Tryz.func132 rfl rfl rfl ?_
  refine awp_seq (ag [] rfl ?_)
  refine awp_seq (awp_rg mixed ?_)
  refine ak 2 [] rfl ?_
  refine kc hcl ?_
  refine ak 2 [] rfl ?_
  refine kc hcl ?_
  refine kc hs ?_
  refine ak 1 [] rfl ?_
  refine az ?_
  exact awp_ret rtT
theorem gm_mem {c : Core} {g : List (Str × List C) × List Core} (hg : g ∈ gm c) {x : Core} (hx : x ∈ g.2) : x ∈ c.kids ∨ (∃ b ∈ c.binds, x = b.body) ∨ ∃ a ∈ c.alts, x = a.body := by
  unfold gm at hg
  rcases List.mem_cons.1 hg with rfl | hg
  · rcases List.mem_append.1 hx with hx | hx
    · exact .inl hx
    · obtain ⟨b, hb, rfl⟩ := List.mem_map.1 hx
      exact .inr (.inl ⟨b, hb, rfl⟩)
  · obtain ⟨a, ha, rfl⟩ := List.mem_map.1 hg
    exact .inr (.inr ⟨a, ha, List.mem_singleton.1 hx⟩)
theorem bsizes_ge : ∀ l : List Bind, csizes (l.map Bind.body) + l.length ≤ bsizes l
  | [] => by rw [List.map_nil, csizes]; exact Nat.zero_le _
  | .mk s t c :: l => by
    rw [List.map_cons, csizes, bsizes, bsize, List.length_cons]
    have := bsizes_ge l
    show csize c + _ + _ ≤ _
    omega
theorem vs_ge : ∀ l : List Str, l.length ≤ (l.map fun v => 1 + v.length).sum
  | [] => Nat.zero_le _
  | v :: l => by
    simp only [List.map_cons, List.sum_cons, List.length_cons]
    have := vs_ge l
    omega
theorem csizes_in : ∀ {l : List Core} {x : Core}, x ∈ l → csize x ≤ csizes l
  | c :: l, x, h => by
    rw [csizes]
    rcases List.mem_cons.1 h with rfl | h
    · omega
    · have := csizes_in h; omega
theorem asizes_in : ∀ {l : List Alt} {a : Alt}, a ∈ l → csize a.body + a.vars.length ≤ asizes l
  | .mk f n s v c :: l, a, h => by
    rw [asizes, asize]
    have := vs_ge v
    rcases List.mem_cons.1 h with rfl | h
    · show csize c + v.length ≤ _
      omega
    · have := asizes_in h; omega
theorem gm_sz {c : Core} {g : List (Str × List C) × List Core} (hg : g ∈ gm c) {x : Core} (hx : x ∈ g.2) : csize x + g.1.length ≤ csize c := by
  obtain ⟨f, n, s, t, ks, bs, al⟩ := c
  rw [csize]
  unfold gm at hg
  rcases List.mem_cons.1 hg with rfl | hg
  · have h1 := bsizes_ge bs
    have h2 := csizes_in hx
    have h3 := csizes_app ks (bs.map Bind.body)
    have h4 : csize x ≤ csizes ks + csizes (bs.map Bind.body) := by rw [← h3]; exact h2
    have h5 : ((if f = 5 then [((s, (encCore (.mk f n s t ks bs al)).drop 3) : Str × List C)] else []) ++ bs.map (fun b => (b.name, (encBind b).drop 1))).length ≤ 1 + bs.length := by
      rw [List.length_append, List.length_map]
      split
      · exact Nat.le_refl _
      · simp
    show csize x + ((if f = 5 then [((s, (encCore (.mk f n s t ks bs al)).drop 3) : Str × List C)] else []) ++ bs.map (fun b => (b.name, (encBind b).drop 1))).length ≤ _
    omega
  · obtain ⟨a, ha, rfl⟩ := List.mem_map.1 hg
    have ha : a ∈ al := ha
    have h1 := asizes_in ha
    have hx : x = a.body := List.mem_singleton.1 hx
    subst hx
    show csize a.body + (a.vars.map fun v => ((v, []) : Str × List C)).length ≤ _
    rw [List.length_map]
    omega
def SmSpec (c : Core) : Prop := z0R c = true → wfE c = true → ∀ ns : List Str, ns.length + csize c ≤ 400000000 → ImpC Tryz.prog 71 [.pa (encCore c), .pa (encCore c), gvV ns, gvV ns] [] (B true) []
theorem c_same_step (c : Core) (ih : ∀ x, csize x < csize c → SmSpec x) : SmSpec c := by
  intro hz hw ns hsz
  have hin : ∀ g ∈ gm c, ∀ x ∈ g.2, csize x < csize c ∧ z0R x = true ∧ wfE x = true := fun g hg x hx => by
    refine ⟨gl_in (g := gmG g) (by rw [gl_gm]; exact List.mem_map.2 ⟨g, hg, rfl⟩) hx, ?_⟩
    obtain ⟨f, n, s, t, ks, bs, al⟩ := c
    simp only [z0R, Bool.and_eq_true] at hz
    obtain ⟨_, hzk, hzb, hza⟩ := hz
    obtain ⟨_, _, w2, w3, w4⟩ := wfE_un hw
    rcases gm_mem hg hx with h | ⟨b, hb, rfl⟩ | ⟨a, ha, rfl⟩
    · exact ⟨z0Cs_mem hzk x h, w2 x h⟩
    · exact ⟨(z0Bs_mem hzb b hb).2, w3 b hb⟩
    · exact ⟨z0As_mem hza a ha, w4 a ha⟩
  have hgr := c_groupsP c (by omega)
  obtain ⟨hgl, hgm⟩ := gl_len c
  rw [gl_gm, List.length_map] at hgl
  have hgm2 : ∀ g ∈ gm c, g.2.length ≤ csize c ∧ g.1.length ≤ csize c := fun g hg => by
    have := hgm (gmG g) (by rw [gl_gm]; exact List.mem_map.2 ⟨g, hg, rfl⟩)
    unfold gmG at this
    rw [List.length_map] at this
    exact this
  have hgc : ∀ g ∈ gm c, ∀ x ∈ g.2, csize x + g.1.length ≤ csize c := fun g hg x hx => gm_sz hg hx
  rw [encGroups_eq, gl_gm, List.map_map] at hgr
  obtain ⟨f, n, s, t, ks, bs, al⟩ := c
  obtain ⟨h7, _, _, _, _⟩ := wfE_un hw
  simp only [z0R, Bool.and_eq_true] at hz
  obtain ⟨ht, hzk, hzb, hza⟩ := hz
  have ht := tz_eq ht
  subst ht
  generalize gm (.mk f n s zTy ks bs al) = L at hgr hin hgl hgm2 hgc
  have hkL : (L.map (glRow ∘ gmG)).length = L.length := List.length_map _
  have hkB : (encBinds bs).length = bs.length := by rw [encBinds_map, List.length_map]
  have hkA : (encAlts al).length = al.length := by rw [encAlts_map, List.length_map]
  have hal := c_alike ns
  obtain ⟨_, _, _, hkl, hbl, hall⟩ := @size_in f n s zTy ks bs al
  have hbl' : bs.length ≤ 400000000 := by omega
  have hal' : al.length ≤ 400000000 := by omega
  have hLl : L.length ≤ 400000001 := by omega
  have hpl := c_place ns s (by omega)
  refine impC (n := 237) tok Tryz.func71 rfl rfl rfl ?_
  refine awp_seq (ag [] rfl ?_)
  refine awp_seq (awp_seq (ag [(5, .bv false), (11, .bv false), (12, .bv false), (20, .bv false), (21, .bv false), (29, .bv false), (30, .bv false), (38, .bv false)] rfl ?_))
  refine awp_cond rfl (fun hb => by simp at hb) (fun _ => ?_)
  refine awp_skip ?_
  refine awp_seq (ag [] rfl ?_)
  refine awp_seq (awp_seq (ag [] rfl ?_))
  refine (AWp.cut (mk [(4, .one (.vp 4 0)), (5, .one (.vp 5 0)), (6, .one (.vp 6 0)), (7, .one (.vp 7 0)), (9, .one (.clo 132 [.vp 6 0, .vp 7 0]))] [(4, .var 37 (cellsC (.mk f n s zTy ks bs al))), (5, .var 37 (cellsC (.mk f n s zTy ks bs al))), (6, gvO ns), (7, gvO ns)]) ?_ ?_)
  · refine awp_block ?_
    refine awp_seq (ag [] rfl ?_)
    refine awp_cond rfl (fun hb => ?_) (fun hb => ?_)
    · refine awp_seq (awp_rg mixed ?_)
      refine ak 3 [] rfl ?_
      refine kc hpl ?_
      refine ak 3 [] rfl ?_
      refine kc hpl ?_
      refine ak 2 [] rfl ?_
      refine az ?_
      generalize plF ns s ns.length 0 = k
      by_cases hk : 0 ≤ k
      · have e1 : decide (k ≥ 0) = true := decide_eq_true hk
        refine awp_seq (ag [(3, .bv true), (6, .bv true), (12, .bv true), (13, .bv true)] rfl ?_)
        exact awp_ret rtT
      · have e1 : decide (k ≥ 0) = false := decide_eq_false hk
        have e2 : some (B (decide (s = s))) = some (B true) := by rw [decide_eq_true (rfl : s = s)]
        refine awp_seq (AWp.cut (mk [(8, B true)] []) (ag [(3, .bv true), (6, .bv false), (12, .bv false), (13, .bv true)] rfl (sl (he := ⟨e2, trivial⟩))) ?_)
        exact awp_ret rtT
    refine awp_seq (ag [] rfl ?_)
    refine awp_cond rfl (fun _ => awp_skip sl) (fun _ => ?_)
    refine awp_seq (ag [] rfl ?_)
    refine awp_cond rfl (fun hb => absurd (of_decide_eq_true hb) h7) (fun _ => ?_)
    refine awp_seq (ag [] rfl ?_)
    refine awp_cond rfl (fun hb => by simp at hb) (fun _ => ?_)
    exact awp_skip sl
  refine awp_seq (awp_seq (awp_rg mixed ?_))
  refine ak 5 [] rfl ?_
  refine kv (args := [tyV zTy, tyV zTy]) hal ?_
  refine ak 1 [] rfl ?_
  refine az ?_
  refine awp_cond rfl (fun hb => by cases hb) (fun _ => ?_)
  refine awp_skip ?_
  refine awp_seq (awp_seq (ag [] rfl ?_))
  refine awp_block ?_
  refine awp_loop (fun i : Nat => mk [(4, .one (.vp 4 0)), (5, .one (.vp 5 0)), (6, .one (.vp 6 0)), (7, .one (.vp 7 0)), (9, .one (.clo 132 [.vp 6 0, .vp 7 0])), (116, I .i64 ((encBinds bs).length : Int)), (117, I .i64 i)] [(4, .var 37 (cellsC (.mk f n s zTy ks bs al))), (5, .var 37 (cellsC (.mk f n s zTy ks bs al))), (6, gvO ns), (7, gvO ns)]) (fun i => i ≤ bs.length) (fun i => bs.length - i) 0 (Nat.zero_le _) sl ?_
  intro i hi
  refine awp_seq (ag [] rfl ?_)
  refine awp_seq (awp_cond rfl (fun hb => ?_) (fun hb => ?_))
  · have hlt := ltD hb hkB
    obtain ⟨b, hbi⟩ := get_of_lt hlt
    have hbi' := encBinds_at hbi
    have hm := List.mem_of_getElem? hbi
    obtain ⟨hty, _⟩ := z0Bs_mem hzb b hm
    obtain ⟨s', t', c'⟩ := b
    have hty : t' = zTy := hty
    subst hty
    refine awp_skip ?_
    refine awp_seq (awp_block (awp_seq (ag [] rfl ?_)))
    refine awp_seq (awp_rg mixed ?_)
    refine ak 13 [(4, .row i (encBind (.mk s' zTy c'))), (10, .row i (encBind (.mk s' zTy c')))] rfl ?_
    refine kv (args := [tyV zTy, tyV zTy]) hal ?_
    refine ak 1 [] rfl ?_
    refine az ?_
    refine awp_cond rfl (fun hb => by cases hb) (fun _ => ?_)
    refine awp_skip ?_
    refine ag [] rfl ?_
    exact ⟨i + 1, hlt, by dsimp only; omega, sl⟩
  have hge := geD hb hkB hi
  subst hge
  refine awp_exit ?_
  refine awp_seq (awp_seq (ag [] rfl ?_))
  refine awp_block ?_
  refine awp_loop (fun i : Nat => mk [(4, .one (.vp 4 0)), (5, .one (.vp 5 0)), (6, .one (.vp 6 0)), (7, .one (.vp 7 0)), (138, I .i64 ((encAlts al).length : Int)), (139, I .i64 i)] [(4, .var 37 (cellsC (.mk f n s zTy ks bs al))), (5, .var 37 (cellsC (.mk f n s zTy ks bs al))), (6, gvO ns), (7, gvO ns)]) (fun i => i ≤ al.length) (fun i => al.length - i) 0 (Nat.zero_le _) sl ?_
  intro i hi
  refine awp_seq (ag [] rfl ?_)
  refine awp_seq (awp_cond rfl (fun hb => ?_) (fun hb => ?_))
  · have hlt := ltD hb hkA
    obtain ⟨a, hai⟩ := get_of_lt hlt
    have hai' := encAlts_at hai
    refine awp_skip ?_
    refine awp_seq (awp_block (awp_seq (ag [] rfl ?_)))
    refine awp_seq (ag [(3, .row i (encAlt a)), (8, .row i (encAlt a))] rfl ?_)
    refine awp_seq (ag [(5, .bv false), (11, .bv false), (12, .bv false), (18, .bv false), (19, .bv false), (27, .bv false)] rfl ?_)
    refine awp_cond rfl (fun hb => by simp at hb) (fun _ => ?_)
    refine awp_skip ?_
    refine ag [] rfl ?_
    exact ⟨i + 1, hlt, by dsimp only; omega, sl⟩
  have hge := geD hb hkA hi
  subst hge
  refine awp_exit ?_
  refine AWp.sub (Sub.fvar (id := 4) (l := encCore (.mk f n s zTy ks bs al)) rfl (by simp [keys])) ?_
  refine AWp.sub (Sub.fvar (id := 5) (l := encCore (.mk f n s zTy ks bs al)) rfl (by simp [keys])) ?_
  refine AWp.sub (st2 := mk [(4, .one (.c (.pt (encCore (.mk f n s zTy ks bs al))))), (5, .one (.c (.pt (encCore (.mk f n s zTy ks bs al))))), (6, .one (.vp 6 0)), (7, .one (.vp 7 0))] [(6, gvO ns), (7, gvO ns)]) sl ?_
  generalize Core.mk f n s zTy ks bs al = c0 at *
  refine awp_seq (awp_rg mixed ?_)
  refine kc hgr ?_
  refine kc hgr ?_
  refine ak 2 [] rfl ?_
  refine az ?_
  refine awp_seq (awp_seq (ag [] rfl ?_))
  refine awp_block ?_
  refine awp_loop (fun i : Nat => mk [(6, .one (.vp 6 0)), (7, .one (.vp 7 0)), (16, .one (.c (.sl 2 (L.map (glRow ∘ gmG))))), (17, .one (.c (.sl 2 (L.map (glRow ∘ gmG))))), (184, I .i64 ((L.map (glRow ∘ gmG)).length : Int)), (185, I .i64 i)] [(6, gvO ns), (7, gvO ns)]) (fun i => i ≤ L.length) (fun i => L.length - i) 0 (Nat.zero_le _) sl ?_
  intro i hi
  refine awp_seq (ag [] rfl ?_)
  refine awp_seq (awp_cond rfl (fun hb => ?_) (fun hb => ?_))
  · have hlt := ltD hb hkL
    obtain ⟨g, hg⟩ := get_of_lt hlt
    have hg' := getEnc (glRow ∘ gmG) hg
    have hgi := List.mem_of_getElem? hg
    obtain ⟨hl1, hl2⟩ := hgm2 g hgi
    have hinG := hin g hgi
    have hszG := hgc g hgi
    have hkG : (g.2.map kpRow).length = g.2.length := List.length_map _
    obtain ⟨G1, G⟩ := g
    have hg' : (L.map (glRow ∘ gmG))[i]? = some [.sl 1 (G1.map nrow), .sl 1 (G.map kpRow)] := hg'
    dsimp only at hl1 hl2 hkG hinG hszG
    have hwi := c_with ns G1 (by omega)
    have hnl : (ns ++ G1.map (·.1)).length = ns.length + G1.length := by rw [List.length_append, List.length_map]
    generalize ns ++ G1.map (·.1) = ns' at hwi hnl
    refine awp_skip ?_
    refine awp_seq (awp_block (awp_seq (ag [] rfl ?_)))
    refine awp_seq (awp_rg mixed ?_)
    refine ak 6 [(3, .row i [.sl 1 (G1.map nrow), .sl 1 (G.map kpRow)])] rfl ?_
    refine kc hwi ?_
    refine ak 6 [(10, .row i [.sl 1 (G1.map nrow), .sl 1 (G.map kpRow)])] rfl ?_
    refine kc hwi ?_
    refine ak 4 [] rfl ?_
    refine az ?_
    refine awp_seq (ag [(2, .row i [.sl 1 (G1.map nrow), .sl 1 (G.map kpRow)])] rfl ?_)
    refine awp_block ?_
    refine awp_loop (fun j : Nat => mk [(6, .one (.vp 6 0)), (7, .one (.vp 7 0)), (16, .one (.c (.sl 2 (L.map (glRow ∘ gmG))))), (17, .one (.c (.sl 2 (L.map (glRow ∘ gmG))))), (18, I .i64 i), (19, .one (.vp 19 0)), (20, .one (.vp 20 0)), (184, I .i64 ((L.map (glRow ∘ gmG)).length : Int)), (185, I .i64 i), (207, I .i64 ((G.map kpRow).length : Int)), (208, I .i64 j)] [(6, gvO ns), (7, gvO ns), (19, gvO ns'), (20, gvO ns')]) (fun j => j ≤ G.length) (fun j => G.length - j) 0 (Nat.zero_le _) sl ?_
    intro j hj
    refine awp_seq (ag [] rfl ?_)
    refine awp_seq (awp_cond rfl (fun hb => ?_) (fun hb => ?_))
    · have hlt2 := ltD hb hkG
      obtain ⟨p, hp⟩ := get_of_lt hlt2
      have hp' := getEnc kpRow hp
      have hpi := List.mem_of_getElem? hp
      obtain ⟨hp1, hp2, hp3⟩ := hinG p hpi
      have hps := hszG p hpi
      have hc := ih p hp1 hp2 hp3 ns' (by omega)
      refine awp_skip ?_
      refine awp_seq (awp_block (awp_seq (ag [] rfl ?_)))
      refine awp_seq (awp_rg mixed ?_)
      refine ak 22 [(2, .row i [.sl 1 (G1.map nrow), .sl 1 (G.map kpRow)]), (6, .row j (kpRow p)), (12, .row i [.sl 1 (G1.map nrow), .sl 1 (G.map kpRow)]), (16, .row j (kpRow p))] rfl ?_
      refine kc hc ?_
      refine ak 1 [] rfl ?_
      refine az ?_
      refine awp_cond rfl (fun hb => by cases hb) (fun _ => ?_)
      refine awp_skip ?_
      refine ag [] rfl ?_
      exact ⟨j + 1, hlt2, by dsimp only; omega, sl⟩
    have hge2 := geD hb hkG hj
    subst hge2
    refine awp_exit ?_
    refine ag [] rfl ?_
    exact ⟨i + 1, hlt, by dsimp only; omega, sl⟩
  have hge := geD hb hkL hi
  subst hge
  refine awp_exit ?_
  refine awp_seq (ag [] rfl ?_)
  exact awp_ret rtT
theorem c_same : ∀ (n : Nat) (c : Core), csize c ≤ n → SmSpec c
  | 0, c, h => by have := csize_pos c; omega
  | n + 1, c, h => c_same_step c fun x hx => c_same n x (by omega)
theorem c_Same (c : Core) (hz : z0R c = true) (hw : wfE c = true) (hs : csize c ≤ 400000000) : ImpC Tryz.prog 28 [.pa (encCore c), .pa (encCore c)] [] (B true) [] := by
  have h := c_same _ c (Nat.le_refl _) hz hw [] (by simpa using hs)
  refine impC (n := 10) tok Tryz.func28 rfl rfl rfl ?_
  refine awp_seq (ag [] rfl ?_)
  refine awp_seq (awp_rg mixed ?_)
  refine ak 4 [] rfl ?_
  refine kc h ?_
  refine ak 1 [] rfl ?_
  refine az ?_
  exact awp_ret rtT
end Go.Proofs.YtmoekkcdkjopgaaGreatDoor

/- WHAT IS MADE: types with TAlls among them (fugueref04.Made); core of numbers, its shape, its types, its size. -/
namespace Go.Proofs.YtmoekkcdkjopgaaGreatDoor
open Go Go.AM
set_option maxRecDepth 20000
/-- A type, made of numbers, so many levels deep yet. -/
def buildM : Nat → List Int → Ty × List Int
  | _, [] => (tInt, [])
  | 0, x :: l =>
    if around x 40 % 5 < 2 then (.mk 2 0 (oneOf tnmL (around x 40 / 10)) [], l)
    else if around x 40 % 5 < 3 then (.mk 1 (1 + around x 40 / 10) [] [], l)
    else (.mk 3 0 (oneOf tcnL (around x 40 / 5)) [], l)
  | d + 1, x :: l =>
    if around x 40 % 10 < 2 then (.mk 2 0 (oneOf tnmL (around x 40 / 10)) [], l)
    else if around x 40 % 10 < 3 then (.mk 1 (1 + around x 40 / 10) [] [], l)
    else if around x 40 % 10 < 5 then (.mk 3 0 (oneOf tcnL (around x 40 / 5)) [], l)
    else if around x 40 % 10 = 9 then (.mk 5 0 (oneOf tnmL (around x 40 / 10)) [(buildM d l).1], (buildM d l).2)
    else if around x 40 % 10 < 8 then (tfun (buildM d l).1 (buildM d (buildM d l).2).1, (buildM d (buildM d l).2).2)
    else (tapp (buildM d l).1 (buildM d (buildM d l).2).1, (buildM d (buildM d l).2).2)
theorem buildM_suf : ∀ (d : Nat) (l : List Int), (buildM d l).2 <:+ l
  | 0, [] => by simp [buildM]
  | _ + 1, [] => by simp [buildM]
  | 0, x :: l => by
    have h : l <:+ x :: l := ⟨[x], rfl⟩
    rw [buildM]
    split
    · exact h
    · split <;> exact h
  | d + 1, x :: l => by
    have h : l <:+ x :: l := ⟨[x], rfl⟩
    have h2 := ((buildM_suf d (buildM d l).2).trans (buildM_suf d l)).trans h
    rw [buildM]
    split
    · exact h
    · split
      · exact h
      · split
        · exact h
        · split
          · exact (buildM_suf d l).trans h
          · split <;> exact h2
theorem c_buildM : ∀ (d : Nat) (l : List Int) (dp : Int), Nums l → Fits l → dp + d = 5 → 0 ≤ dp → ImpC Tryz.prog 56 [intsV l, I .i64 dp, B true] [] (.tup [tyV (buildM d l).1, intsV (buildM d l).2]) [] := by
  intro d
  induction d with
  | zero =>
    intro l dp hl hf hd h0
    refine impC (n := 90) tok Tryz.func56 rfl rfl rfl ?_
    refine awp_seq (ag [] rfl ?_)
    refine awp_seq (awp_seq (ag [] rfl ?_))
    cases l with
    | nil =>
      refine awp_cond rfl (fun _ => ?_) (fun hb => by simp at hb)
      refine awp_seq (ag [] rfl ?_)
      refine awp_ret ?_
      rw [show buildM 0 [] = (tInt, []) by simp [buildM]]
      exact ⟨.inr rfl, ⟨_, _, .cell rfl (tg rfl) rfl rfl rfl (.tmp rfl .nil), .cons (.pa (.c .refl (.c .refl (.c .refl (.c .nl .nil))))) (.cons .refl .nil), rfl⟩, trivial, rfl⟩
    | cons x l =>
      have hx := hl x (by simp)
      have hn := around_lt x (k := 40) (by omega)
      have har := c_around x 40 hx (by omega)
      rw [buildM]
      generalize around x 40 = n at hn har ⊢
      refine awp_cond rfl (fun hb => by simp at hb; omega) (fun _ => ?_)
      refine awp_skip ?_
      refine awp_seq (ag [(1, .row 0 (encI x)), (3, .pc (I .i64 n))] rfl ?_)
      refine awp_seq (ag [] rfl ?_)
      refine awp_seq (ag [] rfl ?_)
      refine awp_seq (awp_seq (ag [] rfl ?_))
      refine awp_cond rfl (fun _ => ?_) (fun hb => by simp at hb; omega)
      refine ag [] rfl ?_
      refine awp_seq (awp_seq (ag [] rfl ?_))
      refine awp_cond rfl (fun hb => ?_) (fun hb => ?_)
      · have hb : n % 5 < 2 := by simpa using hb
        rw [if_pos hb]
        have hnm := c_tname (n / 10) (by unfold i64; omega)
        refine awp_seq (ag [(2, .pc (Go.AM.T (oneOf tnmL (n / 10))))] rfl ?_)
        refine awp_ret ?_
        exact ⟨.inr rfl, ⟨_, _, .cell rfl (tg rfl) rfl rfl rfl (.tmp rfl .nil), .cons (.pa (.c .refl (.c .refl (.c .refl (.c .nl .nil))))) (.cons .refl .nil), rfl⟩, trivial, rfl⟩
      have hb2 : ¬ n % 5 < 2 := by simpa using hb
      rw [if_neg hb2]
      refine awp_skip ?_
      refine awp_seq (awp_seq (ag [] rfl ?_))
      refine awp_cond rfl (fun hb => ?_) (fun hb => ?_)
      · have hb : n % 5 < 3 := by simpa using hb
        rw [if_pos hb]
        refine awp_seq (ag [] rfl ?_)
        refine awp_ret ?_
        exact ⟨.inr rfl, ⟨_, _, .cell rfl (tg rfl) rfl rfl rfl (.tmp rfl .nil), .cons (.pa (.c .refl (.c .refl (.c .refl (.c .nl .nil))))) (.cons .refl .nil), rfl⟩, trivial, rfl⟩
      have hb3 : ¬ n % 5 < 3 := by simpa using hb
      rw [if_neg hb3]
      refine awp_skip ?_
      refine awp_seq (awp_seq (ag [] rfl ?_))
      refine awp_cond rfl (fun _ => ?_) (fun hb => by simp at hb; omega)
      have hcn := c_tcon (n / 5) (by unfold i64; omega)
      refine awp_seq (ag [(2, .pc (Go.AM.T (oneOf tcnL (n / 5))))] rfl ?_)
      refine awp_ret ?_
      exact ⟨.inr rfl, ⟨_, _, .cell rfl (tg rfl) rfl rfl rfl (.tmp rfl .nil), .cons (.pa (.c .refl (.c .refl (.c .refl (.c .nl .nil))))) (.cons .refl .nil), rfl⟩, trivial, rfl⟩
  | succ d ih =>
    intro l dp hl hf hd h0
    refine impC (n := 90) tok Tryz.func56 rfl rfl rfl ?_
    refine awp_seq (ag [] rfl ?_)
    refine awp_seq (awp_seq (ag [] rfl ?_))
    cases l with
    | nil =>
      refine awp_cond rfl (fun _ => ?_) (fun hb => by simp at hb)
      refine awp_seq (ag [] rfl ?_)
      refine awp_ret ?_
      rw [show buildM (d + 1) [] = (tInt, []) by simp [buildM]]
      exact ⟨.inr rfl, ⟨_, _, .cell rfl (tg rfl) rfl rfl rfl (.tmp rfl .nil), .cons (.pa (.c .refl (.c .refl (.c .refl (.c .nl .nil))))) (.cons .refl .nil), rfl⟩, trivial, rfl⟩
    | cons x l =>
      have hx := hl x (by simp)
      have hn := around_lt x (k := 40) (by omega)
      have har := c_around x 40 hx (by omega)
      have hs1 : l <:+ x :: l := ⟨[x], rfl⟩
      have hl1 := hl.suf hs1
      have hf1 := hf.suf hs1
      have hs2 := buildM_suf d l
      have ih1 := ih l (dp + 1) hl1 hf1 (by omega) (by omega)
      have ih2 := ih (buildM d l).2 (dp + 1) (hl1.suf hs2) (hf1.suf hs2) (by omega) (by omega)
      rw [buildM]
      generalize around x 40 = n at hn har ⊢
      generalize buildM d (buildM d l).2 = r2 at ih2 ⊢
      generalize buildM d l = r1 at ih1 ih2 ⊢
      obtain ⟨⟨f1, n1, s1, a1⟩, l1⟩ := r1
      obtain ⟨⟨f2, n2, s2, a2⟩, l2⟩ := r2
      have hfu := c_fun (.mk f1 n1 s1 a1) (.mk f2 n2 s2 a2)
      have hap := c_app (.mk f1 n1 s1 a1) (.mk f2 n2 s2 a2)
      refine awp_cond rfl (fun hb => by simp at hb; omega) (fun _ => ?_)
      refine awp_skip ?_
      refine awp_seq (ag [(1, .row 0 (encI x)), (3, .pc (I .i64 n))] rfl ?_)
      refine awp_seq (ag [] rfl ?_)
      refine awp_seq (ag [] rfl ?_)
      refine awp_seq (awp_seq (ag [] rfl ?_))
      refine awp_cond rfl (fun hb => by simp at hb; omega) (fun _ => ?_)
      refine awp_skip ?_
      refine awp_seq (awp_seq (ag [] rfl ?_))
      refine awp_cond rfl (fun hb => ?_) (fun hb => ?_)
      · have hb : n % 10 < 2 := by simpa using hb
        rw [if_pos hb]
        have hnm := c_tname (n / 10) (by unfold i64; omega)
        refine awp_seq (ag [(2, .pc (Go.AM.T (oneOf tnmL (n / 10))))] rfl ?_)
        refine awp_ret ?_
        exact ⟨.inr rfl, ⟨_, _, .cell rfl (tg rfl) rfl rfl rfl (.tmp rfl .nil), .cons (.pa (.c .refl (.c .refl (.c .refl (.c .nl .nil))))) (.cons .refl .nil), rfl⟩, trivial, rfl⟩
      have hb2 : ¬ n % 10 < 2 := by simpa using hb
      rw [if_neg hb2]
      refine awp_skip ?_
      refine awp_seq (awp_seq (ag [] rfl ?_))
      refine awp_cond rfl (fun hb => ?_) (fun hb => ?_)
      · have hb : n % 10 < 3 := by simpa using hb
        rw [if_pos hb]
        refine awp_seq (ag [] rfl ?_)
        refine awp_ret ?_
        exact ⟨.inr rfl, ⟨_, _, .cell rfl (tg rfl) rfl rfl rfl (.tmp rfl .nil), .cons (.pa (.c .refl (.c .refl (.c .refl (.c .nl .nil))))) (.cons .refl .nil), rfl⟩, trivial, rfl⟩
      have hb3 : ¬ n % 10 < 3 := by simpa using hb
      rw [if_neg hb3]
      refine awp_skip ?_
      refine awp_seq (awp_seq (ag [] rfl ?_))
      refine awp_cond rfl (fun hb => ?_) (fun hb => ?_)
      · have hb : n % 10 < 5 := by simpa using hb
        rw [if_pos hb]
        have hcn := c_tcon (n / 5) (by unfold i64; omega)
        refine awp_seq (ag [(2, .pc (Go.AM.T (oneOf tcnL (n / 5))))] rfl ?_)
        refine awp_ret ?_
        exact ⟨.inr rfl, ⟨_, _, .cell rfl (tg rfl) rfl rfl rfl (.tmp rfl .nil), .cons (.pa (.c .refl (.c .refl (.c .refl (.c .nl .nil))))) (.cons .refl .nil), rfl⟩, trivial, rfl⟩
      have hb5 : ¬ n % 10 < 5 := by simpa using hb
      rw [if_neg hb5]
      refine awp_skip ?_
      refine awp_seq (ag [(4, .pc (.tup [tyV (.mk f1 n1 s1 a1), intsV l1]))] rfl ?_)
      have hnm9 := c_tname (n / 10) (by unfold i64; omega)
      refine awp_seq (awp_seq (AWp.cut (mk [(0, intsV l), (1, I .i64 dp), (2, B true), (6, .one (.vp 6 0)), (8, I .i64 n), (9, I .i64 (n % 10)), (10, .one (.vp 10 0)), (11, intsV l1), (64, B (decide (n % 10 = 9)))] [(6, .var 33 [.c (.int .i64 0), .c (.int .i64 0), .c (.str []), .c .nl]), (10, .var 33 ((encTy (.mk f1 n1 s1 a1)).map R.c))]) ?_ ?_))
      · by_cases h9 : n % 10 = 9
        · have e9 : decide (n % 10 = 9) = true := decide_eq_true h9
          rw [e9]
          exact ag [(2, .bv true), (4, .bv true)] rfl sl
        · have e9 : decide (n % 10 = 9) = false := decide_eq_false h9
          rw [e9]
          exact ag [(2, .bv false), (4, .bv false)] rfl sl
      refine awp_cond rfl (fun hb => ?_) (fun hb => ?_)
      · have hb : n % 10 = 9 := of_decide_eq_true hb
        rw [if_pos hb]
        refine awp_seq (ag [(2, .pc (Go.AM.T (oneOf tnmL (n / 10)))), (6, .all)] rfl ?_)
        refine AWp.sub (Sub.freeze (id := 69) rfl) (awp_ret ?_)
        dsimp only
        exact ⟨.inr rfl, ⟨_, _, .cell rfl (tg rfl) rfl rfl rfl (.tmp rfl .nil), .cons (.agg (.c .refl (.c .refl (.c .refl (.hs rfl rfl rfl .nil))))) (.cons .refl .nil), rfl⟩, trivial, rfl⟩
      have hb9 : ¬ n % 10 = 9 := of_decide_eq_false hb
      rw [if_neg hb9]
      refine awp_skip ?_
      refine awp_seq (ag [(4, .pc (.tup [tyV (.mk f2 n2 s2 a2), intsV l2]))] rfl ?_)
      refine awp_seq (awp_seq (ag [] rfl ?_))
      refine awp_cond rfl (fun hb => ?_) (fun hb => ?_)
      · have hb : n % 10 < 8 := by simpa using hb
        rw [if_pos hb]
        refine awp_seq (ag [(2, .pc (.pa (encTy (tfun (.mk f1 n1 s1 a1) (.mk f2 n2 s2 a2)))))] rfl ?_)
        refine awp_ret ?_
        exact ⟨.inr rfl, ⟨_, _, .cell rfl (tg rfl) rfl rfl rfl (.tmp rfl .nil), .cons .refl (.cons .refl .nil), rfl⟩, trivial, rfl⟩
      · have hb : ¬ n % 10 < 8 := by simpa using hb
        rw [if_neg hb]
        refine awp_skip ?_
        refine awp_seq (ag [(2, .pc (.pa (encTy (tapp (.mk f1 n1 s1 a1) (.mk f2 n2 s2 a2)))))] rfl ?_)
        refine awp_ret ?_
        exact ⟨.inr rfl, ⟨_, _, .cell rfl (tg rfl) rfl rfl rfl (.tmp rfl .nil), .cons .refl (.cons .refl .nil), rfl⟩, trivial, rfl⟩
theorem tcn4 : ∀ s ∈ tcnL, s.length ≤ 4 := by decide
theorem buildM_wf : ∀ (d : Nat) (l : List Int), wfT (buildM d l).1 = true ∧ tn (buildM d l).1 + 9 * (buildM d l).2.length ≤ 9 * l.length + 4 ∧ (buildM d l).2.length ≤ l.length
  | 0, [] => by
    rw [show buildM 0 [] = (tInt, []) by simp [buildM]]
    exact ⟨by decide, by decide, Nat.le_refl _⟩
  | d + 1, [] => by
    rw [show buildM (d + 1) [] = (tInt, []) by simp [buildM]]
    exact ⟨by decide, by decide, Nat.le_refl _⟩
  | 0, x :: l => by
    have h1 := oneOf_le tnm1 (around x 40 / 10)
    have h2 := oneOf_le tcn4 (around x 40 / 5)
    rw [buildM]
    split
    · exact ⟨wf_leaf (by decide) (by decide), by rw [tn_leaf, List.length_cons]; dsimp only; omega, by rw [List.length_cons]; dsimp only; omega⟩
    · split
      · exact ⟨wf_leaf (by decide) (by decide), by rw [tn_leaf, List.length_cons, List.length_nil]; dsimp only; omega, by rw [List.length_cons]; dsimp only; omega⟩
      · exact ⟨wf_leaf (by decide) (by decide), by rw [tn_leaf, List.length_cons]; dsimp only; omega, by rw [List.length_cons]; dsimp only; omega⟩
  | d + 1, x :: l => by
    have h1 := oneOf_le tnm1 (around x 40 / 10)
    have h2 := oneOf_le tcn4 (around x 40 / 5)
    obtain ⟨a1, a2, a3⟩ := buildM_wf d l
    obtain ⟨b1, b2, b3⟩ := buildM_wf d (buildM d l).2
    rw [buildM, List.length_cons]
    split
    · exact ⟨wf_leaf (by decide) (by decide), by rw [tn_leaf]; dsimp only; omega, by dsimp only; omega⟩
    · split
      · exact ⟨wf_leaf (by decide) (by decide), by rw [tn_leaf, List.length_nil]; dsimp only; omega, by dsimp only; omega⟩
      · split
        · exact ⟨wf_leaf (by decide) (by decide), by rw [tn_leaf]; dsimp only; omega, by dsimp only; omega⟩
        · split
          · refine ⟨?_, ?_, ?_⟩
            · dsimp only
              rw [wfT, if_neg (by decide), if_pos rfl, wfTs, wfTs, a1]; rfl
            · dsimp only
              rw [tn, tns, tns]; omega
            · dsimp only; omega
          · split
            · refine ⟨wf_tapp (wf_tapp (wf_leaf (by decide) (by decide)) a1) b1, ?_, ?_⟩
              · dsimp only [tfun]
                rw [tn_tapp, tn_tapp, tn_leaf]
                have : arrow.length = 2 := rfl
                omega
              · dsimp only; omega
            · refine ⟨wf_tapp a1 b1, ?_, ?_⟩
              · dsimp only
                rw [tn_tapp]; omega
              · dsimp only; omega
theorem c_tmade (l : List Int) (hl : Nums l) (hf : Fits l) : ImpC Tryz.prog 21 [intsV l] [] (tyV (buildM 5 (l.take 24)).1) [] := by
  have hi : ImpC Tryz.prog 20 [intsV l, I .i64 (24 : Nat)] [] (intsV (l.take 24)) [] := c_ints l 24 hf (by omega)
  have hb := c_buildM 5 (l.take 24) 0 (fun x hx => hl x (List.mem_of_mem_take hx)) (by unfold Fits at *; rw [List.length_take]; omega) (by omega) (by omega)
  generalize buildM 5 (l.take 24) = r at hb ⊢
  obtain ⟨⟨f1, n1, s1, a1⟩, l1⟩ := r
  refine impC (n := 12) tok Tryz.func21 rfl rfl rfl ?_
  refine awp_seq (ag [] rfl ?_)
  refine awp_seq (ag [(1, .pc (intsV (l.take 24))), (2, .pc (.tup [tyV (.mk f1 n1 s1 a1), intsV l1]))] rfl ?_)
  refine awp_seq (ag [] rfl ?_)
  refine awp_ret ?_
  exact ⟨.inr rfl, ⟨_, _, .cell rfl (tg rfl) rfl rfl rfl .nil, .cons .refl .nil, rfl⟩, trivial, rfl⟩
mutual
theorem t30_tn : ∀ t : Ty, t30 t ≤ 31 * tn t
  | .mk f n s a => by
    rw [tn, t30]
    have := t30s_tn a
    omega
theorem t30s_tn : ∀ l : List Ty, t30s l ≤ 31 * tns l
  | [] => Nat.le_refl _
  | t :: l => by
    rw [tns, t30s]
    have := t30_tn t
    have := t30s_tn l
    omega
end
theorem sum_w2 : ∀ vs : List Str, (vs.map fun v => 1 + w30 v).sum ≤ 31 * (vs.map fun v => 1 + v.length).sum
  | [] => Nat.le_refl _
  | v :: vs => by
    simp only [List.map_cons, List.sum_cons]
    have := sum_w2 vs
    unfold w30
    unfold w30 at this
    omega
mutual
theorem m30_csize : ∀ c : Core, m30 c ≤ 31 * csize c
  | .mk _ _ s _ ks bs al => by
    rw [csize, m30, w30]
    have := m30_csizes ks
    have := m30_bsizes bs
    have := m30_asizes al
    omega
theorem m30_csizes : ∀ l : List Core, m30s l ≤ 31 * csizes l
  | [] => by rw [csizes, m30s]; exact Nat.le_refl _
  | c :: l => by
    rw [csizes, m30s]
    have := m30_csize c
    have := m30_csizes l
    omega
theorem m30_bsizes : ∀ l : List Bind, m30b l ≤ 31 * bsizes l
  | [] => by rw [bsizes, m30b]; exact Nat.le_refl _
  | .mk s _ c :: l => by
    rw [bsizes, bsize, m30b, w30]
    have := m30_csize c
    have := m30_bsizes l
    omega
theorem m30_asizes : ∀ l : List Alt, m30a l ≤ 31 * asizes l
  | [] => by rw [asizes, m30a]; exact Nat.le_refl _
  | .mk _ _ s vs c :: l => by
    rw [asizes, asize, m30a, w30]
    have := m30_csize c
    have := m30_asizes l
    have := sum_w2 vs
    omega
end
/-- What is made has its shape, and types that are small. -/
def MkW (g : List Int → Int → Mk) : Prop := ∀ l left, wfC (g l left).1 = true ∧ allT (TOk 2790) (g l left).1
theorem tok_z : TOk 2790 zTy := ⟨by decide, by decide⟩
theorem tok_typR (l : List Int) : TOk 2790 (typR 2 l).1 := by
  obtain ⟨h1, h2⟩ := typR_wf 2 l
  have h3 := t30_tn (typR 2 l).1
  have h4 : tsm 2 = 42 := rfl
  exact ⟨h1, by omega⟩
theorem wfCb_app : ∀ a b, wfCb (a ++ b) = (wfCb a && wfCb b)
  | [], b => by rw [List.nil_append, wfCb, Bool.true_and]
  | .mk s t c :: a, b => by rw [List.cons_append, wfCb, wfCb, wfCb_app a b, Bool.and_assoc]
theorem wfCa_app : ∀ a b, wfCa (a ++ b) = (wfCa a && wfCa b)
  | [], b => by rw [List.nil_append, wfCa, Bool.true_and]
  | .mk f n s v c :: a, b => by rw [List.cons_append, wfCa, wfCa, wfCa_app a b, Bool.and_assoc]
theorem bindsTo_w {g : List Int → Int → Mk} (h : MkW g) (ns : List Str) (l : List Int) (left : Int) : ∀ i : Nat, wfCb (bindsTo g ns l left i).1 = true ∧ allTb (TOk 2790) (bindsTo g ns l left i).1
  | 0 => ⟨by simp [bindsTo, wfCb], trivial⟩
  | i + 1 => by
    obtain ⟨h1, h2⟩ := bindsTo_w h ns l left i
    simp only [bindsTo]
    generalize bindsTo g ns l left i = r at h1 h2 ⊢
    obtain ⟨h3, h4⟩ := h (typR 2 r.2.1).2 r.2.2
    refine ⟨by rw [wfCb_app, h1, wfCb, wfCb, h3]; rfl, allTb_iff.2 fun x hx => ?_⟩
    rcases List.mem_append.1 hx with hx | hx
    · exact allTb_iff.1 h2 x hx
    · rw [List.mem_singleton.1 hx]
      exact ⟨tok_typR _, h4⟩
theorem altsTo_w {g : List Int → Int → Mk} (h : MkW g) (n : Int) (l : List Int) (left : Int) : ∀ i : Nat, wfCa (altsTo g n l left i).1 = true ∧ allTa (TOk 2790) (altsTo g n l left i).1
  | 0 => ⟨by simp [altsTo, wfCa], trivial⟩
  | i + 1 => by
    obtain ⟨h1, h2⟩ := altsTo_w h n l left i
    simp only [altsTo]
    generalize altsTo g n l left i = r at h1 h2 ⊢
    obtain ⟨h3, h4⟩ := h (namesR r.2.1).2 r.2.2
    have hx : ∃ f n' s v, (if i = 1 then Alt.mk 2 (n / 14) [] [] (g (namesR r.2.1).2 r.2.2).1 else if i = 2 then .mk 3 0 [] [] (g (namesR r.2.1).2 r.2.2).1 else .mk 1 0 (oneOf conL (n / 14 + i)) (namesR r.2.1).1 (g (namesR r.2.1).2 r.2.2).1) = .mk f n' s v (g (namesR r.2.1).2 r.2.2).1 := by
      split
      · exact ⟨_, _, _, _, rfl⟩
      · split
        · exact ⟨_, _, _, _, rfl⟩
        · exact ⟨_, _, _, _, rfl⟩
    obtain ⟨f, n', s, v, e⟩ := hx
    rw [e]
    refine ⟨by rw [wfCa_app, h1, wfCa, wfCa, h3]; rfl, allTa_iff.2 fun x hx => ?_⟩
    rcases List.mem_append.1 hx with hx | hx
    · exact allTa_iff.1 h2 x hx
    · rw [List.mem_singleton.1 hx]
      exact h4
theorem coreK_w {g : List Int → Int → Mk} (h : MkW g) (n k : Int) (l : List Int) (left : Int) : wfC (coreK g n k l left).1 = true ∧ allT (TOk 2790) (coreK g n k l left).1 := by
  obtain ⟨h1, t1⟩ := h l left
  obtain ⟨h2, t2⟩ := h (g l left).2.1 (g l left).2.2
  obtain ⟨h3, t3⟩ := h (typR 2 l).2 left
  have ht := tok_typR l
  have hz := tok_z
  unfold coreK
  split
  · exact ⟨by simp [wfC, wfCs, wfCb, wfCa], hz, trivial, trivial, trivial⟩
  split
  · exact ⟨by simp [wfC, wfCs, wfCb, wfCa], hz, trivial, trivial, trivial⟩
  split
  · exact ⟨by simp [wfC, wfCs, wfCb, wfCa], hz, trivial, trivial, trivial⟩
  split
  · exact ⟨by simp [wfC, wfCs, wfCb, wfCa, h1, h2], hz, ⟨t1, t2, trivial⟩, trivial, trivial⟩
  split
  · exact ⟨by simp [wfC, wfCs, wfCb, wfCa, h3], ht, ⟨t3, trivial⟩, trivial, trivial⟩
  split
  · exact ⟨by simp [wfC, wfCs, wfCb, wfCa, h3], ht, ⟨t3, trivial⟩, trivial, trivial⟩
  split
  · exact ⟨by simp [wfC, wfCs, wfCb, wfCa, h1], hz, ⟨t1, trivial⟩, trivial, trivial⟩
  split
  · obtain ⟨b1, b2⟩ := bindsTo_w h (namesR l).1 (namesR l).2 left (namesR l).1.length
    generalize bindsTo g (namesR l).1 (namesR l).2 left (namesR l).1.length = r at b1 b2 ⊢
    obtain ⟨h4, t4⟩ := h r.2.1 r.2.2
    exact ⟨by simp [wfC, wfCs, wfCa, b1, h4], hz, ⟨t4, trivial⟩, b2, trivial⟩
  split
  · obtain ⟨b1, b2⟩ := altsTo_w h n (g (typR 2 l).2 left).2.1 (g (typR 2 l).2 left).2.2 (n / 14 % 4).toNat
    dsimp only
    generalize altsTo g n (g (typR 2 l).2 left).2.1 (g (typR 2 l).2 left).2.2 (n / 14 % 4).toNat = r at b1 b2 ⊢
    exact ⟨by simp [wfC, wfCs, wfCb, b1, h3], ht, ⟨t3, trivial⟩, trivial, b2⟩
  split
  · exact ⟨by simp [wfC, wfCs, wfCb, wfCa, h1, h2], hz, ⟨t1, t2, trivial⟩, trivial, trivial⟩
  · exact ⟨by simp [wfC, wfCs, wfCb, wfCa], ht, trivial, trivial, trivial⟩
theorem coreR_w : ∀ f : Nat, MkW (coreR f)
  | 0 => fun l left => coreK_w (g := fun l left => ((.mk 0 0 [] zTy [] [] [], l, left) : Mk)) (fun _ _ => ⟨by simp [wfC, wfCs, wfCb, wfCa], tok_z, trivial, trivial, trivial⟩) _ _ _ _
  | f + 1 => fun l left => coreK_w (coreR_w f) _ _ _ _
theorem made_w (l : List Int) : wfC (madeR l) = true ∧ allT (TOk 2790) (madeR l) ∧ m30 (madeR l) ≤ 93000 := by
  obtain ⟨h1, h2⟩ := coreR_w 6 (l.take 60) 30
  have h3 := m30_csize (madeR l)
  have h4 := (made_raw l).2
  exact ⟨h1, h2, by omega⟩
theorem made_ty (l : List Int) : ByOk 112 (buildM 5 ((l.take 12).take 24)).1 := by
  obtain ⟨h1, h2, h3⟩ := buildM_wf 5 ((l.take 12).take 24)
  have h4 : ((l.take 12).take 24).length ≤ 12 := by rw [List.length_take, List.length_take]; omega
  have h5 := t30_tn (buildM 5 ((l.take 12).take 24)).1
  exact ⟨h1, by omega, by omega, by omega⟩
end Go.Proofs.YtmoekkcdkjopgaaGreatDoor

/- NUMBERS AS TEXTS, whatever the number (printed by lt8.py). -/
namespace Go.Proofs.YtmoekkcdkjopgaaGreatDoor
open Go Go.AM Go.Shelf
set_option maxRecDepth 100000
def ir : Ren := ⟨fun f => if f = 129 then 200 else if f = 171 then 181 else if f = 243 then 193 else if f = 246 then 194 else if f = 283 then 195 else if f = 284 then 196 else if f = 285 then 197 else if f = 286 then 198 else if f = 317 then 199 else if f = 318 then 201 else if f = 319 then 202 else if f = 320 then 203 else if f = 337 then 204 else if f = 338 then 205 else f, fun t => if t = 0 then 0 else if t = 2 then 2 else if t = 3 then 3 else if t = 4 then 4 else if t = 5 then 5 else if t = 9 then 9 else if t = 20 then 20 else if t = 37 then 197 else if t = 46 then 218 else if t = 51 then 216 else if t = 53 then 209 else if t = 171 then 208 else if t = 173 then 212 else if t = 212 then 215 else if t = 213 then 217 else if t = 232 then 221 else if t = 233 then 222 else t, fun g => if g = 17 then 0 else if g = 18 then 1 else if g = 19 then 2 else g⟩
theorem il : LaysM.n171 Tryz.prog ir where
  mixed := mixed
  f129 := by kernel_rfl
  f171 := by kernel_rfl
  f243 := by kernel_rfl
  f246 := by kernel_rfl
  f283 := by kernel_rfl
  f284 := by kernel_rfl
  f285 := by kernel_rfl
  f286 := by kernel_rfl
  f317 := by kernel_rfl
  f318 := by kernel_rfl
  f319 := by kernel_rfl
  f320 := by kernel_rfl
  f337 := by kernel_rfl
  f338 := by kernel_rfl
  t0 := by kernel_rfl
  a0 := fun w => by kernel_rfl
  z0 := fun w => by kernel_rfl
  v0 := fun w => by kernel_rfl
  t2 := by kernel_rfl
  a2 := fun w => by kernel_rfl
  z2 := fun w => by kernel_rfl
  v2 := fun w => by kernel_rfl
  t3 := by kernel_rfl
  a3 := fun w => by kernel_rfl
  z3 := fun w => by kernel_rfl
  v3 := fun w => by kernel_rfl
  t4 := by kernel_rfl
  a4 := fun w => by kernel_rfl
  z4 := fun w => by kernel_rfl
  v4 := fun w => by kernel_rfl
  t5 := by kernel_rfl
  a5 := fun w => by kernel_rfl
  z5 := fun w => by kernel_rfl
  v5 := fun w => by kernel_rfl
  t9 := by kernel_rfl
  a9 := fun w => by kernel_rfl
  z9 := fun w => by kernel_rfl
  v9 := fun w => by kernel_rfl
  t20 := by kernel_rfl
  a20 := fun w => by kernel_rfl
  z20 := fun w => by kernel_rfl
  v20 := fun w => by kernel_rfl
  t37 := by kernel_rfl
  a37 := fun w => by kernel_rfl
  z37 := fun w => by kernel_rfl
  v37 := fun w => by kernel_rfl
  t46 := by kernel_rfl
  a46 := fun w => by kernel_rfl
  z46 := fun w => by kernel_rfl
  v46 := fun w => by kernel_rfl
  t51 := by kernel_rfl
  a51 := fun w => by kernel_rfl
  z51 := fun w => by kernel_rfl
  v51 := fun w => by kernel_rfl
  t53 := by kernel_rfl
  a53 := fun w => by kernel_rfl
  z53 := fun w => by kernel_rfl
  v53 := fun w => by kernel_rfl
  t171 := by kernel_rfl
  a171 := fun w => by kernel_rfl
  z171 := fun w => by kernel_rfl
  v171 := fun w => by kernel_rfl
  t173 := by kernel_rfl
  a173 := fun w => by kernel_rfl
  z173 := fun w => by kernel_rfl
  v173 := fun w => by kernel_rfl
  t212 := by kernel_rfl
  a212 := fun w => by kernel_rfl
  z212 := fun w => by kernel_rfl
  v212 := fun w => by kernel_rfl
  t213 := by kernel_rfl
  a213 := fun w => by kernel_rfl
  z213 := fun w => by kernel_rfl
  t232 := by kernel_rfl
  a232 := fun w => by kernel_rfl
  z232 := fun w => by kernel_rfl
  v232 := fun w => by kernel_rfl
  t233 := by kernel_rfl
  a233 := fun w => by kernel_rfl
  z233 := fun w => by kernel_rfl
  v233 := fun w => by kernel_rfl
  g17 := by kernel_rfl
  g18 := by kernel_rfl
  g19 := by kernel_rfl
  i0 := by kernel_rfl
  i2 := by kernel_rfl
  i3 := by kernel_rfl
  i4 := by kernel_rfl
  i5 := by kernel_rfl
  i9 := by kernel_rfl
  i20 := by kernel_rfl
  i37 := by kernel_rfl
  i46 := by kernel_rfl
  i51 := by kernel_rfl
  i53 := by kernel_rfl
  i171 := by kernel_rfl
  i173 := by kernel_rfl
  i212 := by kernel_rfl
  i232 := by kernel_rfl
  i233 := by kernel_rfl
  m17 := by kernel_rfl
  m18 := by kernel_rfl
  m19 := by kernel_rfl
end Go.Proofs.YtmoekkcdkjopgaaGreatDoor

/- NUMBERS AS TEXTS, whatever the number: the contract. -/
namespace Go.AM
open Go
/-- More memory, of which nobody knows. -/
theorem Inv.grown {G : Ctx} {S : Sto} {μ : Mu} {H : Heap} {w : World} (h : Inv G S μ H w) (k : Nat) (os : Array Obj) : Inv G S μ H (Sort.grow (w.drewN k) os) := by
  have hold : ∀ b : Nat, b < w.heap.size → (Sort.grow (w.drewN k) os).heap[b]? = w.heap[b]? := fun b hb => by
    show (w.heap ++ os)[b]? = w.heap[b]?
    exact Array.getElem?_append_left hb
  have hsz : w.heap.size ≤ (Sort.grow (w.drewN k) os).heap.size := by
    show w.heap.size ≤ (w.heap ++ os).size
    rw [Array.size_append]; omega
  obtain ⟨h1, h2, h3, h4, h5, h6, h7, h8⟩ := h
  refine ⟨⟨fun b o v e => ?_, fun b es clk e => ?_⟩, fun id o e => (h2 id o e).evolve (Evolve.refl _ _ _) rfl fun b c hm => ⟨hold b ((h2 id o e).lt hm), fun _ => rfl, rfl⟩, h3, h4, ?_, h6, h7, h8⟩
  · obtain ⟨vs, t, fr, g1, g2⟩ := h1.1 b o v e
    exact ⟨vs, t, fr, by rw [hold b (lt_of_some g1)]; exact g1, g2⟩
  · have g := h1.2 b es clk e
    rw [hold b (lt_of_some g)]; exact g
  · obtain ⟨f1, f2, f3, f4, f5, f6⟩ := h5
    exact ⟨f1, f2, f3, Nat.le_trans f4 hsz, fun b hb hF => by rw [hold b (Nat.lt_of_lt_of_le hb f4)]; exact f5 b hb hF, f6⟩
end Go.AM
namespace Go.Proofs.YtmoekkcdkjopgaaGreatDoor
open Go Go.AM
set_option maxRecDepth 20000
theorem c_itoaD (k : Nat) (h : k < 1000000000000000000) : ImpC Tryz.prog 181 [I .i64 (k : Int)] [] (Go.AM.T (Lib.decDigits k)) [] := by
  intro S μ w vals hI hv
  simp only [VRelL, VRel, RRel, Rep] at hv
  obtain ⟨v1, vs1, rfl, rfl, rfl⟩ := hv
  have htab : Lib.TabIs Tryz.prog w "internal/strconv.uint64pow10" .u64 Lib.pow10Tab := by
    obtain ⟨h1, t, fr, h2⟩ := hI.frame.tabAt 0 rfl
    unfold Lib.TabIs World.var?
    rw [show Tryz.prog.globalNamed "internal/strconv.uint64pow10" = some 0 by kernel_rfl]
    simp only [Option.bind_some, h2]
    rfl
  refine Calls.mono (Any.strconv_Itoa il (k : Int) (by omega) (by omega) w htab) ?_
  rintro e w' ⟨rfl, j, os, rfl⟩
  refine ⟨S, μ, _, rfl, hI.grown j os, ?_⟩
  rw [Lib.itoa_nonneg]
  simp only [VRel, RRel, Rep]
end Go.Proofs.YtmoekkcdkjopgaaGreatDoor
