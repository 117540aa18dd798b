/-
  Texts Ln32, Ln33, Ln34, Ln35, Ln36 in one.
-/
import Derived.Test.YtojcjjjpniimiaaDoorM20
/- WHAT FITS (the program's scope.fits): the walk. -/
namespace Go.Proofs.YtojcjjjpniimiaaDoor
open Go Go.AM
set_option maxRecDepth 20000

def tyd (b : Bind) : Bool := !decide (b.ty.form = 0)
theorem c_fits1 (b : Bind) : ImpC Tryd.prog 59 [.pa (encBind b)] [] (B (tyd b)) [] := by
  refine impC (n := 7) tok Tryd.func59 rfl rfl rfl ?_
  refine awp_seq (ag [] rfl ?_)
  refine awp_seq (ag [] rfl ?_)
  exact awp_ret rtT
/-- The number of the first that is so, if there is one. -/
def idxR {α : Type} (p : α → Bool) : List α → Nat → Int
  | [], _ => -1
  | x :: l, i => if p x then (i : Int) else idxR p l (i + 1)
theorem idx_any {α : Type} (p : α → Bool) : ∀ (l : List α) (i : Nat), decide (idxR p l i ≥ 0) = l.any p
  | [], _ => rfl
  | x :: l, i => by
    rw [idxR, List.any_cons]
    cases h : p x
    · rw [if_neg (by simp), idx_any p l]; rfl
    · rw [if_pos rfl, Bool.true_or]; simp
theorem c_index_binds (l : List Bind) (hl : l.length ≤ 1000000000) : ImpC Tryd.prog 85 [.one (.c (.sl 15 (l.map encBind))), .one (.clo 59 [])] [] (I .i64 (idxR tyd l 0)) [] := by
  have hkl : (l.map encBind).length = l.length := List.length_map _
  refine impC (n := 19) tok Tryd.func85 rfl rfl rfl ?_
  refine awp_seq (ag [] rfl ?_)
  refine awp_seq (awp_seq (ag [] rfl ?_))
  refine awp_block ?_
  refine awp_loop (fun i : Nat => mk [(0, .one (.c (.sl 15 (l.map encBind)))), (1, .one (.clo 59 [])), (7, I .i64 ((l.map encBind).length : Int)), (8, I .i64 i)] []) (fun i => i ≤ l.length ∧ idxR tyd l 0 = idxR tyd (l.drop i) i) (fun i => l.length - i) 0 ⟨Nat.zero_le _, rfl⟩ sl ?_
  intro i ⟨hi, hid⟩
  refine awp_seq (ag [] rfl ?_)
  refine awp_seq (awp_cond rfl (fun hb => ?_) (fun hb => ?_))
  · have hlt := ltD hb hkl
    obtain ⟨b, hbi⟩ := get_of_lt hlt
    have hbi' := getEnc encBind hbi
    have hc : ImpC Tryd.prog 59 ([.pa (encBind b)] ++ ([] : List R).map V.one) [] (B (tyd b)) [] := c_fits1 b
    have hdr : l.drop i = b :: l.drop (i + 1) := by rw [List.drop_eq_getElem_cons hlt, (List.getElem?_eq_some_iff.1 hbi).2]
    rw [hdr, idxR] at hid
    refine awp_skip ?_
    refine awp_seq (awp_block (awp_seq (ag [] rfl ?_)))
    refine awp_seq (awp_rg mixed ?_)
    refine ak 5 [(3, .row i (encBind b))] rfl ?_
    refine kv (args := [.pa (encBind b)]) hc ?_
    refine az ?_
    refine awp_cond rfl (fun hb => ?_) (fun hb => ?_)
    · have hb : tyd b = true := hb
      rw [if_pos hb] at hid
      rw [hid]
      refine awp_seq (ag [] rfl ?_)
      exact awp_ret rtT
    · have hb : tyd b = false := hb
      rw [if_neg (by rw [hb]; exact Bool.false_ne_true)] at hid
      refine awp_skip ?_
      refine ag [] rfl ?_
      exact ⟨i + 1, ⟨hlt, hid⟩, by dsimp only; omega, sl⟩
  have hge := geD hb hkl hi
  subst hge
  rw [List.drop_length, idxR] at hid
  rw [hid]
  refine awp_exit ?_
  refine awp_seq (ag [] rfl ?_)
  exact awp_ret (rtT (v := I .i64 (-1)) (hc := .refl))
theorem c_contains_binds (l : List Bind) (hl : l.length ≤ 1000000000) : ImpC Tryd.prog 58 [.one (.c (.sl 15 (l.map encBind))), .one (.clo 59 [])] [] (B (l.any tyd)) [] := by
  have h := c_index_binds l hl
  rw [← idx_any tyd l 0]
  refine impC (n := 9) tok Tryd.func58 rfl rfl rfl ?_
  refine awp_seq (ag [] rfl ?_)
  refine awp_seq (awp_rg mixed ?_)
  refine ak 2 [] rfl ?_
  refine kc h ?_
  refine ak 2 [] rfl ?_
  refine az ?_
  exact awp_ret rtT

def boolT : Nat := 4
def ftL (ep : R) (g : List Str) (ok : Bool) (ks : List Core) (bs : List Bind) (al : List Alt) : List (Nat × AObj) :=
  [(5, .var boolT [.c (.bool ok)]), (2, .var mT [.mr 800]), (7, .var 107 [ep, .c (.sl 1 (g.map encS))]), (701, .arr 46 15 (encBinds bs) 0), (702, .arr 38 10 (encCores ks) 0), (703, .arr 69 14 (encAlts al) 0)]
theorem wfT (ep : R) (g : List Str) (ok : Bool) (ks : List Core) (bs : List Bind) (al : List Alt) (h : ep.refs = [701] ∨ ep.refs = [702] ∨ ep.refs = [703]) (x : CM) : Wf [800, 5, 2, 7, 701, 702, 703] ((800, mapO x) :: ftL ep g ok ks bs al) := by
  refine ⟨rfl, ?_⟩
  rcases h with h | h | h <;> simp [ftL, refsH, AObj.refs, mapO, R.refsL, R.refs, h, subset, AObj.live, AObj.plain] <;> rfl
def PfSpec (c : Core) : Prop := ∀ m : CM, (∀ s, 0 ≤ cnt m s ∧ cnt m s + csize c ≤ 1000000000) → csize c ≤ 400000 →
  ∃ m', Same m m' ∧ ImpC Tryd.prog 33 [.one (.mr 800), .pa (encCore c)] [(800, mapO m)] (B (fitsR c (gset m))) [(800, mapO m')]

theorem c_fits2_B {m m' : CM} {r : Bool} {ks : List Core} {bs : List Bind} {al : List Alt} (g : List Str) {j : Nat} {y : Bind} (hx : bs[j]? = some y) (ok : Bool) (hm : ok = false → m' = m)
    (hf : ok = true → ImpC Tryd.prog 33 [.one (.mr 800), .pa (encCore y.body)] [(800, mapO m)] (B r) [(800, mapO m')]) :
    ImpC Tryd.prog 61 ([R.vp 5 0, R.vp 2 0, R.vp 7 0].map V.one) ((800, mapO m) :: ftL (.ep 701 j 5 bs.length) g ok ks bs al) (.tup []) ((800, mapO m') :: ftL (.ep 701 j 5 bs.length) g (ok && r) ks bs al) := by
  have hx' : (encBinds bs)[j]? = some (encBind y) := encBinds_at hx
  have hl : bs.length = (encBinds bs).length := by rw [encBinds_map, List.length_map]
  have hlt := (List.getElem?_eq_some_iff.1 hx).1
  cases ok with
  | false =>
    rw [hm rfl, Bool.false_and]
    refine impC (n := 12) tok Tryd.func61 rfl rfl rfl ?_
    refine agN [] rfl ?_
    exact ⟨.inl rfl, ⟨_, _, .nil, .nil, rfl⟩, ⟨⟨_, rfl, .map⟩, ⟨_, rfl, .var rfl⟩, ⟨_, rfl, .var rfl⟩, ⟨_, rfl, .var rfl⟩, ⟨_, rfl, .arr⟩, ⟨_, rfl, .arr⟩, ⟨_, rfl, .arr⟩, trivial⟩, rfl⟩
  | true =>
    have hf := hf rfl
    rw [Bool.true_and]
    refine impC (n := 12) tok Tryd.func61 rfl rfl rfl ?_
    refine awp_rg mixed ?_
    refine ak 7 [(6, .row j (encBind y))] rfl ?_
    refine kcG hf ?_
    refine ak 2 [] rfl ?_
    refine az ?_
    exact ⟨.inl rfl, ⟨_, _, .nil, .nil, rfl⟩, ⟨⟨_, rfl, .map⟩, ⟨_, rfl, .var rfl⟩, ⟨_, rfl, .var rfl⟩, ⟨_, rfl, .var rfl⟩, ⟨_, rfl, .arr⟩, ⟨_, rfl, .arr⟩, ⟨_, rfl, .arr⟩, trivial⟩, rfl⟩
theorem c_fits2_K {m m' : CM} {r : Bool} {ks : List Core} {bs : List Bind} {al : List Alt} (g : List Str) {j : Nat} {y : Core} (hx : ks[j]? = some y) (ok : Bool) (hm : ok = false → m' = m)
    (hf : ok = true → ImpC Tryd.prog 33 [.one (.mr 800), .pa (encCore y)] [(800, mapO m)] (B r) [(800, mapO m')]) :
    ImpC Tryd.prog 61 ([R.vp 5 0, R.vp 2 0, R.vp 7 0].map V.one) ((800, mapO m) :: ftL (.ep 702 j 0 ks.length) g ok ks bs al) (.tup []) ((800, mapO m') :: ftL (.ep 702 j 0 ks.length) g (ok && r) ks bs al) := by
  have hx' : (encCores ks)[j]? = some (encCore y) := encCores_at hx
  have hl : ks.length = (encCores ks).length := by rw [encCores_map, List.length_map]
  have hlt := (List.getElem?_eq_some_iff.1 hx).1
  cases ok with
  | false =>
    rw [hm rfl, Bool.false_and]
    refine impC (n := 12) tok Tryd.func61 rfl rfl rfl ?_
    refine agN [] rfl ?_
    exact ⟨.inl rfl, ⟨_, _, .nil, .nil, rfl⟩, ⟨⟨_, rfl, .map⟩, ⟨_, rfl, .var rfl⟩, ⟨_, rfl, .var rfl⟩, ⟨_, rfl, .var rfl⟩, ⟨_, rfl, .arr⟩, ⟨_, rfl, .arr⟩, ⟨_, rfl, .arr⟩, trivial⟩, rfl⟩
  | true =>
    have hf := hf rfl
    rw [Bool.true_and]
    refine impC (n := 12) tok Tryd.func61 rfl rfl rfl ?_
    refine awp_rg mixed ?_
    refine ak 7 [(6, .row j (encCore y))] rfl ?_
    refine kcG hf ?_
    refine ak 2 [] rfl ?_
    refine az ?_
    exact ⟨.inl rfl, ⟨_, _, .nil, .nil, rfl⟩, ⟨⟨_, rfl, .map⟩, ⟨_, rfl, .var rfl⟩, ⟨_, rfl, .var rfl⟩, ⟨_, rfl, .var rfl⟩, ⟨_, rfl, .arr⟩, ⟨_, rfl, .arr⟩, ⟨_, rfl, .arr⟩, trivial⟩, rfl⟩
theorem c_fits2_A {m m' : CM} {r : Bool} {ks : List Core} {bs : List Bind} {al : List Alt} (g : List Str) {j : Nat} {y : Alt} (hx : al[j]? = some y) (ok : Bool) (hm : ok = false → m' = m)
    (hf : ok = true → ImpC Tryd.prog 33 [.one (.mr 800), .pa (encCore y.body)] [(800, mapO m)] (B r) [(800, mapO m')]) :
    ImpC Tryd.prog 61 ([R.vp 5 0, R.vp 2 0, R.vp 7 0].map V.one) ((800, mapO m) :: ftL (.ep 703 j 4 al.length) g ok ks bs al) (.tup []) ((800, mapO m') :: ftL (.ep 703 j 4 al.length) g (ok && r) ks bs al) := by
  have hx' : (encAlts al)[j]? = some (encAlt y) := encAlts_at hx
  have hl : al.length = (encAlts al).length := by rw [encAlts_map, List.length_map]
  have hlt := (List.getElem?_eq_some_iff.1 hx).1
  cases ok with
  | false =>
    rw [hm rfl, Bool.false_and]
    refine impC (n := 12) tok Tryd.func61 rfl rfl rfl ?_
    refine agN [] rfl ?_
    exact ⟨.inl rfl, ⟨_, _, .nil, .nil, rfl⟩, ⟨⟨_, rfl, .map⟩, ⟨_, rfl, .var rfl⟩, ⟨_, rfl, .var rfl⟩, ⟨_, rfl, .var rfl⟩, ⟨_, rfl, .arr⟩, ⟨_, rfl, .arr⟩, ⟨_, rfl, .arr⟩, trivial⟩, rfl⟩
  | true =>
    have hf := hf rfl
    rw [Bool.true_and]
    refine impC (n := 12) tok Tryd.func61 rfl rfl rfl ?_
    refine awp_rg mixed ?_
    refine ak 7 [(6, .row j (encAlt y))] rfl ?_
    refine kcG hf ?_
    refine ak 2 [] rfl ?_
    refine az ?_
    exact ⟨.inl rfl, ⟨_, _, .nil, .nil, rfl⟩, ⟨⟨_, rfl, .map⟩, ⟨_, rfl, .var rfl⟩, ⟨_, rfl, .var rfl⟩, ⟨_, rfl, .var rfl⟩, ⟨_, rfl, .arr⟩, ⟨_, rfl, .arr⟩, ⟨_, rfl, .arr⟩, trivial⟩, rfl⟩
end Go.Proofs.YtojcjjjpniimiaaDoor

/- WHAT FITS (the program's scope.fits): the walk (2). -/
namespace Go.Proofs.YtojcjjjpniimiaaDoor
open Go Go.AM
set_option maxRecDepth 20000

theorem fits_parts (G : Str → Bool) {f n : Int} {s : Str} {t : Ty} {ks : List Core} {bs : List Bind} {al : List Alt} (h0 : ¬ (f = 5 ∨ f = 7 ∨ f = 6)) (h1 : ¬ f = 1) :
    fitsR (.mk f n s t ks bs al) G = ((decide (t.form = 0) && !bs.any tyd) && (partsL f s ks bs al).all fun p => fitsR p.2 (ext G p.1)) := by
  rw [fitsR]
  by_cases ht : t.form = 0
  · rw [if_neg (by omega), if_neg h1, fitsBs_all, fitsCs_all, fitsAs_all]
    unfold partsL
    rw [List.all_append, List.all_append, List.all_map, List.all_map, List.all_map, decide_eq_true ht, Bool.true_and]
    have hb : (bs.all fun c => fitsR c.body (ext G (gvs f s bs)) && decide (c.ty.form = 0)) = (!bs.any tyd && bs.all ((fun p : List Str × Core => fitsR p.2 (ext G p.1)) ∘ fun b => (gvs f s bs, b.body))) := by
      generalize gvs f s bs = g
      induction bs with
      | nil => rfl
      | cons b bs ih =>
        rw [List.all_cons, ih, List.any_cons, List.all_cons]
        unfold tyd
        show _ = (_ && (fitsR b.body (ext G g) && _))
        cases fitsR b.body (ext G g) <;> cases decide (b.ty.form = 0) <;> simp
    rw [hb, Bool.and_assoc]
    simp only [Function.comp_def, ext_ext]
  · rw [if_pos (by simp [ht]), decide_eq_false ht]; rfl

theorem c_pfits_step (c : Core) (ih : ∀ x, csize x < csize c → PfSpec x) : PfSpec c := by
  intro m hm hsz
  have hm0 : ∀ s, 0 ≤ cnt m s := fun s => (hm s).1
  obtain ⟨f, n, s, t, ks, bs, al⟩ := c
  have hbox : ∀ b : Bool, fitsR (.mk f n s t ks bs al) (gset m) = b → (f = 5 ∨ f = 7 ∨ f = 6) ∨ f = 1 → ∃ m', Same m m' ∧ ImpC Tryd.prog 33 [.one (.mr 800), .pa (encCore (.mk f n s t ks bs al))] [(800, mapO m)] (B (fitsR (.mk f n s t ks bs al) (gset m))) [(800, mapO m')] := by
    intro b hbe hf
    refine ⟨m, fun _ => rfl, ?_⟩
    have hmo := mstr_enc m
    have hlm := lookR_cnt m s
    have h0 := hm0 s
    refine impC (n := 50) tok Tryd.func33 rfl rfl rfl ?_
    refine awp_seq (ag [(1, .id 700)] rfl ?_)
    refine awp_seq (awp_seq (ag [] rfl ?_))
    refine awp_block (awp_seq (awp_seq (ag [] rfl ?_)))
    refine awp_cond rfl (fun hb1 => ?_) (fun hb1 => ?_)
    · have h5 : f = 5 := of_decide_eq_true hb1
      rw [show fitsR (.mk f n s t ks bs al) (gset m) = false by rw [fitsR, if_pos (.inl h5)]]
      refine awp_skip ?_
      refine awp_cond rfl (fun hb => ?_) (fun hb => absurd h5 (of_decide_eq_false hb))
      refine awp_seq (ag [] rfl ?_)
      exact awp_ret rtT
    have h5 : ¬ f = 5 := of_decide_eq_false hb1
    refine awp_seq (ag [] rfl ?_)
    refine awp_cond rfl (fun hb1 => ?_) (fun hb1 => ?_)
    · have h7 : f = 7 := of_decide_eq_true hb1
      rw [show fitsR (.mk f n s t ks bs al) (gset m) = false by rw [fitsR, if_pos (.inr (.inl h7))]]
      refine awp_skip ?_
      refine awp_cond rfl (fun hb => ?_) (fun hb => absurd h7 (of_decide_eq_false hb))
      refine awp_seq (ag [] rfl ?_)
      exact awp_ret rtT
    have h7 : ¬ f = 7 := of_decide_eq_false hb1
    refine ag [] rfl ?_
    refine awp_cond rfl (fun hb1 => ?_) (fun hb1 => ?_)
    · have h6 : f = 6 := of_decide_eq_true hb1
      rw [show fitsR (.mk f n s t ks bs al) (gset m) = false by rw [fitsR, if_pos (.inr (.inr (.inl h6)))]]
      refine awp_seq (ag [] rfl ?_)
      exact awp_ret rtT
    have h6 : ¬ f = 6 := of_decide_eq_false hb1
    have h1 : f = 1 := by omega
    refine awp_seq (ag [] rfl ?_)
    refine awp_cond rfl (fun hb => ?_) (fun hb => absurd h1 (of_decide_eq_false hb))
    by_cases hc : 0 < cnt m s
    · have hc' : decide (cnt m s > 0) = true := decide_eq_true hc
      rw [show fitsR (.mk f n s t ks bs al) (gset m) = decide (t.form = 0) by
        rw [fitsR]
        by_cases ht : t.form = 0
        · rw [if_neg (by omega), if_pos h1, decide_eq_true ht]; exact hc'
        · rw [if_pos (by simp [ht]), decide_eq_false ht]]
      refine awp_seq (ag [(3, .pc (I .i64 (cnt m s))), (5, .bv true), (10, .bv true)] rfl ?_)
      exact awp_ret rtT
    · have hc' : decide (cnt m s > 0) = false := decide_eq_false hc
      rw [show fitsR (.mk f n s t ks bs al) (gset m) = false by
        rw [fitsR]
        by_cases ht : t.form = 0
        · rw [if_neg (by omega), if_pos h1]; exact hc'
        · rw [if_pos (by simp [ht])]]
      refine awp_seq (ag [(3, .pc (I .i64 (cnt m s))), (5, .bv false), (10, .bv false)] rfl ?_)
      exact awp_ret rtT
  by_cases h0 : f = 5 ∨ f = 7 ∨ f = 6
  · exact hbox _ rfl (.inl h0)
  by_cases h1 : f = 1
  · exact hbox _ rfl (.inr h1)
  clear hbox
  rw [fits_parts (gset m) h0 h1]
  have hin : ∀ p ∈ partsL f s ks bs al, _ := fun p hp => @parts_in f n s t ks bs al p hp
  have hat := @parts_at f s ks bs al
  have hcp := c_parts f n s t ks bs al hsz
  have hrr : ∀ x ∈ (pObj (pRows f s ks bs al)).refs, x ∈ pRefs.refs := rows_refs
  have hN : (pRows f s ks bs al).length = (partsL f s ks bs al).length := by rw [pRows_len, partsL_len]
  have hpl := pRows_len f s ks bs al
  obtain ⟨hkl, hbl, hal⟩ : ks.length < 400000 ∧ bs.length < 400000 ∧ al.length < 400000 := by
    obtain ⟨_, _, _, q1, q2, q3⟩ := @size_in f n s t ks bs al
    omega
  have hrl : (pRows f s ks bs al).length ≤ 1200000 := by omega
  have hcb : ImpC Tryd.prog 58 [.one (.c (.sl 15 (encBinds bs))), .one (.clo 59 [])] [] (B (bs.any tyd)) [] := by rw [encBinds_map]; exact c_contains_binds bs (by omega)
  have hPN : (partsL f s ks bs al).take (pRows f s ks bs al).length = partsL f s ks bs al := by rw [hN, List.take_length]
  have hst : ∀ i p, (partsL f s ks bs al)[i]? = some p → (((decide (t.form = 0) && !bs.any tyd) && ((partsL f s ks bs al).take (i + 1)).all fun p => fitsR p.2 (ext (gset m) p.1)) = (((decide (t.form = 0) && !bs.any tyd) && ((partsL f s ks bs al).take i).all fun p => fitsR p.2 (ext (gset m) p.1)) && fitsR p.2 (ext (gset m) p.1))) := fun i p h => by rw [all_step _ h, Bool.and_assoc, Bool.and_assoc, Bool.and_assoc]
  rw [← hPN]
  generalize hOK : (fun i => (decide (t.form = 0) && !bs.any tyd) && ((partsL f s ks bs al).take i).all fun p => fitsR p.2 (ext (gset m) p.1)) = OK
  have hOKi : ∀ i, ((decide (t.form = 0) && !bs.any tyd) && ((partsL f s ks bs al).take i).all fun p => fitsR p.2 (ext (gset m) p.1)) = OK i := fun i => congrFun hOK i
  have hO0 : (decide (t.form = 0) && !bs.any tyd) = OK 0 := by rw [← hOKi 0, List.take_zero]; simp
  simp only [hOKi] at hst ⊢
  generalize partsL f s ks bs al = L at hN hin hat hst ⊢
  generalize pRows f s ks bs al = rows at hN hat hcp hrr hrl hpl ⊢
  obtain ⟨sq, hs0, hsP, hsR⟩ := exists_seq (P := fun _ x => Same m x) (R := fun i x y => ∀ p, L[i]? = some p → ∃ m', y = decs p.1 m' ∧ Same (incs p.1 x) m' ∧ (OK i = false → m' = incs p.1 x) ∧ (OK i = true → ImpC Tryd.prog 33 [.one (.mr 800), .pa (encCore p.2)] [(800, mapO (incs p.1 x))] (B (fitsR p.2 (ext (gset m) p.1))) [(800, mapO m')])) m (fun _ => rfl) (fun i x hx => by
    cases hp : L[i]? with
    | none => exact ⟨x, hx, fun p h => by cases h⟩
    | some p =>
      cases hok : OK i with
      | false => exact ⟨decs p.1 (incs p.1 x), fun s => by rw [hx s]; exact Same.decs (fun _ => rfl) s, fun p' h => by cases h; exact ⟨incs p.1 x, rfl, fun _ => rfl, fun _ => rfl, fun h => by cases h⟩⟩
      | true =>
        obtain ⟨q1, q2⟩ := hin p (List.mem_of_getElem? hp)
        have hx0 : ∀ s, 0 ≤ cnt x s := fun s => by rw [← hx s]; exact hm0 s
        obtain ⟨m', g1, g2⟩ := ih p.2 q1 (incs p.1 x) (fun s => by
          have h1 := hm s
          have h2 := hx s
          have h3 := cnt_incs s p.1 x
          have h4 : 0 ≤ times s p.1 ∧ times s p.1 ≤ p.1.length := by
            unfold times
            have := List.count_le_length (a := s) (l := p.1)
            omega
          omega) (by omega)
        rw [gset_incs hx0, ← gset_same hx] at g2
        exact ⟨decs p.1 m', fun s => by rw [hx s]; exact Same.decs g1 s, fun p' h => by cases h; exact ⟨m', rfl, g1, (fun h => by cases h), fun _ => g2⟩⟩)
  refine ⟨sq rows.length, hsP _, ?_⟩
  refine impC (n := 50) tok Tryd.func33 rfl rfl rfl ?_
  refine awp_seq (ag [(1, .id 700)] rfl ?_)
  refine awp_seq (awp_seq (ag [] rfl ?_))
  refine awp_block (awp_seq (awp_seq (ag [] rfl ?_)))
  refine awp_cond rfl (fun hb => by have : f = 5 := of_decide_eq_true hb; omega) (fun _ => ?_)
  refine awp_seq (ag [] rfl ?_)
  refine awp_cond rfl (fun hb => by have : f = 7 := of_decide_eq_true hb; omega) (fun _ => ?_)
  refine ag [] rfl ?_
  refine awp_cond rfl (fun hb => by have : f = 6 := of_decide_eq_true hb; omega) (fun _ => ?_)
  refine awp_seq (ag [] rfl ?_)
  refine awp_cond rfl (fun hb => absurd (of_decide_eq_true hb) h1) (fun _ => ?_)
  refine awp_skip ?_
  refine awp_seq (AWp.cut (mk [(2, .one (.vp 2 0)), (3, .one (.vp 700 0)), (5, .one (.vp 5 0))] [(2, .var mT [.mr 800]), (5, .var boolT [.c (.bool (OK 0))]), (700, .var 38 (cellsC (.mk f n s t ks bs al))), (800, mapO m)]) ?_ ?_)
  · by_cases ht : t.form = 0
    · have ht' : decide (t.form = 0) = true := decide_eq_true ht
      rw [← hO0, ht', Bool.true_and]
      refine awp_rg mixed ?_
      refine ak 7 [(4, .bv true)] rfl ?_
      refine kcG hcb ?_ (hw := ht')
      refine ak 4 [(4, .bv true), (9, .bv true)] rfl ?_
      refine az ?_
      exact sl
    · have ht' : decide (t.form = 0) = false := decide_eq_false ht
      rw [← hO0, ht', Bool.false_and]
      exact ag [(4, .bv false), (9, .bv false)] rfl sl
  refine awp_seq (awp_seq (awp_rg mixed ?_))
  refine kc hcp ?_
  refine ak 2 [] rfl ?_
  refine az ?_
  refine awp_block ?_
  refine awp_loop (fun i : Nat => mk [(2, .one (.vp 2 0)), (5, .one (.vp 5 0)), (37, .one (.ra 704 0 rows.length rows.length)), (38, I .i64 ((rows.length : Nat) : Int)), (39, I .i64 i)] ((704, pObj rows) :: [(2, .var mT [.mr 800]), (5, .var boolT [.c (.bool (OK i))]), (701, .arr 46 15 (encBinds bs) 0), (702, .arr 38 10 (encCores ks) 0), (703, .arr 69 14 (encAlts al) 0), (800, mapO (sq i))])) (fun i => i ≤ rows.length) (fun i => rows.length - i) 0 (Nat.zero_le _) (by rw [hs0]; exact slR pRefs hrr ⟨_, rfl, .rarrS rfl⟩) ?_
  intro i hi
  refine awp_seq (ag [] rfl ?_)
  refine awp_seq (awp_cond rfl (fun hb => ?_) (fun hb => ?_))
  · have hlt : i < rows.length := by
      have : (i : Int) < (rows.length : Int) := of_decide_eq_true hb
      omega
    refine awp_skip ?_
    refine awp_seq (awp_block ?_)
    rcases hat hlt with ⟨j, b, hb', hro, hpa, _⟩ | ⟨j, k, hk', hro, hpa, _⟩ | ⟨j, al', ha', hro, hpa, _⟩
    · obtain ⟨m', e1, e2, e3, e4⟩ := hsR i _ hpa
      obtain ⟨q1, q2⟩ := hin _ (List.mem_of_getElem? hpa)
      have hx := hsP i
      have hsti := hst i _ hpa
      dsimp only at e1 e2 e3 e4 q1 q2 hsti
      have hc1 := c_fits2_B (ks := ks) (bs := bs) (al := al) (gvs f s bs) hb' (OK i) e3 e4
      rw [← hsti] at hc1
      have hci := c_inside (gvs f s bs) (sq i) m' _ _ [800, 5, 2, 7, 701, 702, 703] (by omega) (fun u => by have := hm u; have := hx u; omega) (fun u => by
        have h1 := hm u
        have h2 := hx u
        have h3 := e2 u
        rw [cnt_incs] at h3
        have h4 : 0 ≤ times u (gvs f s bs) ∧ times u (gvs f s bs) ≤ (gvs f s bs).length := by
          unfold times
          have := List.count_le_length (a := u) (l := gvs f s bs)
          omega
        omega) (wfT _ _ _ _ _ _ (by simp [R.refs])) (wfT _ _ _ _ _ _ (by simp [R.refs])) rfl (by kernel_rfl) hc1
      rw [← e1] at hci
      refine awp_seq (ag [(1, .rr (prow 701 5 bs.length (gvs f s bs) j))] rfl ?_)
      refine awp_rg mixed ?_
      refine ak 4 [] rfl ?_
      refine kc hci ?_
      refine az ?_
      refine ag [] rfl ?_
      exact ⟨i + 1, hlt, by dsimp only; omega, slR pRefs hrr ⟨_, rfl, .rarrS rfl⟩⟩
    · obtain ⟨m', e1, e2, e3, e4⟩ := hsR i _ hpa
      obtain ⟨q1, q2⟩ := hin _ (List.mem_of_getElem? hpa)
      have hx := hsP i
      have hsti := hst i _ hpa
      dsimp only at e1 e2 e3 e4 q1 q2 hsti
      have hc1 := c_fits2_K (ks := ks) (bs := bs) (al := al) (gvs f s bs) hk' (OK i) e3 e4
      rw [← hsti] at hc1
      have hci := c_inside (gvs f s bs) (sq i) m' _ _ [800, 5, 2, 7, 701, 702, 703] (by omega) (fun u => by have := hm u; have := hx u; omega) (fun u => by
        have h1 := hm u
        have h2 := hx u
        have h3 := e2 u
        rw [cnt_incs] at h3
        have h4 : 0 ≤ times u (gvs f s bs) ∧ times u (gvs f s bs) ≤ (gvs f s bs).length := by
          unfold times
          have := List.count_le_length (a := u) (l := gvs f s bs)
          omega
        omega) (wfT _ _ _ _ _ _ (by simp [R.refs])) (wfT _ _ _ _ _ _ (by simp [R.refs])) rfl (by kernel_rfl) hc1
      rw [← e1] at hci
      refine awp_seq (ag [(1, .rr (prow 702 0 ks.length (gvs f s bs) j))] rfl ?_)
      refine awp_rg mixed ?_
      refine ak 4 [] rfl ?_
      refine kc hci ?_
      refine az ?_
      refine ag [] rfl ?_
      exact ⟨i + 1, hlt, by dsimp only; omega, slR pRefs hrr ⟨_, rfl, .rarrS rfl⟩⟩
    · obtain ⟨m', e1, e2, e3, e4⟩ := hsR i _ hpa
      obtain ⟨q1, q2⟩ := hin _ (List.mem_of_getElem? hpa)
      have hx := hsP i
      have hsti := hst i _ hpa
      dsimp only at e1 e2 e3 e4 q1 q2 hsti
      have hc1 := c_fits2_A (ks := ks) (bs := bs) (al := al) (gvs f s bs ++ al'.vars) ha' (OK i) e3 e4
      rw [← hsti] at hc1
      have hci := c_inside (gvs f s bs ++ al'.vars) (sq i) m' _ _ [800, 5, 2, 7, 701, 702, 703] (by omega) (fun u => by have := hm u; have := hx u; omega) (fun u => by
        have h1 := hm u
        have h2 := hx u
        have h3 := e2 u
        rw [cnt_incs] at h3
        have h4 : 0 ≤ times u (gvs f s bs ++ al'.vars) ∧ times u (gvs f s bs ++ al'.vars) ≤ (gvs f s bs ++ al'.vars).length := by
          unfold times
          have := List.count_le_length (a := u) (l := gvs f s bs ++ al'.vars)
          omega
        omega) (wfT _ _ _ _ _ _ (by simp [R.refs])) (wfT _ _ _ _ _ _ (by simp [R.refs])) rfl (by kernel_rfl) hc1
      rw [← e1] at hci
      refine awp_seq (ag [(1, .rr (prow 703 4 al.length (gvs f s bs ++ al'.vars) j))] rfl ?_)
      refine awp_rg mixed ?_
      refine ak 4 [] rfl ?_
      refine kc hci ?_
      refine az ?_
      refine ag [] rfl ?_
      exact ⟨i + 1, hlt, by dsimp only; omega, slR pRefs hrr ⟨_, rfl, .rarrS rfl⟩⟩
  have hge : i = rows.length := by
    have : ¬ (i : Int) < (rows.length : Int) := of_decide_eq_false hb
    omega
  subst hge
  refine awp_exit ?_
  refine awp_seq (ag [] rfl ?_)
  exact awp_ret rtT
theorem c_pfits : ∀ (n : Nat) (c : Core), csize c ≤ n → PfSpec c
  | 0, c, h => by have := csize_pos c; omega
  | n + 1, c, h => c_pfits_step c fun x hx => c_pfits n x (by omega)
end Go.Proofs.YtojcjjjpniimiaaDoor

/- WHAT IS CHECKED (the program's Check): the walks. -/
namespace Go.Proofs.YtojcjjjpniimiaaDoor
open Go Go.AM
set_option maxRecDepth 20000

/-- Names, each once, in the order in which they come first. -/
def seen : List Str → List Str → List Str
  | [], o => o
  | s :: l, o => seen l (if s ∈ o then o else o ++ [s])
theorem seen_app (s : Str) : ∀ l o : List Str, seen (l ++ [s]) o = if s ∈ seen l o then seen l o else seen l o ++ [s]
  | [], _ => rfl
  | x :: l, o => by rw [List.cons_append, seen, seen_app s l]; rfl
theorem seen_le : ∀ l o : List Str, (seen l o).length ≤ o.length + l.length
  | [], o => by simp [seen]
  | s :: l, o => by
    rw [seen, List.length_cons]
    by_cases h : s ∈ o
    · rw [if_pos h]
      have := seen_le l o
      omega
    · rw [if_neg h]
      have := seen_le l (o ++ [s])
      rw [List.length_append, List.length_singleton] at this
      omega
theorem seen_eq : ∀ l o : List Str, decide ((seen l o).length = o.length + l.length) = (onceR l && l.all fun s => !decide (s ∈ o))
  | [], o => by simp [seen, onceR]
  | s :: l, o => by
    rw [seen, onceR, List.all_cons, List.length_cons]
    by_cases h : s ∈ o
    · rw [if_pos h]
      have := seen_le l o
      rw [decide_eq_false (by omega), decide_eq_true h]
      simp
    · rw [if_neg h]
      have ih := seen_eq l (o ++ [s])
      rw [List.length_append, List.length_singleton, Nat.add_assoc, Nat.add_comm 1] at ih
      rw [ih, decide_eq_false h]
      have : (l.all fun u => !decide (u ∈ o ++ [s])) = (!decide (s ∈ l) && l.all fun u => !decide (u ∈ o)) := by
        clear ih h
        induction l with
        | nil => rfl
        | cons u l ih =>
          rw [List.all_cons, List.all_cons, ih]
          by_cases h1 : u = s
          · subst h1; simp
          · have h2 : ¬ s = u := fun e => h1 e.symm
            have e1 : decide (u ∈ o ++ [s]) = decide (u ∈ o) := by simp [h1]
            have e2 : decide (s ∈ u :: l) = decide (s ∈ l) := by simp [h2]
            rw [e1, e2]
            cases decide (u ∈ o) <;> cases decide (s ∈ l) <;> simp
      rw [this]
      cases onceR l <;> cases decide (s ∈ l) <;> simp
theorem seen_once (l : List Str) : decide ((seen l []).length = l.length) = onceR l := by
  have := seen_eq l []
  simp only [List.length_nil, Nat.zero_add] at this
  rw [this]
  simp
theorem mput_seen (s : Str) : ∀ o : List Str, mput s [] (o.map encS) = (if s ∈ o then o else o ++ [s]).map encS
  | [] => rfl
  | x :: o => by
    have ih := mput_seen s o
    simp only [List.map_cons, encS, mput] at ih ⊢
    by_cases h : x = s
    · subst h; simp [encS]
    · have h2 : ¬ s = x := fun e => h e.symm
      rw [if_neg h, ih]
      by_cases h3 : s ∈ o <;> simp [h2, h3, encS]
theorem mstr_seen : ∀ o : List Str, mstr (o.map encS)
  | [] => trivial
  | _ :: o => mstr_seen o
theorem c_once (l : List Str) (hl : l.length ≤ 1000000000) : ImpC Tryd.prog 29 [strsV l] [] (B (onceR l)) [] := by
  have hkl : (l.map encS).length = l.length := List.length_map _
  rw [← seen_once]
  refine impC (n := 22) tok Tryd.func29 rfl rfl rfl ?_
  refine awp_seq (ag [] rfl ?_)
  refine awp_seq (ag [(0, .id 800)] rfl ?_)
  refine awp_seq (awp_seq (ag [] rfl ?_))
  refine awp_block ?_
  refine awp_loop (fun i : Nat => mk [(0, strsV l), (3, .one (.mr 800)), (7, strsV l), (8, I .i64 ((l.map encS).length : Int)), (9, I .i64 i)] [(800, .map true ((seen (l.take i) []).map encS))]) (fun i => i ≤ l.length) (fun i => l.length - i) 0 (Nat.zero_le _) sl ?_
  intro i hi
  have hms := mstr_seen (seen (l.take i) [])
  have hsl := seen_le (l.take i) []
  rw [List.length_take, List.length_nil] at hsl
  refine awp_seq (ag [] rfl ?_)
  refine awp_seq (awp_cond rfl (fun hb => ?_) (fun hb => ?_))
  · have hlt := ltD hb hkl
    obtain ⟨s, hs⟩ := get_of_lt hlt
    have hs' := getEnc encS hs
    have hst : seen (l.take (i + 1)) [] = if s ∈ seen (l.take i) [] then seen (l.take i) [] else seen (l.take i) [] ++ [s] := by rw [take_step hs, seen_app]
    have hmp := mput_seen s (seen (l.take i) [])
    rw [← hst] at hmp
    refine awp_skip ?_
    refine awp_seq (awp_block (awp_seq (ag [(0, .row i (encS s))] rfl ?_)))
    refine ag [] rfl ?_
    refine ag [] rfl ?_
    exact ⟨i + 1, hlt, by dsimp only; omega, sl⟩
  have hge := geD hb hkl hi
  subst hge
  rw [List.take_length] at hms hsl ⊢
  refine awp_exit ?_
  refine awp_seq (ag [] rfl ?_)
  have hval : decide ((((seen l []).map encS).length : Int) = ((l.map encS).length : Int)) = decide ((seen l []).length = l.length) := by
    rw [List.length_map, List.length_map]
    exact decide_eq_decide.2 Int.ofNat_inj
  rw [← hval]
  exact awp_ret rtT

def supT : Nat := 40
def supC (x : Sup) : List R := [.c (.str x.name), .c (.sl 1 (x.params.map encS))] ++ cellsC x.body
theorem c_ck11 {m m' : CM} {x : Sup} {ok r : Bool} (hx : x.params.length ≤ 1000000000) (hm : (ok && onceR x.params) = false → m' = m)
    (hf : (ok && onceR x.params) = true → ImpC Tryd.prog 33 [.one (.mr 800), .pa (encCore x.body)] [(800, mapO m)] (B r) [(800, mapO m')]) :
    ImpC Tryd.prog 32 ([R.vp 6 0, R.vp 4 0, R.vp 7 0].map V.one) [(800, mapO m), (6, .var boolT [.c (.bool ok)]), (4, .var supT (supC x)), (7, .var mT [.mr 800])] (.tup []) [(800, mapO m'), (6, .var boolT [.c (.bool (ok && (onceR x.params && r)))]), (4, .var supT (supC x)), (7, .var mT [.mr 800])] := by
  have ho := c_once x.params hx
  generalize onceR x.params = o at hm hf ho ⊢
  cases ok with
  | false =>
    rw [hm rfl]
    refine impC (n := 15) tok Tryd.func32 rfl rfl rfl ?_
    refine ag [] rfl ?_
    exact ⟨.inl rfl, ⟨_, _, .nil, .nil, rfl⟩, ⟨⟨_, rfl, .map⟩, ⟨_, rfl, .var rfl⟩, ⟨_, rfl, .var rfl⟩, ⟨_, rfl, .var rfl⟩, trivial⟩, rfl⟩
  | true =>
    refine impC (n := 15) tok Tryd.func32 rfl rfl rfl ?_
    refine awp_rg mixed ?_
    refine ak 4 [] rfl ?_
    refine kcG ho ?_
    cases o with
    | false =>
      rw [hm rfl]
      refine ak 8 [] rfl ?_
      refine az ?_
      exact ⟨.inl rfl, ⟨_, _, .nil, .nil, rfl⟩, ⟨⟨_, rfl, .map⟩, ⟨_, rfl, .var rfl⟩, ⟨_, rfl, .var rfl⟩, ⟨_, rfl, .var rfl⟩, trivial⟩, rfl⟩
    | true =>
      refine ak 5 [] rfl ?_
      refine kcG (hf rfl) ?_
      refine ak 2 [] rfl ?_
      refine az ?_
      exact ⟨.inl rfl, ⟨_, _, .nil, .nil, rfl⟩, ⟨⟨_, rfl, .map⟩, ⟨_, rfl, .var rfl⟩, ⟨_, rfl, .var rfl⟩, ⟨_, rfl, .var rfl⟩, trivial⟩, rfl⟩

/-- Combinators whose check is within bounds. -/
def CkOk (l : List Sup) : Prop := ∀ x ∈ l, csize x.body ≤ 400000 ∧ x.params.length ≤ 100000
theorem c_ck1 (l : List Sup) (hl : l.length ≤ 100000) (h : CkOk l) (m : CM) (hm : ∀ s, 0 ≤ cnt m s ∧ cnt m s ≤ 100000) (ok : Bool) : ∃ m', Same m m' ∧
    ImpC Tryd.prog 31 ([R.vp 1 0, R.vp 7 0, R.vp 6 0].map V.one) [(800, mapO m), (1, .var 24 [.c (.sl 12 (l.map encSup))]), (7, .var mT [.mr 800]), (6, .var boolT [.c (.bool ok)])] (.tup [])
      [(800, mapO m'), (1, .var 24 [.c (.sl 12 (l.map encSup))]), (7, .var mT [.mr 800]), (6, .var boolT [.c (.bool (ok && l.all fun x => onceR x.params && fitsR x.body (ext (gset m) x.params)))])] := by
  have hm0 : ∀ s, 0 ≤ cnt m s := fun s => (hm s).1
  have hkl : (l.map encSup).length = l.length := List.length_map _
  generalize hOK : (fun i => ok && (l.take i).all fun x => onceR x.params && fitsR x.body (ext (gset m) x.params)) = OK
  have hOKi : ∀ i, (ok && (l.take i).all fun x => onceR x.params && fitsR x.body (ext (gset m) x.params)) = OK i := fun i => congrFun hOK i
  have hst : ∀ i x, l[i]? = some x → OK (i + 1) = (OK i && (onceR x.params && fitsR x.body (ext (gset m) x.params))) := fun i x h => by rw [← hOKi, ← hOKi, all_step _ h, Bool.and_assoc]
  have hO0 : OK 0 = ok := by rw [← hOKi 0, List.take_zero]; simp
  have hON : (ok && l.all fun x => onceR x.params && fitsR x.body (ext (gset m) x.params)) = OK l.length := by rw [← hOKi, List.take_length]
  rw [hON]
  obtain ⟨sq, hs0, hsP, hsR⟩ := exists_seq (P := fun _ x => Same m x) (R := fun i x y => ∀ p, l[i]? = some p → ∃ m', y = decs p.params m' ∧ Same (incs p.params x) m' ∧ ((OK i && onceR p.params) = false → m' = incs p.params x) ∧ ((OK i && onceR p.params) = true → ImpC Tryd.prog 33 [.one (.mr 800), .pa (encCore p.body)] [(800, mapO (incs p.params x))] (B (fitsR p.body (ext (gset m) p.params))) [(800, mapO m')])) m (fun _ => rfl) (fun i x hx => by
    cases hp : l[i]? with
    | none => exact ⟨x, hx, fun p h => by cases h⟩
    | some p =>
      cases hok : (OK i && onceR p.params) with
      | false => exact ⟨decs p.params (incs p.params x), fun s => by rw [hx s]; exact Same.decs (fun _ => rfl) s, fun p' h => by cases h; rw [hok]; exact ⟨incs p.params x, rfl, fun _ => rfl, fun _ => rfl, fun h => by cases h⟩⟩
      | true =>
        obtain ⟨q1, q2⟩ := h p (List.mem_of_getElem? hp)
        have hx0 : ∀ s, 0 ≤ cnt x s := fun s => by rw [← hx s]; exact hm0 s
        obtain ⟨m', g1, g2⟩ := c_pfits _ p.body (Nat.le_refl _) (incs p.params x) (fun s => by
          have h1 := hm s
          have h2 := hx s
          have h3 := cnt_incs s p.params x
          have h4 : 0 ≤ times s p.params ∧ times s p.params ≤ p.params.length := by
            unfold times
            have := List.count_le_length (a := s) (l := p.params)
            omega
          omega) (by omega)
        rw [gset_incs hx0, ← gset_same hx] at g2
        exact ⟨decs p.params m', fun s => by rw [hx s]; exact Same.decs g1 s, fun p' h => by cases h; rw [hok]; exact ⟨m', rfl, g1, (fun h => by cases h), fun _ => g2⟩⟩)
  refine ⟨sq l.length, hsP _, ?_⟩
  refine impC (n := 17) tok Tryd.func31 rfl rfl rfl ?_
  refine awp_seq (ag [] rfl ?_)
  refine awp_block ?_
  refine awp_loop (fun i : Nat => mk [(1, .one (.vp 7 0)), (2, .one (.vp 6 0)), (5, .one (.c (.sl 12 (l.map encSup)))), (6, I .i64 ((l.map encSup).length : Int)), (7, I .i64 i)] [(1, .var 24 [.c (.sl 12 (l.map encSup))]), (6, .var boolT [.c (.bool (OK i))]), (7, .var mT [.mr 800]), (800, mapO (sq i))]) (fun i => i ≤ l.length) (fun i => l.length - i) 0 (Nat.zero_le _) (by rw [hs0, hO0]; exact sl) ?_
  intro i hi
  refine awp_seq (ag [] rfl ?_)
  refine awp_seq (awp_cond rfl (fun hb => ?_) (fun hb => ?_))
  · have hlt := ltD hb hkl
    obtain ⟨x, hxi⟩ := get_of_lt hlt
    have hxi' := getEnc encSup hxi
    obtain ⟨q1, q2⟩ := h x (List.mem_of_getElem? hxi)
    obtain ⟨m', e1, e2, e3, e4⟩ := hsR i x hxi
    have hx := hsP i
    have hc1 := c_ck11 (by omega) e3 e4
    rw [← hst i x hxi] at hc1
    have hci := c_inside x.params (sq i) m' _ _ [800, 6, 4, 7] (by omega) (fun u => by have := hm u; have := hx u; omega) (fun u => by
      have h1 := hm u
      have h2 := hx u
      have h3 := e2 u
      rw [cnt_incs] at h3
      have h4 : 0 ≤ times u x.params ∧ times u x.params ≤ x.params.length := by
        unfold times
        have := List.count_le_length (a := u) (l := x.params)
        omega
      omega) (fun x => ⟨rfl, by kernel_rfl⟩) (fun x => ⟨rfl, by kernel_rfl⟩) rfl (by kernel_rfl) hc1
    rw [← e1] at hci
    refine awp_skip ?_
    refine awp_seq (awp_block (awp_seq (ag [(0, .row i (encSup x))] rfl ?_)))
    refine awp_rg mixed ?_
    refine ak 4 [] rfl ?_
    refine kc hci ?_
    refine az ?_
    refine ag [] rfl ?_
    exact ⟨i + 1, hlt, by dsimp only; omega, sl⟩
  have hge := geD hb hkl hi
  subst hge
  refine awp_exit ?_
  exact ⟨.inl rfl, ⟨_, _, .nil, .nil, rfl⟩, ⟨⟨_, rfl, .map⟩, ⟨_, rfl, .var rfl⟩, ⟨_, rfl, .var rfl⟩, ⟨_, rfl, .var rfl⟩, trivial⟩, rfl⟩
end Go.Proofs.YtojcjjjpniimiaaDoor

/- WHAT IS CHECKED (the program's Check). -/
namespace Go.Proofs.YtojcjjjpniimiaaDoor
open Go Go.AM
set_option maxRecDepth 20000

theorem c_Check (l : List Sup) (hl : l.length ≤ 100000) (h : CkOk l) : ImpC Tryd.prog 9 [.one (.c (.sl 12 (l.map encSup)))] [] (B (checkR l)) [] := by
  have hkl : (l.map encSup).length = l.length := List.length_map _
  have ho := c_once (l.map (·.name)) (by rw [List.length_map]; omega)
  have hti : ∀ s, 0 ≤ times s (l.map (·.name)) ∧ times s (l.map (·.name)) ≤ 100000 := fun s => by
    have := times_take s (l.map (·.name)) (l.map (·.name)).length
    rw [List.take_length, List.length_map] at this
    omega
  have hca : ∀ u, cnt (incs (l.map (·.name)) []) u = times u (l.map (·.name)) := fun u => by rw [cnt_incs]; show (0 : Int) + _ = _; omega
  obtain ⟨m', hs, hc⟩ := c_ck1 l hl h (incs (l.map (·.name)) []) (fun s => by rw [hca]; exact hti s) (onceR (l.map (·.name)))
  rw [gset_incs_nil] at hc
  rw [show checkR l = (onceR (l.map (·.name)) && l.all fun x => onceR x.params && fitsR x.body (ext (fun s => decide (s ∈ l.map (·.name))) x.params)) from rfl]
  generalize (onceR (l.map (·.name)) && l.all fun x => onceR x.params && fitsR x.body (ext (fun s => decide (s ∈ l.map (·.name))) x.params)) = r at hc ⊢
  have hci := c_inside (l.map (·.name)) [] m' _ _ [800, 1, 7, 6] (by rw [List.length_map]; omega) (fun u => by show (0 : Int) ≤ (0 : Int) ∧ (0 : Int) ≤ _; omega) (fun u => by
    have := hti u
    have := hs u
    rw [hca u] at this
    omega) (fun x => ⟨rfl, by kernel_rfl⟩) (fun x => ⟨rfl, by kernel_rfl⟩) rfl (by kernel_rfl) hc
  refine impC (n := 28) tok Tryd.func9 rfl rfl rfl ?_
  refine awp_seq (ag [] rfl ?_)
  refine awp_seq (ag [] rfl ?_)
  refine AWp.sub (Sub.own (t := 3) (id := 500) 9 1 rfl rfl) ?_
  refine awp_seq (awp_seq (ag [] rfl ?_))
  refine awp_block ?_
  refine awp_loop (fun i : Nat => mk [(1, .one (.vp 1 0)), (3, .one (.hs 500 0 i i)), (8, .one (.c (.sl 12 (l.map encSup)))), (9, I .i64 ((l.map encSup).length : Int)), (10, I .i64 i)] [(1, .var 24 [.c (.sl 12 (l.map encSup))]), (500, .arr 9 1 (((l.take i).map (·.name)).map encS) 0)]) (fun i => i ≤ l.length) (fun i => l.length - i) 0 (Nat.zero_le _) sl ?_
  intro i hi
  have hnl : ((l.take i).map (·.name)).length = i := by rw [List.length_map, List.length_take]; omega
  refine awp_seq (ag [] rfl ?_)
  refine awp_seq (awp_cond rfl (fun hb => ?_) (fun hb => ?_))
  · have hlt := ltD hb hkl
    obtain ⟨x, hxi⟩ := get_of_lt hlt
    have hxi' := getEnc encSup hxi
    have hrows : ((l.take i).map (·.name)).map encS ++ [[.str x.name]] = ((l.take (i + 1)).map (·.name)).map encS := by rw [take_step hxi]; simp [encS]
    refine awp_skip ?_
    refine awp_seq (awp_block (awp_seq (ag [(0, .row i (encSup x))] rfl ?_)))
    refine ag [] rfl ?_
    refine ag [] rfl ?_
    exact ⟨i + 1, hlt, by dsimp only; omega, sl⟩
  have hge := geD hb hkl hi
  subst hge
  rw [List.take_length] at hnl ⊢
  generalize l.map (·.name) = N at hnl hci ho ⊢
  refine awp_exit ?_
  refine AWp.sub (Sub.freeze (id := 500) rfl) (AWp.sub (cv 3 (N.map encS)) ?_)
  refine awp_seq (ag [(1, .pc (B (onceR N)))] rfl ?_)
  refine awp_seq (ag [(0, .id 800)] rfl ?_)
  refine awp_seq (awp_rg mixed ?_)
  refine ak 3 [] rfl ?_
  refine kc hci ?_
  refine az ?_
  refine awp_seq (ag [] rfl ?_)
  exact awp_ret rtT
end Go.Proofs.YtojcjjjpniimiaaDoor

/- THE LAW's SMALL FUNCTIONS: a variable, an application, a sum, a lambda; the example that lives. -/
namespace Go.Proofs.YtojcjjjpniimiaaDoor
open Go Go.AM
set_option maxRecDepth 20000

theorem c_v (s : Str) : ImpC Tryd.prog 15 [Go.AM.T s] [] (.pa (encCore (varC s))) [] := by
  refine impC (n := 5) tok Tryd.func15 rfl rfl rfl ?_
  refine awp_seq (ag [] rfl ?_)
  refine awp_seq (ag [] rfl ?_)
  refine awp_ret ?_
  exact rtC trw
theorem c_app25 (a b : Core) : ImpC Tryd.prog 34 [.pa (encCore a), .pa (encCore b)] [] (.pa (encCore (appC a b))) [] := by
  refine impC (n := 9) tok Tryd.func34 rfl rfl rfl ?_
  refine awp_seq (ag [] rfl ?_)
  refine awp_seq (ag [(2, .all)] rfl ?_)
  refine awp_ret ?_
  exact rtC trw
def addC (a b : Core) : Core := .mk 10 0 [97, 100, 100] zTy [a, b] [] []
theorem c_add25 (a b : Core) : ImpC Tryd.prog 14 [.pa (encCore a), .pa (encCore b)] [] (.pa (encCore (addC a b))) [] := by
  refine impC (n := 9) tok Tryd.func14 rfl rfl rfl ?_
  refine awp_seq (ag [] rfl ?_)
  refine awp_seq (ag [(2, .all)] rfl ?_)
  refine awp_ret ?_
  exact rtC trw
theorem c_lam25 (s : Str) (a : Core) : ImpC Tryd.prog 28 [Go.AM.T s, .pa (encCore a)] [] (.pa (encCore (lamC s a))) [] := by
  refine impC (n := 9) tok Tryd.func28 rfl rfl rfl ?_
  refine awp_seq (ag [] rfl ?_)
  refine awp_seq (ag [(2, .all)] rfl ?_)
  refine awp_ret ?_
  exact rtC trw
def intC (n : Int) : Core := .mk 3 n [] zTy [] [] []
def exB : Core := lamC [120] (appC (lamC [121] (addC (varC [120]) (varC [121]))) (intC 1))
def exL : List Bind := [.mk [102] zTy exB]
def exF : Str := [102, 64, 102, 49]
def exS : List Sup := [⟨[102], [[120]], appC (appC (varC exF) (varC [120])) (intC 1)⟩, ⟨exF, [[120], [121]], addC (varC [120]) (varC [121])⟩]
theorem ex_lift : liftR exL = exS := by kernel_rfl
theorem ex_check : checkR exS = true := by kernel_rfl
theorem c_lives : ImpC Tryd.prog 10 [] [] (B true) [] := by
  have hL := c_Lift exL (by decide) (fun b hb => by
    rw [List.mem_singleton.1 hb]
    exact ⟨⟨by kernel_rfl, by decide, by decide⟩, .inr ⟨by kernel_rfl, fun s hs => by
      have : s ∈ [([120] : Str)] := of_decide_eq_true hs
      rw [List.mem_singleton.1 this]; decide⟩, by decide, by decide⟩)
  rw [ex_lift] at hL
  have hE := c_seq exS (by decide) (fun x hx => by
    rcases List.mem_cons.1 hx with rfl | hx
    · exact ⟨by kernel_rfl, by decide, by decide⟩
    · rw [List.mem_singleton.1 hx]; exact ⟨by kernel_rfl, by decide, by decide⟩)
  have hC := c_Check exS (by decide) (fun x hx => by
    rcases List.mem_cons.1 hx with rfl | hx
    · exact ⟨by decide, by decide⟩
    · rw [List.mem_singleton.1 hx]; exact ⟨by decide, by decide⟩)
  rw [ex_check] at hC
  have v1 := c_v [120]
  have v2 := c_v [121]
  have v3 := c_v exF
  have a1 := c_add25 (varC [120]) (varC [121])
  have l1 := c_lam25 [121] (addC (varC [120]) (varC [121]))
  have a2 := c_app25 (lamC [121] (addC (varC [120]) (varC [121]))) (intC 1)
  have l2 := c_lam25 [120] (appC (lamC [121] (addC (varC [120]) (varC [121]))) (intC 1))
  have a3 := c_app25 (varC exF) (varC [120])
  have a4 := c_app25 (appC (varC exF) (varC [120])) (intC 1)
  refine impC (n := 35) tok Tryd.func10 rfl rfl rfl ?_
  refine awp_seq (ag [] rfl ?_)
  refine awp_seq (ag [] rfl ?_)
  refine awp_seq (awp_rg mixed ?_)
  refine ak 9 [(0, .pc (.pa (encCore (varC [120])))), (1, .pc (.pa (encCore (varC [121])))), (2, .pc (.pa (encCore (addC (varC [120]) (varC [121]))))), (3, .pc (.pa (encCore (lamC [121] (addC (varC [120]) (varC [121])))))), (5, .pc (.pa (encCore (appC (lamC [121] (addC (varC [120]) (varC [121]))) (intC 1))))), (6, .pc (.pa (encCore exB))), (8, .all)] rfl ?_
  refine kc hL ?_
  refine ak 1 [] rfl ?_
  refine az ?_
  refine AWp.sub (Sub.freeze (id := 500) rfl) (AWp.sub (cv 2 (exS.map encSup)) ?_)
  refine awp_seq (agN [(0, .all), (1, .pc (.pa (encCore (varC exF)))), (2, .pc (.pa (encCore (varC [120])))), (3, .pc (.pa (encCore (appC (varC exF) (varC [120]))))), (5, .pc (.pa (encCore (appC (appC (varC exF) (varC [120])) (intC 1))))), (7, .all), (8, .pc (.pa (encCore (varC [120])))), (9, .pc (.pa (encCore (varC [121])))), (10, .pc (.pa (encCore (addC (varC [120]) (varC [121]))))), (12, .all)] rfl ?_)
  refine awp_seq (ag [(2, .pc (B true)), (5, .pc (B true))] rfl ?_)
  exact awp_ret rtT
end Go.Proofs.YtojcjjjpniimiaaDoor
