/-
  Texts Lg19, Ls11, Lg20, Lg21, Lg22, Lc1, Lc2, Lc3, Lc4, Lc7, Lc8 in one.
-/
import Derived.Test.YtmoekkcdkjopgaaGreatDoorM12
/- TYPES PUT INTO CORE (3): core.SubstType, the walk. -/
namespace Go.Proofs.YtmoekkcdkjopgaaGreatDoor
open Go Go.AM
set_option maxRecDepth 20000
theorem c_sT_skip (f n : Int) (nm name : Str) (t by_ : Ty) (ks : List Core) (bs : List Bind) (al : List Alt)
    (hcs : csize (.mk f n nm t ks bs al) ≤ 40000000000) (hT : allT TyG (.mk f n nm t ks bs al)) (h7 : f = 7)
    (hs : nm = name ∨ (nm ≠ name ∧ ∃ tl : List Str, ImpC Tryz.prog 61 [.pa (encCore (.mk f n nm t ks bs al))] [] (strsV tl) [] ∧ ¬ name ∈ tl ∧ tl.length ≤ 20000000000)) :
    ImpC Tryz.prog 23 [.pa (encCore (.mk f n nm t ks bs al)), Go.AM.T name, tyV by_] [] (.pa (encCore (.mk f n nm t ks bs al))) [] := by
  have hob := c_ownP (csize (.mk f n nm t ks bs al)) _ (Nat.le_refl _) hcs hT
  have hob : ImpC Tryz.prog 59 [.pa (encCore (.mk f n nm t ks bs al))] [] (.pa (encCore (.mk f n nm t ks bs al))) [] := hob
  have hd7 : decide (f = 7) = true := decide_eq_true h7
  refine impC (n := 84) tok Tryz.func23 rfl rfl rfl ?_
  refine awp_seq (ag [] rfl ?_)
  refine awp_seq (awp_rg mixed ?_)
  refine ak 1 [] rfl ?_
  refine kc hob ?_
  refine ak 2 [] rfl ?_
  refine az ?_
  refine awp_seq (awp_seq (ag [] rfl ?_))
  refine awp_cond rfl (fun _ => ?_) (fun hb => ?_)
  · refine awp_seq (awp_seq ?_)
    rcases hs with h | ⟨h, tl, hty, hn, hl⟩
    · have hd : decide (nm = name) = true := decide_eq_true h
      refine ag [(4, .bv true), (10, .bv true)] rfl ?_
      refine awp_cond rfl (fun _ => ?_) (fun hb => by cases hb)
      refine awp_seq (ag [] rfl ?_)
      exact awp_ret (rtC trw)
    · have hd : decide (nm = name) = false := decide_eq_false h
      have hct := c_contains tl name (by omega)
      rw [decide_eq_false hn] at hct
      refine awp_rg mixed ?_
      refine ak 6 [(4, .bv false)] rfl ?_
      refine kcG hty ?_
      refine ak 1 [(4, .bv false)] rfl ?_
      refine kcG hct ?_
      refine ak 2 [(4, .bv false), (10, .bv false)] rfl ?_
      refine az ?_
      refine awp_cond rfl (fun _ => ?_) (fun hb => by cases hb)
      refine awp_seq (ag [] rfl ?_)
      exact awp_ret (rtC trw)
  · exact absurd (show decide (f = 7) = false from hb) (by rw [hd7]; decide)
/-- The objects, where how many there are is said apart. -/
def gHm (f n : Int) (s : Str) (t : Ty) (nk nb na : Nat) (ks : List Core) (bs : List Bind) (al : List Alt) : List (Nat × AObj) :=
  [(700, .var 37 (cellsG f n s t nk nb na)), (701, .arr 73 15 (encBinds bs) 0), (702, .arr 37 10 (encCores ks) 0), (703, .rarr 78 14 (altRows 0 al))]
theorem gWm {f n : Int} {s : Str} {t : Ty} {nk nb na : Nat} {ks : List Core} {bs : List Bind} {al A : List Alt} (h : fam 0 A = fam 0 al) : GW (gHm f n s t nk nb na ks bs A) (fam 0 al) := by
  rw [← h]
  refine ⟨fam_tf, fun x hx => ?_, rfl, rfl⟩
  simp only [gHm, refsH, AObj.refs, cellsG, R.refsL, R.refs, List.nil_append, List.append_nil, List.mem_append, List.mem_cons, List.not_mem_nil, or_false, false_or] at hx
  rcases hx with (rfl | rfl | rfl) | hx
  · exact .inl (by simp [gHm, keys])
  · exact .inl (by simp [gHm, keys])
  · exact .inl (by simp [gHm, keys])
  · exact .inr (altRows_refs x hx)
def gK (sb : Core → Core) (ks : List Core) : Nat → List Core
  | 0 => ks
  | _ + 1 => ks.map sb
def gB (sb : Core → Core) (bs : List Bind) : Nat → List Bind
  | 0 => bs
  | _ + 1 => bs.map (sbB sb)
def gA (sb : Core → Core) (al : List Alt) : Nat → List Alt
  | 0 => al
  | i + 1 => mixL (sbA sb) al i
theorem gA_fam {sb : Core → Core} {al : List Alt} : ∀ g, fam 0 (gA sb al g) = fam 0 al
  | 0 => rfl
  | i + 1 => fam_mixA sb al 0 i
theorem kbE (l : List Bind) : l.length = (encBinds l).length := by rw [encBinds_map, List.length_map]
theorem kcE (l : List Core) : l.length = (encCores l).length := by rw [encCores_map, List.length_map]
theorem c_sT_walk (f n : Int) (nm nm1 name : Str) (t by_ : Ty) (ks ks1 : List Core) (bs : List Bind) (al : List Alt) (ts : Ty → Ty) (sb : Core → Core)
    (hcs : csize (.mk f n nm t ks bs al) ≤ 40000000000) (hT : allT TyG (.mk f n nm t ks bs al)) (hkl : ks1.length = ks.length)
    (h7 : f = 7 → nm ≠ name ∧ bs = [] ∧ al = [] ∧ ∃ tl fr : List Str, ImpC Tryz.prog 61 [.pa (encCore (.mk f n nm t ks bs al))] [] (strsV tl) [] ∧ name ∈ tl ∧ tl.length ≤ 20000000000 ∧ ImpC Tryz.prog 63 [tyV by_] [] (strsV fr) [] ∧
      ImpC Tryz.prog 62 [.one (.vp 700 0), strsV fr] (gHl f n nm t ks [] []) (.tup []) (gHl f n nm1 t ks1 [] []))
    (hn7 : f ≠ 7 → nm1 = nm ∧ ks1 = ks)
    (hts : ∀ u, (u = t ∨ ∃ b ∈ bs, u = b.ty) → ImpC Tryz.prog 65 [tyV u, strsV [name], .one (.c (.sl 4 [encTy by_]))] [] (tyV (ts u)) [])
    (hsb : ∀ x, (x ∈ ks1 ∨ (∃ b ∈ bs, x = b.body) ∨ ∃ a ∈ al, x = a.body) → ImpC Tryz.prog 23 [.pa (encCore x), Go.AM.T name, tyV by_] [] (.pa (encCore (sb x))) []) :
    ImpC Tryz.prog 23 [.pa (encCore (.mk f n nm t ks bs al)), Go.AM.T name, tyV by_] [] (.pa (encCore (asmST ts sb (.mk f n nm1 t ks1 bs al)))) [] := by
  have hog := c_ownG (.mk f n nm t ks bs al) hcs hT
  have hog : ImpC Tryz.prog 59 [.pa (encCore (.mk f n nm t ks bs al))] [] (.ma (cellsG f n nm t ks.length bs.length al.length)) (oHl ks bs al ++ fam 0 al) := hog
  have hF : TF (fam 0 al) := fam_tf
  refine impC (n := 84) tok Tryz.func23 rfl rfl rfl ?_
  refine awp_seq (ag [] rfl ?_)
  refine awp_seq (awp_rg mixed ?_)
  refine ak 1 [] rfl ?_
  refine kc hog ?_ (hout' := AllP.app ⟨.inr rfl, .inr rfl, .inr rfl, trivial⟩ (AllP.of fun p hp => .inr ((show FarNone _ by repeat (first | exact FarNone.nil | (refine FarNone.updL ?_) | (refine FarNone.upd ?_))) p.1 (hF.far p hp))))
  rw [far_outs hF]
  refine ak 2 [(2, .id 700)] rfl ?_
  refine az ?_
  refine AWp.sub (st2 := mkt [(3, .one (.vp 3 0)), (4, .one (.vp 4 0)), (5, .one (.vp 5 0)), (6, .one (.vp 6 0)), (7, .one (.vp 700 0))] ([(3, .var 37 (cellsC (.mk f n nm t ks bs al))), (4, .var 9 [.c (.str name)]), (5, .var 33 ((encTy by_).map R.c)), (6, .var 37 zCells)] ++ gHl f n nm t ks bs al) (fam 0 al)) (slG gW (fun _ h => by cases h) (by repeat (first | exact FarEq.bif hF (FarEq.outs hF) | (refine FarEq.updL hF ?_) | (refine FarEq.upd hF ?_)))) ?_
  refine awp_seq (AWp.cut (mkt [(4, .one (.vp 4 0)), (5, .one (.vp 5 0)), (6, .one (.vp 6 0)), (7, .one (.vp 700 0))] ([(4, .var 9 [.c (.str name)]), (5, .var 33 ((encTy by_).map R.c)), (6, .var 37 zCells)] ++ gHl f n nm1 t ks1 bs al) (fam 0 al)) ?_ ?_)
  · refine awp_seq (ag [] rfl ?_)
    refine awp_cond rfl (fun hb => ?_) (fun hb => ?_)
    · have hf : f = 7 := of_decide_eq_true (show decide (f = 7) = true from hb)
      obtain ⟨hne, rfl, rfl, tl, fr, hty, hin, hl, hfr, hcl⟩ := h7 hf
      have hd : decide (nm = name) = false := decide_eq_false hne
      have hct := c_contains tl name (by omega)
      rw [decide_eq_true hin] at hct
      refine awp_seq (awp_seq (awp_rg mixed ?_))
      refine ak 6 [(4, .bv false)] rfl ?_
      refine kcG hty ?_
      refine ak 1 [(4, .bv false)] rfl ?_
      refine kcG hct ?_
      refine ak 2 [(4, .bv false), (10, .bv false)] rfl ?_
      refine az ?_
      refine awp_cond rfl (fun hb => by cases hb) (fun _ => ?_)
      refine awp_skip ?_
      refine awp_rg mixed ?_
      refine ak 1 [] rfl ?_
      refine kc hfr ?_
      refine kc hcl ?_
      refine az ?_
      exact slG gW (fun _ h => by cases h) (fun p hp => by cases hp)
    · have hf : f ≠ 7 := of_decide_eq_false (show decide (f = 7) = false from hb)
      obtain ⟨rfl, rfl⟩ := hn7 hf
      exact awp_skip (slG gW (fun _ h => by cases h) (by repeat (first | exact FarEq.raw hF | (refine FarEq.updL hF ?_) | (refine FarEq.upd hF ?_))))
  -- the type
  have hbK : ∀ j, (mixL (fun b : Bind => tsB ts b) bs j).length = bs.length := fun j => mixL_len
  have h1 : ∀ u, (u = t ∨ ∃ b ∈ bs, u = b.ty) → ImpC Tryz.prog 64 ([tyV u] ++ [R.vp 4 0, R.vp 5 0].map V.one) [(4, .var 9 [.c (.str name)]), (5, .var 33 ((encTy by_).map R.c))] (tyV (ts u)) [(4, .var 9 [.c (.str name)]), (5, .var 33 ((encTy by_).map R.c))] := fun u hu => c_one name by_ u (ts u) (hts u hu)
  have ht := h1 t (.inl rfl)
  have hbE := kbE bs
  obtain ⟨ihk, ihb, iha, hkl', hbl, hal⟩ := @size_in f n nm t ks bs al
  have hbl' : bs.length ≤ 40000000000 := by omega
  refine awp_seq (ag [] rfl ?_)
  refine awp_seq (awp_rg mixed ?_)
  refine ak 3 [] rfl ?_
  refine kv (args := [tyV t]) ht ?_
  refine ak 2 [] rfl ?_
  refine az ?_
  refine awp_seq (awp_seq (ag [] rfl ?_))
  refine awp_block ?_
  have hm0 : mixL (fun b : Bind => tsB ts b) bs 0 = bs := mixL_zero
  refine awp_loop (fun i : Nat => mkt [(4, .one (.vp 4 0)), (5, .one (.vp 5 0)), (6, .one (.vp 6 0)), (7, .one (.vp 700 0)), (8, .one (.clo 64 [.vp 4 0, .vp 5 0])), (42, I .i64 ((bs.length : Nat) : Int)), (43, I .i64 i)] ([(4, .var 9 [.c (.str name)]), (5, .var 33 ((encTy by_).map R.c)), (6, .var 37 zCells)] ++ gHl f n nm1 (ts t) ks1 (mixL (fun b : Bind => tsB ts b) bs i) al) (fam 0 al)) (fun i => i ≤ bs.length) (fun i => bs.length - i) 0 (Nat.zero_le _) ?_ ?_
  · rw [hm0]
    exact slG gW (fun _ h => by cases h) (by repeat (first | exact FarEq.raw hF | (refine FarEq.updL hF ?_) | (refine FarEq.upd hF ?_)))
  intro i hi
  have hBl := mixL_len (g := fun b : Bind => tsB ts b) (bs := bs) (j := i)
  have hBe := kbE (mixL (fun b : Bind => tsB ts b) bs i)
  refine awp_seq (ag [] rfl ?_)
  refine awp_seq (awp_cond rfl (fun hb => ?_) (fun hb => ?_))
  · have hlt : i < bs.length := by
      have : (i : Int) < (bs.length : Int) := of_decide_eq_true hb
      omega
    obtain ⟨b, hbi⟩ := get_of_lt hlt
    have hat := encBinds_at (mixL_at (g := fun b : Bind => tsB ts b) hbi)
    have hst := mixL_succ (g := fun b : Bind => tsB ts b) hbi
    have hl2 := mixL_len (g := fun b : Bind => tsB ts b) (bs := bs) (j := i + 1)
    have hbt := h1 b.ty (.inr ⟨b, List.mem_of_getElem? hbi, rfl⟩)
    rw [hst] at hl2
    generalize mixL (fun b : Bind => tsB ts b) bs i = B at *
    have hltB : i < B.length := by omega
    refine awp_skip ?_
    refine awp_seq (awp_block (awp_seq (ag [] rfl ?_)))
    refine awp_rg mixed ?_
    refine ak 10 [(9, .row i (encBind b))] rfl ?_
    refine kv (args := [tyV b.ty]) hbt ?_
    refine ak 3 [(13, .row i (encBind b))] rfl ?_
    refine az ?_
    refine ag [] rfl ?_
    refine ⟨i + 1, hlt, by dsimp only; omega, ?_⟩
    dsimp only
    rw [hst]
    refine slG gW (fun _ h => by cases h) (hh := ⟨⟨_, rfl, .var rfl⟩, ⟨_, rfl, .var rfl⟩, ⟨_, rfl, .var rfl⟩, ⟨_, rfl, .varS ?_⟩, ⟨_, rfl, .arrS ?_⟩, ⟨_, rfl, .arr⟩, ⟨_, rfl, .rarrS rfl⟩, trivial⟩)
    · rw [List.length_set]
    · exact encBinds_set B i (tsB ts b)
  refine awp_exit ?_
  have hge : bs.length ≤ i := by
    have : ¬ (i : Int) < (bs.length : Int) := of_decide_eq_false hb
    omega
  rw [mixL_ge hge] at hBl hBe ⊢
  have hsbB : ∀ x ∈ bs.map (fun b : Bind => tsB ts b), ImpC Tryz.prog 23 [.pa (encCore x.body), Go.AM.T name, tyV by_] [] (.pa (encCore (sb x.body))) [] := fun x hx => by
    obtain ⟨b, hb, rfl⟩ := List.mem_map.1 hx
    exact hsb b.body (.inr (.inl ⟨b, hb, rfl⟩))
  have eR : encCore (asmST ts sb (.mk f n nm1 t ks1 bs al)) = encCore (.mk f n nm1 (ts t) (ks1.map sb) ((bs.map fun b : Bind => tsB ts b).map (sbB sb)) (al.map (sbA sb))) := by
    rw [List.map_map]; rfl
  rw [eR]
  have hB1l : (bs.map fun b : Bind => tsB ts b).length ≤ 40000000000 := by rw [List.length_map]; exact hbl'
  clear hBl hge hb hbK hm0 ht h1 hog eR hbE
  generalize (bs.map fun b : Bind => tsB ts b) = B1 at *
  generalize ts t = t1 at *
  have hk1l : ks1.length ≤ 40000000000 := by omega
  have hal' : al.length ≤ 40000000000 := by omega
  have hgr := c_groupsG (decide (f = 5)) f n nm1 t1 ks1 B1 al rfl (by omega) (by omega) (by omega) (fun a ha => by
    have hav := asizes_mem ha
    have hvl := vsum_le a
    rw [csize] at hcs; omega)
  have hrows := gf_rows (f := f) (n := n) (s := nm1) (t := t1) (ks := ks1) (bs := B1) (al := al) (decide (f = 5)) al.length
  rw [List.take_length] at hrows
  have hgl : (gRowsA (decide (f = 5)) ks1.length B1.length al.length al).length = 1 + al.length := g_len
  have hra : gfo f n nm1 t1 ks1 B1 al (R.refsL (gRowsA (decide (f = 5)) ks1.length B1.length al.length al).flatten) := by rw [refsL_flat]; exact hrows
  have hg0 : (gRowsA (decide (f = 5)) ks1.length B1.length al.length al)[0]? = some (g0Row (decide (f = 5)) ks1.length B1.length) := g_at0
  have hgA : ∀ i a, al[i]? = some a → (gRowsA (decide (f = 5)) ks1.length B1.length al.length al)[i + 1]? = some (alRow al.length i a) := fun i a h => g_atA h
  have htk : ∀ k r, (gRowsA (decide (f = 5)) ks1.length B1.length al.length al)[k]? = some r → ((gRowsA (decide (f = 5)) ks1.length B1.length al.length al).flatten.drop (k * 2)).take 2 = r := take_flat g_rows2
  generalize gRowsA (decide (f = 5)) ks1.length B1.length al.length al = G at hgr hgl hra hg0 hgA htk
  generalize decide (f = 5) = b5 at hg0
  refine awp_seq (awp_seq (awp_rg mixed ?_))
  refine kc hgr ?_ (hin' := AllP.app ⟨rfl, rfl, rfl, rfl, trivial⟩ (FarEq.raw hF).all) (hout' := AllP.of fun p hp => .inl (List.mem_map.2 ⟨p, hp, rfl⟩)) (hok := callOkT hF (fun x hx => .inl (subset_spec (show subset _ _ = true from rfl) x hx)) gHl_refs)
  refine ak 2 [] rfl ?_
  refine az ?_
  refine AWp.sub (Sub.outsT hF) ?_
  refine awp_block ?_
  have hel : ∀ K B A ex, ∀ x ∈ R.refsL G.flatten, Kn ex (gHm f n nm1 t1 ks1.length B1.length al.length K B A) (fam 0 al) x := fun K B A ex => Kn.gf hra
  refine awp_loop (fun g : Nat => mkt [(4, .one (.vp 4 0)), (5, .one (.vp 5 0)), (6, .one (.vp 6 0)), (7, .one (.vp 700 0)), (60, .one (.ras G.length 2 G.flatten)), (61, I .i64 ((G.length : Nat) : Int)), (62, I .i64 g)] ([(4, .var 9 [.c (.str name)]), (5, .var 33 ((encTy by_).map R.c)), (6, .var 37 zCells)] ++ gHm f n nm1 t1 ks1.length B1.length al.length (gK sb ks1 g) (gB sb B1 g) (gA sb al g)) (fam 0 al)) (fun g => g ≤ G.length) (fun g => G.length - g) 0 (Nat.zero_le _) (slG (gWm rfl) (fun _ h => by cases h) (FarEq.bif hF (FarEq.outs hF)) (h1 := Kn.app (Kn.of rfl) (Kn.app (Kn.of rfl) (Kn.app (Kn.of rfl) (Kn.app (Kn.of rfl) (Kn.app (hel _ _ _ _) Kn.nil)))))) ?_
  intro g hg
  refine awp_seq (ag [] rfl ?_)
  refine awp_seq (awp_cond rfl (fun hb => ?_) (fun hb => ?_))
  · have hlt : g < G.length := by
      have : (g : Int) < (G.length : Int) := of_decide_eq_true hb
      omega
    refine awp_skip ?_
    cases g with
    | zero =>
      have ht0 := htk 0 _ hg0
      have hpl : (pR ks1.length B1.length B1.length).length = ks1.length + B1.length := pR_len
      have hpr0 : gfo f n nm1 t1 ks1 B1 al (R.refsL (pR ks1.length B1.length B1.length).flatten) := by rw [refsL_flat]; exact gf_p _ _ _
      have hpr : ∀ K B A ex, ∀ x ∈ R.refsL (pR ks1.length B1.length B1.length).flatten, Kn ex (gHm f n nm1 t1 ks1.length B1.length al.length K B A) (fam 0 al) x := fun K B A ex => Kn.gf hpr0
      have hpt : ∀ k r, (pR ks1.length B1.length B1.length)[k]? = some r → ((pR ks1.length B1.length B1.length).flatten.drop (k * 1)).take 1 = r := take_flat pR_one
      have hp1 : ∀ j, j < ks1.length → (pR ks1.length B1.length B1.length)[j]? = some [.ep 702 j 0 ks1.length] := fun j h => pR_at1 h
      have hp2 : ∀ j, j < B1.length → (pR ks1.length B1.length B1.length)[ks1.length + j]? = some [.ep 701 j 5 B1.length] := fun j h => pR_at2 h
      refine awp_seq (awp_block (awp_seq (ag [(0, .rowR 0 (g0Row b5 ks1.length B1.length))] rfl ?_)))
      refine awp_seq (ag [] rfl ?_)
      refine awp_block ?_
      have e0K : mixL sb ks1 0 = ks1 := mixL_zero
      have e0B : mixL (sbB sb) B1 (0 - ks1.length) = B1 := by rw [Nat.zero_sub]; exact mixL_zero
      refine awp_loop (fun j : Nat => mkt [(4, .one (.vp 4 0)), (5, .one (.vp 5 0)), (6, .one (.vp 6 0)), (7, .one (.vp 700 0)), (60, .one (.ras G.length 2 G.flatten)), (61, I .i64 ((G.length : Nat) : Int)), (62, I .i64 (0 : Nat)), (67, .one (.ras (pR ks1.length B1.length B1.length).length 1 (pR ks1.length B1.length B1.length).flatten)), (68, I .i64 (((pR ks1.length B1.length B1.length).length : Nat) : Int)), (69, I .i64 j)] ([(4, .var 9 [.c (.str name)]), (5, .var 33 ((encTy by_).map R.c)), (6, .var 37 zCells)] ++ gHm f n nm1 t1 ks1.length B1.length al.length (mixL sb ks1 j) (mixL (sbB sb) B1 (j - ks1.length)) al) (fam 0 al)) (fun j => j ≤ (pR ks1.length B1.length B1.length).length) (fun j => (pR ks1.length B1.length B1.length).length - j) 0 (Nat.zero_le _) ?_ ?_
      · rw [e0K, e0B]
        exact slG (gWm rfl) (fun _ h => by cases h) (h1 := Kn.app (Kn.of rfl) (Kn.app (Kn.of rfl) (Kn.app (Kn.of rfl) (Kn.app (Kn.of rfl) (Kn.app (hel _ _ _ _) (Kn.app Kn.nil (Kn.app Kn.nil (Kn.app (hpr _ _ _ _) Kn.nil))))))))
      intro j hj
      refine awp_seq (ag [] rfl ?_)
      refine awp_seq (awp_cond rfl (fun hb => ?_) (fun hb => ?_))
      · have hlt2 : j < (pR ks1.length B1.length B1.length).length := by
          have : (j : Int) < ((pR ks1.length B1.length B1.length).length : Int) := of_decide_eq_true hb
          omega
        refine awp_skip ?_
        by_cases hjk : j < ks1.length
        · obtain ⟨k, hki⟩ := get_of_lt hjk
          have hki' := encCores_at (mixL_at (g := sb) hki)
          have hst := mixL_succ (g := sb) hki
          have hc := hsb k (.inl (List.mem_of_getElem? hki))
          have ht1 := hpt j _ (hp1 j hjk)
          have hle := (mixL_len (g := sb) (bs := ks1) (j := j)).symm.trans (kcE (mixL sb ks1 j))
          have hj0 : j + 1 - ks1.length = j - ks1.length := by omega
          have hset := encCores_set (mixL sb ks1 j) j (sb k)
          refine awp_seq (awp_block (awp_seq (ag [(0, .rowR j [.ep 702 j 0 ks1.length])] rfl ?_)))
          refine awp_rg mixed ?_
          refine ak 6 [(3, .row j (encCore k))] rfl ?_
          refine kc hc ?_
          refine ak 2 [(8, .row j (encCore k))] rfl ?_
          refine az ?_
          refine ag [] rfl ?_
          refine ⟨j + 1, hlt2, by dsimp only; omega, ?_⟩
          dsimp only
          rw [hj0, hst]
          exact slG (gWm rfl) (fun _ h => by cases h) (h1 := Kn.app (Kn.of rfl) (Kn.app (Kn.of rfl) (Kn.app (Kn.of rfl) (Kn.app (Kn.of rfl) (Kn.app (hel _ _ _ _) (Kn.app Kn.nil (Kn.app Kn.nil (Kn.app (hpr _ _ _ _) Kn.nil)))))))) (hh := ⟨⟨_, rfl, .var rfl⟩, ⟨_, rfl, .var rfl⟩, ⟨_, rfl, .var rfl⟩, ⟨_, rfl, .var rfl⟩, ⟨_, rfl, .arr⟩, ⟨_, rfl, .arrS hset⟩, ⟨_, rfl, .rarrS rfl⟩, trivial⟩)
        · obtain ⟨j', rfl⟩ : ∃ j', j = ks1.length + j' := ⟨j - ks1.length, by omega⟩
          have hjb : j' < B1.length := by omega
          obtain ⟨x, hbi⟩ := get_of_lt hjb
          have eK : ∀ j', mixL sb ks1 (ks1.length + j') = ks1.map sb := fun j' => mixL_ge (by omega)
          have e1 : ks1.length + j' - ks1.length = j' := by omega
          have e2 : ks1.length + j' + 1 - ks1.length = j' + 1 := by omega
          have hbi' := encBinds_at (mixL_at (g := sbB sb) hbi)
          have hst := mixL_succ (g := sbB sb) hbi
          have hc := hsbB x (List.mem_of_getElem? hbi)
          have ht1 := hpt (ks1.length + j') _ (hp2 j' hjb)
          have hle := (mixL_len (g := sbB sb) (bs := B1) (j := j')).symm.trans (kbE (mixL (sbB sb) B1 j'))
          have hset := encBinds_set (mixL (sbB sb) B1 j') j' (sbB sb x)
          rw [e1]
          refine awp_seq (awp_block (awp_seq (ag [(0, .rowR (ks1.length + j') [.ep 701 j' 5 B1.length])] rfl ?_)))
          refine awp_rg mixed ?_
          refine ak 6 [(3, .row j' (encBind x))] rfl ?_
          refine kc hc ?_
          refine ak 2 [(8, .row j' (encBind x))] rfl ?_
          refine az ?_
          refine ag [] rfl ?_
          refine ⟨ks1.length + j' + 1, hlt2, by dsimp only; omega, ?_⟩
          dsimp only
          rw [e2, hst, eK, Nat.add_assoc, eK]
          refine slG (gWm rfl) (fun _ h => by cases h) (h1 := Kn.app (Kn.of rfl) (Kn.app (Kn.of rfl) (Kn.app (Kn.of rfl) (Kn.app (Kn.of rfl) (Kn.app (hel _ _ _ _) (Kn.app Kn.nil (Kn.app Kn.nil (Kn.app (hpr _ _ _ _) Kn.nil)))))))) (hh := ⟨⟨_, rfl, .var rfl⟩, ⟨_, rfl, .var rfl⟩, ⟨_, rfl, .var rfl⟩, ⟨_, rfl, .var rfl⟩, ⟨_, rfl, .arrS hset⟩, ⟨_, rfl, .arr⟩, ⟨_, rfl, .rarrS rfl⟩, trivial⟩)
      refine awp_exit ?_
      have hge : j = ks1.length + B1.length := by
        have : ¬ (j : Int) < ((pR ks1.length B1.length B1.length).length : Int) := of_decide_eq_false hb
        omega
      have eK : mixL sb ks1 j = ks1.map sb := mixL_ge (by omega)
      have eB : mixL (sbB sb) B1 (j - ks1.length) = B1.map (sbB sb) := mixL_ge (by omega)
      have eA : gA sb al 1 = al := mixL_zero
      rw [eK, eB]
      refine ag [] rfl ?_
      refine ⟨1, by omega, by dsimp only; omega, ?_⟩
      dsimp only
      rw [eA]
      exact slG (gWm rfl) (fun _ h => by cases h) (h1 := Kn.app (Kn.of rfl) (Kn.app (Kn.of rfl) (Kn.app (Kn.of rfl) (Kn.app (Kn.of rfl) (Kn.app (hel _ _ _ _) Kn.nil)))))
    | succ i =>
      have hia : i < al.length := by omega
      obtain ⟨a, hai⟩ := get_of_lt hia
      have ht0 := htk (i + 1) _ (hgA i a hai)
      have hf1 : fam 0 (gA sb al (i + 1)) = fam 0 al := gA_fam (i + 1)
      have hf2 : fam 0 (gA sb al (i + 1 + 1)) = fam 0 al := gA_fam (i + 1 + 1)
      have hrow : (altRows 0 (gA sb al (i + 1)))[i]? = some (encAltR i a) := by
        have := altRows_at (k := 0) (mixL_at (g := sbA sb) hai)
        rwa [Nat.zero_add] at this
      have hle : al.length = (altRows 0 (gA sb al (i + 1))).length := by rw [altRows_len]; exact (mixL_len (g := sbA sb)).symm
      have hc := hsb a.body (.inr (.inr ⟨a, List.mem_of_getElem? hai, rfl⟩))
      have hset : altRows 0 (gA sb al (i + 1 + 1)) = (altRows 0 (gA sb al (i + 1))).set i (encAltR i (sbA sb a)) := by
        show altRows 0 (mixL (sbA sb) al (i + 1)) = _
        rw [mixL_succ hai, altRows_set, Nat.zero_add]; rfl
      have z1 : gK sb ks1 (i + 1 + 1) = gK sb ks1 (i + 1) := rfl
      have z2 : gB sb B1 (i + 1 + 1) = gB sb B1 (i + 1) := rfl
      refine awp_seq (awp_block (awp_seq (ag [(0, .rowR (i + 1) (alRow al.length i a))] rfl ?_)))
      refine awp_seq (ag [] rfl ?_)
      refine awp_block ?_
      refine awp_loop (fun j : Nat => mkt [(4, .one (.vp 4 0)), (5, .one (.vp 5 0)), (6, .one (.vp 6 0)), (7, .one (.vp 700 0)), (60, .one (.ras G.length 2 G.flatten)), (61, I .i64 ((G.length : Nat) : Int)), (62, I .i64 ((i + 1 : Nat) : Int)), (67, .one (.ras 1 1 [.rp 703 i 4 al.length])), (68, I .i64 ((1 : Nat) : Int)), (69, I .i64 j)] ([(4, .var 9 [.c (.str name)]), (5, .var 33 ((encTy by_).map R.c)), (6, .var 37 zCells)] ++ gHm f n nm1 t1 ks1.length B1.length al.length (gK sb ks1 (i + 1)) (gB sb B1 (i + 1)) (gA sb al (i + 1 + j))) (fam 0 al)) (fun j => j ≤ 1) (fun j => 1 - j) 0 (Nat.zero_le _) (slG (gWm hf1) (fun _ h => by cases h) (h1 := Kn.app (Kn.of rfl) (Kn.app (Kn.of rfl) (Kn.app (Kn.of rfl) (Kn.app (Kn.of rfl) (Kn.app (hel _ _ _ _) (Kn.of rfl))))))) ?_
      intro j hj
      refine awp_seq (ag [] rfl ?_)
      refine awp_seq (awp_cond rfl (fun hb => ?_) (fun hb => ?_))
      · have hj0 : j = 0 := by
          have : (j : Int) < ((1 : Nat) : Int) := of_decide_eq_true hb
          omega
        subst hj0
        refine awp_skip ?_
        refine awp_seq (awp_block (awp_seq (ag [] rfl ?_)))
        refine awp_rg mixed ?_
        refine ak 6 [(3, .rr (encAltR i a))] rfl ?_
        refine kc hc ?_
        refine ak 2 [(8, .rr (encAltR i a))] rfl ?_
        refine az ?_
        refine ag [] rfl ?_
        refine ⟨1, Nat.le_refl _, by dsimp only; omega, ?_⟩
        exact slG (gWm hf2) (fun _ h => by cases h) (h1 := Kn.app (Kn.of rfl) (Kn.app (Kn.of rfl) (Kn.app (Kn.of rfl) (Kn.app (Kn.of rfl) (Kn.app (hel _ _ _ _) (Kn.of rfl)))))) (hh := ⟨⟨_, rfl, .var rfl⟩, ⟨_, rfl, .var rfl⟩, ⟨_, rfl, .var rfl⟩, ⟨_, rfl, .var rfl⟩, ⟨_, rfl, .arr⟩, ⟨_, rfl, .arr⟩, ⟨_, rfl, .rarrS hset.symm⟩, trivial⟩)
      refine awp_exit ?_
      have hj1 : j = 1 := by
        have : ¬ (j : Int) < ((1 : Nat) : Int) := of_decide_eq_false hb
        omega
      subst hj1
      refine ag [] rfl ?_
      refine ⟨i + 1 + 1, by omega, by dsimp only; omega, ?_⟩
      exact slG (gWm hf2) (fun _ h => by cases h) (h1 := Kn.app (Kn.of rfl) (Kn.app (Kn.of rfl) (Kn.app (Kn.of rfl) (Kn.app (Kn.of rfl) (Kn.app (hel _ _ _ _) Kn.nil)))))
  have hgs : g = al.length + 1 := by
    have : ¬ (g : Int) < (G.length : Int) := of_decide_eq_false hb
    omega
  subst hgs
  refine awp_exit ?_
  have eA : gA sb al (al.length + 1) = al.map (sbA sb) := mixL_end
  have eF : fam 0 (al.map (sbA sb)) = fam 0 al := by rw [← eA]; exact gA_fam _
  have lA : (al.map (sbA sb)).length = al.length := List.length_map _
  have lB : (B1.map (sbB sb)).length = B1.length := List.length_map _
  have lK : (ks1.map sb).length = ks1.length := List.length_map _
  rw [eA]
  have z1 : gK sb ks1 (al.length + 1) = ks1.map sb := rfl
  have z2 : gB sb B1 (al.length + 1) = B1.map (sbB sb) := rfl
  rw [z1, z2]
  generalize al.map (sbA sb) = A2 at *
  generalize B1.map (sbB sb) = B2 at *
  generalize ks1.map sb = K2 at *
  refine AWp.sub (sub_core (f := f) (n := n) (nm := nm1) (t := t1) (ks := K2) (bs := B2) (al := A2) (r := 6) (v := 7) rfl rfl (by rw [eF]; repeat (first | exact FarEq.raw hF | (refine FarEq.updL hF ?_) | (refine FarEq.upd hF ?_))) ⟨rfl, rfl, trivial⟩ ⟨⟨_, rfl, .varS (by rw [lK, lB, lA])⟩, ⟨_, rfl, .arr⟩, ⟨_, rfl, .arr⟩, ⟨_, rfl, .rarrS rfl⟩, trivial⟩ ⟨_, rfl, .var rfl⟩ rfl (by decide)) ?_
  refine awp_seq (ag [] rfl ?_)
  exact awp_ret (rtC trw)
end Go.Proofs.YtmoekkcdkjopgaaGreatDoor

/- TYPES THAT ARE MADE of numbers are well formed and small. -/
namespace Go.Proofs.YtmoekkcdkjopgaaGreatDoor
open Go Go.AM
set_option maxRecDepth 20000
theorem oneOf_le {l : List Str} {k : Nat} (h : ∀ s ∈ l, s.length ≤ k) (n : Int) : (oneOf l n).length ≤ k := by
  unfold oneOf
  cases hx : l[(around n l.length).toNat]? with
  | none => exact Nat.zero_le _
  | some s => exact h s (List.mem_of_getElem? hx)
theorem wf_leaf {f n : Int} {s : Str} (h4 : ¬ f = 4) (h5 : ¬ f = 5) : wfT (.mk f n s []) = true := by rw [wfT, if_neg h4, if_neg h5, wfTs]; rfl
theorem tn_leaf {f n : Int} {s : Str} : tn (.mk f n s []) = 1 + s.length := by rw [tn, tns, Nat.add_zero]
theorem wf_tapp {a b : Ty} (ha : wfT a = true) (hb : wfT b = true) : wfT (tapp a b) = true := by
  unfold tapp
  rw [wfT, if_pos rfl, wfTs, wfTs, wfTs, ha, hb]; rfl
theorem tn_tapp (a b : Ty) : tn (tapp a b) = 1 + tn a + tn b := by unfold tapp; rw [tn, tns, tns, tns]; simp; omega
def tsm : Nat → Nat
  | 0 => 6
  | f + 1 => 2 * tsm f + 6
theorem tsm_ge : ∀ f, 6 ≤ tsm f
  | 0 => Nat.le_refl _
  | f + 1 => by rw [tsm]; omega
theorem tnm1 : ∀ s ∈ tnmL, s.length ≤ 1 := by decide
/-- The types of Made. -/
theorem typR_wf : ∀ (f : Nat) (l : List Int), wfT (typR f l).1 = true ∧ tn (typR f l).1 ≤ tsm f
  | 0, l => by
    have h1 := oneOf_le tnm1 ((nextR l).1 / 6)
    unfold typR
    split
    · exact ⟨wf_leaf (by decide) (by decide), by rw [tn_leaf, tsm]; omega⟩
    · exact ⟨wf_leaf (by decide) (by decide), by show tn tInt ≤ 6; decide⟩
  | f + 1, l => by
    have h1 := oneOf_le tnm1 ((nextR l).1 / 6)
    obtain ⟨a1, a2⟩ := typR_wf f (nextR l).2
    obtain ⟨b1, b2⟩ := typR_wf f (typR f (nextR l).2).2
    have hg := tsm_ge f
    unfold typR
    split
    · exact ⟨wf_leaf (by decide) (by decide), by rw [tn_leaf, tsm]; omega⟩
    · split
      · have h4 : tn tInt = 4 := by decide
        exact ⟨wf_leaf (by decide) (by decide), by rw [tsm]; show tn tInt ≤ _; omega⟩
      · split
        · refine ⟨wf_tapp (wf_tapp (wf_leaf (by decide) (by decide)) a1) b1, ?_⟩
          dsimp only [tfun]
          rw [tn_tapp, tn_tapp, tn_leaf, tsm]
          have : arrow.length = 2 := rfl
          omega
        · split
          · refine ⟨wf_tapp (wf_leaf (by decide) (by decide)) a1, ?_⟩
            dsimp only
            rw [tn_tapp, tsm]
            have : tn tL = 2 := by decide
            omega
          · refine ⟨?_, ?_⟩
            · dsimp only
              rw [wfT, if_neg (by decide), if_pos rfl, wfTs, wfTs, a1]; rfl
            · dsimp only
              rw [tn, tns, tns, tsm]; omega
end Go.Proofs.YtmoekkcdkjopgaaGreatDoor

/- TYPES PUT INTO CORE (4): what is kept; the shape without types and without the names that types are given by. -/
namespace Go.Proofs.YtmoekkcdkjopgaaGreatDoor
open Go Go.AM
set_option maxRecDepth 20000
mutual
/-- What core is, without types and the names of their variables. -/
def skT : Core → Core
  | .mk f n s _ ks bs al => .mk f n (if f = 7 then [] else s) zTy (skTs ks) (skTb bs) (skTa al)
def skTs : List Core → List Core
  | [] => []
  | c :: l => skT c :: skTs l
def skTb : List Bind → List Bind
  | [] => []
  | .mk s _ c :: l => .mk s zTy (skT c) :: skTb l
def skTa : List Alt → List Alt
  | [] => []
  | .mk f n s vs c :: l => .mk f n s vs (skT c) :: skTa l
end
def skB (b : Bind) : Bind := .mk b.name zTy (skT b.body)
def skA (a : Alt) : Alt := .mk a.form a.n a.name a.vars (skT a.body)
theorem skTs_map : ∀ l : List Core, skTs l = l.map skT
  | [] => rfl
  | c :: l => by rw [skTs, skTs_map l]; rfl
theorem skTb_map : ∀ l : List Bind, skTb l = l.map skB
  | [] => rfl
  | .mk s t c :: l => by rw [skTb, skTb_map l]; rfl
theorem skTa_map : ∀ l : List Alt, skTa l = l.map skA
  | [] => rfl
  | .mk f n s vs c :: l => by rw [skTa, skTa_map l]; rfl
mutual
/-- What gives a name or a type, or is given a type, has one part, and no more. -/
def wfC : Core → Bool
  | .mk f _ _ _ ks bs al => (!decide (f = 5 ∨ f = 6 ∨ f = 7) || (ks.length == 1 && bs.isEmpty && al.isEmpty)) && (!decide (f = 1) || (ks.isEmpty && bs.isEmpty && al.isEmpty)) && wfCs ks && wfCb bs && wfCa al
def wfCs : List Core → Bool
  | [] => true
  | c :: l => wfC c && wfCs l
def wfCb : List Bind → Bool
  | [] => true
  | .mk _ _ c :: l => wfC c && wfCb l
def wfCa : List Alt → Bool
  | [] => true
  | .mk _ _ _ _ c :: l => wfC c && wfCa l
end
theorem wfCs_iff : ∀ {l : List Core}, wfCs l = true ↔ ∀ x ∈ l, wfC x = true
  | [] => by simp [wfCs]
  | c :: l => by rw [wfCs, Bool.and_eq_true, wfCs_iff (l := l)]; simp
theorem wfCb_iff : ∀ {l : List Bind}, wfCb l = true ↔ ∀ x ∈ l, wfC x.body = true
  | [] => by simp [wfCb]
  | .mk s t c :: l => by rw [wfCb, Bool.and_eq_true, wfCb_iff (l := l)]; simp [Bind.body]
theorem wfCa_iff : ∀ {l : List Alt}, wfCa l = true ↔ ∀ x ∈ l, wfC x.body = true
  | [] => by simp [wfCa]
  | .mk f n s vs c :: l => by rw [wfCa, Bool.and_eq_true, wfCa_iff (l := l)]; simp [Alt.body]
theorem wfC_un {f n : Int} {nm : Str} {t : Ty} {ks : List Core} {bs : List Bind} {al : List Alt} (h : wfC (.mk f n nm t ks bs al) = true) :
    (f = 5 ∨ f = 6 ∨ f = 7 → (∃ k, ks = [k]) ∧ bs = [] ∧ al = []) ∧ (∀ x ∈ ks, wfC x = true) ∧ (∀ x ∈ bs, wfC x.body = true) ∧ (∀ x ∈ al, wfC x.body = true) := by
  rw [wfC, Bool.and_eq_true, Bool.and_eq_true, Bool.and_eq_true, Bool.and_eq_true] at h
  obtain ⟨⟨⟨⟨h2, _⟩, h3⟩, h4⟩, h5⟩ := h
  refine ⟨fun hf => ?_, wfCs_iff.1 h3, wfCb_iff.1 h4, wfCa_iff.1 h5⟩
  rw [decide_eq_true hf] at h2
  simp only [Bool.not_true, Bool.false_or, Bool.and_eq_true, beq_iff_eq, List.isEmpty_iff] at h2
  exact ⟨List.length_eq_one_iff.1 h2.1.1, h2.1.2, h2.2⟩
theorem wfC_var {f n : Int} {nm : Str} {t : Ty} {ks : List Core} {bs : List Bind} {al : List Alt} (h : wfC (.mk f n nm t ks bs al) = true) (hf : f = 1) : ks = [] ∧ bs = [] ∧ al = [] := by
  rw [wfC, Bool.and_eq_true, Bool.and_eq_true, Bool.and_eq_true, Bool.and_eq_true] at h
  obtain ⟨⟨⟨⟨_, h2⟩, _⟩, _⟩, _⟩ := h
  rw [decide_eq_true hf] at h2
  simp only [Bool.not_true, Bool.false_or, Bool.and_eq_true, List.isEmpty_iff] at h2
  exact ⟨h2.1.1, h2.1.2, h2.2⟩
theorem wfC_mk {f n : Int} {nm : Str} {t : Ty} {ks : List Core} {bs : List Bind} {al : List Alt} (h1 : f = 5 ∨ f = 6 ∨ f = 7 → (∃ k, ks = [k]) ∧ bs = [] ∧ al = []) (h0 : f = 1 → ks = [] ∧ bs = [] ∧ al = [])
    (h3 : ∀ x ∈ ks, wfC x = true) (h4 : ∀ x ∈ bs, wfC x.body = true) (h5 : ∀ x ∈ al, wfC x.body = true) : wfC (.mk f n nm t ks bs al) = true := by
  rw [wfC, Bool.and_eq_true, Bool.and_eq_true, Bool.and_eq_true, Bool.and_eq_true]
  refine ⟨⟨⟨⟨?_, ?_⟩, wfCs_iff.2 h3⟩, wfCb_iff.2 h4⟩, wfCa_iff.2 h5⟩
  · by_cases hf : f = 5 ∨ f = 6 ∨ f = 7
    · obtain ⟨⟨k, rfl⟩, rfl, rfl⟩ := h1 hf
      simp
    · rw [decide_eq_false hf]; rfl
  · by_cases hf : f = 1
    · obtain ⟨rfl, rfl, rfl⟩ := h0 hf
      simp
    · rw [decide_eq_false hf]; rfl
mutual
theorem erase_sk : ∀ c : Core, wfC c = true → eraseR (skT c) = eraseR c
  | .mk f n s t ks bs al, hw => by
    obtain ⟨h1, h2, h3, h4⟩ := wfC_un hw
    rw [skT, eraseR, eraseR, erase_sks ks h2, erase_skb bs h3, erase_ska al h4, skTs_map, List.length_map]
    by_cases h7 : f = 7
    · obtain ⟨⟨k, rfl⟩, _⟩ := h1 (.inr (.inr h7))
      rw [if_pos ⟨.inr h7, by simp⟩, if_pos ⟨.inr h7, by simp⟩]
    · rw [if_neg h7]
theorem erase_sks : ∀ l : List Core, (∀ x ∈ l, wfC x = true) → eraseCs (skTs l) = eraseCs l
  | [], _ => rfl
  | c :: l, h => by rw [skTs, eraseCs, eraseCs, erase_sk c (h c List.mem_cons_self), erase_sks l fun x hx => h x (List.mem_cons_of_mem _ hx)]
theorem erase_skb : ∀ l : List Bind, (∀ x ∈ l, wfC x.body = true) → eraseBs (skTb l) = eraseBs l
  | [], _ => rfl
  | .mk s t c :: l, h => by rw [skTb, eraseBs, eraseBs, eraseB, eraseB, erase_sk c (h _ List.mem_cons_self), erase_skb l fun x hx => h x (List.mem_cons_of_mem _ hx)]
theorem erase_ska : ∀ l : List Alt, (∀ x ∈ l, wfC x.body = true) → eraseAs (skTa l) = eraseAs l
  | [], _ => rfl
  | .mk f n s vs c :: l, h => by rw [skTa, eraseAs, eraseAs, eraseA, eraseA, erase_sk c (h _ List.mem_cons_self), erase_ska l fun x hx => h x (List.mem_cons_of_mem _ hx)]
end
mutual
theorem wf_sk : ∀ c : Core, wfC (skT c) = wfC c
  | .mk f n s t ks bs al => by
    rw [skT, wfC, wfC, wf_sks ks, wf_skb bs, wf_ska al, skTs_map, skTb_map, skTa_map, List.length_map, List.isEmpty_map, List.isEmpty_map, List.isEmpty_map]
theorem wf_sks : ∀ l : List Core, wfCs (skTs l) = wfCs l
  | [] => rfl
  | c :: l => by rw [skTs, wfCs, wfCs, wf_sk c, wf_sks l]
theorem wf_skb : ∀ l : List Bind, wfCb (skTb l) = wfCb l
  | [] => rfl
  | .mk s t c :: l => by rw [skTb, wfCb, wfCb, wf_sk c, wf_skb l]
theorem wf_ska : ∀ l : List Alt, wfCa (skTa l) = wfCa l
  | [] => rfl
  | .mk f n s vs c :: l => by rw [skTa, wfCa, wfCa, wf_sk c, wf_ska l]
end
/-! ### What a round keeps -/
theorem skT_asm {ts : Ty → Ty} {sb : Core → Core} {f n : Int} {nm nm1 : Str} {t : Ty} {ks ks1 : List Core} {bs : List Bind} {al : List Alt} (hn : f ≠ 7 → nm1 = nm) (hk : ks1.map skT = ks.map skT)
    (h1 : ∀ x ∈ ks1, skT (sb x) = skT x) (h2 : ∀ b ∈ bs, skT (sb b.body) = skT b.body) (h3 : ∀ a ∈ al, skT (sb a.body) = skT a.body) :
    skT (asmST ts sb (.mk f n nm1 t ks1 bs al)) = skT (.mk f n nm t ks bs al) := by
  rw [asmST, skT, skT, skTs_map, skTs_map, skTb_map, skTb_map, skTa_map, skTa_map, List.map_map, List.map_map, List.map_map]
  have e1 : ks1.map (skT ∘ sb) = ks.map skT := by rw [← hk]; exact List.map_congr_left h1
  have e2 : bs.map (skB ∘ fun b => Bind.mk b.name (ts b.ty) (sb b.body)) = bs.map skB := List.map_congr_left fun b hb => by
    show Bind.mk b.name zTy (skT (sb b.body)) = _
    rw [h2 b hb]; rfl
  have e3 : al.map (skA ∘ fun a => Alt.mk a.form a.n a.name a.vars (sb a.body)) = al.map skA := List.map_congr_left fun a ha => by
    show Alt.mk a.form a.n a.name a.vars (skT (sb a.body)) = _
    rw [h3 a ha]; rfl
  rw [e1, e2, e3]
  by_cases h7 : f = 7
  · rw [if_pos h7, if_pos h7]
  · rw [if_neg h7, if_neg h7, hn h7]
theorem m30s_map {g : Core → Core} : ∀ {l : List Core}, (∀ x ∈ l, m30 (g x) ≤ m30 x) → m30s (l.map g) ≤ m30s l
  | [], _ => Nat.le_refl _
  | c :: l, h => by
    rw [List.map_cons, m30s, m30s]
    have := h c List.mem_cons_self
    have := m30s_map (l := l) fun x hx => h x (List.mem_cons_of_mem _ hx)
    omega
theorem m30b_map {ts : Ty → Ty} {g : Core → Core} : ∀ {l : List Bind}, (∀ x ∈ l, m30 (g x.body) ≤ m30 x.body) → m30b (l.map fun b => .mk b.name (ts b.ty) (g b.body)) ≤ m30b l
  | [], _ => Nat.le_refl _
  | .mk s t c :: l, h => by
    rw [List.map_cons, m30b, m30b]
    have h1 := h _ List.mem_cons_self
    have h2 := m30b_map (ts := ts) (l := l) fun x hx => h x (List.mem_cons_of_mem _ hx)
    simp only [Bind.body, Bind.name] at h1 h2 ⊢
    omega
theorem m30a_map {g : Core → Core} : ∀ {l : List Alt}, (∀ x ∈ l, m30 (g x.body) ≤ m30 x.body) → m30a (l.map fun a => .mk a.form a.n a.name a.vars (g a.body)) ≤ m30a l
  | [], _ => Nat.le_refl _
  | .mk f n s vs c :: l, h => by
    rw [List.map_cons, m30a, m30a]
    have h1 := h _ List.mem_cons_self
    have h2 := m30a_map (l := l) fun x hx => h x (List.mem_cons_of_mem _ hx)
    simp only [Alt.body, Alt.name, Alt.vars] at h1 h2 ⊢
    omega
theorem m30_asm {ts : Ty → Ty} {sb : Core → Core} {f n : Int} {nm nm1 : Str} {t : Ty} {ks ks1 : List Core} {bs : List Bind} {al : List Alt} (hn : w30 nm1 ≤ w30 nm) (hk : m30s ks1 ≤ m30s ks)
    (h1 : ∀ x ∈ ks1, m30 (sb x) ≤ m30 x) (h2 : ∀ b ∈ bs, m30 (sb b.body) ≤ m30 b.body) (h3 : ∀ a ∈ al, m30 (sb a.body) ≤ m30 a.body) :
    m30 (asmST ts sb (.mk f n nm1 t ks1 bs al)) ≤ m30 (.mk f n nm t ks bs al) := by
  rw [asmST, m30, m30]
  have := m30s_map h1
  have := m30b_map (ts := ts) h2
  have := m30a_map h3
  omega
theorem allT_asm {p : Ty → Prop} {ts : Ty → Ty} {sb : Core → Core} {f n : Int} {nm1 : Str} {t : Ty} {ks1 : List Core} {bs : List Bind} {al : List Alt} (h0 : p (ts t)) (hb : ∀ b ∈ bs, p (ts b.ty))
    (h1 : ∀ x ∈ ks1, allT p (sb x)) (h2 : ∀ b ∈ bs, allT p (sb b.body)) (h3 : ∀ a ∈ al, allT p (sb a.body)) :
    allT p (asmST ts sb (.mk f n nm1 t ks1 bs al)) := by
  rw [asmST, allT]
  refine ⟨h0, allTs_iff.2 fun x hx => ?_, allTb_iff.2 fun x hx => ?_, allTa_iff.2 fun x hx => ?_⟩
  · obtain ⟨y, hy, rfl⟩ := List.mem_map.1 hx; exact h1 y hy
  · obtain ⟨y, hy, rfl⟩ := List.mem_map.1 hx; exact ⟨hb y hy, h2 y hy⟩
  · obtain ⟨y, hy, rfl⟩ := List.mem_map.1 hx; exact h3 y hy
end Go.Proofs.YtmoekkcdkjopgaaGreatDoor

/- TYPES PUT INTO CORE (5): core.SubstType gives some core of the same shape. -/
namespace Go.Proofs.YtmoekkcdkjopgaaGreatDoor
open Go Go.AM
set_option maxRecDepth 20000
def TOk (K : Nat) (t : Ty) : Prop := wfT t = true ∧ t30 t ≤ K
mutual
theorem tn_t30 : ∀ t : Ty, tn t ≤ t30 t
  | .mk f n s a => by
    rw [tn, t30]
    have := tns_t30 a
    omega
theorem tns_t30 : ∀ l : List Ty, tns l ≤ t30s l
  | [] => Nat.le_refl _
  | t :: l => by
    rw [tns, t30s]
    have := tn_t30 t
    have := tns_t30 l
    omega
end
theorem TOk.mono {K K' : Nat} (h : K ≤ K') {t : Ty} (ht : TOk K t) : TOk K' t := ⟨ht.1, Nat.le_trans ht.2 h⟩
mutual
theorem allT_mono {p q : Ty → Prop} (h : ∀ t, p t → q t) : ∀ c : Core, allT p c → allT q c
  | .mk f n s t ks bs al, hc => by
    rw [allT] at hc ⊢
    exact ⟨h t hc.1, allTs_mono h ks hc.2.1, allTb_mono h bs hc.2.2.1, allTa_mono h al hc.2.2.2⟩
theorem allTs_mono {p q : Ty → Prop} (h : ∀ t, p t → q t) : ∀ l : List Core, allTs p l → allTs q l
  | [], _ => trivial
  | c :: l, hc => by
    rw [allTs] at hc ⊢
    exact ⟨allT_mono h c hc.1, allTs_mono h l hc.2⟩
theorem allTb_mono {p q : Ty → Prop} (h : ∀ t, p t → q t) : ∀ l : List Bind, allTb p l → allTb q l
  | [], _ => trivial
  | .mk s t c :: l, hc => by
    rw [allTb] at hc ⊢
    exact ⟨h t hc.1, allT_mono h c hc.2.1, allTb_mono h l hc.2.2⟩
theorem allTa_mono {p q : Ty → Prop} (h : ∀ t, p t → q t) : ∀ l : List Alt, allTa p l → allTa q l
  | [], _ => trivial
  | .mk f n s vs c :: l, hc => by
    rw [allTa] at hc ⊢
    exact ⟨allT_mono h c hc.1, allTa_mono h l hc.2⟩
end
mutual
/-- How big its types are in all. -/
theorem cT_le {K : Nat} : ∀ c : Core, allT (TOk K) c → 31 * cT c ≤ m30 c * K
  | .mk f n s t ks bs al, hc => by
    rw [allT] at hc
    obtain ⟨h0, h1, h2, h3⟩ := hc
    rw [cT, m30, Nat.add_mul, Nat.add_mul, Nat.add_mul]
    have a1 := cTks_le ks h1
    have a2 := cTbs_le bs h2
    have a3 := cTas_le al h3
    have a0 : 31 * tn t ≤ (1 + w30 s) * K := Nat.mul_le_mul (by have := w30_30 s; omega) (Nat.le_trans (tn_t30 t) h0.2)
    omega
theorem cTks_le {K : Nat} : ∀ l : List Core, allTs (TOk K) l → 31 * cTks l ≤ m30s l * K
  | [], _ => by rw [cTks]; omega
  | c :: l, hc => by
    rw [allTs] at hc
    rw [cTks, m30s, Nat.add_mul]
    have := cT_le c hc.1
    have := cTks_le l hc.2
    omega
theorem cTbs_le {K : Nat} : ∀ l : List Bind, allTb (TOk K) l → 31 * cTbs l ≤ m30b l * K
  | [], _ => by rw [cTbs]; omega
  | .mk s t c :: l, hc => by
    rw [allTb] at hc
    rw [cTbs, m30b, Nat.add_mul, Nat.add_mul]
    have a1 := cT_le c hc.2.1
    have a2 := cTbs_le l hc.2.2
    have a0 : 31 * tn t ≤ (1 + w30 s) * K := Nat.mul_le_mul (by have := w30_30 s; omega) (Nat.le_trans (tn_t30 t) hc.1.2)
    omega
theorem cTas_le {K : Nat} : ∀ l : List Alt, allTa (TOk K) l → 31 * cTas l ≤ m30a l * K
  | [], _ => by rw [cTas]; omega
  | .mk f n s vs c :: l, hc => by
    rw [allTa] at hc
    rw [cTas, m30a, Nat.add_mul, Nat.add_mul]
    have a1 := cT_le c hc.1
    have a2 := cTas_le l hc.2
    omega
end
def STok (K N : Nat) (name : Str) (by_ : Ty) (c : Core) : Prop :=
  ∃ c', ImpC Tryz.prog 23 [.pa (encCore c), Go.AM.T name, tyV by_] [] (.pa (encCore c')) [] ∧ skT c' = skT c ∧ m30 c' ≤ m30 c ∧ allT (TOk (K * N)) c'
def ByOk (N : Nat) (by_ : Ty) : Prop := wfT by_ = true ∧ tn by_ ≤ 179 ∧ t30 by_ ≤ 31 * N ∧ 1 ≤ N
theorem ByOk.var {z : Str} (h : z.length ≤ 21) : ByOk 1 (vT z) := by
  refine ⟨by unfold vT; rw [wfT, if_neg (by decide), if_neg (by decide), wfTs]; rfl, ?_, ?_, Nat.le_refl _⟩
  · unfold vT; rw [tn, tns]; omega
  · unfold vT; rw [t30, t30s]; omega
theorem TyG_of (hI : ItoaTo 20000000000) {K : Nat} (hK : K ≤ 2790) {t : Ty} (h : TOk K t) : TyG t := c_typG (fun k hk => hI k (by omega)) t h.1 (by have := tn_t30 t; have := h.2; omega)
theorem ts_ex (hI : ItoaTo 20000000000) {K N : Nat} (hK : K ≤ 2790) {name : Str} {by_ : Ty} (hb : ByOk N by_) {u : Ty} (hu : TOk K u) :
    ∃ u', ImpC Tryz.prog 65 [tyV u, strsV [name], .one (.c (.sl 4 [encTy by_]))] [] (tyV u') [] ∧ TOk (K * N) u' := by
  obtain ⟨b1, b2, b3, b4⟩ := hb
  have h1 := tn_t30 u
  have h2 := hu.2
  have h3 : (1 + tn u) * 179 ≤ 500000 := by omega
  obtain ⟨u', a1, a2, a3, a4, a5⟩ := e_tsubst (fun k hk => hI k (by omega)) (tn u) u (Nat.le_refl _) hu.1 [(name, by_)] 179 (by omega) (fun p hp => by rw [List.mem_singleton.1 hp]; exact ⟨b2, b1⟩) h3
  exact ⟨u', a4, a1, Nat.le_trans (a5 N b4 fun p hp => by rw [List.mem_singleton.1 hp]; exact b3) (Nat.mul_le_mul_right _ h2)⟩
open Classical in
theorem e_sT_step (hI : ItoaTo 20000000000) {K : Nat} (hK : K ≤ 2790) (c : Core) (hB : m30 c ≤ 300000) (hw : wfC c = true) (hT : allT (TOk K) c)
    (ih : ∀ x, m30 x < m30 c → wfC x = true → allT (TOk K) x → ∀ name N by_, ByOk N by_ → STok K N name by_ x) (name : Str) (N : Nat) (by_ : Ty) (hb : ByOk N by_) : STok K N name by_ c := by
  have hcT := cT_le c hT
  have hcs := csize_m30 c
  have hcK : m30 c * K ≤ 300000 * 2790 := Nat.mul_le_mul hB hK
  have hty := c_ctypes (csize c) c (Nat.le_refl _) (by omega) (by omega)
  have htl := ty_len c
  have hTG : allT TyG c := allT_mono (fun t ht => TyG_of hI hK ht) c hT
  have hKN : K ≤ K * N := Nat.le_mul_of_pos_right _ hb.2.2.2
  have hself : allT (TOk (K * N)) c := allT_mono (fun t ht => ht.mono hKN) c hT
  have hfr := c_tfreeG (tn by_) by_ (Nat.le_refl _) (by have := hb.2.1; omega)
  have hfrl := tf_len by_
  have hb2 := hb.2.1
  obtain ⟨f, n, nm, t, ks, bs, al⟩ := c
  obtain ⟨w1, w2, w3, w4⟩ := wfC_un hw
  by_cases hs : f = 7 ∧ (nm = name ∨ (nm ≠ name ∧ ¬ name ∈ tyR (.mk f n nm t ks bs al)))
  · refine ⟨_, c_sT_skip f n nm name t by_ ks bs al (by omega) hTG hs.1 (hs.2.imp id fun h => ⟨h.1, _, hty, h.2, by omega⟩), rfl, Nat.le_refl _, hself⟩
  rw [allT] at hT
  obtain ⟨t0, t1, t2, t3⟩ := hT
  have hm := hB
  rw [m30] at hm
  have h30 := w30_30 nm
  -- what is cleared
  have hclr : ∃ nm1 ks1, (f = 7 → nm ≠ name ∧ bs = [] ∧ al = [] ∧ ∃ tl fr : List Str, ImpC Tryz.prog 61 [.pa (encCore (.mk f n nm t ks bs al))] [] (strsV tl) [] ∧ name ∈ tl ∧ tl.length ≤ 20000000000 ∧ ImpC Tryz.prog 63 [tyV by_] [] (strsV fr) [] ∧
      ImpC Tryz.prog 62 [.one (.vp 700 0), strsV fr] (gHl f n nm t ks [] []) (.tup []) (gHl f n nm1 t ks1 [] [])) ∧ (f ≠ 7 → nm1 = nm ∧ ks1 = ks) ∧ ks1.length = ks.length ∧ w30 nm1 ≤ w30 nm ∧ ks1.map skT = ks.map skT ∧
      ∀ x ∈ ks1, ∃ y ∈ ks, m30 x ≤ m30 y ∧ skT x = skT y ∧ allT (TOk K) x := by
    by_cases h7 : f = 7
    · subst h7
      obtain ⟨⟨kid, rfl⟩, rfl, rfl⟩ := w1 (.inr (.inr rfl))
      have hne : nm ≠ name := fun h => hs ⟨rfl, .inl h⟩
      have hin : name ∈ tyR (.mk 7 n nm t [kid] [] []) := Classical.byContradiction fun h => hs ⟨rfl, .inr ⟨hne, h⟩⟩
      have hkT : allT (TOk K) kid := allTs_iff.1 t1 kid List.mem_cons_self
      have hkw : wfC kid = true := w2 kid List.mem_cons_self
      have hkm : m30 kid < m30 (.mk 7 n nm t [kid] [] []) := by
        rw [m30, m30s, m30s]; omega
      by_cases hnf : nm ∈ tfR by_
      · have hk1 := csize_m30 kid
        have hk2 := cT_le kid hkT
        have hk3 : m30 kid * K ≤ 300000 * 2790 := Nat.mul_le_mul (by omega) hK
        have hk4 := ty_len kid
        have hkty := c_ctypes (csize kid) kid (Nat.le_refl _) (by omega) (by omega)
        have hz : (freshR (tfR by_ ++ tyR kid)).length ≤ 21 := fresh_len _ (by rw [List.length_append]; omega)
        obtain ⟨kid', c1, c2, c3, c4⟩ := ih kid hkm hkw hkT nm 1 (vT (freshR (tfR by_ ++ tyR kid))) (ByOk.var hz)
        rw [Nat.mul_one] at c4
        refine ⟨freshR (tfR by_ ++ tyR kid), [kid'], fun _ => ⟨hne, rfl, rfl, _, _, hty, hin, by omega, hfr, c_clearY n nm t kid kid' (tfR by_) (by omega) hnf hI hkty (by omega) c1⟩, fun h => absurd rfl h, rfl, w30_z (by omega), by simp [c2], fun x hx => ?_⟩
        rw [List.mem_singleton.1 hx]
        exact ⟨kid, List.mem_cons_self, c3, c2, c4⟩
      · refine ⟨nm, [kid], fun _ => ⟨hne, rfl, rfl, _, _, hty, hin, by omega, hfr, c_clearN n nm t kid (tfR by_) (by omega) hnf⟩, fun _ => ⟨rfl, rfl⟩, rfl, Nat.le_refl _, rfl, fun x hx => ⟨x, hx, Nat.le_refl _, rfl, ?_⟩⟩
        rw [List.mem_singleton.1 hx]; exact hkT
    · exact ⟨nm, ks, fun h => absurd h h7, fun _ => ⟨rfl, rfl⟩, rfl, Nat.le_refl _, rfl, fun x hx => ⟨x, hx, Nat.le_refl _, rfl, allTs_iff.1 t1 x hx⟩⟩
  obtain ⟨nm1, ks1, q1, q2, q3, q4, q5, q6⟩ := hclr
  have hks1 : ∀ x ∈ ks1, m30 x < m30 (.mk f n nm t ks bs al) ∧ wfC x = true ∧ allT (TOk K) x := fun x hx => by
    obtain ⟨y, hy, e1, e2, e3⟩ := q6 x hx
    have := m30s_mem hy
    refine ⟨by rw [m30]; omega, ?_, e3⟩
    rw [← wf_sk, e2, wf_sk]; exact w2 y hy
  have hch : ∀ x, (x ∈ ks1 ∨ (∃ b ∈ bs, x = b.body) ∨ ∃ a ∈ al, x = a.body) → STok K N name by_ x := fun x hx => by
    rcases hx with hx | ⟨b, hx, rfl⟩ | ⟨a, hx, rfl⟩
    · obtain ⟨e1, e2, e3⟩ := hks1 x hx
      exact ih x e1 e2 e3 name N by_ hb
    · have := m30b_mem hx
      exact ih _ (by rw [m30]; omega) (w3 b hx) (allTb_iff.1 t2 b hx).2 name N by_ hb
    · have := m30a_mem hx
      exact ih _ (by rw [m30]; omega) (w4 a hx) (allTa_iff.1 t3 a hx) name N by_ hb
  have htt : ∀ u, (u = t ∨ ∃ b ∈ bs, u = b.ty) → ∃ u', ImpC Tryz.prog 65 [tyV u, strsV [name], .one (.c (.sl 4 [encTy by_]))] [] (tyV u') [] ∧ TOk (K * N) u' := fun u hu => by
    rcases hu with rfl | ⟨b, hx, rfl⟩
    · exact ts_ex hI hK hb t0
    · exact ts_ex hI hK hb (allTb_iff.1 t2 b hx).1
  have hsb : ∃ sb : Core → Core, ∀ x, STok K N name by_ x → ImpC Tryz.prog 23 [.pa (encCore x), Go.AM.T name, tyV by_] [] (.pa (encCore (sb x))) [] ∧ skT (sb x) = skT x ∧ m30 (sb x) ≤ m30 x ∧ allT (TOk (K * N)) (sb x) :=
    ⟨fun x => if h : STok K N name by_ x then Classical.choose h else x, fun x h => by
      dsimp only
      rw [dif_pos h]; exact Classical.choose_spec h⟩
  have hts : ∃ ts : Ty → Ty, ∀ u, (u = t ∨ ∃ b ∈ bs, u = b.ty) → ImpC Tryz.prog 65 [tyV u, strsV [name], .one (.c (.sl 4 [encTy by_]))] [] (tyV (ts u)) [] ∧ TOk (K * N) (ts u) :=
    ⟨fun u => if h : (u = t ∨ ∃ b ∈ bs, u = b.ty) then Classical.choose (htt u h) else u, fun u h => by
      dsimp only
      rw [dif_pos h]; exact Classical.choose_spec (htt u h)⟩
  obtain ⟨sb, hsb⟩ := hsb
  obtain ⟨ts, hts⟩ := hts
  have hk : ∀ x ∈ ks1, _ := fun x hx => hsb x (hch x (.inl hx))
  have hbb : ∀ b ∈ bs, _ := fun b hx => hsb b.body (hch b.body (.inr (.inl ⟨b, hx, rfl⟩)))
  have haa : ∀ a ∈ al, _ := fun a hx => hsb a.body (hch a.body (.inr (.inr ⟨a, hx, rfl⟩)))
  have hmk : m30s ks1 ≤ m30s ks := by
    by_cases h7 : f = 7
    · obtain ⟨⟨kid, rfl⟩, _⟩ := w1 (.inr (.inr h7))
      obtain ⟨k1, rfl⟩ := List.length_eq_one_iff.1 q3
      obtain ⟨y, hy, e, _⟩ := q6 k1 List.mem_cons_self
      rw [List.mem_singleton.1 hy] at e
      rw [m30s, m30s, m30s, m30s]; omega
    · rw [(q2 h7).2]; exact Nat.le_refl _
  refine ⟨_, c_sT_walk f n nm nm1 name t by_ ks ks1 bs al ts sb (by omega) hTG q3 q1 q2 (fun u hu => (hts u hu).1) (fun x hx => (hsb x (hch x hx)).1), ?_, ?_, ?_⟩
  · exact skT_asm (fun h => (q2 h).1) q5 (fun x hx => (hk x hx).2.1) (fun b hx => (hbb b hx).2.1) (fun a hx => (haa a hx).2.1)
  · exact m30_asm q4 hmk (fun x hx => (hk x hx).2.2.1) (fun b hx => (hbb b hx).2.2.1) (fun a hx => (haa a hx).2.2.1)
  · exact allT_asm (hts t (.inl rfl)).2 (fun b hx => (hts b.ty (.inr ⟨b, hx, rfl⟩)).2) (fun x hx => (hk x hx).2.2.2) (fun b hx => (hbb b hx).2.2.2) (fun a hx => (haa a hx).2.2.2)
/-- core.SubstType gives some core of the same shape. -/
theorem e_sT (hI : ItoaTo 20000000000) {K : Nat} (hK : K ≤ 2790) : ∀ (m : Nat) (c : Core), m30 c ≤ m → m30 c ≤ 300000 → wfC c = true → allT (TOk K) c → ∀ name N by_, ByOk N by_ → STok K N name by_ c
  | 0, c, h, _, _, _ => by have := m30_pos c; omega
  | m + 1, c, h, hB, hw, hT => e_sT_step hI hK c hB hw hT fun x hx hxw hxT => e_sT hI hK m x (by omega) (by omega) hxw hxT
end Go.Proofs.YtmoekkcdkjopgaaGreatDoor

/- CORE IN THE PLACE OF A NAME (core.Subst), types among it: the walk. -/
namespace Go.Proofs.YtmoekkcdkjopgaaGreatDoor
open Go Go.AM
set_option maxRecDepth 20000
/-- One round: the parts and the names are put into by sb. -/
noncomputable def asmS (sb : Core → Str → Core → Core) (s : Str) (b : Core) : Core → Core
  | .mk f n nm t ks bs al => .mk f n (zNm sb f nm s b ks bs 1) t (zKs sb f nm s b ks bs 1) (zBs sb f nm s b ks bs 1) (al.map (newA sb s b))
theorem c_sub_var (f n : Int) (nm : Str) (t : Ty) (ks : List Core) (bs : List Bind) (al : List Alt) (s : Str) (b : Core) (hv : f = 1 ∧ nm = s) (hcb : csize b ≤ 40000000000) (hTb : allT TyG b) :
    ImpC Tryz.prog 25 [.pa (encCore (.mk f n nm t ks bs al)), Go.AM.T s, .pa (encCore b)] [] (.pa (encCore b)) [] := by
  have hob := c_ownP (csize b) b (Nat.le_refl _) hcb hTb
  have hob : ImpC Tryz.prog 59 [.pa (encCore b)] [] (.pa (encCore b)) [] := hob
  have hd1 : decide (f = 1) = true := decide_eq_true hv.1
  have hd2 : decide (nm = s) = true := decide_eq_true hv.2
  refine impC (n := 47) tok Tryz.func25 rfl rfl rfl ?_
  refine awp_seq (ag [] rfl ?_)
  refine awp_seq (awp_seq (ag [(3, .bv true), (8, .bv true)] rfl ?_))
  refine awp_cond rfl (fun _ => ?_) (fun hb => ?_)
  · refine awp_seq (awp_rg mixed ?_)
    refine ak 1 [] rfl ?_
    refine kc hob ?_
    refine ak 1 [] rfl ?_
    refine az ?_
    exact awp_ret (rtC trw)
  · exact absurd (show decide (nm = s) = false from hb) (by rw [hd2]; decide)
theorem c_sub_walk (sb : Core → Str → Core → Core) (P : Core → Prop) (f n : Int) (nm0 nm : Str) (t : Ty) (ks0 ks : List Core) (bs : List Bind) (al : List Alt) (s : Str) (b : Core)
    (hcs : csize (.mk f n nm0 t ks0 bs al) ≤ 40000000000) (hT : allT TyG (.mk f n nm0 t ks0 bs al)) (hv : ¬ (f = 1 ∧ nm0 = s)) (hkl0 : ks.length = ks0.length)
    (w2 : f = 5 → (∃ k, ks = [k]) ∧ bs = [] ∧ al = [])
    (h7 : f = 7 → bs = [] ∧ al = [] ∧ ∃ fl : List Str, ImpC Tryz.prog 67 [.pa (encCore (.mk f n nm0 t ks0 bs al))] [] (strsV fl) [] ∧ fl.length ≤ 20000000000 ∧
      (s ∈ fl → ∃ tl : List Str, ImpC Tryz.prog 61 [.pa (encCore b)] [] (strsV tl) [] ∧ ImpC Tryz.prog 62 [.one (.vp 700 0), strsV tl] (gHl f n nm0 t ks0 [] []) (.tup []) (gHl f n nm t ks [] [])) ∧
      (¬ s ∈ fl → nm = nm0 ∧ ks = ks0))
    (hn7 : f ≠ 7 → nm = nm0 ∧ ks = ks0)
    (hok : PutOk sb P s b (ks ++ bs.map Bind.body)) (hokA : ∀ a ∈ al, PutOk sb P s b [a.body])
    (hM : ((ks ++ bs.map Bind.body).flatMap pfR).length + 2 * (1 + bs.length) + (pfR b).length + (ks.length + bs.length) ≤ 20000000000)
    (hMA : ∀ a ∈ al, (pfR a.body).length + 2 * a.vars.length + (pfR b).length + 1 ≤ 20000000000) :
    ImpC Tryz.prog 25 [.pa (encCore (.mk f n nm0 t ks0 bs al)), Go.AM.T s, .pa (encCore b)] [] (.pa (encCore (asmS sb s b (.mk f n nm t ks bs al)))) [] := by
  have hog := c_ownG _ hcs hT
  have hog : ImpC Tryz.prog 59 [.pa (encCore (.mk f n nm0 t ks0 bs al))] [] (.ma (cellsG f n nm0 t ks0.length bs.length al.length)) (oHl ks0 bs al ++ fam 0 al) := hog
  refine impC (n := 47) tok Tryz.func25 rfl rfl rfl ?_
  refine awp_seq (ag [] rfl ?_)
  refine awp_seq (AWp.cut (mk [(1, Go.AM.T s), (3, .one (.vp 3 0)), (5, .one (.vp 5 0)), (6, .one (.vp 6 0))] [(3, .var 37 (cellsC (.mk f n nm0 t ks0 bs al))), (5, .var 37 (cellsC b)), (6, .var 37 zCells)]) ?_ ?_)
  · by_cases hf1 : f = 1
    · have hd1 : decide (f = 1) = true := decide_eq_true hf1
      have hd2 : decide (nm0 = s) = false := decide_eq_false fun h => hv ⟨hf1, h⟩
      refine awp_seq (ag [(3, .bv true), (8, .bv true)] rfl ?_)
      refine awp_cond rfl (fun hb => ?_) (fun _ => awp_skip sl)
      exact absurd (show decide (nm0 = s) = true from hb) (by rw [hd2]; decide)
    · have hd1 : decide (f = 1) = false := decide_eq_false hf1
      refine awp_seq (ag [(3, .bv false), (8, .bv false)] rfl ?_)
      exact awp_cond rfl (fun hb => by cases hb) (fun _ => awp_skip sl)
  have hF : TF (fam 0 al) := fam_tf
  refine awp_seq (awp_rg mixed ?_)
  refine ak 1 [] rfl ?_
  refine kc hog ?_ (hout' := AllP.app ⟨.inr rfl, .inr rfl, .inr rfl, trivial⟩ (AllP.of fun p hp => .inr ((show FarNone _ by repeat (first | exact FarNone.nil | (refine FarNone.updL ?_) | (refine FarNone.upd ?_))) p.1 (hF.far p hp))))
  rw [far_outs hF]
  refine ak 2 [(2, .id 700)] rfl ?_
  refine az ?_
  refine AWp.sub (st2 := mkt [(1, Go.AM.T s), (3, .one (.vp 3 0)), (5, .one (.vp 5 0)), (6, .one (.vp 6 0)), (7, .one (.vp 700 0))] ([(3, .var 37 (cellsC (.mk f n nm0 t ks0 bs al))), (5, .var 37 (cellsC b)), (6, .var 37 zCells)] ++ gHl f n nm0 t ks0 bs al) (fam 0 al)) (slG gW (fun _ h => by cases h) (by repeat (first | exact FarEq.bif hF (FarEq.outs hF) | (refine FarEq.updL hF ?_) | (refine FarEq.upd hF ?_)))) ?_
  refine awp_seq (AWp.cut (mkt [(1, Go.AM.T s), (3, .one (.vp 3 0)), (5, .one (.vp 5 0)), (6, .one (.vp 6 0)), (7, .one (.vp 700 0))] ([(3, .var 37 (cellsC (.mk f n nm0 t ks0 bs al))), (5, .var 37 (cellsC b)), (6, .var 37 zCells)] ++ gHl f n nm t ks bs al) (fam 0 al)) ?_ ?_)
  · by_cases hf7 : f = 7
    · have hd7 : decide (f = 7) = true := decide_eq_true hf7
      obtain ⟨rfl, rfl, fl, hfr, hfl, hy, hn⟩ := h7 hf7
      have hct := c_contains fl s (by omega)
      refine awp_seq (awp_rg mixed ?_)
      refine ak 5 [(3, .bv true)] rfl ?_
      refine kcG hfr ?_
      refine ak 1 [(3, .bv true)] rfl ?_
      by_cases hin : s ∈ fl
      · rw [decide_eq_true hin] at hct
        obtain ⟨tl, hty, hcl⟩ := hy hin
        refine kcG hct ?_
        refine ak 1 [(3, .bv true), (8, .bv true)] rfl ?_
        refine az ?_
        refine awp_cond rfl (fun _ => ?_) (fun hb => by cases hb)
        refine awp_rg mixed ?_
        refine ak 1 [] rfl ?_
        refine kc hty ?_
        refine kc hcl ?_
        refine az ?_
        exact slG gW (fun _ h => by cases h) (fun p hp => by cases hp)
      · rw [decide_eq_false hin] at hct
        obtain ⟨rfl, rfl⟩ := hn hin
        refine kcG hct ?_
        refine ak 1 [(3, .bv true), (8, .bv true)] rfl ?_
        refine az ?_
        refine awp_cond rfl (fun hb => by cases hb) (fun _ => ?_)
        exact awp_skip (slG gW (fun _ h => by cases h) (fun p hp => by cases hp))
    · have hd7 : decide (f = 7) = false := decide_eq_false hf7
      obtain ⟨rfl, rfl⟩ := hn7 hf7
      refine awp_seq (ag [(3, .bv false), (8, .bv false)] rfl ?_)
      refine awp_cond rfl (fun hb => by cases hb) (fun _ => ?_)
      exact awp_skip (slG gW (fun _ h => by cases h) (by repeat (first | exact FarEq.raw hF | (refine FarEq.updL hF ?_) | (refine FarEq.upd hF ?_))))
  have hR := putR_len (sb := sb) (s := s) (b := b) (ns := gvN f nm bs) (ps := ks ++ bs.map Bind.body)
  have hN1 : ∀ g, (zKs sb f nm s b ks bs g).length = ks.length := fun g => by
    cases g with
    | zero => rfl
    | succ g => show (List.take _ _).length = _; rw [List.length_take, hR.2, List.length_append]; omega
  have hbsl : (bs.map Bind.ty).length = bs.length := List.length_map _
  have hN2 : ∀ g, (zBs sb f nm s b ks bs g).length = bs.length := fun g => by
    cases g with
    | zero => rfl
    | succ g =>
      show (mkB _ _ _).length = _
      by_cases hf5 : f = 5
      · obtain ⟨_, rfl, _⟩ := w2 hf5
        rfl
      · rw [mkB_len, hbsl]
        · rw [hR.1]; unfold gvN; rw [if_neg hf5]; simp
        · rw [List.length_drop, hR.2, List.length_append]; simp
  have hN3 : ∀ g, (zAs sb s b al g).length = al.length := fun g => by
    cases g with
    | zero => rfl
    | succ g => exact altI_len
  have hcm := hcs
  rw [csize] at hcm
  have hkl := csizes_len ks0
  have hbl := bsizes_len bs
  have hall := asizes_len al
  have hgr := c_groupsG (decide (f = 5)) f n nm t ks bs al rfl (by omega) (by omega) (by omega) (fun a ha => by
    have hav := asizes_mem ha
    have hvl := vsum_le a
    omega)
  have hrows := gf_rows (f := f) (n := n) (s := nm) (t := t) (ks := ks) (bs := bs) (al := al) (decide (f = 5)) al.length
  rw [List.take_length] at hrows
  have hgl : (gRowsA (decide (f = 5)) ks.length bs.length al.length al).length = 1 + al.length := g_len
  have hra : gfo f n nm t ks bs al (R.refsL (gRowsA (decide (f = 5)) ks.length bs.length al.length al).flatten) := by rw [refsL_flat]; exact hrows
  have hg0 : (gRowsA (decide (f = 5)) ks.length bs.length al.length al)[0]? = some (g0Row (decide (f = 5)) ks.length bs.length) := g_at0
  have hgA : ∀ i a, al[i]? = some a → (gRowsA (decide (f = 5)) ks.length bs.length al.length al)[i + 1]? = some (alRow al.length i a) := fun i a h => g_atA h
  have htk : ∀ k r, (gRowsA (decide (f = 5)) ks.length bs.length al.length al)[k]? = some r → ((gRowsA (decide (f = 5)) ks.length bs.length al.length al).flatten.drop (k * 2)).take 2 = r := take_flat g_rows2
  generalize gRowsA (decide (f = 5)) ks.length bs.length al.length al = G at hgr hgl hra hg0 hgA htk
  refine awp_seq (awp_seq (awp_rg mixed ?_))
  refine kc hgr ?_ (hin' := AllP.app ⟨rfl, rfl, rfl, rfl, trivial⟩ (FarEq.raw hF).all) (hout' := AllP.of fun p hp => .inl (List.mem_map.2 ⟨p, hp, rfl⟩)) (hok := callOkT hF (fun x hx => .inl (subset_spec (show subset _ _ = true from rfl) x hx)) gHl_refs)
  refine ak 2 [] rfl ?_
  refine az ?_
  refine AWp.sub (Sub.outsT hF) ?_
  refine awp_block ?_
  have hel : ∀ g ex, ∀ x ∈ R.refsL G.flatten, Kn ex (gHl f n (zNm sb f nm s b ks bs g) t (zKs sb f nm s b ks bs g) (zBs sb f nm s b ks bs g) (zAs sb s b al g)) (fam 0 (zAs sb s b al g)) x := fun g ex x hx => by
    rcases hra x hx with h | h
    · exact .inr (.inl (by simpa [gHl, keys] using h))
    · exact .inr (.inr (by rw [fam_keys (hN3 g)]; exact h))
  have hTF : ∀ g, TF (fam 0 (zAs sb s b al g)) := fun g => fam_tf
  refine awp_loop (fun g : Nat => mkt [(1, Go.AM.T s), (5, .one (.vp 5 0)), (6, .one (.vp 6 0)), (7, .one (.vp 700 0)), (35, .one (.ras G.length 2 G.flatten)), (36, I .i64 ((G.length : Nat) : Int)), (37, I .i64 g)] ([(5, .var 37 (cellsC b)), (6, .var 37 zCells)] ++ gHl f n (zNm sb f nm s b ks bs g) t (zKs sb f nm s b ks bs g) (zBs sb f nm s b ks bs g) (zAs sb s b al g)) (fam 0 (zAs sb s b al g))) (fun g => g ≤ G.length) (fun g => G.length - g) 0 (Nat.zero_le _) (slG gW (fun _ h => by cases h) (FarEq.bif hF (FarEq.outs hF)) (h1 := Kn.app Kn.nil (Kn.app (Kn.of rfl) (Kn.app (Kn.of rfl) (Kn.app (Kn.of rfl) (Kn.app (hel 0 _) Kn.nil)))))) ?_
  intro g hg
  have hFg := hTF g
  refine awp_seq (ag [] rfl ?_)
  refine awp_seq (awp_cond rfl (fun hb => ?_) (fun hb => ?_))
  · have hlt : g < G.length := by
      have : (g : Int) < (G.length : Int) := of_decide_eq_true hb
      omega
    refine awp_skip ?_
    cases g with
    | zero =>
      have ht0 := htk 0 _ hg0
      by_cases hf5 : f = 5
      · have hd5 : decide (f = 5) = true := decide_eq_true hf5
        obtain ⟨⟨x, rfl⟩, rfl, rfl⟩ := w2 hf5
        subst hf5
        have hM' := hM
        simp only [List.map_nil, List.append_nil, List.flatMap_cons, List.flatMap_nil, List.length_cons, List.length_nil] at hM'
        obtain ⟨x', q, hq, hput⟩ := c_putL n t nm x s b sb _ hok (by omega)
        have hgv : gvN 5 nm [] = [nm] := rfl
        have e1 : zNm sb 5 nm s b [x] [] 1 = x' := by
          show (if (5 : Int) = 5 then (putR sb s b (gvN 5 nm []) ([x] ++ [].map Bind.body)).1.headD nm else nm) = x'
          rw [if_pos rfl, hgv]
          show (putR sb s b [nm] [x]).1.headD nm = x'
          rw [hq]; rfl
        have e2 : zKs sb 5 nm s b [x] [] 1 = [q] := by
          show (putR sb s b (gvN 5 nm []) ([x] ++ [].map Bind.body)).2.take 1 = [q]
          rw [hgv]
          show (putR sb s b [nm] [x]).2.take 1 = [q]
          rw [hq]; rfl
        have e3 : zBs sb 5 nm s b [x] [] 1 = [] := rfl
        have e4 : zAs sb s b [] 1 = [] := rfl
        refine awp_seq (awp_block (awp_seq (ag [(0, .rowR 0 (g0Row true 1 0))] rfl ?_)))
        refine awp_rg mixed ?_
        refine ak 3 [] rfl ?_
        refine kc hput ?_
        refine az ?_
        refine ag [] rfl ?_
        refine ⟨1, hlt, by dsimp only; omega, ?_⟩
        have hel1 := hel 1
        rw [e1, e2, e3, e4] at hel1
        dsimp only
        rw [e1, e2, e3, e4]
        exact slG gW (fun _ h => by cases h) (fun p hp => by cases hp) (h1 := Kn.app Kn.nil (Kn.app (Kn.of rfl) (Kn.app (Kn.of rfl) (Kn.app (Kn.of rfl) (Kn.app (hel1 _) Kn.nil)))))
      · have hd5 : decide (f = 5) = false := decide_eq_false hf5
        have hgv : gvN f nm bs = bs.map Bind.name := by unfold gvN; rw [if_neg hf5]; rfl
        have hput := c_putT (bs.map Bind.ty) ks.length (bs.map Bind.name) (ks ++ bs.map Bind.body) s b sb _ (by simp) (by simp) hok (by simp only [List.length_map, List.length_append]; omega)
        have eH : tH (bs.map Bind.ty) ks.length (bs.map Bind.name) (ks ++ bs.map Bind.body) = [(701, .arr 73 15 (encBinds bs) 0), (702, .arr 37 10 (encCores ks) 0)] := by
          unfold tH
          rw [List.drop_left, List.take_left, mkB_id]
        rw [eH, hbsl] at hput
        have hr0 : g0Row (decide (f = 5)) ks.length bs.length = [.ras (tN bs.length).length 1 (tN bs.length), .ras (tP ks.length bs.length).length 1 (tP ks.length bs.length)] := g0_eq hd5
        rw [hr0] at hg0 ht0
        have eB : encBinds (zBs sb f nm s b ks bs 1) = encBinds (mkB (bs.map Bind.ty) (putR sb s b (bs.map Bind.name) (ks ++ bs.map Bind.body)).1 ((putR sb s b (bs.map Bind.name) (ks ++ bs.map Bind.body)).2.drop ks.length)) := by
          show encBinds (mkB _ _ _) = _
          rw [hgv]
        have eK : encCores (zKs sb f nm s b ks bs 1) = encCores ((putR sb s b (bs.map Bind.name) (ks ++ bs.map Bind.body)).2.take ks.length) := by
          show encCores (List.take _ _) = _
          rw [hgv]
        have eN : zNm sb f nm s b ks bs 1 = nm := by show (if f = 5 then _ else nm) = nm; rw [if_neg hf5]
        have eA : zAs sb s b al 1 = al := altI_zero
        have l1 := hN1 1
        have l2 := hN2 1
        refine awp_seq (awp_block (awp_seq (ag [(0, .rowR 0 [.ras (tN bs.length).length 1 (tN bs.length), .ras (tP ks.length bs.length).length 1 (tP ks.length bs.length)])] rfl ?_)))
        refine awp_rg mixed ?_
        refine ak 3 [] rfl ?_
        refine kc hput ?_ (hok := ?_)
        refine az ?_
        refine ag [] rfl ?_
        refine ⟨1, hlt, by dsimp only; omega, ?_⟩
        have hel1 := hel 1
        dsimp only
        rw [eN, eA] at hel1 ⊢
        refine slG gW (fun _ h => by cases h) (by repeat (first | exact FarEq.raw hF | (refine FarEq.updL hF ?_) | (refine FarEq.upd hF ?_))) (h1 := Kn.app Kn.nil (Kn.app (Kn.of rfl) (Kn.app (Kn.of rfl) (Kn.app (Kn.of rfl) (Kn.app (hel1 _) Kn.nil))))) (hh := ⟨⟨_, rfl, .varS rfl⟩, ⟨_, rfl, .varS rfl⟩, ⟨_, rfl, .varS ?_⟩, ⟨_, rfl, .arrS ?_⟩, ⟨_, rfl, .arrS ?_⟩, ⟨_, rfl, .rarrS rfl⟩, trivial⟩)
        · rw [l1, l2]; rfl
        · exact eB.symm
        · exact eK.symm
        · refine callOkT (F := []) ⟨fun _ h => (by cases h), List.nodup_nil, fun _ h => (by cases h)⟩ (fun x hx => .inl ?_) (fun x hx => by cases hx)
          have hx : x ∈ (grO (tN bs.length) (tP ks.length bs.length)).refs := by simpa [grO, gpV, AObj.refs, V.refsL, V.refs, R.refsL, R.refs] using hx
          rcases tG_refs x hx with rfl | rfl
          · simp [keys]
          · simp [keys]
    | succ i =>
      have hia : i < al.length := by omega
      obtain ⟨a, hai⟩ := get_of_lt hia
      have ht0 := htk (i + 1) _ (hgA i a hai)
      have hm := List.mem_of_getElem? hai
      have hok := hokA a hm
      have hMa := hMA a hm
      have hz1 : zAs sb s b al (i + 1) = altI sb s b al i := rfl
      have hz2 : zAs sb s b al (i + 1 + 1) = (altI sb s b al i).set i (newA sb s b a) := altI_succ hai
      have hz3 : zNm sb f nm s b ks bs (i + 1 + 1) = zNm sb f nm s b ks bs (i + 1) := rfl
      have hz4 : zKs sb f nm s b ks bs (i + 1 + 1) = zKs sb f nm s b ks bs (i + 1) := rfl
      have hz5 : zBs sb f nm s b ks bs (i + 1 + 1) = zBs sb f nm s b ks bs (i + 1) := rfl
      obtain ⟨q, hq, hput⟩ := c_putAi (altI sb s b al i) i a (altI_at hai) s b sb _ hok (by omega) (vR i a.vars.length a.vars.length).length (rgR_len _ _) al.length altI_len.symm
      have hnew : (Alt.mk a.form a.n a.name (putR sb s b a.vars [a.body]).1 q) = newA sb s b a := by unfold newA; rw [hq]; rfl
      rw [hnew] at hput
      have hvl : (vR i a.vars.length a.vars.length).length = a.vars.length := rgR_len _ _
      have hel2 := hel (i + 1 + 1)
      have hTF2 := hTF (i + 1 + 1)
      have hA3 := hN3 (i + 1 + 1)
      rw [hz2] at hel2 hTF2 hA3
      rw [hz3, hz4, hz5] at hel2
      have hA4 : (altI sb s b al i).length = al.length := altI_len
      generalize hNm : zNm sb f nm s b ks bs (i + 1) = nm1 at *
      generalize hKs : zKs sb f nm s b ks bs (i + 1) = ks1 at *
      generalize hBs : zBs sb f nm s b ks bs (i + 1) = bs1 at *
      rw [hz1] at hFg ⊢
      have halR : alRow al.length i a = [.ras (vR i a.vars.length a.vars.length).length 1 (vR i a.vars.length a.vars.length).flatten, .ras 1 1 [.rp 703 i 4 al.length]] := rfl
      rw [halR] at ht0
      rw [hvl] at ht0 hput
      refine awp_seq (awp_block (awp_seq (ag [(0, .rowR (i + 1) [.ras a.vars.length 1 (vR i a.vars.length a.vars.length).flatten, .ras 1 1 [.rp 703 i 4 al.length]])] rfl ?_)))
      refine awp_rg mixed ?_
      refine ak 3 [] rfl ?_
      refine kc hput ?_ (hin' := ⟨rfl, FarEq.all (by repeat (first | exact FarEq.raw hFg | (refine FarEq.updL hFg ?_) | (refine FarEq.upd hFg ?_)))⟩) (hout' := ?_) (hok := ?_)
      · have hcons : ∀ (o : AObj) (F : List (Nat × AObj)), ((703, o) :: F) = [(703, o)] ++ F := fun _ _ => rfl
        rw [hcons, far_outs hTF2]
        refine az ?_
        refine ag [] rfl ?_
        refine ⟨i + 1 + 1, by omega, by dsimp only; omega, ?_⟩
        dsimp only
        rw [hz2, hz3, hz4, hz5]
        refine slG gW (fun _ h => by cases h) (FarEq.bif hTF2 (FarEq.outs hTF2)) (h1 := Kn.app Kn.nil (Kn.app (Kn.of rfl) (Kn.app (Kn.of rfl) (Kn.app (Kn.of rfl) (Kn.app (hel2 _) Kn.nil))))) (hh := ⟨⟨_, rfl, .varS rfl⟩, ⟨_, rfl, .varS rfl⟩, ⟨_, rfl, .varS ?_⟩, ⟨_, rfl, .arr⟩, ⟨_, rfl, .arr⟩, ⟨_, rfl, .rarrS rfl⟩, trivial⟩)
        rw [hA3, hA4]
      · refine AllP.of fun p hp => .inl ?_
        have hp1 : p.1 ∈ keys ((703, AObj.rarr 78 14 (altRows 0 ((altI sb s b al i).set i (newA sb s b a)))) :: fam 0 ((altI sb s b al i).set i (newA sb s b a))) := List.mem_map.2 ⟨p, hp, rfl⟩
        show p.1 ∈ 703 :: keys (fam 0 (altI sb s b al i))
        rw [fam_keys (m := (altI sb s b al i).set i (newA sb s b a)) (by rw [List.length_set])]
        exact hp1
      · refine callOkT (hl := [(703, .rarr 78 14 (altRows 0 (altI sb s b al i)))]) hFg (fun x hx => ?_) (fun x hx => .inr (altRows_refs x (by simpa [refsH, AObj.refs] using hx)))
        have hx : x ∈ R.refsL (vR i a.vars.length a.vars.length).flatten ++ [703] := by simpa [V.refsL, V.refs, R.refsL, R.refs] using hx
        rcases List.mem_append.1 hx with hx | hx
        · rw [refsL_flat] at hx
          have := rgR_refs (L := fun x => x = i + 800) (fun j x hx => by simpa [R.refsL, R.refs] using hx) _ x hx
          rw [this]
          have hk := fam_key (l := altI sb s b al i) (k := 0) (i := i) (by omega)
          rw [Nat.zero_add] at hk
          exact .inr hk
        · rw [List.mem_singleton.1 hx]; exact .inl (by simp [keys])
  have hge : g = 1 + al.length := by
    have : ¬ (g : Int) < (G.length : Int) := of_decide_eq_false hb
    omega
  have hgs : g = al.length + 1 := by omega
  subst hgs
  clear hge hb
  have e : asmS sb s b (.mk f n nm t ks bs al) = .mk f n (zNm sb f nm s b ks bs (al.length + 1)) t (zKs sb f nm s b ks bs (al.length + 1)) (zBs sb f nm s b ks bs (al.length + 1)) (zAs sb s b al (al.length + 1)) := by
    rw [asmS]
    show _ = Core.mk _ _ _ _ _ _ (altI sb s b al al.length)
    rw [altI_end]
    rfl
  rw [e]
  have m1 := hN1 (al.length + 1)
  have m2 := hN2 (al.length + 1)
  have m3 := hN3 (al.length + 1)
  generalize zNm sb f nm s b ks bs (al.length + 1) = nm1 at *
  generalize zKs sb f nm s b ks bs (al.length + 1) = ks1 at *
  generalize zBs sb f nm s b ks bs (al.length + 1) = bs1 at *
  generalize zAs sb s b al (al.length + 1) = al1 at *
  refine awp_exit ?_
  refine AWp.sub (st2 := mkt [(6, .one (.vp 6 0)), (7, .one (.vp 700 0))] (oHl ks1 bs1 al1 ++ [(700, .var 37 (cellsG f n nm1 t ks1.length bs1.length al1.length)), (6, .var 37 zCells)]) (fam 0 al1)) (slT hFg (by repeat (first | exact FarEq.raw hFg | (refine FarEq.updL hFg ?_) | (refine FarEq.upd hFg ?_))) (fun x hx => .inl (subset_spec (show subset _ _ = true from rfl) x hx)) (fun x hx => ?_) (fun _ h => by cases h)) ?_
  · rw [refsH_app] at hx
    rcases List.mem_append.1 hx with hx | hx
    · exact .inr (altRows_refs x (by simpa [oHl, refsH, AObj.refs] using hx))
    · refine .inl ?_
      have hx : x = 702 ∨ x = 701 ∨ x = 703 := by simpa [refsH, AObj.refs, cellsG, zCells, R.refsL, R.refs] using hx
      rcases hx with rfl | rfl | rfl <;> simp [oHl, keys]
  refine AWp.sub (sub_freeze (by simp [keys]) (Kn.of rfl) ⟨Kn.of rfl, Kn.of rfl, trivial⟩ (fun _ h => by cases h) rfl rfl (by simp) (fun p hp => by
    rcases List.mem_cons.1 hp with rfl | hp
    · rfl
    · rw [List.mem_singleton.1 hp]; rfl)) ?_
  have e1 : fzH 703 (.ra al1.length 14 (altRows 0 al1).flatten) ([(701, .arr 73 15 (encBinds bs1) 2), (702, .arr 37 10 (encCores ks1) 2)] ++ [(700, .var 37 (cellsG f n nm1 t ks1.length bs1.length al1.length)), (6, .var 37 zCells)])
      = [(701, .arr 73 15 (encBinds bs1) 2), (702, .arr 37 10 (encCores ks1) 2), (700, .var 37 (cellsZ f n nm1 t ks1.length bs1.length al1)), (6, .var 37 zCells)] := by
    unfold cellsG cellsZ
    show [(701, _), (702, _), (700, AObj.var _ (R.fzL _ _ _)), (6, AObj.var _ (R.fzL _ _ _))] = _
    simp only [R.fzL, R.fz, Nat.beq_refl, if_true, Bool.and_self]
    rfl
  rw [e1]
  have hFz : TF (frzF (fam 0 al1)) := hFg.frz
  obtain ⟨ids, hp⟩ := pure_core (h := (mkt [] [(701, .arr 73 15 (encBinds bs1) 2), (702, .arr 37 10 (encCores ks1) 2), (700, .var 37 (cellsZ f n nm1 t ks1.length bs1.length al1)), (6, .var 37 zCells)] (frzF (fam 0 al1))).h) (f := f) (n := n) (s := nm1) (t := t) (ks := ks1) (bs := bs1) (al := al1) rfl rfl (FarEq.mkt hFz rfl)
  refine AWp.sub (Sub.varPure (x := 700) rfl hp) ?_
  refine awp_seq (ag [] rfl ?_)
  exact awp_ret (rtC trw)
end Go.Proofs.YtmoekkcdkjopgaaGreatDoor

/- SMALL TYPES AND CORE (types.own, types.Subst, core.typ at leaves; makers). -/
namespace Go.Proofs.YtmoekkcdkjopgaaGreatDoor
open Go Go.AM
set_option maxRecDepth 20000
/-- A type that is a leaf. -/
def tlf (t : Ty) : Bool := decide (t.form ≠ 4) && (decide (t.form ≠ 5) && t.args.isEmpty)
theorem c_town (f n : Int) (s : Str) : ImpC Tryz.prog 126 [tyV (.mk f n s [])] [] (tyV (.mk f n s [])) [] := by
  refine impC (n := 22) tok Tryz.func126 rfl rfl rfl ?_
  refine awp_seq (ag [] rfl ?_)
  refine awp_seq (ag [] rfl ?_)
  refine awp_seq (awp_seq (ag [] rfl ?_))
  refine awp_block ?_
  refine awp_loop (fun _ : Unit => mk [(1, .one (.vp 1 0)), (2, .one (.vp 2 0)), (3, .one (.c .nl)), (8, I .i64 0), (9, I .i64 0)] [(1, .var 33 ((encTy (.mk f n s [])).map R.c)), (2, .var 33 [.c (.int .i64 0), .c (.int .i64 0), .c (.str []), .c .nl])]) (fun _ => True) (fun _ => 0) () trivial sl ?_
  intro _ _
  refine awp_seq (ag [] rfl ?_)
  refine awp_seq (awp_cond rfl (fun hb => by cases hb) (fun _ => ?_))
  refine awp_exit ?_
  refine awp_seq (ag [] rfl ?_)
  refine awp_seq (ag [] rfl ?_)
  exact awp_ret (rtC trw)
theorem c_ctsubst (t : Ty) (h : tlf t = true) : ImpC Tryz.prog 65 [tyV t, .one (.c .nl), .one (.c .nl)] [] (tyV t) [] := by
  obtain ⟨f, n, s, a⟩ := t
  simp only [tlf, Bool.and_eq_true, List.isEmpty_iff] at h
  obtain ⟨h4, h5, h6⟩ := h
  have h6 : a = [] := h6
  subst h6
  have h4 : ¬ f = 4 := of_decide_eq_true h4
  have h5 : ¬ f = 5 := of_decide_eq_true h5
  have ho := c_town f n s
  have hi : ImpC Tryz.prog 123 [strsV [], Go.AM.T s] [] (I .i64 (-1)) [] := c_index [] s (by simp)
  refine impC (n := 48) tok Tryz.func65 rfl rfl rfl ?_
  refine awp_seq (ag [] rfl ?_)
  refine awp_seq (awp_seq (ag [] rfl ?_))
  refine awp_block (awp_seq (ag [] rfl ?_))
  refine awp_cond rfl (fun hb => ?_) (fun hb => ?_)
  · refine awp_seq (ag [(3, .pc (I .i64 (-1)))] rfl ?_)
    refine awp_seq (ag [] rfl ?_)
    refine awp_cond rfl (fun hb => by cases hb) (fun _ => ?_)
    refine awp_skip ?_
    refine awp_seq (ag [(1, .pc (tyV (.mk f n s [])))] rfl ?_)
    exact awp_ret (rtC trw)
  · refine awp_seq (ag [] rfl ?_)
    refine awp_cond rfl (fun hb => absurd (of_decide_eq_true hb) h4) (fun _ => ?_)
    refine awp_seq (ag [] rfl ?_)
    refine awp_cond rfl (fun hb => absurd (of_decide_eq_true hb) h5) (fun _ => ?_)
    refine awp_skip ?_
    refine awp_seq (ag [(1, .pc (tyV (.mk f n s [])))] rfl ?_)
    exact awp_ret (rtC trw)
theorem c_ctyp (t : Ty) (h : tlf t = true) : ImpC Tryz.prog 116 [tyV t] [] (tyV t) [] := by
  have hs := c_ctsubst t h
  obtain ⟨f, n, s, a⟩ := t
  refine impC (n := 5) tok Tryz.func116 rfl rfl rfl ?_
  refine awp_seq (ag [] rfl ?_)
  refine awp_seq (awp_rg mixed ?_)
  refine ak 1 [] rfl ?_
  refine kc hs ?_
  refine ak 1 [] rfl ?_
  refine az ?_
  exact awp_ret (rtC trw)
theorem c_tyvar (s : Str) : ImpC Tryz.prog 73 [Go.AM.T s] [] (tyV (.mk 2 0 s [])) [] := by
  refine impC (n := 5) tok Tryz.func73 rfl rfl rfl ?_
  refine awp_seq (ag [] rfl ?_)
  refine awp_seq (ag [] rfl ?_)
  exact awp_ret (rtC trw)
theorem c_tycon (s : Str) : ImpC Tryz.prog 51 [Go.AM.T s] [] (tyV (.mk 3 0 s [])) [] := by
  refine impC (n := 5) tok Tryz.func51 rfl rfl rfl ?_
  refine awp_seq (ag [] rfl ?_)
  refine awp_seq (ag [] rfl ?_)
  exact awp_ret (rtC trw)
theorem c_cvar (s : Str) : ImpC Tryz.prog 52 [Go.AM.T s] [] (.pa (encCore (.mk 1 0 s zTy [] [] []))) [] := by
  refine impC (n := 5) tok Tryz.func52 rfl rfl rfl ?_
  refine awp_seq (ag [] rfl ?_)
  refine awp_seq (ag [] rfl ?_)
  exact awp_ret (rtC trw)
theorem c_cint (n : Int) : ImpC Tryz.prog 33 [I .i64 n] [] (.pa (encCore (.mk 3 n [] zTy [] [] []))) [] := by
  refine impC (n := 5) tok Tryz.func33 rfl rfl rfl ?_
  refine awp_seq (ag [] rfl ?_)
  refine awp_seq (ag [] rfl ?_)
  exact awp_ret (rtC trw)
end Go.Proofs.YtmoekkcdkjopgaaGreatDoor

/- THE PARTS of core, and its names, as groups (core.groups), where core has no binds and no alternatives. -/
namespace Go.Proofs.YtmoekkcdkjopgaaGreatDoor
open Go Go.AM
set_option maxRecDepth 20000
theorem refsR_all {L : List Nat} : ∀ {rows : List (List R)}, (∀ row ∈ rows, ∀ x ∈ R.refsL row, x ∈ L) → ∀ x ∈ refsR rows, x ∈ L
  | [], _, x, hx => by simp [refsR] at hx
  | r :: rows, h, x, hx => by
    rcases List.mem_append.1 hx with hx | hx
    · exact h r List.mem_cons_self x hx
    · exact refsR_all (fun q hq => h q (List.mem_cons_of_mem _ hq)) x hx
def cellsO (f n : Int) (s : Str) (t : Ty) (nk nb na : Nat) : List R := [.c (.int .i64 f), .c (.int .i64 n), .c (.str s), .c (.int .i64 t.form), .c (.int .i64 t.n), .c (.str t.name), .c (.sl 4 (encArgs t)), .hs 702 0 nk nk, .hs 701 0 nb nb, .hs 703 0 na na]
def gNmS : Bool → List (List R)
  | true => [[.vp 700 2]]
  | false => []
def gN : Bool → Nat
  | true => 1
  | false => 0
def gPoS (rows : List (List R)) : AObj := .rarr 116 1 rows
def gRow (n i : Nat) : List R := [.ep 702 i 0 n]
def gRows (n k : Nat) : List (List R) := (List.range k).map (gRow n)
theorem gRows_step (n k : Nat) : gRows n (k + 1) = gRows n k ++ [gRow n k] := by unfold gRows; rw [List.range_succ, List.map_append]; rfl
theorem gRows_len (n k : Nat) : (gRows n k).length = k := by simp [gRows]
def gRefs : AObj := gPoS [[.ep 702 0 0 0]]
theorem gRows_refs {n k : Nat} : ∀ x ∈ (gPoS (gRows n k)).refs, x ∈ gRefs.refs := by
  refine refsR_all fun row hr x hx => ?_
  show x ∈ ([702] : List Nat)
  obtain ⟨i, _, rfl⟩ := List.mem_map.1 hr
  simpa [gRow, R.refsL, R.refs] using hx
def gIn (f n : Int) (s : Str) (t : Ty) (ks : List Core) : List (Nat × AObj) :=
  [(700, .var 37 (cellsO f n s t ks.length 0 0)), (701, .arr 73 15 [] 0), (702, .arr 37 10 (encCores ks) 0), (703, .arr 78 14 [] 0)]
def gOut (b : Bool) (f n : Int) (s : Str) (t : Ty) (ks : List Core) : List (Nat × AObj) :=
  (712, gPoS (gRows ks.length ks.length)) :: (713, .rarr 125 2 [[.ra 711 0 (gN b) (gN b), .ra 712 0 (gRows ks.length ks.length).length (gRows ks.length ks.length).length]]) :: (711, .rarr 167 1 (gNmS b)) :: gIn f n s t ks
theorem c_groupsO (b : Bool) (f n : Int) (s : Str) (t : Ty) (ks : List Core) (hb5 : decide (f = 5) = b) (hk : ks.length ≤ 1000000) :
    ImpC Tryz.prog 66 [.one (.vp 700 0)] (gIn f n s t ks) (.one (.ra 713 0 1 1)) (gOut b f n s t ks) := by
  have hkK : (encCores ks).length = ks.length := by rw [encCores_map, List.length_map]
  refine impC (n := 123) tok Tryz.func66 rfl rfl rfl ?_
  refine awp_seq (ag [] rfl ?_)
  refine awp_seq (ag [] rfl ?_)
  refine AWp.sub (Sub.ownCellR (x := 3) (k := 1) (id := 712) 116 1 rfl rfl rfl) (AWp.sub (Sub.ownCellR (x := 3) (k := 0) (id := 711) 167 1 rfl rfl rfl) ?_)
  refine awp_seq (awp_seq (ag [] rfl ?_))
  refine awp_block ?_
  refine awp_loop (fun i : Nat => mk [(0, .one (.vp 700 0)), (3, .one (.vp 3 0)), (16, I .i64 ((ks.length : Nat) : Int)), (17, I .i64 i)] ((712, gPoS (gRows ks.length i)) :: (3, .var 125 [.ra 711 0 0 0, .ra 712 0 (gRows ks.length i).length (gRows ks.length i).length]) :: (711, .rarr 167 1 []) :: gIn f n s t ks)) (fun i => i ≤ ks.length) (fun i => ks.length - i) 0 (Nat.zero_le _) (slR gRefs gRows_refs ⟨_, rfl, .rarrS rfl⟩) ?_
  intro i hi
  have hpl := gRows_len ks.length i
  refine awp_seq (ag [] rfl ?_)
  refine awp_seq (awp_cond rfl (fun hb => ?_) (fun hb => ?_))
  · have hlt : i < ks.length := by
      have : (i : Int) < (ks.length : Int) := of_decide_eq_true hb
      omega
    have hst := gRows_step ks.length i
    refine awp_skip ?_
    refine awp_seq (awp_block (awp_seq (ag [] rfl ?_)))
    refine ag [] rfl ?_
    refine ag [] rfl ?_
    refine ⟨i + 1, hlt, by dsimp only; omega, ?_⟩
    dsimp only
    rw [hst]
    refine slR gRefs (by rw [← hst]; exact gRows_refs) ⟨_, rfl, .rarrS rfl⟩ (hh := ⟨⟨_, rfl, .var ?_⟩, ⟨_, rfl, .rarr rfl⟩, ⟨_, rfl, .var rfl⟩, ⟨_, rfl, .arr⟩, ⟨_, rfl, .arr⟩, ⟨_, rfl, .arr⟩, trivial⟩)
    rw [List.length_append]
    rfl
  have hge : i = ks.length := by
    have : ¬ (i : Int) < (ks.length : Int) := of_decide_eq_false hb
    omega
  subst hge
  refine awp_exit ?_
  refine awp_seq (AWp.cut (mk [(0, .one (.vp 700 0)), (3, .one (.vp 3 0))] ((712, gPoS (gRows ks.length ks.length)) :: (3, .var 125 [.ra 711 0 (gN b) (gN b), .ra 712 0 (gRows ks.length ks.length).length (gRows ks.length ks.length).length]) :: (711, .rarr 167 1 (gNmS b)) :: gIn f n s t ks)) ?_ ?_)
  · refine awp_seq (ag [] rfl ?_)
    refine awp_cond rfl (fun hb => ?_) (fun hb => ?_)
    · have hb : decide (f = 5) = true := hb
      rw [hb] at hb5
      subst hb5
      exact ag [] rfl (slR gRefs gRows_refs ⟨_, rfl, .rarrS rfl⟩)
    · have hb : decide (f = 5) = false := hb
      rw [hb] at hb5
      subst hb5
      exact awp_skip (slR gRefs gRows_refs ⟨_, rfl, .rarrS rfl⟩)
  refine awp_seq (awp_seq (ag [] rfl ?_))
  refine awp_block ?_
  cases b with
  | true =>
    refine awp_loop (fun _ : Unit => mk [(0, .one (.vp 700 0)), (3, .one (.vp 3 0)), (49, I .i64 0), (50, I .i64 0)] ((712, gPoS (gRows ks.length ks.length)) :: (3, .var 125 [.ra 711 0 1 1, .ra 712 0 (gRows ks.length ks.length).length (gRows ks.length ks.length).length]) :: (711, .rarr 167 1 [[.vp 700 2]]) :: gIn f n s t ks)) (fun _ => True) (fun _ => 0) () trivial (slR gRefs gRows_refs ⟨_, rfl, .rarrS rfl⟩) ?_
    intro _ _
    refine awp_seq (ag [] rfl ?_)
    refine awp_seq (awp_cond rfl (fun hb => by cases hb) (fun _ => ?_))
    refine awp_exit ?_
    refine awp_seq (ag [(1, .id 713)] rfl ?_)
    refine awp_seq (awp_seq (ag [] rfl ?_))
    refine awp_block ?_
    refine awp_loop (fun _ : Unit => mk [(0, .one (.vp 700 0)), (7, .one (.ra 713 0 1 1)), (82, I .i64 0), (83, I .i64 0)] (gOut true f n s t ks)) (fun _ => True) (fun _ => 0) () trivial (slR gRefs gRows_refs ⟨_, rfl, .rarrS rfl⟩) ?_
    intro _ _
    refine awp_seq (ag [] rfl ?_)
    refine awp_seq (awp_cond rfl (fun hb => by cases hb) (fun _ => ?_))
    refine awp_exit ?_
    refine awp_seq (ag [] rfl ?_)
    refine awp_ret ⟨.inr rfl, ?_⟩
    exact finR gRefs gRows_refs ⟨_, _, .tmp rfl .nil, .cons .refl .nil, rfl⟩ ⟨⟨_, rfl, .rarrS rfl⟩, ⟨_, rfl, .rarr rfl⟩, ⟨_, rfl, .rarr rfl⟩, ⟨_, rfl, .var rfl⟩, ⟨_, rfl, .arr⟩, ⟨_, rfl, .arr⟩, ⟨_, rfl, .arr⟩, trivial⟩ rfl rfl
  | false =>
    refine awp_loop (fun _ : Unit => mk [(0, .one (.vp 700 0)), (3, .one (.vp 3 0)), (49, I .i64 0), (50, I .i64 0)] ((712, gPoS (gRows ks.length ks.length)) :: (3, .var 125 [.ra 711 0 0 0, .ra 712 0 (gRows ks.length ks.length).length (gRows ks.length ks.length).length]) :: (711, .rarr 167 1 []) :: gIn f n s t ks)) (fun _ => True) (fun _ => 0) () trivial (slR gRefs gRows_refs ⟨_, rfl, .rarrS rfl⟩) ?_
    intro _ _
    refine awp_seq (ag [] rfl ?_)
    refine awp_seq (awp_cond rfl (fun hb => by cases hb) (fun _ => ?_))
    refine awp_exit ?_
    refine awp_seq (ag [(1, .id 713)] rfl ?_)
    refine awp_seq (awp_seq (ag [] rfl ?_))
    refine awp_block ?_
    refine awp_loop (fun _ : Unit => mk [(0, .one (.vp 700 0)), (7, .one (.ra 713 0 1 1)), (82, I .i64 0), (83, I .i64 0)] (gOut false f n s t ks)) (fun _ => True) (fun _ => 0) () trivial (slR gRefs gRows_refs ⟨_, rfl, .rarrS rfl⟩) ?_
    intro _ _
    refine awp_seq (ag [] rfl ?_)
    refine awp_seq (awp_cond rfl (fun hb => by cases hb) (fun _ => ?_))
    refine awp_exit ?_
    refine awp_seq (ag [] rfl ?_)
    refine awp_ret ⟨.inr rfl, ?_⟩
    exact finR gRefs gRows_refs ⟨_, _, .tmp rfl .nil, .cons .refl .nil, rfl⟩ ⟨⟨_, rfl, .rarrS rfl⟩, ⟨_, rfl, .rarr rfl⟩, ⟨_, rfl, .rarr rfl⟩, ⟨_, rfl, .var rfl⟩, ⟨_, rfl, .arr⟩, ⟨_, rfl, .arr⟩, ⟨_, rfl, .arr⟩, trivial⟩ rfl rfl
end Go.Proofs.YtmoekkcdkjopgaaGreatDoor

/- CORE IN MEMORY OF ITS OWN (core.own), where it has no binds, no alternatives, and no types but leaves. -/
namespace Go.Proofs.YtmoekkcdkjopgaaGreatDoor
open Go Go.AM
set_option maxRecDepth 20000
mutual
def smR : Core → Bool
  | .mk _ _ _ t ks bs al => (tlf t && (bs.isEmpty && al.isEmpty)) && smCs ks
def smCs : List Core → Bool
  | [] => true
  | c :: l => smR c && smCs l
end
theorem smCs_mem : ∀ {l : List Core}, smCs l = true → ∀ x ∈ l, smR x = true
  | c :: l, h, x, hx => by
    rw [smCs, Bool.and_eq_true] at h
    rcases List.mem_cons.1 hx with rfl | hx
    · exact h.1
    · exact smCs_mem h.2 x hx
theorem same_set {α : Type} : ∀ {l : List α} {j : Nat} {x : α}, l[j]? = some x → l.set j x = l
  | [], _, _, h => by simp at h
  | y :: l, 0, x, h => by simp at h; subst h; rfl
  | y :: l, j + 1, x, h => by
    rw [List.set_cons_succ, same_set (by simpa using h)]
def OwSpec (c : Core) : Prop := smR c = true → csize c ≤ 100000 → ImpC Tryz.prog 59 [.pa (encCore c)] [] (.pa (encCore c)) []
def owO (b : Bool) (f n : Int) (s : Str) (t : Ty) (ks : List Core) : List (Nat × AObj) :=
  (712, gPoS (gRows ks.length ks.length)) :: (713, .rarr 125 2 [[.ra 711 0 (gN b) (gN b), .ra 712 0 (gRows ks.length ks.length).length (gRows ks.length ks.length).length]]) :: (711, .rarr 167 1 (gNmS b)) :: (2, .var 37 zCells) :: gIn f n s t ks
theorem c_own_stepS (c : Core) (ih : ∀ x, csize x < csize c → OwSpec x) : OwSpec c := by
  intro hsm hsz
  obtain ⟨f, n, s, t, ks, bs, al⟩ := c
  obtain ⟨ihk, ihb, iha, hkl, hbl, hal⟩ := @size_in f n s t ks bs al
  simp only [smR, Bool.and_eq_true, List.isEmpty_iff] at hsm
  obtain ⟨⟨ht, h1, h2⟩, hks⟩ := hsm
  subst h1 h2
  have hty := c_ctyp t ht
  have hkK : (encCores ks).length = ks.length := by rw [encCores_map, List.length_map]
  have k2 : ks.length = (encCores ks).length := hkK.symm
  have hck := c_clone_cores (encCores ks) (by omega)
  have hcb := c_clone_binds [] (by simp)
  have hca := c_clone_alts [] (by simp)
  rw [hkK] at hck
  have hgr := c_groupsO (decide (f = 5)) f n s t ks rfl (by omega)
  have hgl := gRows_len ks.length ks.length
  generalize decide (f = 5) = b at hgr
  refine impC (n := 85) tok Tryz.func59 rfl rfl rfl ?_
  refine awp_seq (ag [(0, .id 700)] rfl ?_)
  refine awp_seq (ag [(2, .pc (tyV t))] rfl ?_)
  refine awp_seq (awp_rg mixed ?_)
  refine ak 2 [] rfl ?_
  refine kc hck ?_
  refine ak 2 [] rfl ?_
  refine kc hcb ?_
  refine ak 2 [] rfl ?_
  refine kc hca ?_
  refine ak 6 [] rfl ?_
  refine az ?_
  refine awp_seq (awp_seq (ag [] rfl ?_))
  refine awp_block ?_
  refine awp_loop (fun _ : Unit => mk [(1, .one (.vp 700 0)), (2, .one (.vp 2 0)), (27, I .i64 0), (28, I .i64 0)] ((2, .var 37 zCells) :: gIn f n s t ks)) (fun _ => True) (fun _ => 0) () trivial sl ?_
  intro _ _
  refine awp_seq (ag [] rfl ?_)
  refine awp_seq (awp_cond rfl (fun hb => by cases hb) (fun _ => ?_))
  refine awp_exit ?_
  refine awp_seq (awp_seq (ag [] rfl ?_))
  refine awp_block ?_
  refine awp_loop (fun _ : Unit => mk [(1, .one (.vp 700 0)), (2, .one (.vp 2 0)), (46, I .i64 0), (47, I .i64 0)] ((2, .var 37 zCells) :: gIn f n s t ks)) (fun _ => True) (fun _ => 0) () trivial sl ?_
  intro _ _
  refine awp_seq (ag [] rfl ?_)
  refine awp_seq (awp_cond rfl (fun hb => by cases hb) (fun _ => ?_))
  refine awp_exit ?_
  cases b with
  | true =>
    refine awp_seq (awp_seq (awp_rg mixed ?_))
    refine kc hgr ?_
    refine ak 2 [] rfl ?_
    refine az ?_
    refine awp_block ?_
    refine awp_loop (fun i : Nat => mk [(1, .one (.vp 700 0)), (2, .one (.vp 2 0)), (63, .one (.ra 713 0 1 1)), (64, I .i64 1), (65, I .i64 i)] (owO true f n s t ks)) (fun i => i ≤ 1) (fun i => 1 - i) 0 (Nat.zero_le _) (slR gRefs gRows_refs ⟨_, rfl, .rarrS rfl⟩) ?_
    intro i hi
    refine awp_seq (ag [] rfl ?_)
    refine awp_seq (awp_cond rfl (fun hb => ?_) (fun hb => ?_))
    · have hi0 : i = 0 := by
        have : (i : Int) < 1 := of_decide_eq_true hb
        omega
      subst hi0
      refine awp_skip ?_
      refine awp_seq (awp_block (awp_seq (ag [(1, .rr [.ra 711 0 1 1, .ra 712 0 (gRows ks.length ks.length).length (gRows ks.length ks.length).length])] rfl ?_)))
      refine awp_seq (ag [] rfl ?_)
      refine awp_block ?_
      refine awp_loop (fun j : Nat => mk [(1, .one (.vp 700 0)), (2, .one (.vp 2 0)), (63, .one (.ra 713 0 1 1)), (64, I .i64 1), (65, I .i64 (0 : Nat)), (70, .one (.ra 712 0 (gRows ks.length ks.length).length (gRows ks.length ks.length).length)), (71, I .i64 (((gRows ks.length ks.length).length : Nat) : Int)), (72, I .i64 j)] (owO true f n s t ks)) (fun j => j ≤ ks.length) (fun j => ks.length - j) 0 (Nat.zero_le _) (slR gRefs gRows_refs ⟨_, rfl, .rarrS rfl⟩) ?_
      intro j hj
      refine awp_seq (ag [] rfl ?_)
      refine awp_seq (awp_cond rfl (fun hb => ?_) (fun hb => ?_))
      · have hlt : j < ks.length := by
          have : (j : Int) < ((gRows ks.length ks.length).length : Int) := of_decide_eq_true hb
          omega
        obtain ⟨k, hki⟩ := get_of_lt hlt
        have hki' := encCores_at hki
        have hm := List.mem_of_getElem? hki
        have hc := ih k (ihk k hm) (smCs_mem hks k hm) (by have := ihk k hm; omega)
        have hsame := same_set hki'
        have hrow : (gRows ks.length ks.length)[j]? = some (gRow ks.length j) := by
          unfold gRows; rw [List.getElem?_map, List.getElem?_range hlt]; rfl
        refine awp_skip ?_
        refine awp_seq (awp_block (awp_seq (ag [(1, .rr (gRow ks.length j))] rfl ?_)))
        refine awp_rg mixed ?_
        refine ak 4 [(3, .row j (encCore k))] rfl ?_
        refine kc hc ?_
        refine ak 2 [(6, .row j (encCore k))] rfl ?_
        refine az ?_
        refine ag [] rfl ?_
        exact ⟨j + 1, hlt, by dsimp only; omega, slR gRefs gRows_refs ⟨_, rfl, .rarrS rfl⟩ (hh := ⟨⟨_, rfl, .rarr rfl⟩, ⟨_, rfl, .rarr rfl⟩, ⟨_, rfl, .var rfl⟩, ⟨_, rfl, .var rfl⟩, ⟨_, rfl, .arr⟩, ⟨_, rfl, by first | exact .arr | exact .arrS hsame⟩, ⟨_, rfl, .arr⟩, trivial⟩)⟩
      refine awp_exit ?_
      refine ag [] rfl ?_
      exact ⟨1, Nat.le_refl _, by dsimp only; omega, slR gRefs gRows_refs ⟨_, rfl, .rarrS rfl⟩⟩
    refine awp_exit ?_
    refine AWp.sub (Sub.freeze (id := 701) rfl) (AWp.sub (Sub.freeze (id := 702) rfl) (AWp.sub (Sub.freeze (id := 703) rfl) (AWp.sub (vp 700 (encCore (.mk f n s t ks [] []))) ?_)))
    refine awp_seq (ag [] rfl ?_)
    exact awp_ret (rtC trw)
  | false =>
    refine awp_seq (awp_seq (awp_rg mixed ?_))
    refine kc hgr ?_
    refine ak 2 [] rfl ?_
    refine az ?_
    refine awp_block ?_
    refine awp_loop (fun i : Nat => mk [(1, .one (.vp 700 0)), (2, .one (.vp 2 0)), (63, .one (.ra 713 0 1 1)), (64, I .i64 1), (65, I .i64 i)] (owO false f n s t ks)) (fun i => i ≤ 1) (fun i => 1 - i) 0 (Nat.zero_le _) (slR gRefs gRows_refs ⟨_, rfl, .rarrS rfl⟩) ?_
    intro i hi
    refine awp_seq (ag [] rfl ?_)
    refine awp_seq (awp_cond rfl (fun hb => ?_) (fun hb => ?_))
    · have hi0 : i = 0 := by
        have : (i : Int) < 1 := of_decide_eq_true hb
        omega
      subst hi0
      refine awp_skip ?_
      refine awp_seq (awp_block (awp_seq (ag [(1, .rr [.ra 711 0 0 0, .ra 712 0 (gRows ks.length ks.length).length (gRows ks.length ks.length).length])] rfl ?_)))
      refine awp_seq (ag [] rfl ?_)
      refine awp_block ?_
      refine awp_loop (fun j : Nat => mk [(1, .one (.vp 700 0)), (2, .one (.vp 2 0)), (63, .one (.ra 713 0 1 1)), (64, I .i64 1), (65, I .i64 (0 : Nat)), (70, .one (.ra 712 0 (gRows ks.length ks.length).length (gRows ks.length ks.length).length)), (71, I .i64 (((gRows ks.length ks.length).length : Nat) : Int)), (72, I .i64 j)] (owO false f n s t ks)) (fun j => j ≤ ks.length) (fun j => ks.length - j) 0 (Nat.zero_le _) (slR gRefs gRows_refs ⟨_, rfl, .rarrS rfl⟩) ?_
      intro j hj
      refine awp_seq (ag [] rfl ?_)
      refine awp_seq (awp_cond rfl (fun hb => ?_) (fun hb => ?_))
      · have hlt : j < ks.length := by
          have : (j : Int) < ((gRows ks.length ks.length).length : Int) := of_decide_eq_true hb
          omega
        obtain ⟨k, hki⟩ := get_of_lt hlt
        have hki' := encCores_at hki
        have hm := List.mem_of_getElem? hki
        have hc := ih k (ihk k hm) (smCs_mem hks k hm) (by have := ihk k hm; omega)
        have hsame := same_set hki'
        have hrow : (gRows ks.length ks.length)[j]? = some (gRow ks.length j) := by
          unfold gRows; rw [List.getElem?_map, List.getElem?_range hlt]; rfl
        refine awp_skip ?_
        refine awp_seq (awp_block (awp_seq (ag [(1, .rr (gRow ks.length j))] rfl ?_)))
        refine awp_rg mixed ?_
        refine ak 4 [(3, .row j (encCore k))] rfl ?_
        refine kc hc ?_
        refine ak 2 [(6, .row j (encCore k))] rfl ?_
        refine az ?_
        refine ag [] rfl ?_
        exact ⟨j + 1, hlt, by dsimp only; omega, slR gRefs gRows_refs ⟨_, rfl, .rarrS rfl⟩ (hh := ⟨⟨_, rfl, .rarr rfl⟩, ⟨_, rfl, .rarr rfl⟩, ⟨_, rfl, .var rfl⟩, ⟨_, rfl, .var rfl⟩, ⟨_, rfl, .arr⟩, ⟨_, rfl, by first | exact .arr | exact .arrS hsame⟩, ⟨_, rfl, .arr⟩, trivial⟩)⟩
      refine awp_exit ?_
      refine ag [] rfl ?_
      exact ⟨1, Nat.le_refl _, by dsimp only; omega, slR gRefs gRows_refs ⟨_, rfl, .rarrS rfl⟩⟩
    refine awp_exit ?_
    refine AWp.sub (Sub.freeze (id := 701) rfl) (AWp.sub (Sub.freeze (id := 702) rfl) (AWp.sub (Sub.freeze (id := 703) rfl) (AWp.sub (vp 700 (encCore (.mk f n s t ks [] []))) ?_)))
    refine awp_seq (ag [] rfl ?_)
    exact awp_ret (rtC trw)
theorem c_own : ∀ (n : Nat) (c : Core), csize c ≤ n → OwSpec c
  | 0, c, h => by have := csize_pos c; omega
  | n + 1, c, h => c_own_stepS c fun x hx => c_own n x (by omega)
end Go.Proofs.YtmoekkcdkjopgaaGreatDoor

/- CORE IS MADE (core.Lam, TLam, TApp, App), where it is simple. -/
namespace Go.Proofs.YtmoekkcdkjopgaaGreatDoor
open Go Go.AM
set_option maxRecDepth 20000
def lamT (s : Str) (t : Ty) (c : Core) : Core := .mk 5 0 s t [c] [] []
def tlamC (s : Str) (c : Core) : Core := .mk 7 0 s zTy [c] [] []
def tappC (c : Core) (t : Ty) : Core := .mk 6 0 [] t [c] [] []
def capp (f a : Core) : Core := .mk 4 0 [] zTy [f, a] [] []
theorem c_clam (s : Str) (t : Ty) (c : Core) (ht : tlf t = true) (hc : smR c = true) (hs : csize c ≤ 100000) : ImpC Tryz.prog 53 [Go.AM.T s, tyV t, .pa (encCore c)] [] (.pa (encCore (lamT s t c))) [] := by
  have h1 := c_ctyp t ht
  have h2 := c_own _ c (Nat.le_refl _) hc hs
  refine impC (n := 14) tok Tryz.func53 rfl rfl rfl ?_
  refine awp_seq (ag [] rfl ?_)
  refine awp_seq (ag [(2, .pc (tyV t)), (4, .pc (.pa (encCore c))), (5, .all)] rfl ?_)
  exact awp_ret (rtC trw)
theorem c_ctlam (s : Str) (c : Core) (hc : smR c = true) (hs : csize c ≤ 100000) : ImpC Tryz.prog 72 [.pa (encCore c), strsV [s]] [] (.pa (encCore (tlamC s c))) [] := by
  have h2 := c_own _ c (Nat.le_refl _) hc hs
  refine impC (n := 27) tok Tryz.func72 rfl rfl rfl ?_
  refine awp_seq (ag [] rfl ?_)
  refine awp_seq (ag [(1, .pc (.pa (encCore c)))] rfl ?_)
  refine awp_seq (awp_seq (ag [] rfl ?_))
  refine awp_block ?_
  refine awp_loop (fun i : Nat => mk [(1, strsV [s]), (4, .one (.vp 4 0)), (5, .one (.vp 5 0)), (10, I .i64 1), (11, I .i64 i)] [(4, .var 37 zCells), (5, .var 37 (cellsC (if i = 0 then c else tlamC s c)))]) (fun i => i ≤ 1) (fun i => 1 - i) 0 (Nat.zero_le _) sl ?_
  intro i hi
  refine awp_seq (ag [] rfl ?_)
  refine awp_seq (awp_cond rfl (fun hb => ?_) (fun hb => ?_))
  · have hi0 : i = 0 := by
      have : (i : Int) < 1 := of_decide_eq_true hb
      omega
    subst hi0
    rw [if_pos rfl]
    refine awp_skip ?_
    refine awp_seq (awp_block (awp_seq (ag [] rfl ?_)))
    refine ag [(6, .row 0 (encS s)), (9, .all)] rfl ?_
    refine ag [] rfl ?_
    exact ⟨1, Nat.le_refl _, by dsimp only; omega, Sub.trans sl (vp 5 (encCore (tlamC s c)))⟩
  have hi1 : i = 1 := by
    have : ¬ (i : Int) < 1 := of_decide_eq_false hb
    omega
  subst hi1
  rw [if_neg (by omega)]
  refine awp_exit ?_
  refine awp_seq (ag [] rfl ?_)
  exact awp_ret (rtC trw)
theorem c_ctapp (c : Core) (t : Ty) (ht : tlf t = true) (hc : smR c = true) (hs : csize c ≤ 100000) : ImpC Tryz.prog 74 [.pa (encCore c), .one (.c (.sl 4 [encTy t]))] [] (.pa (encCore (tappC c t))) [] := by
  have h1 := c_ctyp t ht
  have h2 := c_own _ c (Nat.le_refl _) hc hs
  refine impC (n := 23) tok Tryz.func74 rfl rfl rfl ?_
  refine awp_seq (ag [] rfl ?_)
  refine awp_seq (ag [(1, .pc (.pa (encCore c)))] rfl ?_)
  refine awp_seq (awp_seq (ag [] rfl ?_))
  refine awp_block ?_
  refine awp_loop (fun i : Nat => mk [(4, .one (.vp 4 0)), (5, .one (.vp 5 0)), (10, .one (.c (.sl 4 [encTy t]))), (11, I .i64 1), (12, I .i64 i)] [(4, .var 37 zCells), (5, .var 37 (cellsC (if i = 0 then c else tappC c t)))]) (fun i => i ≤ 1) (fun i => 1 - i) 0 (Nat.zero_le _) sl ?_
  intro i hi
  refine awp_seq (ag [] rfl ?_)
  refine awp_seq (awp_cond rfl (fun hb => ?_) (fun hb => ?_))
  · have hi0 : i = 0 := by
      have : (i : Int) < 1 := of_decide_eq_true hb
      omega
    subst hi0
    rw [if_pos rfl]
    refine awp_skip ?_
    refine awp_seq (awp_block (awp_seq (ag [(0, .row 0 (encTy t))] rfl ?_)))
    refine ag [(1, .pc (tyV t)), (3, .all)] rfl ?_
    refine ag [] rfl ?_
    exact ⟨1, Nat.le_refl _, by dsimp only; omega, Sub.trans sl (vp 5 (encCore (tappC c t)))⟩
  have hi1 : i = 1 := by
    have : ¬ (i : Int) < 1 := of_decide_eq_false hb
    omega
  subst hi1
  rw [if_neg (by omega)]
  refine awp_exit ?_
  refine awp_seq (ag [] rfl ?_)
  exact awp_ret (rtC trw)
theorem c_capp (c a : Core) (hc : smR c = true) (ha : smR a = true) (hs : csize c ≤ 100000) (hs2 : csize a ≤ 100000) : ImpC Tryz.prog 32 [.pa (encCore c), .one (.c (.sl 10 [encCore a]))] [] (.pa (encCore (capp c a))) [] := by
  have h1 := c_own _ a (Nat.le_refl _) ha hs2
  have h2 := c_own _ c (Nat.le_refl _) hc hs
  refine impC (n := 23) tok Tryz.func32 rfl rfl rfl ?_
  refine awp_seq (ag [] rfl ?_)
  refine awp_seq (ag [(1, .pc (.pa (encCore c)))] rfl ?_)
  refine awp_seq (awp_seq (ag [] rfl ?_))
  refine awp_block ?_
  refine awp_loop (fun i : Nat => mk [(4, .one (.vp 4 0)), (5, .one (.vp 5 0)), (10, .one (.c (.sl 10 [encCore a]))), (11, I .i64 1), (12, I .i64 i)] [(4, .var 37 zCells), (5, .var 37 (cellsC (if i = 0 then c else capp c a)))]) (fun i => i ≤ 1) (fun i => 1 - i) 0 (Nat.zero_le _) sl ?_
  intro i hi
  refine awp_seq (ag [] rfl ?_)
  refine awp_seq (awp_cond rfl (fun hb => ?_) (fun hb => ?_))
  · have hi0 : i = 0 := by
      have : (i : Int) < 1 := of_decide_eq_true hb
      omega
    subst hi0
    rw [if_pos rfl]
    refine awp_skip ?_
    refine awp_seq (awp_block (awp_seq (ag [(0, .row 0 (encCore a))] rfl ?_)))
    refine ag [(2, .pc (.pa (encCore a))), (3, .all)] rfl ?_
    refine ag [] rfl ?_
    exact ⟨1, Nat.le_refl _, by dsimp only; omega, Sub.trans sl (vp 5 (encCore (capp c a)))⟩
  have hi1 : i = 1 := by
    have : ¬ (i : Int) < 1 := of_decide_eq_false hb
    omega
  subst hi1
  rw [if_neg (by omega)]
  refine awp_exit ?_
  refine awp_seq (ag [] rfl ?_)
  exact awp_ret (rtC trw)
theorem c_capp0 (c : Core) (hc : smR c = true) (hs : csize c ≤ 100000) : ImpC Tryz.prog 32 [.pa (encCore c), .one (.c (.sl 10 []))] [] (.pa (encCore c)) [] := by
  have h2 := c_own _ c (Nat.le_refl _) hc hs
  refine impC (n := 23) tok Tryz.func32 rfl rfl rfl ?_
  refine awp_seq (ag [] rfl ?_)
  refine awp_seq (ag [(1, .pc (.pa (encCore c)))] rfl ?_)
  refine awp_seq (awp_seq (ag [] rfl ?_))
  refine awp_block ?_
  refine awp_loop (fun _ : Unit => mk [(4, .one (.vp 4 0)), (5, .one (.vp 5 0)), (11, I .i64 0), (12, I .i64 0)] [(4, .var 37 zCells), (5, .var 37 (cellsC c))]) (fun _ => True) (fun _ => 0) () trivial sl ?_
  intro _ _
  refine awp_seq (ag [] rfl ?_)
  refine awp_seq (awp_cond rfl (fun hb => by cases hb) (fun _ => ?_))
  refine awp_exit ?_
  refine awp_seq (ag [] rfl ?_)
  exact awp_ret (rtC trw)
end Go.Proofs.YtmoekkcdkjopgaaGreatDoor

/- THE DOCUMENT's EXAMPLE (of layer 24), one function after the other. -/
namespace Go.Proofs.YtmoekkcdkjopgaaGreatDoor
open Go Go.AM
set_option maxRecDepth 20000
/-- What the example is: a function that is given an integer. -/
def exX : Core := .mk 1 0 [120] zTy [] [] []
def exL : Core := .mk 5 0 [120] zTy [exX] [] []
def exI : Core := .mk 3 3 [] zTy [] [] []
def exE : Core := capp exL exI
def cosV (l : List Core) : V := .one (.c (.sl 10 (l.map encCore)))
theorem c_rev1 (l : List Core) (hl : l.length ≤ 1) : ImpC Tryz.prog 159 [cosV l] [] (.tup []) [] := by
  have hkl : (l.map encCore).length = l.length := List.length_map _
  refine impC (n := 28) tok Tryz.func159 rfl rfl rfl ?_
  refine awp_seq (ag [] rfl ?_)
  refine awp_block ?_
  refine awp_loop (fun _ : Unit => mk [(0, cosV l), (2, I .i64 0), (3, I .i64 (((l.map encCore).length : Int) - 1))] []) (fun _ => True) (fun _ => 0) () trivial sl ?_
  intro _ _
  refine awp_seq (awp_seq (ag [] rfl ?_))
  refine awp_cond rfl (fun hb => ?_) (fun hb => ?_)
  · exfalso
    have : (0 : Int) < ((l.map encCore).length : Int) - 1 := of_decide_eq_true hb
    omega
  refine awp_exit ?_
  exact ⟨.inl rfl, ⟨_, _, .nil, .nil, rfl⟩, trivial, rfl⟩
theorem c_spineI : ImpC Tryz.prog 150 [.pa (encCore exI)] [] (.tup [.pa (encCore exI), cosV []]) [] := by
  have hr := c_rev1 [] (by simp)
  refine impC (n := 23) tok Tryz.func150 rfl rfl rfl ?_
  refine awp_seq (ag [] rfl ?_)
  refine awp_seq (ag [] rfl ?_)
  refine awp_seq (awp_block ?_)
  refine awp_loop (fun _ : Unit => mk [(1, .one (.vp 1 0)), (2, .one (.vp 2 0)), (4, .one (.c .nl))] [(1, .var 37 (cellsC exI)), (2, .var 37 zCells)]) (fun _ => True) (fun _ => 0) () trivial sl ?_
  intro _ _
  refine awp_seq (awp_seq (ag [] rfl ?_))
  refine awp_cond rfl (fun hb => by cases hb) (fun _ => ?_)
  refine awp_exit ?_
  refine awp_seq (ag [(1, .pc (.tup []))] rfl ?_)
  refine awp_seq (ag [] rfl ?_)
  exact awp_ret ⟨.inr rfl, ⟨_, _, .cell rfl (tg rfl) rfl rfl rfl (.tmp rfl .nil), .cons .refl (.cons (.one (.c .nl .nil)) .nil), rfl⟩, trivial, rfl⟩
theorem c_spineE : ImpC Tryz.prog 150 [.pa (encCore exE)] [] (.tup [.pa (encCore exL), cosV [exI]]) [] := by
  have hr := c_rev1 [exI] (by simp)
  refine impC (n := 23) tok Tryz.func150 rfl rfl rfl ?_
  refine awp_seq (ag [] rfl ?_)
  refine awp_seq (ag [] rfl ?_)
  refine AWp.sub (Sub.own (t := 4) (id := 500) 37 10 rfl rfl) ?_
  refine awp_seq (awp_block ?_)
  refine awp_loop (fun i : Bool => mk [(1, .one (.vp 1 0)), (2, .one (.vp 2 0)), (4, .one (.hs 500 0 (if i then 1 else 0) (if i then 1 else 0)))] [(1, .var 37 (cellsC (if i then exL else exE))), (2, .var 37 zCells), (500, .arr 37 10 (if i then [encCore exI] else []) 0)]) (fun _ => True) (fun i => if i then 0 else 1) false trivial sl ?_
  intro i _
  cases i with
  | false =>
    refine awp_seq (awp_seq (ag [] rfl ?_))
    refine awp_cond rfl (fun _ => ?_) (fun hb => by cases hb)
    refine awp_skip ?_
    refine awp_block (awp_seq (ag [(3, .row 1 (encCore exI))] rfl ?_))
    refine ag [(2, .row 0 (encCore exL))] rfl ?_
    exact ⟨true, trivial, by decide, sl⟩
  | true =>
    refine awp_seq (awp_seq (ag [] rfl ?_))
    refine awp_cond rfl (fun hb => by cases hb) (fun _ => ?_)
    refine awp_exit ?_
    refine AWp.sub (Sub.freeze (id := 500) rfl) (AWp.sub (cv 4 [encCore exI]) ?_)
    refine awp_seq (ag [(1, .pc (.tup []))] rfl ?_)
    refine awp_seq (ag [] rfl ?_)
    exact awp_ret ⟨.inr rfl, ⟨_, _, .cell rfl (tg rfl) rfl rfl rfl (.tmp rfl .nil), .cons .refl (.cons .refl .nil), rfl⟩, trivial, rfl⟩
theorem c_showsI : ImpC Tryz.prog 77 [.pa (encCore exI)] [] (B true) [] := by
  have h := c_spineI
  refine impC (n := 23) tok Tryz.func77 rfl rfl rfl ?_
  refine awp_seq (ag [] rfl ?_)
  refine awp_seq (ag [(1, .pc (.tup [.pa (encCore exI), cosV []]))] rfl ?_)
  refine awp_seq (ag [(3, .bv false), (7, .bv false), (8, .bv true), (12, .bv true)] rfl ?_)
  exact awp_ret rtT
theorem c_showsE : ImpC Tryz.prog 77 [.pa (encCore exE)] [] (B false) [] := by
  have h := c_spineE
  refine impC (n := 23) tok Tryz.func77 rfl rfl rfl ?_
  refine awp_seq (ag [] rfl ?_)
  refine awp_seq (ag [(1, .pc (.tup [.pa (encCore exL), cosV [exI]]))] rfl ?_)
  refine awp_seq (ag [(3, .bv false), (7, .bv false), (8, .bv false), (12, .bv false)] rfl ?_)
  exact awp_ret rtT
theorem c_subX : ImpC Tryz.prog 25 [.pa (encCore exX), Go.AM.T [120], .pa (encCore exI)] [] (.pa (encCore exI)) [] := by
  have h := c_own _ exI (Nat.le_refl _) rfl (by decide)
  refine impC (n := 47) tok Tryz.func25 rfl rfl rfl ?_
  refine awp_seq (ag [] rfl ?_)
  refine awp_seq (awp_seq (ag [(3, .bv true), (8, .bv true)] rfl ?_))
  refine awp_cond rfl (fun _ => ?_) (fun hb => by cases hb)
  refine awp_seq (ag [(1, .pc (.pa (encCore exI)))] rfl ?_)
  exact awp_ret (rtC trw)
end Go.Proofs.YtmoekkcdkjopgaaGreatDoor

/- THE PRIMITIVES (erase.ops): a map of functions, of which nobody reads. -/
namespace Go.Proofs.YtmoekkcdkjopgaaGreatDoor
open Go Go.AM
set_option maxRecDepth 20000
def opV (g id : Nat) : V := .ma [.clo g [.vp id 0], .c (.zv 1)]
theorem c_ops1 (g : Nat) : ImpC Tryz.prog 138 [.one (.clo g [])] [] (opV 139 601) [(601, .var 49 [.clo g []])] := by
  refine impC (n := 5) tok Tryz.func138 rfl rfl rfl ?_
  refine awp_seq (ag [(0, .id 601)] rfl ?_)
  refine awp_seq (ag [] rfl ?_)
  exact awp_ret (rtC trw)
theorem c_ops2 (g : Nat) : ImpC Tryz.prog 140 [.one (.clo g [])] [] (opV 141 601) [(601, .var 179 [.clo g []])] := by
  refine impC (n := 5) tok Tryz.func140 rfl rfl rfl ?_
  refine awp_seq (ag [(0, .id 601)] rfl ?_)
  refine awp_seq (ag [] rfl ?_)
  exact awp_ret (rtC trw)
def opsO : AObj := omap true
theorem c_ops : ImpC Tryz.prog 76 [] [] (.one (.mr 620)) [(620, opsO)] := by
  have h1 : ImpC Tryz.prog 138 ([.one (.clo 143 [])] ++ ([] : List R).map V.one) [] (opV 139 601) [(601, .var 49 [.clo 143 []])] := c_ops1 _
  have h2 : ImpC Tryz.prog 138 ([.one (.clo 145 [])] ++ ([] : List R).map V.one) [] (opV 139 602) [(602, .var 49 [.clo 145 []])] := (c_ops1 145).swap 601 602
  have h3 : ImpC Tryz.prog 138 ([.one (.clo 146 [])] ++ ([] : List R).map V.one) [] (opV 139 603) [(603, .var 49 [.clo 146 []])] := (c_ops1 146).swap 601 603
  have h4 : ImpC Tryz.prog 138 ([.one (.clo 147 [])] ++ ([] : List R).map V.one) [] (opV 139 604) [(604, .var 49 [.clo 147 []])] := (c_ops1 147).swap 601 604
  have h5 : ImpC Tryz.prog 140 ([.one (.clo 148 [])] ++ ([] : List R).map V.one) [] (opV 141 605) [(605, .var 179 [.clo 148 []])] := (c_ops2 148).swap 601 605
  have h6 : ImpC Tryz.prog 140 ([.one (.clo 149 [])] ++ ([] : List R).map V.one) [] (opV 141 606) [(606, .var 179 [.clo 149 []])] := (c_ops2 149).swap 601 606
  refine impC (n := 20) tok Tryz.func76 rfl rfl rfl ?_
  refine awp_seq (ag [] rfl ?_)
  refine awp_seq (ag [] rfl ?_)
  refine awp_seq (ag [] rfl ?_)
  refine awp_seq (awp_rg mixed ?_)
  refine ak 1 [] rfl ?_
  refine kv (args := [.one (.clo 143 [])]) h1 ?_
  refine ak 2 [] rfl ?_
  refine az ?_
  refine awp_seq (ag [] rfl ?_)
  refine awp_seq (awp_rg mixed ?_)
  refine k_ (g_ rfl rfl (r_makeMapO (d := 7) (id := 620) (agg := true) rfl rfl (blt_lt rfl) rfl)) ?_
  refine ak 1 [] rfl ?_
  refine kv (args := [.one (.clo 145 [])]) h2 ?_
  refine k_ (g_ rfl rfl (r_insertO (id := 620) (agg := true) tok rfl rfl (tg rfl) rfl (tg rfl) rfl rfl rfl rfl rfl rfl rfl)) ?_
  refine ak 1 [] rfl ?_
  refine kv (args := [.one (.clo 146 [])]) h3 ?_
  refine k_ (g_ rfl rfl (r_insertO (id := 620) (agg := true) tok rfl rfl (tg rfl) rfl (tg rfl) rfl rfl rfl rfl rfl rfl rfl)) ?_
  refine ak 1 [] rfl ?_
  refine kv (args := [.one (.clo 147 [])]) h4 ?_
  refine k_ (g_ rfl rfl (r_insertO (id := 620) (agg := true) tok rfl rfl (tg rfl) rfl (tg rfl) rfl rfl rfl rfl rfl rfl rfl)) ?_
  refine ak 1 [] rfl ?_
  refine k_ (g_ rfl rfl (r_insertO (id := 620) (agg := true) tok rfl rfl (tg rfl) rfl (tg rfl) rfl rfl rfl rfl rfl rfl rfl)) ?_
  refine ak 1 [] rfl ?_
  refine kv (args := [.one (.clo 148 [])]) h5 ?_
  refine k_ (g_ rfl rfl (r_insertO (id := 620) (agg := true) tok rfl rfl (tg rfl) rfl (tg rfl) rfl rfl rfl rfl rfl rfl rfl)) ?_
  refine ak 1 [] rfl ?_
  refine kv (args := [.one (.clo 149 [])]) h6 ?_
  refine k_ (g_ rfl rfl (r_insertO (id := 620) (agg := true) tok rfl rfl (tg rfl) rfl (tg rfl) rfl rfl rfl rfl rfl rfl rfl)) ?_
  refine ak 2 [] rfl ?_
  refine az ?_
  exact awp_ret rtT
end Go.Proofs.YtmoekkcdkjopgaaGreatDoor
