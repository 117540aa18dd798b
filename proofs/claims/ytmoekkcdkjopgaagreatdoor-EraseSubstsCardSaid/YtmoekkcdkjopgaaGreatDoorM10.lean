/-
  Texts Lg1, Lg2, Am39, Lg3, Lg4, Lc5, Lc6, Ld1 in one.
-/
import Derived.Test.YtmoekkcdkjopgaaGreatDoorM9
/- CORE IN MEMORY OF ITS OWN, with binds and alternatives: its parts and names as groups (core.groups). -/
namespace Go.Proofs.YtmoekkcdkjopgaaGreatDoor
open Go Go.AM
set_option maxRecDepth 20000
def cellsG (f n : Int) (s : Str) (t : Ty) (nk nb na : Nat) : List R := [.c (.int .i64 f), .c (.int .i64 n), .c (.str s), .c (.int .i64 t.form), .c (.int .i64 t.n), .c (.str t.name), .c (.sl 4 (encArgs t)), .hs 702 0 nk nk, .hs 701 0 nb nb, .ra 703 0 na na]
def encAltR (k : Nat) (a : Alt) : List R := [.c (.int .i64 a.form), .c (.int .i64 a.n), .c (.str a.name), .hs (k + 800) 0 a.vars.length a.vars.length] ++ (encCore a.body).map R.c
def altRows : Nat → List Alt → List (List R)
  | _, [] => []
  | k, a :: l => encAltR k a :: altRows (k + 1) l
def fam : Nat → List Alt → List (Nat × AObj)
  | _, [] => []
  | k, a :: l => (k + 800, .arr 9 1 (a.vars.map encS) 0) :: fam (k + 1) l
theorem altRows_at : ∀ {l : List Alt} {k i : Nat} {a : Alt}, l[i]? = some a → (altRows k l)[i]? = some (encAltR (k + i) a)
  | b :: l, k, 0, a, h => by simp at h; subst h; rfl
  | b :: l, k, i + 1, a, h => by
    simp only [altRows, List.getElem?_cons_succ]
    rw [altRows_at (by simpa using h), show k + 1 + i = k + (i + 1) by omega]
theorem altRows_len : ∀ {l : List Alt} {k : Nat}, (altRows k l).length = l.length
  | [], _ => rfl
  | _ :: l, k => by simp [altRows, altRows_len (l := l)]
theorem fam_at : ∀ {l : List Alt} {k i : Nat} {a : Alt}, l[i]? = some a → (k + i + 800, AObj.arr 9 1 (a.vars.map encS) 0) ∈ fam k l
  | b :: l, k, 0, a, h => by simp at h; subst h; exact List.mem_cons_self
  | b :: l, k, i + 1, a, h => by
    have := fam_at (l := l) (k := k + 1) (by simpa using h)
    rw [show k + 1 + i = k + (i + 1) by omega] at this
    exact List.mem_cons_of_mem _ this
theorem fam_mem : ∀ {l : List Alt} {k : Nat} {p : Nat × AObj}, p ∈ fam k l → ∃ i a, l[i]? = some a ∧ p = (k + i + 800, AObj.arr 9 1 (a.vars.map encS) 0)
  | b :: l, k, p, h => by
    rcases List.mem_cons.1 h with rfl | h
    · exact ⟨0, b, rfl, rfl⟩
    · obtain ⟨i, a, h1, h2⟩ := fam_mem h
      exact ⟨i + 1, a, h1, by rw [h2, show k + 1 + i = k + (i + 1) by omega]⟩
theorem fam_nodup : ∀ {l : List Alt} {k : Nat}, ((fam k l).map (·.1)).Nodup
  | [], _ => List.nodup_nil
  | a :: l, k => by
    simp only [fam, List.map_cons]
    refine List.nodup_cons.2 ⟨fun h => ?_, fam_nodup⟩
    obtain ⟨p, hp, e⟩ := List.mem_map.1 h
    obtain ⟨i, b, _, rfl⟩ := fam_mem hp
    simp only at e; omega
theorem fam_tf {l : List Alt} {k : Nat} : TF (fam k l) := ⟨fun p hp => by obtain ⟨i, a, _, rfl⟩ := fam_mem hp; simp only; omega, fam_nodup, fun p hp => by obtain ⟨i, a, _, rfl⟩ := fam_mem hp; exact ⟨_, _, _, _, rfl⟩⟩
theorem fam_key {l : List Alt} {k i : Nat} (h : i < l.length) : k + i + 800 ∈ keys (fam k l) := by
  obtain ⟨a, ha⟩ := get_of_lt h
  exact List.mem_map.2 ⟨_, fam_at ha, rfl⟩
theorem encAltR_refs {k : Nat} {a : Alt} {x : Nat} (h : x ∈ R.refsL (encAltR k a)) : x = k + 800 := by
  unfold encAltR encCore at h
  simpa [R.refsL, R.refs] using h
theorem altRows_refs : ∀ {l : List Alt} {k : Nat}, ∀ x ∈ refsR (altRows k l), x ∈ keys (fam k l)
  | [], _, x, h => by simp [altRows, refsR] at h
  | a :: l, k, x, h => by
    rcases List.mem_append.1 (show x ∈ R.refsL (encAltR k a) ++ refsR (altRows (k + 1) l) from h) with h | h
    · rw [encAltR_refs h]; exact List.mem_cons_self
    · exact List.mem_cons_of_mem _ (altRows_refs x h)
def gHl (f n : Int) (s : Str) (t : Ty) (ks : List Core) (bs : List Bind) (al : List Alt) : List (Nat × AObj) :=
  [(700, .var 37 (cellsG f n s t ks.length bs.length al.length)), (701, .arr 73 15 (encBinds bs) 0), (702, .arr 37 10 (encCores ks) 0), (703, .rarr 78 14 (altRows 0 al))]
theorem gHl_refs {f n : Int} {s : Str} {t : Ty} {ks : List Core} {bs : List Bind} {al : List Alt} : ∀ x ∈ refsH (gHl f n s t ks bs al), x ∈ keys (gHl f n s t ks bs al) ∨ x ∈ keys (fam 0 al) := fun x hx => by
  simp only [gHl, refsH, AObj.refs, cellsG, R.refsL, R.refs, List.nil_append, List.append_nil, List.mem_append, List.mem_cons, List.not_mem_nil, or_false, false_or] at hx
  rcases hx with (rfl | rfl | rfl) | hx
  · exact .inl (by simp [gHl, keys])
  · exact .inl (by simp [gHl, keys])
  · exact .inl (by simp [gHl, keys])
  · exact .inr (altRows_refs x hx)
theorem gW {f n : Int} {s : Str} {t : Ty} {ks : List Core} {bs : List Bind} {al : List Alt} : GW (gHl f n s t ks bs al) (fam 0 al) := ⟨fam_tf, gHl_refs, rfl, rfl⟩
/-! ### What the groups are -/
def gNm : Bool → List (List R)
  | true => [[.vp 700 2]]
  | false => []
def gPo (rows : List (List R)) : AObj := .rarr 116 1 rows
def gNo (rows : List (List R)) : AObj := .rarr 167 1 rows
def rgR (f : Nat → List R) (k : Nat) : List (List R) := (List.range k).map f
theorem rgR_step (f : Nat → List R) (k : Nat) : rgR f (k + 1) = rgR f k ++ [f k] := by unfold rgR; rw [List.range_succ, List.map_append]; rfl
theorem rgR_len (f : Nat → List R) (k : Nat) : (rgR f k).length = k := by simp [rgR]
theorem rgR_refs {f : Nat → List R} {L : Nat → Prop} (h : ∀ j, ∀ x ∈ R.refsL (f j), L x) (k : Nat) : ∀ x ∈ refsR (rgR f k), L x := by
  have key : ∀ rows : List (List R), (∀ r ∈ rows, ∀ x ∈ R.refsL r, L x) → ∀ x ∈ refsR rows, L x := by
    intro rows
    induction rows with
    | nil => intro _ x hx; simp [refsR] at hx
    | cons r rows ih =>
      intro hr x hx
      rcases List.mem_append.1 (show x ∈ R.refsL r ++ refsR rows from hx) with hx | hx
      · exact hr r List.mem_cons_self x hx
      · exact ih (fun q hq => hr q (List.mem_cons_of_mem _ hq)) x hx
  refine key _ fun r hr => ?_
  obtain ⟨j, _, rfl⟩ := List.mem_map.1 hr
  exact h j
def nR (b : Bool) (nb i : Nat) : List (List R) := gNm b ++ rgR (fun j => [.ep 701 j 0 nb]) i
def pR (nk nb i : Nat) : List (List R) := rgR (fun j => [.ep 702 j 0 nk]) nk ++ rgR (fun j => [.ep 701 j 5 nb]) i
def vR (k nv i : Nat) : List (List R) := rgR (fun j => [.ep (k + 800) j 0 nv]) i
def alRow (na k : Nat) (a : Alt) : List R := [.ras (vR k a.vars.length a.vars.length).length 1 (vR k a.vars.length a.vars.length).flatten, .ras 1 1 [.rp 703 k 4 na]]
def altG (na : Nat) : Nat → List Alt → List (List R)
  | _, [] => []
  | k, a :: l => alRow na k a :: altG na (k + 1) l
def g0Row (b : Bool) (nk nb : Nat) : List R := [.ras (nR b nb nb).length 1 (nR b nb nb).flatten, .ras (pR nk nb nb).length 1 (pR nk nb nb).flatten]
def gRowsA (b : Bool) (nk nb na : Nat) (l : List Alt) : List (List R) := g0Row b nk nb :: altG na 0 l
theorem altG_len {na : Nat} : ∀ {l : List Alt} {k : Nat}, (altG na k l).length = l.length
  | [], _ => rfl
  | _ :: l, k => by simp [altG, altG_len (l := l)]
theorem altG_snoc {na : Nat} : ∀ {l : List Alt} {k i : Nat} {a : Alt}, l[i]? = some a → altG na k (l.take (i + 1)) = altG na k (l.take i) ++ [alRow na (k + i) a]
  | b :: l, k, 0, a, h => by simp at h; subst h; simp [altG]
  | b :: l, k, i + 1, a, h => by
    simp only [List.take_succ_cons, altG, List.cons_append]
    rw [altG_snoc (l := l) (k := k + 1) (by simpa using h), show k + 1 + i = k + (i + 1) by omega]
theorem altG_at {na : Nat} : ∀ {l : List Alt} {k i : Nat} {a : Alt}, l[i]? = some a → (altG na k l)[i]? = some (alRow na (k + i) a)
  | b :: l, k, 0, a, h => by simp at h; subst h; rfl
  | b :: l, k, i + 1, a, h => by
    simp only [altG, List.getElem?_cons_succ]
    rw [altG_at (by simpa using h), show k + 1 + i = k + (i + 1) by omega]
theorem refsL_flat : ∀ {rows : List (List R)}, R.refsL rows.flatten = refsR rows
  | [] => rfl
  | r :: rows => by
    rw [List.flatten_cons, R.refsL_append, refsL_flat]; rfl
end Go.Proofs.YtmoekkcdkjopgaaGreatDoor

/- CORE IN MEMORY OF ITS OWN: core.groups. -/
namespace Go.Proofs.YtmoekkcdkjopgaaGreatDoor
open Go Go.AM
set_option maxRecDepth 20000
theorem gf_rg {G F : List (Nat × AObj)} {f : Nat → List R} (h : ∀ j, GF G F (R.refsL (f j))) (k : Nat) : GF G F (refsR (rgR f k)) := rgR_refs h k
theorem refsR_app : ∀ (a b : List (List R)), refsR (a ++ b) = refsR a ++ refsR b
  | [], _ => rfl
  | r :: a, b => by simp only [List.cons_append, refsR, refsR_app a b, List.append_assoc]
section
variable {f n : Int} {s : Str} {t : Ty} {ks : List Core} {bs : List Bind} {al : List Alt}
abbrev gfo (f n : Int) (s : Str) (t : Ty) (ks : List Core) (bs : List Bind) (al : List Alt) (l : List Nat) : Prop := GF (gHl f n s t ks bs al) (fam 0 al) l
theorem gf_k (nk i : Nat) : gfo f n s t ks bs al (refsR (rgR (fun j => [.ep 702 j 0 nk]) i)) := gf_rg (fun j x hx => .inl (by
  have : x = 702 := by simpa [R.refsL, R.refs] using hx
  subst this; simp [gHl, keys])) i
theorem gf_n (b : Bool) (nb i : Nat) : gfo f n s t ks bs al (refsR (nR b nb i)) := by
  unfold nR
  rw [refsR_app]
  refine GF.app ?_ (gf_rg (fun j x hx => .inl ?_) i)
  · cases b
    · exact fun x hx => by simp [gNm, refsR] at hx
    · intro x hx
      have : x = 700 := by simpa [gNm, refsR, R.refsL, R.refs] using hx
      subst this; exact .inl (by simp [gHl, keys])
  · have : x = 701 := by simpa [R.refsL, R.refs] using hx
    subst this; simp [gHl, keys]
theorem gf_p (nk nb i : Nat) : gfo f n s t ks bs al (refsR (pR nk nb i)) := by
  unfold pR
  rw [refsR_app]
  refine GF.app (gf_k _ _) (gf_rg (fun j x hx => .inl ?_) i)
  have : x = 701 := by simpa [R.refsL, R.refs] using hx
  subst this; simp [gHl, keys]
theorem gf_v {k : Nat} (hk : k < al.length) (nv i : Nat) : gfo f n s t ks bs al (refsR (vR k nv i)) := by
  unfold vR
  refine gf_rg (fun j x hx => .inr ?_) i
  have : x = k + 800 := by simpa [R.refsL, R.refs] using hx
  subst this
  have := fam_key (k := 0) hk
  rwa [Nat.zero_add] at this
theorem gf_al {k : Nat} (hk : k < al.length) (a : Alt) : gfo f n s t ks bs al (R.refsL (alRow al.length k a)) := by
  unfold alRow
  simp only [R.refsL, R.refs, refsL_flat, List.append_nil]
  refine GF.app (gf_v hk _ _) fun x hx => .inl ?_
  have : x = 703 := by simpa using hx
  subst this; simp [gHl, keys]
theorem gf_altG : ∀ {l : List Alt} {k : Nat}, k + l.length ≤ al.length → gfo f n s t ks bs al (refsR (altG al.length k l))
  | [], _, _ => fun x hx => by simp [altG, refsR] at hx
  | a :: l, k, h => by
    simp only [List.length_cons] at h
    exact GF.app (gf_al (by omega) a) (gf_altG (by omega))
theorem gf_rows (b : Bool) (i : Nat) : gfo f n s t ks bs al (refsR (gRowsA b ks.length bs.length al.length (al.take i))) := by
  unfold gRowsA
  refine GF.app ?_ (gf_altG (by simp; omega))
  unfold g0Row
  simp only [R.refsL, R.refs, refsL_flat, List.append_nil]
  exact GF.app (gf_n _ _ _) (gf_p _ _ _)
end
theorem gfo_not {f n : Int} {s : Str} {t : Ty} {ks : List Core} {bs : List Bind} {al : List Alt} {l : List Nat} (h : gfo f n s t ks bs al l) {id : Nat} (h1 : 703 < id) (h2 : id < 800) : id ∉ l := fun hx => by
  rcases h id hx with h | h
  · have : id = 700 ∨ id = 701 ∨ id = 702 ∨ id = 703 := by simpa [gHl, keys] using h
    omega
  · obtain ⟨p, hp, e⟩ := List.mem_map.1 h
    have := fam_tf.far p hp
    omega
theorem g_kf {f n : Int} {s : Str} {t : Ty} {ks : List Core} {bs : List Bind} {al : List Alt} {id : Nat} (h1 : 703 < id) (h2 : id < 800) : id ∉ keys (gHl f n s t ks bs al ++ fam 0 al) := gfo_not (fun x hx => keys_app.1 hx) h1 h2
theorem fzH_gHl {f n : Int} {s : Str} {t : Ty} {ks : List Core} {bs : List Bind} {al : List Alt} {id m es : Nat} {l : List R} (h1 : 703 < id) (h2 : id < 800) : fzH id (.ra m es l) (gHl f n s t ks bs al) = gHl f n s t ks bs al := by
  have hb : Nat.beq 703 id = false := by
    cases hb : Nat.beq 703 id with
    | false => rfl
    | true => have := Nat.eq_of_beq_eq_true hb; omega
  have hr : id ∉ refsR (altRows 0 al) := gfo_not (fun x hx => .inr (altRows_refs x hx)) h1 h2 (f := f) (n := n) (s := s) (t := t) (ks := ks) (bs := bs)
  simp only [gHl, fzH, AObj.fz, cellsG, R.fzL, R.fz, hb, fzR_far _ hr, Bool.false_eq_true, if_false]
theorem c_groupsG (b : Bool) (f n : Int) (s : Str) (t : Ty) (ks : List Core) (bs : List Bind) (al : List Alt) (hb5 : decide (f = 5) = b) (hk : ks.length ≤ 100000000000) (hb : bs.length ≤ 100000000000) (ha : al.length ≤ 100000000000) (hv : ∀ a ∈ al, a.vars.length ≤ 100000000000) :
    ImpC Tryz.prog 66 [.one (.vp 700 0)] (gHl f n s t ks bs al ++ fam 0 al) (.one (.ras (gRowsA b ks.length bs.length al.length al).length 2 (gRowsA b ks.length bs.length al.length al).flatten)) (gHl f n s t ks bs al ++ fam 0 al) := by
  have hF : TF (fam 0 al) := fam_tf
  have W : GW (gHl f n s t ks bs al) (fam 0 al) := gW
  have hkB : (encBinds bs).length = bs.length := by rw [encBinds_map, List.length_map]
  have hkK : (encCores ks).length = ks.length := by rw [encCores_map, List.length_map]
  refine impCT hF (n := 123) tok Tryz.func66 rfl rfl rfl ?_
  refine awp_seq (ag [] rfl ?_)
  refine awp_seq (ag [] rfl ?_)
  refine AWp.sub (Sub.ownCellR (x := 3) (k := 1) (id := 712) 116 1 rfl rfl rfl) (AWp.sub (Sub.ownCellR (x := 3) (k := 0) (id := 711) 167 1 rfl rfl rfl) ?_)
  refine awp_seq (awp_seq (ag [] rfl ?_))
  refine awp_block ?_
  refine awp_loop (fun i : Nat => mkt [(0, .one (.vp 700 0)), (3, .one (.vp 3 0)), (16, I .i64 ((ks.length : Nat) : Int)), (17, I .i64 i)] ([(712, gPo (rgR (fun j => [.ep 702 j 0 ks.length]) i)), (3, .var 125 [.ra 711 0 0 0, .ra 712 0 (rgR (fun j => [.ep 702 j 0 ks.length]) i).length (rgR (fun j => [.ep 702 j 0 ks.length]) i).length]), (711, gNo [])] ++ gHl f n s t ks bs al) (fam 0 al)) (fun i => i ≤ ks.length) (fun i => ks.length - i) 0 (Nat.zero_le _) (slG W) ?_
  intro i hi
  have hpl := rgR_len (fun j => [.ep 702 j 0 ks.length]) i
  refine awp_seq (ag [] rfl ?_)
  refine awp_seq (awp_cond rfl (fun hb => ?_) (fun hb => ?_))
  · have hlt : i < ks.length := by
      have : (i : Int) < (ks.length : Int) := of_decide_eq_true hb
      omega
    have hst := rgR_step (fun j => [.ep 702 j 0 ks.length]) i
    have hr : gfo f n s t ks bs al (gPo (rgR (fun j => [.ep 702 j 0 ks.length]) (i + 1))).refs := gf_k _ _
    refine awp_skip ?_
    refine awp_seq (awp_block (awp_seq (ag [] rfl ?_)))
    refine ag [] rfl ?_
    refine ag [] rfl ?_
    refine ⟨i + 1, hlt, by dsimp only; omega, ?_⟩
    dsimp only
    rw [hst] at hr ⊢
    refine slG W (hh := ⟨⟨_, rfl, .rarrS rfl⟩, ⟨_, rfl, .var ?_⟩, ⟨_, rfl, .rarrS rfl⟩, ⟨_, rfl, .var rfl⟩, ⟨_, rfl, .arr⟩, ⟨_, rfl, .arr⟩, ⟨_, rfl, .rarrS rfl⟩, trivial⟩)
    rw [List.length_append]
    rfl
  have hge : i = ks.length := by
    have : ¬ (i : Int) < (ks.length : Int) := of_decide_eq_false hb
    omega
  subst hge
  clear hi hb hpl
  have e0 : rgR (fun j => [.ep 702 j 0 ks.length]) ks.length = pR ks.length bs.length 0 := by simp [pR, rgR]
  rw [e0]
  have hr12 : gfo f n s t ks bs al (gPo (pR ks.length bs.length 0)).refs := gf_p _ _ _
  have hr11 : gfo f n s t ks bs al (gNo (nR b bs.length 0)).refs := gf_n _ _ _
  refine awp_exit ?_
  refine awp_seq (AWp.cut (mkt [(0, .one (.vp 700 0)), (3, .one (.vp 3 0))] ([(712, gPo (pR ks.length bs.length 0)), (3, .var 125 [.ra 711 0 (nR b bs.length 0).length (nR b bs.length 0).length, .ra 712 0 (pR ks.length bs.length 0).length (pR ks.length bs.length 0).length]), (711, gNo (nR b bs.length 0))] ++ gHl f n s t ks bs al) (fam 0 al)) ?_ ?_)
  · refine awp_seq (ag [] rfl ?_)
    refine awp_cond rfl (fun hb => ?_) (fun hb => ?_)
    · have hb : decide (f = 5) = true := hb
      rw [hb] at hb5
      subst hb5
      exact ag [] rfl (slG W)
    · have hb : decide (f = 5) = false := hb
      rw [hb] at hb5
      subst hb5
      exact awp_skip (slG W)
  clear hr11 hr12 e0
  refine awp_seq (awp_seq (ag [] rfl ?_))
  refine awp_block ?_
  refine awp_loop (fun i : Nat => mkt [(0, .one (.vp 700 0)), (3, .one (.vp 3 0)), (49, I .i64 ((bs.length : Nat) : Int)), (50, I .i64 i)] ([(712, gPo (pR ks.length bs.length i)), (3, .var 125 [.ra 711 0 (nR b bs.length i).length (nR b bs.length i).length, .ra 712 0 (pR ks.length bs.length i).length (pR ks.length bs.length i).length]), (711, gNo (nR b bs.length i))] ++ gHl f n s t ks bs al) (fam 0 al)) (fun i => i ≤ bs.length) (fun i => bs.length - i) 0 (Nat.zero_le _) (slG W (h2 := ⟨Kn.gf (gf_p _ _ _), Kn.of rfl, Kn.gf (gf_n _ _ _), trivial⟩)) ?_
  intro i hi
  have hpl : (pR ks.length bs.length i).length = ks.length + i := by unfold pR; rw [List.length_append, rgR_len, rgR_len]
  have hnl : (nR b bs.length i).length ≤ 1 + i := by unfold nR; rw [List.length_append, rgR_len]; cases b <;> simp [gNm]
  refine awp_seq (ag [] rfl ?_)
  refine awp_seq (awp_cond rfl (fun hb => ?_) (fun hb => ?_))
  · have hlt : i < bs.length := by
      have : (i : Int) < (bs.length : Int) := of_decide_eq_true hb
      omega
    have hst1 : pR ks.length bs.length (i + 1) = pR ks.length bs.length i ++ [[.ep 701 i 5 bs.length]] := by unfold pR; rw [rgR_step, List.append_assoc]
    have hst2 : nR b bs.length (i + 1) = nR b bs.length i ++ [[.ep 701 i 0 bs.length]] := by unfold nR; rw [rgR_step, List.append_assoc]
    have hr12 : gfo f n s t ks bs al (gPo (pR ks.length bs.length (i + 1))).refs := gf_p _ _ _
    have hr11 : gfo f n s t ks bs al (gNo (nR b bs.length (i + 1))).refs := gf_n _ _ _
    refine awp_skip ?_
    refine awp_seq (awp_block (awp_seq (ag [] rfl ?_)))
    refine awp_seq (ag [] rfl ?_)
    refine ag [] rfl ?_
    refine ag [] rfl ?_
    refine ⟨i + 1, hlt, by dsimp only; omega, ?_⟩
    dsimp only
    rw [hst1, hst2] at *
    refine slG W (hh := ⟨⟨_, rfl, .rarrS rfl⟩, ⟨_, rfl, .var ?_⟩, ⟨_, rfl, .rarrS rfl⟩, ⟨_, rfl, .var rfl⟩, ⟨_, rfl, .arr⟩, ⟨_, rfl, .arr⟩, ⟨_, rfl, .rarrS rfl⟩, trivial⟩)
    rw [List.length_append, List.length_append]
    rfl
  have hge : i = bs.length := by
    have : ¬ (i : Int) < (bs.length : Int) := of_decide_eq_false hb
    omega
  subst hge
  clear hi hb
  refine awp_exit ?_
  -- the first group
  have hn1 : 711 ∉ refsR (nR b bs.length bs.length) := gfo_not (gf_n (f := f) (n := n) (s := s) (t := t) (ks := ks) (bs := bs) (al := al) b bs.length bs.length) (by omega) (by omega)
  have hn2 : 712 ∉ refsR (nR b bs.length bs.length) := gfo_not (gf_n (f := f) (n := n) (s := s) (t := t) (ks := ks) (bs := bs) (al := al) b bs.length bs.length) (by omega) (by omega)
  have hp1 : 711 ∉ refsR (pR ks.length bs.length bs.length) := gfo_not (gf_p (f := f) (n := n) (s := s) (t := t) (ks := ks) (bs := bs) (al := al) ks.length bs.length bs.length) (by omega) (by omega)
  have hp2 : 712 ∉ refsR (pR ks.length bs.length bs.length) := gfo_not (gf_p (f := f) (n := n) (s := s) (t := t) (ks := ks) (bs := bs) (al := al) ks.length bs.length bs.length) (by omega) (by omega)
  refine AWp.sub (st2 := mkt [(0, .one (.vp 700 0)), (3, .one (.vp 3 0))] ((712, gPo (pR ks.length bs.length bs.length)) :: ([(3, .var 125 [.ra 711 0 (nR b bs.length bs.length).length (nR b bs.length bs.length).length, .ra 712 0 (pR ks.length bs.length bs.length).length (pR ks.length bs.length bs.length).length]), (711, gNo (nR b bs.length bs.length))] ++ gHl f n s t ks bs al)) (fam 0 al)) (slG (ex := (712, _) :: [_, _]) W (h2 := ⟨Kn.gf (gf_p _ _ _), Kn.of rfl, Kn.gf (gf_n _ _ _), trivial⟩)) ?_
  refine AWp.sub (Sub.fraT hF (g_kf (by omega) (by omega)) hp2) ?_
  have e1 : fzH 712 (.ra (pR ks.length bs.length bs.length).length 1 (pR ks.length bs.length bs.length).flatten) ([(3, .var 125 [.ra 711 0 (nR b bs.length bs.length).length (nR b bs.length bs.length).length, .ra 712 0 (pR ks.length bs.length bs.length).length (pR ks.length bs.length bs.length).length]), (711, gNo (nR b bs.length bs.length))] ++ gHl f n s t ks bs al)
      = [(3, .var 125 [.ra 711 0 (nR b bs.length bs.length).length (nR b bs.length bs.length).length, .ras (pR ks.length bs.length bs.length).length 1 (pR ks.length bs.length bs.length).flatten]), (711, gNo (nR b bs.length bs.length))] ++ gHl f n s t ks bs al := by
    show (3, _) :: (711, AObj.rarr _ _ (fzR _ _ _)) :: fzH _ _ (gHl f n s t ks bs al) = _
    rw [fzH_gHl (by omega) (by omega), fzR_far _ hn2]
    simp only [AObj.fz, R.fzL, fz_ra rfl]
    rfl
  rw [e1]
  refine AWp.sub (st2 := mkt [(0, .one (.vp 700 0)), (3, .one (.vp 3 0))] ((711, gNo (nR b bs.length bs.length)) :: ([(3, .var 125 [.ra 711 0 (nR b bs.length bs.length).length (nR b bs.length bs.length).length, .ras (pR ks.length bs.length bs.length).length 1 (pR ks.length bs.length bs.length).flatten])] ++ gHl f n s t ks bs al)) (fam 0 al)) (slG (ex := (711, _) :: [_]) W (h2 := ⟨Kn.gf (gf_n _ _ _), Kn.app (Kn.of rfl) (Kn.app (by simp only [R.refs, refsL_flat]; exact Kn.gf (gf_p _ _ _)) Kn.nil), trivial⟩)) ?_
  refine AWp.sub (Sub.fraT hF (g_kf (by omega) (by omega)) hn1) ?_
  have e2 : fzH 711 (.ra (nR b bs.length bs.length).length 1 (nR b bs.length bs.length).flatten) ([(3, .var 125 [.ra 711 0 (nR b bs.length bs.length).length (nR b bs.length bs.length).length, .ras (pR ks.length bs.length bs.length).length 1 (pR ks.length bs.length bs.length).flatten])] ++ gHl f n s t ks bs al)
      = [(3, .var 125 (g0Row b ks.length bs.length))] ++ gHl f n s t ks bs al := by
    show (3, _) :: fzH _ _ (gHl f n s t ks bs al) = _
    rw [fzH_gHl (by omega) (by omega)]
    simp only [AObj.fz, R.fzL, fz_ra rfl, R.fz_far (.ras (pR ks.length bs.length bs.length).length 1 (pR ks.length bs.length bs.length).flatten) (show 711 ∉ R.refsL (pR ks.length bs.length bs.length).flatten by rw [refsL_flat]; exact hp1)]
    rfl
  rw [e2]
  clear e1 e2 hn1 hn2 hp1 hp2 hpl hnl
  have hgf : gfo f n s t ks bs al (refsR (gRowsA b ks.length bs.length al.length (al.take 0))) := gf_rows b 0
  have hal : al.length = (altRows 0 al).length := altRows_len.symm
  refine awp_seq (ag [(1, .id 713)] rfl ?_)
  refine awp_seq (awp_seq (ag [] rfl ?_))
  refine awp_block ?_
  refine awp_loop (fun i : Nat => mkt [(0, .one (.vp 700 0)), (7, .one (.ra 713 0 (gRowsA b ks.length bs.length al.length (al.take i)).length (gRowsA b ks.length bs.length al.length (al.take i)).length)), (82, I .i64 ((al.length : Nat) : Int)), (83, I .i64 i)] ([(713, .rarr 125 2 (gRowsA b ks.length bs.length al.length (al.take i)))] ++ gHl f n s t ks bs al) (fam 0 al)) (fun i => i ≤ al.length) (fun i => al.length - i) 0 (Nat.zero_le _) (slG W) ?_
  intro i hi
  have hgl : (gRowsA b ks.length bs.length al.length (al.take i)).length = 1 + i := by unfold gRowsA; rw [List.length_cons, altG_len, List.length_take]; omega
  refine awp_seq (ag [] rfl ?_)
  refine awp_seq (awp_cond rfl (fun hb => ?_) (fun hb => ?_))
  · have hlt : i < al.length := by
      have : (i : Int) < (al.length : Int) := of_decide_eq_true hb
      omega
    obtain ⟨a, hai⟩ := get_of_lt hlt
    have hrow : (altRows 0 al)[i]? = some (encAltR i a) := by rw [altRows_at hai, Nat.zero_add]
    have hvl := hv a (List.mem_of_getElem? hai)
    have hobj : (i + 800, AObj.arr 9 1 (a.vars.map encS) 0) ∈ fam 0 al := by have := fam_at (k := 0) hai; rwa [Nat.zero_add] at this
    have hvk : a.vars.length = (a.vars.map encS).length := (List.length_map _).symm
    have hnx : gRowsA b ks.length bs.length al.length (al.take (i + 1)) = gRowsA b ks.length bs.length al.length (al.take i) ++ [alRow al.length i a] := by
      unfold gRowsA
      rw [altG_snoc hai, Nat.zero_add]; rfl
    have hg0 : gfo f n s t ks bs al (refsR (gRowsA b ks.length bs.length al.length (al.take i))) := gf_rows b i
    have hg1 : gfo f n s t ks bs al (refsR (gRowsA b ks.length bs.length al.length (al.take (i + 1)))) := gf_rows b (i + 1)
    generalize gRowsA b ks.length bs.length al.length (al.take i) = G at hgl hnx hg0 ⊢
    refine awp_skip ?_
    refine awp_seq (awp_block (awp_seq (ag [] rfl ?_)))
    refine awp_seq (ag [] rfl ?_)
    refine awp_seq (ag [(3, .id 722)] rfl ?_)
    -- its parts
    have hp2 : 722 ∉ refsR [[R.rp 703 i 4 al.length]] := by simp [refsR, R.refsL, R.refs]
    refine AWp.sub (st2 := mkt [(0, .one (.vp 700 0)), (7, .one (.ra 713 0 G.length G.length)), (9, .one (.rp 703 i 0 al.length)), (10, .one (.vp 10 0)), (82, I .i64 ((al.length : Nat) : Int)), (83, I .i64 i)] ((722, gPo [[.rp 703 i 4 al.length]]) :: ([(10, .var 125 [.c .nl, .ra 722 0 1 1]), (713, .rarr 125 2 G)] ++ gHl f n s t ks bs al)) (fam 0 al)) (slG (ex := (722, _) :: [_, _]) W) ?_
    refine AWp.sub (Sub.fraT hF (g_kf (by omega) (by omega)) hp2) ?_
    have e1 : fzH 722 (.ra 1 1 [R.rp 703 i 4 al.length]) ([(10, .var 125 [.c .nl, .ra 722 0 1 1]), (713, .rarr 125 2 G)] ++ gHl f n s t ks bs al)
        = [(10, .var 125 [.c .nl, .ras 1 1 [.rp 703 i 4 al.length]]), (713, .rarr 125 2 G)] ++ gHl f n s t ks bs al := by
      show (10, _) :: (713, AObj.rarr _ _ (fzR _ _ _)) :: fzH _ _ (gHl f n s t ks bs al) = _
      rw [fzH_gHl (by omega) (by omega), fzR_far _ (gfo_not hg0 (by omega) (by omega))]
      rfl
    have e1' : fzH 722 (.ra ([[R.rp 703 i 4 al.length]] : List (List R)).length 1 ([[R.rp 703 i 4 al.length]] : List (List R)).flatten) = fzH 722 (.ra 1 1 [R.rp 703 i 4 al.length]) := rfl
    rw [e1', e1]
    clear e1 e1' hp2
    refine AWp.sub (Sub.ownCellR (x := 10) (k := 0) (id := 721) 167 1 rfl rfl rfl) ?_
    refine AWp.sub (st2 := mkt [(0, .one (.vp 700 0)), (7, .one (.ra 713 0 G.length G.length)), (9, .one (.rp 703 i 0 al.length)), (10, .one (.vp 10 0)), (82, I .i64 ((al.length : Nat) : Int)), (83, I .i64 i)] ([(10, .var 125 [.ra 721 0 0 0, .ras 1 1 [.rp 703 i 4 al.length]]), (713, .rarr 125 2 G), (721, gNo [])] ++ gHl f n s t ks bs al) (fam 0 al)) (slG W) ?_
    have hlook : ∀ (ex : List (Nat × AObj)), (ex.all fun p => Nat.blt p.1 800) = true → (mkt [] (ex ++ gHl f n s t ks bs al) (fam 0 al)).h (i + 800) = some (AObj.arr 9 1 (a.vars.map encS) 0) := fun ex hex =>
      (show FarEq _ _ from FarEq.mkt hF (by rw [List.all_append, hex]; rfl)) _ hobj
    refine awp_seq (awp_seq (awp_rg mixed ?_))
    refine ak 4 [(3, .rr (encAltR i a))] rfl ?_
    refine klen tok (hlook _ rfl) rfl hvk ?_ trw
    refine ak 1 [] rfl ?_
    refine az ?_
    refine awp_block ?_
    refine awp_loop (fun j : Nat => mkt [(0, .one (.vp 700 0)), (7, .one (.ra 713 0 G.length G.length)), (9, .one (.rp 703 i 0 al.length)), (10, .one (.vp 10 0)), (82, I .i64 ((al.length : Nat) : Int)), (83, I .i64 i), (101, I .i64 ((a.vars.length : Nat) : Int)), (102, I .i64 j)] ([(721, gNo (vR i a.vars.length j)), (10, .var 125 [.ra 721 0 (vR i a.vars.length j).length (vR i a.vars.length j).length, .ras 1 1 [.rp 703 i 4 al.length]]), (713, .rarr 125 2 G)] ++ gHl f n s t ks bs al) (fam 0 al)) (fun j => j ≤ a.vars.length) (fun j => a.vars.length - j) 0 (Nat.zero_le _) (slG W) ?_
    intro j hj
    have hvj : (vR i a.vars.length j).length = j := rgR_len _ _
    refine awp_seq (ag [] rfl ?_)
    refine awp_seq (awp_cond rfl (fun hb => ?_) (fun hb => ?_))
    · have hlt2 : j < a.vars.length := by
        have : (j : Int) < (a.vars.length : Int) := of_decide_eq_true hb
        omega
      have hst : vR i a.vars.length (j + 1) = vR i a.vars.length j ++ [[.ep (i + 800) j 0 a.vars.length]] := rgR_step _ _
      have hr : gfo f n s t ks bs al (gNo (vR i a.vars.length (j + 1))).refs := gf_v hlt _ _
      refine awp_skip ?_
      refine awp_seq (awp_block (awp_seq (ag [] rfl ?_)))
      refine awp_rg mixed ?_
      refine ak 7 [(5, .rr (encAltR i a))] rfl ?_
      refine kix tok (j := j) (hlook _ rfl) rfl hvk hlt2 ?_ trw
      refine ak 4 [] rfl ?_
      refine az ?_
      refine ag [] rfl ?_
      refine ⟨j + 1, hlt2, by dsimp only; omega, ?_⟩
      dsimp only
      rw [hst] at hr ⊢
      refine slG W (hh := ⟨⟨_, rfl, .rarrS rfl⟩, ⟨_, rfl, .varS ?_⟩, ⟨_, rfl, .rarrS rfl⟩, ⟨_, rfl, .var rfl⟩, ⟨_, rfl, .arr⟩, ⟨_, rfl, .arr⟩, ⟨_, rfl, .rarrS rfl⟩, trivial⟩)
      rw [List.length_append]
    have hge : j = a.vars.length := by
      have : ¬ (j : Int) < (a.vars.length : Int) := of_decide_eq_false hb
      omega
    subst hge
    clear hb hj
    refine awp_exit ?_
    have hp1 : 721 ∉ refsR (vR i a.vars.length a.vars.length) := gfo_not (gf_v (f := f) (n := n) (s := s) (t := t) (ks := ks) (bs := bs) hlt a.vars.length a.vars.length) (by omega) (by omega)
    have hrv : gfo f n s t ks bs al (gNo (vR i a.vars.length a.vars.length)).refs := gf_v hlt _ _
    refine AWp.sub (st2 := mkt [(0, .one (.vp 700 0)), (7, .one (.ra 713 0 G.length G.length)), (10, .one (.vp 10 0)), (82, I .i64 ((al.length : Nat) : Int)), (83, I .i64 i)] ((721, gNo (vR i a.vars.length a.vars.length)) :: ([(10, .var 125 [.ra 721 0 (vR i a.vars.length a.vars.length).length (vR i a.vars.length a.vars.length).length, .ras 1 1 [.rp 703 i 4 al.length]]), (713, .rarr 125 2 G)] ++ gHl f n s t ks bs al)) (fam 0 al)) (slG (ex := (721, _) :: [_, _]) W) ?_
    refine AWp.sub (Sub.fraT hF (g_kf (by omega) (by omega)) hp1) ?_
    have e1 : fzH 721 (.ra (vR i a.vars.length a.vars.length).length 1 (vR i a.vars.length a.vars.length).flatten) ([(10, .var 125 [.ra 721 0 (vR i a.vars.length a.vars.length).length (vR i a.vars.length a.vars.length).length, .ras 1 1 [.rp 703 i 4 al.length]]), (713, .rarr 125 2 G)] ++ gHl f n s t ks bs al)
        = [(10, .var 125 (alRow al.length i a)), (713, .rarr 125 2 G)] ++ gHl f n s t ks bs al := by
      show (10, _) :: (713, AObj.rarr _ _ (fzR _ _ _)) :: fzH _ _ (gHl f n s t ks bs al) = _
      rw [fzH_gHl (by omega) (by omega), fzR_far _ (gfo_not hg0 (by omega) (by omega))]
      simp only [AObj.fz, R.fzL, fz_ra rfl, R.fz_far (.ras 1 1 [.rp 703 i 4 al.length]) (show 721 ∉ R.refs (.ras 1 1 [.rp 703 i 4 al.length]) by simp [R.refs, R.refsL])]
      rfl
    rw [e1]
    clear e1 hp1
    have hra : gfo f n s t ks bs al (R.refsL (alRow al.length i a)) := gf_al hlt a
    have halr : ∃ x y, alRow al.length i a = [x, y] := ⟨_, _, rfl⟩
    refine ag [] rfl ?_
    refine ag [] rfl ?_
    refine ⟨i + 1, hlt, by dsimp only; omega, ?_⟩
    dsimp only
    rw [hnx] at hg1 ⊢
    have hg1 : gfo f n s t ks bs al (AObj.rarr 125 2 (G ++ [alRow al.length i a])).refs := hg1
    refine slG W (he := ⟨rfl, by rw [List.length_append]; rfl, rfl, rfl, trivial⟩)
  have hge : i = al.length := by
    have : ¬ (i : Int) < (al.length : Int) := of_decide_eq_false hb
    omega
  subst hge
  have hg0 : gfo f n s t ks bs al (refsR (gRowsA b ks.length bs.length al.length (al.take al.length))) := gf_rows b _
  rw [List.take_length] at *
  generalize gRowsA b ks.length bs.length al.length al = G at *
  refine awp_exit ?_
  refine AWp.sub (st2 := mkt [(7, .one (.ra 713 0 G.length G.length))] ((713, .rarr 125 2 G) :: ([] ++ gHl f n s t ks bs al)) (fam 0 al)) (slG (ex := [(713, _)]) W (h2 := ⟨Kn.gf hg0, trivial⟩)) ?_
  refine AWp.sub (Sub.fraT hF (g_kf (by omega) (by omega)) (gfo_not hg0 (by omega) (by omega))) ?_
  have e1 : fzH 713 (.ra G.length 2 G.flatten) ([] ++ gHl f n s t ks bs al) = gHl f n s t ks bs al := fzH_gHl (by omega) (by omega)
  have e2 : fzE 713 (.ra G.length 2 G.flatten) [(7, .one (.ra 713 0 G.length G.length))] = [(7, .one (.ras G.length 2 G.flatten))] := by
    simp only [fzE, V.fz, fz_ra rfl]
  rw [e1, e2]
  refine awp_seq (ag [] rfl ?_)
  exact awp_ret (rtG W (h1 := Kn.gf (by show GF _ _ (R.refsL G.flatten); rw [refsL_flat]; exact hg0)))
end Go.Proofs.YtmoekkcdkjopgaaGreatDoor

/- A TAIL is no more written. -/
namespace Go.AM
open Go
def AObj.frz : AObj → AObj
  | .arr te es l _ => .arr te es l 2
  | o => o
def frzF (F : List (Nat × AObj)) : List (Nat × AObj) := F.map fun p => (p.1, p.2.frz)
theorem frzF_keys {F : List (Nat × AObj)} : (frzF F).map (·.1) = F.map (·.1) := by unfold frzF; rw [List.map_map]; rfl
theorem TF.frz {F : List (Nat × AObj)} (h : TF F) : TF (frzF F) := ⟨fun p hp => by
  obtain ⟨q, hq, rfl⟩ := List.mem_map.1 hp
  exact h.far q hq, by rw [frzF_keys]; exact h.nodup, fun p hp => by
  obtain ⟨q, hq, rfl⟩ := List.mem_map.1 hp
  obtain ⟨te, es, l, z, e⟩ := h.arr q hq
  exact ⟨te, es, l, 2, by show q.2.frz = _; rw [e]; rfl⟩⟩
theorem look_mid {α : Type} {p : Nat × α} {x : α} : ∀ {a b : List (Nat × α)} {i : Nat}, p.1 ∉ a.map (·.1) → look (a ++ (p.1, x) :: b) i = if i = p.1 then some x else look (a ++ p :: b) i
  | [], b, i, _ => by
    obtain ⟨k, y⟩ := p
    simp only [List.nil_append, look]
    by_cases h : i = k
    · subst h; simp
    · have : Nat.beq i k = false := by
        cases hb : Nat.beq i k with
        | false => rfl
        | true => exact absurd (Nat.eq_of_beq_eq_true hb) h
      simp [this, h]
  | (k, y) :: a, b, i, h => by
    simp only [List.map_cons, List.mem_cons, not_or] at h
    simp only [List.cons_append, look]
    cases hb : Nat.beq i k with
    | true =>
      have := Nat.eq_of_beq_eq_true hb
      subst this
      simp [Ne.symm h.1]
    | false => simpa using look_mid h.2
theorem Sub.fzMid {kf : List Nat} {el : List (Nat × V)} {hl : List (Nat × AObj)} (hn : (hl.all fun p => Nat.blt p.1 800) = true) : ∀ {F2 F1 : List (Nat × AObj)}, TF (F1 ++ F2) → Sub kf (mkt el hl (F1 ++ frzF F2)) (mkt el hl (F1 ++ F2))
  | [], F1, _ => by
    have : frzF [] = [] := rfl
    rw [this]; exact Sub.refl _ _
  | p :: F2, F1, hF => by
    obtain ⟨te, es, l, z, hp⟩ := hF.arr p (by simp)
    have hfar := hF.far p (by simp)
    have hnd := hF.nodup
    have hp1 : p.1 ∉ F1.map (·.1) := fun hm => by
      rw [List.map_append, List.nodup_append] at hnd
      exact hnd.2.2 p.1 hm p.1 (by simp) rfl
    have hlook : (mkt el hl (F1 ++ p :: F2)).h p.1 = some (.arr te es l z) := by
      have := FarEq.mkt (el := el) hF hn p (by simp)
      rw [this, hp]
    have h1 := Sub.freeze (kf := kf) hlook
    have e : (⟨(mkt el hl (F1 ++ p :: F2)).e, upd (mkt el hl (F1 ++ p :: F2)).h p.1 (some (.arr te es l 2)), (mkt el hl (F1 ++ p :: F2)).d⟩ : St) = mkt el hl (F1 ++ (p.1, .arr te es l 2) :: F2) := by
      unfold mkt
      congr 1
      funext i
      by_cases hi : i = p.1
      · subst hi
        rw [upd_same, near_all hn hfar]
        simp only [blt_f hfar, cond_false]
        rw [look_mid hp1, if_pos rfl]
      · rw [upd_ne _ _ _ hi]
        show (match look hl i with | some x => some x | none => bif Nat.blt i 800 then none else look (F1 ++ p :: F2) i) = _
        have hm := look_mid (p := p) (x := AObj.arr te es l 2) (a := F1) (b := F2) (i := i) hp1
        rw [if_neg hi] at hm
        rw [hm]
        rfl
    rw [e] at h1
    have hF' : TF ((F1 ++ [(p.1, AObj.arr te es l 2)]) ++ F2) := by
      refine ⟨fun q hq => ?_, ?_, fun q hq => ?_⟩
      · rw [List.append_assoc] at hq
        rcases List.mem_append.1 hq with hq | hq
        · exact hF.far q (by simp [hq])
        · rcases List.mem_cons.1 hq with rfl | hq
          · exact hfar
          · exact hF.far q (by simp [show q ∈ F2 from hq])
      · rw [List.append_assoc]
        have : ((F1 ++ ([(p.1, AObj.arr te es l 2)] ++ F2)).map (·.1)) = (F1 ++ p :: F2).map (·.1) := by simp
        rw [this]; exact hnd
      · rw [List.append_assoc] at hq
        rcases List.mem_append.1 hq with hq | hq
        · exact hF.arr q (by simp [hq])
        · rcases List.mem_cons.1 hq with rfl | hq
          · exact ⟨_, _, _, _, rfl⟩
          · exact hF.arr q (by simp [show q ∈ F2 from hq])
    have h2 := Sub.fzMid (kf := kf) (el := el) hn (F2 := F2) (F1 := F1 ++ [(p.1, AObj.arr te es l 2)]) hF'
    simp only [List.append_assoc, List.singleton_append] at h2
    have e2 : frzF (p :: F2) = (p.1, .arr te es l 2) :: frzF F2 := by
      show (p.1, p.2.frz) :: frzF F2 = _
      rw [hp]; rfl
    rw [e2]
    exact fun G n S μ a w hg hs => by
      obtain ⟨S', μ', hs'⟩ := h1 G n S μ a w hg hs
      exact h2 G n S' μ' a w hg hs'
/-- All arrays of the tail are no more written. -/
theorem Sub.fzAll {kf : List Nat} {el : List (Nat × V)} {hl F : List (Nat × AObj)} (hF : TF F) (hn : (hl.all fun p => Nat.blt p.1 800) = true := by rfl) : Sub kf (mkt el hl (frzF F)) (mkt el hl F) := Sub.fzMid hn (F1 := []) hF
theorem Sub.outsT {kf : List Nat} {e : Nat → Option V} {h : Heap} {d : List Nat} {hl F : List (Nat × AObj)} (hF : TF F) : Sub kf ⟨e, fun i => bif Nat.blt i 800 then updL h (outs hl) i else updL h (outs (hl ++ F)) i, d⟩ ⟨e, updL h (outs (hl ++ F)), d⟩ := by
  rw [← far_outs hF]; exact Sub.refl _ _
end Go.AM

/- CORE IN MEMORY OF ITS OWN (core.own), whatever the core. -/
namespace Go.Proofs.YtmoekkcdkjopgaaGreatDoor
open Go Go.AM
set_option maxRecDepth 20000
mutual
/-- All types of a core are such. -/
def allT (p : Ty → Prop) : Core → Prop
  | .mk _ _ _ t ks bs al => p t ∧ allTs p ks ∧ allTb p bs ∧ allTa p al
def allTs (p : Ty → Prop) : List Core → Prop
  | [] => True
  | c :: l => allT p c ∧ allTs p l
def allTb (p : Ty → Prop) : List Bind → Prop
  | [] => True
  | .mk _ t c :: l => p t ∧ allT p c ∧ allTb p l
def allTa (p : Ty → Prop) : List Alt → Prop
  | [] => True
  | .mk _ _ _ _ c :: l => allT p c ∧ allTa p l
end
theorem allTs_mem {p : Ty → Prop} : ∀ {l : List Core}, allTs p l → ∀ x ∈ l, allT p x
  | c :: l, h, x, hx => by
    rw [allTs] at h
    rcases List.mem_cons.1 hx with rfl | hx
    · exact h.1
    · exact allTs_mem h.2 x hx
theorem allTb_mem {p : Ty → Prop} : ∀ {l : List Bind}, allTb p l → ∀ x ∈ l, p x.ty ∧ allT p x.body
  | .mk _ _ _ :: l, h, x, hx => by
    rw [allTb] at h
    rcases List.mem_cons.1 hx with rfl | hx
    · exact ⟨h.1, h.2.1⟩
    · exact allTb_mem h.2.2 x hx
theorem allTa_mem {p : Ty → Prop} : ∀ {l : List Alt}, allTa p l → ∀ x ∈ l, allT p x.body
  | .mk _ _ _ _ _ :: l, h, x, hx => by
    rw [allTa] at h
    rcases List.mem_cons.1 hx with rfl | hx
    · exact h.1
    · exact allTa_mem h.2 x hx
theorem sameSet {α : Type} : ∀ {l : List α} {j : Nat} {x : α}, l[j]? = some x → l.set j x = l
  | [], _, _, h => by simp at h
  | y :: l, 0, x, h => by simp at h; subst h; rfl
  | y :: l, j + 1, x, h => by
    rw [List.set_cons_succ, sameSet (by simpa using h)]
/-! ### Copies of alternatives, name by name -/
def mixA (al : List Alt) (i : Nat) : List (List R) := altRows 0 (al.take i) ++ (al.drop i).map fun a => (encAlt a).map R.c
theorem altRows_snoc : ∀ {l : List Alt} {k i : Nat} {a : Alt}, l[i]? = some a → altRows k (l.take (i + 1)) = altRows k (l.take i) ++ [encAltR (k + i) a]
  | b :: l, k, 0, a, h => by simp at h; subst h; simp [altRows]
  | b :: l, k, i + 1, a, h => by
    simp only [List.take_succ_cons, altRows, List.cons_append]
    rw [altRows_snoc (l := l) (k := k + 1) (by simpa using h), show k + 1 + i = k + (i + 1) by omega]
theorem fam_snoc : ∀ {l : List Alt} {k i : Nat} {a : Alt}, l[i]? = some a → fam k (l.take (i + 1)) = fam k (l.take i) ++ [(k + i + 800, .arr 9 1 (a.vars.map encS) 0)]
  | b :: l, k, 0, a, h => by simp at h; subst h; simp [fam]
  | b :: l, k, i + 1, a, h => by
    simp only [List.take_succ_cons, fam, List.cons_append]
    rw [fam_snoc (l := l) (k := k + 1) (by simpa using h), show k + 1 + i = k + (i + 1) by omega]
theorem mixA_len {al : List Alt} {i : Nat} : (mixA al i).length = al.length := by unfold mixA; rw [List.length_append, altRows_len, List.length_map, List.length_take, List.length_drop]; omega
theorem mixA_at {al : List Alt} {i : Nat} {a : Alt} (h : al[i]? = some a) : (mixA al i)[i]? = some ((encAlt a).map R.c) := by
  have hlt : i < al.length := (List.getElem?_eq_some_iff.1 h).1
  unfold mixA
  rw [List.getElem?_append_right (by rw [altRows_len, List.length_take]; omega), altRows_len, List.length_take, Nat.min_eq_left (by omega), Nat.sub_self, List.getElem?_map, List.getElem?_drop, Nat.add_zero, h]; rfl
theorem set_mid {α : Type} {l m : List α} {x y : α} {i : Nat} (h : l.length = i) : (l ++ x :: m).set i y = l ++ y :: m := by
  subst h
  rw [List.set_append_right _ _ (Nat.le_refl _), Nat.sub_self]; rfl
theorem drop_at {α : Type} {l : List α} {i : Nat} {a : α} (h : l[i]? = some a) : l.drop i = a :: l.drop (i + 1) := by
  have hlt : i < l.length := (List.getElem?_eq_some_iff.1 h).1
  rw [List.drop_eq_getElem_cons hlt]
  congr 1
  exact (List.getElem?_eq_some_iff.1 h).2
theorem mixA_set {al : List Alt} {i : Nat} {a : Alt} (h : al[i]? = some a) (r : List R) : (mixA al i).set i r = altRows 0 (al.take i) ++ r :: (al.drop (i + 1)).map fun a => (encAlt a).map R.c := by
  have hlt : i < al.length := (List.getElem?_eq_some_iff.1 h).1
  unfold mixA
  rw [drop_at h, List.map_cons]
  exact set_mid (by rw [altRows_len, List.length_take]; omega)
theorem mixA_succ {al : List Alt} {i : Nat} {a : Alt} (h : al[i]? = some a) : mixA al (i + 1) = altRows 0 (al.take i) ++ encAltR i a :: (al.drop (i + 1)).map fun a => (encAlt a).map R.c := by
  unfold mixA
  rw [altRows_snoc h, List.append_assoc, Nat.zero_add]; rfl
theorem mixA_refs {al : List Alt} {i : Nat} : ∀ x ∈ refsR (mixA al i), x ∈ keys (fam 0 (al.take i)) := fun x hx => by
  unfold mixA at hx
  rw [refsR_app] at hx
  rcases List.mem_append.1 hx with hx | hx
  · exact altRows_refs x hx
  · have key : ∀ l : List Alt, refsR (l.map fun a => (encAlt a).map R.c) = [] := by
      intro l
      induction l with
      | nil => rfl
      | cons a l ih =>
        show R.refsL _ ++ refsR _ = []
        rw [ih, List.append_nil]
        unfold encAlt encCore
        simp [R.refsL, R.refs]
    rw [key] at hx; cases hx
/-- The copy takes its own number. -/
def sgm (k : Nat) (j : Nat) : Nat := bif Nat.blt j 800 then j else bif Nat.beq j (k + 800) then 710 else j
theorem sgm_far {k j : Nat} (h : 800 ≤ j) (hk : j ≠ k + 800) : sgm k j = j := by
  unfold sgm
  rw [blt_f h]
  have : Nat.beq j (k + 800) = false := by
    cases hb : Nat.beq j (k + 800) with
    | false => rfl
    | true => exact absurd (Nat.eq_of_beq_eq_true hb) hk
  rw [this]; rfl
theorem sgm_own {k : Nat} : sgm k (k + 800) = 710 := by
  unfold sgm
  rw [blt_f (Nat.le_add_left _ _)]; simp
theorem ren_c {σ : Nat → Nat} : ∀ l : List C, R.renL σ (l.map R.c) = l.map R.c
  | [] => rfl
  | x :: l => by simp only [List.map_cons, R.renL, R.ren, ren_c l]
theorem renR_app {σ : Nat → Nat} : ∀ (a b : List (List R)), renR σ (a ++ b) = renR σ a ++ renR σ b
  | [], _ => rfl
  | r :: a, b => by simp only [List.cons_append, renR, renR_app a b]
theorem ren_encAltR {σ : Nat → Nat} {k : Nat} {a : Alt} : R.renL σ (encAltR k a) = [.c (.int .i64 a.form), .c (.int .i64 a.n), .c (.str a.name), .hs (σ (k + 800)) 0 a.vars.length a.vars.length] ++ (encCore a.body).map R.c := by
  unfold encAltR
  simp only [List.cons_append, List.nil_append, R.renL, R.ren, ren_c]
theorem ren_altRows {i : Nat} : ∀ {l : List Alt} {k : Nat}, k + l.length ≤ i → renR (sgm i) (altRows k l) = altRows k l
  | [], _, _ => rfl
  | a :: l, k, h => by
    simp only [List.length_cons] at h
    simp only [altRows, renR]
    rw [ren_encAltR, sgm_far (Nat.le_add_left _ _) (by omega), ren_altRows (l := l) (k := k + 1) (by omega)]; rfl
theorem ren_plainA {σ : Nat → Nat} : ∀ l : List Alt, renR σ (l.map fun a => (encAlt a).map R.c) = l.map fun a => (encAlt a).map R.c
  | [] => rfl
  | a :: l => by simp only [List.map_cons, renR, ren_c, ren_plainA l]
def rowC (a : Alt) : List R := [.c (.int .i64 a.form), .c (.int .i64 a.n), .c (.str a.name), .hs 710 0 a.vars.length a.vars.length] ++ (encCore a.body).map R.c
theorem ren_mix {al : List Alt} {i : Nat} {a : Alt} (h : al[i]? = some a) : (mixA al i).set i (rowC a) = renR (sgm i) (mixA al (i + 1)) := by
  rw [mixA_set h, mixA_succ h, renR_app]
  have hlt : i < al.length := (List.getElem?_eq_some_iff.1 h).1
  rw [ren_altRows (by rw [List.length_take]; omega)]
  simp only [renR]
  rw [ren_encAltR, sgm_own, ren_plainA]
  rfl
def TyG (t : Ty) : Prop := ImpC Tryz.prog 116 [tyV t] [] (tyV t) []
def oHl (ks : List Core) (bs : List Bind) (al : List Alt) : List (Nat × AObj) := [(701, .arr 73 15 (encBinds bs) 0), (702, .arr 37 10 (encCores ks) 0), (703, .rarr 78 14 (altRows 0 al))]
def OwG (c : Core) : Prop := ImpC Tryz.prog 59 [.pa (encCore c)] [] (.ma (cellsG c.form c.n c.name c.ty c.kids.length c.binds.length c.alts.length)) (oHl c.kids c.binds c.alts ++ fam 0 c.alts)
def OwP (c : Core) : Prop := ImpC Tryz.prog 59 [.pa (encCore c)] [] (.pa (encCore c)) []
theorem c_clone_altsR (al : List Alt) (h : al.length ≤ 100000000000) : ImpC Tryz.prog 122 [.one (.c (.sl 14 (encAlts al)))] [] (.one (.ra 703 0 al.length al.length)) [(703, .rarr 78 14 (mixA al 0))] := by
  have hkA : (encAlts al).length = al.length := by rw [encAlts_map, List.length_map]
  have h1 := (c_clone_alts (encAlts al) (by omega)).toR
  rw [hkA] at h1
  have e : (encAlts al).map (·.map R.c) = mixA al 0 := by
    unfold mixA
    rw [encAlts_map, List.map_map]; rfl
  rwa [e] at h1
theorem mixA_end {al : List Alt} : mixA al al.length = altRows 0 al := by
  unfold mixA
  rw [List.take_length, List.drop_length]; simp
theorem push_tail {st1 : St} {al : List Alt} {i : Nat} {a : Alt} (hai : al[i]? = some a) (hf : FarEq st1.h (fam 0 (al.take i))) (h7 : st1.h 710 = some (.arr 9 1 (a.vars.map encS) 0)) :
    ∀ p ∈ fam 0 (al.take (i + 1)), ∃ o, st1.h (sgm i p.1) = some o ∧ Ole (sgm i) o p.2 := fun p hp => by
  rw [fam_snoc hai, Nat.zero_add] at hp
  rcases List.mem_append.1 hp with hp | hp
  · obtain ⟨j, b, hj, rfl⟩ := fam_mem hp
    have hlt : j < (al.take i).length := (List.getElem?_eq_some_iff.1 hj).1
    rw [List.length_take] at hlt
    refine ⟨_, ?_, .arr⟩
    rw [sgm_far (Nat.le_add_left _ _) (by show 0 + j + 800 ≠ i + 800; omega)]
    exact hf _ hp
  · rw [List.mem_singleton.1 hp]
    exact ⟨_, by rw [sgm_own]; exact h7, .arr⟩
theorem push_nodup {al : List Alt} {i : Nat} {a : Alt} {hl : List (Nat × AObj)} (hai : al[i]? = some a) (h1 : Go.AM.distinct (710 :: hl.map (·.1)) = true) (h2 : (hl.all fun p => Nat.blt p.1 800) = true) : ((hl ++ fam 0 (al.take (i + 1))).map fun p => sgm i p.1).Nodup := by
  have hlt : i < al.length := (List.getElem?_eq_some_iff.1 hai).1
  have e1 : (hl.map fun p => sgm i p.1) = hl.map (·.1) := by
    refine List.map_congr_left fun p hp => ?_
    have := (List.all_eq_true.1 h2) p hp
    unfold sgm
    rw [this]; rfl
  have e2 : ((fam 0 (al.take i)).map fun p => sgm i p.1) = (fam 0 (al.take i)).map (·.1) := by
    refine List.map_congr_left fun p hp => ?_
    obtain ⟨j, b, hj, rfl⟩ := fam_mem hp
    have hl2 : j < (al.take i).length := (List.getElem?_eq_some_iff.1 hj).1
    rw [List.length_take] at hl2
    exact sgm_far (Nat.le_add_left _ _) (by show 0 + j + 800 ≠ i + 800; omega)
  rw [List.map_append, fam_snoc hai, Nat.zero_add, List.map_append, e1, e2]
  have hd := distinct_spec h1
  simp only [List.nodup_cons] at hd
  have hnear : ∀ x ∈ hl.map (·.1), x < 800 := fun x hx => by
    obtain ⟨p, hp, rfl⟩ := List.mem_map.1 hx
    exact Nat.le_of_ble_eq_true ((List.all_eq_true.1 h2) p hp)
  have hfar : ∀ x ∈ (fam 0 (al.take i)).map (·.1), 800 ≤ x := fun x hx => by
    obtain ⟨p, hp, rfl⟩ := List.mem_map.1 hx
    exact fam_tf.far p hp
  show (hl.map (·.1) ++ ((fam 0 (al.take i)).map (·.1) ++ [sgm i (i + 800)])).Nodup
  rw [sgm_own, List.nodup_append, List.nodup_append]
  refine ⟨hd.2, ⟨fam_nodup, by simp, fun x hx y hy e => ?_⟩, fun x hx y hy e => ?_⟩
  · have := hfar x hx
    have : y = 710 := by simpa using hy
    omega
  · subst e
    rcases List.mem_append.1 hy with hy | hy
    · have := hnear x hx
      have := hfar x hy
      omega
    · have : x = 710 := by simpa using hy
      subst this
      exact hd.1 hx
theorem g_at0 {b : Bool} {nk nb na : Nat} {l : List Alt} : (gRowsA b nk nb na l)[0]? = some (g0Row b nk nb) := rfl
theorem g_atA {b : Bool} {nk nb na : Nat} {l : List Alt} {i : Nat} {a : Alt} (h : l[i]? = some a) : (gRowsA b nk nb na l)[i + 1]? = some (alRow na i a) := by
  unfold gRowsA
  rw [List.getElem?_cons_succ, altG_at h, Nat.zero_add]
theorem g_rows2 {b : Bool} {nk nb na : Nat} {l : List Alt} : ∀ r ∈ gRowsA b nk nb na l, r.length = 2 := by
  have key : ∀ (l : List Alt) (k : Nat), ∀ r ∈ altG na k l, r.length = 2 := by
    intro l
    induction l with
    | nil => intro k r hr; simp [altG] at hr
    | cons a l ih =>
      intro k r hr
      rcases List.mem_cons.1 hr with rfl | hr
      · rfl
      · exact ih _ r hr
  intro r hr
  rcases List.mem_cons.1 hr with rfl | hr
  · rfl
  · exact key l 0 r hr
theorem g_len {b : Bool} {nk nb na : Nat} {l : List Alt} : (gRowsA b nk nb na l).length = 1 + l.length := by unfold gRowsA; rw [List.length_cons, altG_len]; omega
theorem rgR_one {f : Nat → List R} {k : Nat} (h : ∀ j, (f j).length = 1) : ∀ r ∈ rgR f k, r.length = 1 := fun r hr => by
  obtain ⟨j, _, rfl⟩ := List.mem_map.1 hr
  exact h j
theorem pR_one {nk nb i : Nat} : ∀ r ∈ pR nk nb i, r.length = 1 := fun r hr => by
  unfold pR at hr
  rcases List.mem_append.1 hr with hr | hr
  · exact rgR_one (fun _ => rfl) r hr
  · exact rgR_one (fun _ => rfl) r hr
theorem rgR_at {f : Nat → List R} {k j : Nat} (h : j < k) : (rgR f k)[j]? = some (f j) := by unfold rgR; rw [List.getElem?_map, List.getElem?_range h]; rfl
theorem pR_at1 {nk nb i j : Nat} (h : j < nk) : (pR nk nb i)[j]? = some [.ep 702 j 0 nk] := by unfold pR; rw [List.getElem?_append_left (by rw [rgR_len]; exact h), rgR_at h]
theorem pR_at2 {nk nb i j : Nat} (h : j < i) : (pR nk nb i)[nk + j]? = some [.ep 701 j 5 nb] := by unfold pR; rw [List.getElem?_append_right (by rw [rgR_len]; omega), rgR_len, Nat.add_sub_cancel_left, rgR_at h]
theorem pR_len {nk nb i : Nat} : (pR nk nb i).length = nk + i := by unfold pR; rw [List.length_append, rgR_len, rgR_len]
theorem c_own_step (c : Core) (ih : ∀ x, csize x < csize c → allT TyG x → OwP x) (hT : allT TyG c) (hsz : csize c ≤ 40000000000) : OwG c := by
  obtain ⟨f, n, s, t, ks, bs, al⟩ := c
  obtain ⟨ihk, ihb, iha, hkl, hbl, hal⟩ := @size_in f n s t ks bs al
  rw [allT] at hT
  obtain ⟨hty, hTk, hTb, hTa⟩ := hT
  have hty : ImpC Tryz.prog 116 [tyV t] [] (tyV t) [] := hty
  have hkK : (encCores ks).length = ks.length := by rw [encCores_map, List.length_map]
  have hkB : (encBinds bs).length = bs.length := by rw [encBinds_map, List.length_map]
  have k2 : ks.length = (encCores ks).length := hkK.symm
  have kb2 : bs.length = (encBinds bs).length := hkB.symm
  have hck := c_clone_cores (encCores ks) (by omega)
  have hcb := c_clone_binds (encBinds bs) (by omega)
  have hca := c_clone_altsR al (by omega)
  rw [hkK] at hck
  rw [hkB] at hcb
  show ImpC Tryz.prog 59 [.pa (encCore (.mk f n s t ks bs al))] [] (.ma (cellsG f n s t ks.length bs.length al.length)) (oHl ks bs al ++ fam 0 al)
  refine impC (n := 85) tok Tryz.func59 rfl rfl rfl ?_
  refine awp_seq (ag [(0, .id 700)] rfl ?_)
  refine awp_seq (ag [(2, .pc (tyV t))] rfl ?_)
  refine awp_seq (awp_rg mixed ?_)
  refine ak 2 [] rfl ?_
  refine kc hck ?_
  refine ak 2 [] rfl ?_
  refine kc hcb ?_
  refine ak 2 [] rfl ?_
  refine kc hca ?_
  refine ak 6 [] rfl ?_
  refine az ?_
  refine awp_seq (awp_seq (ag [] rfl ?_))
  have hbl' : bs.length ≤ 40000000000 := by omega
  have hml : ∀ i, al.length = (mixA al i).length := fun i => mixA_len.symm
  have hml0 := hml 0
  refine awp_block ?_
  have W0 : ∀ i, GW [] (fam 0 (al.take i)) := fun i => ⟨fam_tf, fun x hx => (by cases hx), rfl, rfl⟩
  have hmix : ∀ i, GF [] (fam 0 (al.take i)) (AObj.rarr 78 14 (mixA al i)).refs := fun i x hx => .inr (mixA_refs x hx)
  have hmix0 := hmix 0
  have hF0 : TF (fam 0 (al.take 0)) := fam_tf
  refine awp_loop (fun i : Nat => mkt [(1, .one (.vp 700 0)), (2, .one (.vp 2 0)), (27, I .i64 ((bs.length : Nat) : Int)), (28, I .i64 i)] ([(2, .var 37 zCells), (700, .var 37 (cellsG f n s t ks.length bs.length al.length)), (701, .arr 73 15 (encBinds bs) 0), (702, .arr 37 10 (encCores ks) 0), (703, .rarr 78 14 (mixA al 0))] ++ []) (fam 0 (al.take 0))) (fun i => i ≤ bs.length) (fun i => bs.length - i) 0 (Nat.zero_le _) (slG (W0 0) (fun _ h => by cases h) (fun p hp => by cases hp)) ?_
  · intro i hi
    refine awp_seq (ag [] rfl ?_)
    refine awp_seq (awp_cond rfl (fun hb => ?_) (fun hb => ?_))
    · have hlt : i < bs.length := by
        have : (i : Int) < (bs.length : Int) := of_decide_eq_true hb
        omega
      obtain ⟨b, hbi⟩ := get_of_lt hlt
      have hbi' := encBinds_at hbi
      have hbt : ImpC Tryz.prog 116 [tyV b.ty] [] (tyV b.ty) [] := (allTb_mem hTb b (List.mem_of_getElem? hbi)).1
      have hsame := sameSet hbi'
      refine awp_skip ?_
      refine awp_seq (awp_block (awp_seq (ag [] rfl ?_)))
      refine ag [(8, .row i (encBind b)), (9, .pc (tyV b.ty)), (12, .row i (encBind b))] rfl ?_
      refine ag [] rfl ?_
      refine ⟨i + 1, hlt, by dsimp only; omega, slG (W0 0) (fun _ h => by cases h) (hh := ⟨⟨_, rfl, .var rfl⟩, ⟨_, rfl, .varS rfl⟩, ⟨_, rfl, .arrS hsame⟩, ⟨_, rfl, .arr⟩, ⟨_, rfl, .rarrS rfl⟩, trivial⟩)⟩
    refine awp_exit ?_
    refine awp_seq (awp_seq (ag [] rfl ?_))
    refine awp_block ?_
    refine awp_loop (fun i : Nat => mkt [(1, .one (.vp 700 0)), (2, .one (.vp 2 0)), (46, I .i64 ((al.length : Nat) : Int)), (47, I .i64 i)] ([(2, .var 37 zCells), (700, .var 37 (cellsG f n s t ks.length bs.length al.length)), (701, .arr 73 15 (encBinds bs) 0), (702, .arr 37 10 (encCores ks) 0), (703, .rarr 78 14 (mixA al i))] ++ []) (fam 0 (al.take i))) (fun i => i ≤ al.length) (fun i => al.length - i) 0 (Nat.zero_le _) (slG (W0 0) (fun _ h => by cases h)) ?_
    intro i hi
    have hml := hml i
    have hmi := hmix i
    have hFi : TF (fam 0 (al.take i)) := fam_tf
    refine awp_seq (ag [] rfl ?_)
    refine awp_seq (awp_cond rfl (fun hb => ?_) (fun hb => ?_))
    · have hlt : i < al.length := by
        have : (i : Int) < (al.length : Int) := of_decide_eq_true hb
        omega
      obtain ⟨a, hai⟩ := get_of_lt hlt
      have hrow := mixA_at hai
      have hav := asizes_mem (List.mem_of_getElem? hai)
      have hvl := vsum_le a
      have hvk : (a.vars.map encS).length = a.vars.length := List.length_map _
      have hcl := c_clone_string (a.vars.map encS) (by rw [csize] at hsz; omega)
      rw [hvk] at hcl
      have hmx := hmix (i + 1)
      refine awp_skip ?_
      refine awp_seq (awp_block (awp_seq (ag [] rfl ?_)))
      refine awp_rg mixed ?_
      refine ak 9 [(8, .rr ((encAlt a).map R.c))] rfl ?_
      refine kc hcl ?_
      refine ak 3 [(12, .rr ((encAlt a).map R.c))] rfl ?_
      refine az ?_
      refine ag [] rfl ?_
      refine ⟨i + 1, hlt, by dsimp only; omega, ?_⟩
      dsimp only
      refine Sub.tailT (hl := [(2, .var 37 zCells), (700, .var 37 (cellsG f n s t ks.length bs.length al.length)), (701, .arr 73 15 (encBinds bs) 0), (702, .arr 37 10 (encCores ks) 0), (703, .rarr 78 14 (mixA al (i + 1)))] ++ []) (sgm i) fam_tf ?_ ?_ ?_ ?_ ?_ ?_ ?_ ?_
      · exact ⟨rfl, rfl, rfl, rfl, trivial⟩
      · exact ⟨⟨_, rfl, .var rfl⟩, ⟨_, rfl, .var rfl⟩, ⟨_, rfl, .arr⟩, ⟨_, rfl, .arr⟩, ⟨_, rfl, .rarr (ren_mix hai)⟩, trivial⟩
      · exact push_tail hai (by repeat (first | exact FarEq.raw hFi | (refine FarEq.updL hFi ?_) | (refine FarEq.upd hFi ?_))) rfl
      · rfl
      · exact fun x hx => .inl (subset_spec (show subset _ _ = true from rfl) x hx)
      · exact (W0 (i + 1)).all ⟨Kn.of rfl, Kn.of rfl, Kn.of rfl, Kn.of rfl, Kn.gf hmx, trivial⟩
      · exact push_nodup hai rfl rfl
      · exact fun _ h => by cases h
    refine awp_exit ?_
    have hge : i = al.length := by
      have : ¬ (i : Int) < (al.length : Int) := of_decide_eq_false hb
      omega
    subst hge
    have hF : TF (fam 0 al) := fam_tf
    have W : GW (gHl f n s t ks bs al) (fam 0 al) := gW
    have hgr := c_groupsG (decide (f = 5)) f n s t ks bs al rfl (by omega) (by omega) (by omega) (fun a ha => by
      have hav := asizes_mem ha
      have hvl := vsum_le a
      rw [csize] at hsz; omega)
    have hrows := gf_rows (f := f) (n := n) (s := s) (t := t) (ks := ks) (bs := bs) (al := al) (decide (f = 5)) al.length
    rw [List.take_length] at hrows ⊢
    rw [mixA_end]
    have hgl : (gRowsA (decide (f = 5)) ks.length bs.length al.length al).length = 1 + al.length := g_len
    have hra : gfo f n s t ks bs al (R.refsL (gRowsA (decide (f = 5)) ks.length bs.length al.length al).flatten) := by rw [refsL_flat]; exact hrows
    have hg0 : (gRowsA (decide (f = 5)) ks.length bs.length al.length al)[0]? = some (g0Row (decide (f = 5)) ks.length bs.length) := g_at0
    have hgA : ∀ i a, al[i]? = some a → (gRowsA (decide (f = 5)) ks.length bs.length al.length al)[i + 1]? = some (alRow al.length i a) := fun i a h => g_atA h
    have htk : ∀ k r, (gRowsA (decide (f = 5)) ks.length bs.length al.length al)[k]? = some r → ((gRowsA (decide (f = 5)) ks.length bs.length al.length al).flatten.drop (k * 2)).take 2 = r := take_flat g_rows2
    generalize gRowsA (decide (f = 5)) ks.length bs.length al.length al = G at hgr hgl hra hg0 hgA htk
    generalize decide (f = 5) = b at hg0
    have hal' : al.length = (altRows 0 al).length := altRows_len.symm
    refine awp_seq (awp_seq (awp_rg mixed ?_))
    refine kc hgr ?_ (hin' := AllP.app ⟨rfl, rfl, rfl, rfl, trivial⟩ (FarEq.raw hF).all) (hout' := AllP.of fun p hp => .inl (List.mem_map.2 ⟨p, hp, rfl⟩)) (hok := callOkT hF (fun x hx => .inl (subset_spec (show subset _ _ = true from rfl) x hx)) gHl_refs)
    refine ak 2 [] rfl ?_
    refine az ?_
    refine AWp.sub (Sub.outsT hF) ?_
    refine awp_block ?_
    have hel : ∀ x ∈ R.refsL G.flatten, Kn [(2, .var 37 zCells)] (gHl f n s t ks bs al) (fam 0 al) x := Kn.gf hra
    refine awp_loop (fun g : Nat => mkt [(1, .one (.vp 700 0)), (2, .one (.vp 2 0)), (63, .one (.ras G.length 2 G.flatten)), (64, I .i64 ((G.length : Nat) : Int)), (65, I .i64 g)] ([(2, .var 37 zCells)] ++ gHl f n s t ks bs al) (fam 0 al)) (fun g => g ≤ G.length) (fun g => G.length - g) 0 (Nat.zero_le _) (slG W (fun _ h => by cases h) (FarEq.bif hF (FarEq.outs hF)) (h1 := Kn.app (Kn.of rfl) (Kn.app (Kn.of rfl) (Kn.app hel Kn.nil)))) ?_
    intro g hg
    refine awp_seq (ag [] rfl ?_)
    refine awp_seq (awp_cond rfl (fun hb => ?_) (fun hb => ?_))
    · have hlt : g < G.length := by
        have : (g : Int) < (G.length : Int) := of_decide_eq_true hb
        omega
      refine awp_skip ?_
      cases g with
      | zero =>
        have ht0 := htk 0 _ hg0
        have hpl : (pR ks.length bs.length bs.length).length = ks.length + bs.length := pR_len
        have hpr : gfo f n s t ks bs al (R.refsL (pR ks.length bs.length bs.length).flatten) := by rw [refsL_flat]; exact gf_p _ _ _
        have hpt : ∀ k r, (pR ks.length bs.length bs.length)[k]? = some r → ((pR ks.length bs.length bs.length).flatten.drop (k * 1)).take 1 = r := take_flat pR_one
        have hp1 : ∀ j, j < ks.length → (pR ks.length bs.length bs.length)[j]? = some [.ep 702 j 0 ks.length] := fun j h => pR_at1 h
        have hp2 : ∀ j, j < bs.length → (pR ks.length bs.length bs.length)[ks.length + j]? = some [.ep 701 j 5 bs.length] := fun j h => pR_at2 h
        refine awp_seq (awp_block (awp_seq (ag [(0, .rowR 0 (g0Row b ks.length bs.length))] rfl ?_)))
        refine awp_seq (ag [] rfl ?_)
        refine awp_block ?_
        refine awp_loop (fun j : Nat => mkt [(1, .one (.vp 700 0)), (2, .one (.vp 2 0)), (63, .one (.ras G.length 2 G.flatten)), (64, I .i64 ((G.length : Nat) : Int)), (65, I .i64 (0 : Nat)), (70, .one (.ras (pR ks.length bs.length bs.length).length 1 (pR ks.length bs.length bs.length).flatten)), (71, I .i64 (((pR ks.length bs.length bs.length).length : Nat) : Int)), (72, I .i64 j)] ([(2, .var 37 zCells)] ++ gHl f n s t ks bs al) (fam 0 al)) (fun j => j ≤ (pR ks.length bs.length bs.length).length) (fun j => (pR ks.length bs.length bs.length).length - j) 0 (Nat.zero_le _) (slG W (fun _ h => by cases h) (h1 := Kn.app (Kn.of rfl) (Kn.app (Kn.of rfl) (Kn.app hel (Kn.app Kn.nil (Kn.app Kn.nil (Kn.app (Kn.gf hpr) Kn.nil))))))) ?_
        intro j hj
        refine awp_seq (ag [] rfl ?_)
        refine awp_seq (awp_cond rfl (fun hb => ?_) (fun hb => ?_))
        · have hlt2 : j < (pR ks.length bs.length bs.length).length := by
            have : (j : Int) < ((pR ks.length bs.length bs.length).length : Int) := of_decide_eq_true hb
            omega
          refine awp_skip ?_
          by_cases hjk : j < ks.length
          · obtain ⟨k, hki⟩ := get_of_lt hjk
            have hki' := encCores_at hki
            have hm := List.mem_of_getElem? hki
            have hc : ImpC Tryz.prog 59 [.pa (encCore k)] [] (.pa (encCore k)) [] := ih k (ihk k hm) (allTs_mem hTk k hm)
            have hsame := sameSet hki'
            have ht1 := hpt j _ (hp1 j hjk)
            refine awp_seq (awp_block (awp_seq (ag [(0, .rowR j [.ep 702 j 0 ks.length])] rfl ?_)))
            refine awp_rg mixed ?_
            refine ak 4 [(3, .row j (encCore k))] rfl ?_
            refine kc hc ?_
            refine ak 2 [(6, .row j (encCore k))] rfl ?_
            refine az ?_
            refine ag [] rfl ?_
            exact ⟨j + 1, hlt2, by dsimp only; omega, slG W (fun _ h => by cases h) (h1 := Kn.app (Kn.of rfl) (Kn.app (Kn.of rfl) (Kn.app hel (Kn.app Kn.nil (Kn.app Kn.nil (Kn.app (Kn.gf hpr) Kn.nil)))))) (hh := ⟨⟨_, rfl, .var rfl⟩, ⟨_, rfl, .var rfl⟩, ⟨_, rfl, .arr⟩, ⟨_, rfl, .arrS hsame⟩, ⟨_, rfl, .rarrS rfl⟩, trivial⟩)⟩
          · obtain ⟨j', rfl⟩ : ∃ j', j = ks.length + j' := ⟨j - ks.length, by omega⟩
            have hjb : j' < bs.length := by omega
            obtain ⟨x, hbi⟩ := get_of_lt hjb
            have hbi' := encBinds_at hbi
            have hm := List.mem_of_getElem? hbi
            have hc : ImpC Tryz.prog 59 [.pa (encCore x.body)] [] (.pa (encCore x.body)) [] := ih x.body (ihb x hm) (allTb_mem hTb x hm).2
            have hsame := sameSet hbi'
            have ht1 := hpt (ks.length + j') _ (hp2 j' hjb)
            refine awp_seq (awp_block (awp_seq (ag [(0, .rowR (ks.length + j') [.ep 701 j' 5 bs.length])] rfl ?_)))
            refine awp_rg mixed ?_
            refine ak 4 [(3, .row j' (encBind x))] rfl ?_
            refine kc hc ?_
            refine ak 2 [(6, .row j' (encBind x))] rfl ?_
            refine az ?_
            refine ag [] rfl ?_
            exact ⟨ks.length + j' + 1, hlt2, by dsimp only; omega, slG W (fun _ h => by cases h) (h1 := Kn.app (Kn.of rfl) (Kn.app (Kn.of rfl) (Kn.app hel (Kn.app Kn.nil (Kn.app Kn.nil (Kn.app (Kn.gf hpr) Kn.nil)))))) (hh := ⟨⟨_, rfl, .var rfl⟩, ⟨_, rfl, .var rfl⟩, ⟨_, rfl, .arrS hsame⟩, ⟨_, rfl, .arr⟩, ⟨_, rfl, .rarrS rfl⟩, trivial⟩)⟩
        refine awp_exit ?_
        refine ag [] rfl ?_
        exact ⟨1, by omega, by dsimp only; omega, slG W (fun _ h => by cases h) (h1 := Kn.app (Kn.of rfl) (Kn.app (Kn.of rfl) (Kn.app hel Kn.nil)))⟩
      | succ i =>
        have hia : i < al.length := by omega
        obtain ⟨a, hai⟩ := get_of_lt hia
        have ht0 := htk (i + 1) _ (hgA i a hai)
        have hrow : (altRows 0 al)[i]? = some (encAltR i a) := by rw [altRows_at hai, Nat.zero_add]
        have hm := List.mem_of_getElem? hai
        have hc : ImpC Tryz.prog 59 [.pa (encCore a.body)] [] (.pa (encCore a.body)) [] := ih a.body (iha a hm) (allTa_mem hTa a hm)
        have hsame := sameSet hrow
        refine awp_seq (awp_block (awp_seq (ag [(0, .rowR (i + 1) (alRow al.length i a))] rfl ?_)))
        refine awp_seq (ag [] rfl ?_)
        refine awp_block ?_
        refine awp_loop (fun j : Nat => mkt [(1, .one (.vp 700 0)), (2, .one (.vp 2 0)), (63, .one (.ras G.length 2 G.flatten)), (64, I .i64 ((G.length : Nat) : Int)), (65, I .i64 ((i + 1 : Nat) : Int)), (70, .one (.ras 1 1 [.rp 703 i 4 al.length])), (71, I .i64 ((1 : Nat) : Int)), (72, I .i64 j)] ([(2, .var 37 zCells)] ++ gHl f n s t ks bs al) (fam 0 al)) (fun j => j ≤ 1) (fun j => 1 - j) 0 (Nat.zero_le _) (slG W (fun _ h => by cases h) (h1 := Kn.app (Kn.of rfl) (Kn.app (Kn.of rfl) (Kn.app hel (Kn.of rfl))))) ?_
        intro j hj
        refine awp_seq (ag [] rfl ?_)
        refine awp_seq (awp_cond rfl (fun hb => ?_) (fun hb => ?_))
        · have hj0 : j = 0 := by
            have : (j : Int) < ((1 : Nat) : Int) := of_decide_eq_true hb
            omega
          subst hj0
          refine awp_skip ?_
          refine awp_seq (awp_block (awp_seq (ag [] rfl ?_)))
          refine awp_rg mixed ?_
          refine ak 4 [(3, .rr (encAltR i a))] rfl ?_
          refine kc hc ?_
          refine ak 2 [(6, .rr (encAltR i a))] rfl ?_
          refine az ?_
          refine ag [] rfl ?_
          exact ⟨1, Nat.le_refl _, by dsimp only; omega, slG W (fun _ h => by cases h) (h1 := Kn.app (Kn.of rfl) (Kn.app (Kn.of rfl) (Kn.app hel (Kn.of rfl)))) (hh := ⟨⟨_, rfl, .var rfl⟩, ⟨_, rfl, .var rfl⟩, ⟨_, rfl, .arr⟩, ⟨_, rfl, .arr⟩, ⟨_, rfl, .rarrS hsame⟩, trivial⟩)⟩
        refine awp_exit ?_
        refine ag [] rfl ?_
        exact ⟨i + 1 + 1, by omega, by dsimp only; omega, slG W (fun _ h => by cases h) (h1 := Kn.app (Kn.of rfl) (Kn.app (Kn.of rfl) (Kn.app hel Kn.nil)))⟩
    refine awp_exit ?_
    refine awp_seq (ag [] rfl ?_)
    exact awp_ret ⟨.inr rfl, finT (hl := oHl ks bs al) hF (by repeat (first | exact FarEq.raw hF | (refine FarEq.updL hF ?_) | (refine FarEq.upd hF ?_))) ⟨_, _, .cell rfl (tg rfl) rfl rfl rfl .nil, .cons .refl .nil, rfl⟩ (fun x hx => .inl (subset_spec (show subset _ _ = true from rfl) x hx)) (fun x hx => .inr (altRows_refs x (by simpa [oHl, refsH, AObj.refs] using hx))) (fun _ h => by cases h) (fun _ h => by cases h)⟩
end Go.Proofs.YtmoekkcdkjopgaaGreatDoor

/- CORE IN MEMORY OF ITS OWN becomes plain data. -/
namespace Go.Proofs.YtmoekkcdkjopgaaGreatDoor
open Go Go.AM
set_option maxRecDepth 20000
theorem pure_app {h : Heap} {ids : List Nat} {rs : List R} {cs : List C} (k : PureL h ids rs cs) : ∀ l : List C, PureL h ids (l.map R.c ++ rs) (l ++ cs)
  | [] => k
  | _ :: l => .c .refl (pure_app k l)
theorem pure_rows {h : Heap} : ∀ {al : List Alt} {k : Nat}, FarEq h (frzF (fam k al)) → ∃ ids, PureL h ids (altRows k al).flatten (al.map encAlt).flatten
  | [], _, _ => ⟨[], .nil⟩
  | a :: l, k, hf => by
    obtain ⟨ids, ih⟩ := pure_rows (al := l) (k := k + 1) fun p hp => hf p (List.mem_cons_of_mem _ hp)
    have hh : h (k + 800) = some (.arr 9 1 (a.vars.map encS) 2) := hf (k + 800, .arr 9 1 (a.vars.map encS) 2) List.mem_cons_self
    refine ⟨(k + 800) :: ids, ?_⟩
    have h1 := pure_app ih (encCore a.body)
    simp only [altRows, List.map_cons, List.flatten_cons, encAltR, encAlt, List.append_assoc, List.cons_append, List.nil_append]
    exact .c .refl (.c .refl (.c .refl (.hs hh (List.length_map _).symm (by rw [List.drop_zero, ← List.length_map (f := encS), List.take_length]) h1)))
def cellsZ (f n : Int) (s : Str) (t : Ty) (nk nb : Nat) (al : List Alt) : List R := [.c (.int .i64 f), .c (.int .i64 n), .c (.str s), .c (.int .i64 t.form), .c (.int .i64 t.n), .c (.str t.name), .c (.sl 4 (encArgs t)), .hs 702 0 nk nk, .hs 701 0 nb nb, .ras al.length 14 (altRows 0 al).flatten]
theorem pure_core {h : Heap} {f n : Int} {s : Str} {t : Ty} {ks : List Core} {bs : List Bind} {al : List Alt} (h1 : h 701 = some (.arr 73 15 (encBinds bs) 2)) (h2 : h 702 = some (.arr 37 10 (encCores ks) 2)) (hf : FarEq h (frzF (fam 0 al))) :
    ∃ ids, PureL h ids (cellsZ f n s t ks.length bs.length al) (encCore (.mk f n s t ks bs al)) := by
  obtain ⟨ids, hp⟩ := pure_rows hf
  have hkK : (encCores ks).length = ks.length := by rw [encCores_map, List.length_map]
  have hkB : (encBinds bs).length = bs.length := by rw [encBinds_map, List.length_map]
  refine ⟨702 :: 701 :: (ids ++ []), ?_⟩
  refine .c .refl (.c .refl (.c .refl (.c .refl (.c .refl (.c .refl (.c .refl (.hs h2 hkK.symm ?_ (.hs h1 hkB.symm ?_ (.ras rfl hp ?_ ?_ ?_ .nil)))))))))
  · rw [List.drop_zero, ← hkK, List.take_length]; rfl
  · rw [List.drop_zero, ← hkB, List.take_length]; rfl
  · show _ = (encAlts al).flatten
    rw [encAlts_map]
  · intro r hr
    have hr : r ∈ encAlts al := hr
    rw [encAlts_map] at hr
    obtain ⟨a, _, rfl⟩ := List.mem_map.1 hr
    rfl
  · show (encAlts al).length = _
    rw [encAlts_map, List.length_map]
theorem altRows_not703 {al : List Alt} : 703 ∉ refsR (altRows 0 al) := fun h => by
  obtain ⟨p, hp, e⟩ := List.mem_map.1 (altRows_refs 703 h)
  have := fam_tf.far p hp
  omega
/-- The frozen objects, with an array of references that is no more one. -/
theorem sub_freeze {kf : List Nat} {el : List (Nat × V)} {ex : List (Nat × AObj)} {ks : List Core} {bs : List Bind} {al : List Alt} (h703 : 703 ∉ kf)
    (hel : ∀ x ∈ refsE el, Kn (oHl ks bs al) ex (fam 0 al) x) (hex : AllP (fun q => ∀ x ∈ q.2.refs, Kn (oHl ks bs al) ex (fam 0 al) x) ex)
    (hkf : ∀ i ∈ kf, i ∈ keys (oHl ks bs al ++ ex) ∨ i ∈ keys (fam 0 al)) (hd : Go.AM.distinct ((oHl ks bs al ++ ex).map (·.1)) = true) (hn : (ex.all fun p => Nat.blt p.1 800) = true) (hnd : (el.map (·.1)).Nodup) (hlv : ∀ p ∈ ex, p.2.live = true) :
    Sub kf (mkt (fzE 703 (.ra al.length 14 (altRows 0 al).flatten) el) (fzH 703 (.ra al.length 14 (altRows 0 al).flatten) ([(701, .arr 73 15 (encBinds bs) 2), (702, .arr 37 10 (encCores ks) 2)] ++ ex)) (frzF (fam 0 al))) (mkt el (oHl ks bs al ++ ex) (fam 0 al)) := by
  have hF : TF (fam 0 al) := fam_tf
  have hn' : ((oHl ks bs al ++ ex).all fun p => Nat.blt p.1 800) = true := by rw [List.all_append, hn]; rfl
  -- the two arrays
  have e1 : Sub kf (mkt el ([(703, .rarr 78 14 (altRows 0 al)), (701, .arr 73 15 (encBinds bs) 2), (702, .arr 37 10 (encCores ks) 2)] ++ ex) (fam 0 al)) (mkt el (oHl ks bs al ++ ex) (fam 0 al)) := by
    refine Sub.trans ?_ (Sub.freeze (id := 701) (te := 73) (es := 15) (elems := encBinds bs) (fz := 0) rfl)
    refine Sub.trans ?_ (Sub.freeze (id := 702) (te := 37) (es := 10) (elems := encCores ks) (fz := 0) rfl)
    have hmem : ∀ p ∈ ex, 703 ≠ p.1 ∧ 701 ≠ p.1 ∧ 702 ≠ p.1 := fun p hp => by
      have hd' := distinct_spec hd
      simp only [oHl, List.cons_append, List.nil_append, List.map_cons, List.nodup_cons, List.mem_cons, not_or] at hd'
      have hm : p.1 ∈ ex.map (·.1) := List.mem_map.2 ⟨p, hp, rfl⟩
      exact ⟨fun e => hd'.2.2.1 (e ▸ hm), fun e => hd'.1.2.2 (e ▸ hm), fun e => hd'.2.1.2 (e ▸ hm)⟩
    have hexn : (ex.map (·.1)).Nodup := by
      have hd' := distinct_spec hd
      simp only [oHl, List.cons_append, List.nil_append, List.map_cons, List.nodup_cons] at hd'
      exact hd'.2.2.2
    have hg : ∀ x ∈ refsH (oHl ks bs al ++ ex), x ∈ keys (oHl ks bs al ++ ex) ∨ x ∈ keys (fam 0 al) := fun x hx => by
      rw [refsH_app] at hx
      rcases List.mem_append.1 hx with hx | hx
      · exact .inr (altRows_refs x (by simpa [oHl, refsH, AObj.refs] using hx))
      · rcases refsH_all hex x hx with h | h | h
        · exact .inl (keys_app.2 (.inl h))
        · exact .inl (keys_app.2 (.inr h))
        · exact .inr h
    have hkk : ∀ x, x ∈ keys (oHl ks bs al ++ ex) → x ∈ keys ([(703, AObj.rarr 78 14 (altRows 0 al)), (701, .arr 73 15 (encBinds bs) 2), (702, .arr 37 10 (encCores ks) 2)] ++ ex) := fun x hx => by
      simp only [oHl, keys, List.cons_append, List.nil_append, List.map_cons, List.mem_cons] at hx ⊢
      rcases hx with h | h | h | h
      · exact .inr (.inl h)
      · exact .inr (.inr (.inl h))
      · exact .inl h
      · exact .inr (.inr (.inr h))
    refine slT hF (FarEq.upd hF (FarEq.upd hF (FarEq.mkt hF hn'))) (fun x hx => ?_) (fun x hx => ?_) (fun i hi => (hkf i hi).imp (hkk i) id) (he := AllP.of fun p hp => ?_) (hh := ⟨⟨_, rfl, .rarrS rfl⟩, ⟨_, rfl, .arr⟩, ⟨_, rfl, .arr⟩, AllP.of fun p hp => ?_⟩) (h3 := ?_) (h3' := ?_)
    · rcases hel x hx with h | h | h
      · exact .inl (hkk x (keys_app.2 (.inl h)))
      · exact .inl (hkk x (keys_app.2 (.inr h)))
      · exact .inr h
    · refine (hg x ?_).imp (hkk x) id
      rw [refsH_app] at hx ⊢
      rcases List.mem_append.1 hx with hx | hx
      · exact List.mem_append.2 (.inl (by simpa [oHl, refsH, AObj.refs] using hx))
      · exact List.mem_append.2 (.inr hx)
    · rw [V.ren_id]
      exact look_in hnd p hp
    · obtain ⟨m1, m2, m3⟩ := hmem p hp
      refine ⟨p.2, ?_, .refl_id (by intro e; have := hlv p hp; rw [e] at this; cases this)⟩
      dsimp only
      rw [upd_ne _ _ _ (Ne.symm m3), upd_ne _ _ _ (Ne.symm m2)]
      have hl : Go.AM.look (oHl ks bs al ++ ex) p.1 = some p.2 := look_in (distinct_spec hd) p (List.mem_append.2 (.inr hp))
      show (match Go.AM.look (oHl ks bs al ++ ex) p.1 with | some x => some x | none => _) = _
      rw [hl]
    · refine distinct_of ?_
      simp only [List.cons_append, List.nil_append, List.map_cons, List.nodup_cons, List.mem_cons, not_or]
      refine ⟨⟨by decide, by decide, fun h => ?_⟩, ⟨by decide, fun h => ?_⟩, fun h => ?_, hexn⟩
      all_goals
        obtain ⟨p, hp, e⟩ := List.mem_map.1 h
        have := hmem p hp
        omega
    · rw [List.all_append, hn]; rfl
  have hnd3 : Go.AM.distinct (703 :: List.map (fun p : Nat × AObj => p.1) ([(701, AObj.arr 73 15 (encBinds bs) 2), (702, .arr 37 10 (encCores ks) 2)] ++ ex)) = true := by
    have hd' := distinct_spec hd
    simp only [oHl, List.cons_append, List.nil_append, List.map_cons, List.nodup_cons, List.mem_cons, not_or] at hd'
    refine distinct_of ?_
    simp only [List.cons_append, List.nil_append, List.map_cons, List.nodup_cons, List.mem_cons, not_or]
    exact ⟨⟨by decide, by decide, hd'.2.2.1⟩, ⟨by decide, hd'.1.2.2⟩, hd'.2.1.2, hd'.2.2.2⟩
  have e2 := Sub.fzAll (kf := kf) (el := el) (hl := [(703, .rarr 78 14 (altRows 0 al)), (701, .arr 73 15 (encBinds bs) 2), (702, .arr 37 10 (encCores ks) 2)] ++ ex) hF (by rw [List.all_append, hn]; rfl)
  have e3 := Sub.fraT (kf := kf) (el := el) (id := 703) (te := 78) (es := 14) (rows := altRows 0 al) (rest := [(701, .arr 73 15 (encBinds bs) 2), (702, .arr 37 10 (encCores ks) 2)] ++ ex) hF.frz h703 altRows_not703 rfl hnd3
  rw [altRows_len] at e3
  exact Sub.trans e3 (Sub.trans e2 e1)
theorem own_plain {c : Core} (h : OwG c) : OwP c := by
  obtain ⟨f, n, s, t, ks, bs, al⟩ := c
  refine ImpC.sub h ?_
  have hF : TF (fam 0 al) := fam_tf
  show Sub [] _ (mk [(0, .ma (cellsG f n s t ks.length bs.length al.length))] (oHl ks bs al ++ fam 0 al))
  rw [← mkt_eq hF]
  have h1 := sub_freeze (kf := []) (el := [(0, .ma (cellsG f n s t ks.length bs.length al.length))]) (ex := []) (ks := ks) (bs := bs) (al := al) (by simp) (Kn.of rfl) trivial (fun _ h => by cases h) rfl rfl (by simp) (fun _ h => by cases h)
  rw [List.append_nil] at h1
  refine Sub.trans ?_ h1
  have e1 : fzE 703 (.ra al.length 14 (altRows 0 al).flatten) [(0, .ma (cellsG f n s t ks.length bs.length al.length))] = [(0, .ma (cellsZ f n s t ks.length bs.length al))] := by
    unfold cellsG cellsZ
    simp only [fzE, V.fz, R.fzL, R.fz, Nat.beq_refl, if_true, Bool.and_self]
  rw [e1]
  have hF2 : TF (frzF (fam 0 al)) := hF.frz
  obtain ⟨ids, hp⟩ := pure_core (h := (mkt [(0, V.ma (cellsZ f n s t ks.length bs.length al))] (fzH 703 (.ra al.length 14 (altRows 0 al).flatten) ([(701, .arr 73 15 (encBinds bs) 2), (702, .arr 37 10 (encCores ks) 2)] ++ [])) (frzF (fam 0 al))).h) (f := f) (n := n) (s := s) (t := t) (ks := ks) (bs := bs) (al := al) rfl rfl (FarEq.mkt hF2 rfl)
  refine Sub.trans ?_ (Sub.conv (t := 0) (v := .ma (cellsZ f n s t ks.length bs.length al)) (v' := .pa (encCore (.mk f n s t ks bs al))) rfl (.agg hp))
  exact sl
theorem c_ownP : ∀ (n : Nat) (c : Core), csize c ≤ n → n ≤ 40000000000 → allT TyG c → OwP c
  | 0, c, h, _, _ => by have := csize_pos c; omega
  | n + 1, c, h, hn, hT => own_plain (c_own_step c (fun x hx hx' => c_ownP n x (by omega) (by omega) hx') hT (by omega))
theorem c_ownG (c : Core) (h : csize c ≤ 40000000000) (hT : allT TyG c) : OwG c := c_own_step c (fun x hx hx' => c_ownP (csize x) x (Nat.le_refl _) (by omega) hx') hT h
end Go.Proofs.YtmoekkcdkjopgaaGreatDoor

/- THE PARTS of core, and its names, as groups (core.groups), to be read: of any core that stays. -/
namespace Go.Proofs.YtmoekkcdkjopgaaGreatDoor
open Go Go.AM
set_option maxRecDepth 20000
def nm0 (c : Core) : List (List C) := if c.form = 5 then [[.pt ((encCore c).drop 2)]] else []
def bnRow (b : Bind) : List C := [.pt ((encBind b).drop 0)]
def bpRow (b : Bind) : List C := [.pt ((encBind b).drop 5)]
def kpRow (k : Core) : List C := [.pt (encCore k)]
def vnRow (v : Str) : List C := [.pt (encS v)]
def agRow (a : Alt) : List C := [.sl 1 (a.vars.map vnRow), .sl 1 [[.pt ((encAlt a).drop 4)]]]
def grRow (c : Core) : List C := [.sl 1 (nm0 c ++ c.binds.map bnRow), .sl 1 (c.kids.map kpRow ++ c.binds.map bpRow)]
def encGroups (c : Core) : List (List C) := grRow c :: c.alts.map agRow
theorem take_snoc {α : Type} (f : α → List C) (w : List (List C)) {l : List α} {i : Nat} {x : α} (h : l[i]? = some x) : w ++ (l.take i).map f ++ [f x] = w ++ (l.take (i + 1)).map f := by
  rw [take_step h, List.map_append, List.append_assoc]; rfl
theorem c_groupsP (c : Core) (hsz : csize c ≤ 40000000000) : ImpC Tryz.prog 66 [.one (.c (.pt (encCore c)))] [] (.one (.c (.sl 2 (encGroups c)))) [] := by
  obtain ⟨f, n, s, t, ks, bs, al⟩ := c
  obtain ⟨ihk, ihb, iha, hkl, hbl, hal⟩ := @size_in f n s t ks bs al
  have hkB : (encBinds bs).length = bs.length := by rw [encBinds_map, List.length_map]
  have hkK : (encCores ks).length = ks.length := by rw [encCores_map, List.length_map]
  have hkA : (encAlts al).length = al.length := by rw [encAlts_map, List.length_map]
  have hW : (nm0 (.mk f n s t ks bs al)).length ≤ 1 := by unfold nm0; split <;> simp
  have hW5 : nm0 (.mk f n s t ks bs al) = if f = 5 then [[.pt ((encCore (.mk f n s t ks bs al)).drop 2)]] else [] := rfl
  have hEG : encGroups (.mk f n s t ks bs al) = [.sl 1 (nm0 (.mk f n s t ks bs al) ++ bs.map bnRow), .sl 1 (ks.map kpRow ++ bs.map bpRow)] :: al.map agRow := rfl
  rw [hEG]
  generalize nm0 (.mk f n s t ks bs al) = W at hW hW5 ⊢
  refine impC (n := 123) tok Tryz.func66 rfl rfl rfl ?_
  refine awp_seq (ag [] rfl ?_)
  refine awp_seq (ag [] rfl ?_)
  refine AWp.sub (Sub.ownCell (x := 3) (k := 1) (id := 712) 116 1 rfl rfl rfl) (AWp.sub (Sub.ownCell (x := 3) (k := 0) (id := 711) 167 1 rfl rfl rfl) ?_)
  refine awp_seq (awp_seq (ag [] rfl ?_))
  refine awp_block ?_
  refine awp_loop (fun i : Nat => mk [(0, .one (.c (.pt (encCore (.mk f n s t ks bs al))))), (3, .one (.vp 3 0)), (16, I .i64 ((encCores ks).length : Int)), (17, I .i64 i)] [(3, .var 125 [.hs 711 0 0 0, .hs 712 0 i i]), (711, .arr 167 1 [] 0), (712, .arr 116 1 ((ks.take i).map kpRow) 0)]) (fun i => i ≤ ks.length) (fun i => ks.length - i) 0 (Nat.zero_le _) sl ?_
  intro i hi
  refine awp_seq (ag [] rfl ?_)
  refine awp_seq (awp_cond rfl (fun hb => ?_) (fun hb => ?_))
  · have hlt := ltD hb hkK
    obtain ⟨k, hki⟩ := get_of_lt hlt
    have hki' := encCores_at hki
    have hrows := take_map1 kpRow hki
    refine awp_skip ?_
    refine awp_seq (awp_block (awp_seq (ag [] rfl ?_)))
    refine ag [(7, .row i (encCore k))] rfl ?_
    refine ag [] rfl ?_
    exact ⟨i + 1, hlt, by dsimp only; omega, sl⟩
  have hge := geD hb hkK hi
  subst hge
  rw [List.take_length]
  refine awp_exit ?_
  refine awp_seq (AWp.cut (mk [(0, .one (.c (.pt (encCore (.mk f n s t ks bs al))))), (3, .one (.vp 3 0))] [(3, .var 125 [.hs 711 0 W.length W.length, .hs 712 0 ks.length ks.length]), (711, .arr 167 1 W 0), (712, .arr 116 1 (ks.map kpRow) 0)]) ?_ ?_)
  · refine awp_seq (ag [] rfl ?_)
    refine awp_cond rfl (fun hb => ?_) (fun hb => ?_)
    · have h5 : f = 5 := of_decide_eq_true hb
      rw [if_pos h5] at hW5
      subst hW5
      exact ag [] rfl sl
    · have h5 : ¬ f = 5 := of_decide_eq_false hb
      rw [if_neg h5] at hW5
      subst hW5
      exact awp_skip sl
  clear hW5
  refine awp_seq (awp_seq (ag [] rfl ?_))
  refine awp_block ?_
  refine awp_loop (fun i : Nat => mk [(0, .one (.c (.pt (encCore (.mk f n s t ks bs al))))), (3, .one (.vp 3 0)), (49, I .i64 ((encBinds bs).length : Int)), (50, I .i64 i)] [(3, .var 125 [.hs 711 0 (W.length + i) (W.length + i), .hs 712 0 (ks.length + i) (ks.length + i)]), (711, .arr 167 1 (W ++ (bs.take i).map bnRow) 0), (712, .arr 116 1 (ks.map kpRow ++ (bs.take i).map bpRow) 0)]) (fun i => i ≤ bs.length) (fun i => bs.length - i) 0 (Nat.zero_le _) sl ?_
  intro i hi
  refine awp_seq (ag [] rfl ?_)
  refine awp_seq (awp_cond rfl (fun hb => ?_) (fun hb => ?_))
  · have hlt := ltD hb hkB
    obtain ⟨b, hbi⟩ := get_of_lt hlt
    have hbi' := encBinds_at hbi
    have hr1 := take_snoc bnRow W hbi
    have hr2 := take_snoc bpRow (ks.map kpRow) hbi
    refine awp_skip ?_
    refine awp_seq (awp_block (awp_seq (ag [] rfl ?_)))
    refine awp_seq (ag [(5, .row i (encBind b))] rfl ?_)
    refine ag [] rfl ?_
    refine ag [] rfl ?_
    exact ⟨i + 1, hlt, by dsimp only; omega, sl⟩
  have hge := geD hb hkB hi
  subst hge
  rw [List.take_length]
  have hl1 : (W ++ bs.map bnRow).length = W.length + bs.length := by simp
  have hl2 : (ks.map kpRow ++ bs.map bpRow).length = ks.length + bs.length := by simp
  rw [← hl1, ← hl2]
  generalize W ++ bs.map bnRow = N0
  generalize ks.map kpRow ++ bs.map bpRow = P0
  refine awp_exit ?_
  refine AWp.sub (Sub.freeze (id := 711) rfl) (AWp.sub (Sub.freeze (id := 712) rfl) (AWp.sub (vp 3 [.sl 1 N0, .sl 1 P0]) ?_))
  refine awp_seq (ag [(1, .id 500)] rfl ?_)
  refine awp_seq (awp_seq (ag [] rfl ?_))
  refine awp_block ?_
  refine awp_loop (fun i : Nat => mk [(0, .one (.c (.pt (encCore (.mk f n s t ks bs al))))), (7, .one (.hs 500 0 (1 + i) (1 + i))), (82, I .i64 ((encAlts al).length : Int)), (83, I .i64 i)] [(500, .arr 125 2 ([[.sl 1 N0, .sl 1 P0]] ++ (al.take i).map agRow) 0)]) (fun i => i ≤ al.length) (fun i => al.length - i) 0 (Nat.zero_le _) sl ?_
  intro i hi
  refine awp_seq (ag [] rfl ?_)
  refine awp_seq (awp_cond rfl (fun hb => ?_) (fun hb => ?_))
  · have hlt := ltD hb hkA
    obtain ⟨a, hai⟩ := get_of_lt hlt
    have hai' := encAlts_at hai
    have hav := asizes_mem (List.mem_of_getElem? hai)
    have hvl := vsum_le a
    have hrows := take_snoc agRow [[.sl 1 N0, .sl 1 P0]] hai
    have hvk : (a.vars.map encS).length = a.vars.length := List.length_map _
    have hgl : (([[.sl 1 N0, .sl 1 P0]] : List (List C)) ++ (al.take i).map agRow).length = 1 + i := by
      rw [List.length_append, List.length_map, List.length_take]
      show 1 + min i al.length = _
      omega
    have hall : al.length ≤ 40000000000 := by omega
    generalize ([[.sl 1 N0, .sl 1 P0]] : List (List C)) ++ (al.take i).map agRow = G at hgl hrows ⊢
    rw [csize] at hsz
    refine awp_skip ?_
    refine awp_seq (awp_block (awp_seq (ag [] rfl ?_)))
    refine awp_seq (ag [(5, .row i (encAlt a))] rfl ?_)
    refine awp_seq (ag [(3, .all)] rfl ?_)
    refine AWp.sub (Sub.ownCell (x := 10) (k := 0) (id := 721) 167 1 rfl rfl rfl) ?_
    refine awp_seq (awp_seq (ag [] rfl ?_))
    refine awp_block ?_
    refine awp_loop (fun j : Nat => mk [(0, .one (.c (.pt (encCore (.mk f n s t ks bs al))))), (7, .one (.hs 500 0 (1 + i) (1 + i))), (9, .one (.c (.pt (encAlt a)))), (10, .one (.vp 10 0)), (82, I .i64 ((encAlts al).length : Int)), (83, I .i64 i), (101, I .i64 ((a.vars.map encS).length : Int)), (102, I .i64 j)] [(500, .arr 125 2 G 0), (10, .var 125 [.hs 721 0 j j, .c (.sl 1 [[.pt ((encAlt a).drop 4)]])]), (721, .arr 167 1 ((a.vars.take j).map vnRow) 0)]) (fun j => j ≤ a.vars.length) (fun j => a.vars.length - j) 0 (Nat.zero_le _) sl ?_
    intro j hj
    refine awp_seq (ag [] rfl ?_)
    refine awp_seq (awp_cond rfl (fun hb => ?_) (fun hb => ?_))
    · have hlt2 := ltD hb hvk
      obtain ⟨v, hv⟩ := get_of_lt hlt2
      have hv' := getEnc encS hv
      have hr3 := take_map1 vnRow hv
      refine awp_skip ?_
      refine awp_seq (awp_block (awp_seq (ag [] rfl ?_)))
      refine ag [(7, .row j (encS v))] rfl ?_
      refine ag [] rfl ?_
      exact ⟨j + 1, hlt2, by dsimp only; omega, sl⟩
    have hge2 := geD hb hvk hj
    subst hge2
    rw [List.take_length]
    have hlv : a.vars.length = (a.vars.map vnRow).length := (List.length_map _).symm
    refine awp_exit ?_
    refine AWp.sub (Sub.freeze (id := 721) rfl) (AWp.sub (vp 10 (agRow a)) ?_)
    refine ag [(2, .all)] rfl ?_
    refine ag [] rfl ?_
    exact ⟨i + 1, hlt, by dsimp only; omega, sl⟩
  have hge := geD hb hkA hi
  subst hge
  rw [List.take_length]
  refine awp_exit ?_
  refine awp_seq (ag [] rfl ?_)
  refine AWp.sub (Sub.freeze (id := 500) rfl) ?_
  exact awp_ret (rtT (hc := hs_all rfl rfl (by simp; omega) rfl))
end Go.Proofs.YtmoekkcdkjopgaaGreatDoor

/- HOW MANY NODES (core.Size): the walk. -/
namespace Go.Proofs.YtmoekkcdkjopgaaGreatDoor
open Go Go.AM
set_option maxRecDepth 20000
/-- The groups of core: pointers to names, and the parts. -/
def gl (c : Core) : List (List (List C) × List Core) := (nm0 c ++ c.binds.map bnRow, c.kids ++ c.binds.map Bind.body) :: c.alts.map fun a => (a.vars.map vnRow, [a.body])
def glRow (g : List (List C) × List Core) : List C := [.sl 1 g.1, .sl 1 (g.2.map kpRow)]
theorem encGroups_eq (c : Core) : encGroups c = (gl c).map glRow := by
  obtain ⟨f, n, s, t, ks, bs, al⟩ := c
  unfold encGroups gl
  rw [List.map_cons, List.map_map]
  congr 1
  unfold grRow glRow
  rw [List.map_append, List.map_map]
  rfl
mutual
def sizeR : Core → Nat
  | .mk _ _ _ _ ks bs al => 1 + (sizeCs ks + (sizeBs bs + sizeAs al))
def sizeCs : List Core → Nat
  | [] => 0
  | c :: l => sizeR c + sizeCs l
def sizeBs : List Bind → Nat
  | [] => 0
  | .mk _ _ c :: l => sizeR c + sizeBs l
def sizeAs : List Alt → Nat
  | [] => 0
  | .mk _ _ _ _ c :: l => sizeR c + sizeAs l
end
theorem sizeCs_app : ∀ a b, sizeCs (a ++ b) = sizeCs a + sizeCs b
  | [], b => by rw [List.nil_append, sizeCs, Nat.zero_add]
  | x :: a, b => by rw [List.cons_append, sizeCs, sizeCs, sizeCs_app a b, Nat.add_assoc]
theorem sizeBs_map : ∀ l : List Bind, sizeCs (l.map Bind.body) = sizeBs l
  | [] => by rw [List.map_nil, sizeCs, sizeBs]
  | .mk s t c :: l => by rw [List.map_cons, sizeCs, sizeBs, sizeBs_map l]; rfl
def gsum : List (List (List C) × List Core) → Nat
  | [] => 0
  | g :: l => sizeCs g.2 + gsum l
theorem gsum_alts : ∀ l : List Alt, gsum (l.map fun a => (a.vars.map vnRow, [a.body])) = sizeAs l
  | [] => by rw [List.map_nil, gsum, sizeAs]
  | .mk f n s v c :: l => by rw [List.map_cons, gsum, sizeAs, gsum_alts l, sizeCs, sizeCs]; rfl
theorem size_gl (c : Core) : sizeR c = 1 + gsum (gl c) := by
  obtain ⟨f, n, s, t, ks, bs, al⟩ := c
  unfold gl
  rw [gsum, sizeR]
  show _ = 1 + (sizeCs (ks ++ bs.map Bind.body) + gsum (al.map fun a => (a.vars.map vnRow, [a.body])))
  rw [sizeCs_app, sizeBs_map, gsum_alts]
  omega
mutual
theorem size_le : ∀ c : Core, sizeR c ≤ csize c
  | .mk f n s t ks bs al => by rw [sizeR, csize]; have := size_leC ks; have := size_leB bs; have := size_leA al; omega
theorem size_leC : ∀ l : List Core, sizeCs l ≤ csizes l
  | [] => by rw [sizeCs]; exact Nat.zero_le _
  | c :: l => by rw [sizeCs, csizes]; have := size_le c; have := size_leC l; omega
theorem size_leB : ∀ l : List Bind, sizeBs l ≤ bsizes l
  | [] => by rw [sizeBs]; exact Nat.zero_le _
  | .mk s t c :: l => by rw [sizeBs, bsizes, bsize]; have := size_le c; have := size_leB l; omega
theorem size_leA : ∀ l : List Alt, sizeAs l ≤ asizes l
  | [] => by rw [sizeAs]; exact Nat.zero_le _
  | .mk f n s v c :: l => by rw [sizeAs, asizes, asize]; have := size_le c; have := size_leA l; omega
end
theorem gl_in {c : Core} {g : List (List C) × List Core} (h : g ∈ gl c) {x : Core} (hx : x ∈ g.2) : csize x < csize c := by
  obtain ⟨f, n, s, t, ks, bs, al⟩ := c
  obtain ⟨ihk, ihb, iha, hkl, hbl, hal⟩ := @size_in f n s t ks bs al
  unfold gl at h
  rcases List.mem_cons.1 h with rfl | h
  · rcases List.mem_append.1 hx with hx | hx
    · exact ihk x hx
    · obtain ⟨b, hb, rfl⟩ := List.mem_map.1 hx
      exact ihb b hb
  · obtain ⟨a, ha, rfl⟩ := List.mem_map.1 h
    rw [List.mem_singleton.1 hx]
    exact iha a ha
theorem gl_len (c : Core) : (gl c).length ≤ csize c ∧ ∀ g ∈ gl c, g.2.length ≤ csize c ∧ g.1.length ≤ csize c := by
  obtain ⟨f, n, s, t, ks, bs, al⟩ := c
  have h1 := csizes_len ks
  have h2 := bsizes_len bs
  have h3 := asizes_len al
  have hW : (nm0 (.mk f n s t ks bs al)).length ≤ 1 := by unfold nm0; split <;> simp
  rw [csize]
  unfold gl
  refine ⟨?_, fun g hg => ?_⟩
  · rw [List.length_cons, List.length_map]
    show al.length + 1 ≤ _
    omega
  · rcases List.mem_cons.1 hg with rfl | hg
    · rw [List.length_append, List.length_append, List.length_map, List.length_map]
      show ks.length + bs.length ≤ _ ∧ _ + bs.length ≤ _
      omega
    · obtain ⟨a, ha, rfl⟩ := List.mem_map.1 hg
      have h4 := asizes_mem (show a ∈ al from ha)
      have h5 := vsum_le a
      have h6 : 1 ≤ asize a := by obtain ⟨f, n, s, v, c⟩ := a; rw [asize]; omega
      show [a.body].length ≤ _ ∧ (a.vars.map vnRow).length ≤ _
      rw [List.length_map, List.length_singleton]
      omega
theorem gsum_take {l : List (List (List C) × List Core)} {i : Nat} {g : List (List C) × List Core} (h : l[i]? = some g) : gsum (l.take (i + 1)) = gsum (l.take i) + sizeCs g.2 := by
  have app : ∀ a b, gsum (a ++ b) = gsum a + gsum b := by
    intro a b
    induction a with
    | nil => rw [List.nil_append, gsum, Nat.zero_add]
    | cons x a ih => rw [List.cons_append, gsum, gsum, ih, Nat.add_assoc]
  rw [take_step h, app, gsum, gsum, Nat.add_zero]
theorem sizeCs_take {l : List Core} {i : Nat} {x : Core} (h : l[i]? = some x) : sizeCs (l.take (i + 1)) = sizeCs (l.take i) + sizeR x := by
  rw [take_step h, sizeCs_app, sizeCs, sizeCs, Nat.add_zero]
theorem gsum_le (l : List (List (List C) × List Core)) (i : Nat) : gsum (l.take i) ≤ gsum l := by
  induction l generalizing i with
  | nil => simp
  | cons g l ih =>
    cases i with
    | zero => simp [gsum]
    | succ i => rw [List.take_succ_cons, gsum, gsum]; have := ih i; omega
theorem sizeCs_le (l : List Core) (i : Nat) : sizeCs (l.take i) ≤ sizeCs l := by
  induction l generalizing i with
  | nil => simp
  | cons g l ih =>
    cases i with
    | zero => simp [sizeCs]
    | succ i => rw [List.take_succ_cons, sizeCs, sizeCs]; have := ih i; omega
def SzSpec (c : Core) : Prop := csize c ≤ 40000000000 → ImpC Tryz.prog 79 [.pa (encCore c)] [] (I .i64 (sizeR c : Nat)) []
theorem c_size_step (c : Core) (ih : ∀ x, csize x < csize c → SzSpec x) : SzSpec c := by
  intro hsz
  have hgr := c_groupsP c hsz
  have hsi := size_gl c
  have hsl := size_le c
  have hin := fun {g} (h : g ∈ gl c) {x} hx => @gl_in c g h x hx
  obtain ⟨hgl, hgm⟩ := gl_len c
  rw [encGroups_eq] at hgr
  rw [hsi] at hsl ⊢
  generalize gl c = L at hgr hsi hsl hin hgl hgm ⊢
  have hkL : (L.map glRow).length = L.length := List.length_map _
  refine impC (n := 30) tok Tryz.func79 rfl rfl rfl ?_
  refine awp_seq (ag [] rfl ?_)
  refine awp_seq (ag [] rfl ?_)
  refine AWp.sub (Sub.fvar (id := 1) (l := encCore c) rfl (by simp [keys])) ?_
  refine AWp.sub (st2 := mk [(1, .one (.c (.pt (encCore c)))), (3, I .i64 1)] []) sl ?_
  refine awp_seq (awp_seq (awp_rg mixed ?_))
  refine kc hgr ?_
  refine ak 2 [] rfl ?_
  refine az ?_
  refine awp_block ?_
  refine awp_loop (fun i : Nat => mk [(3, I .i64 ((1 + gsum (L.take i) : Nat) : Int)), (8, .one (.c (.sl 2 (L.map glRow)))), (9, I .i64 ((L.map glRow).length : Int)), (10, I .i64 i)] []) (fun i => i ≤ L.length) (fun i => L.length - i) 0 (Nat.zero_le _) sl ?_
  intro i hi
  refine awp_seq (ag [] rfl ?_)
  refine awp_seq (awp_cond rfl (fun hb => ?_) (fun hb => ?_))
  · have hlt := ltD hb hkL
    obtain ⟨g, hg⟩ := get_of_lt hlt
    have hg' := getEnc glRow hg
    have hgi := List.mem_of_getElem? hg
    obtain ⟨hl1, hl2⟩ := hgm g hgi
    have hgt := gsum_take hg
    have hgl1 := gsum_le L (i + 1)
    have hkG : (g.2.map kpRow).length = g.2.length := List.length_map _
    obtain ⟨G1, G⟩ := g
    dsimp only at hl1 hl2 hgt hkG
    refine awp_skip ?_
    refine awp_seq (awp_block (awp_seq (ag [(0, .row i (glRow (G1, G)))] rfl ?_)))
    refine awp_seq (ag [] rfl ?_)
    refine awp_block ?_
    refine awp_loop (fun j : Nat => mk [(3, I .i64 ((1 + gsum (L.take i) + sizeCs (G.take j) : Nat) : Int)), (8, .one (.c (.sl 2 (L.map glRow)))), (9, I .i64 ((L.map glRow).length : Int)), (10, I .i64 i), (15, .one (.c (.sl 1 (G.map kpRow)))), (16, I .i64 ((G.map kpRow).length : Int)), (17, I .i64 j)] []) (fun j => j ≤ G.length) (fun j => G.length - j) 0 (Nat.zero_le _) sl ?_
    intro j hj
    refine awp_seq (ag [] rfl ?_)
    refine awp_seq (awp_cond rfl (fun hb => ?_) (fun hb => ?_))
    · have hlt2 := ltD hb hkG
      obtain ⟨p, hp⟩ := get_of_lt hlt2
      have hp' := getEnc kpRow hp
      have hpc := hin hgi (List.mem_of_getElem? hp)
      have hc := ih p hpc (by omega)
      have hst := sizeCs_take hp
      have hsl2 := sizeCs_le G (j + 1)
      have hadd : ((1 + gsum (L.take i) + sizeCs (G.take j) : Nat) : Int) + ((sizeR p : Nat) : Int) = ((1 + gsum (L.take i) + sizeCs (G.take (j + 1)) : Nat) : Int) := by rw [hst]; omega
      refine awp_skip ?_
      refine awp_seq (awp_block (awp_seq (ag [(0, .row j (kpRow p))] rfl ?_)))
      refine ag [(4, .pc (I .i64 (sizeR p : Nat)))] rfl ?_
      refine ag [] rfl ?_
      refine ⟨j + 1, hlt2, by dsimp only; omega, ?_⟩
      dsimp only
      rw [← hadd]
      exact sl
    have hge2 := geD hb hkG hj
    subst hge2
    rw [List.take_length]
    refine awp_exit ?_
    refine ag [] rfl ?_
    refine ⟨i + 1, hlt, by dsimp only; omega, ?_⟩
    dsimp only
    rw [show 1 + gsum (L.take (i + 1)) = 1 + gsum (L.take i) + sizeCs G by rw [hgt]; omega]
    exact sl
  have hge := geD hb hkL hi
  subst hge
  rw [List.take_length]
  refine awp_exit ?_
  refine awp_seq (ag [] rfl ?_)
  exact awp_ret rtT
theorem c_size : ∀ (n : Nat) (c : Core), csize c ≤ n → SzSpec c
  | 0, c, h => by have := csize_pos c; omega
  | n + 1, c, h => c_size_step c fun x hx => c_size n x (by omega)
end Go.Proofs.YtmoekkcdkjopgaaGreatDoor

/- TEXTS THAT ARE NOT THERE YET are put behind others (core.more); is a name among those that pointers lead to. -/
namespace Go.Proofs.YtmoekkcdkjopgaaGreatDoor
open Go Go.AM
set_option maxRecDepth 20000
def mor1 (o : List Str) (s : Str) : List Str := if s ∈ o then o else o ++ [s]
def morR (o l : List Str) : List Str := l.foldl mor1 o
theorem morR_step (o : List Str) {l : List Str} {i : Nat} {s : Str} (h : l[i]? = some s) : morR o (l.take (i + 1)) = mor1 (morR o (l.take i)) s := by
  unfold morR; rw [take_step h, List.foldl_append]; rfl
theorem mor1_len (o : List Str) (s : Str) : (mor1 o s).length ≤ o.length + 1 := by unfold mor1; split <;> simp
theorem morR_len (o : List Str) : ∀ l : List Str, (morR o l).length ≤ o.length + l.length := by
  intro l
  induction l generalizing o with
  | nil => exact Nat.le_refl _
  | cons s l ih =>
    have h1 := ih (mor1 o s)
    have h2 := mor1_len o s
    show (morR (mor1 o s) l).length ≤ _
    rw [List.length_cons]; omega
def ouO (o : List Str) : AObj := .arr 9 1 (o.map encS) 1
def ouV (o : List Str) : V := .one (.hs 500 0 o.length o.length)
theorem c_more (o l : List Str) (h : o.length + l.length ≤ 80000000000) : ImpC Tryz.prog 124 [ouV o, strsV l] [(500, ouO o)] (ouV (morR o l)) [(500, ouO (morR o l))] := by
  have hkl : (l.map encS).length = l.length := List.length_map _
  refine impC (n := 23) tok Tryz.func124 rfl rfl rfl ?_
  refine awp_seq (ag [] rfl ?_)
  refine awp_seq (awp_seq (ag [] rfl ?_))
  refine awp_block ?_
  refine awp_loop (fun i : Nat => mk [(0, ouV (morR o (l.take i))), (7, strsV l), (8, I .i64 ((l.map encS).length : Int)), (9, I .i64 i)] [(500, ouO (morR o (l.take i)))]) (fun i => i ≤ l.length) (fun i => l.length - i) 0 (Nat.zero_le _) sl ?_
  intro i hi
  refine awp_seq (ag [] rfl ?_)
  refine awp_seq (awp_cond rfl (fun hb => ?_) (fun hb => ?_))
  · have hlt := ltD hb hkl
    obtain ⟨s, hs⟩ := get_of_lt hlt
    have hs' := getEnc encS hs
    have hst := morR_step o hs
    have hml := morR_len o (l.take i)
    rw [List.length_take] at hml
    generalize morR o (l.take i) = x at hst hml ⊢
    have hco := c_contains x s (by omega)
    refine awp_skip ?_
    refine awp_seq (awp_block ?_)
    refine awp_seq (ag [(0, .row i (encS s))] rfl ?_)
    refine AWp.sub (Sub.freeze (id := 500) rfl) ?_
    refine awp_seq (ag [(2, .pc (B (decide (s ∈ x))))] rfl ?_)
    refine awp_cond rfl (fun hb => ?_) (fun hb => ?_)
    · have hin : ¬ s ∈ x := by simpa using hb
      rw [mor1, if_neg hin] at hst
      refine ag [] rfl ?_
      refine ag [] rfl ?_
      refine ⟨i + 1, hlt, by dsimp only; omega, ?_⟩
      dsimp only
      rw [hst]
      exact sl (he := ⟨Go.AM.hs_ren (by simp) (by simp), rfl, rfl, rfl, trivial⟩) (hh := ⟨⟨_, rfl, by first | exact Go.AM.Ole.arrE (by simp; rfl) | exact Go.AM.Ole.arrS (by simp; rfl)⟩, trivial⟩)
    · have hin : s ∈ x := by simpa using hb
      rw [mor1, if_pos hin] at hst
      refine awp_skip ?_
      refine ag [] rfl ?_
      refine ⟨i + 1, hlt, by dsimp only; omega, ?_⟩
      dsimp only
      rw [hst]
      exact sl
  have hge := geD hb hkl hi
  subst hge
  rw [List.take_length]
  refine awp_exit ?_
  refine awp_seq (ag [] rfl ?_)
  exact awp_ret rtT
/-- A pointer to a name. -/
def nrow (p : Str × List C) : List C := [.pt (.str p.1 :: p.2)]
def suO (s : Str) : AObj := .var 9 [.c (.str s)]
theorem c_free1 (p : Str × List C) (s : Str) : ImpC Tryz.prog 130 [.one (.c (.pt (.str p.1 :: p.2))), .one (.vp 9 0)] [(9, suO s)] (B (decide (p.1 = s))) [(9, suO s)] := by
  refine impC (n := 9) tok Tryz.func130 rfl rfl rfl ?_
  refine awp_seq (ag [] rfl ?_)
  refine awp_seq (ag [] rfl ?_)
  exact awp_ret rtT
theorem c_idxp (l : List (Str × List C)) (s : Str) (hl : l.length ≤ 100000000000) : ImpC Tryz.prog 175 [.one (.c (.sl 1 (l.map nrow))), .one (.clo 130 [.vp 9 0])] [(9, suO s)] (I .i64 (idxR (fun p => decide (p.1 = s)) l 0)) [(9, suO s)] := by
  have hkl : (l.map nrow).length = l.length := List.length_map _
  generalize hP : (fun p : Str × List C => decide (p.1 = s)) = P
  refine impC (n := 19) tok Tryz.func175 rfl rfl rfl ?_
  refine awp_seq (ag [] rfl ?_)
  refine awp_seq (awp_seq (ag [] rfl ?_))
  refine awp_block ?_
  refine awp_loop (fun i : Nat => mk [(0, .one (.c (.sl 1 (l.map nrow)))), (1, .one (.clo 130 [.vp 9 0])), (7, I .i64 ((l.map nrow).length : Int)), (8, I .i64 i)] [(9, suO s)]) (fun i => i ≤ l.length ∧ idxR P l 0 = idxR P (l.drop i) i) (fun i => l.length - i) 0 ⟨Nat.zero_le _, rfl⟩ sl ?_
  intro i ⟨hi, hid⟩
  refine awp_seq (ag [] rfl ?_)
  refine awp_seq (awp_cond rfl (fun hb => ?_) (fun hb => ?_))
  · have hlt := ltD hb hkl
    obtain ⟨p, hp⟩ := get_of_lt hlt
    have hp' := getEnc nrow hp
    have hc : ImpC Tryz.prog 130 ([.one (.c (.pt (.str p.1 :: p.2)))] ++ ([.vp 9 0] : List R).map V.one) [(9, suO s)] (B (P p)) [(9, suO s)] := by rw [← hP]; exact c_free1 p s
    have hdr : l.drop i = p :: l.drop (i + 1) := by rw [List.drop_eq_getElem_cons hlt, (List.getElem?_eq_some_iff.1 hp).2]
    rw [hdr, idxR] at hid
    refine awp_skip ?_
    refine awp_seq (awp_block (awp_seq (ag [] rfl ?_)))
    refine awp_seq (awp_rg mixed ?_)
    refine ak 5 [(3, .row i (nrow p))] rfl ?_
    refine kv (args := [.one (.c (.pt (.str p.1 :: p.2)))]) hc ?_
    refine az ?_
    refine awp_cond rfl (fun hb => ?_) (fun hb => ?_)
    · have hb : P p = true := hb
      rw [if_pos hb] at hid
      rw [hid]
      refine awp_seq (ag [] rfl ?_)
      exact awp_ret rtT
    · have hb : P p = false := hb
      rw [if_neg (by rw [hb]; exact Bool.false_ne_true)] at hid
      refine awp_skip ?_
      refine ag [] rfl ?_
      exact ⟨i + 1, ⟨hlt, hid⟩, by dsimp only; omega, sl⟩
  have hge := geD hb hkl hi
  subst hge
  rw [List.drop_length, idxR] at hid
  rw [hid]
  refine awp_exit ?_
  refine awp_seq (ag [] rfl ?_)
  exact awp_ret (rtT (v := I .i64 (-1)) (hc := .refl))
theorem c_conp (l : List (Str × List C)) (s : Str) (hl : l.length ≤ 100000000000) : ImpC Tryz.prog 129 [.one (.c (.sl 1 (l.map nrow))), .one (.clo 130 [.vp 9 0])] [(9, suO s)] (B (decide (s ∈ l.map (·.1)))) [(9, suO s)] := by
  have h := c_idxp l s hl
  have hany : decide (s ∈ l.map (·.1)) = l.any fun p => decide (p.1 = s) := by
    rw [Bool.eq_iff_iff]
    simp only [decide_eq_true_eq, List.any_eq_true, List.mem_map]
  rw [hany, ← idx_any _ l 0]
  refine impC (n := 9) tok Tryz.func129 rfl rfl rfl ?_
  refine awp_seq (ag [] rfl ?_)
  refine awp_seq (awp_rg mixed ?_)
  refine ak 2 [] rfl ?_
  refine kc h ?_
  refine ak 2 [] rfl ?_
  refine az ?_
  exact awp_ret rtT
end Go.Proofs.YtmoekkcdkjopgaaGreatDoor
