/-
  Texts Lg14 to Ld3 in one.
-/
import Derived.Test.YtmoekkcdkjopgaaGreatDoorM9
open List (append_nil cons_append drop_left filter_cons flatMap_cons flatMap_nil flatten_cons isEmpty_iff length_append length_cons length_drop length_map length_nil length_set length_take map_append map_congr_left map_cons map_map map_nil mem_append mem_cons mem_filter mem_map mem_singleton nil_append nodup_append nodup_nil not_mem_nil set_cons_succ take_add_one take_left take_length take_of_length_le)
open Nat (add_assoc add_zero beq_refl le_refl min_eq_left mul_one sub_self zero_add zero_le)
namespace Go.Proofs.YtmoekkcdkjopgaaGreatDoor
open Go Go.AM
set_option maxRecDepth 20000
def tD (i : Nat) (al : List Alt) : List (Nat × AObj) := (fam 0 al).filter fun p => !Nat.beq p.1 (i + 800)
theorem tT {a b : Nat} (h : a ≠ b) : Nat.beq a b = false := by
 cases hb : Nat.beq a b with
 | false => rfl
 | true => exact absurd (zq4 hb) h
theorem wC {i : Nat} {al : List Alt} {p : Nat × AObj} (h : p ∈ tD i al) : p ∈ fam 0 al ∧ p.1 ≠ i + 800 := by
 obtain ⟨h1, h2⟩ := mem_filter.1 h;refine ⟨h1, fun e => ?_⟩;rw [e, beq_refl] at h2; cases h2
theorem aBq {i : Nat} {al : List Alt} : TF (tD i al) := ⟨fun p hp => eX.far p (wC hp).1, by
 have : ((tD i al).map (·.1)).Sublist ((fam 0 al).map (·.1)) := (List.filter_sublist ..).map _
 exact List.Nodup.sublist this kQ, fun p hp => eX.arr p (wC hp).1⟩
theorem oV : ∀ {l : List Alt} {k i x : Nat}, x ∈ bX ((aT k l).set i []) → ∃ j, j < l.length ∧ j ≠ i ∧ x = k + j + 800
 | [], _, _, _, h => by simp [aT, bX] at h
 | a :: l, k, 0, x, h => by
  have h : x ∈ bX (aT (k + 1) l) := by simpa [aT, bX, R.refsL] using h
  obtain ⟨p, hp, e⟩ := mem_map.1 (cM x h);obtain ⟨j, b, hj, rfl⟩ := mL hp;have hlt : j < l.length := (zq6.1 hj).1
  exact ⟨j + 1, by simp; exact hlt, by omega, by rw [← e]; show k + 1 + j + 800 = _; omega⟩
 | a :: l, k, i + 1, x, h => by
  rcases mem_append.1 (show x ∈ R.refsL (cW k a) ++ bX ((aT (k + 1) l).set i []) from h) with h | h
  ·exact ⟨0, by simp, by omega, by rw [oR h]⟩
  ·obtain ⟨j, h1, h2, h3⟩ := oV h;exact ⟨j + 1, by simp; exact h1, by omega, by omega⟩
theorem aOk {i j : Nat} {al : List Alt} (h : j < al.length) (hne : j ≠ i) : 0 + j + 800 ∈ keys (tD i al) := by
 obtain ⟨a, ha⟩ := aL h;exact mem_map.2 ⟨_, mem_filter.2 ⟨yN ha, by simp only [tT (show 0 + j + 800 ≠ i + 800 by omega)]; rfl⟩, rfl⟩
theorem uJ {i j : Nat} (h : j ≠ 704) (h' : j ≠ i + 800) : swp 704 (i + 800) j = j := by unfold swp; rw [tT h, tT h']; rfl
theorem sC {σ : Nat → Nat} : ∀ {l : List Alt} {k i : Nat} {a : Alt} {r : List R}, l[i]? = some a → (∀ j, j < l.length → j ≠ i → σ (k + j + 800) = k + j + 800) → R.renL σ r = cW (k + i) a → lQ σ ((aT k l).set i r) = aT k l
 | b :: l, k, 0, a, r, h, hσ, hr => by
  simp at h; subst h;show R.renL σ r :: lQ σ (aT (k + 1) l) = _;have key : ∀ (l : List Alt) (k : Nat), (∀ j, j < l.length → σ (k + j + 800) = k + j + 800) → lQ σ (aT k l) = aT k l := by
   intro l
   induction l with
   | nil => intro _ _; rfl
   | cons c l ih =>
    intro k hk;simp only [aT, lQ]
    rw [jG, show σ (k + 800) = k + 800 from hk 0 (by simp), ih (k + 1) fun j hj => by
     have := hk (j + 1) (by simp; exact hj)
     rwa [show k + (j + 1) + 800 = k + 1 + j + 800 by omega] at this]; rfl
  rw [hr, key l (k + 1) fun j hj => by
   have := hσ (j + 1) (by simp; exact hj) (by omega)
   rwa [show k + (j + 1) + 800 = k + 1 + j + 800 by omega] at this]; rfl
 | b :: l, k, i + 1, a, r, h, hσ, hr => by
  show R.renL σ (cW k b) :: lQ σ ((aT (k + 1) l).set i r) = _
  rw [jG, show σ (k + 800) = k + 800 from hσ 0 (by simp) (by omega), sC (l := l) (k := k + 1) (a := a) (by simpa using h) (fun j hj hne => by
   have := hσ (j + 1) (by simp; exact hj) (by omega)
   rwa [show k + (j + 1) + 800 = k + 1 + j + 800 by omega] at this) (by rw [hr, show k + 1 + i = k + (i + 1) by omega])]; rfl
theorem aJx {i : Nat} {al : List Alt} {j : Nat} (h : j ≠ i + 800) : Go.AM.look (tD i al) j = Go.AM.look (fam 0 al) j := by
 unfold tD;generalize fam 0 al = F
 induction F with
 | nil => rfl
 | cons p F ih =>
  obtain ⟨k, o⟩ := p;rw [filter_cons];simp only [Go.AM.look];by_cases hk : k = i + 800
  ·rw [hk, beq_refl];simp only [Bool.not_true, Bool.false_eq_true, if_false];rw [ih, tT h]; rfl
  ·rw [tT hk];simp only [Bool.not_false, if_true, Go.AM.look];cases Nat.beq j k
   ·simpa using ih
   ·rfl
theorem aOj {i : Nat} {al : List Alt} : renH (swp 704 (i + 800)) (tD i al) = tD i al := by
 have key : ∀ F : List (Nat × AObj), (∀ p ∈ F, p ∈ tD i al) → renH (swp 704 (i + 800)) F = F := by
  intro F
  induction F with
  | nil => intro _; rfl
  | cons p F ih =>
   intro h;have hp := wC (h p zq2);obtain ⟨te, es, l, z, e⟩ := eX.arr p hp.1;have hfar := eX.far p hp.1;show (swp 704 (i + 800) p.1, p.2.ren _) :: renH _ F = _;rw [ih fun q hq => h q (zq3 _ hq), uJ (by omega) hp.2, e];show (p.1, AObj.arr te es l z) :: F = _;rw [← e]
 exact key _ fun _ h => h
abbrev aX (i : Nat) (al : List Alt) (a : Alt) (nv : Nat) : List (Nat × AObj) := aH ((aT 0 al).set i []) i a.form a.n a.name nv a.vars a.body ++ tD i al
theorem aJy {i : Nat} {al : List Alt} {a : Alt} (hai : al[i]? = some a) : Go.AM.look (renH (swp 704 (i + 800)) (aX i al a a.vars.length)) = Go.AM.look ((703, .rarr 78 14 (aT 0 al)) :: fam 0 al) := by
 have e1 : renH (swp 704 (i + 800)) (aX i al a a.vars.length) = (703, .rarr 78 14 (aT 0 al)) :: (i + 800, .arr 9 1 (a.vars.map bG) 0) :: tD i al := by
  unfold aX aH;show (swp 704 (i + 800) 703, AObj.rarr _ _ (lQ _ _)) :: (swp 704 (i + 800) 704, AObj.arr _ _ _ _) :: renH _ (tD i al) = _;rw [aOj, uJ (by omega) (by omega), aVt];have h704 : swp 704 (i + 800) 704 = i + 800 := by unfold swp; rw [beq_refl]; rfl
  rw [h704, sC hai (fun j hj hne => uJ (by omega) (by omega)) ?_];unfold aDn cW;simp only [cons_append, nil_append, R.renL, R.ren, aIi, h704, zero_add]
 rw [e1];funext j;by_cases h1 : j = 703
 ·subst h1; rw [cR, cR]
 rw [dD h1, dD h1];by_cases h2 : j = i + 800
 ·subst h2;rw [cR];have := o7 (kQ (l := al) (k := 0)) _ (yN hai);rw [zero_add] at this;exact this.symm
 ·rw [dD h2, aJx h2]
theorem lY : ∀ {l : List Alt} {k i : Nat} {a' : Alt}, (aT k (l.set i a')).set i [] = (aT k l).set i []
 | [], _, _, _ => rfl
 | b :: l, k, 0, a' => rfl
 | b :: l, k, i + 1, a' => by
  simp only [set_cons_succ, aT];rw [lY]
theorem aOi {i : Nat} {al : List Alt} {a' : Alt} : tD i (al.set i a') = tD i al := by
 unfold tD;have key : ∀ (l : List Alt) (k j : Nat), k + j = i → ((fam k (l.set j a')).filter fun p => !Nat.beq p.1 (i + 800)) = (fam k l).filter fun p => !Nat.beq p.1 (i + 800) := by
  intro l
  induction l with
  | nil => intro _ _ _; rfl
  | cons b l ih =>
   intro k j h;cases j with
   | zero =>
    have e : k = i := by omega
    subst e;simp only [List.set_cons_zero, fam, filter_cons, beq_refl, Bool.not_true];rfl
   | succ j =>
    simp only [set_cons_succ, fam, filter_cons];rw [ih (k + 1) j (by omega)]
 exact key al 0 i (by omega)
theorem aTt (al : List Alt) (i : Nat) (a : Alt) (hai : al[i]? = some a) (s : Str) (b : Core) (sb : Core → Str → Core → Core) (P : Core → Prop) (hok : PutOk sb P s b [a.body])
  (hM : (pfR a.body).length + 2 * a.vars.length + (pfR b).length + 1 ≤ 540000000000) (nv : Nat) (hnv : nv = a.vars.length) (na : Nat) (hna : na = al.length) :
  ∃ q, (cK sb s b a.vars [a.body]).2 = [q] ∧ aY Tryz.prog 68 [.ma [.ras nv 1 (vR i nv nv).flatten, .ras 1 1 [.rp 703 i 4 na]], Go.AM.T s, .pa (aA b)] ((703, .rarr 78 14 (aT 0 al)) :: fam 0 al) (.tup [])
   ((703, .rarr 78 14 (aT 0 (al.set i (.mk a.form a.n a.name (cK sb s b a.vars [a.body]).1 q)))) :: fam 0 (al.set i (.mk a.form a.n a.name (cK sb s b a.vars [a.body]).1 q))) := by
 subst hnv; subst hna;have hlt : i < al.length := (zq6.1 hai).1
 have hrl : ((aT 0 al).set i []).length = al.length := by rw [length_set, dJ]
 have hr : ∀ x ∈ bX ((aT 0 al).set i []), x ∈ keys (tD i al) := fun x hx => by
  obtain ⟨j, h1, h2, rfl⟩ := oV hx;exact aOk h1 h2
 obtain ⟨q, hq, h⟩ := aXs ((aT 0 al).set i []) i a.form a.n a.name a.vars.length a.vars a.body (tD i al) s b sb P aBq hr (by omega) rfl hok hM;refine ⟨q, hq, ?_⟩;have hl1 := (pF (sb := sb) (s := s) (b := b) (ns := a.vars) (ps := [a.body])).1
 rw [hrl] at h;have hsub : ∀ (ns : List Str) (p : Core), subset (cQ (aH ((aT 0 al).set i []) i a.form a.n a.name a.vars.length ns p ++ tD i al)) (keys (aH ((aT 0 al).set i []) i a.form a.n a.name a.vars.length ns p ++ tD i al)) = true := fun ns p => dV (mT aBq (aHW aBq hr).refs)
 have h2 := aY.swap 704 (i + 800) h (hsub _ _) (dV fun x hx => by
  have hx : x ∈ (grO (aN a.vars.length) (aP i al.length)).refs ++ ([] ++ ([] ++ [])) := hx;rw [append_nil, append_nil, append_nil] at hx;rcases aB9 x hx with rfl | rfl
  ·simp [aH, keys]
  ·simp [aH, keys]) (hsub _ _) rfl
 have ea : V.renL (swp 704 (i + 800)) [gpV (aN a.vars.length) (aP i al.length), Go.AM.T s, .pa (aA b)] = [.ma [.ras a.vars.length 1 (vR i a.vars.length a.vars.length).flatten, .ras 1 1 [.rp 703 i 4 al.length]], Go.AM.T s, .pa (aA b)] := by
  have h704 : swp 704 (i + 800) 704 = i + 800 := by unfold swp; rw [beq_refl]; rfl
  have en : R.renL (swp 704 (i + 800)) (aN a.vars.length) = (vR i a.vars.length a.vars.length).flatten := by
   unfold aN vR rgR;generalize List.range a.vars.length = rg
   induction rg with
   | nil => rfl
   | cons j rg ih =>
    simp only [map_cons, flatten_cons, List.singleton_append, R.renL, R.ren, h704] at ih ⊢;rw [ih]
  unfold gpV aP;simp only [V.renL, V.ren, R.renL, R.ren, en, aRs, uJ (show 703 ≠ 704 by omega) (show 703 ≠ i + 800 by omega)];rfl
 rw [ea] at h2;refine aY.row h2 (aJy hai).symm ?_;have hai' : (al.set i (.mk a.form a.n a.name (cK sb s b a.vars [a.body]).1 q))[i]? = some (.mk a.form a.n a.name (cK sb s b a.vars [a.body]).1 q) := List.getElem?_set_self hlt;have h3 := aJy hai';unfold aX at h3;rw [lY, aOi] at h3;rw [← h3];show Go.AM.look (renH _ (aH _ i a.form a.n a.name (cK sb s b a.vars [a.body]).1.length _ _ ++ tD i al)) = _;rw [hl1];rfl
def fZ (h : cF) : Prop := ∀ i, 800 ≤ i → h i = none
theorem fZ.nil : fZ (Go.AM.look []) := fun _ _ => rfl
theorem fZ.upd {h : cF} {k : Nat} {x : Option AObj} (hf : fZ h) (hk : Nat.blt k 800 = true := by rfl) : fZ (upd h k x) := fun i hi => by
 have := zq5 hk;rw [aS _ _ _ (by omega)]; exact hf i hi
theorem aJl : ∀ bs : List Bind, mkB (bs.map Bind.ty) (bs.map Bind.name) (bs.map Bind.body) = bs
 | [] => rfl
 | .mk s t c :: bs => by
  show Bind.mk s t c :: mkB _ _ _ = _;rw [aJl bs]
theorem aZ5 {b : Bool} {nk nb : Nat} (h : b = false) : o8 b nk nb = [.ras (tN nb).length 1 (tN nb), .ras (tP nk nb).length 1 (tP nk nb)] := by
 subst h;have e1 : (nR false nb nb).length = (tN nb).length := by unfold tN; rw [lE aHy, mul_one]
 have e2 : (pR nk nb nb).length = (tP nk nb).length := by unfold tP; rw [lE sK, mul_one]
 unfold o8;rw [e1, e2]; rfl
section
variable {clr : Core → List Str → Core} {k : Nat}
noncomputable def j1 (sb : Core → Str → Core → Core) (s : Str) (b : Core) (a : Alt) : Alt := .mk a.form a.n a.name (cK sb s b a.vars [a.body]).1 ((cK sb s b a.vars [a.body]).2.headD a.body)
noncomputable def rJ (sb : Core → Str → Core → Core) (s : Str) (b : Core) (al : List Alt) (i : Nat) : List Alt := (al.take i).map (j1 sb s b) ++ al.drop i
theorem wO {sb : Core → Str → Core → Core} {s : Str} {b : Core} {al : List Alt} {i : Nat} : (rJ sb s b al i).length = al.length := by unfold rJ; simp; omega
theorem aUf {sb : Core → Str → Core → Core} {s : Str} {b : Core} {al : List Alt} {i : Nat} {a : Alt} (h : al[i]? = some a) : (rJ sb s b al i)[i]? = some a := by
 have hlt : i < al.length := (zq6.1 h).1
 unfold rJ;rw [List.getElem?_append_right (by simp; omega), length_map, length_take, min_eq_left (by omega), sub_self, List.getElem?_drop, add_zero, h]
theorem aL0 {sb : Core → Str → Core → Core} {s : Str} {b : Core} {al : List Alt} {i : Nat} {a : Alt} (h : al[i]? = some a) : rJ sb s b al (i + 1) = (rJ sb s b al i).set i (j1 sb s b a) := by
 have hlt : i < al.length := (zq6.1 h).1
 unfold rJ;rw [oB h, qG (by simp; omega), take_add_one, h];simp
theorem aLz {sb : Core → Str → Core → Core} {s : Str} {b : Core} {al : List Alt} : rJ sb s b al 0 = al := by simp [rJ]
theorem aPk {sb : Core → Str → Core → Core} {s : Str} {b : Core} {al : List Alt} : rJ sb s b al al.length = al.map (j1 sb s b) := by simp [rJ]
noncomputable def zNm (sb : Core → Str → Core → Core) (f : Int) (nm : Str) (s : Str) (b : Core) (ks : List Core) (bs : List Bind) : Nat → Str
 | 0 => nm
 | _ + 1 => if f = 5 then (cK sb s b (gvN f nm bs) (ks ++ bs.map Bind.body)).1.headD nm else nm
noncomputable def zKs (sb : Core → Str → Core → Core) (f : Int) (nm : Str) (s : Str) (b : Core) (ks : List Core) (bs : List Bind) : Nat → List Core
 | 0 => ks
 | _ + 1 => (cK sb s b (gvN f nm bs) (ks ++ bs.map Bind.body)).2.take ks.length
noncomputable def zBs (sb : Core → Str → Core → Core) (f : Int) (nm : Str) (s : Str) (b : Core) (ks : List Core) (bs : List Bind) : Nat → List Bind
 | 0 => bs
 | _ + 1 => mkB (bs.map Bind.ty) (cK sb s b (gvN f nm bs) (ks ++ bs.map Bind.body)).1 ((cK sb s b (gvN f nm bs) (ks ++ bs.map Bind.body)).2.drop ks.length)
noncomputable def zAs (sb : Core → Str → Core → Core) (s : Str) (b : Core) (al : List Alt) : Nat → List Alt
 | 0 => al
 | i + 1 => rJ sb s b al i
theorem wB : ∀ {l m : List Alt} {k : Nat}, l.length = m.length → keys (fam k l) = keys (fam k m)
 | [], [], _, _ => rfl
 | a :: l, c :: m, k, h => by
  show (k + 800) :: keys (fam (k + 1) l) = (k + 800) :: keys (fam (k + 1) m);rw [wB (by simpa using h)]
end
def vT (z : Str) : Ty := .mk 2 0 z []
theorem aE5 (n : Int) (nm : Str) (t : Ty) (kid : Core) (far : List Str) (hfar : far.length ≤ 540000000000) (hno : ¬ nm ∈ far) :
  aY Tryz.prog 62 [.one (.vp 700 0), bN far] (gHl 7 n nm t [kid] [] []) (.tup []) (gHl 7 n nm t [kid] [] []) := by
 have hct := bU far nm (by omega);rw [decide_eq_false hno] at hct;refine c8 (n := 44) tok Tryz.func62 rfl rfl rfl ?_;refine a8 (aF mixed ?_);refine ak 5 [] rfl ?_;refine kc hct ?_;refine az ?_;refine aB rfl (fun hb => by cases hb) (fun hb => ?_);refine aD ?_;exact ⟨.inl rfl, ⟨[], [], .nil, .nil, rfl⟩, ⟨⟨_, rfl, .var rfl⟩, ⟨_, rfl, .arr⟩, ⟨_, rfl, .arr⟩, ⟨_, rfl, .rarr rfl⟩, trivial⟩, rfl⟩
theorem aE4 (n : Int) (nm : Str) (t : Ty) (kid kid' : Core) (far : List Str) (hfar : far.length ≤ 540000000000) (hin : nm ∈ far) (hI : eD 540000000000) (hty : aY Tryz.prog 61 [.pa (aA kid)] [] (bN (tyR kid)) []) (htl : far.length + (tyR kid).length ≤ 540000000000)
  (hs : aY Tryz.prog 23 [.pa (aA kid), Go.AM.T nm, tyV (vT (aZ (far ++ tyR kid)))] [] (.pa (aA kid')) []) :
  aY Tryz.prog 62 [.one (.vp 700 0), bN far] (gHl 7 n nm t [kid] [] []) (.tup []) (gHl 7 n (aZ (far ++ tyR kid)) t [kid'] [] []) := by
 have hct := bU far nm (by omega);rw [decide_eq_true hin] at hct;have hcl := gG (far.map bG) (by rw [length_map]; omega);have hfl : (far.map bG).length = far.length := length_map _;have htl2 : ((tyR kid).map bG).length = (tyR kid).length := length_map _;have hfr := wI (far ++ tyR kid) (by rw [length_append]; omega) fun k hk => hI k (by rw [length_append] at hk; omega)
 generalize aZ (far ++ tyR kid) = z at hs hfr ⊢;refine c8 (n := 44) tok Tryz.func62 rfl rfl rfl ?_;refine a8 (aF mixed ?_);refine ak 5 [] rfl ?_;refine kc hct ?_;refine az ?_;refine aB rfl (fun hb => ?_) (fun hb => by cases hb);refine a8 (aF mixed ?_);refine ak 1 [] rfl ?_;refine kc hcl ?_;refine ak 6 [(7, .row 0 (aA kid))] rfl ?_;refine kc hty ?_;refine ak 1 [(9, .fz)] rfl ?_;refine kc hfr ?_;refine ak 1 [] rfl ?_;refine az ?_;refine a8 (aF mixed ?_);refine ak 15 [(9, .row 0 (aA kid))] rfl ?_;refine kc (aRa z) ?_;refine kc hs ?_;refine ak 2 [(18, .row 0 (aA kid))] rfl ?_;refine az ?_;refine ag [] rfl ?_;exact ⟨.inl rfl, ⟨[], [], .nil, .nil, rfl⟩, ⟨⟨_, rfl, .var rfl⟩, ⟨_, rfl, .arr⟩, ⟨_, rfl, .arr⟩, ⟨_, rfl, .rarr rfl⟩, trivial⟩, rfl⟩
theorem a0c (name : Str) (by_ t t' : Ty) (h : aY Tryz.prog 65 [tyV t, bN [name], .one (.c (.sl 4 [cG by_]))] [] (tyV t') []) :
  aY Tryz.prog 64 [tyV t, .one (.vp 4 0), .one (.vp 5 0)] [(4, .var 9 [.c (.str name)]), (5, .var 33 ((cG by_).map R.c))] (tyV t') [(4, .var 9 [.c (.str name)]), (5, .var 33 ((cG by_).map R.c))] := by
 refine c8 (n := 11) tok Tryz.func64 rfl rfl rfl ?_;refine a8 (ag [(0, .id 730), (1, .id 731)] rfl ?_);refine a8 (aF mixed ?_);refine ak 5 [(2, .all), (4, .all)] rfl ?_;refine kc h ?_;refine ak 1 [] rfl ?_;refine az ?_;exact aE (rtC trw)
def jU (ts : Ty → Ty) (sb : Core → Core) : Core → Core
 | .mk f n nm t ks bs al => .mk f n nm (ts t) (ks.map sb) (bs.map fun b => .mk b.name (ts b.ty) (sb b.body)) (al.map fun a => .mk a.form a.n a.name a.vars (sb a.body))
def tsB (ts : Ty → Ty) (b : Bind) : Bind := .mk b.name (ts b.ty) b.body
section
variable {α : Type} {g : α → α}
def kL (g : α → α) (bs : List α) (j : Nat) : List α := (bs.take j).map g ++ bs.drop j
theorem lC {bs : List α} {j : Nat} : (kL g bs j).length = bs.length := by unfold kL; simp; omega
theorem vM {bs : List α} {j : Nat} {b : α} (h : bs[j]? = some b) : (kL g bs j)[j]? = some b := by
 have hlt : j < bs.length := (zq6.1 h).1
 unfold kL;rw [List.getElem?_append_right (by simp; omega), length_map, length_take, min_eq_left (by omega), sub_self, List.getElem?_drop, add_zero, h]
theorem n0 {bs : List α} {j : Nat} {b : α} (h : bs[j]? = some b) : kL g bs (j + 1) = (kL g bs j).set j (g b) := by
 have hlt : j < bs.length := (zq6.1 h).1
 unfold kL;rw [oB h, qG (by simp; omega), take_add_one, h];simp
theorem kK {bs : List α} : kL g bs 0 = bs := by simp [kL]
theorem aNy {bs : List α} : kL g bs bs.length = bs.map g := by simp [kL]
theorem vL {bs : List α} {j : Nat} (h : bs.length ≤ j) : kL g bs j = bs.map g := by unfold kL; rw [take_of_length_le h, List.drop_eq_nil_of_le h, append_nil]
end
def sbB (sb : Core → Core) (b : Bind) : Bind := .mk b.name b.ty (sb b.body)
def sbA (sb : Core → Core) (a : Alt) : Alt := .mk a.form a.n a.name a.vars (sb a.body)
theorem rI : ∀ {l : List Alt} {k i : Nat} {a : Alt}, aT k (l.set i a) = (aT k l).set i (cW (k + i) a)
 | [], _, _, _ => rfl
 | b :: l, k, 0, a => rfl
 | b :: l, k, i + 1, a => by
  simp only [set_cons_succ, aT];rw [rI (l := l) (k := k + 1), show k + 1 + i = k + (i + 1) by omega]
theorem aEr (sb : Core → Core) : ∀ (l : List Alt) (k j : Nat), fam k (kL (sbA sb) l j) = fam k l
 | [], _, _ => by simp [kL]
 | a :: l, k, 0 => by rw [kK]
 | a :: l, k, j + 1 => by
  have e : kL (sbA sb) (a :: l) (j + 1) = sbA sb a :: kL (sbA sb) l j := rfl;rw [e];show (k + 800, AObj.arr 9 1 (a.vars.map bG) 0) :: fam (k + 1) _ = _;rw [aEr sb l (k + 1) j]; rfl
theorem aM4 {f n : Int} {nm : Str} {t : Ty} {ks : List Core} {bs : List Bind} {al : List Alt} {r v : Nat}
  (hr : Nat.blt r 700 = true) (hv : Nat.blt v 700 = true) {st1 : St} (hF : FarEq st1.h (fam 0 al)) (he : dP (fun p : Nat × V => st1.e p.1 = some (p.2.ren (fun i => i))) [(r, V.one (.vp r 0)), (v, V.one (.vp 700 0))])
  (hh : dP (fun p : Nat × AObj => ∃ o, st1.h p.1 = some o ∧ Ole (fun i => i) o p.2) (gHl f n nm t ks bs al)) (h6 : ∃ o, st1.h r = some o ∧ Ole (fun i => i) o (.var 37 bH)) (hd : st1.d = []) (hne : r ≠ v) :
  Sub [] (mk [(r, .one (.vp r 0)), (v, .one (.vp 700 0))] [(r, .var 37 bH), (700, .var 37 (bF (.mk f n nm t ks bs al)))]) st1 := by
 have hr' := zq5 hr;have hv' := zq5 hv;have hTF : TF (fam 0 al) := eX;have hel : ∀ x ∈ mV [(r, V.one (.vp r 0)), (v, V.one (.vp 700 0))], x = r ∨ x = 700 := fun x hx => by simpa [mV, V.refs, R.refs] using hx
 have hdist : Go.AM.distinct (List.map (fun p : Nat × AObj => p.1) (oHl ks bs al ++ [(700, .var 37 (dL f n nm t ks.length bs.length al.length)), (r, .var 37 bH)])) = true := by
  refine fC ?_;simp [oHl];omega
 have hnear : ((oHl ks bs al ++ [(700, AObj.var 37 (dL f n nm t ks.length bs.length al.length)), (r, .var 37 bH)]).all fun p => Nat.blt p.1 800) = true := by
  simp [oHl, aGm (show r < 800 by omega)]
 have s1 : Sub [] (mkt [(r, .one (.vp r 0)), (v, .one (.vp 700 0))] (oHl ks bs al ++ [(700, .var 37 (dL f n nm t ks.length bs.length al.length)), (r, .var 37 bH)]) (fam 0 al)) st1 := by
  obtain ⟨h0, h1, h2, h3, _⟩ := hh;refine slT hTF hF (fun x hx => .inl ?_) (fun x hx => ?_) (fun _ h => by cases h) (he := he) (hh := ⟨h1, h2, h3, h0, h6, trivial⟩) (hd := hd) (h3 := hdist) (h3' := hnear)
  ·rcases hel x hx with rfl | rfl <;> simp [oHl, keys]
  ·rw [hD] at hx;rcases mem_append.1 hx with hx | hx
   ·exact .inr (cM x (by simpa [oHl, cQ, AObj.refs] using hx))
   ·refine .inl ?_;have hx : x = 702 ∨ x = 701 ∨ x = 703 := by simpa [cQ, AObj.refs, dL, bH, R.refsL, R.refs] using hx
    rcases hx with rfl | rfl | rfl <;> simp [oHl, keys]
 have s2 := nZ (kf := []) (el := [(r, .one (.vp r 0)), (v, .one (.vp 700 0))]) (ex := [(700, .var 37 (dL f n nm t ks.length bs.length al.length)), (r, .var 37 bH)]) (ks := ks) (bs := bs) (al := al) (by simp)
  (fun x hx => by
    rcases hel x hx with rfl | rfl
    ·exact .inr (.inl (by simp [keys]))
    ·exact .inr (.inl (by simp [keys])))
  ⟨fun x hx => by
    have hx : x = 702 ∨ x = 701 ∨ x = 703 := by simpa [AObj.refs, dL, R.refsL, R.refs] using hx
    rcases hx with rfl | rfl | rfl <;> exact .inl (by simp [oHl, keys]), fun x hx => by simp [AObj.refs, bH, R.refsL, R.refs] at hx, trivial⟩
  (fun _ h => by cases h) hdist (by simp [aGm (show r < 800 by omega)]) (by simp; exact hne) (fun p hp => by
   rcases mem_cons.1 hp with rfl | hp
   ·rfl
   ·rw [mem_singleton.1 hp]; rfl)
 have e1 : fzH 703 (.ra al.length 14 (aT 0 al).flatten) ([(701, .arr 73 15 (aO bs) 2), (702, .arr 37 10 (aQ ks) 2)] ++ [(700, .var 37 (dL f n nm t ks.length bs.length al.length)), (r, .var 37 bH)])
   = [(701, .arr 73 15 (aO bs) 2), (702, .arr 37 10 (aQ ks) 2), (700, .var 37 (iQ f n nm t ks.length bs.length al)), (r, .var 37 bH)] := by
  unfold dL iQ;show [(701, _), (702, _), (700, AObj.var _ (R.fzL _ _ _)), (r, AObj.var _ (R.fzL _ _ _))] = _;simp only [R.fzL, R.fz, beq_refl, if_true, Bool.and_self];rfl
 have e2 : fzE 703 (.ra al.length 14 (aT 0 al).flatten) [(r, .one (.vp r 0)), (v, .one (.vp 700 0))] = [(r, .one (.vp r 0)), (v, .one (.vp 700 0))] := rfl;rw [e1, e2] at s2;have hFz : TF (w8 (fam 0 al)) := hTF.frz;have hn4 : (([(701, AObj.arr 73 15 (aO bs) 2), (702, .arr 37 10 (aQ ks) 2), (700, .var 37 (iQ f n nm t ks.length bs.length al)), (r, .var 37 bH)] : List (Nat × AObj)).all fun p => Nat.blt p.1 800) = true := by simp [aGm (show r < 800 by omega)]
 obtain ⟨ids, hp⟩ := qQ (h := (mkt [(r, .one (.vp r 0)), (v, .one (.vp 700 0))] [(701, .arr 73 15 (aO bs) 2), (702, .arr 37 10 (aQ ks) 2), (700, .var 37 (iQ f n nm t ks.length bs.length al)), (r, .var 37 bH)] (w8 (fam 0 al))).h) (f := f) (n := n) (s := nm) (t := t) (ks := ks) (bs := bs) (al := al) rfl rfl (FarEq.mkt hFz hn4);have s3 := Sub.varPure (kf := []) (st := mkt [(r, .one (.vp r 0)), (v, .one (.vp 700 0))] [(701, .arr 73 15 (aO bs) 2), (702, .arr 37 10 (aQ ks) 2), (700, .var 37 (iQ f n nm t ks.length bs.length al)), (r, .var 37 bH)] (w8 (fam 0 al))) (x := 700) (tv := 37) rfl hp;refine Sub.trans ?_ (Sub.trans s3 (Sub.trans s2 s1));have n700 : r ≠ 700 := by omega
 refine Sub.list (fun i => i) ?_ ?_ ?_
 ·have hrv : Nat.beq v r = false := tT (Ne.symm hne);refine ⟨?_, ?_, trivial⟩
  ·show Go.AM.look [(r, V.one (.vp r 0)), (v, V.one (.vp 700 0))] r = _;rw [cR]; rfl
  ·show Go.AM.look [(r, V.one (.vp r 0)), (v, V.one (.vp 700 0))] v = _;rw [dD (Ne.symm hne), cR]; rfl
 ·refine ⟨⟨.var 37 bH, ?_, .var rfl⟩, ⟨.var 37 (bF (.mk f n nm t ks bs al)), ?_, .var (aIi _).symm⟩, trivial⟩
  ·show upd _ 700 _ r = _;rw [aS _ _ _ n700];show (match Go.AM.look [(701, AObj.arr 73 15 (aO bs) 2), (702, .arr 37 10 (aQ ks) 2), (700, .var 37 (iQ f n nm t ks.length bs.length al)), (r, .var 37 bH)] r with | some x => some x | none => _) = _;rw [dD (by omega), dD (by omega), dD (by omega), cR]
  ·dsimp only;rw [aI];rfl
 ·simp only [aMk, Bool.and_eq_true];refine ⟨⟨⟨⟨⟨dV fun x hx => ?_, dV fun x hx => ?_⟩, fC ?_⟩, rfl⟩, rfl⟩, rfl⟩
  ·rcases hel x hx with rfl | rfl <;> simp
  ·have : x ∈ R.refsL bH ++ (R.refsL (bF (.mk f n nm t ks bs al)) ++ []) := hx;simp [bH, bF, aA, R.refsL, R.refs] at this
  ·simp; exact n700
theorem aK7 (f n : Int) (nm name : Str) (t by_ : Ty) (ks : List Core) (bs : List Bind) (al : List Alt)
  (hcs : aR (.mk f n nm t ks bs al) ≤ 570000000000) (hT : allT TyG (.mk f n nm t ks bs al)) (h7 : f = 7)
  (hs : nm = name ∨ (nm ≠ name ∧ ∃ tl : List Str, aY Tryz.prog 61 [.pa (aA (.mk f n nm t ks bs al))] [] (bN tl) [] ∧ ¬ name ∈ tl ∧ tl.length ≤ 540000000000)) :
  aY Tryz.prog 23 [.pa (aA (.mk f n nm t ks bs al)), Go.AM.T name, tyV by_] [] (.pa (aA (.mk f n nm t ks bs al))) [] := by
 have hob := tM (aR (.mk f n nm t ks bs al)) _ (le_refl _) hcs hT;have hob : aY Tryz.prog 59 [.pa (aA (.mk f n nm t ks bs al))] [] (.pa (aA (.mk f n nm t ks bs al))) [] := hob;have hd7 : decide (f = 7) = true := decide_eq_true h7;refine c8 (n := 84) tok Tryz.func23 rfl rfl rfl ?_;refine a8 (ag [] rfl ?_);refine a8 (aF mixed ?_);refine ak 1 [] rfl ?_;refine kc hob ?_;refine ak 2 [] rfl ?_;refine az ?_;refine a8 (a8 (ag [] rfl ?_));refine aB rfl (fun _ => ?_) (fun hb => ?_)
 ·refine a8 (a8 ?_);rcases hs with h | ⟨h, tl, hty, hn, hl⟩
  ·have hd : decide (nm = name) = true := decide_eq_true h;refine ag [(4, .bv true), (10, .bv true)] rfl ?_;refine aB rfl (fun _ => ?_) (fun hb => by cases hb);refine a8 (ag [] rfl ?_);exact aE (rtC trw)
  ·have hd : decide (nm = name) = false := decide_eq_false h;have hct := bU tl name (by omega);rw [decide_eq_false hn] at hct;refine aF mixed ?_;refine ak 6 [(4, .bv false)] rfl ?_;refine kcG hty ?_;refine ak 1 [(4, .bv false)] rfl ?_;refine kcG hct ?_;refine ak 2 [(4, .bv false), (10, .bv false)] rfl ?_;refine az ?_;refine aB rfl (fun _ => ?_) (fun hb => by cases hb);refine a8 (ag [] rfl ?_);exact aE (rtC trw)
 ·exact absurd (show decide (f = 7) = false from hb) (by rw [hd7]; decide)
def gHm (f n : Int) (s : Str) (t : Ty) (nk nb na : Nat) (ks : List Core) (bs : List Bind) (al : List Alt) : List (Nat × AObj) :=
 [(700, .var 37 (dL f n s t nk nb na)), (701, .arr 73 15 (aO bs) 0), (702, .arr 37 10 (aQ ks) 0), (703, .rarr 78 14 (aT 0 al))]
theorem gWm {f n : Int} {s : Str} {t : Ty} {nk nb na : Nat} {ks : List Core} {bs : List Bind} {al A : List Alt} (h : fam 0 A = fam 0 al) : GW (gHm f n s t nk nb na ks bs A) (fam 0 al) := by
 rw [← h];refine ⟨eX, fun x hx => ?_, rfl, rfl⟩;simp only [gHm, cQ, AObj.refs, dL, R.refsL, R.refs, nil_append, append_nil, mem_append, mem_cons, not_mem_nil, or_false, false_or] at hx;rcases hx with (rfl | rfl | rfl) | hx
 ·exact .inl (by simp [gHm, keys])
 ·exact .inl (by simp [gHm, keys])
 ·exact .inl (by simp [gHm, keys])
 ·exact .inr (cM x hx)
def gK (sb : Core → Core) (ks : List Core) : Nat → List Core
 | 0 => ks
 | _ + 1 => ks.map sb
def gB (sb : Core → Core) (bs : List Bind) : Nat → List Bind
 | 0 => bs
 | _ + 1 => bs.map (sbB sb)
def gA (sb : Core → Core) (al : List Alt) : Nat → List Alt
 | 0 => al
 | i + 1 => kL (sbA sb) al i
theorem aKd {sb : Core → Core} {al : List Alt} : ∀ g, fam 0 (gA sb al g) = fam 0 al
 | 0 => rfl
 | i + 1 => aEr sb al 0 i
theorem kbE (l : List Bind) : l.length = (aO l).length := by rw [bD, length_map]
theorem kcE (l : List Core) : l.length = (aQ l).length := by rw [bB, length_map]
theorem yZ (f n : Int) (nm nm1 name : Str) (t by_ : Ty) (ks ks1 : List Core) (bs : List Bind) (al : List Alt) (ts : Ty → Ty) (sb : Core → Core)
  (hcs : aR (.mk f n nm t ks bs al) ≤ 570000000000) (hT : allT TyG (.mk f n nm t ks bs al)) (hkl : ks1.length = ks.length)
  (h7 : f = 7 → nm ≠ name ∧ bs = [] ∧ al = [] ∧ ∃ tl fr : List Str, aY Tryz.prog 61 [.pa (aA (.mk f n nm t ks bs al))] [] (bN tl) [] ∧ name ∈ tl ∧ tl.length ≤ 540000000000 ∧ aY Tryz.prog 63 [tyV by_] [] (bN fr) [] ∧
   aY Tryz.prog 62 [.one (.vp 700 0), bN fr] (gHl f n nm t ks [] []) (.tup []) (gHl f n nm1 t ks1 [] []))
  (hn7 : f ≠ 7 → nm1 = nm ∧ ks1 = ks)
  (hts : ∀ u, (u = t ∨ ∃ b ∈ bs, u = b.ty) → aY Tryz.prog 65 [tyV u, bN [name], .one (.c (.sl 4 [cG by_]))] [] (tyV (ts u)) [])
  (hsb : ∀ x, (x ∈ ks1 ∨ (∃ b ∈ bs, x = b.body) ∨ ∃ a ∈ al, x = a.body) → aY Tryz.prog 23 [.pa (aA x), Go.AM.T name, tyV by_] [] (.pa (aA (sb x))) []) :
  aY Tryz.prog 23 [.pa (aA (.mk f n nm t ks bs al)), Go.AM.T name, tyV by_] [] (.pa (aA (jU ts sb (.mk f n nm1 t ks1 bs al)))) [] := by
 have hog := aRf (.mk f n nm t ks bs al) hcs hT;have hog : aY Tryz.prog 59 [.pa (aA (.mk f n nm t ks bs al))] [] (.ma (dL f n nm t ks.length bs.length al.length)) (oHl ks bs al ++ fam 0 al) := hog;have hF : TF (fam 0 al) := eX;refine c8 (n := 84) tok Tryz.func23 rfl rfl rfl ?_;refine a8 (ag [] rfl ?_);refine a8 (aF mixed ?_);refine ak 1 [] rfl ?_;refine kc hog ?_ (hout' := dP.app ⟨.inr rfl, .inr rfl, .inr rfl, trivial⟩ (dP.of fun p hp => .inr ((show fZ _ by repeat (first | exact fZ.nil | (refine fZ.updL ?_) | (refine fZ.upd ?_))) p.1 (hF.far p hp))));rw [pU hF];refine ak 2 [(2, .id 700)] rfl ?_;refine az ?_;refine AWp.sub (st2 := mkt [(3, .one (.vp 3 0)), (4, .one (.vp 4 0)), (5, .one (.vp 5 0)), (6, .one (.vp 6 0)), (7, .one (.vp 700 0))] ([(3, .var 37 (bF (.mk f n nm t ks bs al))), (4, .var 9 [.c (.str name)]), (5, .var 33 ((cG by_).map R.c)), (6, .var 37 bH)] ++ gHl f n nm t ks bs al) (fam 0 al)) (slG gW (fun _ h => by cases h) (by repeat (first | exact FarEq.bif hF (FarEq.outs hF) | (refine FarEq.updL hF ?_) | (refine FarEq.upd hF ?_)))) ?_;refine a8 (AWp.cut (mkt [(4, .one (.vp 4 0)), (5, .one (.vp 5 0)), (6, .one (.vp 6 0)), (7, .one (.vp 700 0))] ([(4, .var 9 [.c (.str name)]), (5, .var 33 ((cG by_).map R.c)), (6, .var 37 bH)] ++ gHl f n nm1 t ks1 bs al) (fam 0 al)) ?_ ?_)
 ·refine a8 (ag [] rfl ?_);refine aB rfl (fun hb => ?_) (fun hb => ?_)
  ·have hf : f = 7 := zq0 (show decide (f = 7) = true from hb);obtain ⟨hne, rfl, rfl, tl, fr, hty, hin, hl, hfr, hcl⟩ := h7 hf;have hd : decide (nm = name) = false := decide_eq_false hne;have hct := bU tl name (by omega);rw [decide_eq_true hin] at hct;refine a8 (a8 (aF mixed ?_));refine ak 6 [(4, .bv false)] rfl ?_;refine kcG hty ?_;refine ak 1 [(4, .bv false)] rfl ?_;refine kcG hct ?_;refine ak 2 [(4, .bv false), (10, .bv false)] rfl ?_;refine az ?_;refine aB rfl (fun hb => by cases hb) (fun _ => ?_);refine aD ?_;refine aF mixed ?_;refine ak 1 [] rfl ?_;refine kc hfr ?_;refine kc hcl ?_;refine az ?_;exact slG gW (fun _ h => by cases h) (fun p hp => by cases hp)
  ·have hf : f ≠ 7 := zq1 (show decide (f = 7) = false from hb);obtain ⟨rfl, rfl⟩ := hn7 hf;exact aD (slG gW (fun _ h => by cases h) (by repeat (first | exact FarEq.raw hF | (refine FarEq.updL hF ?_) | (refine FarEq.upd hF ?_))))
 have hbK : ∀ j, (kL (fun b : Bind => tsB ts b) bs j).length = bs.length := fun j => lC
 have h1 : ∀ u, (u = t ∨ ∃ b ∈ bs, u = b.ty) → aY Tryz.prog 64 ([tyV u] ++ [R.vp 4 0, R.vp 5 0].map V.one) [(4, .var 9 [.c (.str name)]), (5, .var 33 ((cG by_).map R.c))] (tyV (ts u)) [(4, .var 9 [.c (.str name)]), (5, .var 33 ((cG by_).map R.c))] := fun u hu => a0c name by_ u (ts u) (hts u hu)
 have ht := h1 t (.inl rfl);have hbE := kbE bs;obtain ⟨ihk, ihb, iha, hkl', hbl, hal⟩ := @gY f n nm t ks bs al;have hbl' : bs.length ≤ 570000000000 := by omega
 refine a8 (ag [] rfl ?_);refine a8 (aF mixed ?_);refine ak 3 [] rfl ?_;refine kv (args := [tyV t]) ht ?_;refine ak 2 [] rfl ?_;refine az ?_;refine a8 (a8 (ag [] rfl ?_));refine aC ?_;have hm0 : kL (fun b : Bind => tsB ts b) bs 0 = bs := kK;refine aJ (fun i : Nat => mkt [(4, .one (.vp 4 0)), (5, .one (.vp 5 0)), (6, .one (.vp 6 0)), (7, .one (.vp 700 0)), (8, .one (.clo 64 [.vp 4 0, .vp 5 0])), (42, I .i64 ((bs.length : Nat) : Int)), (43, I .i64 i)] ([(4, .var 9 [.c (.str name)]), (5, .var 33 ((cG by_).map R.c)), (6, .var 37 bH)] ++ gHl f n nm1 (ts t) ks1 (kL (fun b : Bind => tsB ts b) bs i) al) (fam 0 al)) (fun i => i ≤ bs.length) (fun i => bs.length - i) 0 (zero_le _) ?_ ?_
 ·rw [hm0];exact slG gW (fun _ h => by cases h) (by repeat (first | exact FarEq.raw hF | (refine FarEq.updL hF ?_) | (refine FarEq.upd hF ?_)))
 intro i hi;have hBl := lC (g := fun b : Bind => tsB ts b) (bs := bs) (j := i);have hBe := kbE (kL (fun b : Bind => tsB ts b) bs i);refine a8 (ag [] rfl ?_);refine a8 (aB rfl (fun hb => ?_) (fun hb => ?_))
 ·have hlt : i < bs.length := by
   have : (i : Int) < (bs.length : Int) := zq0 hb;omega
  obtain ⟨b, hbi⟩ := aL hlt;have hat := cB (vM (g := fun b : Bind => tsB ts b) hbi);have hst := n0 (g := fun b : Bind => tsB ts b) hbi;have hl2 := lC (g := fun b : Bind => tsB ts b) (bs := bs) (j := i + 1);have hbt := h1 b.ty (.inr ⟨b, zq7 hbi, rfl⟩);rw [hst] at hl2;generalize kL (fun b : Bind => tsB ts b) bs i = B at *;have hltB : i < B.length := by omega
  refine aD ?_;refine a8 (aC (a8 (ag [] rfl ?_)));refine aF mixed ?_;refine ak 10 [(9, .row i (bA b))] rfl ?_;refine kv (args := [tyV b.ty]) hbt ?_;refine ak 3 [(13, .row i (bA b))] rfl ?_;refine az ?_;refine ag [] rfl ?_;refine ⟨i + 1, hlt, by dsimp only; omega, ?_⟩;dsimp only;rw [hst];refine slG gW (fun _ h => by cases h) (hh := ⟨⟨_, rfl, .var rfl⟩, ⟨_, rfl, .var rfl⟩, ⟨_, rfl, .var rfl⟩, ⟨_, rfl, .varS ?_⟩, ⟨_, rfl, .arrS ?_⟩, ⟨_, rfl, .arr⟩, ⟨_, rfl, .rarrS rfl⟩, trivial⟩)
  ·rw [length_set]
  ·exact iP B i (tsB ts b)
 refine aK ?_;have hge : bs.length ≤ i := by
  have : ¬ (i : Int) < (bs.length : Int) := zq1 hb;omega
 rw [vL hge] at hBl hBe ⊢;have hsbB : ∀ x ∈ bs.map (fun b : Bind => tsB ts b), aY Tryz.prog 23 [.pa (aA x.body), Go.AM.T name, tyV by_] [] (.pa (aA (sb x.body))) [] := fun x hx => by
  obtain ⟨b, hb, rfl⟩ := mem_map.1 hx;exact hsb b.body (.inr (.inl ⟨b, hb, rfl⟩))
 have eR : aA (jU ts sb (.mk f n nm1 t ks1 bs al)) = aA (.mk f n nm1 (ts t) (ks1.map sb) ((bs.map fun b : Bind => tsB ts b).map (sbB sb)) (al.map (sbA sb))) := by
  rw [map_map]; rfl
 rw [eR];have hB1l : (bs.map fun b : Bind => tsB ts b).length ≤ 570000000000 := by rw [length_map]; exact hbl'
 clear hBl hge hb hbK hm0 ht h1 hog eR hbE;generalize (bs.map fun b : Bind => tsB ts b) = B1 at *;generalize ts t = t1 at *;have hk1l : ks1.length ≤ 570000000000 := by omega
 have hal' : al.length ≤ 570000000000 := by omega
 have hgr := rD (decide (f = 5)) f n nm1 t1 ks1 B1 al rfl (by omega) (by omega) (by omega) (fun a ha => by
  have hav := eM ha;have hvl := lZ a
  rw [aR] at hcs; omega)
 have hrows := mI (f := f) (n := n) (s := nm1) (t := t1) (ks := ks1) (bs := B1) (al := al) (decide (f = 5)) al.length;rw [take_length] at hrows;have hgl : (bY (decide (f = 5)) ks1.length B1.length al.length al).length = 1 + al.length := aTa;have hra : gfo f n nm1 t1 ks1 B1 al (R.refsL (bY (decide (f = 5)) ks1.length B1.length al.length al).flatten) := by rw [cP]; exact hrows
 have hg0 : (bY (decide (f = 5)) ks1.length B1.length al.length al)[0]? = some (o8 (decide (f = 5)) ks1.length B1.length) := aTc;have hgA : ∀ i a, al[i]? = some a → (bY (decide (f = 5)) ks1.length B1.length al.length al)[i + 1]? = some (l3 al.length i a) := fun i a h => aTb h
 have htk : ∀ k r, (bY (decide (f = 5)) ks1.length B1.length al.length al)[k]? = some r → ((bY (decide (f = 5)) ks1.length B1.length al.length al).flatten.drop (k * 2)).take 2 = r := dU aBi;generalize bY (decide (f = 5)) ks1.length B1.length al.length al = G at hgr hgl hra hg0 hgA htk;generalize decide (f = 5) = b5 at hg0;refine a8 (a8 (aF mixed ?_));refine kc hgr ?_ (hin' := dP.app ⟨rfl, rfl, rfl, rfl, trivial⟩ (FarEq.raw hF).all) (hout' := dP.of fun p hp => .inl (mem_map.2 ⟨p, hp, rfl⟩)) (hok := mM hF (fun x hx => .inl (bM (show subset _ _ = true from rfl) x hx)) pS);refine ak 2 [] rfl ?_;refine az ?_;refine AWp.sub (Sub.outsT hF) ?_;refine aC ?_;have hel : ∀ K B A ex, ∀ x ∈ R.refsL G.flatten, Kn ex (gHm f n nm1 t1 ks1.length B1.length al.length K B A) (fam 0 al) x := fun K B A ex => Kn.gf hra
 refine aJ (fun g : Nat => mkt [(4, .one (.vp 4 0)), (5, .one (.vp 5 0)), (6, .one (.vp 6 0)), (7, .one (.vp 700 0)), (60, .one (.ras G.length 2 G.flatten)), (61, I .i64 ((G.length : Nat) : Int)), (62, I .i64 g)] ([(4, .var 9 [.c (.str name)]), (5, .var 33 ((cG by_).map R.c)), (6, .var 37 bH)] ++ gHm f n nm1 t1 ks1.length B1.length al.length (gK sb ks1 g) (gB sb B1 g) (gA sb al g)) (fam 0 al)) (fun g => g ≤ G.length) (fun g => G.length - g) 0 (zero_le _) (slG (gWm rfl) (fun _ h => by cases h) (FarEq.bif hF (FarEq.outs hF)) (h1 := Kn.app (Kn.of rfl) (Kn.app (Kn.of rfl) (Kn.app (Kn.of rfl) (Kn.app (Kn.of rfl) (Kn.app (hel _ _ _ _) Kn.nil)))))) ?_;intro g hg;refine a8 (ag [] rfl ?_);refine a8 (aB rfl (fun hb => ?_) (fun hb => ?_))
 ·have hlt : g < G.length := by
   have : (g : Int) < (G.length : Int) := zq0 hb;omega
  refine aD ?_;cases g with
  | zero =>
   have ht0 := htk 0 _ hg0;have hpl : (pR ks1.length B1.length B1.length).length = ks1.length + B1.length := aI6;have hpr0 : gfo f n nm1 t1 ks1 B1 al (R.refsL (pR ks1.length B1.length B1.length).flatten) := by rw [cP]; exact aMn _ _ _
   have hpr : ∀ K B A ex, ∀ x ∈ R.refsL (pR ks1.length B1.length B1.length).flatten, Kn ex (gHm f n nm1 t1 ks1.length B1.length al.length K B A) (fam 0 al) x := fun K B A ex => Kn.gf hpr0
   have hpt : ∀ k r, (pR ks1.length B1.length B1.length)[k]? = some r → ((pR ks1.length B1.length B1.length).flatten.drop (k * 1)).take 1 = r := dU sK;have hp1 : ∀ j, j < ks1.length → (pR ks1.length B1.length B1.length)[j]? = some [.ep 702 j 0 ks1.length] := fun j h => aI8 h
   have hp2 : ∀ j, j < B1.length → (pR ks1.length B1.length B1.length)[ks1.length + j]? = some [.ep 701 j 5 B1.length] := fun j h => aI7 h
   refine a8 (aC (a8 (ag [(0, .rowR 0 (o8 b5 ks1.length B1.length))] rfl ?_)));refine a8 (ag [] rfl ?_);refine aC ?_;have e0K : kL sb ks1 0 = ks1 := kK;have e0B : kL (sbB sb) B1 (0 - ks1.length) = B1 := by rw [Nat.zero_sub]; exact kK
   refine aJ (fun j : Nat => mkt [(4, .one (.vp 4 0)), (5, .one (.vp 5 0)), (6, .one (.vp 6 0)), (7, .one (.vp 700 0)), (60, .one (.ras G.length 2 G.flatten)), (61, I .i64 ((G.length : Nat) : Int)), (62, I .i64 (0 : Nat)), (67, .one (.ras (pR ks1.length B1.length B1.length).length 1 (pR ks1.length B1.length B1.length).flatten)), (68, I .i64 (((pR ks1.length B1.length B1.length).length : Nat) : Int)), (69, I .i64 j)] ([(4, .var 9 [.c (.str name)]), (5, .var 33 ((cG by_).map R.c)), (6, .var 37 bH)] ++ gHm f n nm1 t1 ks1.length B1.length al.length (kL sb ks1 j) (kL (sbB sb) B1 (j - ks1.length)) al) (fam 0 al)) (fun j => j ≤ (pR ks1.length B1.length B1.length).length) (fun j => (pR ks1.length B1.length B1.length).length - j) 0 (zero_le _) ?_ ?_
   ·rw [e0K, e0B];exact slG (gWm rfl) (fun _ h => by cases h) (h1 := Kn.app (Kn.of rfl) (Kn.app (Kn.of rfl) (Kn.app (Kn.of rfl) (Kn.app (Kn.of rfl) (Kn.app (hel _ _ _ _) (Kn.app Kn.nil (Kn.app Kn.nil (Kn.app (hpr _ _ _ _) Kn.nil))))))))
   intro j hj;refine a8 (ag [] rfl ?_);refine a8 (aB rfl (fun hb => ?_) (fun hb => ?_))
   ·have hlt2 : j < (pR ks1.length B1.length B1.length).length := by
     have : (j : Int) < ((pR ks1.length B1.length B1.length).length : Int) := zq0 hb;omega
    refine aD ?_;by_cases hjk : j < ks1.length
    ·obtain ⟨k, hki⟩ := aL hjk;have hki' := dS (vM (g := sb) hki);have hst := n0 (g := sb) hki;have hc := hsb k (.inl (zq7 hki));have ht1 := hpt j _ (hp1 j hjk);have hle := (lC (g := sb) (bs := ks1) (j := j)).symm.trans (kcE (kL sb ks1 j));have hj0 : j + 1 - ks1.length = j - ks1.length := by omega
     have hset := oQ (kL sb ks1 j) j (sb k);refine a8 (aC (a8 (ag [(0, .rowR j [.ep 702 j 0 ks1.length])] rfl ?_)));refine aF mixed ?_;refine ak 6 [(3, .row j (aA k))] rfl ?_;refine kc hc ?_;refine ak 2 [(8, .row j (aA k))] rfl ?_;refine az ?_;refine ag [] rfl ?_;refine ⟨j + 1, hlt2, by dsimp only; omega, ?_⟩;dsimp only;rw [hj0, hst];exact slG (gWm rfl) (fun _ h => by cases h) (h1 := Kn.app (Kn.of rfl) (Kn.app (Kn.of rfl) (Kn.app (Kn.of rfl) (Kn.app (Kn.of rfl) (Kn.app (hel _ _ _ _) (Kn.app Kn.nil (Kn.app Kn.nil (Kn.app (hpr _ _ _ _) Kn.nil)))))))) (hh := ⟨⟨_, rfl, .var rfl⟩, ⟨_, rfl, .var rfl⟩, ⟨_, rfl, .var rfl⟩, ⟨_, rfl, .var rfl⟩, ⟨_, rfl, .arr⟩, ⟨_, rfl, .arrS hset⟩, ⟨_, rfl, .rarrS rfl⟩, trivial⟩)
    ·obtain ⟨j', rfl⟩ : ∃ j', j = ks1.length + j' := ⟨j - ks1.length, by omega⟩
     have hjb : j' < B1.length := by omega
     obtain ⟨x, hbi⟩ := aL hjb;have eK : ∀ j', kL sb ks1 (ks1.length + j') = ks1.map sb := fun j' => vL (by omega)
     have e1 : ks1.length + j' - ks1.length = j' := by omega
     have e2 : ks1.length + j' + 1 - ks1.length = j' + 1 := by omega
     have hbi' := cB (vM (g := sbB sb) hbi);have hst := n0 (g := sbB sb) hbi;have hc := hsbB x (zq7 hbi);have ht1 := hpt (ks1.length + j') _ (hp2 j' hjb);have hle := (lC (g := sbB sb) (bs := B1) (j := j')).symm.trans (kbE (kL (sbB sb) B1 j'));have hset := iP (kL (sbB sb) B1 j') j' (sbB sb x);rw [e1];refine a8 (aC (a8 (ag [(0, .rowR (ks1.length + j') [.ep 701 j' 5 B1.length])] rfl ?_)));refine aF mixed ?_;refine ak 6 [(3, .row j' (bA x))] rfl ?_;refine kc hc ?_;refine ak 2 [(8, .row j' (bA x))] rfl ?_;refine az ?_;refine ag [] rfl ?_;refine ⟨ks1.length + j' + 1, hlt2, by dsimp only; omega, ?_⟩;dsimp only;rw [e2, hst, eK, add_assoc, eK];refine slG (gWm rfl) (fun _ h => by cases h) (h1 := Kn.app (Kn.of rfl) (Kn.app (Kn.of rfl) (Kn.app (Kn.of rfl) (Kn.app (Kn.of rfl) (Kn.app (hel _ _ _ _) (Kn.app Kn.nil (Kn.app Kn.nil (Kn.app (hpr _ _ _ _) Kn.nil)))))))) (hh := ⟨⟨_, rfl, .var rfl⟩, ⟨_, rfl, .var rfl⟩, ⟨_, rfl, .var rfl⟩, ⟨_, rfl, .var rfl⟩, ⟨_, rfl, .arrS hset⟩, ⟨_, rfl, .arr⟩, ⟨_, rfl, .rarrS rfl⟩, trivial⟩)
   refine aK ?_;have hge : j = ks1.length + B1.length := by
    have : ¬ (j : Int) < ((pR ks1.length B1.length B1.length).length : Int) := zq1 hb;omega
   have eK : kL sb ks1 j = ks1.map sb := vL (by omega);have eB : kL (sbB sb) B1 (j - ks1.length) = B1.map (sbB sb) := vL (by omega);have eA : gA sb al 1 = al := kK;rw [eK, eB];refine ag [] rfl ?_;refine ⟨1, by omega, by dsimp only; omega, ?_⟩;dsimp only;rw [eA];exact slG (gWm rfl) (fun _ h => by cases h) (h1 := Kn.app (Kn.of rfl) (Kn.app (Kn.of rfl) (Kn.app (Kn.of rfl) (Kn.app (Kn.of rfl) (Kn.app (hel _ _ _ _) Kn.nil)))))
  | succ i =>
   have hia : i < al.length := by omega
   obtain ⟨a, hai⟩ := aL hia;have ht0 := htk (i + 1) _ (hgA i a hai);have hf1 : fam 0 (gA sb al (i + 1)) = fam 0 al := aKd (i + 1);have hf2 : fam 0 (gA sb al (i + 1 + 1)) = fam 0 al := aKd (i + 1 + 1);have hrow : (aT 0 (gA sb al (i + 1)))[i]? = some (cW i a) := by
    have := lM (k := 0) (vM (g := sbA sb) hai);rwa [zero_add] at this
   have hle : al.length = (aT 0 (gA sb al (i + 1))).length := by rw [dJ]; exact (lC (g := sbA sb)).symm
   have hc := hsb a.body (.inr (.inr ⟨a, zq7 hai, rfl⟩));have hset : aT 0 (gA sb al (i + 1 + 1)) = (aT 0 (gA sb al (i + 1))).set i (cW i (sbA sb a)) := by
    show aT 0 (kL (sbA sb) al (i + 1)) = _;rw [n0 hai, rI, zero_add]; rfl
   have z1 : gK sb ks1 (i + 1 + 1) = gK sb ks1 (i + 1) := rfl;have z2 : gB sb B1 (i + 1 + 1) = gB sb B1 (i + 1) := rfl;refine a8 (aC (a8 (ag [(0, .rowR (i + 1) (l3 al.length i a))] rfl ?_)));refine a8 (ag [] rfl ?_);refine aC ?_;refine aJ (fun j : Nat => mkt [(4, .one (.vp 4 0)), (5, .one (.vp 5 0)), (6, .one (.vp 6 0)), (7, .one (.vp 700 0)), (60, .one (.ras G.length 2 G.flatten)), (61, I .i64 ((G.length : Nat) : Int)), (62, I .i64 ((i + 1 : Nat) : Int)), (67, .one (.ras 1 1 [.rp 703 i 4 al.length])), (68, I .i64 ((1 : Nat) : Int)), (69, I .i64 j)] ([(4, .var 9 [.c (.str name)]), (5, .var 33 ((cG by_).map R.c)), (6, .var 37 bH)] ++ gHm f n nm1 t1 ks1.length B1.length al.length (gK sb ks1 (i + 1)) (gB sb B1 (i + 1)) (gA sb al (i + 1 + j))) (fam 0 al)) (fun j => j ≤ 1) (fun j => 1 - j) 0 (zero_le _) (slG (gWm hf1) (fun _ h => by cases h) (h1 := Kn.app (Kn.of rfl) (Kn.app (Kn.of rfl) (Kn.app (Kn.of rfl) (Kn.app (Kn.of rfl) (Kn.app (hel _ _ _ _) (Kn.of rfl))))))) ?_;intro j hj;refine a8 (ag [] rfl ?_);refine a8 (aB rfl (fun hb => ?_) (fun hb => ?_))
   ·have hj0 : j = 0 := by
     have : (j : Int) < ((1 : Nat) : Int) := zq0 hb;omega
    subst hj0;refine aD ?_;refine a8 (aC (a8 (ag [] rfl ?_)));refine aF mixed ?_;refine ak 6 [(3, .rr (cW i a))] rfl ?_;refine kc hc ?_;refine ak 2 [(8, .rr (cW i a))] rfl ?_;refine az ?_;refine ag [] rfl ?_;refine ⟨1, le_refl _, by dsimp only; omega, ?_⟩;exact slG (gWm hf2) (fun _ h => by cases h) (h1 := Kn.app (Kn.of rfl) (Kn.app (Kn.of rfl) (Kn.app (Kn.of rfl) (Kn.app (Kn.of rfl) (Kn.app (hel _ _ _ _) (Kn.of rfl)))))) (hh := ⟨⟨_, rfl, .var rfl⟩, ⟨_, rfl, .var rfl⟩, ⟨_, rfl, .var rfl⟩, ⟨_, rfl, .var rfl⟩, ⟨_, rfl, .arr⟩, ⟨_, rfl, .arr⟩, ⟨_, rfl, .rarrS hset.symm⟩, trivial⟩)
   refine aK ?_;have hj1 : j = 1 := by
    have : ¬ (j : Int) < ((1 : Nat) : Int) := zq1 hb;omega
   subst hj1;refine ag [] rfl ?_;refine ⟨i + 1 + 1, by omega, by dsimp only; omega, ?_⟩;exact slG (gWm hf2) (fun _ h => by cases h) (h1 := Kn.app (Kn.of rfl) (Kn.app (Kn.of rfl) (Kn.app (Kn.of rfl) (Kn.app (Kn.of rfl) (Kn.app (hel _ _ _ _) Kn.nil)))))
 have hgs : g = al.length + 1 := by
  have : ¬ (g : Int) < (G.length : Int) := zq1 hb;omega
 subst hgs;refine aK ?_;have eA : gA sb al (al.length + 1) = al.map (sbA sb) := aNy;have eF : fam 0 (al.map (sbA sb)) = fam 0 al := by rw [← eA]; exact aKd _
 have lA : (al.map (sbA sb)).length = al.length := length_map _;have lB : (B1.map (sbB sb)).length = B1.length := length_map _;have lK : (ks1.map sb).length = ks1.length := length_map _;rw [eA];have z1 : gK sb ks1 (al.length + 1) = ks1.map sb := rfl;have z2 : gB sb B1 (al.length + 1) = B1.map (sbB sb) := rfl;rw [z1, z2];generalize al.map (sbA sb) = A2 at *;generalize B1.map (sbB sb) = B2 at *;generalize ks1.map sb = K2 at *;refine AWp.sub (aM4 (f := f) (n := n) (nm := nm1) (t := t1) (ks := K2) (bs := B2) (al := A2) (r := 6) (v := 7) rfl rfl (by rw [eF]; repeat (first | exact FarEq.raw hF | (refine FarEq.updL hF ?_) | (refine FarEq.upd hF ?_))) ⟨rfl, rfl, trivial⟩ ⟨⟨_, rfl, .varS (by rw [lK, lB, lA])⟩, ⟨_, rfl, .arr⟩, ⟨_, rfl, .arr⟩, ⟨_, rfl, .rarrS rfl⟩, trivial⟩ ⟨_, rfl, .var rfl⟩ rfl (by decide)) ?_;refine a8 (ag [] rfl ?_);exact aE (rtC trw)
theorem aD3 {l : List Str} {k : Nat} (h : ∀ s ∈ l, s.length ≤ k) (n : Int) : (oneOf l n).length ≤ k := by
 unfold oneOf;cases hx : l[(kX n l.length).toNat]? with
 | none => exact zero_le _
 | some s => exact h s (zq7 hx)
theorem nW {f n : Int} {s : Str} (h4 : ¬ f = 4) (h5 : ¬ f = 5) : wfT (.mk f n s []) = true := by rw [wfT, if_neg h4, if_neg h5, aPq]; rfl
theorem aAl {f n : Int} {s : Str} : tn (.mk f n s []) = 1 + s.length := by rw [tn, tns, add_zero]
theorem aAf {a b : Ty} (ha : wfT a = true) (hb : wfT b = true) : wfT (aHw a b) = true := by
 unfold aHw;rw [wfT, if_pos rfl, aPq, aPq, aPq, ha, hb]; rfl
theorem aAk (a b : Ty) : tn (aHw a b) = 1 + tn a + tn b := by unfold aHw; rw [tn, tns, tns, tns]; simp; omega
def tsm : Nat → Nat
 | 0 => 6
 | f + 1 => 2 * tsm f + 6
theorem aVd : ∀ f, 6 ≤ tsm f
 | 0 => le_refl _
 | f + 1 => by rw [tsm]; omega
theorem a0q : ∀ s ∈ l5, s.length ≤ 1 := by decide
theorem aAi : ∀ (f : Nat) (l : List Int), wfT (cC f l).1 = true ∧ tn (cC f l).1 ≤ tsm f
 | 0, l => by
  have h1 := aD3 a0q ((aW l).1 / 6);unfold cC;split
  ·exact ⟨nW (by decide) (by decide), by rw [aAl, tsm]; omega⟩
  ·exact ⟨nW (by decide) (by decide), by show tn aMi ≤ 6; decide⟩
 | f + 1, l => by
  have h1 := aD3 a0q ((aW l).1 / 6);obtain ⟨a1, a2⟩ := aAi f (aW l).2;obtain ⟨b1, b2⟩ := aAi f (cC f (aW l).2).2;have hg := aVd f;unfold cC;split
  ·exact ⟨nW (by decide) (by decide), by rw [aAl, tsm]; omega⟩
  ·split
   ·have h4 : tn aMi = 4 := by decide
    exact ⟨nW (by decide) (by decide), by rw [tsm]; show tn aMi ≤ _; omega⟩
   ·split
    ·refine ⟨aAf (aAf (nW (by decide) (by decide)) a1) b1, ?_⟩;dsimp only [aYt];rw [aAk, aAk, aAl, tsm];have : arrow.length = 2 := rfl;omega
    ·split
     ·refine ⟨aAf (nW (by decide) (by decide)) a1, ?_⟩;dsimp only;rw [aAk, tsm];have : tn tL = 2 := by decide
      omega
     ·refine ⟨?_, ?_⟩
      ·dsimp only;rw [wfT, if_neg (by decide), if_pos rfl, aPq, aPq, a1]; rfl
      ·dsimp only;rw [tn, tns, tns, tsm]; omega
mutual
def skT : Core → Core
 | .mk f n s _ ks bs al => .mk f n (if f = 7 then [] else s) zTy (aUp ks) (aM6 bs) (aUq al)
def aUp : List Core → List Core
 | [] => []
 | c :: l => skT c :: aUp l
def aM6 : List Bind → List Bind
 | [] => []
 | .mk s _ c :: l => .mk s zTy (skT c) :: aM6 l
def aUq : List Alt → List Alt
 | [] => []
 | .mk f n s vs c :: l => .mk f n s vs (skT c) :: aUq l
end
def skB (b : Bind) : Bind := .mk b.name zTy (skT b.body)
def skA (a : Alt) : Alt := .mk a.form a.n a.name a.vars (skT a.body)
theorem uO : ∀ l : List Core, aUp l = l.map skT
 | [] => rfl
 | c :: l => by rw [aUp, uO l]; rfl
theorem uP : ∀ l : List Bind, aM6 l = l.map skB
 | [] => rfl
 | .mk s t c :: l => by rw [aM6, uP l]; rfl
theorem uQ : ∀ l : List Alt, aUq l = l.map skA
 | [] => rfl
 | .mk f n s vs c :: l => by rw [aUq, uQ l]; rfl
mutual
def wfC : Core → Bool
 | .mk f _ _ _ ks bs al => (!decide (f = 5 ∨ f = 6 ∨ f = 7) || (ks.length == 1 && bs.isEmpty && al.isEmpty)) && (!decide (f = 1) || (ks.isEmpty && bs.isEmpty && al.isEmpty)) && x4 ks && oK bs && oL al
def x4 : List Core → Bool
 | [] => true
 | c :: l => wfC c && x4 l
def oK : List Bind → Bool
 | [] => true
 | .mk _ _ c :: l => wfC c && oK l
def oL : List Alt → Bool
 | [] => true
 | .mk _ _ _ _ c :: l => wfC c && oL l
end
theorem aCe : ∀ {l : List Core}, x4 l = true ↔ ∀ x ∈ l, wfC x = true
 | [] => by simp [x4]
 | c :: l => by rw [x4, Bool.and_eq_true, aCe (l := l)]; simp
theorem aCf : ∀ {l : List Bind}, oK l = true ↔ ∀ x ∈ l, wfC x.body = true
 | [] => by simp [oK]
 | .mk s t c :: l => by rw [oK, Bool.and_eq_true, aCf (l := l)]; simp [Bind.body]
theorem aCh : ∀ {l : List Alt}, oL l = true ↔ ∀ x ∈ l, wfC x.body = true
 | [] => by simp [oL]
 | .mk f n s vs c :: l => by rw [oL, Bool.and_eq_true, aCh (l := l)]; simp [Alt.body]
theorem aPs {f n : Int} {nm : Str} {t : Ty} {ks : List Core} {bs : List Bind} {al : List Alt} (h1 : f = 5 ∨ f = 6 ∨ f = 7 → (∃ k, ks = [k]) ∧ bs = [] ∧ al = []) (h0 : f = 1 → ks = [] ∧ bs = [] ∧ al = [])
  (h3 : ∀ x ∈ ks, wfC x = true) (h4 : ∀ x ∈ bs, wfC x.body = true) (h5 : ∀ x ∈ al, wfC x.body = true) : wfC (.mk f n nm t ks bs al) = true := by
 rw [wfC, Bool.and_eq_true, Bool.and_eq_true, Bool.and_eq_true, Bool.and_eq_true];refine ⟨⟨⟨⟨?_, ?_⟩, aCe.2 h3⟩, aCf.2 h4⟩, aCh.2 h5⟩
 ·by_cases hf : f = 5 ∨ f = 6 ∨ f = 7
  ·obtain ⟨⟨k, rfl⟩, rfl, rfl⟩ := h1 hf;simp
  ·rw [decide_eq_false hf]; rfl
 ·by_cases hf : f = 1
  ·obtain ⟨rfl, rfl, rfl⟩ := h0 hf;simp
  ·rw [decide_eq_false hf]; rfl
theorem s4 : ∀ l : List Bind, (aM6 l).map Bind.name = l.map Bind.name
 | [] => rfl
 | .mk s t c :: l => by rw [aM6, map_cons, map_cons, s4 l]; rfl
theorem aZz (f : Int) (s : Str) (bs : List Bind) : gvN f (if f = 7 then [] else s) (aM6 bs) = gvN f s bs := by
 unfold gvN;rw [s4];by_cases h5 : f = 5
 ·rw [if_neg (show ¬ f = 7 by omega)]
 ·rw [if_neg h5, if_neg h5]
mutual
theorem aIz : ∀ c : Core, pfR (skT c) = pfR c
 | .mk f n s t ks bs al => by
  rw [skT, pfR, pfR, aZz, aQg _ ks, aQh _ bs, aQi al];by_cases h1 : f = 1
  ·rw [if_pos h1, if_pos h1, if_neg (show ¬ f = 7 by omega)]
  ·rw [if_neg h1, if_neg h1]
theorem aQg (G : List Str) : ∀ (l : List Core) (o : List Str), pH G (aUp l) o = pH G l o
 | [], _ => rfl
 | c :: l, o => by rw [aUp, pH, pH, aIz c, aQg G l]
theorem aQh (G : List Str) : ∀ (l : List Bind) (o : List Str), rM G (aM6 l) o = rM G l o
 | [], _ => rfl
 | .mk s t c :: l, o => by rw [aM6, rM, rM, aIz c, aQh G l]
theorem aQi : ∀ (l : List Alt) (o : List Str), rR (aUq l) o = rR l o
 | [], _ => rfl
 | .mk f n s vs c :: l, o => by rw [aUq, rR, rR, aIz c, aQi l]
end
theorem aH3 {ts : Ty → Ty} {sb : Core → Core} {f n : Int} {nm nm1 : Str} {t : Ty} {ks ks1 : List Core} {bs : List Bind} {al : List Alt} (hn : f ≠ 7 → nm1 = nm) (hk : ks1.map skT = ks.map skT)
  (h1 : ∀ x ∈ ks1, skT (sb x) = skT x) (h2 : ∀ b ∈ bs, skT (sb b.body) = skT b.body) (h3 : ∀ a ∈ al, skT (sb a.body) = skT a.body) :
  skT (jU ts sb (.mk f n nm1 t ks1 bs al)) = skT (.mk f n nm t ks bs al) := by
 rw [jU, skT, skT, uO, uO, uP, uP, uQ, uQ, map_map, map_map, map_map];have e1 : ks1.map (skT ∘ sb) = ks.map skT := by rw [← hk]; exact map_congr_left h1
 have e2 : bs.map (skB ∘ fun b => Bind.mk b.name (ts b.ty) (sb b.body)) = bs.map skB := map_congr_left fun b hb => by
  show Bind.mk b.name zTy (skT (sb b.body)) = _;rw [h2 b hb]; rfl
 have e3 : al.map (skA ∘ fun a => Alt.mk a.form a.n a.name a.vars (sb a.body)) = al.map skA := map_congr_left fun a ha => by
  show Alt.mk a.form a.n a.name a.vars (skT (sb a.body)) = _;rw [h3 a ha]; rfl
 rw [e1, e2, e3];by_cases h7 : f = 7
 ·rw [if_pos h7, if_pos h7]
 ·rw [if_neg h7, if_neg h7, hn h7]
theorem aEc {g : Core → Core} : ∀ {l : List Core}, (∀ x ∈ l, m30 (g x) ≤ m30 x) → cS (l.map g) ≤ cS l
 | [], _ => le_refl _
 | c :: l, h => by
  rw [map_cons, cS, cS];have := h c zq2;have := aEc (l := l) fun x hx => h x (zq3 _ hx)
  omega
theorem aEf {ts : Ty → Ty} {g : Core → Core} : ∀ {l : List Bind}, (∀ x ∈ l, m30 (g x.body) ≤ m30 x.body) → fR (l.map fun b => .mk b.name (ts b.ty) (g b.body)) ≤ fR l
 | [], _ => le_refl _
 | .mk s t c :: l, h => by
  rw [map_cons, fR, fR];have h1 := h _ zq2;have h2 := aEf (ts := ts) (l := l) fun x hx => h x (zq3 _ hx)
  simp only [Bind.body, Bind.name] at h1 h2 ⊢;omega
theorem aEg {g : Core → Core} : ∀ {l : List Alt}, (∀ x ∈ l, m30 (g x.body) ≤ m30 x.body) → iL (l.map fun a => .mk a.form a.n a.name a.vars (g a.body)) ≤ iL l
 | [], _ => le_refl _
 | .mk f n s vs c :: l, h => by
  rw [map_cons, iL, iL];have h1 := h _ zq2;have h2 := aEg (l := l) fun x hx => h x (zq3 _ hx)
  simp only [Alt.body, Alt.name, Alt.vars] at h1 h2 ⊢;omega
theorem aJv {ts : Ty → Ty} {sb : Core → Core} {f n : Int} {nm nm1 : Str} {t : Ty} {ks ks1 : List Core} {bs : List Bind} {al : List Alt} (hn : w30 nm1 ≤ w30 nm) (hk : cS ks1 ≤ cS ks)
  (h1 : ∀ x ∈ ks1, m30 (sb x) ≤ m30 x) (h2 : ∀ b ∈ bs, m30 (sb b.body) ≤ m30 b.body) (h3 : ∀ a ∈ al, m30 (sb a.body) ≤ m30 a.body) :
  m30 (jU ts sb (.mk f n nm1 t ks1 bs al)) ≤ m30 (.mk f n nm t ks bs al) := by
 rw [jU, m30, m30];have := aEc h1;have := aEf (ts := ts) h2;have := aEg h3;omega
def TOk (K : Nat) (t : Ty) : Prop := wfT t = true ∧ t30 t ≤ K
noncomputable def oZ (sb : Core → Str → Core → Core) (s : Str) (b : Core) : Core → Core
 | .mk f n nm t ks bs al => .mk f n (zNm sb f nm s b ks bs 1) t (zKs sb f nm s b ks bs 1) (zBs sb f nm s b ks bs 1) (al.map (j1 sb s b))
theorem aK4 (f n : Int) (nm : Str) (t : Ty) (ks : List Core) (bs : List Bind) (al : List Alt) (s : Str) (b : Core) (hv : f = 1 ∧ nm = s) (hcb : aR b ≤ 570000000000) (hTb : allT TyG b) :
  aY Tryz.prog 25 [.pa (aA (.mk f n nm t ks bs al)), Go.AM.T s, .pa (aA b)] [] (.pa (aA b)) [] := by
 have hob := tM (aR b) b (le_refl _) hcb hTb;have hob : aY Tryz.prog 59 [.pa (aA b)] [] (.pa (aA b)) [] := hob;have hd1 : decide (f = 1) = true := decide_eq_true hv.1;have hd2 : decide (nm = s) = true := decide_eq_true hv.2;refine c8 (n := 47) tok Tryz.func25 rfl rfl rfl ?_;refine a8 (ag [] rfl ?_);refine a8 (a8 (ag [(3, .bv true), (8, .bv true)] rfl ?_));refine aB rfl (fun _ => ?_) (fun hb => ?_)
 ·refine a8 (aF mixed ?_);refine ak 1 [] rfl ?_;refine kc hob ?_;refine ak 1 [] rfl ?_;refine az ?_;exact aE (rtC trw)
 ·exact absurd (show decide (nm = s) = false from hb) (by rw [hd2]; decide)
theorem oD (sb : Core → Str → Core → Core) (P : Core → Prop) (f n : Int) (nm0 nm : Str) (t : Ty) (ks0 ks : List Core) (bs : List Bind) (al : List Alt) (s : Str) (b : Core)
  (hcs : aR (.mk f n nm0 t ks0 bs al) ≤ 570000000000) (hT : allT TyG (.mk f n nm0 t ks0 bs al)) (hv : ¬ (f = 1 ∧ nm0 = s)) (hkl0 : ks.length = ks0.length)
  (w2 : f = 5 → (∃ k, ks = [k]) ∧ bs = [] ∧ al = [])
  (h7 : f = 7 → bs = [] ∧ al = [] ∧ ∃ fl : List Str, aY Tryz.prog 67 [.pa (aA (.mk f n nm0 t ks0 bs al))] [] (bN fl) [] ∧ fl.length ≤ 540000000000 ∧
   (s ∈ fl → ∃ tl : List Str, aY Tryz.prog 61 [.pa (aA b)] [] (bN tl) [] ∧ aY Tryz.prog 62 [.one (.vp 700 0), bN tl] (gHl f n nm0 t ks0 [] []) (.tup []) (gHl f n nm t ks [] [])) ∧
   (¬ s ∈ fl → nm = nm0 ∧ ks = ks0))
  (hn7 : f ≠ 7 → nm = nm0 ∧ ks = ks0)
  (hok : PutOk sb P s b (ks ++ bs.map Bind.body)) (hokA : ∀ a ∈ al, PutOk sb P s b [a.body])
  (hM : ((ks ++ bs.map Bind.body).flatMap pfR).length + 2 * (1 + bs.length) + (pfR b).length + (ks.length + bs.length) ≤ 540000000000)
  (hMA : ∀ a ∈ al, (pfR a.body).length + 2 * a.vars.length + (pfR b).length + 1 ≤ 540000000000) :
  aY Tryz.prog 25 [.pa (aA (.mk f n nm0 t ks0 bs al)), Go.AM.T s, .pa (aA b)] [] (.pa (aA (oZ sb s b (.mk f n nm t ks bs al)))) [] := by
 have hog := aRf _ hcs hT;have hog : aY Tryz.prog 59 [.pa (aA (.mk f n nm0 t ks0 bs al))] [] (.ma (dL f n nm0 t ks0.length bs.length al.length)) (oHl ks0 bs al ++ fam 0 al) := hog;refine c8 (n := 47) tok Tryz.func25 rfl rfl rfl ?_;refine a8 (ag [] rfl ?_);refine a8 (AWp.cut (mk [(1, Go.AM.T s), (3, .one (.vp 3 0)), (5, .one (.vp 5 0)), (6, .one (.vp 6 0))] [(3, .var 37 (bF (.mk f n nm0 t ks0 bs al))), (5, .var 37 (bF b)), (6, .var 37 bH)]) ?_ ?_)
 ·by_cases hf1 : f = 1
  ·have hd1 : decide (f = 1) = true := decide_eq_true hf1;have hd2 : decide (nm0 = s) = false := decide_eq_false fun h => hv ⟨hf1, h⟩
   refine a8 (ag [(3, .bv true), (8, .bv true)] rfl ?_);refine aB rfl (fun hb => ?_) (fun _ => aD sl);exact absurd (show decide (nm0 = s) = true from hb) (by rw [hd2]; decide)
  ·have hd1 : decide (f = 1) = false := decide_eq_false hf1;refine a8 (ag [(3, .bv false), (8, .bv false)] rfl ?_);exact aB rfl (fun hb => by cases hb) (fun _ => aD sl)
 have hF : TF (fam 0 al) := eX;refine a8 (aF mixed ?_);refine ak 1 [] rfl ?_;refine kc hog ?_ (hout' := dP.app ⟨.inr rfl, .inr rfl, .inr rfl, trivial⟩ (dP.of fun p hp => .inr ((show fZ _ by repeat (first | exact fZ.nil | (refine fZ.updL ?_) | (refine fZ.upd ?_))) p.1 (hF.far p hp))));rw [pU hF];refine ak 2 [(2, .id 700)] rfl ?_;refine az ?_;refine AWp.sub (st2 := mkt [(1, Go.AM.T s), (3, .one (.vp 3 0)), (5, .one (.vp 5 0)), (6, .one (.vp 6 0)), (7, .one (.vp 700 0))] ([(3, .var 37 (bF (.mk f n nm0 t ks0 bs al))), (5, .var 37 (bF b)), (6, .var 37 bH)] ++ gHl f n nm0 t ks0 bs al) (fam 0 al)) (slG gW (fun _ h => by cases h) (by repeat (first | exact FarEq.bif hF (FarEq.outs hF) | (refine FarEq.updL hF ?_) | (refine FarEq.upd hF ?_)))) ?_;refine a8 (AWp.cut (mkt [(1, Go.AM.T s), (3, .one (.vp 3 0)), (5, .one (.vp 5 0)), (6, .one (.vp 6 0)), (7, .one (.vp 700 0))] ([(3, .var 37 (bF (.mk f n nm0 t ks0 bs al))), (5, .var 37 (bF b)), (6, .var 37 bH)] ++ gHl f n nm t ks bs al) (fam 0 al)) ?_ ?_)
 ·by_cases hf7 : f = 7
  ·have hd7 : decide (f = 7) = true := decide_eq_true hf7;obtain ⟨rfl, rfl, fl, hfr, hfl, hy, hn⟩ := h7 hf7;have hct := bU fl s (by omega);refine a8 (aF mixed ?_);refine ak 5 [(3, .bv true)] rfl ?_;refine kcG hfr ?_;refine ak 1 [(3, .bv true)] rfl ?_;by_cases hin : s ∈ fl
   ·rw [decide_eq_true hin] at hct;obtain ⟨tl, hty, hcl⟩ := hy hin;refine kcG hct ?_;refine ak 1 [(3, .bv true), (8, .bv true)] rfl ?_;refine az ?_;refine aB rfl (fun _ => ?_) (fun hb => by cases hb);refine aF mixed ?_;refine ak 1 [] rfl ?_;refine kc hty ?_;refine kc hcl ?_;refine az ?_;exact slG gW (fun _ h => by cases h) (fun p hp => by cases hp)
   ·rw [decide_eq_false hin] at hct;obtain ⟨rfl, rfl⟩ := hn hin;refine kcG hct ?_;refine ak 1 [(3, .bv true), (8, .bv true)] rfl ?_;refine az ?_;refine aB rfl (fun hb => by cases hb) (fun _ => ?_);exact aD (slG gW (fun _ h => by cases h) (fun p hp => by cases hp))
  ·have hd7 : decide (f = 7) = false := decide_eq_false hf7;obtain ⟨rfl, rfl⟩ := hn7 hf7;refine a8 (ag [(3, .bv false), (8, .bv false)] rfl ?_);refine aB rfl (fun hb => by cases hb) (fun _ => ?_);exact aD (slG gW (fun _ h => by cases h) (by repeat (first | exact FarEq.raw hF | (refine FarEq.updL hF ?_) | (refine FarEq.upd hF ?_))))
 have hR := pF (sb := sb) (s := s) (b := b) (ns := gvN f nm bs) (ps := ks ++ bs.map Bind.body);have hN1 : ∀ g, (zKs sb f nm s b ks bs g).length = ks.length := fun g => by
  cases g with
  | zero => rfl
  | succ g => show (List.take _ _).length = _; rw [length_take, hR.2, length_append]; omega
 have hbsl : (bs.map Bind.ty).length = bs.length := length_map _;have hN2 : ∀ g, (zBs sb f nm s b ks bs g).length = bs.length := fun g => by
  cases g with
  | zero => rfl
  | succ g =>
   show (mkB _ _ _).length = _;by_cases hf5 : f = 5
   ·obtain ⟨_, rfl, _⟩ := w2 hf5;rfl
   ·rw [qY, hbsl]
    ·rw [hR.1]; unfold gvN; rw [if_neg hf5]; simp
    ·rw [length_drop, hR.2, length_append]; simp
 have hN3 : ∀ g, (zAs sb s b al g).length = al.length := fun g => by
  cases g with
  | zero => rfl
  | succ g => exact wO
 have hcm := hcs;rw [aR] at hcm;have hkl := lF ks0;have hbl := lJ bs;have hall := lL al
 have hgr := rD (decide (f = 5)) f n nm t ks bs al rfl (by omega) (by omega) (by omega) (fun a ha => by
  have hav := eM ha;have hvl := lZ a
  omega)
 have hrows := mI (f := f) (n := n) (s := nm) (t := t) (ks := ks) (bs := bs) (al := al) (decide (f = 5)) al.length;rw [take_length] at hrows;have hgl : (bY (decide (f = 5)) ks.length bs.length al.length al).length = 1 + al.length := aTa;have hra : gfo f n nm t ks bs al (R.refsL (bY (decide (f = 5)) ks.length bs.length al.length al).flatten) := by rw [cP]; exact hrows
 have hg0 : (bY (decide (f = 5)) ks.length bs.length al.length al)[0]? = some (o8 (decide (f = 5)) ks.length bs.length) := aTc;have hgA : ∀ i a, al[i]? = some a → (bY (decide (f = 5)) ks.length bs.length al.length al)[i + 1]? = some (l3 al.length i a) := fun i a h => aTb h
 have htk : ∀ k r, (bY (decide (f = 5)) ks.length bs.length al.length al)[k]? = some r → ((bY (decide (f = 5)) ks.length bs.length al.length al).flatten.drop (k * 2)).take 2 = r := dU aBi;generalize bY (decide (f = 5)) ks.length bs.length al.length al = G at hgr hgl hra hg0 hgA htk;refine a8 (a8 (aF mixed ?_));refine kc hgr ?_ (hin' := dP.app ⟨rfl, rfl, rfl, rfl, trivial⟩ (FarEq.raw hF).all) (hout' := dP.of fun p hp => .inl (mem_map.2 ⟨p, hp, rfl⟩)) (hok := mM hF (fun x hx => .inl (bM (show subset _ _ = true from rfl) x hx)) pS);refine ak 2 [] rfl ?_;refine az ?_;refine AWp.sub (Sub.outsT hF) ?_;refine aC ?_;have hel : ∀ g ex, ∀ x ∈ R.refsL G.flatten, Kn ex (gHl f n (zNm sb f nm s b ks bs g) t (zKs sb f nm s b ks bs g) (zBs sb f nm s b ks bs g) (zAs sb s b al g)) (fam 0 (zAs sb s b al g)) x := fun g ex x hx => by
  rcases hra x hx with h | h
  ·exact .inr (.inl (by simpa [gHl, keys] using h))
  ·exact .inr (.inr (by rw [wB (hN3 g)]; exact h))
 have hTF : ∀ g, TF (fam 0 (zAs sb s b al g)) := fun g => eX
 refine aJ (fun g : Nat => mkt [(1, Go.AM.T s), (5, .one (.vp 5 0)), (6, .one (.vp 6 0)), (7, .one (.vp 700 0)), (35, .one (.ras G.length 2 G.flatten)), (36, I .i64 ((G.length : Nat) : Int)), (37, I .i64 g)] ([(5, .var 37 (bF b)), (6, .var 37 bH)] ++ gHl f n (zNm sb f nm s b ks bs g) t (zKs sb f nm s b ks bs g) (zBs sb f nm s b ks bs g) (zAs sb s b al g)) (fam 0 (zAs sb s b al g))) (fun g => g ≤ G.length) (fun g => G.length - g) 0 (zero_le _) (slG gW (fun _ h => by cases h) (FarEq.bif hF (FarEq.outs hF)) (h1 := Kn.app Kn.nil (Kn.app (Kn.of rfl) (Kn.app (Kn.of rfl) (Kn.app (Kn.of rfl) (Kn.app (hel 0 _) Kn.nil)))))) ?_;intro g hg;have hFg := hTF g;refine a8 (ag [] rfl ?_);refine a8 (aB rfl (fun hb => ?_) (fun hb => ?_))
 ·have hlt : g < G.length := by
   have : (g : Int) < (G.length : Int) := zq0 hb;omega
  refine aD ?_;cases g with
  | zero =>
   have ht0 := htk 0 _ hg0;by_cases hf5 : f = 5
   ·have hd5 : decide (f = 5) = true := decide_eq_true hf5;obtain ⟨⟨x, rfl⟩, rfl, rfl⟩ := w2 hf5;subst hf5;have hM' := hM;simp only [map_nil, append_nil, flatMap_cons, flatMap_nil, length_cons, length_nil] at hM';obtain ⟨x', q, hq, hput⟩ := aXr n t nm x s b sb _ hok (by omega);have hgv : gvN 5 nm [] = [nm] := rfl;have e1 : zNm sb 5 nm s b [x] [] 1 = x' := by
     show (if (5 : Int) = 5 then (cK sb s b (gvN 5 nm []) ([x] ++ [].map Bind.body)).1.headD nm else nm) = x';rw [if_pos rfl, hgv];show (cK sb s b [nm] [x]).1.headD nm = x';rw [hq]; rfl
    have e2 : zKs sb 5 nm s b [x] [] 1 = [q] := by
     show (cK sb s b (gvN 5 nm []) ([x] ++ [].map Bind.body)).2.take 1 = [q];rw [hgv];show (cK sb s b [nm] [x]).2.take 1 = [q];rw [hq]; rfl
    have e3 : zBs sb 5 nm s b [x] [] 1 = [] := rfl;have e4 : zAs sb s b [] 1 = [] := rfl;refine a8 (aC (a8 (ag [(0, .rowR 0 (o8 true 1 0))] rfl ?_)));refine aF mixed ?_;refine ak 3 [] rfl ?_;refine kc hput ?_;refine az ?_;refine ag [] rfl ?_;refine ⟨1, hlt, by dsimp only; omega, ?_⟩;have hel1 := hel 1;rw [e1, e2, e3, e4] at hel1;dsimp only;rw [e1, e2, e3, e4];exact slG gW (fun _ h => by cases h) (fun p hp => by cases hp) (h1 := Kn.app Kn.nil (Kn.app (Kn.of rfl) (Kn.app (Kn.of rfl) (Kn.app (Kn.of rfl) (Kn.app (hel1 _) Kn.nil)))))
   ·have hd5 : decide (f = 5) = false := decide_eq_false hf5;have hgv : gvN f nm bs = bs.map Bind.name := by unfold gvN; rw [if_neg hf5]; rfl
    have hput := aXq (bs.map Bind.ty) ks.length (bs.map Bind.name) (ks ++ bs.map Bind.body) s b sb _ (by simp) (by simp) hok (by simp only [length_map, length_append]; omega);have eH : tH (bs.map Bind.ty) ks.length (bs.map Bind.name) (ks ++ bs.map Bind.body) = [(701, .arr 73 15 (aO bs) 0), (702, .arr 37 10 (aQ ks) 0)] := by
     unfold tH;rw [drop_left, take_left, aJl]
    rw [eH, hbsl] at hput;have hr0 : o8 (decide (f = 5)) ks.length bs.length = [.ras (tN bs.length).length 1 (tN bs.length), .ras (tP ks.length bs.length).length 1 (tP ks.length bs.length)] := aZ5 hd5;rw [hr0] at hg0 ht0;have eB : aO (zBs sb f nm s b ks bs 1) = aO (mkB (bs.map Bind.ty) (cK sb s b (bs.map Bind.name) (ks ++ bs.map Bind.body)).1 ((cK sb s b (bs.map Bind.name) (ks ++ bs.map Bind.body)).2.drop ks.length)) := by
     show aO (mkB _ _ _) = _;rw [hgv]
    have eK : aQ (zKs sb f nm s b ks bs 1) = aQ ((cK sb s b (bs.map Bind.name) (ks ++ bs.map Bind.body)).2.take ks.length) := by
     show aQ (List.take _ _) = _;rw [hgv]
    have eN : zNm sb f nm s b ks bs 1 = nm := by show (if f = 5 then _ else nm) = nm; rw [if_neg hf5]
    have eA : zAs sb s b al 1 = al := aLz;have l1 := hN1 1;have l2 := hN2 1;refine a8 (aC (a8 (ag [(0, .rowR 0 [.ras (tN bs.length).length 1 (tN bs.length), .ras (tP ks.length bs.length).length 1 (tP ks.length bs.length)])] rfl ?_)));refine aF mixed ?_;refine ak 3 [] rfl ?_;refine kc hput ?_ (hok := ?_);refine az ?_;refine ag [] rfl ?_;refine ⟨1, hlt, by dsimp only; omega, ?_⟩;have hel1 := hel 1;dsimp only;rw [eN, eA] at hel1 ⊢;refine slG gW (fun _ h => by cases h) (by repeat (first | exact FarEq.raw hF | (refine FarEq.updL hF ?_) | (refine FarEq.upd hF ?_))) (h1 := Kn.app Kn.nil (Kn.app (Kn.of rfl) (Kn.app (Kn.of rfl) (Kn.app (Kn.of rfl) (Kn.app (hel1 _) Kn.nil))))) (hh := ⟨⟨_, rfl, .varS rfl⟩, ⟨_, rfl, .varS rfl⟩, ⟨_, rfl, .varS ?_⟩, ⟨_, rfl, .arrS ?_⟩, ⟨_, rfl, .arrS ?_⟩, ⟨_, rfl, .rarrS rfl⟩, trivial⟩)
    ·rw [l1, l2]; rfl
    ·exact eB.symm
    ·exact eK.symm
    ·refine mM (F := []) ⟨fun _ h => (by cases h), nodup_nil, fun _ h => (by cases h)⟩ (fun x hx => .inl ?_) (fun x hx => by cases hx);have hx : x ∈ (grO (tN bs.length) (tP ks.length bs.length)).refs := by simpa [grO, gpV, AObj.refs, V.refsL, V.refs, R.refsL, R.refs] using hx
     rcases aAs x hx with rfl | rfl
     ·simp [keys]
     ·simp [keys]
  | succ i =>
   have hia : i < al.length := by omega
   obtain ⟨a, hai⟩ := aL hia;have ht0 := htk (i + 1) _ (hgA i a hai);have hm := zq7 hai;have hok := hokA a hm;have hMa := hMA a hm;have hz1 : zAs sb s b al (i + 1) = rJ sb s b al i := rfl;have hz2 : zAs sb s b al (i + 1 + 1) = (rJ sb s b al i).set i (j1 sb s b a) := aL0 hai;have hz3 : zNm sb f nm s b ks bs (i + 1 + 1) = zNm sb f nm s b ks bs (i + 1) := rfl;have hz4 : zKs sb f nm s b ks bs (i + 1 + 1) = zKs sb f nm s b ks bs (i + 1) := rfl;have hz5 : zBs sb f nm s b ks bs (i + 1 + 1) = zBs sb f nm s b ks bs (i + 1) := rfl;obtain ⟨q, hq, hput⟩ := aTt (rJ sb s b al i) i a (aUf hai) s b sb _ hok (by omega) (vR i a.vars.length a.vars.length).length (fN _ _) al.length wO.symm;have hnew : (Alt.mk a.form a.n a.name (cK sb s b a.vars [a.body]).1 q) = j1 sb s b a := by unfold j1; rw [hq]; rfl
   rw [hnew] at hput;have hvl : (vR i a.vars.length a.vars.length).length = a.vars.length := fN _ _;have hel2 := hel (i + 1 + 1);have hTF2 := hTF (i + 1 + 1);have hA3 := hN3 (i + 1 + 1);rw [hz2] at hel2 hTF2 hA3;rw [hz3, hz4, hz5] at hel2;have hA4 : (rJ sb s b al i).length = al.length := wO;generalize hNm : zNm sb f nm s b ks bs (i + 1) = nm1 at *;generalize hKs : zKs sb f nm s b ks bs (i + 1) = ks1 at *;generalize hBs : zBs sb f nm s b ks bs (i + 1) = bs1 at *;rw [hz1] at hFg ⊢;have halR : l3 al.length i a = [.ras (vR i a.vars.length a.vars.length).length 1 (vR i a.vars.length a.vars.length).flatten, .ras 1 1 [.rp 703 i 4 al.length]] := rfl;rw [halR] at ht0;rw [hvl] at ht0 hput;refine a8 (aC (a8 (ag [(0, .rowR (i + 1) [.ras a.vars.length 1 (vR i a.vars.length a.vars.length).flatten, .ras 1 1 [.rp 703 i 4 al.length]])] rfl ?_)));refine aF mixed ?_;refine ak 3 [] rfl ?_;refine kc hput ?_ (hin' := ⟨rfl, FarEq.all (by repeat (first | exact FarEq.raw hFg | (refine FarEq.updL hFg ?_) | (refine FarEq.upd hFg ?_)))⟩) (hout' := ?_) (hok := ?_)
   ·have hcons : ∀ (o : AObj) (F : List (Nat × AObj)), ((703, o) :: F) = [(703, o)] ++ F := fun _ _ => rfl
    rw [hcons, pU hTF2];refine az ?_;refine ag [] rfl ?_;refine ⟨i + 1 + 1, by omega, by dsimp only; omega, ?_⟩;dsimp only;rw [hz2, hz3, hz4, hz5];refine slG gW (fun _ h => by cases h) (FarEq.bif hTF2 (FarEq.outs hTF2)) (h1 := Kn.app Kn.nil (Kn.app (Kn.of rfl) (Kn.app (Kn.of rfl) (Kn.app (Kn.of rfl) (Kn.app (hel2 _) Kn.nil))))) (hh := ⟨⟨_, rfl, .varS rfl⟩, ⟨_, rfl, .varS rfl⟩, ⟨_, rfl, .varS ?_⟩, ⟨_, rfl, .arr⟩, ⟨_, rfl, .arr⟩, ⟨_, rfl, .rarrS rfl⟩, trivial⟩);rw [hA3, hA4]
   ·refine dP.of fun p hp => .inl ?_
    have hp1 : p.1 ∈ keys ((703, AObj.rarr 78 14 (aT 0 ((rJ sb s b al i).set i (j1 sb s b a)))) :: fam 0 ((rJ sb s b al i).set i (j1 sb s b a))) := mem_map.2 ⟨p, hp, rfl⟩;show p.1 ∈ 703 :: keys (fam 0 (rJ sb s b al i));rw [wB (m := (rJ sb s b al i).set i (j1 sb s b a)) (by rw [length_set])];exact hp1
   ·refine mM (hl := [(703, .rarr 78 14 (aT 0 (rJ sb s b al i)))]) hFg (fun x hx => ?_) (fun x hx => .inr (cM x (by simpa [cQ, AObj.refs] using hx)));have hx : x ∈ R.refsL (vR i a.vars.length a.vars.length).flatten ++ [703] := by simpa [V.refsL, V.refs, R.refsL, R.refs] using hx
    rcases mem_append.1 hx with hx | hx
    ·rw [cP] at hx;have := l6 (L := fun x => x = i + 800) (fun j x hx => by simpa [R.refsL, R.refs] using hx) _ x hx;rw [this];have hk := aKp (l := rJ sb s b al i) (k := 0) (i := i) (by omega);rw [zero_add] at hk;exact .inr hk
    ·rw [mem_singleton.1 hx]; exact .inl (by simp [keys])
 have hge : g = 1 + al.length := by
  have : ¬ (g : Int) < (G.length : Int) := zq1 hb;omega
 have hgs : g = al.length + 1 := by omega
 subst hgs;clear hge hb;have e : oZ sb s b (.mk f n nm t ks bs al) = .mk f n (zNm sb f nm s b ks bs (al.length + 1)) t (zKs sb f nm s b ks bs (al.length + 1)) (zBs sb f nm s b ks bs (al.length + 1)) (zAs sb s b al (al.length + 1)) := by
  rw [oZ];show _ = Core.mk _ _ _ _ _ _ (rJ sb s b al al.length);rw [aPk];rfl
 rw [e];have m1 := hN1 (al.length + 1);have m2 := hN2 (al.length + 1);have m3 := hN3 (al.length + 1);generalize zNm sb f nm s b ks bs (al.length + 1) = nm1 at *;generalize zKs sb f nm s b ks bs (al.length + 1) = ks1 at *;generalize zBs sb f nm s b ks bs (al.length + 1) = bs1 at *;generalize zAs sb s b al (al.length + 1) = al1 at *;refine aK ?_;refine AWp.sub (st2 := mkt [(6, .one (.vp 6 0)), (7, .one (.vp 700 0))] (oHl ks1 bs1 al1 ++ [(700, .var 37 (dL f n nm1 t ks1.length bs1.length al1.length)), (6, .var 37 bH)]) (fam 0 al1)) (slT hFg (by repeat (first | exact FarEq.raw hFg | (refine FarEq.updL hFg ?_) | (refine FarEq.upd hFg ?_))) (fun x hx => .inl (bM (show subset _ _ = true from rfl) x hx)) (fun x hx => ?_) (fun _ h => by cases h)) ?_
 ·rw [hD] at hx;rcases mem_append.1 hx with hx | hx
  ·exact .inr (cM x (by simpa [oHl, cQ, AObj.refs] using hx))
  ·refine .inl ?_;have hx : x = 702 ∨ x = 701 ∨ x = 703 := by simpa [cQ, AObj.refs, dL, bH, R.refsL, R.refs] using hx
   rcases hx with rfl | rfl | rfl <;> simp [oHl, keys]
 refine AWp.sub (nZ (by simp [keys]) (Kn.of rfl) ⟨Kn.of rfl, Kn.of rfl, trivial⟩ (fun _ h => by cases h) rfl rfl (by simp) (fun p hp => by
  rcases mem_cons.1 hp with rfl | hp
  ·rfl
  ·rw [mem_singleton.1 hp]; rfl)) ?_
 have e1 : fzH 703 (.ra al1.length 14 (aT 0 al1).flatten) ([(701, .arr 73 15 (aO bs1) 2), (702, .arr 37 10 (aQ ks1) 2)] ++ [(700, .var 37 (dL f n nm1 t ks1.length bs1.length al1.length)), (6, .var 37 bH)])
   = [(701, .arr 73 15 (aO bs1) 2), (702, .arr 37 10 (aQ ks1) 2), (700, .var 37 (iQ f n nm1 t ks1.length bs1.length al1)), (6, .var 37 bH)] := by
  unfold dL iQ;show [(701, _), (702, _), (700, AObj.var _ (R.fzL _ _ _)), (6, AObj.var _ (R.fzL _ _ _))] = _;simp only [R.fzL, R.fz, beq_refl, if_true, Bool.and_self];rfl
 rw [e1];have hFz : TF (w8 (fam 0 al1)) := hFg.frz;obtain ⟨ids, hp⟩ := qQ (h := (mkt [] [(701, .arr 73 15 (aO bs1) 2), (702, .arr 37 10 (aQ ks1) 2), (700, .var 37 (iQ f n nm1 t ks1.length bs1.length al1)), (6, .var 37 bH)] (w8 (fam 0 al1))).h) (f := f) (n := n) (s := nm1) (t := t) (ks := ks1) (bs := bs1) (al := al1) rfl rfl (FarEq.mkt hFz rfl);refine AWp.sub (Sub.varPure (x := 700) rfl hp) ?_;refine a8 (ag [] rfl ?_);exact aE (rtC trw)
def tlf (t : Ty) : Bool := decide (t.form ≠ 4) && (decide (t.form ≠ 5) && t.args.isEmpty)
theorem aXn (f n : Int) (s : Str) : aY Tryz.prog 126 [tyV (.mk f n s [])] [] (tyV (.mk f n s [])) [] := by
 refine c8 (n := 22) tok Tryz.func126 rfl rfl rfl ?_;refine a8 (ag [] rfl ?_);refine a8 (ag [] rfl ?_);refine a8 (a8 (ag [] rfl ?_));refine aC ?_;refine aJ (fun _ : Unit => mk [(1, .one (.vp 1 0)), (2, .one (.vp 2 0)), (3, .one (.c .nl)), (8, I .i64 0), (9, I .i64 0)] [(1, .var 33 ((cG (.mk f n s [])).map R.c)), (2, .var 33 [.c (.int .i64 0), .c (.int .i64 0), .c (.str []), .c .nl])]) (fun _ => True) (fun _ => 0) () trivial sl ?_;intro _ _;refine a8 (ag [] rfl ?_);refine a8 (aB rfl (fun hb => by cases hb) (fun _ => ?_));refine aK ?_;refine a8 (ag [] rfl ?_);refine a8 (ag [] rfl ?_);exact aE (rtC trw)
theorem aLf (t : Ty) (h : tlf t = true) : aY Tryz.prog 65 [tyV t, .one (.c .nl), .one (.c .nl)] [] (tyV t) [] := by
 obtain ⟨f, n, s, a⟩ := t;simp only [tlf, Bool.and_eq_true, isEmpty_iff] at h;obtain ⟨h4, h5, h6⟩ := h;have h6 : a = [] := h6;subst h6;have h4 : ¬ f = 4 := zq0 h4;have h5 : ¬ f = 5 := zq0 h5;have ho := aXn f n s;have hi : aY Tryz.prog 123 [bN [], Go.AM.T s] [] (I .i64 (-1)) [] := aBy [] s (by simp);refine c8 (n := 48) tok Tryz.func65 rfl rfl rfl ?_;refine a8 (ag [] rfl ?_);refine a8 (a8 (ag [] rfl ?_));refine aC (a8 (ag [] rfl ?_));refine aB rfl (fun hb => ?_) (fun hb => ?_)
 ·refine a8 (ag [(3, .pc (I .i64 (-1)))] rfl ?_);refine a8 (ag [] rfl ?_);refine aB rfl (fun hb => by cases hb) (fun _ => ?_);refine aD ?_;refine a8 (ag [(1, .pc (tyV (.mk f n s [])))] rfl ?_);exact aE (rtC trw)
 ·refine a8 (ag [] rfl ?_);refine aB rfl (fun hb => absurd (zq0 hb) h4) (fun _ => ?_);refine a8 (ag [] rfl ?_);refine aB rfl (fun hb => absurd (zq0 hb) h5) (fun _ => ?_);refine aD ?_;refine a8 (ag [(1, .pc (tyV (.mk f n s [])))] rfl ?_);exact aE (rtC trw)
theorem aLe (t : Ty) (h : tlf t = true) : aY Tryz.prog 116 [tyV t] [] (tyV t) [] := by
 have hs := aLf t h;obtain ⟨f, n, s, a⟩ := t;refine c8 (n := 5) tok Tryz.func116 rfl rfl rfl ?_;refine a8 (ag [] rfl ?_);refine a8 (aF mixed ?_);refine ak 1 [] rfl ?_;refine kc hs ?_;refine ak 1 [] rfl ?_;refine az ?_;exact aE (rtC trw)
theorem aTo (s : Str) : aY Tryz.prog 73 [Go.AM.T s] [] (tyV (.mk 2 0 s [])) [] := by
 refine c8 (n := 5) tok Tryz.func73 rfl rfl rfl ?_;refine a8 (ag [] rfl ?_);refine a8 (ag [] rfl ?_);exact aE (rtC trw)
theorem aTp (s : Str) : aY Tryz.prog 51 [Go.AM.T s] [] (tyV (.mk 3 0 s [])) [] := by
 refine c8 (n := 5) tok Tryz.func51 rfl rfl rfl ?_;refine a8 (ag [] rfl ?_);refine a8 (ag [] rfl ?_);exact aE (rtC trw)
theorem aX0 (s : Str) : aY Tryz.prog 52 [Go.AM.T s] [] (.pa (aA (.mk 1 0 s zTy [] [] []))) [] := by
 refine c8 (n := 5) tok Tryz.func52 rfl rfl rfl ?_;refine a8 (ag [] rfl ?_);refine a8 (ag [] rfl ?_);exact aE (rtC trw)
theorem aLg (n : Int) : aY Tryz.prog 33 [I .i64 n] [] (.pa (aA (.mk 3 n [] zTy [] [] []))) [] := by
 refine c8 (n := 5) tok Tryz.func33 rfl rfl rfl ?_;refine a8 (ag [] rfl ?_);refine a8 (ag [] rfl ?_);exact aE (rtC trw)
theorem xO {L : List Nat} : ∀ {rows : List (List R)}, (∀ row ∈ rows, ∀ x ∈ R.refsL row, x ∈ L) → ∀ x ∈ bX rows, x ∈ L
 | [], _, x, hx => by simp [bX] at hx
 | r :: rows, h, x, hx => by
  rcases mem_append.1 hx with hx | hx
  ·exact h r zq2 x hx
  ·exact xO (fun q hq => h q (zq3 _ hq)) x hx
def lX (f n : Int) (s : Str) (t : Ty) (nk nb na : Nat) : List R := [.c (.int .i64 f), .c (.int .i64 n), .c (.str s), .c (.int .i64 t.form), .c (.int .i64 t.n), .c (.str t.name), .c (.sl 4 (gM t)), .hs 702 0 nk nk, .hs 701 0 nb nb, .hs 703 0 na na]
def aZ4 : Bool → List (List R)
 | true => [[.vp 700 2]]
 | false => []
def gN : Bool → Nat
 | true => 1
 | false => 0
def aQv (rows : List (List R)) : AObj := .rarr 116 1 rows
def aTd (n i : Nat) : List R := [.ep 702 i 0 n]
def dQ (n k : Nat) : List (List R) := (List.range k).map (aTd n)
theorem aGf (n k : Nat) : dQ n (k + 1) = dQ n k ++ [aTd n k] := by unfold dQ; rw [List.range_succ, map_append]; rfl
theorem yJ (n k : Nat) : (dQ n k).length = k := by simp [dQ]
def jM : AObj := aQv [[.ep 702 0 0 0]]
theorem c7 {n k : Nat} : ∀ x ∈ (aQv (dQ n k)).refs, x ∈ jM.refs := by
 refine xO fun row hr x hx => ?_
 show x ∈ ([702] : List Nat);obtain ⟨i, _, rfl⟩ := mem_map.1 hr;simpa [aTd, R.refsL, R.refs] using hx
def gIn (f n : Int) (s : Str) (t : Ty) (ks : List Core) : List (Nat × AObj) :=
 [(700, .var 37 (lX f n s t ks.length 0 0)), (701, .arr 73 15 [] 0), (702, .arr 37 10 (aQ ks) 0), (703, .arr 78 14 [] 0)]
def aZ3 (b : Bool) (f n : Int) (s : Str) (t : Ty) (ks : List Core) : List (Nat × AObj) :=
 (712, aQv (dQ ks.length ks.length)) :: (713, .rarr 125 2 [[.ra 711 0 (gN b) (gN b), .ra 712 0 (dQ ks.length ks.length).length (dQ ks.length ks.length).length]]) :: (711, .rarr 167 1 (aZ4 b)) :: gIn f n s t ks
theorem aLc (b : Bool) (f n : Int) (s : Str) (t : Ty) (ks : List Core) (hb5 : decide (f = 5) = b) (hk : ks.length ≤ 1000000) :
  aY Tryz.prog 66 [.one (.vp 700 0)] (gIn f n s t ks) (.one (.ra 713 0 1 1)) (aZ3 b f n s t ks) := by
 have hkK : (aQ ks).length = ks.length := by rw [bB, length_map]
 refine c8 (n := 123) tok Tryz.func66 rfl rfl rfl ?_;refine a8 (ag [] rfl ?_);refine a8 (ag [] rfl ?_);refine AWp.sub (Sub.ownCellR (x := 3) (k := 1) (id := 712) 116 1 rfl rfl rfl) (AWp.sub (Sub.ownCellR (x := 3) (k := 0) (id := 711) 167 1 rfl rfl rfl) ?_);refine a8 (a8 (ag [] rfl ?_));refine aC ?_;refine aJ (fun i : Nat => mk [(0, .one (.vp 700 0)), (3, .one (.vp 3 0)), (16, I .i64 ((ks.length : Nat) : Int)), (17, I .i64 i)] ((712, aQv (dQ ks.length i)) :: (3, .var 125 [.ra 711 0 0 0, .ra 712 0 (dQ ks.length i).length (dQ ks.length i).length]) :: (711, .rarr 167 1 []) :: gIn f n s t ks)) (fun i => i ≤ ks.length) (fun i => ks.length - i) 0 (zero_le _) (slR jM c7 ⟨_, rfl, .rarrS rfl⟩) ?_;intro i hi;have hpl := yJ ks.length i;refine a8 (ag [] rfl ?_);refine a8 (aB rfl (fun hb => ?_) (fun hb => ?_))
 ·have hlt : i < ks.length := by
   have : (i : Int) < (ks.length : Int) := zq0 hb;omega
  have hst := aGf ks.length i;refine aD ?_;refine a8 (aC (a8 (ag [] rfl ?_)));refine ag [] rfl ?_;refine ag [] rfl ?_;refine ⟨i + 1, hlt, by dsimp only; omega, ?_⟩;dsimp only;rw [hst];refine slR jM (by rw [← hst]; exact c7) ⟨_, rfl, .rarrS rfl⟩ (hh := ⟨⟨_, rfl, .var ?_⟩, ⟨_, rfl, .rarr rfl⟩, ⟨_, rfl, .var rfl⟩, ⟨_, rfl, .arr⟩, ⟨_, rfl, .arr⟩, ⟨_, rfl, .arr⟩, trivial⟩);rw [length_append];rfl
 have hge : i = ks.length := by
  have : ¬ (i : Int) < (ks.length : Int) := zq1 hb;omega
 subst hge;refine aK ?_;refine a8 (AWp.cut (mk [(0, .one (.vp 700 0)), (3, .one (.vp 3 0))] ((712, aQv (dQ ks.length ks.length)) :: (3, .var 125 [.ra 711 0 (gN b) (gN b), .ra 712 0 (dQ ks.length ks.length).length (dQ ks.length ks.length).length]) :: (711, .rarr 167 1 (aZ4 b)) :: gIn f n s t ks)) ?_ ?_)
 ·refine a8 (ag [] rfl ?_);refine aB rfl (fun hb => ?_) (fun hb => ?_)
  ·have hb : decide (f = 5) = true := hb;rw [hb] at hb5;subst hb5;exact ag [] rfl (slR jM c7 ⟨_, rfl, .rarrS rfl⟩)
  ·have hb : decide (f = 5) = false := hb;rw [hb] at hb5;subst hb5;exact aD (slR jM c7 ⟨_, rfl, .rarrS rfl⟩)
 refine a8 (a8 (ag [] rfl ?_));refine aC ?_;cases b with
 | true =>
  refine aJ (fun _ : Unit => mk [(0, .one (.vp 700 0)), (3, .one (.vp 3 0)), (49, I .i64 0), (50, I .i64 0)] ((712, aQv (dQ ks.length ks.length)) :: (3, .var 125 [.ra 711 0 1 1, .ra 712 0 (dQ ks.length ks.length).length (dQ ks.length ks.length).length]) :: (711, .rarr 167 1 [[.vp 700 2]]) :: gIn f n s t ks)) (fun _ => True) (fun _ => 0) () trivial (slR jM c7 ⟨_, rfl, .rarrS rfl⟩) ?_;intro _ _;refine a8 (ag [] rfl ?_);refine a8 (aB rfl (fun hb => by cases hb) (fun _ => ?_));refine aK ?_;refine a8 (ag [(1, .id 713)] rfl ?_);refine a8 (a8 (ag [] rfl ?_));refine aC ?_;refine aJ (fun _ : Unit => mk [(0, .one (.vp 700 0)), (7, .one (.ra 713 0 1 1)), (82, I .i64 0), (83, I .i64 0)] (aZ3 true f n s t ks)) (fun _ => True) (fun _ => 0) () trivial (slR jM c7 ⟨_, rfl, .rarrS rfl⟩) ?_;intro _ _;refine a8 (ag [] rfl ?_);refine a8 (aB rfl (fun hb => by cases hb) (fun _ => ?_));refine aK ?_;refine a8 (ag [] rfl ?_);refine aE ⟨.inr rfl, ?_⟩;exact a0v jM c7 ⟨_, _, .tmp rfl .nil, .cons .refl .nil, rfl⟩ ⟨⟨_, rfl, .rarrS rfl⟩, ⟨_, rfl, .rarr rfl⟩, ⟨_, rfl, .rarr rfl⟩, ⟨_, rfl, .var rfl⟩, ⟨_, rfl, .arr⟩, ⟨_, rfl, .arr⟩, ⟨_, rfl, .arr⟩, trivial⟩ rfl rfl
 | false =>
  refine aJ (fun _ : Unit => mk [(0, .one (.vp 700 0)), (3, .one (.vp 3 0)), (49, I .i64 0), (50, I .i64 0)] ((712, aQv (dQ ks.length ks.length)) :: (3, .var 125 [.ra 711 0 0 0, .ra 712 0 (dQ ks.length ks.length).length (dQ ks.length ks.length).length]) :: (711, .rarr 167 1 []) :: gIn f n s t ks)) (fun _ => True) (fun _ => 0) () trivial (slR jM c7 ⟨_, rfl, .rarrS rfl⟩) ?_;intro _ _;refine a8 (ag [] rfl ?_);refine a8 (aB rfl (fun hb => by cases hb) (fun _ => ?_));refine aK ?_;refine a8 (ag [(1, .id 713)] rfl ?_);refine a8 (a8 (ag [] rfl ?_));refine aC ?_;refine aJ (fun _ : Unit => mk [(0, .one (.vp 700 0)), (7, .one (.ra 713 0 1 1)), (82, I .i64 0), (83, I .i64 0)] (aZ3 false f n s t ks)) (fun _ => True) (fun _ => 0) () trivial (slR jM c7 ⟨_, rfl, .rarrS rfl⟩) ?_;intro _ _;refine a8 (ag [] rfl ?_);refine a8 (aB rfl (fun hb => by cases hb) (fun _ => ?_));refine aK ?_;refine a8 (ag [] rfl ?_);refine aE ⟨.inr rfl, ?_⟩;exact a0v jM c7 ⟨_, _, .tmp rfl .nil, .cons .refl .nil, rfl⟩ ⟨⟨_, rfl, .rarrS rfl⟩, ⟨_, rfl, .rarr rfl⟩, ⟨_, rfl, .rarr rfl⟩, ⟨_, rfl, .var rfl⟩, ⟨_, rfl, .arr⟩, ⟨_, rfl, .arr⟩, ⟨_, rfl, .arr⟩, trivial⟩ rfl rfl
mutual
def smR : Core → Bool
 | .mk _ _ _ t ks bs al => (tlf t && (bs.isEmpty && al.isEmpty)) && aYw ks
def aYw : List Core → Bool
 | [] => true
 | c :: l => smR c && aYw l
end
theorem uN : ∀ {l : List Core}, aYw l = true → ∀ x ∈ l, smR x = true
 | c :: l, h, x, hx => by
  rw [aYw, Bool.and_eq_true] at h;rcases mem_cons.1 hx with rfl | hx
  ·exact h.1
  ·exact uN h.2 x hx
theorem uR {α : Type} : ∀ {l : List α} {j : Nat} {x : α}, l[j]? = some x → l.set j x = l
 | [], _, _, h => by simp at h
 | y :: l, 0, x, h => by simp at h; subst h; rfl
 | y :: l, j + 1, x, h => by
  rw [set_cons_succ, uR (by simpa using h)]
def aMe (c : Core) : Prop := smR c = true → aR c ≤ 100000 → aY Tryz.prog 59 [.pa (aA c)] [] (.pa (aA c)) []
def owO (b : Bool) (f n : Int) (s : Str) (t : Ty) (ks : List Core) : List (Nat × AObj) :=
 (712, aQv (dQ ks.length ks.length)) :: (713, .rarr 125 2 [[.ra 711 0 (gN b) (gN b), .ra 712 0 (dQ ks.length ks.length).length (dQ ks.length ks.length).length]]) :: (711, .rarr 167 1 (aZ4 b)) :: (2, .var 37 bH) :: gIn f n s t ks
theorem aBx (c : Core) (ih : ∀ x, aR x < aR c → aMe x) : aMe c := by
 intro hsm hsz;obtain ⟨f, n, s, t, ks, bs, al⟩ := c;obtain ⟨ihk, ihb, iha, hkl, hbl, hal⟩ := @gY f n s t ks bs al;simp only [smR, Bool.and_eq_true, isEmpty_iff] at hsm;obtain ⟨⟨ht, h1, h2⟩, hks⟩ := hsm;subst h1 h2;have hty := aLe t ht;have hkK : (aQ ks).length = ks.length := by rw [bB, length_map]
 have k2 : ks.length = (aQ ks).length := hkK.symm;have hck := jS (aQ ks) (by omega);have hcb := nP [] (by simp);have hca := oS [] (by simp);rw [hkK] at hck;have hgr := aLc (decide (f = 5)) f n s t ks rfl (by omega);have hgl := yJ ks.length ks.length;generalize decide (f = 5) = b at hgr;refine c8 (n := 85) tok Tryz.func59 rfl rfl rfl ?_;refine a8 (ag [(0, .id 700)] rfl ?_);refine a8 (ag [(2, .pc (tyV t))] rfl ?_);refine a8 (aF mixed ?_);refine ak 2 [] rfl ?_;refine kc hck ?_;refine ak 2 [] rfl ?_;refine kc hcb ?_;refine ak 2 [] rfl ?_;refine kc hca ?_;refine ak 6 [] rfl ?_;refine az ?_;refine a8 (a8 (ag [] rfl ?_));refine aC ?_;refine aJ (fun _ : Unit => mk [(1, .one (.vp 700 0)), (2, .one (.vp 2 0)), (27, I .i64 0), (28, I .i64 0)] ((2, .var 37 bH) :: gIn f n s t ks)) (fun _ => True) (fun _ => 0) () trivial sl ?_;intro _ _;refine a8 (ag [] rfl ?_);refine a8 (aB rfl (fun hb => by cases hb) (fun _ => ?_));refine aK ?_;refine a8 (a8 (ag [] rfl ?_));refine aC ?_;refine aJ (fun _ : Unit => mk [(1, .one (.vp 700 0)), (2, .one (.vp 2 0)), (46, I .i64 0), (47, I .i64 0)] ((2, .var 37 bH) :: gIn f n s t ks)) (fun _ => True) (fun _ => 0) () trivial sl ?_;intro _ _;refine a8 (ag [] rfl ?_);refine a8 (aB rfl (fun hb => by cases hb) (fun _ => ?_));refine aK ?_;cases b with
 | true =>
  refine a8 (a8 (aF mixed ?_));refine kc hgr ?_;refine ak 2 [] rfl ?_;refine az ?_;refine aC ?_;refine aJ (fun i : Nat => mk [(1, .one (.vp 700 0)), (2, .one (.vp 2 0)), (63, .one (.ra 713 0 1 1)), (64, I .i64 1), (65, I .i64 i)] (owO true f n s t ks)) (fun i => i ≤ 1) (fun i => 1 - i) 0 (zero_le _) (slR jM c7 ⟨_, rfl, .rarrS rfl⟩) ?_;intro i hi;refine a8 (ag [] rfl ?_);refine a8 (aB rfl (fun hb => ?_) (fun hb => ?_))
  ·have hi0 : i = 0 := by
    have : (i : Int) < 1 := zq0 hb;omega
   subst hi0;refine aD ?_;refine a8 (aC (a8 (ag [(1, .rr [.ra 711 0 1 1, .ra 712 0 (dQ ks.length ks.length).length (dQ ks.length ks.length).length])] rfl ?_)));refine a8 (ag [] rfl ?_);refine aC ?_;refine aJ (fun j : Nat => mk [(1, .one (.vp 700 0)), (2, .one (.vp 2 0)), (63, .one (.ra 713 0 1 1)), (64, I .i64 1), (65, I .i64 (0 : Nat)), (70, .one (.ra 712 0 (dQ ks.length ks.length).length (dQ ks.length ks.length).length)), (71, I .i64 (((dQ ks.length ks.length).length : Nat) : Int)), (72, I .i64 j)] (owO true f n s t ks)) (fun j => j ≤ ks.length) (fun j => ks.length - j) 0 (zero_le _) (slR jM c7 ⟨_, rfl, .rarrS rfl⟩) ?_;intro j hj;refine a8 (ag [] rfl ?_);refine a8 (aB rfl (fun hb => ?_) (fun hb => ?_))
   ·have hlt : j < ks.length := by
     have : (j : Int) < ((dQ ks.length ks.length).length : Int) := zq0 hb;omega
    obtain ⟨k, hki⟩ := aL hlt;have hki' := dS hki;have hm := zq7 hki;have hc := ih k (ihk k hm) (uN hks k hm) (by have := ihk k hm; omega);have hsame := uR hki';have hrow : (dQ ks.length ks.length)[j]? = some (aTd ks.length j) := by
     unfold dQ; rw [List.getElem?_map, List.getElem?_range hlt]; rfl
    refine aD ?_;refine a8 (aC (a8 (ag [(1, .rr (aTd ks.length j))] rfl ?_)));refine aF mixed ?_;refine ak 4 [(3, .row j (aA k))] rfl ?_;refine kc hc ?_;refine ak 2 [(6, .row j (aA k))] rfl ?_;refine az ?_;refine ag [] rfl ?_;exact ⟨j + 1, hlt, by dsimp only; omega, slR jM c7 ⟨_, rfl, .rarrS rfl⟩ (hh := ⟨⟨_, rfl, .rarr rfl⟩, ⟨_, rfl, .rarr rfl⟩, ⟨_, rfl, .var rfl⟩, ⟨_, rfl, .var rfl⟩, ⟨_, rfl, .arr⟩, ⟨_, rfl, by first | exact .arr | exact .arrS hsame⟩, ⟨_, rfl, .arr⟩, trivial⟩)⟩
   refine aK ?_;refine ag [] rfl ?_;exact ⟨1, le_refl _, by dsimp only; omega, slR jM c7 ⟨_, rfl, .rarrS rfl⟩⟩
  refine aK ?_;refine AWp.sub (Sub.freeze (id := 701) rfl) (AWp.sub (Sub.freeze (id := 702) rfl) (AWp.sub (Sub.freeze (id := 703) rfl) (AWp.sub (vp 700 (aA (.mk f n s t ks [] []))) ?_)));refine a8 (ag [] rfl ?_);exact aE (rtC trw)
 | false =>
  refine a8 (a8 (aF mixed ?_));refine kc hgr ?_;refine ak 2 [] rfl ?_;refine az ?_;refine aC ?_;refine aJ (fun i : Nat => mk [(1, .one (.vp 700 0)), (2, .one (.vp 2 0)), (63, .one (.ra 713 0 1 1)), (64, I .i64 1), (65, I .i64 i)] (owO false f n s t ks)) (fun i => i ≤ 1) (fun i => 1 - i) 0 (zero_le _) (slR jM c7 ⟨_, rfl, .rarrS rfl⟩) ?_;intro i hi;refine a8 (ag [] rfl ?_);refine a8 (aB rfl (fun hb => ?_) (fun hb => ?_))
  ·have hi0 : i = 0 := by
    have : (i : Int) < 1 := zq0 hb;omega
   subst hi0;refine aD ?_;refine a8 (aC (a8 (ag [(1, .rr [.ra 711 0 0 0, .ra 712 0 (dQ ks.length ks.length).length (dQ ks.length ks.length).length])] rfl ?_)));refine a8 (ag [] rfl ?_);refine aC ?_;refine aJ (fun j : Nat => mk [(1, .one (.vp 700 0)), (2, .one (.vp 2 0)), (63, .one (.ra 713 0 1 1)), (64, I .i64 1), (65, I .i64 (0 : Nat)), (70, .one (.ra 712 0 (dQ ks.length ks.length).length (dQ ks.length ks.length).length)), (71, I .i64 (((dQ ks.length ks.length).length : Nat) : Int)), (72, I .i64 j)] (owO false f n s t ks)) (fun j => j ≤ ks.length) (fun j => ks.length - j) 0 (zero_le _) (slR jM c7 ⟨_, rfl, .rarrS rfl⟩) ?_;intro j hj;refine a8 (ag [] rfl ?_);refine a8 (aB rfl (fun hb => ?_) (fun hb => ?_))
   ·have hlt : j < ks.length := by
     have : (j : Int) < ((dQ ks.length ks.length).length : Int) := zq0 hb;omega
    obtain ⟨k, hki⟩ := aL hlt;have hki' := dS hki;have hm := zq7 hki;have hc := ih k (ihk k hm) (uN hks k hm) (by have := ihk k hm; omega);have hsame := uR hki';have hrow : (dQ ks.length ks.length)[j]? = some (aTd ks.length j) := by
     unfold dQ; rw [List.getElem?_map, List.getElem?_range hlt]; rfl
    refine aD ?_;refine a8 (aC (a8 (ag [(1, .rr (aTd ks.length j))] rfl ?_)));refine aF mixed ?_;refine ak 4 [(3, .row j (aA k))] rfl ?_;refine kc hc ?_;refine ak 2 [(6, .row j (aA k))] rfl ?_;refine az ?_;refine ag [] rfl ?_;exact ⟨j + 1, hlt, by dsimp only; omega, slR jM c7 ⟨_, rfl, .rarrS rfl⟩ (hh := ⟨⟨_, rfl, .rarr rfl⟩, ⟨_, rfl, .rarr rfl⟩, ⟨_, rfl, .var rfl⟩, ⟨_, rfl, .var rfl⟩, ⟨_, rfl, .arr⟩, ⟨_, rfl, by first | exact .arr | exact .arrS hsame⟩, ⟨_, rfl, .arr⟩, trivial⟩)⟩
   refine aK ?_;refine ag [] rfl ?_;exact ⟨1, le_refl _, by dsimp only; omega, slR jM c7 ⟨_, rfl, .rarrS rfl⟩⟩
  refine aK ?_;refine AWp.sub (Sub.freeze (id := 701) rfl) (AWp.sub (Sub.freeze (id := 702) rfl) (AWp.sub (Sub.freeze (id := 703) rfl) (AWp.sub (vp 700 (aA (.mk f n s t ks [] []))) ?_)));refine a8 (ag [] rfl ?_);exact aE (rtC trw)
theorem z7 : ∀ (n : Nat) (c : Core), aR c ≤ n → aMe c
 | 0, c, h => by have := dW c; omega
 | n + 1, c, h => aBx c fun x hx => z7 n x (by omega)
def aY3 (s : Str) (t : Ty) (c : Core) : Core := .mk 5 0 s t [c] [] []
def aMw (s : Str) (c : Core) : Core := .mk 7 0 s zTy [c] [] []
def aM0 (c : Core) (t : Ty) : Core := .mk 6 0 [] t [c] [] []
def aXj (f a : Core) : Core := .mk 4 0 [] zTy [f, a] [] []
theorem aX2 (s : Str) (t : Ty) (c : Core) (ht : tlf t = true) (hc : smR c = true) (hs : aR c ≤ 100000) : aY Tryz.prog 53 [Go.AM.T s, tyV t, .pa (aA c)] [] (.pa (aA (aY3 s t c))) [] := by
 have h1 := aLe t ht;have h2 := z7 _ c (le_refl _) hc hs;refine c8 (n := 14) tok Tryz.func53 rfl rfl rfl ?_;refine a8 (ag [] rfl ?_);refine a8 (ag [(2, .pc (tyV t)), (4, .pc (.pa (aA c))), (5, .all)] rfl ?_);exact aE (rtC trw)
theorem aTy (s : Str) (c : Core) (hc : smR c = true) (hs : aR c ≤ 100000) : aY Tryz.prog 72 [.pa (aA c), bN [s]] [] (.pa (aA (aMw s c))) [] := by
 have h2 := z7 _ c (le_refl _) hc hs;refine c8 (n := 27) tok Tryz.func72 rfl rfl rfl ?_;refine a8 (ag [] rfl ?_);refine a8 (ag [(1, .pc (.pa (aA c)))] rfl ?_);refine a8 (a8 (ag [] rfl ?_));refine aC ?_;refine aJ (fun i : Nat => mk [(1, bN [s]), (4, .one (.vp 4 0)), (5, .one (.vp 5 0)), (10, I .i64 1), (11, I .i64 i)] [(4, .var 37 bH), (5, .var 37 (bF (if i = 0 then c else aMw s c)))]) (fun i => i ≤ 1) (fun i => 1 - i) 0 (zero_le _) sl ?_;intro i hi;refine a8 (ag [] rfl ?_);refine a8 (aB rfl (fun hb => ?_) (fun hb => ?_))
 ·have hi0 : i = 0 := by
   have : (i : Int) < 1 := zq0 hb;omega
  subst hi0;rw [if_pos rfl];refine aD ?_;refine a8 (aC (a8 (ag [] rfl ?_)));refine ag [(6, .row 0 (bG s)), (9, .all)] rfl ?_;refine ag [] rfl ?_;exact ⟨1, le_refl _, by dsimp only; omega, Sub.trans sl (vp 5 (aA (aMw s c)))⟩
 have hi1 : i = 1 := by
  have : ¬ (i : Int) < 1 := zq1 hb;omega
 subst hi1;rw [if_neg (by omega)];refine aK ?_;refine a8 (ag [] rfl ?_);exact aE (rtC trw)
theorem aTz (c : Core) (t : Ty) (ht : tlf t = true) (hc : smR c = true) (hs : aR c ≤ 100000) : aY Tryz.prog 74 [.pa (aA c), .one (.c (.sl 4 [cG t]))] [] (.pa (aA (aM0 c t))) [] := by
 have h1 := aLe t ht;have h2 := z7 _ c (le_refl _) hc hs;refine c8 (n := 23) tok Tryz.func74 rfl rfl rfl ?_;refine a8 (ag [] rfl ?_);refine a8 (ag [(1, .pc (.pa (aA c)))] rfl ?_);refine a8 (a8 (ag [] rfl ?_));refine aC ?_;refine aJ (fun i : Nat => mk [(4, .one (.vp 4 0)), (5, .one (.vp 5 0)), (10, .one (.c (.sl 4 [cG t]))), (11, I .i64 1), (12, I .i64 i)] [(4, .var 37 bH), (5, .var 37 (bF (if i = 0 then c else aM0 c t)))]) (fun i => i ≤ 1) (fun i => 1 - i) 0 (zero_le _) sl ?_;intro i hi;refine a8 (ag [] rfl ?_);refine a8 (aB rfl (fun hb => ?_) (fun hb => ?_))
 ·have hi0 : i = 0 := by
   have : (i : Int) < 1 := zq0 hb;omega
  subst hi0;rw [if_pos rfl];refine aD ?_;refine a8 (aC (a8 (ag [(0, .row 0 (cG t))] rfl ?_)));refine ag [(1, .pc (tyV t)), (3, .all)] rfl ?_;refine ag [] rfl ?_;exact ⟨1, le_refl _, by dsimp only; omega, Sub.trans sl (vp 5 (aA (aM0 c t)))⟩
 have hi1 : i = 1 := by
  have : ¬ (i : Int) < 1 := zq1 hb;omega
 subst hi1;rw [if_neg (by omega)];refine aK ?_;refine a8 (ag [] rfl ?_);exact aE (rtC trw)
theorem aX3 (c a : Core) (hc : smR c = true) (ha : smR a = true) (hs : aR c ≤ 100000) (hs2 : aR a ≤ 100000) : aY Tryz.prog 32 [.pa (aA c), .one (.c (.sl 10 [aA a]))] [] (.pa (aA (aXj c a))) [] := by
 have h1 := z7 _ a (le_refl _) ha hs2;have h2 := z7 _ c (le_refl _) hc hs;refine c8 (n := 23) tok Tryz.func32 rfl rfl rfl ?_;refine a8 (ag [] rfl ?_);refine a8 (ag [(1, .pc (.pa (aA c)))] rfl ?_);refine a8 (a8 (ag [] rfl ?_));refine aC ?_;refine aJ (fun i : Nat => mk [(4, .one (.vp 4 0)), (5, .one (.vp 5 0)), (10, .one (.c (.sl 10 [aA a]))), (11, I .i64 1), (12, I .i64 i)] [(4, .var 37 bH), (5, .var 37 (bF (if i = 0 then c else aXj c a)))]) (fun i => i ≤ 1) (fun i => 1 - i) 0 (zero_le _) sl ?_;intro i hi;refine a8 (ag [] rfl ?_);refine a8 (aB rfl (fun hb => ?_) (fun hb => ?_))
 ·have hi0 : i = 0 := by
   have : (i : Int) < 1 := zq0 hb;omega
  subst hi0;rw [if_pos rfl];refine aD ?_;refine a8 (aC (a8 (ag [(0, .row 0 (aA a))] rfl ?_)));refine ag [(2, .pc (.pa (aA a))), (3, .all)] rfl ?_;refine ag [] rfl ?_;exact ⟨1, le_refl _, by dsimp only; omega, Sub.trans sl (vp 5 (aA (aXj c a)))⟩
 have hi1 : i = 1 := by
  have : ¬ (i : Int) < 1 := zq1 hb;omega
 subst hi1;rw [if_neg (by omega)];refine aK ?_;refine a8 (ag [] rfl ?_);exact aE (rtC trw)
theorem aT0 (c : Core) (hc : smR c = true) (hs : aR c ≤ 100000) : aY Tryz.prog 32 [.pa (aA c), .one (.c (.sl 10 []))] [] (.pa (aA c)) [] := by
 have h2 := z7 _ c (le_refl _) hc hs;refine c8 (n := 23) tok Tryz.func32 rfl rfl rfl ?_;refine a8 (ag [] rfl ?_);refine a8 (ag [(1, .pc (.pa (aA c)))] rfl ?_);refine a8 (a8 (ag [] rfl ?_));refine aC ?_;refine aJ (fun _ : Unit => mk [(4, .one (.vp 4 0)), (5, .one (.vp 5 0)), (11, I .i64 0), (12, I .i64 0)] [(4, .var 37 bH), (5, .var 37 (bF c))]) (fun _ => True) (fun _ => 0) () trivial sl ?_;intro _ _;refine a8 (ag [] rfl ?_);refine a8 (aB rfl (fun hb => by cases hb) (fun _ => ?_));refine aK ?_;refine a8 (ag [] rfl ?_);exact aE (rtC trw)
def exX : Core := .mk 1 0 [120] zTy [] [] []
def exL : Core := .mk 5 0 [120] zTy [exX] [] []
def exI : Core := .mk 3 3 [] zTy [] [] []
def exE : Core := aXj exL exI
def aUs (l : List Core) : V := .one (.c (.sl 10 (l.map aA)))
theorem aRd (l : List Core) (hl : l.length ≤ 1) : aY Tryz.prog 159 [aUs l] [] (.tup []) [] := by
 have hkl : (l.map aA).length = l.length := length_map _;refine c8 (n := 28) tok Tryz.func159 rfl rfl rfl ?_;refine a8 (ag [] rfl ?_);refine aC ?_;refine aJ (fun _ : Unit => mk [(0, aUs l), (2, I .i64 0), (3, I .i64 (((l.map aA).length : Int) - 1))] []) (fun _ => True) (fun _ => 0) () trivial sl ?_;intro _ _;refine a8 (a8 (ag [] rfl ?_));refine aB rfl (fun hb => ?_) (fun hb => ?_)
 ·exfalso;have : (0 : Int) < ((l.map aA).length : Int) - 1 := zq0 hb;omega
 refine aK ?_;exact ⟨.inl rfl, ⟨_, _, .nil, .nil, rfl⟩, trivial, rfl⟩
theorem aOv : aY Tryz.prog 150 [.pa (aA exI)] [] (.tup [.pa (aA exI), aUs []]) [] := by
 have hr := aRd [] (by simp);refine c8 (n := 23) tok Tryz.func150 rfl rfl rfl ?_;refine a8 (ag [] rfl ?_);refine a8 (ag [] rfl ?_);refine a8 (aC ?_);refine aJ (fun _ : Unit => mk [(1, .one (.vp 1 0)), (2, .one (.vp 2 0)), (4, .one (.c .nl))] [(1, .var 37 (bF exI)), (2, .var 37 bH)]) (fun _ => True) (fun _ => 0) () trivial sl ?_;intro _ _;refine a8 (a8 (ag [] rfl ?_));refine aB rfl (fun hb => by cases hb) (fun _ => ?_);refine aK ?_;refine a8 (ag [(1, .pc (.tup []))] rfl ?_);refine a8 (ag [] rfl ?_);exact aE ⟨.inr rfl, ⟨_, _, .cell rfl (tg rfl) rfl rfl rfl (.tmp rfl .nil), .cons .refl (.cons (.one (.c .nl .nil)) .nil), rfl⟩, trivial, rfl⟩
theorem aOw : aY Tryz.prog 150 [.pa (aA exE)] [] (.tup [.pa (aA exL), aUs [exI]]) [] := by
 have hr := aRd [exI] (by simp);refine c8 (n := 23) tok Tryz.func150 rfl rfl rfl ?_;refine a8 (ag [] rfl ?_);refine a8 (ag [] rfl ?_);refine AWp.sub (Sub.own (t := 4) (id := 500) 37 10 rfl rfl) ?_;refine a8 (aC ?_);refine aJ (fun i : Bool => mk [(1, .one (.vp 1 0)), (2, .one (.vp 2 0)), (4, .one (.hs 500 0 (if i then 1 else 0) (if i then 1 else 0)))] [(1, .var 37 (bF (if i then exL else exE))), (2, .var 37 bH), (500, .arr 37 10 (if i then [aA exI] else []) 0)]) (fun _ => True) (fun i => if i then 0 else 1) false trivial sl ?_;intro i _;cases i with
 | false =>
  refine a8 (a8 (ag [] rfl ?_));refine aB rfl (fun _ => ?_) (fun hb => by cases hb);refine aD ?_;refine aC (a8 (ag [(3, .row 1 (aA exI))] rfl ?_));refine ag [(2, .row 0 (aA exL))] rfl ?_;exact ⟨true, trivial, by decide, sl⟩
 | true =>
  refine a8 (a8 (ag [] rfl ?_));refine aB rfl (fun hb => by cases hb) (fun _ => ?_);refine aK ?_;refine AWp.sub (Sub.freeze (id := 500) rfl) (AWp.sub (cv 4 [aA exI]) ?_);refine a8 (ag [(1, .pc (.tup []))] rfl ?_);refine a8 (ag [] rfl ?_);exact aE ⟨.inr rfl, ⟨_, _, .cell rfl (tg rfl) rfl rfl rfl (.tmp rfl .nil), .cons .refl (.cons .refl .nil), rfl⟩, trivial, rfl⟩
theorem aOx : aY Tryz.prog 77 [.pa (aA exI)] [] (B true) [] := by
 have h := aOv;refine c8 (n := 23) tok Tryz.func77 rfl rfl rfl ?_;refine a8 (ag [] rfl ?_);refine a8 (ag [(1, .pc (.tup [.pa (aA exI), aUs []]))] rfl ?_);refine a8 (ag [(3, .bv false), (7, .bv false), (8, .bv true), (12, .bv true)] rfl ?_);exact aE rtT
theorem aOy : aY Tryz.prog 77 [.pa (aA exE)] [] (B false) [] := by
 have h := aOw;refine c8 (n := 23) tok Tryz.func77 rfl rfl rfl ?_;refine a8 (ag [] rfl ?_);refine a8 (ag [(1, .pc (.tup [.pa (aA exL), aUs [exI]]))] rfl ?_);refine a8 (ag [(3, .bv false), (7, .bv false), (8, .bv false), (12, .bv false)] rfl ?_);exact aE rtT
theorem aXo : aY Tryz.prog 25 [.pa (aA exX), Go.AM.T [120], .pa (aA exI)] [] (.pa (aA exI)) [] := by
 have h := z7 _ exI (le_refl _) rfl (by decide);refine c8 (n := 47) tok Tryz.func25 rfl rfl rfl ?_;refine a8 (ag [] rfl ?_);refine a8 (a8 (ag [(3, .bv true), (8, .bv true)] rfl ?_));refine aB rfl (fun _ => ?_) (fun hb => by cases hb);refine a8 (ag [(1, .pc (.pa (aA exI)))] rfl ?_);exact aE (rtC trw)
def opV (g id : Nat) : V := .ma [.clo g [.vp id 0], .c (.zv 1)]
theorem aE1 (g : Nat) : aY Tryz.prog 138 [.one (.clo g [])] [] (opV 139 601) [(601, .var 49 [.clo g []])] := by
 refine c8 (n := 5) tok Tryz.func138 rfl rfl rfl ?_;refine a8 (ag [(0, .id 601)] rfl ?_);refine a8 (ag [] rfl ?_);exact aE (rtC trw)
theorem aRg (g : Nat) : aY Tryz.prog 140 [.one (.clo g [])] [] (opV 141 601) [(601, .var 179 [.clo g []])] := by
 refine c8 (n := 5) tok Tryz.func140 rfl rfl rfl ?_;refine a8 (ag [(0, .id 601)] rfl ?_);refine a8 (ag [] rfl ?_);exact aE (rtC trw)
def aYy : AObj := omap true
theorem a0b : aY Tryz.prog 76 [] [] (.one (.mr 620)) [(620, aYy)] := by
 have h1 : aY Tryz.prog 138 ([.one (.clo 143 [])] ++ ([] : List R).map V.one) [] (opV 139 601) [(601, .var 49 [.clo 143 []])] := aE1 _;have h2 : aY Tryz.prog 138 ([.one (.clo 145 [])] ++ ([] : List R).map V.one) [] (opV 139 602) [(602, .var 49 [.clo 145 []])] := (aE1 145).swap 601 602;have h3 : aY Tryz.prog 138 ([.one (.clo 146 [])] ++ ([] : List R).map V.one) [] (opV 139 603) [(603, .var 49 [.clo 146 []])] := (aE1 146).swap 601 603;have h4 : aY Tryz.prog 138 ([.one (.clo 147 [])] ++ ([] : List R).map V.one) [] (opV 139 604) [(604, .var 49 [.clo 147 []])] := (aE1 147).swap 601 604;have h5 : aY Tryz.prog 140 ([.one (.clo 148 [])] ++ ([] : List R).map V.one) [] (opV 141 605) [(605, .var 179 [.clo 148 []])] := (aRg 148).swap 601 605;have h6 : aY Tryz.prog 140 ([.one (.clo 149 [])] ++ ([] : List R).map V.one) [] (opV 141 606) [(606, .var 179 [.clo 149 []])] := (aRg 149).swap 601 606;refine c8 (n := 20) tok Tryz.func76 rfl rfl rfl ?_;refine a8 (ag [] rfl ?_);refine a8 (ag [] rfl ?_);refine a8 (ag [] rfl ?_);refine a8 (aF mixed ?_);refine ak 1 [] rfl ?_;refine kv (args := [.one (.clo 143 [])]) h1 ?_;refine ak 2 [] rfl ?_;refine az ?_;refine a8 (ag [] rfl ?_);refine a8 (aF mixed ?_);refine k_ (g_ rfl rfl (aFu (d := 7) (id := 620) (agg := true) rfl rfl (eQ rfl) rfl)) ?_;refine ak 1 [] rfl ?_;refine kv (args := [.one (.clo 145 [])]) h2 ?_;refine k_ (g_ rfl rfl (iZ (id := 620) (agg := true) tok rfl rfl (tg rfl) rfl (tg rfl) rfl rfl rfl rfl rfl rfl rfl)) ?_;refine ak 1 [] rfl ?_;refine kv (args := [.one (.clo 146 [])]) h3 ?_;refine k_ (g_ rfl rfl (iZ (id := 620) (agg := true) tok rfl rfl (tg rfl) rfl (tg rfl) rfl rfl rfl rfl rfl rfl rfl)) ?_;refine ak 1 [] rfl ?_;refine kv (args := [.one (.clo 147 [])]) h4 ?_;refine k_ (g_ rfl rfl (iZ (id := 620) (agg := true) tok rfl rfl (tg rfl) rfl (tg rfl) rfl rfl rfl rfl rfl rfl rfl)) ?_;refine ak 1 [] rfl ?_;refine k_ (g_ rfl rfl (iZ (id := 620) (agg := true) tok rfl rfl (tg rfl) rfl (tg rfl) rfl rfl rfl rfl rfl rfl rfl)) ?_;refine ak 1 [] rfl ?_;refine kv (args := [.one (.clo 148 [])]) h5 ?_;refine k_ (g_ rfl rfl (iZ (id := 620) (agg := true) tok rfl rfl (tg rfl) rfl (tg rfl) rfl rfl rfl rfl rfl rfl rfl)) ?_;refine ak 1 [] rfl ?_;refine kv (args := [.one (.clo 149 [])]) h6 ?_;refine k_ (g_ rfl rfl (iZ (id := 620) (agg := true) tok rfl rfl (tg rfl) rfl (tg rfl) rfl rfl rfl rfl rfl rfl rfl)) ?_;refine ak 2 [] rfl ?_;refine az ?_;exact aE rtT
def mcV : V := .ma [.c (.sl 15 []), .mr 620]
theorem aTs : aY Tryz.prog 78 [mcV, .pa (aA exE)] [(620, aYy)] (.tup [.pa (aA exI), I .i64 0]) [(620, aYy)] := by
 have hs := aXo;refine c8 (n := 113) tok Tryz.func78 rfl rfl rfl ?_;refine a8 (ag [] rfl ?_);refine a8 (ag [] rfl ?_);refine a8 (a8 (ag [] rfl ?_));refine aC (a8 (ag [] rfl ?_));refine aB rfl (fun hb => by cases hb) (fun _ => ?_);refine a8 (ag [] rfl ?_);refine aB rfl (fun _ => ?_) (fun hb => by cases hb);refine a8 (ag [(2, .row 0 (aA exL))] rfl ?_);refine aC (a8 (ag [] rfl ?_));refine aB rfl (fun _ => ?_) (fun hb => by cases hb);refine a8 (ag [(2, .row 0 (aA exX)), (8, .row 1 (aA exI)), (10, .pc (.pa (aA exI)))] rfl ?_);exact aE ⟨.inr rfl, ⟨_, _, .cell rfl (tg rfl) rfl rfl rfl (.tmp rfl .nil), .cons .refl (.cons .refl .nil), rfl⟩, ⟨⟨_, rfl, .map⟩, trivial⟩, rfl⟩
theorem aTn : aY Tryz.prog 31 [.one (.c (.sl 15 [])), .pa (aA exE), I .i64 9] [] (.tup [.pa (aA exI), I .i64 1, I .i64 0]) [] := by
 have hE := aOy;have hI := aOx;have hst := aTs;have hap := aT0 exI rfl (by decide);have hz := aK6 _ exI (le_refl _) (by decide);rw [show fM exI = 1 by simp [exI, fM, cJ, iG, iH]] at hz;refine c8 (n := 43) tok Tryz.func31 rfl rfl rfl ?_;refine a8 (ag [] rfl ?_);refine a8 (aF mixed ?_);refine ak 1 [] rfl ?_;refine kc a0b ?_;refine ak 3 [] rfl ?_;refine az ?_;refine a8 (ag [] rfl ?_);refine a8 (aC ?_);refine aJ (fun i : Bool => mk [(2, I .i64 9), (4, .one (.vp 4 0)), (6, .one (.vp 6 0)), (9, .one (.vp 9 0)), (10, I .i64 (if i then 1 else 0))] [(4, .var 37 (bF (if i then exI else exE))), (6, .var 37 bH), (9, .var 137 [.c (.sl 15 []), .mr 620]), (620, aYy)]) (fun _ => True) (fun i => if i then 0 else 1) false trivial sl ?_;intro i _;cases i with
 | false =>
  refine a8 (a8 (ag [(1, .pc (B false))] rfl ?_));refine aB rfl (fun _ => ?_) (fun hb => by cases hb);refine aD ?_;refine a8 (aC (a8 (a8 (ag [] rfl ?_))));refine aB rfl (fun hb => by cases hb) (fun _ => ?_);refine aD ?_;refine a8 (aF mixed ?_);refine ak 2 [] rfl ?_;refine kc hst ?_;refine ak 6 [] rfl ?_;refine az ?_;refine a8 (a8 (ag [] rfl ?_));refine aB rfl (fun hb => by cases hb) (fun _ => ?_);refine aD ?_;refine a8 (ag [] rfl ?_);refine a8 (ag [(1, .pc (I .i64 (1 : Nat)))] rfl ?_);refine aB rfl (fun hb => by cases hb) (fun _ => ?_);refine aD ?_;refine ag [] rfl ?_;exact ⟨true, trivial, by decide, sl⟩
 | true =>
  refine a8 (a8 (ag [(1, .pc (B true))] rfl ?_));refine aB rfl (fun hb => by cases hb) (fun _ => ?_);refine aK ?_;refine a8 (ag [(1, .pc (.pa (aA exI)))] rfl ?_);exact aE ⟨.inr rfl, ⟨_, _, .cell rfl (tg rfl) rfl rfl rfl (.tmp rfl (.tmp rfl .nil)), .cons .refl (.cons .refl (.cons .refl .nil)), rfl⟩, trivial, rfl⟩
def aW8 : Ty := .mk 2 0 [97] []
def exA : Core := aMw [97] (aY3 [120] aW8 exX)
def exB : Core := aM0 exA aMi
def aZ6 : Core := aXj exB exI
theorem aLb : aY Tryz.prog 29 [] [] (B true) [] := by
 have h1 := aTo [97];have h2 := aX0 [120];have h3 := aX2 [120] aW8 exX rfl rfl (by decide);have h4 := aTy [97] (aY3 [120] aW8 exX) rfl (by decide);have h5 := aTp [73, 110, 116];have h6 := aTz exA aMi rfl rfl (by decide);have h7 := aLg 3;have h8 := aX3 exB exI rfl rfl (by decide) (by decide);have h9 : aY Tryz.prog 22 [.pa (aA aZ6)] [] (.pa (aA exE)) [] := aE0 _ aZ6 (le_refl _) (by decide) rfl;have h10 := aTn;refine c8 (n := 60) tok Tryz.func29 rfl rfl rfl ?_;refine a8 (ag [] rfl ?_);refine a8 (ag [(0, .pc (tyV aW8)), (1, .pc (.pa (aA exX))), (2, .pc (.pa (aA (aY3 [120] aW8 exX)))), (3, .all), (4, .pc (.pa (aA exA)))] rfl ?_);refine a8 (ag [(1, .pc (tyV aMi)), (2, .all), (3, .pc (.pa (aA exB))), (4, .pc (.pa (aA exI))), (5, .all), (6, .pc (.pa (aA aZ6))), (7, .pc (.pa (aA exE)))] rfl ?_);refine a8 (ag [(1, .pc (.tup [.pa (aA exI), I .i64 1, I .i64 0]))] rfl ?_);refine a8 (ag [(3, .bv true), (8, .bv true), (9, .bv true), (12, .row 0 (aA exL)), (16, .bv true), (17, .bv true), (21, .bv true), (22, .bv true), (26, .bv true), (27, .bv true), (30, .bv true), (31, .bv true), (34, .bv true)] rfl ?_);exact aE rtT
theorem aS0 {o : List Str} {s : Str} (h : o.Nodup) : (qX o s).Nodup := by
 unfold qX;split
 ·exact h
 ·rename_i hs;rw [nodup_append];exact ⟨h, by simp, fun a ha b hb e => by rw [mem_singleton.1 hb] at e; subst e; exact hs ha⟩
end Go.Proofs.YtmoekkcdkjopgaaGreatDoor
