/-
  PLAIN LAWS OF CLASSES (2): the queue finds the shortest way, and of those the least.
-/
import Derived.Test.YthfeeaifddppoaaPl1
namespace Go.Proofs.Ythfeeaifddppoaa

/-! ### Ways, and which is the lesser -/
def lexlt : List Nat → List Nat → Prop
  | a :: x, b :: y => a < b ∨ (a = b ∧ lexlt x y)
  | _, _ => False
def sl (a b : List Nat) : Prop := a.length < b.length ∨ (a.length = b.length ∧ lexlt a b)
theorem lexlt_irr : ∀ a, ¬ lexlt a a
  | [] => id
  | a :: x => fun h => by
    rcases h with h | ⟨_, h⟩
    · omega
    · exact lexlt_irr x h
theorem lexlt_trans : ∀ {a b c}, lexlt a b → lexlt b c → lexlt a c
  | a :: x, b :: y, c :: z, h, k => by
    rcases h with h | ⟨rfl, h⟩ <;> rcases k with k | ⟨rfl, k⟩
    · exact .inl (Nat.lt_trans h k)
    · exact .inl h
    · exact .inl k
    · exact .inr ⟨rfl, lexlt_trans h k⟩
  | [], b, c, h, _ => by cases b <;> exact h.elim
  | _ :: _, [], _, h, _ => h.elim
  | _ :: _, _ :: _, [], _, k => k.elim
theorem lexlt_tri : ∀ {a b : List Nat}, a.length = b.length → lexlt a b ∨ a = b ∨ lexlt b a
  | [], [], _ => .inr (.inl rfl)
  | a :: x, b :: y, h => by
    rcases Nat.lt_trichotomy a b with h1 | rfl | h1
    · exact .inl (.inl h1)
    · rcases lexlt_tri (a := x) (b := y) (by simpa using h) with h2 | rfl | h2
      · exact .inl (.inr ⟨rfl, h2⟩)
      · exact .inr (.inl rfl)
      · exact .inr (.inr (.inr ⟨rfl, h2⟩))
    · exact .inr (.inr (.inl h1))
theorem lexlt_snoc : ∀ {a b : List Nat} (i j : Nat), lexlt a b → lexlt (a ++ [i]) (b ++ [j])
  | a :: x, b :: y, i, j, h => by
    rcases h with h | ⟨rfl, h⟩
    · exact .inl h
    · exact .inr ⟨rfl, lexlt_snoc i j h⟩
  | [], b, _, _, h => by cases b <;> exact h.elim
  | _ :: _, [], _, _, h => h.elim
theorem lexlt_last : ∀ (a : List Nat) {i j : Nat}, i < j → lexlt (a ++ [i]) (a ++ [j])
  | [], _, _, h => .inl h
  | _ :: x, _, _, h => .inr ⟨rfl, lexlt_last x h⟩
theorem sl_irr (a : List Nat) : ¬ sl a a := fun h => by
  rcases h with h | h
  · omega
  · exact lexlt_irr a h.2
theorem sl_trans {a b c : List Nat} (h : sl a b) (k : sl b c) : sl a c := by
  rcases h with h | ⟨h, h'⟩ <;> rcases k with k | ⟨k, k'⟩
  · exact .inl (Nat.lt_trans h k)
  · exact .inl (k ▸ h)
  · exact .inl (h ▸ k)
  · exact .inr ⟨h.trans k, lexlt_trans h' k'⟩
theorem sl_tri (a b : List Nat) : sl a b ∨ a = b ∨ sl b a := by
  rcases Nat.lt_trichotomy a.length b.length with h | h | h
  · exact .inl (.inl h)
  · rcases lexlt_tri h with h1 | h1 | h1
    · exact .inl (.inr ⟨h, h1⟩)
    · exact .inr (.inl h1)
    · exact .inr (.inr (.inr ⟨h.symm, h1⟩))
  · exact .inr (.inr (.inl h))
theorem sl_snoc {a b : List Nat} (i j : Nat) (h : sl a b) : sl (a ++ [i]) (b ++ [j]) := by
  rcases h with h | ⟨h, h'⟩
  · left; simp; omega
  · exact .inr ⟨by simp [h], lexlt_snoc i j h'⟩
theorem sl_last (a : List Nat) {i j : Nat} (h : i < j) : sl (a ++ [i]) (a ++ [j]) := .inr ⟨by simp, lexlt_last a h⟩
theorem sl_pre (a : List Nat) (i : Nat) : sl a (a ++ [i]) := .inl (by simp)

/-- The class at a place of those above. -/
def child (p : Prog) (u : Str) (i : Nat) : Option Str := match (supersOf p u)[i]? with
  | some s => if (cls p s).isSome then some s else none
  | none => none
def wk (p : Prog) : Str → List Nat → Option Str
  | f, [] => some f
  | f, i :: r => match child p f i with
    | some s => wk p s r
    | none => none
theorem wk_snoc (p : Prog) : ∀ (r : List Nat) (f : Str) (i : Nat), wk p f (r ++ [i]) = (wk p f r).bind fun u => child p u i
  | [], f, i => by
    simp only [List.nil_append, wk, Option.bind_some]
    cases child p f i <;> rfl
  | j :: r, f, i => by
    simp only [List.cons_append, wk]
    cases child p f j with
    | none => rfl
    | some s => exact wk_snoc p r s i
theorem child_some {p : Prog} {u s : Str} {i : Nat} (h : child p u i = some s) : (supersOf p u)[i]? = some s ∧ (cls p s).isSome := by
  unfold child at h
  cases hq : (supersOf p u)[i]? with
  | none => rw [hq] at h; cases h
  | some x =>
    rw [hq] at h
    dsimp only at h
    split at h
    · rename_i hc; cases h; exact ⟨rfl, hc⟩
    · cases h
theorem wk_rch {p : Prog} {f : Str} : ∀ {x : List Nat} {s : Str}, x ≠ [] → wk p f x = some s → Rch p f s := by
  intro x
  induction x generalizing f with
  | nil => intro s h; exact absurd rfl h
  | cons i r ih =>
    intro s _ h
    simp only [wk] at h
    cases hc : child p f i with
    | none => rw [hc] at h; cases h
    | some u =>
      rw [hc] at h
      dsimp only at h
      obtain ⟨h1, h2⟩ := child_some hc
      have hm := List.mem_of_getElem? h1
      cases r with
      | nil => cases h; exact .one hm h2
      | cons j r => exact (ih (by simp) h).head hm h2
theorem rch_wk {p : Prog} {f s : Str} (h : Rch p f s) : ∃ x, x ≠ [] ∧ wk p f x = some s := by
  have hch : ∀ {u s : Str}, s ∈ supersOf p u → (cls p s).isSome → ∃ i, child p u i = some s := by
    intro u s h1 h2
    obtain ⟨i, hi⟩ := List.getElem?_of_mem h1
    exact ⟨i, by unfold child; rw [hi]; simp [h2]⟩
  induction h with
  | one h1 h2 =>
    obtain ⟨i, hi⟩ := hch h1 h2
    exact ⟨[i], by simp, by simp [wk, hi]⟩
  | step _ h1 h2 ih =>
    obtain ⟨x, hx, hw⟩ := ih
    obtain ⟨i, hi⟩ := hch h1 h2
    exact ⟨x ++ [i], by simp, by rw [wk_snoc, hw]; exact hi⟩

def ipath (x : List Nat) : List Int := x.map fun (n : Nat) => (n : Int)
def wayOf (x : List Nat × Str) : Way := ⟨x.2, ipath x.1⟩
theorem ipath_snoc (x : List Nat) (i : Nat) : ipath (x ++ [i]) = ipath x ++ [(i : Int)] := by simp [ipath]

/-- In the midst: 'pr' is done, 'h' is at its place i, 'q' waits. -/
structure BJ (p : Prog) (f t : Str) (pr : List (List Nat × Str)) (h : List Nat × Str) (i : Nat) (q : List (List Nat × Str)) (seen : List Str) : Prop where
  walks : ∀ x ∈ pr ++ h :: q, wk p f x.1 = some x.2
  root : ([], f) ∈ pr ++ [h]
  met : ∀ s, s ∈ seen ↔ ∃ x ∈ pr ++ h :: q, x.1 ≠ [] ∧ x.2 = s
  done : ∀ x ∈ pr, ∀ j s, child p x.2 j = some s → s ∈ seen
  part : ∀ j, j < i → ∀ s, child p h.2 j = some s → s ∈ seen
  least : ∀ x ∈ pr ++ h :: q, x.1 ≠ [] → ∀ y, y ≠ [] → Go.Proofs.Ythfeeaifddppoaa.wk p f y = some x.2 → ¬ sl y x.1
  ord : (h :: q).Pairwise fun a b => sl a.1 b.1
  fresh : ∀ x ∈ q, ∀ k, i ≤ k → sl x.1 (h.1 ++ [k])
  nott : t ∉ seen
  len : ∀ x ∈ h :: q, x.1.length ≤ seen.length
  tok : TOk p seen

theorem BJ.before {p : Prog} {f t : Str} {pr : List (List Nat × Str)} {h : List Nat × Str} {i : Nat} {q : List (List Nat × Str)} {seen : List Str} (b : BJ p f t pr h i q seen) :
    ∀ (n : Nat) (y : List Nat) (v : Str), y.length = n + 1 → wk p f y = some v → sl y (h.1 ++ [i]) → v ∈ seen := by
  intro n
  induction n with
  | zero =>
    intro y v hy hw hs
    obtain ⟨j, rfl⟩ : ∃ j, y = [j] := by
      match y, hy with
      | [j], _ => exact ⟨j, rfl⟩
    have hc : child p f j = some v := by
      simp only [Go.Proofs.Ythfeeaifddppoaa.wk] at hw
      cases hc : child p f j with
      | none => rw [hc] at hw; cases hw
      | some s => rw [hc] at hw; exact hw
    rcases List.mem_append.1 b.root with hr | hr
    · exact b.done _ hr j v hc
    · simp at hr
      subst hr
      rcases hs with hs | ⟨_, hs⟩
      · simp at hs
      · rcases hs with hs | ⟨_, hs⟩
        · exact b.part j hs v hc
        · exact hs.elim
  | succ n ih =>
    intro y v hy hw hs
    obtain ⟨y0, j, rfl⟩ : ∃ y0 j, y = y0 ++ [j] := ⟨y.dropLast, y.getLast (by rintro rfl; simp at hy), (List.dropLast_concat_getLast _).symm⟩
    have hy0 : y0.length = n + 1 := by simpa using hy
    rw [wk_snoc] at hw
    cases hu : Go.Proofs.Ythfeeaifddppoaa.wk p f y0 with
    | none => rw [hu] at hw; cases hw
    | some u =>
      rw [hu] at hw
      simp only [Option.bind_some] at hw
      have hseen := ih y0 u hy0 hu (sl_trans (sl_pre y0 j) hs)
      obtain ⟨x, hx, hxn, rfl⟩ := (b.met u).1 hseen
      have hle : x.1 = y0 ∨ sl x.1 y0 := by
        rcases sl_tri y0 x.1 with h1 | h1 | h1
        · exact absurd h1 (b.least x hx hxn y0 (by rintro rfl; simp at hy0) hu)
        · exact .inl h1.symm
        · exact .inr h1
      have hsx : sl (x.1 ++ [j]) (h.1 ++ [i]) := by
        rcases hle with h1 | h1
        · rw [h1]; exact hs
        · exact sl_trans (sl_snoc j j h1) hs
      rcases List.mem_append.1 hx with hx | hx
      · exact b.done x hx j v hw
      · rcases List.mem_cons.1 hx with rfl | hx
        · by_cases hji : j < i
          · exact b.part j hji v hw
          · exfalso
            rcases Nat.lt_or_ge i j with h1 | h1
            · exact sl_irr _ (sl_trans hsx (sl_last _ h1))
            · obtain rfl : j = i := by omega
              exact sl_irr _ hsx
        · exfalso
          have := List.rel_of_pairwise_cons b.ord hx
          exact sl_irr _ (sl_trans hsx (sl_snoc i j this))

/-- The shortest way, and of those the least. -/
structure LeastW (p : Prog) (f t : Str) (x : List Nat) : Prop where
  wk : wk p f x = some t
  ne : x ≠ []
  least : ∀ y, y ≠ [] → Go.Proofs.Ythfeeaifddppoaa.wk p f y = some t → ¬ sl y x
  len : x.length ≤ p.classes.length

theorem BJ.cand {p : Prog} {f t s : Str} {pr : List (List Nat × Str)} {h : List Nat × Str} {i : Nat} {q : List (List Nat × Str)} {seen : List Str} (b : BJ p f t pr h i q seen) (hc : child p h.2 i = some s) (hn : s ∉ seen) :
    wk p f (h.1 ++ [i]) = some s ∧ ∀ y, y ≠ [] → wk p f y = some s → ¬ sl y (h.1 ++ [i]) := by
  refine ⟨by rw [wk_snoc, b.walks h (by simp)]; exact hc, fun y hy hw hs => hn ?_⟩
  refine b.before (y.length - 1) y s ?_ hw hs
  have := List.length_pos_iff.2 hy
  omega

theorem BJ.skip {p : Prog} {f t : Str} {pr : List (List Nat × Str)} {h : List Nat × Str} {i : Nat} {q : List (List Nat × Str)} {seen : List Str} (b : BJ p f t pr h i q seen) (hc : ∀ s, child p h.2 i = some s → s ∈ seen) : BJ p f t pr h (i + 1) q seen :=
  { b with
    part := fun j hj s hs => by
      rcases Nat.lt_or_ge j i with h1 | h1
      · exact b.part j h1 s hs
      · obtain rfl : j = i := by omega
        exact hc s hs
    fresh := fun x hx k hk => b.fresh x hx k (by omega) }

theorem BJ.push {p : Prog} {f t s : Str} {pr : List (List Nat × Str)} {h : List Nat × Str} {i : Nat} {q : List (List Nat × Str)} {seen : List Str} (b : BJ p f t pr h i q seen) (hc : child p h.2 i = some s) (hn : s ∉ seen) (hst : s ≠ t) :
    BJ p f t pr h (i + 1) (q ++ [(h.1 ++ [i], s)]) (seen ++ [s]) := by
  obtain ⟨c1, c2⟩ := b.cand hc hn
  have hmem : ∀ {x : List Nat × Str}, x ∈ pr ++ h :: (q ++ [(h.1 ++ [i], s)]) → x ∈ pr ++ h :: q ∨ x = (h.1 ++ [i], s) := by
    intro x hx
    simp only [List.mem_append, List.mem_cons, List.not_mem_nil, or_false] at hx ⊢
    rcases hx with hx | hx | hx | hx
    · exact .inl (.inl hx)
    · exact .inl (.inr (.inl hx))
    · exact .inl (.inr (.inr hx))
    · exact .inr hx
  refine ⟨fun x hx => ?_, b.root, fun u => ?_, fun x hx j u hu => ?_, fun j hj u hu => ?_, fun x hx hxn y hy hw => ?_, ?_, fun x hx k hk => ?_, ?_, fun x hx => ?_, b.tok.snoc (child_some hc).2 hn⟩
  · rcases hmem hx with hx | rfl
    · exact b.walks x hx
    · exact c1
  · rw [List.mem_append, b.met u]
    constructor
    · rintro (⟨x, hx, h1, h2⟩ | hu)
      · refine ⟨x, ?_, h1, h2⟩
        simp only [List.mem_append, List.mem_cons] at hx ⊢
        rcases hx with hx | hx | hx
        · exact .inl hx
        · exact .inr (.inl hx)
        · exact .inr (.inr (.inl hx))
      · simp at hu
        exact ⟨(h.1 ++ [i], s), by simp, by simp, hu.symm⟩
    · rintro ⟨x, hx, h1, h2⟩
      rcases hmem hx with hx | rfl
      · exact .inl ⟨x, hx, h1, h2⟩
      · right; simp at h2; simp [h2]
  · simp [b.done x hx j u hu]
  · rcases Nat.lt_or_ge j i with h1 | h1
    · simp [b.part j h1 u hu]
    · obtain rfl : j = i := by omega
      rw [hc] at hu; cases hu
      simp
  · rcases hmem hx with hx | rfl
    · exact b.least x hx hxn y hy hw
    · exact c2 y hy hw
  · have ho := b.ord
    rw [List.pairwise_cons] at ho ⊢
    refine ⟨fun x hx => ?_, ?_⟩
    · rcases List.mem_append.1 hx with hx | hx
      · exact ho.1 x hx
      · simp at hx; subst hx; exact sl_pre _ _
    · rw [List.pairwise_append]
      refine ⟨ho.2, by simp, fun a ha c hcc => ?_⟩
      simp at hcc
      subst hcc
      exact b.fresh a ha i (Nat.le_refl _)
  · rcases List.mem_append.1 hx with hx | hx
    · exact b.fresh x hx k (by omega)
    · simp at hx; subst hx; exact sl_last _ hk
  · simp only [List.mem_append, List.mem_singleton, not_or]
    exact ⟨b.nott, fun e => hst e.symm⟩
  · rw [List.length_append, List.length_singleton]
    rcases List.mem_cons.1 hx with rfl | hx
    · have := b.len x (by simp); omega
    · rcases List.mem_append.1 hx with hx | hx
      · have := b.len x (by simp [hx]); omega
      · simp at hx; subst hx
        have := b.len h (by simp)
        simp; omega

/-- A class's own above. -/
theorem bin_spec {p : Prog} {f t : Str} {pr : List (List Nat × Str)} {h : List Nat × Str} : ∀ (r : List (Str × Nat)) (i : Nat) (q : List (List Nat × Str)) (seen : List Str), r = (supersOf p h.2).zipIdx.drop i → BJ p f t pr h i q seen →
    (∃ x, bin p t (wayOf h) r seen (q.map wayOf) = .inl (ipath x) ∧ LeastW p f t x) ∨
    (∃ i' q' seen', bin p t (wayOf h) r seen (q.map wayOf) = .inr (seen', q'.map wayOf) ∧ BJ p f t pr h i' q' seen' ∧ (supersOf p h.2).length ≤ i' ∧ (p.classes.length - seen'.length) + q'.length ≤ (p.classes.length - seen.length) + q.length)
  | [], i, q, seen, hr, b => by
    refine .inr ⟨i, q, seen, rfl, b, ?_, Nat.le_refl _⟩
    have := congrArg List.length hr
    simp at this
    omega
  | (s, k) :: r, i, q, seen, hr, b => by
    have hi : i < (supersOf p h.2).length := by
      have := congrArg List.length hr
      simp at this
      omega
    have hz : (supersOf p h.2).zipIdx.drop i = ((supersOf p h.2)[i], i) :: (supersOf p h.2).zipIdx.drop (i + 1) := by
      rw [List.drop_eq_getElem_cons (by simpa using hi)]
      simp
    rw [hz] at hr
    obtain ⟨h1, h2⟩ := List.cons.inj hr
    obtain ⟨rfl, rfl⟩ := Prod.mk.inj h1
    have hg : (supersOf p h.2)[k]? = some (supersOf p h.2)[k] := by simp [hi]
    rw [bin]
    by_cases hcond : (cls p (supersOf p h.2)[k]).isSome ∧ (supersOf p h.2)[k] ∉ seen
    · have hch : child p h.2 k = some (supersOf p h.2)[k] := by unfold child; rw [hg]; simp [hcond.1]
      rw [if_pos hcond]
      by_cases hst : (supersOf p h.2)[k] = t
      · rw [if_pos hst]
        obtain ⟨c1, c2⟩ := b.cand hch hcond.2
        refine .inl ⟨h.1 ++ [k], by rw [ipath_snoc]; rfl, ⟨by rw [c1, hst], by simp, fun y hy hw => c2 y hy (by rw [hw, hst]), ?_⟩⟩
        have := (b.tok.snoc hcond.1 hcond.2).len
        have := b.len h (by simp)
        simp at *
        omega
      · rw [if_neg hst]
        have hb := b.push hch hcond.2 hst
        have hm : (q.map wayOf ++ [⟨(supersOf p h.2)[k], (wayOf h).path ++ [(k : Int)]⟩]) = (q ++ [(h.1 ++ [k], (supersOf p h.2)[k])]).map wayOf := by
          simp [wayOf, ipath_snoc]
        rw [hm]
        have hl := (b.tok.snoc hcond.1 hcond.2).len
        simp only [List.length_append, List.length_singleton] at hl
        rcases bin_spec r (k + 1) _ _ h2 hb with h3 | ⟨i', q', seen', h3, h4, h5, h6⟩
        · exact .inl h3
        · refine .inr ⟨i', q', seen', h3, h4, h5, Nat.le_trans h6 ?_⟩
          simp only [List.length_append, List.length_singleton]
          omega
    · rw [if_neg hcond]
      refine bin_spec r (k + 1) _ _ h2 (b.skip fun s hs => ?_)
      obtain ⟨g1, g2⟩ := child_some hs
      rw [hg] at g1; cases g1
      have : ¬ ((supersOf p h.2)[k] ∉ seen) := fun hn => hcond ⟨g2, hn⟩
      simpa using this

/-- Between two classes. -/
structure BI (p : Prog) (f t : Str) (pr : List (List Nat × Str)) (q : List (List Nat × Str)) (seen : List Str) : Prop where
  walks : ∀ x ∈ pr ++ q, wk p f x.1 = some x.2
  root : ([], f) ∈ pr ++ q
  first : ([], f) ∈ pr ∨ ∃ q', q = ([], f) :: q'
  met : ∀ s, s ∈ seen ↔ ∃ x ∈ pr ++ q, x.1 ≠ [] ∧ x.2 = s
  done : ∀ x ∈ pr, ∀ j s, child p x.2 j = some s → s ∈ seen
  least : ∀ x ∈ pr ++ q, x.1 ≠ [] → ∀ y, y ≠ [] → Go.Proofs.Ythfeeaifddppoaa.wk p f y = some x.2 → ¬ sl y x.1
  ord : q.Pairwise fun a b => sl a.1 b.1
  fresh : ∀ h q', q = h :: q' → ∀ x ∈ q', ∀ k, sl x.1 (h.1 ++ [k])
  nott : t ∉ seen
  len : ∀ x ∈ q, x.1.length ≤ seen.length
  tok : TOk p seen
theorem BI.start (p : Prog) (f t : Str) : BI p f t [] [([], f)] [] :=
  ⟨by simp [Go.Proofs.Ythfeeaifddppoaa.wk], by simp, .inr ⟨[], rfl⟩, by simp, by simp, by simp, by simp, by rintro h q' e x hx; cases e; simp at hx, by simp, by simp, .nil p⟩
theorem BI.pop {p : Prog} {f t : Str} {pr : List (List Nat × Str)} {h : List Nat × Str} {q : List (List Nat × Str)} {seen : List Str} (b : BI p f t pr (h :: q) seen) : BJ p f t pr h 0 q seen :=
  ⟨b.walks, by
    rcases b.first with h1 | ⟨q', h1⟩
    · simp [h1]
    · cases h1; simp, b.met, b.done, by omega, b.least, b.ord, fun x hx k _ => b.fresh h q rfl x hx k, b.nott, b.len, b.tok⟩
theorem BJ.close {p : Prog} {f t : Str} {pr : List (List Nat × Str)} {h : List Nat × Str} {i : Nat} {q : List (List Nat × Str)} {seen : List Str} (b : BJ p f t pr h i q seen) (hi : (supersOf p h.2).length ≤ i) : BI p f t (pr ++ [h]) q seen := by
  have hm : ∀ x, x ∈ (pr ++ [h]) ++ q ↔ x ∈ pr ++ h :: q := by intro x; simp
  refine ⟨fun x hx => b.walks x ((hm x).1 hx), ?_, .inl b.root, fun s => ?_, fun x hx j s hs => ?_, fun x hx => b.least x ((hm x).1 hx), (List.pairwise_cons.1 b.ord).2, ?_, b.nott, fun x hx => b.len x (by simp [hx]), b.tok⟩
  · have := b.root
    simp only [List.mem_append] at this ⊢
    exact .inl this
  · rw [b.met s]
    constructor <;> rintro ⟨x, hx, h1⟩
    · exact ⟨x, (hm x).2 hx, h1⟩
    · exact ⟨x, (hm x).1 hx, h1⟩
  · rcases List.mem_append.1 hx with hx | hx
    · exact b.done x hx j s hs
    · simp at hx
      subst hx
      refine b.part j ?_ s hs
      have := (List.getElem?_eq_some_iff.1 (child_some hs).1).1
      omega
  · rintro g q' rfl x hx k
    have h1 := b.fresh x (by simp [hx]) i (Nat.le_refl _)
    have h2 := List.rel_of_pairwise_cons b.ord (List.mem_cons_self (a := g) (l := q'))
    exact sl_trans h1 (sl_snoc i k h2)
theorem BI.none {p : Prog} {f t : Str} {pr : List (List Nat × Str)} {seen : List Str} (b : BI p f t pr [] seen) : ∀ y, y ≠ [] → Go.Proofs.Ythfeeaifddppoaa.wk p f y ≠ some t := by
  have key : ∀ (n : Nat) (y : List Nat) (v : Str), y.length = n + 1 → Go.Proofs.Ythfeeaifddppoaa.wk p f y = some v → v ∈ seen := by
    have hroot : ([], f) ∈ pr := by
      rcases b.first with h | ⟨q', h⟩
      · exact h
      · cases h
    intro n
    induction n with
    | zero =>
      intro y v hy hw
      obtain ⟨j, rfl⟩ : ∃ j, y = [j] := by
        match y, hy with
        | [j], _ => exact ⟨j, rfl⟩
      refine b.done _ hroot j v ?_
      simp only [Go.Proofs.Ythfeeaifddppoaa.wk] at hw
      cases hc : child p f j with
      | none => rw [hc] at hw; cases hw
      | some s => rw [hc] at hw; exact hw
    | succ n ih =>
      intro y v hy hw
      obtain ⟨y0, j, rfl⟩ : ∃ y0 j, y = y0 ++ [j] := ⟨y.dropLast, y.getLast (by rintro rfl; simp at hy), (List.dropLast_concat_getLast _).symm⟩
      rw [wk_snoc] at hw
      cases hu : Go.Proofs.Ythfeeaifddppoaa.wk p f y0 with
      | none => rw [hu] at hw; cases hw
      | some u =>
        rw [hu] at hw
        obtain ⟨x, hx, hxn, rfl⟩ := (b.met u).1 (ih y0 u (by simpa using hy) hu)
        exact b.done x (by simpa using hx) j v hw
  intro y hy hw
  refine b.nott (key (y.length - 1) y t ?_ hw)
  have := List.length_pos_iff.2 hy
  omega
theorem bfs_spec {p : Prog} {f t : Str} : ∀ (n : Nat) (pr q : List (List Nat × Str)) (seen : List Str), BI p f t pr q seen → (p.classes.length - seen.length) + q.length < n →
    (∃ x, bfs p t n seen (q.map wayOf) = some (ipath x) ∧ LeastW p f t x) ∨ (bfs p t n seen (q.map wayOf) = none ∧ ∀ y, y ≠ [] → wk p f y ≠ some t)
  | 0, _, _, _, _, h => by omega
  | n + 1, pr, [], seen, b, _ => .inr ⟨rfl, b.none⟩
  | n + 1, pr, h :: q, seen, b, hn => by
    simp only [List.map_cons, bfs]
    rcases bin_spec (supersOf p h.2).zipIdx 0 q seen rfl b.pop with ⟨x, h1, h2⟩ | ⟨i', q', seen', h1, h2, h3, h4⟩
    · exact .inl ⟨x, by rw [show (wayOf h).cls = h.2 from rfl, h1], h2⟩
    · rw [show (wayOf h).cls = h.2 from rfl, h1]
      refine bfs_spec n (pr ++ [h]) q' seen' (h2.close h3) ?_
      simp only [List.length_cons] at hn
      omega
theorem climbR_spec (p : Prog) (f t : Str) : (∃ x, climbR p f t = some (ipath x) ∧ LeastW p f t x) ∨ (climbR p f t = none ∧ ∀ y, y ≠ [] → wk p f y ≠ some t) :=
  bfs_spec (p.classes.length + 2) [] [([], f)] [] (.start p f t) (by simp)
theorem climbR_iff (p : Prog) (f t : Str) : (climbR p f t).isSome = true ↔ Rch p f t := by
  rcases climbR_spec p f t with ⟨x, h1, h2⟩ | ⟨h1, h2⟩
  · rw [h1]; exact ⟨fun _ => wk_rch h2.ne h2.wk, fun _ => rfl⟩
  · rw [h1]
    refine ⟨(fun h => by cases h), fun h => ?_⟩
    obtain ⟨y, hy, hw⟩ := rch_wk h
    exact absurd hw (h2 y hy)

/-! ### The document's way -/
def PK (p : Prog) (t : Str) (n : Nat) (f : Str) (k : Nat) (o : Option (List Int)) : Prop :=
  (∃ x, o = some (ipath x) ∧ x.length = n + 1 ∧ wk p f x = some t ∧ ∀ y, y.length = n + 1 → (∀ j r, y = j :: r → k ≤ j) → wk p f y = some t → ¬ lexlt y x) ∨
  (o = none ∧ ∀ y, y.length = n + 1 → (∀ j r, y = j :: r → k ≤ j) → wk p f y ≠ some t)
theorem pth_spec (p : Prog) (t : Str) : ∀ (n : Nat) (f : Str), (cls p f).isSome →
    (∃ x, pth p t n f = some (ipath x) ∧ x.length = n ∧ wk p f x = some t ∧ ∀ y, y.length = n → wk p f y = some t → ¬ lexlt y x) ∨ (pth p t n f = none ∧ ∀ y, y.length = n → wk p f y ≠ some t)
  | 0, f, hf => by
    by_cases h : f = t
    · subst h
      exact .inl ⟨[], by simp [pth, ipath, hf], rfl, by simp [wk], fun y hy _ hl => by
        obtain rfl := List.eq_nil_of_length_eq_zero hy
        exact hl⟩
    · refine .inr ⟨by simp [pth, h], fun y hy hw => ?_⟩
      obtain rfl := List.eq_nil_of_length_eq_zero hy
      simp [wk] at hw
      exact h hw
  | n + 1, f, hf => by
    have hnc : ∀ s, (cls p s).isSome = false → pth p t n s = none := by
      intro s hs
      cases n with
      | zero => simp [pth, hs]
      | succ n =>
        have : supersOf p s = [] := by
          unfold supersOf
          cases hc : cls p s with
          | none => rfl
          | some c => rw [hc] at hs; cases hs
        simp [pth, this]
    have key : ∀ (l : List Str) (k : Nat), (supersOf p f).drop k = l →
        PK p t n f k ((l.zipIdx k).findSome? (fun x => (pth p t n x.1).map (fun r => (x.2 : Int) :: r))) := by
      intro l
      induction l with
      | nil =>
        intro k hk
        refine .inr ⟨rfl, fun y hy hj hw => ?_⟩
        match y, hy with
        | j :: r, _ =>
          have := hj j r rfl
          simp only [wk] at hw
          cases hc : child p f j with
          | none => rw [hc] at hw; cases hw
          | some s =>
            have h1 := (List.getElem?_eq_some_iff.1 (child_some hc).1).1
            have h2 := congrArg List.length hk
            simp at h2
            omega
      | cons s l ih =>
        intro k hk
        have hg : (supersOf p f)[k]? = some s := by
          have := congrArg (fun l => l[0]?) hk
          simpa [List.getElem?_drop] using this
        have hd : (supersOf p f).drop (k + 1) = l := by
          have := congrArg (List.drop 1) hk
          simpa [List.drop_drop, Nat.add_comm] using this
        simp only [List.zipIdx_cons, List.findSome?_cons]
        have next : pth p t n s = none → (∀ y, y.length = n → wk p s y = some t → (cls p s).isSome = true → False) → PK p t n f k (match (pth p t n s).map (fun r => ((k : Nat) : Int) :: r) with | some b => some b | none => (l.zipIdx (k + 1)).findSome? (fun x => (pth p t n x.1).map (fun r => (x.2 : Int) :: r))) := fun hnone hno => by
          rw [hnone]
          simp only [Option.map_none]
          rcases ih (k + 1) hd with ⟨x, h1, h2, h3, h4⟩ | ⟨h1, h2⟩
          · refine .inl ⟨x, h1, h2, h3, fun y hy hj hw => ?_⟩
            match y, hy with
            | j :: r, hy =>
              have hkj := hj j r rfl
              by_cases e : j = k
              · subst e
                simp only [wk] at hw
                cases hc : child p f j with
                | none => rw [hc] at hw; cases hw
                | some s' =>
                  rw [hc] at hw
                  obtain ⟨g1, g2⟩ := child_some hc
                  rw [hg] at g1; cases g1
                  exact (hno r (by simpa using hy) hw g2).elim
              · exact h4 (j :: r) hy (fun j' r' e' => by cases e'; omega) hw
          · refine .inr ⟨h1, fun y hy hj hw => ?_⟩
            match y, hy with
            | j :: r, hy =>
              have hkj := hj j r rfl
              by_cases e : j = k
              · subst e
                simp only [wk] at hw
                cases hc : child p f j with
                | none => rw [hc] at hw; cases hw
                | some s' =>
                  rw [hc] at hw
                  obtain ⟨g1, g2⟩ := child_some hc
                  rw [hg] at g1; cases g1
                  exact hno r (by simpa using hy) hw g2
              · exact h2 (j :: r) hy (fun j' r' e' => by cases e'; omega) hw
        by_cases hs : (cls p s).isSome = true
        · have hch : child p f k = some s := by unfold child; rw [hg]; simp [hs]
          rcases pth_spec p t n s hs with ⟨x, h1, h2, h3, h4⟩ | ⟨h1, h2⟩
          · rw [h1]
            refine .inl ⟨k :: x, by simp [ipath], by simp [h2], by simp [wk, hch, h3], fun y hy hj hw hl => ?_⟩
            match y, hy with
            | j :: r, hy =>
              have hkj := hj j r rfl
              rcases hl with hl | ⟨rfl, hl⟩
              · omega
              · simp only [wk, hch] at hw
                exact h4 r (by simpa using hy) hw hl
          · have := next h1 fun y hy hw _ => h2 y hy hw
            rw [h1] at this ⊢
            exact this
        · have hs' : (cls p s).isSome = false := by simpa using hs
          have := next (hnc s hs') fun y _ _ h => hs h
          rw [hnc s hs'] at this ⊢
          exact this
    rcases key (supersOf p f) 0 rfl with ⟨x, h1, h2, h3, h4⟩ | ⟨h1, h2⟩
    · exact .inl ⟨x, h1, h2, h3, fun y hy hw => h4 y hy (fun _ _ _ => Nat.zero_le _) hw⟩
    · exact .inr ⟨h1, fun y hy hw => h2 y hy (fun _ _ _ => Nat.zero_le _) hw⟩

theorem findSome_range {α : Type} (g : Nat → Option α) (m k : Nat) (x : α) (hk : k < m) (h0 : ∀ j, j < k → g j = none) (hx : g k = some x) : (List.range m).findSome? g = some x :=
  findSome_take (by rw [List.getElem?_range hk]) (fun y hy => by
    rw [List.take_range, List.mem_range] at hy
    exact h0 y (by omega)) hx
theorem pathR_eq (p : Prog) (f t : Str) : pathR p f t = envPath p f t := by
  unfold envPath
  by_cases hf : (cls p f).isSome = true
  · by_cases h : f = t
    · rw [if_pos (.inl h), if_pos hf]
      subst h
      exact findSome_range _ _ 0 _ (by omega) (by omega) (by simp [pth, hf])
    · rw [if_neg (by simp [h, hf])]
      rcases climbR_spec p f t with ⟨x, h1, h2⟩ | ⟨h1, h2⟩
      · rw [h1]
        refine findSome_range _ _ x.length _ (by have := h2.len; omega) (fun j hj => ?_) ?_
        · rcases pth_spec p t j f hf with ⟨y, _, g2, g3, _⟩ | ⟨g1, _⟩
          · exfalso
            cases y with
            | nil => simp [wk] at g3; exact h g3
            | cons a y => exact h2.least (a :: y) (by simp) g3 (.inl (by omega))
          · exact g1
        · rcases pth_spec p t x.length f hf with ⟨y, g1, g2, g3, g4⟩ | ⟨_, g2⟩
          · have hyne : y ≠ [] := by
              rintro rfl
              exact h2.ne (List.eq_nil_of_length_eq_zero g2.symm)
            rcases lexlt_tri g2 with e | e | e
            · exact absurd (.inr ⟨g2, e⟩) (h2.least y hyne g3)
            · rw [g1, e]
            · exact absurd e (g4 x rfl h2.wk)
          · exact absurd h2.wk (g2 x rfl)
      · rw [h1]
        unfold pathR
        rw [List.findSome?_eq_none_iff]
        intro j _
        rcases pth_spec p t j f hf with ⟨y, _, g2, g3, _⟩ | ⟨g1, _⟩
        · exfalso
          cases y with
          | nil => simp [wk] at g3; exact h g3
          | cons a y => exact h2 (a :: y) (by simp) g3
        · exact g1
  · have hf' : (cls p f).isSome = false := by simpa using hf
    rw [if_pos (.inr hf'), if_neg hf]
    unfold pathR
    rw [List.findSome?_eq_none_iff]
    intro j _
    cases j with
    | zero => simp [pth, hf']
    | succ j =>
      have : supersOf p f = [] := by
        unfold supersOf
        cases hc : cls p f with
        | none => rfl
        | some c => rw [hc] at hf'; cases hf'
      simp [pth, this]
end Go.Proofs.Ythfeeaifddppoaa
