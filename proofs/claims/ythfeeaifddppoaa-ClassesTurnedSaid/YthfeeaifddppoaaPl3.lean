/-
  PLAIN LAWS OF CLASSES (3): what New refuses is the document's; the row turned round; what holds of classes that are not refused.
-/
import Derived.Test.YthfeeaifddppoaaPl2
namespace Go.Proofs.Ythfeeaifddppoaa

/-! ### New's refusal is the document's -/
theorem less_of {a r : At} (h : r.no ≠ 0) : leastF a r = less a r := by
  unfold leastF less
  by_cases h1 : a.no = 0 <;> by_cases h2 : r.at_ < a.at_ <;> simp [h1, h2, h]
theorem fold1 (p : Prog) (z : At) : ∀ (l : List Cls) (acc : List At), (l.foldl (r1F p) acc).foldl leastF z = l.foldl (circF p) (acc.foldl leastF z)
  | [], _ => rfl
  | c :: l, acc => by
    simp only [List.foldl_cons]
    rw [fold1 p z l]
    congr 1
    unfold r1F circF
    by_cases h : ((cls p c.name).getD zCls).at_ = c.at_ ∧ c.name ∈ over p c.name
    · rw [if_pos h, if_pos ⟨h.1, (climbR_iff p _ _).2 ((over_iff p _ _).1 h.2)⟩, List.foldl_append]
      exact less_of (by simp)
    · rw [if_neg h, if_neg]
      exact fun hh => h ⟨hh.1, (over_iff p _ _).2 ((climbR_iff p _ _).1 hh.2)⟩
theorem inst_self {p : Prog} {k : Nat} {x : Inst} (h : p.insts[k]? = some x) : ∃ j, inst p x.cls x.con = some j ∧ j ≤ k := by
  unfold inst
  cases hq : p.insts.findIdx? (isInst x.cls x.con) with
  | none =>
    rw [List.findIdx?_eq_none_iff] at hq
    have := hq x (List.mem_of_getElem? h)
    simp [isInst] at this
  | some j =>
    refine ⟨j, rfl, ?_⟩
    rw [List.findIdx?_eq_some_iff_getElem] at hq
    obtain ⟨hj, _, hm⟩ := hq
    apply Nat.le_of_not_lt
    intro hk
    have := hm k hk
    obtain ⟨hk', hx⟩ := List.getElem?_eq_some_iff.1 h
    rw [hx] at this
    simp [isInst] at this
theorem fold2' (p : Prog) (z : At) (o : List At) : ∀ k, (r2 p o k).foldl leastF z = ovl p (o.foldl leastF z) k
  | 0 => rfl
  | k + 1 => by
    have ih := fold2' p z o k
    cases hx : p.insts[k]? with
    | none => simp only [r2, ovl, hx]; exact ih
    | some x =>
      obtain ⟨j, hj, _⟩ := inst_self hx
      simp only [r2, ovl, hx, hj, Option.isSome_some, Option.getD_some, true_and]
      by_cases h : j < k
      · rw [if_pos h, if_pos h, List.foldl_append, ih]
        exact less_of (by simp)
      · rw [if_neg h, if_neg h, ih]
theorem fold3 (p : Prog) (z : At) : ∀ (l : List Inst) (acc : List At), (l.foldl (r3F p) acc).foldl leastF z = l.foldl (bareF p) (acc.foldl leastF z)
  | [], _ => rfl
  | x :: l, acc => by
    simp only [List.foldl_cons]
    rw [fold3 p z l]
    congr 1
    unfold r3F bareF
    by_cases h : bare p x = true
    · rw [if_pos h, if_pos h, List.foldl_append]
      exact less_of (by simp)
    · rw [if_neg h, if_neg h]
theorem newAt_eq (p : Prog) : newAt p = refused p := by
  unfold newAt refl refused refl1 circle
  rw [fold3, fold2', fold1]
  rfl

/-! ### Not refused -/
theorem least_no : ∀ (l : List At) (a : At), (∀ r ∈ l, r.no ≠ 0) → ((l.foldl leastF a).no = 0 ↔ a.no = 0 ∧ l = [])
  | [], a, _ => by simp
  | r :: l, a, h => by
    simp only [List.foldl_cons]
    rw [least_no l _ fun x hx => h x (by simp [hx])]
    have hr := h r (by simp)
    constructor
    · rintro ⟨h1, _⟩
      exfalso
      unfold leastF at h1
      split at h1
      · exact hr h1
      · rename_i hc
        exact hc (.inl h1)
    · rintro ⟨_, h2⟩; cases h2
/-- Nothing is refused. -/
structure Fine (p : Prog) : Prop where
  circ : ∀ c ∈ p.classes, ((cls p c.name).getD zCls).at_ = c.at_ → ¬ Rch p c.name c.name
  once : ∀ (k : Nat) x, p.insts[k]? = some x → inst p x.cls x.con = some k
  bare : ∀ x ∈ p.insts, Go.Proofs.Ythfeeaifddppoaa.bare p x = false
theorem r1_no (p : Prog) : ∀ (l : List Cls) (acc : List At), (∀ r ∈ acc, r.no ≠ 0) → (∀ r ∈ l.foldl (r1F p) acc, r.no ≠ 0) ∧ (l.foldl (r1F p) acc = [] ↔ acc = [] ∧ ∀ c ∈ l, ((cls p c.name).getD zCls).at_ = c.at_ → ¬ Rch p c.name c.name)
  | [], acc, h => ⟨h, by simp⟩
  | c :: l, acc, h => by
    simp only [List.foldl_cons]
    by_cases hc : ((cls p c.name).getD zCls).at_ = c.at_ ∧ (climbR p c.name c.name).isSome = true
    · have e : r1F p acc c = acc ++ [⟨35, c.at_⟩] := by unfold r1F; rw [if_pos hc]
      rw [e]
      obtain ⟨h1, h2⟩ := r1_no p l (acc ++ [⟨35, c.at_⟩]) (by
        intro r hr
        rcases List.mem_append.1 hr with hr | hr
        · exact h r hr
        · simp at hr; subst hr; simp)
      refine ⟨h1, ?_⟩
      rw [h2]
      constructor
      · rintro ⟨h3, _⟩; simp at h3
      · rintro ⟨_, h3⟩
        exact absurd ((climbR_iff p _ _).1 hc.2) (h3 c (by simp) hc.1)
    · have e : r1F p acc c = acc := by unfold r1F; rw [if_neg hc]
      rw [e]
      obtain ⟨h1, h2⟩ := r1_no p l acc h
      refine ⟨h1, ?_⟩
      rw [h2]
      constructor
      · rintro ⟨h3, h4⟩
        refine ⟨h3, fun x hx hat => ?_⟩
        rcases List.mem_cons.1 hx with rfl | hx
        · exact fun hr => hc ⟨hat, (climbR_iff p _ _).2 hr⟩
        · exact h4 x hx hat
      · rintro ⟨h3, h4⟩
        exact ⟨h3, fun x hx => h4 x (by simp [hx])⟩
theorem r2_no (p : Prog) (o : List At) (h : ∀ r ∈ o, r.no ≠ 0) : ∀ k, (∀ r ∈ r2 p o k, r.no ≠ 0) ∧ (r2 p o k = [] ↔ o = [] ∧ ∀ j, j < k → ∀ x, p.insts[j]? = some x → inst p x.cls x.con = some j)
  | 0 => ⟨h, by simp [r2]⟩
  | k + 1 => by
    obtain ⟨h1, h2⟩ := r2_no p o h k
    cases hx : p.insts[k]? with
    | none =>
      have e : r2 p o (k + 1) = r2 p o k := by simp only [r2, hx]
      rw [e]
      refine ⟨h1, ?_⟩
      rw [h2]
      constructor
      · rintro ⟨h3, h4⟩
        refine ⟨h3, fun j hj x hxj => ?_⟩
        rcases Nat.lt_or_ge j k with h5 | h5
        · exact h4 j h5 x hxj
        · obtain rfl : j = k := by omega
          rw [hx] at hxj; cases hxj
      · rintro ⟨h3, h4⟩
        exact ⟨h3, fun j hj => h4 j (by omega)⟩
    | some x =>
      obtain ⟨j0, hj0, hle⟩ := inst_self hx
      by_cases hlt : j0 < k
      · have e : r2 p o (k + 1) = r2 p o k ++ [⟨34, x.at_⟩] := by simp only [r2, hx]; rw [if_pos]; rw [hj0]; exact ⟨rfl, hlt⟩
        rw [e]
        refine ⟨fun r hr => ?_, ?_⟩
        · rcases List.mem_append.1 hr with hr | hr
          · exact h1 r hr
          · simp at hr; subst hr; simp
        · constructor
          · intro h3; simp at h3
          · rintro ⟨_, h4⟩
            have := h4 k (by omega) x hx
            rw [hj0] at this
            cases this
            omega
      · have e : r2 p o (k + 1) = r2 p o k := by simp only [r2, hx]; rw [if_neg]; rw [hj0]; exact fun hh => hlt hh.2
        rw [e]
        refine ⟨h1, ?_⟩
        rw [h2]
        constructor
        · rintro ⟨h3, h4⟩
          refine ⟨h3, fun j hj y hy => ?_⟩
          rcases Nat.lt_or_ge j k with h5 | h5
          · exact h4 j h5 y hy
          · obtain rfl : j = k := by omega
            rw [hx] at hy; cases hy
            rw [hj0]
            congr 1
            omega
        · rintro ⟨h3, h4⟩
          exact ⟨h3, fun j hj => h4 j (by omega)⟩
theorem r3_no (p : Prog) : ∀ (l : List Inst) (acc : List At), (∀ r ∈ acc, r.no ≠ 0) → (∀ r ∈ l.foldl (r3F p) acc, r.no ≠ 0) ∧ (l.foldl (r3F p) acc = [] ↔ acc = [] ∧ ∀ x ∈ l, bare p x = false)
  | [], acc, h => ⟨h, by simp⟩
  | x :: l, acc, h => by
    simp only [List.foldl_cons]
    by_cases hc : bare p x = true
    · have e : r3F p acc x = acc ++ [⟨35, x.at_⟩] := by unfold r3F; rw [if_pos hc]
      rw [e]
      obtain ⟨h1, h2⟩ := r3_no p l (acc ++ [⟨35, x.at_⟩]) (by
        intro r hr
        rcases List.mem_append.1 hr with hr | hr
        · exact h r hr
        · simp at hr; subst hr; simp)
      refine ⟨h1, ?_⟩
      rw [h2]
      constructor
      · rintro ⟨h3, _⟩; simp at h3
      · rintro ⟨_, h3⟩
        have := h3 x (by simp)
        rw [this] at hc; cases hc
    · have e : r3F p acc x = acc := by unfold r3F; rw [if_neg hc]
      rw [e]
      obtain ⟨h1, h2⟩ := r3_no p l acc h
      refine ⟨h1, ?_⟩
      rw [h2]
      constructor
      · rintro ⟨h3, h4⟩
        refine ⟨h3, fun y hy => ?_⟩
        rcases List.mem_cons.1 hy with rfl | hy
        · simpa using hc
        · exact h4 y hy
      · rintro ⟨h3, h4⟩
        exact ⟨h3, fun y hy => h4 y (by simp [hy])⟩
theorem fine_iff (p : Prog) : (newAt p).no = 0 ↔ Fine p := by
  obtain ⟨a1, a2⟩ := r1_no p p.classes [] (by simp)
  obtain ⟨b1, b2⟩ := r2_no p (refl1 p) a1 p.insts.length
  obtain ⟨d1, d2⟩ := r3_no p p.insts (r2 p (refl1 p) p.insts.length) b1
  unfold newAt
  rw [least_no (refl p) _ d1, show refl p = p.insts.foldl (r3F p) (r2 p (refl1 p) p.insts.length) from rfl, d2, b2, show refl1 p = p.classes.foldl (r1F p) [] from rfl, a2]
  constructor
  · rintro ⟨_, ⟨⟨_, h1⟩, h2⟩, h3⟩
    refine ⟨h1, fun k x hx => h2 k (List.getElem?_eq_some_iff.1 hx).1 x hx, h3⟩
  · rintro ⟨h1, h2, h3⟩
    exact ⟨rfl, ⟨⟨rfl, h1⟩, fun j _ x hx => h2 j x hx⟩, h3⟩

theorem inst_isSome {p : Prog} {s con : Str} : (inst p s con).isSome = true ↔ ∃ x ∈ p.insts, x.cls = s ∧ x.con = con := by
  unfold inst
  constructor
  · intro h
    cases hq : p.insts.findIdx? (isInst s con) with
    | none => rw [hq] at h; cases h
    | some j =>
      rw [List.findIdx?_eq_some_iff_getElem] at hq
      obtain ⟨hj, h1, _⟩ := hq
      exact ⟨p.insts[j], List.getElem_mem hj, by simpa [isInst] using h1⟩
  · rintro ⟨x, hx, h1, h2⟩
    cases hq : p.insts.findIdx? (isInst s con) with
    | none =>
      rw [List.findIdx?_eq_none_iff] at hq
      have := hq x hx
      simp [isInst, h1, h2] at this
    | some j => rfl
theorem inst_some {p : Prog} {s con : Str} {k : Nat} (h : inst p s con = some k) : ∃ x, p.insts[k]? = some x ∧ x.cls = s ∧ x.con = con := by
  unfold inst at h
  rw [List.findIdx?_eq_some_iff_getElem] at h
  obtain ⟨hk, h1, _⟩ := h
  refine ⟨p.insts[k], by simp [hk], ?_⟩
  simpa [isInst] using h1
/-- Every class above an instance's has one of its constructor. -/
theorem Fine.up {p : Prog} (h : Fine p) {s con u : Str} (hs : (inst p s con).isSome = true) (hr : Rch p s u) : (inst p u con).isSome = true := by
  have key : ∀ v, (inst p v con).isSome = true → ∀ t ∈ supersOf p v, (inst p t con).isSome = true := by
    intro v hv t ht
    obtain ⟨x, hx, rfl, rfl⟩ := inst_isSome.1 hv
    have hb := h.bare x hx
    unfold Go.Proofs.Ythfeeaifddppoaa.bare at hb
    rw [List.any_eq_false] at hb
    have := hb t ht
    cases hq : inst p t x.con with
    | none => rw [hq] at this; exact absurd rfl this
    | some j => rfl
  induction hr with
  | one h1 _ => exact key s hs _ h1
  | step _ h1 _ ih => exact key _ ih _ h1

/-! ### The row turned round -/
def Names (p : Prog) : Prop := (p.classes.map (·.name)).Nodup
theorem find_nodup {l : List Cls} (h : (l.map (·.name)).Nodup) (s : Str) : l.reverse.find? (fun c => c.name == s) = l.find? (fun c => c.name == s) := by
  induction l with
  | nil => rfl
  | cons c l ih =>
    simp only [List.map_cons, List.nodup_cons] at h
    rw [List.reverse_cons, List.find?_append, ih h.2, List.find?_cons]
    by_cases hc : c.name = s
    · have hn : l.find? (fun c => c.name == s) = none := by
        rw [List.find?_eq_none]
        intro x hx hxs
        simp at hxs
        exact h.1 (List.mem_map.2 ⟨x, hx, by rw [hxs, hc]⟩)
      simp [hn, hc]
    · have hc' : (c.name == s) = false := by simpa using hc
      simp [hc']
theorem cls_turned {p : Prog} (h : Names p) : cls (turned p) = cls p := by
  funext s
  exact find_nodup h s
theorem supers_turned {p : Prog} (h : Names p) : supersOf (turned p) = supersOf p := by
  funext s
  unfold supersOf
  rw [cls_turned h]
theorem Rch.mono {p q : Prog} (hc : cls q = cls p) (hs : supersOf q = supersOf p) {f s : Str} (h : Rch p f s) : Rch q f s := by
  induction h with
  | one h1 h2 => exact .one (by rw [hs]; exact h1) (by rw [hc]; exact h2)
  | step _ h1 h2 ih => exact .step ih (by rw [hs]; exact h1) (by rw [hc]; exact h2)
theorem rch_turned {p : Prog} (h : Names p) (f s : Str) : Rch (turned p) f s ↔ Rch p f s :=
  ⟨Rch.mono (cls_turned h).symm (supers_turned h).symm, Rch.mono (cls_turned h) (supers_turned h)⟩
theorem instS_turned (p : Prog) (s con : Str) : (inst (turned p) s con).isSome = (inst p s con).isSome := by
  rw [Bool.eq_iff_iff, inst_isSome, inst_isSome]
  simp [turned]
theorem abv_turned {p : Prog} (h : Names p) : ∀ (m : Nat) (told : List Str) (s : Str), abv (turned p) m told s = abv p m told s
  | 0, _, _ => rfl
  | m + 1, told, s => by
    unfold abv
    rw [cls_turned h, supers_turned h]
    have : abv (turned p) m = abv p m := by funext t u; exact abv_turned h m t u
    rw [this]
theorem above_turned {p : Prog} (h : Names p) (s : Str) : above (turned p) s = above p s := by
  unfold above
  rw [abv_turned h]
  simp [turned]
/-- No two instances are of one class and one constructor. -/
def Keys (p : Prog) : Prop := ∀ (i j : Nat) x y, p.insts[i]? = some x → p.insts[j]? = some y → x.cls = y.cls → x.con = y.con → i = j
theorem Fine.keys {p : Prog} (h : Fine p) : Keys p := fun i j x y hi hj h1 h2 => by
  have e1 := h.once i x hi
  have e2 := h.once j y hj
  rw [h1, h2, e2] at e1
  cases e1; rfl
theorem Keys.once {p : Prog} (h : Keys p) : ∀ (k : Nat) x, p.insts[k]? = some x → inst p x.cls x.con = some k := fun k x hx => by
  obtain ⟨j, hj, _⟩ := inst_self hx
  obtain ⟨y, hy, h1, h2⟩ := inst_some hj
  rw [hj, h j k y x hy hx h1 h2]
theorem rev_get {α : Type} {l : List α} {k : Nat} {x : α} (h : l.reverse[k]? = some x) : k < l.length ∧ l[l.length - 1 - k]? = some x := by
  have hk : k < l.length := by simpa using (List.getElem?_eq_some_iff.1 h).1
  rw [List.getElem?_reverse hk] at h
  exact ⟨hk, h⟩
theorem Keys.turn {p : Prog} (h : Keys p) : Keys (turned p) := fun i j x y hi hj h1 h2 => by
  obtain ⟨a1, a2⟩ := rev_get (l := p.insts) hi
  obtain ⟨b1, b2⟩ := rev_get (l := p.insts) hj
  have := h _ _ x y a2 b2 h1 h2
  omega
theorem Fine.turn {p : Prog} (hn : Names p) (h : Fine p) : Fine (turned p) := by
  refine ⟨fun c hc hat hr => ?_, h.keys.turn.once, fun x hx => ?_⟩
  · rw [cls_turned hn] at hat
    exact h.circ c (by simpa [turned] using hc) hat ((rch_turned hn _ _).1 hr)
  · have hb := h.bare x (by simpa [turned] using hx)
    unfold Go.Proofs.Ythfeeaifddppoaa.bare at hb ⊢
    rw [supers_turned hn, ← hb]
    congr 1
    funext s
    have := instS_turned p s x.con
    cases h1 : inst (turned p) s x.con <;> cases h2 : inst p s x.con <;> rw [h1, h2] at this <;> first | rfl | cases this
theorem turned_turned (p : Prog) : (turned (turned p)).classes = p.classes ∧ (turned (turned p)).insts = p.insts := by simp [turned]
theorem names_turned {p : Prog} (h : Names p) : Names (turned p) := by
  unfold Names turned
  dsimp only
  rw [List.map_reverse]
  unfold List.Nodup
  rw [List.pairwise_reverse]
  exact List.Pairwise.imp (fun hab e => hab e.symm) h
theorem Fine.of_same {p q : Prog} (hc : q.classes = p.classes) (hi : q.insts = p.insts) (h : Fine p) : Fine q := by
  have e1 : cls q = cls p := by funext s; unfold cls; rw [hc]
  have e2 : supersOf q = supersOf p := by funext s; unfold supersOf; rw [e1]
  have e3 : inst q = inst p := by funext s c; unfold inst; rw [hi]
  refine ⟨fun c hcc hat hr => h.circ c (hc ▸ hcc) (by rw [← e1]; exact hat) (hr.mono e1.symm e2.symm), fun k x hx => by rw [e3]; exact h.once k x (hi ▸ hx), fun x hx => ?_⟩
  have := h.bare x (hi ▸ hx)
  unfold Go.Proofs.Ythfeeaifddppoaa.bare at this ⊢
  rw [e2, e3]
  exact this
theorem fine_turned {p : Prog} (hn : Names p) : Fine (turned p) ↔ Fine p := by
  refine ⟨fun h => ?_, fun h => h.turn hn⟩
  have := h.turn (names_turned hn)
  exact this.of_same (turned_turned p).1.symm (turned_turned p).2.symm
theorem inst_at {p : Prog} (hk : Keys p) (s con : Str) (k m : Nat) (h1 : inst p s con = some k) (h2 : inst (turned p) s con = some m) : atI p k = atI (turned p) m := by
  obtain ⟨x, hx, a1, a2⟩ := inst_some h1
  obtain ⟨y, hy, b1, b2⟩ := inst_some h2
  obtain ⟨c1, c2⟩ := rev_get (l := p.insts) hy
  have := hk _ _ x y hx c2 (a1.trans b1.symm) (a2.trans b2.symm)
  rw [← this, hx] at c2
  cases c2
  unfold atI
  rw [if_neg (by omega), if_neg (by omega)]
  simp [hx, hy]

/-! ### What is made of numbers -/
theorem mclss_nodup (l : List Int) (m : Nat) (hm : m < 6) : ((mclss l m).map (·.name)).Nodup := by
  have e : (mclss l m).map (·.name) = (List.range m).map nm := by
    unfold mclss
    rw [List.map_map]
    rfl
  rw [e]
  obtain h | h | h | h | h | h : m = 0 ∨ m = 1 ∨ m = 2 ∨ m = 3 ∨ m = 4 ∨ m = 5 := by omega
  all_goals (subst h; decide)
theorem made_classes (l : List Int) : (made l).classes = mclss l (pn l 0 % 6) := by
  unfold made
  split <;> rfl
theorem made_names (l : List Int) : Names (made l) := by
  unfold Names
  rw [made_classes]
  exact mclss_nodup l _ (Nat.mod_lt _ (by omega))
theorem made_nil (l : List Int) : cls (made l) [] = none := by
  unfold cls
  rw [made_classes, List.find?_eq_none]
  intro c hc
  obtain ⟨i, hi, rfl⟩ := List.mem_map.1 hc
  rw [List.mem_range] at hi
  have hi' : i < 6 := Nat.lt_trans hi (Nat.mod_lt _ (by omega))
  have hi5 : i < 5 := by
    have := Nat.mod_lt (pn l 0) (show 0 < 6 by omega)
    omega
  have key : ∀ i, i < 5 → ¬ ((nm i == []) = true) := by decide
  exact key i hi5
theorem wone_len (p : Prog) (acc : List Inst) (xi : Inst × Nat) : (wone p acc xi).length ≤ acc.length + p.classes.length := by
  have key : ∀ (l : List (Str × Nat)) (a : List Inst), (l.foldl (wstep p xi.1 xi.2) a).length ≤ a.length + l.length := by
    intro l
    induction l with
    | nil => intro a; simp
    | cons y l ih =>
      intro a
      have h1 := ih (wstep p xi.1 xi.2 a y)
      have h2 := wstep_len p xi.1 xi.2 a y
      simp only [List.foldl_cons, List.length_cons]
      omega
  have h1 := key (above p xi.1.cls).zipIdx acc
  have h2 : (above p xi.1.cls).length ≤ p.classes.length := (TOk.abv (p := p) (p.classes.length + 1) (told := []) xi.1.cls (.nil p)).len
  unfold wone
  rw [List.length_zipIdx] at h1
  omega
theorem whole_PS (p : Prog) (hp : PS p) (hc : p.classes.length ≤ 6) : PS (whole p) := by
  refine ⟨hp.cls, ?_, hp.sups, hp.mets⟩
  have key : ∀ (l : List (Inst × Nat)) (a : List Inst), (l.foldl (wone p) a).length ≤ a.length + l.length * p.classes.length := by
    intro l
    induction l with
    | nil => intro a; simp
    | cons y l ih =>
      intro a
      have h1 := ih (wone p a y)
      have h2 := wone_len p a y
      simp only [List.foldl_cons, List.length_cons, Nat.add_mul, Nat.one_mul]
      omega
  have h1 := key (p.insts.take 6).zipIdx []
  unfold Small whole wprog
  dsimp only
  have h2 : (p.insts.take 6).zipIdx.length ≤ 6 := by simp; omega
  have h3 : (p.insts.take 6).zipIdx.length * p.classes.length ≤ 6 * 6 := Nat.mul_le_mul h2 hc
  simp only [List.length_nil] at h1
  omega
theorem made_PS (l : List Int) : PS (made l) := by
  unfold made
  split
  · refine whole_PS _ (mprog_PS l) ?_
    have := Nat.mod_lt (pn l 0) (show 0 < 6 by omega)
    unfold mprog mclss
    simp
    omega
  · exact mprog_PS l
theorem turned_PS {p : Prog} (h : PS p) : PS (turned p) := by
  have h1 := h.cls
  have h2 := h.insts
  unfold Small at h1 h2
  refine ⟨?_, ?_, fun c hc => h.sups c ?_, fun c hc => h.mets c ?_⟩
  · unfold Small turned; simpa using h1
  · unfold Small turned; simpa using h2
  · simpa [turned] using hc
  · simpa [turned] using hc

/-! ### Ways -/
theorem envPath_isSome (p : Prog) (f t : Str) : (envPath p f t).isSome = decide (t ∈ above p f) := by
  rw [Bool.eq_iff_iff, decide_eq_true_iff, above_iff]
  unfold envPath
  by_cases hf : (cls p f).isSome = true
  · by_cases h : f = t
    · rw [if_pos (.inl h), if_pos hf]
      exact ⟨fun _ => ⟨hf, .inl h.symm⟩, fun _ => rfl⟩
    · rw [if_neg (by simp [h, hf]), climbR_iff]
      exact ⟨fun hr => ⟨hf, .inr hr⟩, fun hr => hr.2.resolve_left fun e => h e.symm⟩
  · rw [if_pos (.inr (by simpa using hf)), if_neg hf]
    exact ⟨(fun h => by cases h), fun h => absurd h.1 hf⟩
theorem envPath_wk {p : Prog} {f t : Str} {r : List Int} (h : envPath p f t = some r) : ∃ x, r = ipath x ∧ wk p f x = some t := by
  unfold envPath at h
  split at h
  · rename_i hc
    split at h
    · rename_i hf
      cases h
      rcases hc with hc | hc
      · exact ⟨[], rfl, by simp [wk, hc]⟩
      · rw [hf] at hc; cases hc
    · cases h
  · rcases climbR_spec p f t with ⟨x, h1, h2⟩ | ⟨h1, _⟩
    · rw [h1] at h
      cases h
      exact ⟨x, rfl, h2.wk⟩
    · rw [h1] at h; cases h
theorem wk_take {p : Prog} : ∀ {f t : Str} {x : List Nat} (i : Nat), wk p f x = some t → i < x.length → ∃ u s, wk p f (x.take i) = some u ∧ (cls p u).isSome = true ∧ (supersOf p u)[x.getD i 0]? = some s ∧ wk p f (x.take (i + 1)) = some s := by
  intro f t x i h hi
  have h1 : x.take (i + 1) = x.take i ++ [x[i]] := by rw [List.take_succ_eq_append_getElem hi]
  have hpre : ∀ (a b : List Nat) (g : Str), wk p g (a ++ b) = some t → ∃ u, wk p g a = some u := by
    intro a
    induction a with
    | nil => intro b g _; exact ⟨g, rfl⟩
    | cons k a ih =>
      intro b g hg
      simp only [List.cons_append, wk] at hg ⊢
      cases hc : child p g k with
      | none => rw [hc] at hg; cases hg
      | some s => rw [hc] at hg; exact ih b s hg
  obtain ⟨s, hs⟩ := hpre (x.take (i + 1)) (x.drop (i + 1)) f (by rw [List.take_append_drop]; exact h)
  have hs' := hs
  rw [h1, wk_snoc] at hs
  cases hu : wk p f (x.take i) with
  | none => rw [hu] at hs; cases hs
  | some u =>
    rw [hu] at hs
    simp only [Option.bind_some] at hs
    obtain ⟨a1, a2⟩ := child_some hs
    have hx : x.getD i 0 = x[i] := by simp [List.getD_eq_getElem?_getD, hi]
    refine ⟨u, s, rfl, ?_, by rw [hx]; exact a1, hs'⟩
    cases hc : cls p u with
    | some c => rfl
    | none =>
      have : supersOf p u = [] := by unfold supersOf; rw [hc]; rfl
      rw [this] at a1
      cases a1
theorem above_nil (p : Prog) (f : Str) : (cls p f).isSome = decide (0 < (above p f).length) := by
  rw [Bool.eq_iff_iff, decide_eq_true_iff]
  constructor
  · intro h
    exact List.length_pos_of_mem ((above_iff p f f).2 ⟨h, .inl rfl⟩)
  · intro h
    obtain ⟨x, hx⟩ := List.exists_mem_of_length_pos h
    exact ((above_iff p f x).1 hx).1
theorem above_inst {l : List Int} (h : Fine (made l)) (n : Int) : ∀ u ∈ above (made l) (atI (made l) n).cls, (inst (made l) u (atI (made l) n).con).isSome = true := by
  intro u hu
  obtain ⟨hc, hr⟩ := (above_iff _ _ _).1 hu
  have hin : (inst (made l) (atI (made l) n).cls (atI (made l) n).con).isSome = true := by
    have hz : ∀ x, x = zInst → (cls (made l) x.cls).isSome = true → False := by
      intro x hx hcx
      subst hx
      rw [show zInst.cls = [] from rfl, made_nil] at hcx
      cases hcx
    unfold atI at hc ⊢
    split
    · rename_i hn
      rw [if_pos hn] at hc
      exact (hz _ rfl hc).elim
    · rename_i hn
      rw [if_neg hn] at hc
      cases hq : (made l).insts[n.toNat]? with
      | none => rw [hq] at hc; exact (hz _ rfl hc).elim
      | some x => exact inst_isSome.2 ⟨x, List.mem_of_getElem? hq, rfl, rfl⟩
  rcases hr with rfl | hr
  · exact hin
  · exact h.up hin hr
end Go.Proofs.Ythfeeaifddppoaa
