/-
  Texts Lg12, Lg13, Lg14, Lg15, Lg16, Ls9, Ls10, Lg17, Lg18 in one.
-/
import Derived.Test.YtmoekkcdkjopgaaGreatDoorM11
/- CORE IN THE PLACE OF A NAME: what stays as it was (plain laws). -/
namespace Go.Proofs.YtmoekkcdkjopgaaGreatDoor
open Go Go.AM
set_option maxRecDepth 20000
def w30 (s : Str) : Nat := max 30 s.length
mutual
/-- A size that does not grow when names become letters. -/
def m30 : Core → Nat
  | .mk _ _ s _ ks bs al => 1 + w30 s + m30s ks + m30b bs + m30a al
def m30s : List Core → Nat
  | [] => 0
  | c :: l => m30 c + m30s l
def m30b : List Bind → Nat
  | [] => 0
  | .mk s _ c :: l => 1 + w30 s + m30 c + m30b l
def m30a : List Alt → Nat
  | [] => 0
  | .mk _ _ s vs c :: l => 1 + w30 s + (vs.map fun v => 1 + w30 v).sum + m30 c + m30a l
end
mutual
/-- A lambda has one part and no more; no types are given. -/
def wfE : Core → Bool
  | .mk f _ _ _ ks bs al => !decide (f = 7) && (!decide (f = 5) || (ks.length == 1 && bs.isEmpty && al.isEmpty)) && wfEs ks && wfEb bs && wfEa al
def wfEs : List Core → Bool
  | [] => true
  | c :: l => wfE c && wfEs l
def wfEb : List Bind → Bool
  | [] => true
  | .mk _ _ c :: l => wfE c && wfEb l
def wfEa : List Alt → Bool
  | [] => true
  | .mk _ _ _ _ c :: l => wfE c && wfEa l
end
theorem w30_le (s : Str) : s.length ≤ w30 s := Nat.le_max_right ..
theorem w30_30 (s : Str) : 30 ≤ w30 s := Nat.le_max_left ..
theorem w30_z {z s : Str} (h : z.length ≤ 30) : w30 z ≤ w30 s := by unfold w30; omega
theorem sum_w : ∀ vs : List Str, (vs.map fun v => 1 + v.length).sum ≤ (vs.map fun v => 1 + w30 v).sum
  | [] => Nat.le_refl _
  | v :: vs => by
    simp only [List.map_cons, List.sum_cons]
    have := sum_w vs
    have := w30_le v
    omega
mutual
theorem csize_m30 : ∀ c : Core, csize c ≤ m30 c
  | .mk _ _ s _ ks bs al => by
    rw [csize, m30]
    have := csizes_m30 ks
    have := bsizes_m30 bs
    have := asizes_m30 al
    have := w30_le s
    omega
theorem csizes_m30 : ∀ l : List Core, csizes l ≤ m30s l
  | [] => by rw [csizes, m30s]; exact Nat.le_refl _
  | c :: l => by
    rw [csizes, m30s]
    have := csize_m30 c
    have := csizes_m30 l
    omega
theorem bsizes_m30 : ∀ l : List Bind, bsizes l ≤ m30b l
  | [] => by rw [bsizes, m30b]; exact Nat.le_refl _
  | .mk s _ c :: l => by
    rw [bsizes, bsize, m30b]
    have := csize_m30 c
    have := bsizes_m30 l
    have := w30_le s
    omega
theorem asizes_m30 : ∀ l : List Alt, asizes l ≤ m30a l
  | [] => by rw [asizes, m30a]; exact Nat.le_refl _
  | .mk _ _ s vs c :: l => by
    rw [asizes, asize, m30a]
    have := csize_m30 c
    have := asizes_m30 l
    have := w30_le s
    have := sum_w vs
    omega
end
theorem m30_pos (c : Core) : 31 ≤ m30 c := by obtain ⟨_, _, s, _, ks, bs, al⟩ := c; rw [m30]; have := w30_30 s; omega
theorem m30s_mem : ∀ {l : List Core} {c : Core}, c ∈ l → m30 c ≤ m30s l
  | d :: l, c, h => by
    rw [m30s]
    rcases List.mem_cons.1 h with rfl | h
    · omega
    · have := m30s_mem h; omega
theorem m30b_mem : ∀ {l : List Bind} {b : Bind}, b ∈ l → m30 b.body ≤ m30b l
  | .mk s t c :: l, b, h => by
    rw [m30b]
    rcases List.mem_cons.1 h with rfl | h
    · show m30 c ≤ _; omega
    · have := m30b_mem h; omega
theorem m30a_mem : ∀ {l : List Alt} {a : Alt}, a ∈ l → m30 a.body + (a.vars.map fun v => 1 + w30 v).sum ≤ m30a l
  | .mk f n s vs c :: l, a, h => by
    rw [m30a]
    rcases List.mem_cons.1 h with rfl | h
    · show m30 c + (vs.map fun v => 1 + w30 v).sum ≤ _; omega
    · have := m30a_mem h; omega
theorem m30s_app : ∀ a b : List Core, m30s (a ++ b) = m30s a + m30s b
  | [], b => by rw [m30s]; simp
  | c :: a, b => by rw [List.cons_append, m30s, m30s, m30s_app a b]; omega
theorem m30s_bs : ∀ l : List Bind, m30s (l.map Bind.body) + 31 * l.length ≤ m30b l
  | [] => by rw [List.map_nil, m30s, m30b]; simp
  | .mk s t c :: l => by
    rw [List.map_cons, m30s, m30b]
    have := m30s_bs l
    have := w30_30 s
    show m30 c + _ + _ ≤ _
    rw [List.length_cons]
    omega
theorem m30s_len : ∀ l : List Core, 31 * l.length ≤ m30s l
  | [] => by simp
  | c :: l => by rw [m30s, List.length_cons]; have := m30s_len l; have := m30_pos c; omega
theorem fm_m30 : ∀ ps : List Core, (ps.flatMap pfR).length ≤ m30s ps
  | [] => by simp
  | p :: ps => by
    rw [List.flatMap_cons, List.length_append, m30s]
    have := pf_le p
    have := csize_m30 p
    have := fm_m30 ps
    omega
theorem pf_m30 (c : Core) : (pfR c).length ≤ m30 c := Nat.le_trans (pf_le c) (csize_m30 c)
theorem sum_len : ∀ vs : List Str, 31 * vs.length ≤ (vs.map fun v => 1 + w30 v).sum
  | [] => Nat.le_refl _
  | v :: vs => by simp only [List.map_cons, List.sum_cons, List.length_cons]; have := sum_len vs; have := w30_30 v; omega
/-! ### A group's parts, and names, one by one -/
inductive A2 {α β : Type} (R : α → β → Prop) : List α → List β → Prop
  | nil : A2 R [] []
  | cons {a b l m} : R a b → A2 R l m → A2 R (a :: l) (b :: m)
theorem A2.refl {α : Type} {R : α → α → Prop} (h : ∀ a, R a a) : ∀ l, A2 R l l
  | [] => .nil
  | a :: l => .cons (h a) (A2.refl h l)
theorem A2.trans {α : Type} {R : α → α → Prop} (h : ∀ a b c, R a b → R b c → R a c) {l m k : List α} (h1 : A2 R l m) : A2 R m k → A2 R l k := by
  induction h1 generalizing k with
  | nil => intro h2; cases h2; exact .nil
  | cons r _ ih => intro h2; cases h2 with | cons r' h2 => exact .cons (h _ _ _ r r') (ih h2)
theorem A2.map {α : Type} {R : α → α → Prop} {f : α → α} (h : ∀ a, R a (f a)) : ∀ l, A2 R l (l.map f)
  | [] => .nil
  | a :: l => .cons (h a) (A2.map h l)
theorem A2.length {α β : Type} {R : α → β → Prop} {l : List α} {m : List β} (h : A2 R l m) : m.length = l.length := by
  induction h with
  | nil => rfl
  | cons _ _ ih => simp [ih]
theorem A2.take {α β : Type} {R : α → β → Prop} {l : List α} {m : List β} (h : A2 R l m) : ∀ n : Nat, A2 R (l.take n) (m.take n) := by
  induction h with
  | nil => intro n; simp; exact .nil
  | cons r _ ih =>
    intro n
    cases n with
    | zero => exact .nil
    | succ n => exact .cons r (ih n)
theorem A2.drop {α β : Type} {R : α → β → Prop} {l : List α} {m : List β} (h : A2 R l m) : ∀ n : Nat, A2 R (l.drop n) (m.drop n) := by
  induction h with
  | nil => intro n; simp; exact .nil
  | cons r h ih =>
    intro n
    cases n with
    | zero => exact .cons r h
    | succ n => exact ih n
theorem A2.mono {α β : Type} {R R' : α → β → Prop} (hm : ∀ a b, R a b → R' a b) {l : List α} {m : List β} (h : A2 R l m) : A2 R' l m := by
  induction h with
  | nil => exact .nil
  | cons r _ ih => exact .cons (hm _ _ r) ih
def NR (n n' : Str) : Prop := n' = n ∨ n'.length ≤ 30
theorem NR.w {n n' : Str} (h : NR n n') : w30 n' ≤ w30 n := by
  rcases h with rfl | h
  · exact Nat.le_refl _
  · exact w30_z h
section
variable {sb : Core → Str → Core → Core}
theorem gAll_rel {Rel : Core → Core → Prop} (hr : ∀ p, Rel p p) (ht : ∀ p q r, Rel p q → Rel q r → Rel p r) {far : List Str} (hz : ∀ p n z, z.length ≤ 30 → Rel p (sb p n (vC z))) :
    ∀ {ns : List Str} {st : List Str × List Core × List Str}, st.2.2.length + ns.length ≤ 20000000000 →
      A2 Rel st.2.1 (gAll sb far ns st).2.1 ∧ ∃ ns', (gAll sb far ns st).1 = st.1 ++ ns' ∧ A2 NR ns ns'
  | [], st, _ => ⟨A2.refl hr _, [], by show st.1 = _; simp, .nil⟩
  | n :: ns, st, hl => by
    simp only [List.length_cons] at hl
    have hg := gStep_len (sb := sb) (far := far) (st := st) (n := n)
    obtain ⟨h1, ns', h2, h3⟩ := gAll_rel hr ht hz (far := far) (ns := ns) (st := gStep sb far st n) (by omega)
    have e : gAll sb far (n :: ns) st = gAll sb far ns (gStep sb far st n) := rfl
    rw [e]
    have hf : (freshR st.2.2).length ≤ 30 := Nat.le_trans (fresh_len _ (by omega)) (by omega)
    by_cases hn : n ∈ far
    · have es : gStep sb far st n = (st.1 ++ [freshR st.2.2], st.2.1.map (fun p => sb p n (vC (freshR st.2.2))), st.2.2 ++ [freshR st.2.2]) := by unfold gStep; rw [if_pos hn]
      rw [es] at h1 h2 ⊢
      refine ⟨A2.trans ht (A2.map (fun p => hz p n _ hf) _) h1, freshR st.2.2 :: ns', ?_, .cons (.inr hf) h3⟩
      rw [h2, List.append_assoc]; rfl
    · have es : gStep sb far st n = (st.1 ++ [n], st.2.1, st.2.2) := by unfold gStep; rw [if_neg hn]
      rw [es] at h1 h2 ⊢
      refine ⟨h1, n :: ns', ?_, .cons (.inl rfl) h3⟩
      rw [h2, List.append_assoc]; rfl
theorem putR_rel {Rel : Core → Core → Prop} (hr : ∀ p, Rel p p) (ht : ∀ p q r, Rel p q → Rel q r → Rel p r) {s : Str} {b : Core} {ns : List Str} {ps : List Core} (hz : ∀ p n z, z.length ≤ 30 → Rel p (sb p n (vC z)))
    (hl : (ps.flatMap pfR).length + 2 * ns.length + (pfR b).length ≤ 20000000000) : (∃ qs, A2 Rel ps qs ∧ ((putR sb s b ns ps).2 = qs ∨ (putR sb s b ns ps).2 = qs.map fun p => sb p s b)) ∧ A2 NR ns (putR sb s b ns ps).1 := by
  unfold putR
  split
  · obtain ⟨h1, ns', h2, h3⟩ := gAll_rel hr ht hz (far := pfR b) (ns := ns) (st := ([], ps, ps.flatMap pfR ++ ns ++ pfR b)) (by simp only [List.length_append]; omega)
    exact ⟨⟨_, h1, .inr rfl⟩, by rw [h2]; exact h3⟩
  · exact ⟨⟨ps, A2.refl hr _, .inl rfl⟩, A2.refl (fun _ => .inl rfl) _⟩
end
/-- Likewise, of some parts alone. -/
theorem m30s_A2 {l m : List Core} (h : A2 (fun p q => m30 q ≤ m30 p) l m) : m30s m ≤ m30s l := by
  induction h with
  | nil => exact Nat.le_refl _
  | cons r _ ih => rw [m30s, m30s]; omega
theorem mkB_m30 : ∀ {ts : List Ty} {ns : List Str} {ps : List Core} {bs : List Bind}, A2 (fun (b : Bind) n => w30 n ≤ w30 b.name) bs ns → A2 (fun (b : Bind) p => m30 p ≤ m30 b.body) bs ps → m30b (mkB ts ns ps) ≤ m30b bs
  | [], _, _, _, _, _ => by unfold mkB; rw [m30b]; exact Nat.zero_le _
  | t :: ts, _, _, _, .nil, .nil => by unfold mkB; rw [m30b]; exact Nat.le_refl _
  | t :: ts, n :: ns, p :: ps, .mk s ty c :: bs, .cons h1 h2, .cons h3 h4 => by
    unfold mkB
    rw [m30b, m30b]
    have := mkB_m30 (ts := ts) h2 h4
    have h1 : w30 n ≤ w30 s := h1
    have h3 : m30 p ≤ m30 c := h3
    omega
theorem wfEs_iff : ∀ {l : List Core}, wfEs l = true ↔ ∀ x ∈ l, wfE x = true
  | [] => by simp [wfEs]
  | c :: l => by rw [wfEs, Bool.and_eq_true, wfEs_iff (l := l)]; simp
theorem wfEb_iff : ∀ {l : List Bind}, wfEb l = true ↔ ∀ x ∈ l, wfE x.body = true
  | [] => by simp [wfEb]
  | .mk _ _ c :: l => by rw [wfEb, Bool.and_eq_true, wfEb_iff (l := l)]; simp [Bind.body]
theorem wfEa_iff : ∀ {l : List Alt}, wfEa l = true ↔ ∀ x ∈ l, wfE x.body = true
  | [] => by simp [wfEa]
  | .mk _ _ _ _ c :: l => by rw [wfEa, Bool.and_eq_true, wfEa_iff (l := l)]; simp [Alt.body]
theorem A2.mem {α β : Type} {R : α → β → Prop} {l : List α} {m : List β} (h : A2 R l m) : ∀ b ∈ m, ∃ a ∈ l, R a b := by
  induction h with
  | nil => intro b hb; cases hb
  | cons r _ ih =>
    intro b hb
    rcases List.mem_cons.1 hb with rfl | hb
    · exact ⟨_, List.mem_cons_self, r⟩
    · obtain ⟨a, ha, hab⟩ := ih b hb
      exact ⟨a, List.mem_cons_of_mem _ ha, hab⟩
theorem A2.mapL {α β γ : Type} {R : β → γ → Prop} {f : α → β} : ∀ {l : List α} {m : List γ}, A2 R (l.map f) m → A2 (fun a c => R (f a) c) l m
  | [], m, h => by cases h; exact .nil
  | a :: l, m, h => by
    cases h with
    | cons r h => exact .cons r (A2.mapL h)
theorem mkB_mem : ∀ {ts : List Ty} {ns : List Str} {ps : List Core} {x : Bind}, x ∈ mkB ts ns ps → x.body ∈ ps ∧ x.ty ∈ ts
  | t :: ts, n :: ns, p :: ps, x, h => by
    unfold mkB at h
    rcases List.mem_cons.1 h with rfl | h
    · exact ⟨List.mem_cons_self, List.mem_cons_self⟩
    · obtain ⟨h1, h2⟩ := mkB_mem h
      exact ⟨List.mem_cons_of_mem _ h1, List.mem_cons_of_mem _ h2⟩
  | [], _, _, x, h => by unfold mkB at h; cases h
  | _ :: _, [], _, x, h => by unfold mkB at h; cases h
  | _ :: _, _ :: _, [], x, h => by unfold mkB at h; cases h
theorem allTs_iff {T : Ty → Prop} : ∀ {l : List Core}, allTs T l ↔ ∀ x ∈ l, allT T x
  | [] => by simp [allTs]
  | c :: l => by rw [allTs, allTs_iff (l := l)]; simp
theorem allTb_iff {T : Ty → Prop} : ∀ {l : List Bind}, allTb T l ↔ ∀ x ∈ l, T x.ty ∧ allT T x.body
  | [] => by simp [allTb]
  | .mk _ t c :: l => by rw [allTb, allTb_iff (l := l)]; simp [Bind.body, Bind.ty, and_assoc]
theorem allTa_iff {T : Ty → Prop} : ∀ {l : List Alt}, allTa T l ↔ ∀ x ∈ l, allT T x.body
  | [] => by simp [allTa]
  | .mk _ _ _ _ c :: l => by rw [allTa, allTa_iff (l := l)]; simp [Alt.body]
end Go.Proofs.YtmoekkcdkjopgaaGreatDoor

/- CORE IN THE PLACE OF A NAME: sizes, shapes and types stay. -/
namespace Go.Proofs.YtmoekkcdkjopgaaGreatDoor
open Go Go.AM
set_option maxRecDepth 20000
def Big : Nat := 8000000000
theorem m30_vC {z : Str} (h : z.length ≤ 30) : m30 (vC z) = 31 := by
  unfold vC
  rw [m30, m30s, m30b, m30a]
  unfold w30; omega
theorem wfE_vC {z : Str} : wfE (vC z) = true := rfl
theorem allT_vC {T : Ty → Prop} (h : T zTy) {z : Str} : allT T (vC z) := by
  unfold vC
  rw [allT, allTs, allTb, allTa]
  exact ⟨h, trivial, trivial, trivial⟩
theorem gvN_len {f : Int} {nm : Str} {bs : List Bind} : (gvN f nm bs).length ≤ 1 + bs.length := by unfold gvN; split <;> simp; omega
theorem wfE_un {f n : Int} {nm : Str} {t : Ty} {ks : List Core} {bs : List Bind} {al : List Alt} (h : wfE (.mk f n nm t ks bs al) = true) : f ≠ 7 ∧ (f = 5 → (∃ k, ks = [k]) ∧ bs = [] ∧ al = []) ∧ (∀ x ∈ ks, wfE x = true) ∧ (∀ x ∈ bs, wfE x.body = true) ∧ (∀ x ∈ al, wfE x.body = true) := by
  rw [wfE, Bool.and_eq_true, Bool.and_eq_true, Bool.and_eq_true, Bool.and_eq_true] at h
  obtain ⟨⟨⟨⟨h1, h2⟩, h3⟩, h4⟩, h5⟩ := h
  refine ⟨by simpa using h1, fun hf => ?_, wfEs_iff.1 h3, wfEb_iff.1 h4, wfEa_iff.1 h5⟩
  rw [decide_eq_true hf] at h2
  simp only [Bool.not_true, Bool.false_or, Bool.and_eq_true, beq_iff_eq, List.isEmpty_iff] at h2
  exact ⟨List.length_eq_one_iff.1 h2.1.1, h2.1.2, h2.2⟩
theorem wfE_mk {f n : Int} {nm : Str} {t : Ty} {ks : List Core} {bs : List Bind} {al : List Alt} (h1 : f ≠ 7) (h2 : f = 5 → (∃ k, ks = [k]) ∧ bs = [] ∧ al = []) (h3 : ∀ x ∈ ks, wfE x = true) (h4 : ∀ x ∈ bs, wfE x.body = true) (h5 : ∀ x ∈ al, wfE x.body = true) : wfE (.mk f n nm t ks bs al) = true := by
  rw [wfE, Bool.and_eq_true, Bool.and_eq_true, Bool.and_eq_true, Bool.and_eq_true]
  refine ⟨⟨⟨⟨by simpa using h1, ?_⟩, wfEs_iff.2 h3⟩, wfEb_iff.2 h4⟩, wfEa_iff.2 h5⟩
  by_cases hf : f = 5
  · obtain ⟨⟨k, rfl⟩, rfl, rfl⟩ := h2 hf
    simp
  · rw [decide_eq_false hf]; rfl
theorem sum_NR {vs vs' : List Str} (h : A2 NR vs vs') : (vs'.map fun v => 1 + w30 v).sum ≤ (vs.map fun v => 1 + w30 v).sum := by
  induction h with
  | nil => exact Nat.le_refl _
  | cons r _ ih =>
    simp only [List.map_cons, List.sum_cons]
    have := r.w
    omega
section
variable {clr : Core → List Str → Core} {T : Ty → Prop}
/-- What comes of a group's parts. -/
theorem putR_keep (hz0 : T zTy) {k : Nat} (ih : ∀ c s b, m30 c ≤ Big → m30 b ≤ Big → wfE c = true → ((∃ z, z.length ≤ 30 ∧ b = vC z) → m30 (subG clr k c s b) ≤ m30 c) ∧ (wfE b = true → wfE (subG clr k c s b) = true) ∧ (allT T c → allT T b → allT T (subG clr k c s b)))
    {s : Str} {b : Core} {ns : List Str} {ps : List Core} (hps : ∀ p ∈ ps, m30 p ≤ Big ∧ wfE p = true) (hb : m30 b ≤ Big) (hl : (ps.flatMap pfR).length + 2 * ns.length + (pfR b).length ≤ 20000000000) :
    ((∃ z, z.length ≤ 30 ∧ b = vC z) → A2 (fun p q => m30 q ≤ m30 p) ps (putR (subG clr k) s b ns ps).2) ∧ (wfE b = true → ∀ q ∈ (putR (subG clr k) s b ns ps).2, wfE q = true) ∧
      ((∀ p ∈ ps, allT T p) → allT T b → ∀ q ∈ (putR (subG clr k) s b ns ps).2, allT T q) ∧ A2 NR ns (putR (subG clr k) s b ns ps).1 := by
  obtain ⟨⟨qs, h1, h2⟩, h3⟩ := putR_rel (sb := subG clr k) (Rel := fun p q => (m30 p ≤ Big ∧ wfE p = true) → (m30 q ≤ m30 p ∧ wfE q = true ∧ (allT T p → allT T q))) (fun p h => ⟨Nat.le_refl _, h.2, id⟩)
    (fun p q r hpq hqr h => by
      obtain ⟨a1, a2, a3⟩ := hpq h
      obtain ⟨b1, b2, b3⟩ := hqr ⟨Nat.le_trans a1 h.1, a2⟩
      exact ⟨Nat.le_trans b1 a1, b2, fun x => b3 (a3 x)⟩) (s := s) (b := b) (ns := ns) (ps := ps)
    (fun p n z hz h => by
      obtain ⟨a1, a2, a3⟩ := ih p n (vC z) h.1 (by rw [m30_vC hz]; decide) h.2
      exact ⟨a1 ⟨z, hz, rfl⟩, a2 wfE_vC, fun x => a3 x (allT_vC hz0)⟩) hl
  have hq : ∀ q ∈ qs, m30 q ≤ Big ∧ wfE q = true ∧ ((∀ p ∈ ps, allT T p) → allT T q) := fun q hq => by
    obtain ⟨p, hp, hpq⟩ := h1.mem q hq
    obtain ⟨a1, a2, a3⟩ := hpq (hps p hp)
    exact ⟨Nat.le_trans a1 (hps p hp).1, a2, fun h => a3 (h p hp)⟩
  refine ⟨fun hbz => ?_, fun hwb x hx => ?_, fun hTp hTb x hx => ?_, h3⟩
  · have hA : A2 (fun p q => m30 q ≤ m30 p) ps qs := by
      clear h2 hq hl h3
      induction h1 with
      | nil => exact .nil
      | cons r _ ih2 => exact .cons (r (hps _ List.mem_cons_self)).1 (ih2 fun p hp => hps p (List.mem_cons_of_mem _ hp))
    rcases h2 with h2 | h2
    · rw [h2]; exact hA
    · rw [h2]
      refine A2.trans (R := fun p q => m30 q ≤ m30 p) (fun a b c h1 h2 => Nat.le_trans h2 h1) hA ?_
      have key : ∀ l : List Core, (∀ q ∈ l, m30 q ≤ Big ∧ wfE q = true) → A2 (fun p q => m30 q ≤ m30 p) l (l.map fun p => subG clr k p s b) := by
        intro l
        induction l with
        | nil => intro _; exact .nil
        | cons q l ihl => intro h; exact .cons ((ih q s b (h q List.mem_cons_self).1 hb (h q List.mem_cons_self).2).1 hbz) (ihl fun x hx => h x (List.mem_cons_of_mem _ hx))
      exact key qs fun q h => ⟨(hq q h).1, (hq q h).2.1⟩
  · rcases h2 with h2 | h2
    · rw [h2] at hx; exact (hq x hx).2.1
    · rw [h2] at hx
      obtain ⟨q, hq', rfl⟩ := List.mem_map.1 hx
      exact (ih q s b (hq q hq').1 hb (hq q hq').2.1).2.1 hwb
  · rcases h2 with h2 | h2
    · rw [h2] at hx; exact (hq x hx).2.2 hTp
    · rw [h2] at hx
      obtain ⟨q, hq', rfl⟩ := List.mem_map.1 hx
      exact (ih q s b (hq q hq').1 hb (hq q hq').2.1).2.2 ((hq q hq').2.2 hTp) hTb
theorem subG_keep (hz0 : T zTy) : ∀ (k : Nat) (c : Core) (s : Str) (b : Core), m30 c ≤ Big → m30 b ≤ Big → wfE c = true → ((∃ z, z.length ≤ 30 ∧ b = vC z) → m30 (subG clr k c s b) ≤ m30 c) ∧ (wfE b = true → wfE (subG clr k c s b) = true) ∧ (allT T c → allT T b → allT T (subG clr k c s b))
  | 0, c, s, b, _, _, hw => ⟨fun _ => Nat.le_refl _, fun _ => hw, fun h _ => h⟩
  | k + 1, .mk f n nm t ks bs al, s, b, hc, hb, hw => by
    have ih := subG_keep hz0 k
    obtain ⟨w1, w2, w3, w4, w5⟩ := wfE_un hw
    have hc' := hc
    rw [m30] at hc'
    rw [subG]
    by_cases hv : (Core.mk f n nm t ks bs al).form = 1 ∧ (Core.mk f n nm t ks bs al).name = s
    · rw [if_pos hv]
      refine ⟨?_, fun h => h, fun _ h => h⟩
      rintro ⟨z, hz, rfl⟩
      rw [m30_vC hz]
      exact m30_pos _
    rw [if_neg hv, if_neg (fun h : (Core.mk f n nm t ks bs al).form = 7 ∧ _ => w1 h.1)]
    dsimp only
    have hBig : Big = 8000000000 := rfl
    have h30 := w30_30 nm
    have hbs := m30s_bs bs
    have hps : ∀ p ∈ ks ++ bs.map Bind.body, m30 p ≤ Big ∧ wfE p = true := fun p hp => by
      rcases List.mem_append.1 hp with hp | hp
      · have := m30s_mem hp; exact ⟨by omega, w3 p hp⟩
      · obtain ⟨x, hx, rfl⟩ := List.mem_map.1 hp
        have := m30b_mem hx; exact ⟨by omega, w4 x hx⟩
    have hpb := pf_m30 b
    have hfm := fm_m30 (ks ++ bs.map Bind.body)
    rw [m30s_app] at hfm
    have hgv := gvN_len (f := f) (nm := nm) (bs := bs)
    obtain ⟨q1, q2, q3, q4⟩ := putR_keep hz0 ih (s := s) (b := b) (ns := gvN f nm bs) hps hb (by omega)
    have hla : ∀ a ∈ al, m30 a.body ≤ Big ∧ ([a.body].flatMap pfR).length + 2 * a.vars.length + (pfR b).length ≤ 20000000000 := fun a ha => by
      have h1 := m30a_mem ha
      have h2 := sum_len a.vars
      have h3 := pf_m30 a.body
      refine ⟨by omega, ?_⟩
      simp only [List.flatMap_cons, List.flatMap_nil, List.append_nil]
      omega
    have hA : ∀ a ∈ al, ((∃ z, z.length ≤ 30 ∧ b = vC z) → A2 (fun p q => m30 q ≤ m30 p) [a.body] (putR (subG clr k) s b a.vars [a.body]).2) ∧ (wfE b = true → ∀ q ∈ (putR (subG clr k) s b a.vars [a.body]).2, wfE q = true) ∧
      ((∀ p ∈ [a.body], allT T p) → allT T b → ∀ q ∈ (putR (subG clr k) s b a.vars [a.body]).2, allT T q) ∧ A2 NR a.vars (putR (subG clr k) s b a.vars [a.body]).1 := fun a ha =>
      putR_keep hz0 ih (fun p hp => by rw [List.mem_singleton.1 hp]; exact ⟨(hla a ha).1, w5 a ha⟩) hb (hla a ha).2
    have hlen := putR_len (sb := subG clr k) (s := s) (b := b) (ns := gvN f nm bs) (ps := ks ++ bs.map Bind.body)
    generalize putR (subG clr k) s b (gvN f nm bs) (ks ++ bs.map Bind.body) = r at q1 q2 q3 q4 hlen ⊢
    obtain ⟨r1, r2⟩ := r
    dsimp only at *
    refine ⟨fun hbz => ?_, fun hwb => ?_, fun hTc hTb => ?_⟩
    · have q1 := q1 hbz
      rw [m30, m30]
      have e1 : w30 (if f = 5 then r1.headD nm else nm) ≤ w30 nm := by
        split
        · rename_i hf
          unfold gvN at q4
          rw [if_pos hf] at q4
          cases q4 with
          | cons h _ => exact h.w
        · exact Nat.le_refl _
      have e2 : m30s (r2.take ks.length) ≤ m30s ks := by
        have := (q1.take ks.length)
        rw [List.take_left] at this
        exact m30s_A2 this
      have e3 : m30b (mkB (bs.map Bind.ty) r1 (r2.drop ks.length)) ≤ m30b bs := by
        by_cases hf : f = 5
        · obtain ⟨_, rfl, _⟩ := w2 hf
          show m30b (mkB [] _ _) ≤ _
          unfold mkB; rw [m30b]; exact Nat.zero_le _
        · have h4 := q4
          unfold gvN at h4
          rw [if_neg hf, List.nil_append] at h4
          have h5 := q1.drop ks.length
          rw [List.drop_left] at h5
          exact mkB_m30 (A2.mapL (A2.mono (fun a b h => h.w) h4)) (A2.mapL h5)
      have e4 : m30a (al.map fun a => .mk a.form a.n a.name (putR (subG clr k) s b a.vars [a.body]).1 ((putR (subG clr k) s b a.vars [a.body]).2.headD a.body)) ≤ m30a al := by
        clear hw hc hc' hla w5 hps q1 q4 hlen
        have key : ∀ l : List Alt, (∀ a ∈ l, A2 (fun p q => m30 q ≤ m30 p) [a.body] (putR (subG clr k) s b a.vars [a.body]).2 ∧ A2 NR a.vars (putR (subG clr k) s b a.vars [a.body]).1) →
            m30a (l.map fun a => .mk a.form a.n a.name (putR (subG clr k) s b a.vars [a.body]).1 ((putR (subG clr k) s b a.vars [a.body]).2.headD a.body)) ≤ m30a l := by
          intro l
          induction l with
          | nil => intro _; exact Nat.le_refl _
          | cons a l ihl =>
            intro h
            obtain ⟨af, an, anm, vs, ab⟩ := a
            obtain ⟨g1, g2⟩ := h _ List.mem_cons_self
            have := ihl fun x hx => h x (List.mem_cons_of_mem _ hx)
            have g3 : m30 ((putR (subG clr k) s b vs [ab]).2.headD ab) ≤ m30 ab := by
              cases hx : (putR (subG clr k) s b (Alt.mk af an anm vs ab).vars [(Alt.mk af an anm vs ab).body]).2 with
              | nil => rw [hx] at g1; cases g1
              | cons y l' =>
                rw [hx] at g1
                cases g1 with
                | cons h _ =>
                  have hx : (putR (subG clr k) s b vs [ab]).2 = y :: l' := hx
                  rw [hx]; exact h
            have g4 : ((putR (subG clr k) s b vs [ab]).1.map fun v => 1 + w30 v).sum ≤ (vs.map fun v => 1 + w30 v).sum := by
              exact sum_NR g2
            rw [List.map_cons]
            have e5 : m30a (Alt.mk af an anm vs ab :: l) = 1 + w30 anm + (vs.map fun v => 1 + w30 v).sum + m30 ab + m30a l := by rw [m30a]
            have e6 : ∀ (v' : List Str) (c' : Core) (L : List Alt), m30a (Alt.mk af an anm v' c' :: L) = 1 + w30 anm + (v'.map fun v => 1 + w30 v).sum + m30 c' + m30a L := fun v' c' L => by rw [m30a]
            rw [e5]
            refine Nat.le_trans (Nat.le_of_eq (e6 _ _ _)) ?_
            have g3' : m30 ((putR (subG clr k) s b (Alt.mk af an anm vs ab).vars [(Alt.mk af an anm vs ab).body]).2.headD (Alt.mk af an anm vs ab).body) ≤ m30 ab := g3
            have g4' : ((putR (subG clr k) s b (Alt.mk af an anm vs ab).vars [(Alt.mk af an anm vs ab).body]).1.map fun v => 1 + w30 v).sum ≤ (vs.map fun v => 1 + w30 v).sum := g4
            omega
        exact key al fun a ha => ⟨(hA a ha).1 hbz, (hA a ha).2.2.2⟩
      omega
    · refine wfE_mk w1 (fun hf => ?_) (fun x hx => q2 hwb x (List.mem_of_mem_take hx)) (fun x hx => q2 hwb _ (List.mem_of_mem_drop (mkB_mem hx).1)) (fun x hx => ?_)
      · obtain ⟨⟨y, rfl⟩, rfl, rfl⟩ := w2 hf
        have hl2 : r2.length = 1 := hlen.2
        obtain ⟨y', rfl⟩ := List.length_eq_one_iff.1 hl2
        exact ⟨⟨y', rfl⟩, rfl, rfl⟩
      · obtain ⟨a, ha, rfl⟩ := List.mem_map.1 hx
        show wfE ((putR (subG clr k) s b a.vars [a.body]).2.headD a.body) = true
        have hl3 := (putR_len (sb := subG clr k) (s := s) (b := b) (ns := a.vars) (ps := [a.body])).2
        obtain ⟨y, hy⟩ := List.length_eq_one_iff.1 hl3
        rw [hy]
        exact (hA a ha).2.1 hwb y (by rw [hy]; exact List.mem_singleton.2 rfl)
    · rw [allT] at hTc ⊢
      obtain ⟨t1, t2, t3, t4⟩ := hTc
      have t2 := allTs_iff.1 t2
      have t3 := allTb_iff.1 t3
      have t4 := allTa_iff.1 t4
      have q3 := q3 (fun p hp => by
        rcases List.mem_append.1 hp with hp | hp
        · exact t2 p hp
        · obtain ⟨x, hx, rfl⟩ := List.mem_map.1 hp
          exact (t3 x hx).2) hTb
      refine ⟨t1, allTs_iff.2 fun x hx => q3 x (List.mem_of_mem_take hx), allTb_iff.2 fun x hx => ?_, allTa_iff.2 fun x hx => ?_⟩
      · obtain ⟨h1, h2⟩ := mkB_mem hx
        obtain ⟨y, hy, hyt⟩ := List.mem_map.1 h2
        exact ⟨by rw [← hyt]; exact (t3 y hy).1, q3 _ (List.mem_of_mem_drop h1)⟩
      · obtain ⟨a, ha, rfl⟩ := List.mem_map.1 hx
        show allT T ((putR (subG clr k) s b a.vars [a.body]).2.headD a.body)
        have hl3 := (putR_len (sb := subG clr k) (s := s) (b := b) (ns := a.vars) (ps := [a.body])).2
        obtain ⟨y, hy⟩ := List.length_eq_one_iff.1 hl3
        rw [hy]
        exact (hA a ha).2.2.1 (fun p hp => by rw [List.mem_singleton.1 hp]; exact t4 a ha) hTb y (by rw [hy]; exact List.mem_singleton.2 rfl)
end
end Go.Proofs.YtmoekkcdkjopgaaGreatDoor

/- A GROUP (core.group.put): of an alternative among others. -/
namespace Go.Proofs.YtmoekkcdkjopgaaGreatDoor
open Go Go.AM
set_option maxRecDepth 20000
def famX (i : Nat) (al : List Alt) : List (Nat × AObj) := (fam 0 al).filter fun p => !Nat.beq p.1 (i + 800)
theorem beq_ne {a b : Nat} (h : a ≠ b) : Nat.beq a b = false := by
  cases hb : Nat.beq a b with
  | false => rfl
  | true => exact absurd (Nat.eq_of_beq_eq_true hb) h
theorem famX_mem {i : Nat} {al : List Alt} {p : Nat × AObj} (h : p ∈ famX i al) : p ∈ fam 0 al ∧ p.1 ≠ i + 800 := by
  obtain ⟨h1, h2⟩ := List.mem_filter.1 h
  refine ⟨h1, fun e => ?_⟩
  rw [e, Nat.beq_refl] at h2; cases h2
theorem famX_tf {i : Nat} {al : List Alt} : TF (famX i al) := ⟨fun p hp => fam_tf.far p (famX_mem hp).1, by
  have : ((famX i al).map (·.1)).Sublist ((fam 0 al).map (·.1)) := (List.filter_sublist ..).map _
  exact List.Nodup.sublist this fam_nodup, fun p hp => fam_tf.arr p (famX_mem hp).1⟩
theorem altRows_setR : ∀ {l : List Alt} {k i x : Nat}, x ∈ refsR ((altRows k l).set i []) → ∃ j, j < l.length ∧ j ≠ i ∧ x = k + j + 800
  | [], _, _, _, h => by simp [altRows, refsR] at h
  | a :: l, k, 0, x, h => by
    have h : x ∈ refsR (altRows (k + 1) l) := by simpa [altRows, refsR, R.refsL] using h
    obtain ⟨p, hp, e⟩ := List.mem_map.1 (altRows_refs x h)
    obtain ⟨j, b, hj, rfl⟩ := fam_mem hp
    have hlt : j < l.length := (List.getElem?_eq_some_iff.1 hj).1
    exact ⟨j + 1, by simp; exact hlt, by omega, by rw [← e]; show k + 1 + j + 800 = _; omega⟩
  | a :: l, k, i + 1, x, h => by
    rcases List.mem_append.1 (show x ∈ R.refsL (encAltR k a) ++ refsR ((altRows (k + 1) l).set i []) from h) with h | h
    · exact ⟨0, by simp, by omega, by rw [encAltR_refs h]⟩
    · obtain ⟨j, h1, h2, h3⟩ := altRows_setR h
      exact ⟨j + 1, by simp; exact h1, by omega, by omega⟩
theorem famX_key {i j : Nat} {al : List Alt} (h : j < al.length) (hne : j ≠ i) : 0 + j + 800 ∈ keys (famX i al) := by
  obtain ⟨a, ha⟩ := get_of_lt h
  exact List.mem_map.2 ⟨_, List.mem_filter.2 ⟨fam_at ha, by simp only [beq_ne (show 0 + j + 800 ≠ i + 800 by omega)]; rfl⟩, rfl⟩
theorem swp_far {i j : Nat} (h : j ≠ 704) (h' : j ≠ i + 800) : swp 704 (i + 800) j = j := by unfold swp; rw [beq_ne h, beq_ne h']; rfl
theorem ren_altSet {σ : Nat → Nat} : ∀ {l : List Alt} {k i : Nat} {a : Alt} {r : List R}, l[i]? = some a → (∀ j, j < l.length → j ≠ i → σ (k + j + 800) = k + j + 800) → R.renL σ r = encAltR (k + i) a → renR σ ((altRows k l).set i r) = altRows k l
  | b :: l, k, 0, a, r, h, hσ, hr => by
    simp at h; subst h
    show R.renL σ r :: renR σ (altRows (k + 1) l) = _
    have key : ∀ (l : List Alt) (k : Nat), (∀ j, j < l.length → σ (k + j + 800) = k + j + 800) → renR σ (altRows k l) = altRows k l := by
      intro l
      induction l with
      | nil => intro _ _; rfl
      | cons c l ih =>
        intro k hk
        simp only [altRows, renR]
        rw [ren_encAltR, show σ (k + 800) = k + 800 from hk 0 (by simp), ih (k + 1) fun j hj => by
          have := hk (j + 1) (by simp; exact hj)
          rwa [show k + (j + 1) + 800 = k + 1 + j + 800 by omega] at this]; rfl
    rw [hr, key l (k + 1) fun j hj => by
      have := hσ (j + 1) (by simp; exact hj) (by omega)
      rwa [show k + (j + 1) + 800 = k + 1 + j + 800 by omega] at this]; rfl
  | b :: l, k, i + 1, a, r, h, hσ, hr => by
    show R.renL σ (encAltR k b) :: renR σ ((altRows (k + 1) l).set i r) = _
    rw [ren_encAltR, show σ (k + 800) = k + 800 from hσ 0 (by simp) (by omega), ren_altSet (l := l) (k := k + 1) (a := a) (by simpa using h) (fun j hj hne => by
      have := hσ (j + 1) (by simp; exact hj) (by omega)
      rwa [show k + (j + 1) + 800 = k + 1 + j + 800 by omega] at this) (by rw [hr, show k + 1 + i = k + (i + 1) by omega])]; rfl
theorem look_famX {i : Nat} {al : List Alt} {j : Nat} (h : j ≠ i + 800) : Go.AM.look (famX i al) j = Go.AM.look (fam 0 al) j := by
  unfold famX
  generalize fam 0 al = F
  induction F with
  | nil => rfl
  | cons p F ih =>
    obtain ⟨k, o⟩ := p
    rw [List.filter_cons]
    simp only [Go.AM.look]
    by_cases hk : k = i + 800
    · rw [hk, Nat.beq_refl]
      simp only [Bool.not_true, Bool.false_eq_true, if_false]
      rw [ih, beq_ne h]; rfl
    · rw [beq_ne hk]
      simp only [Bool.not_false, if_true, Go.AM.look]
      cases Nat.beq j k
      · simpa using ih
      · rfl
theorem famX_ren {i : Nat} {al : List Alt} : renH (swp 704 (i + 800)) (famX i al) = famX i al := by
  have key : ∀ F : List (Nat × AObj), (∀ p ∈ F, p ∈ famX i al) → renH (swp 704 (i + 800)) F = F := by
    intro F
    induction F with
    | nil => intro _; rfl
    | cons p F ih =>
      intro h
      have hp := famX_mem (h p List.mem_cons_self)
      obtain ⟨te, es, l, z, e⟩ := fam_tf.arr p hp.1
      have hfar := fam_tf.far p hp.1
      show (swp 704 (i + 800) p.1, p.2.ren _) :: renH _ F = _
      rw [ih fun q hq => h q (List.mem_cons_of_mem _ hq), swp_far (by omega) hp.2, e]
      show (p.1, AObj.arr te es l z) :: F = _
      rw [← e]
  exact key _ fun _ h => h
abbrev aX (i : Nat) (al : List Alt) (a : Alt) (nv : Nat) : List (Nat × AObj) := aH ((altRows 0 al).set i []) i a.form a.n a.name nv a.vars a.body ++ famX i al
theorem look_aX {i : Nat} {al : List Alt} {a : Alt} (hai : al[i]? = some a) : Go.AM.look (renH (swp 704 (i + 800)) (aX i al a a.vars.length)) = Go.AM.look ((703, .rarr 78 14 (altRows 0 al)) :: fam 0 al) := by
  have e1 : renH (swp 704 (i + 800)) (aX i al a a.vars.length) = (703, .rarr 78 14 (altRows 0 al)) :: (i + 800, .arr 9 1 (a.vars.map encS) 0) :: famX i al := by
    unfold aX aH
    show (swp 704 (i + 800) 703, AObj.rarr _ _ (renR _ _)) :: (swp 704 (i + 800) 704, AObj.arr _ _ _ _) :: renH _ (famX i al) = _
    rw [famX_ren, swp_far (by omega) (by omega), rsSet]
    have h704 : swp 704 (i + 800) 704 = i + 800 := by unfold swp; rw [Nat.beq_refl]; rfl
    rw [h704, ren_altSet hai (fun j hj hne => swp_far (by omega) (by omega)) ?_]
    unfold rowA encAltR
    simp only [List.cons_append, List.nil_append, R.renL, R.ren, ren_c, h704, Nat.zero_add]
  rw [e1]
  funext j
  by_cases h1 : j = 703
  · subst h1; rw [look_cons_same, look_cons_same]
  rw [look_cons_ne h1, look_cons_ne h1]
  by_cases h2 : j = i + 800
  · subst h2
    rw [look_cons_same]
    have := look_in (fam_nodup (l := al) (k := 0)) _ (fam_at hai)
    rw [Nat.zero_add] at this
    exact this.symm
  · rw [look_cons_ne h2, look_famX h2]
theorem altRows_setAlt : ∀ {l : List Alt} {k i : Nat} {a' : Alt}, (altRows k (l.set i a')).set i [] = (altRows k l).set i []
  | [], _, _, _ => rfl
  | b :: l, k, 0, a' => rfl
  | b :: l, k, i + 1, a' => by
    simp only [List.set_cons_succ, altRows]
    rw [altRows_setAlt]
theorem famX_set {i : Nat} {al : List Alt} {a' : Alt} : famX i (al.set i a') = famX i al := by
  unfold famX
  have key : ∀ (l : List Alt) (k j : Nat), k + j = i → ((fam k (l.set j a')).filter fun p => !Nat.beq p.1 (i + 800)) = (fam k l).filter fun p => !Nat.beq p.1 (i + 800) := by
    intro l
    induction l with
    | nil => intro _ _ _; rfl
    | cons b l ih =>
      intro k j h
      cases j with
      | zero =>
        have e : k = i := by omega
        subst e
        simp only [List.set_cons_zero, fam, List.filter_cons, Nat.beq_refl, Bool.not_true]
        rfl
      | succ j =>
        simp only [List.set_cons_succ, fam, List.filter_cons]
        rw [ih (k + 1) j (by omega)]
  exact key al 0 i (by omega)
theorem c_putAi (al : List Alt) (i : Nat) (a : Alt) (hai : al[i]? = some a) (s : Str) (b : Core) (sb : Core → Str → Core → Core) (P : Core → Prop) (hok : PutOk sb P s b [a.body])
    (hM : (pfR a.body).length + 2 * a.vars.length + (pfR b).length + 1 ≤ 20000000000) (nv : Nat) (hnv : nv = a.vars.length) (na : Nat) (hna : na = al.length) :
    ∃ q, (putR sb s b a.vars [a.body]).2 = [q] ∧ ImpC Tryz.prog 68 [.ma [.ras nv 1 (vR i nv nv).flatten, .ras 1 1 [.rp 703 i 4 na]], Go.AM.T s, .pa (encCore b)] ((703, .rarr 78 14 (altRows 0 al)) :: fam 0 al) (.tup [])
      ((703, .rarr 78 14 (altRows 0 (al.set i (.mk a.form a.n a.name (putR sb s b a.vars [a.body]).1 q)))) :: fam 0 (al.set i (.mk a.form a.n a.name (putR sb s b a.vars [a.body]).1 q))) := by
  subst hnv; subst hna
  have hlt : i < al.length := (List.getElem?_eq_some_iff.1 hai).1
  have hrl : ((altRows 0 al).set i []).length = al.length := by rw [List.length_set, altRows_len]
  have hr : ∀ x ∈ refsR ((altRows 0 al).set i []), x ∈ keys (famX i al) := fun x hx => by
    obtain ⟨j, h1, h2, rfl⟩ := altRows_setR hx
    exact famX_key h1 h2
  obtain ⟨q, hq, h⟩ := c_putA ((altRows 0 al).set i []) i a.form a.n a.name a.vars.length a.vars a.body (famX i al) s b sb P famX_tf hr (by omega) rfl hok hM
  refine ⟨q, hq, ?_⟩
  have hl1 := (putR_len (sb := sb) (s := s) (b := b) (ns := a.vars) (ps := [a.body])).1
  rw [hrl] at h
  have hsub : ∀ (ns : List Str) (p : Core), subset (refsH (aH ((altRows 0 al).set i []) i a.form a.n a.name a.vars.length ns p ++ famX i al)) (keys (aH ((altRows 0 al).set i []) i a.form a.n a.name a.vars.length ns p ++ famX i al)) = true := fun ns p => subset_of (tail_refs famX_tf (aHW famX_tf hr).refs)
  have h2 := ImpC.swap 704 (i + 800) h (hsub _ _) (subset_of fun x hx => by
    have hx : x ∈ (grO (aN a.vars.length) (aP i al.length)).refs ++ ([] ++ ([] ++ [])) := hx
    rw [List.append_nil, List.append_nil, List.append_nil] at hx
    rcases aG_refs x hx with rfl | rfl
    · simp [aH, keys]
    · simp [aH, keys]) (hsub _ _) rfl
  have ea : V.renL (swp 704 (i + 800)) [gpV (aN a.vars.length) (aP i al.length), Go.AM.T s, .pa (encCore b)] = [.ma [.ras a.vars.length 1 (vR i a.vars.length a.vars.length).flatten, .ras 1 1 [.rp 703 i 4 al.length]], Go.AM.T s, .pa (encCore b)] := by
    have h704 : swp 704 (i + 800) 704 = i + 800 := by unfold swp; rw [Nat.beq_refl]; rfl
    have en : R.renL (swp 704 (i + 800)) (aN a.vars.length) = (vR i a.vars.length a.vars.length).flatten := by
      unfold aN vR rgR
      generalize List.range a.vars.length = rg
      induction rg with
      | nil => rfl
      | cons j rg ih =>
        simp only [List.map_cons, List.flatten_cons, List.singleton_append, R.renL, R.ren, h704] at ih ⊢
        rw [ih]
    unfold gpV aP
    simp only [V.renL, V.ren, R.renL, R.ren, en, aN_len, swp_far (show 703 ≠ 704 by omega) (show 703 ≠ i + 800 by omega)]
    rfl
  rw [ea] at h2
  refine ImpC.row h2 (look_aX hai).symm ?_
  have hai' : (al.set i (.mk a.form a.n a.name (putR sb s b a.vars [a.body]).1 q))[i]? = some (.mk a.form a.n a.name (putR sb s b a.vars [a.body]).1 q) := List.getElem?_set_self hlt
  have h3 := look_aX hai'
  unfold aX at h3
  rw [altRows_setAlt, famX_set] at h3
  rw [← h3]
  show Go.AM.look (renH _ (aH _ i a.form a.n a.name (putR sb s b a.vars [a.body]).1.length _ _ ++ famX i al)) = _
  rw [hl1]
  rfl
end Go.Proofs.YtmoekkcdkjopgaaGreatDoor

/- CORE IN THE PLACE OF A NAME (core.Subst): the walk, where no types are given. -/
namespace Go.Proofs.YtmoekkcdkjopgaaGreatDoor
open Go Go.AM
set_option maxRecDepth 20000
def FarNone (h : Heap) : Prop := ∀ i, 800 ≤ i → h i = none
theorem FarNone.nil : FarNone (Go.AM.look []) := fun _ _ => rfl
theorem FarNone.upd {h : Heap} {k : Nat} {x : Option AObj} (hf : FarNone h) (hk : Nat.blt k 800 = true := by rfl) : FarNone (upd h k x) := fun i hi => by
  have := Nat.le_of_ble_eq_true hk
  rw [upd_ne _ _ _ (by omega)]; exact hf i hi
theorem FarNone.updL {h : Heap} {l : List (Nat × Option AObj)} (hf : FarNone h) (hk : (l.all fun p => Nat.blt p.1 800) = true := by rfl) : FarNone (updL h l) := fun i hi => by
  simp only [Go.AM.updL]
  have : Go.AM.look l i = none := look_none_of fun hm => by
    obtain ⟨q, hq, e⟩ := List.mem_map.1 hm
    have := Nat.le_of_ble_eq_true ((List.all_eq_true.1 hk) q hq)
    omega
  rw [this]; exact hf i hi
theorem mkB_id : ∀ bs : List Bind, mkB (bs.map Bind.ty) (bs.map Bind.name) (bs.map Bind.body) = bs
  | [] => rfl
  | .mk s t c :: bs => by
    show Bind.mk s t c :: mkB _ _ _ = _
    rw [mkB_id bs]
def SubOk (clr : Core → List Str → Core) (k : Nat) : Prop := ∀ (c : Core) (s : Str) (b : Core), m30 c ≤ k → m30 c ≤ Big → m30 b ≤ Big → wfE c = true → wfE b = true → allT TyG c → allT TyG b → ImpC Tryz.prog 25 [.pa (encCore c), Go.AM.T s, .pa (encCore b)] [] (.pa (encCore (subG clr k c s b))) []
theorem g0_eq {b : Bool} {nk nb : Nat} (h : b = false) : g0Row b nk nb = [.ras (tN nb).length 1 (tN nb), .ras (tP nk nb).length 1 (tP nk nb)] := by
  subst h
  have e1 : (nR false nb nb).length = (tN nb).length := by unfold tN; rw [flat_len tN_one, Nat.mul_one]
  have e2 : (pR nk nb nb).length = (tP nk nb).length := by unfold tP; rw [flat_len pR_one, Nat.mul_one]
  unfold g0Row
  rw [e1, e2]; rfl
section
variable {clr : Core → List Str → Core} {k : Nat}
theorem putOk_of (hI : ItoaTo 20000000000) (hz0 : TyG zTy) (ih : SubOk clr k) {s : Str} {b : Core} {ps : List Core} (hps : ∀ p ∈ ps, m30 p ≤ k ∧ m30 p ≤ Big ∧ wfE p = true ∧ allT TyG p) (hb : m30 b ≤ Big) (hwb : wfE b = true) (hTb : allT TyG b) :
    PutOk (subG clr k) (fun p => m30 p ≤ k ∧ m30 p ≤ Big ∧ wfE p = true ∧ allT TyG p) s b ps := by
  have hfree : ∀ p, m30 p ≤ Big → ImpC Tryz.prog 67 [.pa (encCore p)] [] (strsV (pfR p)) [] := fun p hp => c_pfree (csize p) p (Nat.le_refl _) (by have := csize_m30 p; have : Big = 8000000000 := rfl; omega)
  refine ⟨hps, fun p hp => hfree p (hps p hp).2.1, hfree b hb, fun p n z h hz => ?_, fun p n z h hz => ?_, fun p h => ?_, hI⟩
  · obtain ⟨h1, h2, h3, h4⟩ := h
    obtain ⟨a1, a2, a3⟩ := subG_keep (clr := clr) (T := TyG) hz0 k p n (vC z) h2 (by rw [m30_vC hz]; decide) h3
    have a1 := a1 ⟨z, hz, rfl⟩
    exact ⟨by omega, by omega, a2 wfE_vC, a3 h4 (allT_vC hz0)⟩
  · obtain ⟨h1, h2, h3, h4⟩ := h
    exact ih p n (vC z) h1 h2 (by rw [m30_vC hz]; decide) h3 wfE_vC h4 (allT_vC hz0)
  · obtain ⟨h1, h2, h3, h4⟩ := h
    exact ih p s b h1 h2 hb h3 hwb h4 hTb
/-- The alternatives, the first ones put into. -/
noncomputable def newA (sb : Core → Str → Core → Core) (s : Str) (b : Core) (a : Alt) : Alt := .mk a.form a.n a.name (putR sb s b a.vars [a.body]).1 ((putR sb s b a.vars [a.body]).2.headD a.body)
noncomputable def altI (sb : Core → Str → Core → Core) (s : Str) (b : Core) (al : List Alt) (i : Nat) : List Alt := (al.take i).map (newA sb s b) ++ al.drop i
theorem altI_len {sb : Core → Str → Core → Core} {s : Str} {b : Core} {al : List Alt} {i : Nat} : (altI sb s b al i).length = al.length := by unfold altI; simp; omega
theorem altI_at {sb : Core → Str → Core → Core} {s : Str} {b : Core} {al : List Alt} {i : Nat} {a : Alt} (h : al[i]? = some a) : (altI sb s b al i)[i]? = some a := by
  have hlt : i < al.length := (List.getElem?_eq_some_iff.1 h).1
  unfold altI
  rw [List.getElem?_append_right (by simp; omega), List.length_map, List.length_take, Nat.min_eq_left (by omega), Nat.sub_self, List.getElem?_drop, Nat.add_zero, h]
theorem altI_succ {sb : Core → Str → Core → Core} {s : Str} {b : Core} {al : List Alt} {i : Nat} {a : Alt} (h : al[i]? = some a) : altI sb s b al (i + 1) = (altI sb s b al i).set i (newA sb s b a) := by
  have hlt : i < al.length := (List.getElem?_eq_some_iff.1 h).1
  unfold altI
  rw [drop_at h, set_mid (by simp; omega), List.take_add_one, h]
  simp
theorem altI_zero {sb : Core → Str → Core → Core} {s : Str} {b : Core} {al : List Alt} : altI sb s b al 0 = al := by simp [altI]
theorem altI_end {sb : Core → Str → Core → Core} {s : Str} {b : Core} {al : List Alt} : altI sb s b al al.length = al.map (newA sb s b) := by simp [altI]
/-- The state behind g groups. -/
noncomputable def zNm (sb : Core → Str → Core → Core) (f : Int) (nm : Str) (s : Str) (b : Core) (ks : List Core) (bs : List Bind) : Nat → Str
  | 0 => nm
  | _ + 1 => if f = 5 then (putR sb s b (gvN f nm bs) (ks ++ bs.map Bind.body)).1.headD nm else nm
noncomputable def zKs (sb : Core → Str → Core → Core) (f : Int) (nm : Str) (s : Str) (b : Core) (ks : List Core) (bs : List Bind) : Nat → List Core
  | 0 => ks
  | _ + 1 => (putR sb s b (gvN f nm bs) (ks ++ bs.map Bind.body)).2.take ks.length
noncomputable def zBs (sb : Core → Str → Core → Core) (f : Int) (nm : Str) (s : Str) (b : Core) (ks : List Core) (bs : List Bind) : Nat → List Bind
  | 0 => bs
  | _ + 1 => mkB (bs.map Bind.ty) (putR sb s b (gvN f nm bs) (ks ++ bs.map Bind.body)).1 ((putR sb s b (gvN f nm bs) (ks ++ bs.map Bind.body)).2.drop ks.length)
noncomputable def zAs (sb : Core → Str → Core → Core) (s : Str) (b : Core) (al : List Alt) : Nat → List Alt
  | 0 => al
  | i + 1 => altI sb s b al i
theorem fam_keys : ∀ {l m : List Alt} {k : Nat}, l.length = m.length → keys (fam k l) = keys (fam k m)
  | [], [], _, _ => rfl
  | a :: l, c :: m, k, h => by
    show (k + 800) :: keys (fam (k + 1) l) = (k + 800) :: keys (fam (k + 1) m)
    rw [fam_keys (by simpa using h)]
end
end Go.Proofs.YtmoekkcdkjopgaaGreatDoor

/- CORE IN THE PLACE OF A NAME (core.Subst): the walk, where no types are given. -/
namespace Go.Proofs.YtmoekkcdkjopgaaGreatDoor
open Go Go.AM
set_option maxRecDepth 20000
theorem c_subst_step {clr : Core → List Str → Core} {k : Nat} (hI : ItoaTo 20000000000) (hz0 : TyG zTy) (ih : SubOk clr k) : SubOk clr (k + 1) := by
  intro c s b hck hcB hbB hw hwb hT hTb
  have hBig : Big = 8000000000 := rfl
  have hcs := csize_m30 c
  have hog := c_ownG c (by omega) hT
  obtain ⟨f, n, nm, t, ks, bs, al⟩ := c
  have hob := c_ownP (csize b) b (Nat.le_refl _) (by have := csize_m30 b; omega) hTb
  have hog : ImpC Tryz.prog 59 [.pa (encCore (.mk f n nm t ks bs al))] [] (.ma (cellsG f n nm t ks.length bs.length al.length)) (oHl ks bs al ++ fam 0 al) := hog
  have hob : ImpC Tryz.prog 59 [.pa (encCore b)] [] (.pa (encCore b)) [] := hob
  obtain ⟨w1, w2, w3, w4, w5⟩ := wfE_un hw
  have hd7 : decide (f = 7) = false := decide_eq_false w1
  by_cases hv : f = 1 ∧ nm = s
  · have e : subG clr (k + 1) (.mk f n nm t ks bs al) s b = b := by rw [subG]; exact if_pos hv
    rw [e]
    have hd1 : decide (f = 1) = true := decide_eq_true hv.1
    have hd2 : decide (nm = s) = true := decide_eq_true hv.2
    refine impC (n := 47) tok Tryz.func25 rfl rfl rfl ?_
    refine awp_seq (ag [] rfl ?_)
    refine awp_seq (awp_seq (ag [(3, .bv true), (8, .bv true)] rfl ?_))
    refine awp_cond rfl (fun _ => ?_) (fun hb => ?_)
    · refine awp_seq (awp_rg mixed ?_)
      refine ak 1 [] rfl ?_
      refine kc hob ?_
      refine ak 1 [] rfl ?_
      refine az ?_
      exact awp_ret (rtC trw)
    · exact absurd (show decide (nm = s) = false from hb) (by rw [hd2]; decide)
  refine impC (n := 47) tok Tryz.func25 rfl rfl rfl ?_
  refine awp_seq (ag [] rfl ?_)
  refine awp_seq (AWp.cut (mk [(1, Go.AM.T s), (3, .one (.vp 3 0)), (5, .one (.vp 5 0)), (6, .one (.vp 6 0))] [(3, .var 37 (cellsC (.mk f n nm t ks bs al))), (5, .var 37 (cellsC b)), (6, .var 37 zCells)]) ?_ ?_)
  · by_cases hf1 : f = 1
    · have hd1 : decide (f = 1) = true := decide_eq_true hf1
      have hd2 : decide (nm = s) = false := decide_eq_false fun h => hv ⟨hf1, h⟩
      refine awp_seq (ag [(3, .bv true), (8, .bv true)] rfl ?_)
      refine awp_cond rfl (fun hb => ?_) (fun _ => awp_skip sl)
      exact absurd (show decide (nm = s) = true from hb) (by rw [hd2]; decide)
    · have hd1 : decide (f = 1) = false := decide_eq_false hf1
      refine awp_seq (ag [(3, .bv false), (8, .bv false)] rfl ?_)
      exact awp_cond rfl (fun hb => by cases hb) (fun _ => awp_skip sl)
  have hF : TF (fam 0 al) := fam_tf
  have hR := putR_len (sb := subG clr k) (s := s) (b := b) (ns := gvN f nm bs) (ps := ks ++ bs.map Bind.body)
  refine awp_seq (awp_rg mixed ?_)
  refine ak 1 [] rfl ?_
  refine kc hog ?_ (hout' := AllP.app ⟨.inr rfl, .inr rfl, .inr rfl, trivial⟩ (AllP.of fun p hp => .inr ((show FarNone _ by repeat (first | exact FarNone.nil | (refine FarNone.updL ?_) | (refine FarNone.upd ?_))) p.1 (hF.far p hp))))
  rw [far_outs hF]
  refine ak 2 [(2, .id 700)] rfl ?_
  refine az ?_
  have hN1 : ∀ g, (zKs (subG clr k) f nm s b ks bs g).length = ks.length := fun g => by
    cases g with
    | zero => rfl
    | succ g => show (List.take _ _).length = _; rw [List.length_take, hR.2, List.length_append]; omega
  have hbsl : (bs.map Bind.ty).length = bs.length := List.length_map _
  have hN2 : ∀ g, (zBs (subG clr k) f nm s b ks bs g).length = bs.length := fun g => by
    cases g with
    | zero => rfl
    | succ g =>
      show (mkB _ _ _).length = _
      by_cases hf5 : f = 5
      · obtain ⟨_, rfl, _⟩ := w2 hf5
        rfl
      · rw [mkB_len, hbsl]
        · rw [hR.1]; unfold gvN; rw [if_neg hf5]; simp
        · rw [List.length_drop, hR.2, List.length_append]; simp
  have hN3 : ∀ g, (zAs (subG clr k) s b al g).length = al.length := fun g => by
    cases g with
    | zero => rfl
    | succ g => exact altI_len
  refine AWp.sub (st2 := mkt [(1, Go.AM.T s), (3, .one (.vp 3 0)), (5, .one (.vp 5 0)), (6, .one (.vp 6 0)), (7, .one (.vp 700 0))] ([(3, .var 37 (cellsC (.mk f n nm t ks bs al))), (5, .var 37 (cellsC b)), (6, .var 37 zCells)] ++ gHl f n nm t ks bs al) (fam 0 al)) (slG gW (fun _ h => by cases h) (by repeat (first | exact FarEq.bif hF (FarEq.outs hF) | (refine FarEq.updL hF ?_) | (refine FarEq.upd hF ?_)))) ?_
  refine awp_seq (awp_seq (ag [(3, .bv false), (8, .bv false)] rfl ?_))
  refine awp_cond rfl (fun hb => by cases hb) (fun _ => ?_)
  refine awp_skip ?_
  have hcm := hcs
  rw [csize] at hcm
  have hkl := csizes_len ks
  have hbl := bsizes_len bs
  have hall := asizes_len al
  have hgr := c_groupsG (decide (f = 5)) f n nm t ks bs al rfl (by omega) (by omega) (by omega) (fun a ha => by
    have hav := asizes_mem ha
    have hvl := vsum_le a
    omega)
  have hrows := gf_rows (f := f) (n := n) (s := nm) (t := t) (ks := ks) (bs := bs) (al := al) (decide (f = 5)) al.length
  rw [List.take_length] at hrows
  have hgl : (gRowsA (decide (f = 5)) ks.length bs.length al.length al).length = 1 + al.length := g_len
  have hra : gfo f n nm t ks bs al (R.refsL (gRowsA (decide (f = 5)) ks.length bs.length al.length al).flatten) := by rw [refsL_flat]; exact hrows
  have hg0 : (gRowsA (decide (f = 5)) ks.length bs.length al.length al)[0]? = some (g0Row (decide (f = 5)) ks.length bs.length) := g_at0
  have hgA : ∀ i a, al[i]? = some a → (gRowsA (decide (f = 5)) ks.length bs.length al.length al)[i + 1]? = some (alRow al.length i a) := fun i a h => g_atA h
  have htk : ∀ k r, (gRowsA (decide (f = 5)) ks.length bs.length al.length al)[k]? = some r → ((gRowsA (decide (f = 5)) ks.length bs.length al.length al).flatten.drop (k * 2)).take 2 = r := take_flat g_rows2
  generalize gRowsA (decide (f = 5)) ks.length bs.length al.length al = G at hgr hgl hra hg0 hgA htk
  refine awp_seq (awp_seq (awp_rg mixed ?_))
  refine kc hgr ?_ (hin' := AllP.app ⟨rfl, rfl, rfl, rfl, trivial⟩ (FarEq.raw hF).all) (hout' := AllP.of fun p hp => .inl (List.mem_map.2 ⟨p, hp, rfl⟩)) (hok := callOkT hF (fun x hx => .inl (subset_spec (show subset _ _ = true from rfl) x hx)) gHl_refs)
  refine ak 2 [] rfl ?_
  refine az ?_
  refine AWp.sub (Sub.outsT hF) ?_
  refine awp_block ?_
  have hel : ∀ g ex, ∀ x ∈ R.refsL G.flatten, Kn ex (gHl f n (zNm (subG clr k) f nm s b ks bs g) t (zKs (subG clr k) f nm s b ks bs g) (zBs (subG clr k) f nm s b ks bs g) (zAs (subG clr k) s b al g)) (fam 0 (zAs (subG clr k) s b al g)) x := fun g ex x hx => by
    rcases hra x hx with h | h
    · exact .inr (.inl (by simpa [gHl, keys] using h))
    · exact .inr (.inr (by rw [fam_keys (hN3 g)]; exact h))
  have hTF : ∀ g, TF (fam 0 (zAs (subG clr k) s b al g)) := fun g => fam_tf
  refine awp_loop (fun g : Nat => mkt [(1, Go.AM.T s), (5, .one (.vp 5 0)), (6, .one (.vp 6 0)), (7, .one (.vp 700 0)), (35, .one (.ras G.length 2 G.flatten)), (36, I .i64 ((G.length : Nat) : Int)), (37, I .i64 g)] ([(5, .var 37 (cellsC b)), (6, .var 37 zCells)] ++ gHl f n (zNm (subG clr k) f nm s b ks bs g) t (zKs (subG clr k) f nm s b ks bs g) (zBs (subG clr k) f nm s b ks bs g) (zAs (subG clr k) s b al g)) (fam 0 (zAs (subG clr k) s b al g))) (fun g => g ≤ G.length) (fun g => G.length - g) 0 (Nat.zero_le _) (slG gW (fun _ h => by cases h) (FarEq.bif hF (FarEq.outs hF)) (h1 := Kn.app Kn.nil (Kn.app (Kn.of rfl) (Kn.app (Kn.of rfl) (Kn.app (Kn.of rfl) (Kn.app (hel 0 _) Kn.nil)))))) ?_
  intro g hg
  have hFg := hTF g
  refine awp_seq (ag [] rfl ?_)
  refine awp_seq (awp_cond rfl (fun hb => ?_) (fun hb => ?_))
  · have hlt : g < G.length := by
      have : (g : Int) < (G.length : Int) := of_decide_eq_true hb
      omega
    refine awp_skip ?_
    cases g with
    | zero =>
      have ht0 := htk 0 _ hg0
      have hm30 := hcB
      rw [m30] at hm30
      have hpsA : ∀ p ∈ ks ++ bs.map Bind.body, m30 p ≤ k ∧ m30 p ≤ Big ∧ wfE p = true ∧ allT TyG p := fun p hp => by
        have hck' := hck
        rw [m30] at hck'
        have h30 := w30_30 nm
        rw [allT] at hT
        obtain ⟨_, t2, t3, _⟩ := hT
        rcases List.mem_append.1 hp with hp | hp
        · have := m30s_mem hp
          exact ⟨by omega, by omega, w3 p hp, allTs_mem t2 p hp⟩
        · obtain ⟨x, hx, rfl⟩ := List.mem_map.1 hp
          have := m30b_mem hx
          exact ⟨by omega, by omega, w4 x hx, (allTb_mem t3 x hx).2⟩
      have hok := putOk_of hI hz0 ih (s := s) (b := b) hpsA hbB hwb hTb
      have hfm := fm_m30 (ks ++ bs.map Bind.body)
      rw [m30s_app] at hfm
      have hbsb := m30s_bs bs
      have hksl := m30s_len ks
      have hpfb := pf_m30 b
      by_cases hf5 : f = 5
      · have hd5 : decide (f = 5) = true := decide_eq_true hf5
        obtain ⟨⟨x, rfl⟩, rfl, rfl⟩ := w2 hf5
        subst hf5
        have hfx := fm_m30 [x]
        simp only [List.flatMap_cons, List.flatMap_nil, List.append_nil] at hfx
        have hx1 : m30s [x] ≤ Big := by omega
        obtain ⟨x', q, hq, hput⟩ := c_putL n t nm x s b (subG clr k) _ hok (by omega)
        have hgv : gvN 5 nm [] = [nm] := rfl
        have e1 : zNm (subG clr k) 5 nm s b [x] [] 1 = x' := by
          show (if (5 : Int) = 5 then (putR (subG clr k) s b (gvN 5 nm []) ([x] ++ [].map Bind.body)).1.headD nm else nm) = x'
          rw [if_pos rfl, hgv]
          show (putR (subG clr k) s b [nm] [x]).1.headD nm = x'
          rw [hq]; rfl
        have e2 : zKs (subG clr k) 5 nm s b [x] [] 1 = [q] := by
          show (putR (subG clr k) s b (gvN 5 nm []) ([x] ++ [].map Bind.body)).2.take 1 = [q]
          rw [hgv]
          show (putR (subG clr k) s b [nm] [x]).2.take 1 = [q]
          rw [hq]; rfl
        have e3 : zBs (subG clr k) 5 nm s b [x] [] 1 = [] := rfl
        have e4 : zAs (subG clr k) s b [] 1 = [] := rfl
        refine awp_seq (awp_block (awp_seq (ag [(0, .rowR 0 (g0Row true 1 0))] rfl ?_)))
        refine awp_rg mixed ?_
        refine ak 3 [] rfl ?_
        refine kc hput ?_
        refine az ?_
        refine ag [] rfl ?_
        refine ⟨1, hlt, by dsimp only; omega, ?_⟩
        have hel1 := hel 1
        rw [e1, e2, e3, e4] at hel1
        dsimp only
        rw [e1, e2, e3, e4]
        exact slG gW (fun _ h => by cases h) (fun p hp => by cases hp) (h1 := Kn.app Kn.nil (Kn.app (Kn.of rfl) (Kn.app (Kn.of rfl) (Kn.app (Kn.of rfl) (Kn.app (hel1 _) Kn.nil)))))
      · have hd5 : decide (f = 5) = false := decide_eq_false hf5
        have hgv : gvN f nm bs = bs.map Bind.name := by unfold gvN; rw [if_neg hf5]; rfl
        have hput := c_putT (bs.map Bind.ty) ks.length (bs.map Bind.name) (ks ++ bs.map Bind.body) s b (subG clr k) _ (by simp) (by simp) hok (by simp only [List.length_map, List.length_append]; omega)
        have eH : tH (bs.map Bind.ty) ks.length (bs.map Bind.name) (ks ++ bs.map Bind.body) = [(701, .arr 73 15 (encBinds bs) 0), (702, .arr 37 10 (encCores ks) 0)] := by
          unfold tH
          rw [List.drop_left, List.take_left, mkB_id]
        rw [eH, hbsl] at hput
        have hr0 : g0Row (decide (f = 5)) ks.length bs.length = [.ras (tN bs.length).length 1 (tN bs.length), .ras (tP ks.length bs.length).length 1 (tP ks.length bs.length)] := g0_eq hd5
        rw [hr0] at hg0 ht0
        have eB : encBinds (zBs (subG clr k) f nm s b ks bs 1) = encBinds (mkB (bs.map Bind.ty) (putR (subG clr k) s b (bs.map Bind.name) (ks ++ bs.map Bind.body)).1 ((putR (subG clr k) s b (bs.map Bind.name) (ks ++ bs.map Bind.body)).2.drop ks.length)) := by
          show encBinds (mkB _ _ _) = _
          rw [hgv]
        have eK : encCores (zKs (subG clr k) f nm s b ks bs 1) = encCores ((putR (subG clr k) s b (bs.map Bind.name) (ks ++ bs.map Bind.body)).2.take ks.length) := by
          show encCores (List.take _ _) = _
          rw [hgv]
        have eN : zNm (subG clr k) f nm s b ks bs 1 = nm := by show (if f = 5 then _ else nm) = nm; rw [if_neg hf5]
        have eA : zAs (subG clr k) s b al 1 = al := altI_zero
        have l1 := hN1 1
        have l2 := hN2 1
        refine awp_seq (awp_block (awp_seq (ag [(0, .rowR 0 [.ras (tN bs.length).length 1 (tN bs.length), .ras (tP ks.length bs.length).length 1 (tP ks.length bs.length)])] rfl ?_)))
        refine awp_rg mixed ?_
        refine ak 3 [] rfl ?_
        refine kc hput ?_ (hok := ?_)
        refine az ?_
        refine ag [] rfl ?_
        refine ⟨1, hlt, by dsimp only; omega, ?_⟩
        have hel1 := hel 1
        dsimp only
        rw [eN, eA] at hel1 ⊢
        refine slG gW (fun _ h => by cases h) (by repeat (first | exact FarEq.raw hF | (refine FarEq.updL hF ?_) | (refine FarEq.upd hF ?_))) (h1 := Kn.app Kn.nil (Kn.app (Kn.of rfl) (Kn.app (Kn.of rfl) (Kn.app (Kn.of rfl) (Kn.app (hel1 _) Kn.nil))))) (hh := ⟨⟨_, rfl, .varS rfl⟩, ⟨_, rfl, .varS rfl⟩, ⟨_, rfl, .varS ?_⟩, ⟨_, rfl, .arrS ?_⟩, ⟨_, rfl, .arrS ?_⟩, ⟨_, rfl, .rarrS rfl⟩, trivial⟩)
        · rw [l1, l2]; rfl
        · exact eB.symm
        · exact eK.symm
        · refine callOkT (F := []) ⟨fun _ h => (by cases h), List.nodup_nil, fun _ h => (by cases h)⟩ (fun x hx => .inl ?_) (fun x hx => by cases hx)
          have hx : x ∈ (grO (tN bs.length) (tP ks.length bs.length)).refs := by simpa [grO, gpV, AObj.refs, V.refsL, V.refs, R.refsL, R.refs] using hx
          rcases tG_refs x hx with rfl | rfl
          · simp [keys]
          · simp [keys]
    | succ i =>
      have hia : i < al.length := by omega
      obtain ⟨a, hai⟩ := get_of_lt hia
      have ht0 := htk (i + 1) _ (hgA i a hai)
      have hm := List.mem_of_getElem? hai
      have hm30 := hcB
      rw [m30] at hm30
      have h30a := m30a_mem hm
      have h30v := sum_len a.vars
      have h30p := pf_m30 a.body
      have hpfb := pf_m30 b
      have hok := putOk_of hI hz0 ih (s := s) (b := b) (ps := [a.body]) (fun p hp => by
        have hck' := hck
        rw [m30] at hck'
        have h30 := w30_30 nm
        rw [allT] at hT
        rw [List.mem_singleton.1 hp]
        exact ⟨by omega, by omega, w5 a hm, allTa_mem hT.2.2.2 a hm⟩) hbB hwb hTb
      have hz1 : zAs (subG clr k) s b al (i + 1) = altI (subG clr k) s b al i := rfl
      have hz2 : zAs (subG clr k) s b al (i + 1 + 1) = (altI (subG clr k) s b al i).set i (newA (subG clr k) s b a) := altI_succ hai
      have hz3 : zNm (subG clr k) f nm s b ks bs (i + 1 + 1) = zNm (subG clr k) f nm s b ks bs (i + 1) := rfl
      have hz4 : zKs (subG clr k) f nm s b ks bs (i + 1 + 1) = zKs (subG clr k) f nm s b ks bs (i + 1) := rfl
      have hz5 : zBs (subG clr k) f nm s b ks bs (i + 1 + 1) = zBs (subG clr k) f nm s b ks bs (i + 1) := rfl
      obtain ⟨q, hq, hput⟩ := c_putAi (altI (subG clr k) s b al i) i a (altI_at hai) s b (subG clr k) _ hok (by omega) (vR i a.vars.length a.vars.length).length (rgR_len _ _) al.length altI_len.symm
      have hnew : (Alt.mk a.form a.n a.name (putR (subG clr k) s b a.vars [a.body]).1 q) = newA (subG clr k) s b a := by unfold newA; rw [hq]; rfl
      rw [hnew] at hput
      have hvl : (vR i a.vars.length a.vars.length).length = a.vars.length := rgR_len _ _
      have hel2 := hel (i + 1 + 1)
      have hTF2 := hTF (i + 1 + 1)
      have hA3 := hN3 (i + 1 + 1)
      rw [hz2] at hel2 hTF2 hA3
      rw [hz3, hz4, hz5] at hel2
      have hA4 : (altI (subG clr k) s b al i).length = al.length := altI_len
      generalize hNm : zNm (subG clr k) f nm s b ks bs (i + 1) = nm1 at *
      generalize hKs : zKs (subG clr k) f nm s b ks bs (i + 1) = ks1 at *
      generalize hBs : zBs (subG clr k) f nm s b ks bs (i + 1) = bs1 at *
      rw [hz1] at hFg ⊢
      have halR : alRow al.length i a = [.ras (vR i a.vars.length a.vars.length).length 1 (vR i a.vars.length a.vars.length).flatten, .ras 1 1 [.rp 703 i 4 al.length]] := rfl
      rw [halR] at ht0
      rw [hvl] at ht0 hput
      refine awp_seq (awp_block (awp_seq (ag [(0, .rowR (i + 1) [.ras a.vars.length 1 (vR i a.vars.length a.vars.length).flatten, .ras 1 1 [.rp 703 i 4 al.length]])] rfl ?_)))
      refine awp_rg mixed ?_
      refine ak 3 [] rfl ?_
      refine kc hput ?_ (hin' := ⟨rfl, FarEq.all (by repeat (first | exact FarEq.raw hFg | (refine FarEq.updL hFg ?_) | (refine FarEq.upd hFg ?_)))⟩) (hout' := ?_) (hok := ?_)
      · have hcons : ∀ (o : AObj) (F : List (Nat × AObj)), ((703, o) :: F) = [(703, o)] ++ F := fun _ _ => rfl
        rw [hcons, far_outs hTF2]
        refine az ?_
        refine ag [] rfl ?_
        refine ⟨i + 1 + 1, by omega, by dsimp only; omega, ?_⟩
        dsimp only
        rw [hz2, hz3, hz4, hz5]
        refine slG gW (fun _ h => by cases h) (FarEq.bif hTF2 (FarEq.outs hTF2)) (h1 := Kn.app Kn.nil (Kn.app (Kn.of rfl) (Kn.app (Kn.of rfl) (Kn.app (Kn.of rfl) (Kn.app (hel2 _) Kn.nil))))) (hh := ⟨⟨_, rfl, .varS rfl⟩, ⟨_, rfl, .varS rfl⟩, ⟨_, rfl, .varS ?_⟩, ⟨_, rfl, .arr⟩, ⟨_, rfl, .arr⟩, ⟨_, rfl, .rarrS rfl⟩, trivial⟩)
        rw [hA3, hA4]
      · refine AllP.of fun p hp => .inl ?_
        have hp1 : p.1 ∈ keys ((703, AObj.rarr 78 14 (altRows 0 ((altI (subG clr k) s b al i).set i (newA (subG clr k) s b a)))) :: fam 0 ((altI (subG clr k) s b al i).set i (newA (subG clr k) s b a))) := List.mem_map.2 ⟨p, hp, rfl⟩
        show p.1 ∈ 703 :: keys (fam 0 (altI (subG clr k) s b al i))
        rw [fam_keys (m := (altI (subG clr k) s b al i).set i (newA (subG clr k) s b a)) (by rw [List.length_set])]
        exact hp1
      · refine callOkT (hl := [(703, .rarr 78 14 (altRows 0 (altI (subG clr k) s b al i)))]) hFg (fun x hx => ?_) (fun x hx => .inr (altRows_refs x (by simpa [refsH, AObj.refs] using hx)))
        have hx : x ∈ R.refsL (vR i a.vars.length a.vars.length).flatten ++ [703] := by simpa [V.refsL, V.refs, R.refsL, R.refs] using hx
        rcases List.mem_append.1 hx with hx | hx
        · rw [refsL_flat] at hx
          have := rgR_refs (L := fun x => x = i + 800) (fun j x hx => by simpa [R.refsL, R.refs] using hx) _ x hx
          rw [this]
          have hk := fam_key (l := altI (subG clr k) s b al i) (k := 0) (i := i) (by omega)
          rw [Nat.zero_add] at hk
          exact .inr hk
        · rw [List.mem_singleton.1 hx]; exact .inl (by simp [keys])
  have hge : g = 1 + al.length := by
    have : ¬ (g : Int) < (G.length : Int) := of_decide_eq_false hb
    omega
  have hgs : g = al.length + 1 := by omega
  subst hgs
  clear hge hb
  have e : subG clr (k + 1) (.mk f n nm t ks bs al) s b = .mk f n (zNm (subG clr k) f nm s b ks bs (al.length + 1)) t (zKs (subG clr k) f nm s b ks bs (al.length + 1)) (zBs (subG clr k) f nm s b ks bs (al.length + 1)) (zAs (subG clr k) s b al (al.length + 1)) := by
    rw [subG]
    show (if f = 1 ∧ nm = s then b else _) = _
    rw [if_neg hv, if_neg (fun h : (Core.mk f n nm t ks bs al).form = 7 ∧ _ => w1 h.1)]
    show Core.mk _ _ _ _ _ _ _ = Core.mk _ _ _ _ _ _ (altI (subG clr k) s b al al.length)
    rw [altI_end]
    rfl
  rw [e]
  have m1 := hN1 (al.length + 1)
  have m2 := hN2 (al.length + 1)
  have m3 := hN3 (al.length + 1)
  generalize zNm (subG clr k) f nm s b ks bs (al.length + 1) = nm1 at *
  generalize zKs (subG clr k) f nm s b ks bs (al.length + 1) = ks1 at *
  generalize zBs (subG clr k) f nm s b ks bs (al.length + 1) = bs1 at *
  generalize zAs (subG clr k) s b al (al.length + 1) = al1 at *
  refine awp_exit ?_
  refine AWp.sub (st2 := mkt [(6, .one (.vp 6 0)), (7, .one (.vp 700 0))] (oHl ks1 bs1 al1 ++ [(700, .var 37 (cellsG f n nm1 t ks1.length bs1.length al1.length)), (6, .var 37 zCells)]) (fam 0 al1)) (slT hFg (by repeat (first | exact FarEq.raw hFg | (refine FarEq.updL hFg ?_) | (refine FarEq.upd hFg ?_))) (fun x hx => .inl (subset_spec (show subset _ _ = true from rfl) x hx)) (fun x hx => ?_) (fun _ h => by cases h)) ?_
  · rw [refsH_app] at hx
    rcases List.mem_append.1 hx with hx | hx
    · exact .inr (altRows_refs x (by simpa [oHl, refsH, AObj.refs] using hx))
    · refine .inl ?_
      have hx : x = 702 ∨ x = 701 ∨ x = 703 := by simpa [refsH, AObj.refs, cellsG, zCells, R.refsL, R.refs] using hx
      rcases hx with rfl | rfl | rfl <;> simp [oHl, keys]
  refine AWp.sub (sub_freeze (by simp [keys]) (Kn.of rfl) ⟨Kn.of rfl, Kn.of rfl, trivial⟩ (fun _ h => by cases h) rfl rfl (by simp) (fun p hp => by
    rcases List.mem_cons.1 hp with rfl | hp
    · rfl
    · rw [List.mem_singleton.1 hp]; rfl)) ?_
  have e1 : fzH 703 (.ra al1.length 14 (altRows 0 al1).flatten) ([(701, .arr 73 15 (encBinds bs1) 2), (702, .arr 37 10 (encCores ks1) 2)] ++ [(700, .var 37 (cellsG f n nm1 t ks1.length bs1.length al1.length)), (6, .var 37 zCells)])
      = [(701, .arr 73 15 (encBinds bs1) 2), (702, .arr 37 10 (encCores ks1) 2), (700, .var 37 (cellsZ f n nm1 t ks1.length bs1.length al1)), (6, .var 37 zCells)] := by
    unfold cellsG cellsZ
    show [(701, _), (702, _), (700, AObj.var _ (R.fzL _ _ _)), (6, AObj.var _ (R.fzL _ _ _))] = _
    simp only [R.fzL, R.fz, Nat.beq_refl, if_true, Bool.and_self]
    rfl
  rw [e1]
  have hFz : TF (frzF (fam 0 al1)) := hFg.frz
  obtain ⟨ids, hp⟩ := pure_core (h := (mkt [] [(701, .arr 73 15 (encBinds bs1) 2), (702, .arr 37 10 (encCores ks1) 2), (700, .var 37 (cellsZ f n nm1 t ks1.length bs1.length al1)), (6, .var 37 zCells)] (frzF (fam 0 al1))).h) (f := f) (n := n) (s := nm1) (t := t) (ks := ks1) (bs := bs1) (al := al1) rfl rfl (FarEq.mkt hFz rfl)
  refine AWp.sub (Sub.varPure (x := 700) rfl hp) ?_
  refine awp_seq (ag [] rfl ?_)
  exact awp_ret (rtC trw)
/-- Core put in the place of a name, where no types are given. -/
theorem c_subst {clr : Core → List Str → Core} (hI : ItoaTo 20000000000) (hz0 : TyG zTy) : ∀ k, SubOk clr k
  | 0 => fun c _ _ h => by have := m30_pos c; omega
  | k + 1 => c_subst_step hI hz0 (c_subst hI hz0 k)
end Go.Proofs.YtmoekkcdkjopgaaGreatDoor

/- TYPES' VARIABLES that are free in core (core.Types), whatever the core. -/
namespace Go.Proofs.YtmoekkcdkjopgaaGreatDoor
open Go Go.AM
set_option maxRecDepth 20000
set_option maxHeartbeats 4000000
def tyOne (f : Int) (s : Str) (o : List Str) (x : Str) : List Str := if ¬ f = 7 ∨ ¬ x = s then morR o [x] else o
def tyIn (f : Int) (s : Str) (o l : List Str) : List Str := l.foldl (tyOne f s) o
mutual
def tyR : Core → List Str
  | .mk f _ s t ks bs al => tyAs al (tyBs bs (tyKs f s ks (morR [] (tfR t))))
def tyKs (f : Int) (s : Str) : List Core → List Str → List Str
  | [], o => o
  | c :: l, o => tyKs f s l (tyIn f s o (tyR c))
def tyBs : List Bind → List Str → List Str
  | [], o => o
  | .mk _ t c :: l, o => tyBs l (morR (morR o (tfR t)) (tyR c))
def tyAs : List Alt → List Str → List Str
  | [], o => o
  | .mk _ _ _ _ c :: l, o => tyAs l (morR o (tyR c))
/-- How great core is, types and all. -/
def cT : Core → Nat
  | .mk _ _ _ t ks bs al => tn t + cTks ks + cTbs bs + cTas al
def cTks : List Core → Nat
  | [] => 0
  | c :: l => cT c + cTks l
def cTbs : List Bind → Nat
  | [] => 0
  | .mk _ t c :: l => tn t + cT c + cTbs l
def cTas : List Alt → Nat
  | [] => 0
  | .mk _ _ _ _ c :: l => cT c + cTas l
end
theorem tyOne_len (f : Int) (s : Str) (o : List Str) (x : Str) : (tyOne f s o x).length ≤ o.length + 1 := by
  unfold tyOne; split
  · exact morR_len o [x]
  · omega
theorem tyIn_len (f : Int) (s : Str) : ∀ (l o : List Str), (tyIn f s o l).length ≤ o.length + l.length
  | [], o => Nat.le_refl _
  | x :: l, o => by
    have h1 := tyIn_len f s l (tyOne f s o x)
    have h2 := tyOne_len f s o x
    show (tyIn f s (tyOne f s o x) l).length ≤ _
    rw [List.length_cons]; omega
mutual
theorem ty_len : ∀ c : Core, (tyR c).length ≤ cT c
  | .mk f n s t ks bs al => by
    rw [tyR, cT]
    have h0 := tf_len t
    have h1 := morR_len [] (tfR t)
    have h2 := tyk_len f s ks (morR [] (tfR t))
    have h3 := tyb_len bs (tyKs f s ks (morR [] (tfR t)))
    have h4 := tya_len al (tyBs bs (tyKs f s ks (morR [] (tfR t))))
    simp only [List.length_nil] at h1
    omega
theorem tyk_len (f : Int) (s : Str) : ∀ (l : List Core) (o : List Str), (tyKs f s l o).length ≤ o.length + cTks l
  | [], o => by rw [tyKs, cTks]; exact Nat.le_refl _
  | c :: l, o => by
    rw [tyKs, cTks]
    have h1 := tyk_len f s l (tyIn f s o (tyR c))
    have h2 := tyIn_len f s (tyR c) o
    have h3 := ty_len c
    omega
theorem tyb_len : ∀ (l : List Bind) (o : List Str), (tyBs l o).length ≤ o.length + cTbs l
  | [], o => by rw [tyBs, cTbs]; exact Nat.le_refl _
  | .mk s t c :: l, o => by
    rw [tyBs, cTbs]
    have h1 := tyb_len l (morR (morR o (tfR t)) (tyR c))
    have h2 := morR_len (morR o (tfR t)) (tyR c)
    have h3 := morR_len o (tfR t)
    have h4 := ty_len c
    have h5 := tf_len t
    omega
theorem tya_len : ∀ (l : List Alt) (o : List Str), (tyAs l o).length ≤ o.length + cTas l
  | [], o => by rw [tyAs, cTas]; exact Nat.le_refl _
  | .mk f n s v c :: l, o => by
    rw [tyAs, cTas]
    have h1 := tya_len l (morR o (tyR c))
    have h2 := morR_len o (tyR c)
    have h3 := ty_len c
    omega
end
theorem tyk_snoc {f : Int} {s : Str} : ∀ {l : List Core} {o : List Str} {i : Nat} {c : Core}, l[i]? = some c → tyKs f s (l.take (i + 1)) o = tyIn f s (tyKs f s (l.take i) o) (tyR c)
  | d :: l, o, 0, c, h => by simp at h; subst h; rw [List.take_succ_cons, List.take_zero, List.take_zero, tyKs, tyKs, tyKs]
  | d :: l, o, i + 1, c, h => by rw [List.take_succ_cons, List.take_succ_cons, tyKs, tyKs]; exact tyk_snoc (l := l) (by simpa using h)
theorem tyb_snoc : ∀ {l : List Bind} {o : List Str} {i : Nat} {b : Bind}, l[i]? = some b → tyBs (l.take (i + 1)) o = morR (morR (tyBs (l.take i) o) (tfR b.ty)) (tyR b.body)
  | .mk s t c :: l, o, 0, b, h => by simp at h; subst h; rw [List.take_succ_cons, List.take_zero, List.take_zero, tyBs, tyBs, tyBs]; rfl
  | .mk s t c :: l, o, i + 1, b, h => by rw [List.take_succ_cons, List.take_succ_cons, tyBs, tyBs]; exact tyb_snoc (l := l) (by simpa using h)
theorem tya_snoc : ∀ {l : List Alt} {o : List Str} {i : Nat} {a : Alt}, l[i]? = some a → tyAs (l.take (i + 1)) o = morR (tyAs (l.take i) o) (tyR a.body)
  | .mk f n s v c :: l, o, 0, a, h => by simp at h; subst h; rw [List.take_succ_cons, List.take_zero, List.take_zero, tyAs, tyAs, tyAs]; rfl
  | .mk f n s v c :: l, o, i + 1, a, h => by rw [List.take_succ_cons, List.take_succ_cons, tyAs, tyAs]; exact tya_snoc (l := l) (by simpa using h)
theorem tyIn_snoc {f : Int} {s : Str} {o l : List Str} {j : Nat} {x : Str} (h : l[j]? = some x) : tyIn f s o (l.take (j + 1)) = tyOne f s (tyIn f s o (l.take j)) x := by
  unfold tyIn; rw [List.take_add_one, h, List.foldl_append]; rfl
end Go.Proofs.YtmoekkcdkjopgaaGreatDoor

/- TYPES' VARIABLES that are free in core (core.Types): the walk. -/
namespace Go.Proofs.YtmoekkcdkjopgaaGreatDoor
open Go Go.AM
set_option maxRecDepth 20000
set_option maxHeartbeats 4000000
theorem cTks_take : ∀ (l : List Core) (i : Nat), cTks (l.take i) ≤ cTks l
  | [], i => by simp
  | c :: l, 0 => by rw [List.take_zero, cTks]; omega
  | c :: l, i + 1 => by rw [List.take_succ_cons, cTks, cTks]; have := cTks_take l i; omega
theorem cTbs_take : ∀ (l : List Bind) (i : Nat), cTbs (l.take i) ≤ cTbs l
  | [], i => by simp
  | .mk s t c :: l, 0 => by rw [List.take_zero, cTbs]; omega
  | .mk s t c :: l, i + 1 => by rw [List.take_succ_cons, cTbs, cTbs]; have := cTbs_take l i; omega
theorem cTas_take : ∀ (l : List Alt) (i : Nat), cTas (l.take i) ≤ cTas l
  | [], i => by simp
  | .mk f n s v c :: l, 0 => by rw [List.take_zero, cTas]; omega
  | .mk f n s v c :: l, i + 1 => by rw [List.take_succ_cons, cTas, cTas]; have := cTas_take l i; omega
theorem cTks_mem : ∀ {l : List Core} {c : Core}, c ∈ l → cT c ≤ cTks l
  | d :: l, c, h => by
    rw [cTks]
    rcases List.mem_cons.1 h with rfl | h
    · omega
    · have := cTks_mem h; omega
theorem cTbs_mem : ∀ {l : List Bind} {b : Bind}, b ∈ l → cT b.body + tn b.ty ≤ cTbs l
  | .mk s t c :: l, b, h => by
    rw [cTbs]
    rcases List.mem_cons.1 h with rfl | h
    · show cT c + tn t ≤ _; omega
    · have := cTbs_mem h; omega
theorem cTas_mem : ∀ {l : List Alt} {a : Alt}, a ∈ l → cT a.body ≤ cTas l
  | .mk f n s v c :: l, a, h => by
    rw [cTas]
    rcases List.mem_cons.1 h with rfl | h
    · show cT c ≤ _; omega
    · have := cTas_mem h; omega
def TySpec (c : Core) : Prop := csize c ≤ 1000000000 → cT c ≤ 1000000000 → ImpC Tryz.prog 61 [.pa (encCore c)] [] (strsV (tyR c)) []
theorem c_ctypes_step (c : Core) (ih : ∀ x, csize x < csize c → TySpec x) : TySpec c := by
  intro hsz hcT
  obtain ⟨f, n, s, t, ks, bs, al⟩ := c
  obtain ⟨ihk, ihb, iha, hkl, hbl, hal⟩ := @size_in f n s t ks bs al
  rw [cT] at hcT
  rw [tyR]
  have hkB : (encBinds bs).length = bs.length := by rw [encBinds_map, List.length_map]
  have hkK : (encCores ks).length = ks.length := by rw [encCores_map, List.length_map]
  have hkA : (encAlts al).length = al.length := by rw [encAlts_map, List.length_map]
  have htf := c_tfreeG (tn t) t (Nat.le_refl _) (by omega)
  have htl := tf_len t
  have hmo : ImpC Tryz.prog 124 [.one (.c .nl), strsV (tfR t)] [] (ouV (morR [] (tfR t))) [(500, ouO (morR [] (tfR t)))] := ImpC.nilArg (pre := []) (post := [strsV (tfR t)]) (hin := []) (c_more [] (tfR t) (by simp; omega)) rfl
  have hol := morR_len [] (tfR t)
  simp only [List.length_nil] at hol
  generalize morR [] (tfR t) = o0 at hmo hol ⊢
  refine impC (n := 76) tok Tryz.func61 rfl rfl rfl ?_
  refine awp_seq (ag [] rfl ?_)
  refine awp_seq (awp_rg mixed ?_)
  refine ak 2 [] rfl ?_
  refine kc htf ?_
  refine kc hmo ?_
  refine ak 1 [] rfl ?_
  refine az ?_
  refine awp_seq (awp_seq (ag [] rfl ?_))
  refine awp_block ?_
  refine awp_loop (fun i : Nat => mk [(1, .one (.vp 1 0)), (3, ouV (tyKs f s (ks.take i) o0)), (17, .one (.c (.sl 10 (encCores ks)))), (18, I .i64 ((encCores ks).length : Int)), (19, I .i64 i)] [(500, ouO (tyKs f s (ks.take i) o0)), (1, .var 37 (cellsC (.mk f n s t ks bs al)))]) (fun i => i ≤ ks.length) (fun i => ks.length - i) 0 (Nat.zero_le _) sl ?_
  intro i hi
  have hl1 := tyk_len f s (ks.take i) o0
  have hl2 := cTks_take ks i
  refine awp_seq (ag [] rfl ?_)
  refine awp_seq (awp_cond rfl (fun hb => ?_) (fun hb => ?_))
  · have hlt := ltD hb hkK
    obtain ⟨k, hki⟩ := get_of_lt hlt
    have hki' := encCores_at hki
    have hm := List.mem_of_getElem? hki
    have hkm := cTks_mem hm
    have hc := ih k (ihk k hm) (by have := ihk k hm; omega) (by omega)
    have hkt := ty_len k
    have hst := tyk_snoc (f := f) (s := s) (o := o0) hki
    generalize tyKs f s (ks.take i) o0 = o at hst hl1 ⊢
    have hkf : ((tyR k).map encS).length = (tyR k).length := List.length_map _
    generalize tyR k = fk at hc hkt hst hkf
    refine awp_skip ?_
    refine awp_seq (awp_block (awp_seq (ag [(0, .row i (encCore k))] rfl ?_)))
    refine awp_seq (awp_rg mixed ?_)
    refine ak 1 [] rfl ?_
    refine kc hc ?_
    refine ak 2 [] rfl ?_
    refine az ?_
    refine awp_block ?_
    refine awp_loop (fun j : Nat => mk [(1, .one (.vp 1 0)), (3, ouV (tyIn f s o (fk.take j))), (17, .one (.c (.sl 10 (encCores ks)))), (18, I .i64 ((encCores ks).length : Int)), (19, I .i64 i), (24, strsV fk), (25, I .i64 ((fk.map encS).length : Int)), (26, I .i64 j)] [(500, ouO (tyIn f s o (fk.take j))), (1, .var 37 (cellsC (.mk f n s t ks bs al)))]) (fun j => j ≤ fk.length) (fun j => fk.length - j) 0 (Nat.zero_le _) sl ?_
    intro j hj
    refine awp_seq (ag [] rfl ?_)
    refine awp_seq (awp_cond rfl (fun hb => ?_) (fun hb => ?_))
    · have hlj := ltD hb hkf
      obtain ⟨x, hx⟩ := get_of_lt hlj
      have hx' := getEnc encS hx
      have hsn := tyIn_snoc (f := f) (s := s) (o := o) hx
      have hpl := tyIn_len f s (fk.take j) o
      rw [List.length_take] at hpl
      generalize tyIn f s o (fk.take j) = q at hsn hpl ⊢
      have hmq := c_more q [x] (by simp; omega)
      refine awp_skip ?_
      refine awp_seq (awp_block (awp_seq (ag [(0, .row j (encS x))] rfl ?_)))
      refine awp_seq (agF 4 [] rfl rfl rfl ?_)
      refine awp_cond rfl (fun hb => ?_) (fun hb => ?_)
      · have hb' : ¬ f = 7 ∨ ¬ x = s := by
          by_cases h7 : f = 7
          · refine .inr fun hxs => ?_
            subst h7 hxs
            have hb2 : (bif !decide ((7 : Int) = 7) then true else !decide (x = x)) = true := hb
            simp at hb2
          · exact .inl h7
        rw [tyOne, if_pos hb'] at hsn
        refine awp_rg mixed ?_
        refine ak 3 [(2, .all)] rfl ?_
        refine kc hmq ?_
        refine ak 1 [] rfl ?_
        refine az ?_
        refine ag [] rfl ?_
        refine ⟨j + 1, hlj, by dsimp only; omega, ?_⟩
        dsimp only
        rw [hsn]
        exact sl
      · have hb' : ¬ (¬ f = 7 ∨ ¬ x = s) := by
          intro h
          by_cases h7 : f = 7
          · have hxs := h.resolve_left (fun h => h h7)
            subst h7
            simp at hb
            exact hxs hb.2
          · simp at hb
            exact h7 hb.1
        rw [tyOne, if_neg hb'] at hsn
        refine awp_skip ?_
        refine ag [] rfl ?_
        refine ⟨j + 1, hlj, by dsimp only; omega, ?_⟩
        dsimp only
        rw [hsn]
        exact sl
    have hge := geD hb hkf hj
    subst hge
    rw [List.take_length]
    refine awp_exit ?_
    refine ag [] rfl ?_
    refine ⟨i + 1, hlt, by dsimp only; omega, ?_⟩
    dsimp only
    rw [hst]
    exact sl
  have hge := geD hb hkK hi
  subst hge
  rw [List.take_length] at hl1 ⊢
  generalize tyKs f s ks o0 = o1 at hl1 ⊢
  refine awp_exit ?_
  refine awp_seq (awp_seq (ag [] rfl ?_))
  refine awp_block ?_
  refine awp_loop (fun i : Nat => mk [(1, .one (.vp 1 0)), (3, ouV (tyBs (bs.take i) o1)), (46, .one (.c (.sl 15 (encBinds bs)))), (47, I .i64 ((encBinds bs).length : Int)), (48, I .i64 i)] [(500, ouO (tyBs (bs.take i) o1)), (1, .var 37 (cellsC (.mk f n s t ks bs al)))]) (fun i => i ≤ bs.length) (fun i => bs.length - i) 0 (Nat.zero_le _) sl ?_
  intro i hi
  have hl3 := tyb_len (bs.take i) o1
  have hl4 := cTbs_take bs i
  refine awp_seq (ag [] rfl ?_)
  refine awp_seq (awp_cond rfl (fun hb => ?_) (fun hb => ?_))
  · have hlt := ltD hb hkB
    obtain ⟨b, hbi⟩ := get_of_lt hlt
    have hbi' := encBinds_at hbi
    have hm := List.mem_of_getElem? hbi
    have hbm := cTbs_mem hm
    have hc := ih b.body (ihb b hm) (by have := ihb b hm; omega) (by omega)
    have hst := tyb_snoc (o := o1) hbi
    obtain ⟨s', t', c'⟩ := b
    have hbm : cT c' + tn t' ≤ cTbs bs := hbm
    have hc : ImpC Tryz.prog 61 [.pa (encCore c')] [] (strsV (tyR c')) [] := hc
    have hst : tyBs (bs.take (i + 1)) o1 = morR (morR (tyBs (bs.take i) o1) (tfR t')) (tyR c') := hst
    have hf' := c_tfreeG (tn t') t' (Nat.le_refl _) (by omega)
    have g1 := tf_len t'
    have g2 := ty_len c'
    generalize tyBs (bs.take i) o1 = o at hst hl3 ⊢
    have g3 := morR_len o (tfR t')
    have m1 := c_more o (tfR t') (by omega)
    have m2 := c_more (morR o (tfR t')) (tyR c') (by omega)
    refine awp_skip ?_
    refine awp_seq (awp_block (awp_seq (ag [(0, .row i (encBind (.mk s' t' c')))] rfl ?_)))
    refine awp_rg mixed ?_
    refine ak 3 [] rfl ?_
    refine kc hf' ?_
    refine kc m1 ?_
    refine ak 2 [] rfl ?_
    refine kc hc ?_
    refine kc m2 ?_
    refine ak 1 [] rfl ?_
    refine az ?_
    refine ag [] rfl ?_
    refine ⟨i + 1, hlt, by dsimp only; omega, ?_⟩
    dsimp only
    rw [hst]
    exact sl
  have hge := geD hb hkB hi
  subst hge
  rw [List.take_length] at hl3 ⊢
  generalize tyBs bs o1 = o2 at hl3 ⊢
  refine awp_exit ?_
  refine awp_seq (awp_seq (ag [] rfl ?_))
  refine awp_block ?_
  refine awp_loop (fun i : Nat => mk [(3, ouV (tyAs (al.take i) o2)), (63, .one (.c (.sl 14 (encAlts al)))), (64, I .i64 ((encAlts al).length : Int)), (65, I .i64 i)] [(500, ouO (tyAs (al.take i) o2))]) (fun i => i ≤ al.length) (fun i => al.length - i) 0 (Nat.zero_le _) sl ?_
  intro i hi
  have hl5 := tya_len (al.take i) o2
  have hl6 := cTas_take al i
  refine awp_seq (ag [] rfl ?_)
  refine awp_seq (awp_cond rfl (fun hb => ?_) (fun hb => ?_))
  · have hlt := ltD hb hkA
    obtain ⟨a, hai⟩ := get_of_lt hlt
    have hai' := encAlts_at hai
    have hm := List.mem_of_getElem? hai
    have ham := cTas_mem hm
    have hc := ih a.body (iha a hm) (by have := iha a hm; omega) (by omega)
    have hst := tya_snoc (o := o2) hai
    obtain ⟨f', n', s', v', c'⟩ := a
    have ham : cT c' ≤ cTas al := ham
    have hc : ImpC Tryz.prog 61 [.pa (encCore c')] [] (strsV (tyR c')) [] := hc
    have hst : tyAs (al.take (i + 1)) o2 = morR (tyAs (al.take i) o2) (tyR c') := hst
    have g2 := ty_len c'
    generalize tyAs (al.take i) o2 = o at hst hl5 ⊢
    have m2 := c_more o (tyR c') (by omega)
    refine awp_skip ?_
    refine awp_seq (awp_block (awp_seq (ag [(0, .row i (encAlt (.mk f' n' s' v' c')))] rfl ?_)))
    refine awp_rg mixed ?_
    refine ak 3 [] rfl ?_
    refine kc hc ?_
    refine kc m2 ?_
    refine ak 1 [] rfl ?_
    refine az ?_
    refine ag [] rfl ?_
    refine ⟨i + 1, hlt, by dsimp only; omega, ?_⟩
    dsimp only
    rw [hst]
    exact sl
  have hge := geD hb hkA hi
  subst hge
  rw [List.take_length] at hl5 ⊢
  refine awp_exit ?_
  refine AWp.sub (Sub.freeze (id := 500) rfl) ?_
  refine awp_seq (ag [] rfl ?_)
  exact awp_ret (rtT (hc := hs_all rfl rfl (by simp) rfl))
theorem c_ctypes : ∀ (n : Nat) (c : Core), csize c ≤ n → TySpec c
  | 0, c, h => by have := csize_pos c; omega
  | n + 1, c, h => c_ctypes_step c fun x hx => c_ctypes n x (by omega)
end Go.Proofs.YtmoekkcdkjopgaaGreatDoor

/- TYPES PUT INTO CORE (1): what a type for all gives is turned (core.clear); a type's turn (core.SubstType$1). -/
namespace Go.Proofs.YtmoekkcdkjopgaaGreatDoor
open Go Go.AM
set_option maxRecDepth 20000
def vT (z : Str) : Ty := .mk 2 0 z []
theorem c_clearN (n : Int) (nm : Str) (t : Ty) (kid : Core) (far : List Str) (hfar : far.length ≤ 20000000000) (hno : ¬ nm ∈ far) :
    ImpC Tryz.prog 62 [.one (.vp 700 0), strsV far] (gHl 7 n nm t [kid] [] []) (.tup []) (gHl 7 n nm t [kid] [] []) := by
  have hct := c_contains far nm (by omega)
  rw [decide_eq_false hno] at hct
  refine impC (n := 44) tok Tryz.func62 rfl rfl rfl ?_
  refine awp_seq (awp_rg mixed ?_)
  refine ak 5 [] rfl ?_
  refine kc hct ?_
  refine az ?_
  refine awp_cond rfl (fun hb => by cases hb) (fun hb => ?_)
  refine awp_skip ?_
  exact ⟨.inl rfl, ⟨[], [], .nil, .nil, rfl⟩, ⟨⟨_, rfl, .var rfl⟩, ⟨_, rfl, .arr⟩, ⟨_, rfl, .arr⟩, ⟨_, rfl, .rarr rfl⟩, trivial⟩, rfl⟩
theorem c_clearY (n : Int) (nm : Str) (t : Ty) (kid kid' : Core) (far : List Str) (hfar : far.length ≤ 20000000000) (hin : nm ∈ far) (hI : ItoaTo 20000000000) (hty : ImpC Tryz.prog 61 [.pa (encCore kid)] [] (strsV (tyR kid)) []) (htl : far.length + (tyR kid).length ≤ 20000000000)
    (hs : ImpC Tryz.prog 23 [.pa (encCore kid), Go.AM.T nm, tyV (vT (freshR (far ++ tyR kid)))] [] (.pa (encCore kid')) []) :
    ImpC Tryz.prog 62 [.one (.vp 700 0), strsV far] (gHl 7 n nm t [kid] [] []) (.tup []) (gHl 7 n (freshR (far ++ tyR kid)) t [kid'] [] []) := by
  have hct := c_contains far nm (by omega)
  rw [decide_eq_true hin] at hct
  have hcl := c_clone_string (far.map encS) (by rw [List.length_map]; omega)
  have hfl : (far.map encS).length = far.length := List.length_map _
  have htl2 : ((tyR kid).map encS).length = (tyR kid).length := List.length_map _
  have hfr := c_fresh (far ++ tyR kid) (by rw [List.length_append]; omega) fun k hk => hI k (by rw [List.length_append] at hk; omega)
  generalize freshR (far ++ tyR kid) = z at hs hfr ⊢
  refine impC (n := 44) tok Tryz.func62 rfl rfl rfl ?_
  refine awp_seq (awp_rg mixed ?_)
  refine ak 5 [] rfl ?_
  refine kc hct ?_
  refine az ?_
  refine awp_cond rfl (fun hb => ?_) (fun hb => by cases hb)
  refine awp_seq (awp_rg mixed ?_)
  refine ak 1 [] rfl ?_
  refine kc hcl ?_
  refine ak 6 [(7, .row 0 (encCore kid))] rfl ?_
  refine kc hty ?_
  refine ak 1 [(9, .fz)] rfl ?_
  refine kc hfr ?_
  refine ak 1 [] rfl ?_
  refine az ?_
  refine awp_seq (awp_rg mixed ?_)
  refine ak 15 [(9, .row 0 (encCore kid))] rfl ?_
  refine kc (c_tvar z) ?_
  refine kc hs ?_
  refine ak 2 [(18, .row 0 (encCore kid))] rfl ?_
  refine az ?_
  refine ag [] rfl ?_
  exact ⟨.inl rfl, ⟨[], [], .nil, .nil, rfl⟩, ⟨⟨_, rfl, .var rfl⟩, ⟨_, rfl, .arr⟩, ⟨_, rfl, .arr⟩, ⟨_, rfl, .rarr rfl⟩, trivial⟩, rfl⟩
/-- A type of a part is put into. -/
theorem c_one (name : Str) (by_ t t' : Ty) (h : ImpC Tryz.prog 65 [tyV t, strsV [name], .one (.c (.sl 4 [encTy by_]))] [] (tyV t') []) :
    ImpC Tryz.prog 64 [tyV t, .one (.vp 4 0), .one (.vp 5 0)] [(4, .var 9 [.c (.str name)]), (5, .var 33 ((encTy by_).map R.c))] (tyV t') [(4, .var 9 [.c (.str name)]), (5, .var 33 ((encTy by_).map R.c))] := by
  refine impC (n := 11) tok Tryz.func64 rfl rfl rfl ?_
  refine awp_seq (ag [(0, .id 730), (1, .id 731)] rfl ?_)
  refine awp_seq (awp_rg mixed ?_)
  refine ak 5 [(2, .all), (4, .all)] rfl ?_
  refine kc h ?_
  refine ak 1 [] rfl ?_
  refine az ?_
  exact awp_ret (rtC trw)
end Go.Proofs.YtmoekkcdkjopgaaGreatDoor

/- TYPES PUT INTO CORE (2): core.SubstType, the walk. -/
namespace Go.Proofs.YtmoekkcdkjopgaaGreatDoor
open Go Go.AM
set_option maxRecDepth 20000
def asmST (ts : Ty → Ty) (sb : Core → Core) : Core → Core
  | .mk f n nm t ks bs al => .mk f n nm (ts t) (ks.map sb) (bs.map fun b => .mk b.name (ts b.ty) (sb b.body)) (al.map fun a => .mk a.form a.n a.name a.vars (sb a.body))
def tsB (ts : Ty → Ty) (b : Bind) : Bind := .mk b.name (ts b.ty) b.body
section
variable {α : Type} {g : α → α}
/-- The first j done, the rest not yet. -/
def mixL (g : α → α) (bs : List α) (j : Nat) : List α := (bs.take j).map g ++ bs.drop j
theorem mixL_len {bs : List α} {j : Nat} : (mixL g bs j).length = bs.length := by unfold mixL; simp; omega
theorem mixL_at {bs : List α} {j : Nat} {b : α} (h : bs[j]? = some b) : (mixL g bs j)[j]? = some b := by
  have hlt : j < bs.length := (List.getElem?_eq_some_iff.1 h).1
  unfold mixL
  rw [List.getElem?_append_right (by simp; omega), List.length_map, List.length_take, Nat.min_eq_left (by omega), Nat.sub_self, List.getElem?_drop, Nat.add_zero, h]
theorem mixL_succ {bs : List α} {j : Nat} {b : α} (h : bs[j]? = some b) : mixL g bs (j + 1) = (mixL g bs j).set j (g b) := by
  have hlt : j < bs.length := (List.getElem?_eq_some_iff.1 h).1
  unfold mixL
  rw [drop_at h, set_mid (by simp; omega), List.take_add_one, h]
  simp
theorem mixL_zero {bs : List α} : mixL g bs 0 = bs := by simp [mixL]
theorem mixL_end {bs : List α} : mixL g bs bs.length = bs.map g := by simp [mixL]
theorem mixL_ge {bs : List α} {j : Nat} (h : bs.length ≤ j) : mixL g bs j = bs.map g := by unfold mixL; rw [List.take_of_length_le h, List.drop_eq_nil_of_le h, List.append_nil]
end
def sbB (sb : Core → Core) (b : Bind) : Bind := .mk b.name b.ty (sb b.body)
def sbA (sb : Core → Core) (a : Alt) : Alt := .mk a.form a.n a.name a.vars (sb a.body)
theorem altRows_set : ∀ {l : List Alt} {k i : Nat} {a : Alt}, altRows k (l.set i a) = (altRows k l).set i (encAltR (k + i) a)
  | [], _, _, _ => rfl
  | b :: l, k, 0, a => rfl
  | b :: l, k, i + 1, a => by
    simp only [List.set_cons_succ, altRows]
    rw [altRows_set (l := l) (k := k + 1), show k + 1 + i = k + (i + 1) by omega]
theorem fam_mixA (sb : Core → Core) : ∀ (l : List Alt) (k j : Nat), fam k (mixL (sbA sb) l j) = fam k l
  | [], _, _ => by simp [mixL]
  | a :: l, k, 0 => by rw [mixL_zero]
  | a :: l, k, j + 1 => by
    have e : mixL (sbA sb) (a :: l) (j + 1) = sbA sb a :: mixL (sbA sb) l j := rfl
    rw [e]
    show (k + 800, AObj.arr 9 1 (a.vars.map encS) 0) :: fam (k + 1) _ = _
    rw [fam_mixA sb l (k + 1) j]; rfl
/-- The end of core.Subst and core.SubstType: what is out's own becomes plain data. -/
theorem sub_core {f n : Int} {nm : Str} {t : Ty} {ks : List Core} {bs : List Bind} {al : List Alt} {r v : Nat}
    (hr : Nat.blt r 700 = true) (hv : Nat.blt v 700 = true) {st1 : St} (hF : FarEq st1.h (fam 0 al)) (he : AllP (fun p : Nat × V => st1.e p.1 = some (p.2.ren (fun i => i))) [(r, V.one (.vp r 0)), (v, V.one (.vp 700 0))])
    (hh : AllP (fun p : Nat × AObj => ∃ o, st1.h p.1 = some o ∧ Ole (fun i => i) o p.2) (gHl f n nm t ks bs al)) (h6 : ∃ o, st1.h r = some o ∧ Ole (fun i => i) o (.var 37 zCells)) (hd : st1.d = []) (hne : r ≠ v) :
    Sub [] (mk [(r, .one (.vp r 0)), (v, .one (.vp 700 0))] [(r, .var 37 zCells), (700, .var 37 (cellsC (.mk f n nm t ks bs al)))]) st1 := by
  have hr' := Nat.le_of_ble_eq_true hr
  have hv' := Nat.le_of_ble_eq_true hv
  have hTF : TF (fam 0 al) := fam_tf
  have hel : ∀ x ∈ refsE [(r, V.one (.vp r 0)), (v, V.one (.vp 700 0))], x = r ∨ x = 700 := fun x hx => by simpa [refsE, V.refs, R.refs] using hx
  have hdist : Go.AM.distinct (List.map (fun p : Nat × AObj => p.1) (oHl ks bs al ++ [(700, .var 37 (cellsG f n nm t ks.length bs.length al.length)), (r, .var 37 zCells)])) = true := by
    refine distinct_of ?_
    simp [oHl]
    omega
  have hnear : ((oHl ks bs al ++ [(700, AObj.var 37 (cellsG f n nm t ks.length bs.length al.length)), (r, .var 37 zCells)]).all fun p => Nat.blt p.1 800) = true := by
    simp [oHl, blt_t (show r < 800 by omega)]
  have s1 : Sub [] (mkt [(r, .one (.vp r 0)), (v, .one (.vp 700 0))] (oHl ks bs al ++ [(700, .var 37 (cellsG f n nm t ks.length bs.length al.length)), (r, .var 37 zCells)]) (fam 0 al)) st1 := by
    obtain ⟨h0, h1, h2, h3, _⟩ := hh
    refine slT hTF hF (fun x hx => .inl ?_) (fun x hx => ?_) (fun _ h => by cases h) (he := he) (hh := ⟨h1, h2, h3, h0, h6, trivial⟩) (hd := hd) (h3 := hdist) (h3' := hnear)
    · rcases hel x hx with rfl | rfl <;> simp [oHl, keys]
    · rw [refsH_app] at hx
      rcases List.mem_append.1 hx with hx | hx
      · exact .inr (altRows_refs x (by simpa [oHl, refsH, AObj.refs] using hx))
      · refine .inl ?_
        have hx : x = 702 ∨ x = 701 ∨ x = 703 := by simpa [refsH, AObj.refs, cellsG, zCells, R.refsL, R.refs] using hx
        rcases hx with rfl | rfl | rfl <;> simp [oHl, keys]
  have s2 := sub_freeze (kf := []) (el := [(r, .one (.vp r 0)), (v, .one (.vp 700 0))]) (ex := [(700, .var 37 (cellsG f n nm t ks.length bs.length al.length)), (r, .var 37 zCells)]) (ks := ks) (bs := bs) (al := al) (by simp)
    (fun x hx => by rcases hel x hx with rfl | rfl
                    · exact .inr (.inl (by simp [keys]))
                    · exact .inr (.inl (by simp [keys])))
    ⟨fun x hx => by
        have hx : x = 702 ∨ x = 701 ∨ x = 703 := by simpa [AObj.refs, cellsG, R.refsL, R.refs] using hx
        rcases hx with rfl | rfl | rfl <;> exact .inl (by simp [oHl, keys]), fun x hx => by simp [AObj.refs, zCells, R.refsL, R.refs] at hx, trivial⟩
    (fun _ h => by cases h) hdist (by simp [blt_t (show r < 800 by omega)]) (by simp; exact hne) (fun p hp => by
      rcases List.mem_cons.1 hp with rfl | hp
      · rfl
      · rw [List.mem_singleton.1 hp]; rfl)
  have e1 : fzH 703 (.ra al.length 14 (altRows 0 al).flatten) ([(701, .arr 73 15 (encBinds bs) 2), (702, .arr 37 10 (encCores ks) 2)] ++ [(700, .var 37 (cellsG f n nm t ks.length bs.length al.length)), (r, .var 37 zCells)])
      = [(701, .arr 73 15 (encBinds bs) 2), (702, .arr 37 10 (encCores ks) 2), (700, .var 37 (cellsZ f n nm t ks.length bs.length al)), (r, .var 37 zCells)] := by
    unfold cellsG cellsZ
    show [(701, _), (702, _), (700, AObj.var _ (R.fzL _ _ _)), (r, AObj.var _ (R.fzL _ _ _))] = _
    simp only [R.fzL, R.fz, Nat.beq_refl, if_true, Bool.and_self]
    rfl
  have e2 : fzE 703 (.ra al.length 14 (altRows 0 al).flatten) [(r, .one (.vp r 0)), (v, .one (.vp 700 0))] = [(r, .one (.vp r 0)), (v, .one (.vp 700 0))] := rfl
  rw [e1, e2] at s2
  have hFz : TF (frzF (fam 0 al)) := hTF.frz
  have hn4 : (([(701, AObj.arr 73 15 (encBinds bs) 2), (702, .arr 37 10 (encCores ks) 2), (700, .var 37 (cellsZ f n nm t ks.length bs.length al)), (r, .var 37 zCells)] : List (Nat × AObj)).all fun p => Nat.blt p.1 800) = true := by simp [blt_t (show r < 800 by omega)]
  obtain ⟨ids, hp⟩ := pure_core (h := (mkt [(r, .one (.vp r 0)), (v, .one (.vp 700 0))] [(701, .arr 73 15 (encBinds bs) 2), (702, .arr 37 10 (encCores ks) 2), (700, .var 37 (cellsZ f n nm t ks.length bs.length al)), (r, .var 37 zCells)] (frzF (fam 0 al))).h) (f := f) (n := n) (s := nm) (t := t) (ks := ks) (bs := bs) (al := al) rfl rfl (FarEq.mkt hFz hn4)
  have s3 := Sub.varPure (kf := []) (st := mkt [(r, .one (.vp r 0)), (v, .one (.vp 700 0))] [(701, .arr 73 15 (encBinds bs) 2), (702, .arr 37 10 (encCores ks) 2), (700, .var 37 (cellsZ f n nm t ks.length bs.length al)), (r, .var 37 zCells)] (frzF (fam 0 al))) (x := 700) (tv := 37) rfl hp
  refine Sub.trans ?_ (Sub.trans s3 (Sub.trans s2 s1))
  have n700 : r ≠ 700 := by omega
  refine Sub.list (fun i => i) ?_ ?_ ?_
  · have hrv : Nat.beq v r = false := beq_ne (Ne.symm hne)
    refine ⟨?_, ?_, trivial⟩
    · show Go.AM.look [(r, V.one (.vp r 0)), (v, V.one (.vp 700 0))] r = _
      rw [look_cons_same]; rfl
    · show Go.AM.look [(r, V.one (.vp r 0)), (v, V.one (.vp 700 0))] v = _
      rw [look_cons_ne (Ne.symm hne), look_cons_same]; rfl
  · refine ⟨⟨.var 37 zCells, ?_, .var rfl⟩, ⟨.var 37 (cellsC (.mk f n nm t ks bs al)), ?_, .var (ren_c _).symm⟩, trivial⟩
    · show upd _ 700 _ r = _
      rw [upd_ne _ _ _ n700]
      show (match Go.AM.look [(701, AObj.arr 73 15 (encBinds bs) 2), (702, .arr 37 10 (encCores ks) 2), (700, .var 37 (cellsZ f n nm t ks.length bs.length al)), (r, .var 37 zCells)] r with | some x => some x | none => _) = _
      rw [look_cons_ne (by omega), look_cons_ne (by omega), look_cons_ne (by omega), look_cons_same]
    · dsimp only
      rw [upd_same]
      rfl
  · simp only [mkOk, Bool.and_eq_true]
    refine ⟨⟨⟨⟨⟨subset_of fun x hx => ?_, subset_of fun x hx => ?_⟩, distinct_of ?_⟩, rfl⟩, rfl⟩, rfl⟩
    · rcases hel x hx with rfl | rfl <;> simp
    · have : x ∈ R.refsL zCells ++ (R.refsL (cellsC (.mk f n nm t ks bs al)) ++ []) := hx
      simp [zCells, cellsC, encCore, R.refsL, R.refs] at this
    · simp; exact n700
end Go.Proofs.YtmoekkcdkjopgaaGreatDoor
