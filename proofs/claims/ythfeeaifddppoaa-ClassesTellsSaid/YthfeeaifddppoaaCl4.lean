/-
  THE REFERENCE's Over, circle, Refused.
-/
import Derived.Test.YthfeeaifddppoaaCl3
namespace Go.Proofs.Ythfeeaifddppoaa
open Go Go.AM
set_option maxRecDepth 20000

def Small {α : Type} (l : List α) : Prop := l.length ≤ 1000000
theorem Small.fits {α : Type} {l : List α} (h : Small l) : Fits l := by unfold Small at h; unfold Fits; omega
structure PS (p : Prog) : Prop where
  cls : Small p.classes
  insts : Small p.insts
  sups : ∀ c ∈ p.classes, Small c.supers
  mets : ∀ c ∈ p.classes, Small c.methods
theorem PS.supersOf {p : Prog} (h : PS p) (s : Str) : Small (supersOf p s) := by
  unfold Go.Proofs.Ythfeeaifddppoaa.supersOf
  cases e : Go.Proofs.Ythfeeaifddppoaa.cls p s with
  | none => simp [zCls, Small]
  | some c => exact h.sups c (List.mem_of_find?_eq_some e)

def ostep (p : Prog) (x : List Str × List Str) (t : Str) : List Str × List Str := if (cls p t).isSome ∧ t ∉ x.1 then (x.1 ++ [t], x.2 ++ [t]) else x
def oclass (p : Prog) (x : List Str × List Str) (s : Str) : List Str × List Str := (supersOf p s).foldl (ostep p) x
def oround (p : Prog) (x : List Str × List Str) : List Str × List Str := x.2.foldl (oclass p) (x.1, [])
def iter {α : Type} (f : α → α) : Nat → α → α
  | 0, x => x
  | n + 1, x => f (iter f n x)
def over (p : Prog) (s : Str) : List Str := (iter (oround p) (p.classes.length + 1) ([], [s])).1

theorem nodup_len {α : Type} [DecidableEq α] : ∀ {l m : List α}, l.Nodup → (∀ x ∈ l, x ∈ m) → l.length ≤ m.length
  | [], _, _, _ => Nat.zero_le _
  | x :: l, m, hn, hs => by
    have hx : x ∈ m := hs x (by simp)
    rw [List.nodup_cons] at hn
    have ih := nodup_len (l := l) (m := m.erase x) hn.2 fun y hy => (List.mem_erase_of_ne (fun e => by rw [e] at hy; exact hn.1 hy)).2 (hs y (by simp [hy]))
    rw [List.length_erase_of_mem hx] at ih
    have : 0 < m.length := List.length_pos_of_mem hx
    simp only [List.length_cons]
    omega
theorem cls_some_mem {p : Prog} {s : Str} (h : (cls p s).isSome) : s ∈ p.classes.map (·.name) := by
  cases e : cls p s with
  | none => rw [e] at h; cases h
  | some c =>
    have h1 := List.mem_of_find?_eq_some e
    have h2 := List.find?_some e
    exact List.mem_map.2 ⟨c, h1, by simpa using h2⟩
/-- What is told has no name twice, and classes only. -/
structure OkO (p : Prog) (x : List Str × List Str) : Prop where
  nodup : x.1.Nodup
  cls : ∀ t ∈ x.1, (cls p t).isSome
  more : x.2.length ≤ x.1.length
theorem OkO.len {p : Prog} {x : List Str × List Str} (h : OkO p x) : x.1.length ≤ p.classes.length := by
  have := nodup_len h.nodup fun t ht => cls_some_mem (h.cls t ht)
  simpa using this
theorem OkO.step {p : Prog} {x : List Str × List Str} (h : OkO p x) (t : Str) : OkO p (ostep p x t) := by
  unfold ostep
  split
  · rename_i hc
    refine ⟨?_, ?_, ?_⟩
    · refine List.nodup_append.2 ⟨h.nodup, by simp, ?_⟩
      intro a ha b hb e
      simp at hb
      subst hb
      rw [e] at ha; exact hc.2 ha
    · intro u hu
      rcases List.mem_append.1 hu with hu | hu
      · exact h.cls u hu
      · simp at hu; rw [hu]; exact hc.1
    · have := h.more
      simp; omega
  · exact h
theorem OkO.steps {p : Prog} : ∀ (l : List Str) {x : List Str × List Str}, OkO p x → OkO p (l.foldl (ostep p) x)
  | [], _, h => h
  | t :: l, _, h => OkO.steps l (h.step t)
theorem OkO.classes {p : Prog} : ∀ (l : List Str) {x : List Str × List Str}, OkO p x → OkO p (l.foldl (oclass p) x)
  | [], _, h => h
  | _ :: l, _, h => OkO.classes l (OkO.steps _ h)
theorem fold_take {α β : Type} {f : β → α → β} {b : β} {l : List α} {k : Nat} {x : α} (hx : l[k]? = some x) : (l.take (k + 1)).foldl f b = f ((l.take k).foldl f b) x := by
  rw [List.take_add_one, hx, List.foldl_append]; rfl

theorem b54 : bodied Try.prog 54 := ⟨Try.f54, Try.func54, by decide, rfl⟩
theorem b36 : bodied Try.prog 36 := ⟨Try.f36, Try.func36, by decide, rfl⟩
theorem b11 : bodied Try.prog 11 := ⟨Try.f11, Try.func11, by decide, rfl⟩

theorem c54 (p : Prog) (s : Str) (hp : PS p) : ImpC Try.prog 54 [.pa (encProg p), Go.AM.T s] [] (.one (.c (.sl 1 ((over p s).map encS)))) [] := by
  have hl := hp.cls
  unfold Small at hl
  have hlf := hp.cls.fits
  refine impC (n := 87) tok Try.func54 rfl rfl rfl ?_
  refine awp_seq ?_
  refine awp_rg mixed ?_
  refine k_ (g_ rfl rfl (r_box 2 rfl rfl (lt_ rfl) rfl rfl rfl)) ?_
  refine k_ (g_ rfl rfl (r_assign rfl rfl (lt_ rfl) rfl)) ?_
  refine z_ rfl (by kernel_rfl) ?_
  refine awp_seq ?_
  refine awp_rg mixed ?_
  refine k_ (g_ rfl rfl (r_assign rfl rfl (lt_ rfl) rfl)) ?_
  refine z_ rfl (by kernel_rfl) ?_
  refine awp_seq ?_
  refine awp_rg mixed ?_
  refine k_ (g_ rfl rfl (r_move rfl rfl (lt_ rfl) rfl)) ?_
  refine k_ (g_ rfl rfl (r_slice 17 tok rfl rfl (lt_ rfl) t40 rfl t9 (.cons rfl rfl (.c .refl (.nil)) rfl (.nil)) rfl rfl rfl rfl)) ?_
  refine k_ (g_ rfl rfl (r_assign rfl rfl (lt_ rfl) rfl)) ?_
  refine z_ rfl (by kernel_rfl) ?_
  refine awp_seq ?_
  refine awp_seq ?_
  refine awp_rg mixed ?_
  refine k_ (g_ rfl rfl (r_assign rfl rfl (lt_ rfl) rfl)) ?_
  refine z_ rfl (by kernel_rfl) ?_
  refine AWp.sub (Sub.own (t := 5) (id := 5) 9 1 rfl rfl) ?_
  refine awp_block ?_   -- block 0
  refine awp_loop (fun x : Nat × List Str × List Str => mk [(2, .one (.vp 2 0)), (5, .one (.hs 5 0 x.2.1.length x.2.1.length)), (6, .one (.hs 6 0 x.2.2.length x.2.2.length)), (7, I .i64 x.1)] [(2, .var 28 ((encProg p).map R.c)), (5, .arr 9 1 (x.2.1.map encS) 1), (6, .arr 9 1 (x.2.2.map encS) 1)])
    (fun x => x.1 ≤ p.classes.length + 1 ∧ OkO p (x.2.1, []) ∧ x.2.2.length ≤ p.classes.length + 1 ∧ x.2 = iter (oround p) x.1 ([], [s])) (fun x => p.classes.length + 1 - x.1) (0, [], [s]) ⟨Nat.zero_le _, ⟨by simp, by simp, Nat.le_refl _⟩, by simp, rfl⟩
    (.list (fun i => if Nat.beq i 6 then 17 else i) ⟨rfl, rfl, rfl, rfl, trivial⟩ ⟨⟨_, rfl, .var rfl⟩, ⟨_, rfl, .arr1⟩, ⟨_, rfl, .arr1⟩, trivial⟩ rfl) ?_
  rintro ⟨n, out, next⟩ ⟨hn, hok, hnx, hit⟩
  dsimp only at hn hok hnx hit ⊢
  refine awp_seq ?_
  refine awp_seq ?_
  refine awp_rg mixed ?_
  refine k_ (g_ rfl rfl (r_move rfl rfl (lt_ rfl) rfl)) ?_
  refine k_ (g_ rfl rfl (by first | exact r_field_vp tok rfl rfl (lt_ rfl) t28 rfl rfl t24 (nz_ rfl) rfl | exact r_field_pt tok rfl rfl (lt_ rfl) t28 rfl rfl t24 (nz_ rfl) rfl | exact r_field_ep tok rfl rfl (lt_ rfl) t28 rfl rfl t24 (nz_ rfl) rfl rfl (by first | rfl | simp))) ?_
  refine k_ (g_ rfl rfl (by first | exact r_load tok rfl rfl (lt_ rfl) t24 rfl rfl rfl rfl | exact r_load_pt tok rfl rfl (lt_ rfl) t24 rfl (le_ rfl) rfl | exact r_load_ep tok rfl rfl (lt_ rfl) t24 rfl rfl (by first | rfl | simp) (by first | assumption | rfl) (le_ rfl) rfl)) ?_
  refine k_ (g_ rfl rfl (by first | exact r_len_sl tok rfl rfl (lt_ rfl) t24 rfl rfl | exact r_len_hs tok rfl rfl (lt_ rfl) t24 rfl rfl rfl (by first | rfl | simp) | exact r_len_nl tok rfl rfl (lt_ rfl) t24 rfl rfl | exact r_len_str tok rfl rfl (lt_ rfl) t24 rfl rfl)) ?_
  refine k_ (g_ rfl rfl (r_leq rfl rfl (lt_ rfl) rfl rfl)) ?_
  refine z_ rfl (by kernel_rfl) ?_
  refine awp_cond rfl (fun hb => ?_) (fun hb => ?_)
  · refine awp_skip ?_
    have hnle : n ≤ p.classes.length := by simpa using hb
    refine awp_seq ?_
    refine awp_block ?_   -- block 1
    refine awp_seq ?_
    refine awp_rg mixed ?_
    refine k_ (g_ rfl rfl (r_assign rfl rfl (lt_ rfl) rfl)) ?_
    refine z_ rfl (by kernel_rfl) ?_
    refine awp_seq ?_
    refine awp_seq ?_
    refine awp_rg mixed ?_
    refine k_ (g_ rfl rfl (r_assign rfl rfl (lt_ rfl) rfl)) ?_
    refine z_ rfl (by kernel_rfl) ?_
    refine AWp.sub (Sub.own (t := 8) (id := 8) 9 1 rfl rfl) ?_
    refine awp_block ?_   -- block 2
    refine awp_loop (fun x : Nat × List Str × List Str => mk [(2, .one (.vp 2 0)), (5, .one (.hs 5 0 x.2.1.length x.2.1.length)), (6, .one (.hs 6 0 next.length next.length)), (7, I .i64 n), (8, .one (.hs 8 0 x.2.2.length x.2.2.length)), (9, I .i64 x.1)] [(2, .var 28 ((encProg p).map R.c)), (5, .arr 9 1 (x.2.1.map encS) 1), (6, .arr 9 1 (next.map encS) 1), (8, .arr 9 1 (x.2.2.map encS) 1)])
      (fun x => x.1 ≤ next.length ∧ OkO p x.2 ∧ x.2 = (next.take x.1).foldl (oclass p) (out, [])) (fun x => next.length - x.1) (0, out, []) ⟨Nat.zero_le _, ⟨hok.1, hok.2, Nat.zero_le _⟩, by simp⟩
      (.list (fun i => i) ⟨rfl, rfl, rfl, rfl, rfl, rfl, trivial⟩ ⟨⟨_, rfl, .var rfl⟩, ⟨_, rfl, .arr1⟩, ⟨_, rfl, .arr1⟩, ⟨_, rfl, .arr1⟩, trivial⟩ rfl) ?_
    rintro ⟨i, out1, more1⟩ ⟨hi, hok1, hit1⟩
    dsimp only at hi hok1 hit1 ⊢
    refine awp_seq ?_
    refine awp_seq ?_
    refine awp_rg mixed ?_
    refine k_ (g_ rfl rfl (r_move rfl rfl (lt_ rfl) rfl)) ?_
    refine k_ (g_ rfl rfl (r_move rfl rfl (lt_ rfl) rfl)) ?_
    refine k_ (g_ rfl rfl (by first | exact r_len_sl tok rfl rfl (lt_ rfl) t40 rfl rfl | exact r_len_hs tok rfl rfl (lt_ rfl) t40 rfl rfl rfl (by first | rfl | simp) | exact r_len_nl tok rfl rfl (lt_ rfl) t40 rfl rfl | exact r_len_str tok rfl rfl (lt_ rfl) t40 rfl rfl)) ?_
    refine k_ (g_ rfl rfl (r_lss rfl rfl (lt_ rfl) rfl rfl)) ?_
    refine z_ rfl (by kernel_rfl) ?_
    refine awp_cond rfl (fun hb => ?_) (fun hb => ?_)
    · refine awp_skip ?_
      have hlt : i < next.length := by simpa using hb
      obtain ⟨x, hx⟩ := get_of_lt hlt
      have hx' : (next.map encS)[0 + i]? = some (encS x) := by rw [Nat.zero_add]; exact getEnc encS hx
      have hsup := hp.supersOf x
      unfold Small at hsup
      refine awp_seq ?_
      refine awp_block ?_   -- block 3
      refine awp_seq ?_
      refine awp_rg mixed ?_
      refine k_ (g_ rfl rfl (by first | exact r_load tok rfl rfl (lt_ rfl) t28 rfl rfl rfl rfl | exact r_load_pt tok rfl rfl (lt_ rfl) t28 rfl (le_ rfl) rfl | exact r_load_ep tok rfl rfl (lt_ rfl) t28 rfl rfl (by first | rfl | simp) (by first | assumption | rfl) (le_ rfl) rfl)) ?_
      refine k_ (g_ rfl rfl (r_move rfl rfl (lt_ rfl) rfl)) ?_
      refine k_ (g_ rfl rfl (r_move rfl rfl (lt_ rfl) rfl)) ?_
      refine k_ (g_ rfl rfl (by first | exact r_index tok rfl rfl (lt_ rfl) t40 rfl t9 rfl rfl rfl rfl (by first | assumption | rfl) | exact r_index_hs tok rfl rfl (lt_ rfl) t40 rfl t9 rfl rfl rfl (by first | rfl | simp) rfl rfl (by first | decide | omega | (simp; done) | (simp; omega)))) ?_
      refine k_ (g_ rfl rfl (by first | exact r_load tok rfl rfl (lt_ rfl) t9 rfl rfl rfl rfl | exact r_load_pt tok rfl rfl (lt_ rfl) t9 rfl (le_ rfl) rfl | exact r_load_ep tok rfl rfl (lt_ rfl) t9 rfl rfl (by first | rfl | simp) (by first | assumption | rfl) (le_ rfl) rfl)) ?_
      refine k_ (g_ rfl rfl (by exact r_call [] [] b26 rfl rfl (lt_ rfl) (c26 p x hlf) (.cons rfl (by first | exact .refl | exact .agg (by first | exact .of_pure | ((first | refine .hs rfl (by first | rfl | simp) (by first | rfl | (simp; done) | (simp [Go.AM.take_map]; done) | exact Go.AM.take_map.symm) ?_ | refine .c .refl ?_ | refine .c (Cle.nl (es := 5)) ?_); (first | refine .hs rfl (by first | rfl | simp) (by first | rfl | (simp; done) | (simp [Go.AM.take_map]; done) | exact Go.AM.take_map.symm) ?_ | refine .c .refl ?_ | refine .c (Cle.nl (es := 6)) ?_); (first | refine .hs rfl (by first | rfl | simp) (by first | rfl | (simp; done) | (simp [Go.AM.take_map]; done) | exact Go.AM.take_map.symm) ?_ | refine .c .refl ?_ | refine .c (Cle.nl (es := 6)) ?_); (first | refine .hs rfl (by first | rfl | simp) (by first | rfl | (simp; done) | (simp [Go.AM.take_map]; done) | exact Go.AM.take_map.symm) ?_ | refine .c .refl ?_ | refine .c (Cle.nl (es := 33)) ?_); exact .nil)) | exact .pa (by first | exact .of_pure | ((first | refine .hs rfl (by first | rfl | simp) (by first | rfl | (simp; done) | (simp [Go.AM.take_map]; done) | exact Go.AM.take_map.symm) ?_ | refine .c .refl ?_ | refine .c (Cle.nl (es := 5)) ?_); (first | refine .hs rfl (by first | rfl | simp) (by first | rfl | (simp; done) | (simp [Go.AM.take_map]; done) | exact Go.AM.take_map.symm) ?_ | refine .c .refl ?_ | refine .c (Cle.nl (es := 6)) ?_); (first | refine .hs rfl (by first | rfl | simp) (by first | rfl | (simp; done) | (simp [Go.AM.take_map]; done) | exact Go.AM.take_map.symm) ?_ | refine .c .refl ?_ | refine .c (Cle.nl (es := 6)) ?_); (first | refine .hs rfl (by first | rfl | simp) (by first | rfl | (simp; done) | (simp [Go.AM.take_map]; done) | exact Go.AM.take_map.symm) ?_ | refine .c .refl ?_ | refine .c (Cle.nl (es := 33)) ?_); exact .nil))) (.cons rfl .refl (.nil))) (by repeat (first | exact trivial | refine ⟨rfl, ?_⟩)) (by repeat (first | exact trivial | refine ⟨.inr rfl, ?_⟩ | refine ⟨.inl (by decide), ?_⟩)) rfl)) ?_
      refine k_ (g_ rfl rfl (r_move rfl rfl (lt_ rfl) rfl)) ?_
      refine k_ (g_ rfl rfl (r_extract rfl rfl (lt_ rfl) rfl rfl)) ?_
      refine k_ (g_ rfl rfl (r_extract rfl rfl (lt_ rfl) rfl rfl)) ?_
      refine k_ (g_ rfl rfl (r_alloc 10 tok rfl rfl (lt_ rfl) t66 rfl)) ?_
      refine k_ (g_ rfl rfl (by first | exact r_store tok rfl rfl t66 rfl rfl rfl rfl rfl rfl | exact r_store_ep tok rfl rfl t66 rfl rfl rfl rfl rfl (by first | rfl | simp) (by first | assumption | rfl) rfl (le_ rfl))) ?_
      refine k_ (g_ rfl rfl (r_assign rfl rfl (lt_ rfl) rfl)) ?_
      refine z_ rfl (by kernel_rfl) ?_
      refine awp_seq ?_
      refine awp_rg mixed ?_
      refine k_ (g_ rfl rfl (r_assign rfl rfl (lt_ rfl) rfl)) ?_
      refine z_ rfl (by kernel_rfl) ?_
      refine awp_block ?_   -- block 4
      refine awp_loop (fun y : Nat × List Str × List Str => mk [(2, .one (.vp 2 0)), (5, .one (.hs 5 0 y.2.1.length y.2.1.length)), (6, .one (.hs 6 0 next.length next.length)), (7, I .i64 n), (8, .one (.hs 8 0 y.2.2.length y.2.2.length)), (9, I .i64 i), (10, .one (.vp 10 0)), (12, I .i64 y.1)]
          [(2, .var 28 ((encProg p).map R.c)), (5, .arr 9 1 (y.2.1.map encS) 1), (6, .arr 9 1 (next.map encS) 1), (8, .arr 9 1 (y.2.2.map encS) 1), (10, .var 66 ((encCls ((cls p x).getD zCls)).map R.c))])
        (fun y => y.1 ≤ (supersOf p x).length ∧ OkO p y.2 ∧ y.2 = ((supersOf p x).take y.1).foldl (ostep p) (out1, more1)) (fun y => (supersOf p x).length - y.1) (0, out1, more1) ⟨Nat.zero_le _, hok1, by simp⟩
        (.list (fun i => i) ⟨rfl, rfl, rfl, rfl, rfl, rfl, rfl, rfl, trivial⟩ ⟨⟨_, rfl, .var rfl⟩, ⟨_, rfl, .arr1⟩, ⟨_, rfl, .arr1⟩, ⟨_, rfl, .arr1⟩, ⟨_, rfl, .var rfl⟩, trivial⟩ rfl) ?_
      rintro ⟨k, out2, more2⟩ ⟨hk, hok2, hit2⟩
      dsimp only at hk hok2 hit2 ⊢
      have hlen2 := hok2.len
      have hmor2 := hok2.more
      dsimp only at hlen2 hmor2
      refine awp_seq ?_
      refine awp_seq ?_
      refine awp_rg mixed ?_
      refine k_ (g_ rfl rfl (r_move rfl rfl (lt_ rfl) rfl)) ?_
      refine k_ (g_ rfl rfl (by first | exact r_field_vp tok rfl rfl (lt_ rfl) t66 rfl rfl t40 (nz_ rfl) rfl | exact r_field_pt tok rfl rfl (lt_ rfl) t66 rfl rfl t40 (nz_ rfl) rfl | exact r_field_ep tok rfl rfl (lt_ rfl) t66 rfl rfl t40 (nz_ rfl) rfl rfl (by first | rfl | simp))) ?_
      refine k_ (g_ rfl rfl (by first | exact r_load tok rfl rfl (lt_ rfl) t40 rfl rfl rfl rfl | exact r_load_pt tok rfl rfl (lt_ rfl) t40 rfl (le_ rfl) rfl | exact r_load_ep tok rfl rfl (lt_ rfl) t40 rfl rfl (by first | rfl | simp) (by first | assumption | rfl) (le_ rfl) rfl)) ?_
      refine k_ (g_ rfl rfl (by first | exact r_len_sl tok rfl rfl (lt_ rfl) t40 rfl rfl | exact r_len_hs tok rfl rfl (lt_ rfl) t40 rfl rfl rfl (by first | rfl | simp) | exact r_len_nl tok rfl rfl (lt_ rfl) t40 rfl rfl | exact r_len_str tok rfl rfl (lt_ rfl) t40 rfl rfl)) ?_
      refine k_ (g_ rfl rfl (r_lss rfl rfl (lt_ rfl) rfl rfl)) ?_
      refine z_ rfl (by kernel_rfl) ?_
      refine awp_cond rfl (fun hb => ?_) (fun hb => ?_)
      · refine awp_skip ?_
        have hlt2 : k < (supersOf p x).length := by simpa [supersOf] using hb
        obtain ⟨t, ht⟩ := get_of_lt hlt2
        have ht' : (((cls p x).getD zCls).supers.map encS)[k]? = some (encS t) := getEnc encS ht
        refine awp_seq ?_
        refine awp_block ?_   -- block 5
        refine awp_seq ?_
        refine awp_rg mixed ?_
        refine k_ (g_ rfl rfl (by first | exact r_load tok rfl rfl (lt_ rfl) t28 rfl rfl rfl rfl | exact r_load_pt tok rfl rfl (lt_ rfl) t28 rfl (le_ rfl) rfl | exact r_load_ep tok rfl rfl (lt_ rfl) t28 rfl rfl (by first | rfl | simp) (by first | assumption | rfl) (le_ rfl) rfl)) ?_
        refine k_ (g_ rfl rfl (by first | exact r_field_vp tok rfl rfl (lt_ rfl) t66 rfl rfl t40 (nz_ rfl) rfl | exact r_field_pt tok rfl rfl (lt_ rfl) t66 rfl rfl t40 (nz_ rfl) rfl | exact r_field_ep tok rfl rfl (lt_ rfl) t66 rfl rfl t40 (nz_ rfl) rfl rfl (by first | rfl | simp))) ?_
        refine k_ (g_ rfl rfl (by first | exact r_load tok rfl rfl (lt_ rfl) t40 rfl rfl rfl rfl | exact r_load_pt tok rfl rfl (lt_ rfl) t40 rfl (le_ rfl) rfl | exact r_load_ep tok rfl rfl (lt_ rfl) t40 rfl rfl (by first | rfl | simp) (by first | assumption | rfl) (le_ rfl) rfl)) ?_
        refine k_ (g_ rfl rfl (r_move rfl rfl (lt_ rfl) rfl)) ?_
        refine k_ (g_ rfl rfl (by first | exact r_index tok rfl rfl (lt_ rfl) t40 rfl t9 rfl rfl rfl rfl (by first | assumption | rfl) | exact r_index_hs tok rfl rfl (lt_ rfl) t40 rfl t9 rfl rfl rfl (by first | rfl | simp) rfl rfl (by first | decide | omega | (simp; done) | (simp; omega)))) ?_
        refine k_ (g_ rfl rfl (by first | exact r_load tok rfl rfl (lt_ rfl) t9 rfl rfl rfl rfl | exact r_load_pt tok rfl rfl (lt_ rfl) t9 rfl (le_ rfl) rfl | exact r_load_ep tok rfl rfl (lt_ rfl) t9 rfl rfl (by first | rfl | simp) (by first | assumption | rfl) (le_ rfl) rfl)) ?_
        refine k_ (g_ rfl rfl (by exact r_call [] [] b26 rfl rfl (lt_ rfl) (c26 p t hlf) (.cons rfl (by first | exact .refl | exact .agg (by first | exact .of_pure | ((first | refine .hs rfl (by first | rfl | simp) (by first | rfl | (simp; done) | (simp [Go.AM.take_map]; done) | exact Go.AM.take_map.symm) ?_ | refine .c .refl ?_ | refine .c (Cle.nl (es := 5)) ?_); (first | refine .hs rfl (by first | rfl | simp) (by first | rfl | (simp; done) | (simp [Go.AM.take_map]; done) | exact Go.AM.take_map.symm) ?_ | refine .c .refl ?_ | refine .c (Cle.nl (es := 6)) ?_); (first | refine .hs rfl (by first | rfl | simp) (by first | rfl | (simp; done) | (simp [Go.AM.take_map]; done) | exact Go.AM.take_map.symm) ?_ | refine .c .refl ?_ | refine .c (Cle.nl (es := 6)) ?_); (first | refine .hs rfl (by first | rfl | simp) (by first | rfl | (simp; done) | (simp [Go.AM.take_map]; done) | exact Go.AM.take_map.symm) ?_ | refine .c .refl ?_ | refine .c (Cle.nl (es := 33)) ?_); exact .nil)) | exact .pa (by first | exact .of_pure | ((first | refine .hs rfl (by first | rfl | simp) (by first | rfl | (simp; done) | (simp [Go.AM.take_map]; done) | exact Go.AM.take_map.symm) ?_ | refine .c .refl ?_ | refine .c (Cle.nl (es := 5)) ?_); (first | refine .hs rfl (by first | rfl | simp) (by first | rfl | (simp; done) | (simp [Go.AM.take_map]; done) | exact Go.AM.take_map.symm) ?_ | refine .c .refl ?_ | refine .c (Cle.nl (es := 6)) ?_); (first | refine .hs rfl (by first | rfl | simp) (by first | rfl | (simp; done) | (simp [Go.AM.take_map]; done) | exact Go.AM.take_map.symm) ?_ | refine .c .refl ?_ | refine .c (Cle.nl (es := 6)) ?_); (first | refine .hs rfl (by first | rfl | simp) (by first | rfl | (simp; done) | (simp [Go.AM.take_map]; done) | exact Go.AM.take_map.symm) ?_ | refine .c .refl ?_ | refine .c (Cle.nl (es := 33)) ?_); exact .nil))) (.cons rfl .refl (.nil))) (by repeat (first | exact trivial | refine ⟨rfl, ?_⟩)) (by repeat (first | exact trivial | refine ⟨.inr rfl, ?_⟩ | refine ⟨.inl (by decide), ?_⟩)) rfl)) ?_
        refine k_ (g_ rfl rfl (r_move rfl rfl (lt_ rfl) rfl)) ?_
        refine k_ (g_ rfl rfl (r_extract rfl rfl (lt_ rfl) rfl rfl)) ?_
        refine k_ (g_ rfl rfl (r_extract rfl rfl (lt_ rfl) rfl rfl)) ?_
        refine k_ (g_ rfl rfl (r_alloc 13 tok rfl rfl (lt_ rfl) t66 rfl)) ?_
        refine k_ (g_ rfl rfl (by first | exact r_store tok rfl rfl t66 rfl rfl rfl rfl rfl rfl | exact r_store_ep tok rfl rfl t66 rfl rfl rfl rfl rfl (by first | rfl | simp) (by first | assumption | rfl) rfl (le_ rfl))) ?_
        refine k_ (g_ rfl rfl (r_assign rfl rfl (lt_ rfl) rfl)) ?_
        refine z_ rfl (by kernel_rfl) ?_
        refine awp_seq ?_
        refine AWp.sub (Sub.freeze (id := 5) rfl) ?_
        refine awp_rg mixed ?_
        refine k_ (g_ rfl rfl (r_move rfl rfl (lt_ rfl) rfl)) ?_
        refine k_ (g_ rfl rfl (by first | exact r_field_vp tok rfl rfl (lt_ rfl) t66 rfl rfl t40 (nz_ rfl) rfl | exact r_field_pt tok rfl rfl (lt_ rfl) t66 rfl rfl t40 (nz_ rfl) rfl | exact r_field_ep tok rfl rfl (lt_ rfl) t66 rfl rfl t40 (nz_ rfl) rfl rfl (by first | rfl | simp))) ?_
        refine k_ (g_ rfl rfl (by first | exact r_load tok rfl rfl (lt_ rfl) t40 rfl rfl rfl rfl | exact r_load_pt tok rfl rfl (lt_ rfl) t40 rfl (le_ rfl) rfl | exact r_load_ep tok rfl rfl (lt_ rfl) t40 rfl rfl (by first | rfl | simp) (by first | assumption | rfl) (le_ rfl) rfl)) ?_
        refine k_ (g_ rfl rfl (r_move rfl rfl (lt_ rfl) rfl)) ?_
        refine k_ (g_ rfl rfl (by first | exact r_index tok rfl rfl (lt_ rfl) t40 rfl t9 rfl rfl rfl rfl (by first | assumption | rfl) | exact r_index_hs tok rfl rfl (lt_ rfl) t40 rfl t9 rfl rfl rfl (by first | rfl | simp) rfl rfl (by first | decide | omega | (simp; done) | (simp; omega)))) ?_
        refine k_ (g_ rfl rfl (by first | exact r_load tok rfl rfl (lt_ rfl) t9 rfl rfl rfl rfl | exact r_load_pt tok rfl rfl (lt_ rfl) t9 rfl (le_ rfl) rfl | exact r_load_ep tok rfl rfl (lt_ rfl) t9 rfl rfl (by first | rfl | simp) (by first | assumption | rfl) (le_ rfl) rfl)) ?_
        refine k_ (g_ rfl rfl (by exact r_call [] [] b29 rfl rfl (lt_ rfl) (c29 out2 t (by unfold Fits; omega)) (.cons rfl (by first | exact .refl | exact .one (.hs rfl (by first | rfl | simp) (by first | rfl | (simp; done) | (simp [Go.AM.take_map]; done) | exact Go.AM.take_map.symm) .nil) | exact .one (.c .nl .nil) | exact .one (.c .sn .nil)) (.cons rfl .refl (.nil))) (by repeat (first | exact trivial | refine ⟨rfl, ?_⟩)) (by repeat (first | exact trivial | refine ⟨.inr rfl, ?_⟩ | refine ⟨.inl (by decide), ?_⟩)) rfl)) ?_
        refine k_ (g_ rfl rfl (r_assign rfl rfl (lt_ rfl) rfl)) ?_
        refine z_ rfl (by kernel_rfl) ?_
        refine awp_seq ?_
        by_cases h1 : (cls p t).isSome = true
        · have h1' := h1
          refine awp_rg mixed ?_
          refine k_ (g_ rfl rfl (r_move rfl rfl (lt_ rfl) rfl)) ?_
          refine k_ (g_ rfl rfl (r_move rfl rfl (lt_ rfl) rfl)) ?_
          refine k_ (GStep.yes rfl rfl rfl rfl (by first | assumption | rfl | (simp; done) | (simp only [Bool.not]; assumption) | (simp; omega)) (by exact r_move rfl rfl (lt_ rfl) rfl)) ?_
          refine k_ (GStep.yes rfl rfl rfl rfl (by first | assumption | rfl | (simp; done) | (simp only [Bool.not]; assumption) | (simp; omega)) (by exact r_not rfl rfl (lt_ rfl) rfl)) ?_
          refine k_ (g_ rfl rfl (by exact r_pick_t rfl rfl (lt_ rfl) rfl (by first | assumption | rfl | (simp; done)) rfl)) ?_
          refine z_ rfl (by kernel_rfl) ?_
          refine awp_cond rfl (fun hb => ?_) (fun hb => ?_)
          · have h2 : t ∉ out2 := by simpa using hb
            have hst : ostep p (out2, more2) t = (out2 ++ [t], more2 ++ [t]) := by unfold ostep; rw [if_pos ⟨h1, h2⟩]
            refine awp_seq ?_
            refine awp_rg mixed ?_
            refine k_ (g_ rfl rfl (r_move rfl rfl (lt_ rfl) rfl)) ?_
            refine k_ (g_ rfl rfl (by first | exact r_field_vp tok rfl rfl (lt_ rfl) t66 rfl rfl t40 (nz_ rfl) rfl | exact r_field_pt tok rfl rfl (lt_ rfl) t66 rfl rfl t40 (nz_ rfl) rfl | exact r_field_ep tok rfl rfl (lt_ rfl) t66 rfl rfl t40 (nz_ rfl) rfl rfl (by first | rfl | simp))) ?_
            refine k_ (g_ rfl rfl (by first | exact r_load tok rfl rfl (lt_ rfl) t40 rfl rfl rfl rfl | exact r_load_pt tok rfl rfl (lt_ rfl) t40 rfl (le_ rfl) rfl | exact r_load_ep tok rfl rfl (lt_ rfl) t40 rfl rfl (by first | rfl | simp) (by first | assumption | rfl) (le_ rfl) rfl)) ?_
            refine k_ (g_ rfl rfl (r_move rfl rfl (lt_ rfl) rfl)) ?_
            refine k_ (g_ rfl rfl (by first | exact r_index tok rfl rfl (lt_ rfl) t40 rfl t9 rfl rfl rfl rfl (by first | assumption | rfl) | exact r_index_hs tok rfl rfl (lt_ rfl) t40 rfl t9 rfl rfl rfl (by first | rfl | simp) rfl rfl (by first | decide | omega | (simp; done) | (simp; omega)))) ?_
            refine k_ (g_ rfl rfl (by first | exact r_load tok rfl rfl (lt_ rfl) t9 rfl rfl rfl rfl | exact r_load_pt tok rfl rfl (lt_ rfl) t9 rfl (le_ rfl) rfl | exact r_load_ep tok rfl rfl (lt_ rfl) t9 rfl rfl (by first | rfl | simp) (by first | assumption | rfl) (le_ rfl) rfl)) ?_
            refine k_ (g_ rfl rfl (r_slice 75 tok rfl rfl (lt_ rfl) t40 rfl t9 (.cons rfl rfl (.c .refl (.nil)) rfl (.nil)) rfl rfl rfl rfl)) ?_
            refine k_ (g_ rfl rfl (by exact r_append tok rfl rfl (lt_ rfl) t40 rfl t9 rfl rfl rfl rfl (by first | rfl | simp) rfl (by first | exact .all rfl (by first | rfl | simp) | exact .hs rfl (by first | rfl | simp) (by first | rfl | (simp; done) | (simp [Go.AM.take_map]; done) | exact Go.AM.take_map.symm) | exact .sl | exact .nl | exact .sn) (by first | (simp; done) | (simp; omega)))) ?_
            refine k_ (g_ rfl rfl (r_assign rfl rfl (lt_ rfl) rfl)) ?_
            refine z_ rfl (by kernel_rfl) ?_
            refine awp_rg mixed ?_
            refine k_ (g_ rfl rfl (r_move rfl rfl (lt_ rfl) rfl)) ?_
            refine k_ (g_ rfl rfl (by first | exact r_field_vp tok rfl rfl (lt_ rfl) t66 rfl rfl t40 (nz_ rfl) rfl | exact r_field_pt tok rfl rfl (lt_ rfl) t66 rfl rfl t40 (nz_ rfl) rfl | exact r_field_ep tok rfl rfl (lt_ rfl) t66 rfl rfl t40 (nz_ rfl) rfl rfl (by first | rfl | simp))) ?_
            refine k_ (g_ rfl rfl (by first | exact r_load tok rfl rfl (lt_ rfl) t40 rfl rfl rfl rfl | exact r_load_pt tok rfl rfl (lt_ rfl) t40 rfl (le_ rfl) rfl | exact r_load_ep tok rfl rfl (lt_ rfl) t40 rfl rfl (by first | rfl | simp) (by first | assumption | rfl) (le_ rfl) rfl)) ?_
            refine k_ (g_ rfl rfl (r_move rfl rfl (lt_ rfl) rfl)) ?_
            refine k_ (g_ rfl rfl (by first | exact r_index tok rfl rfl (lt_ rfl) t40 rfl t9 rfl rfl rfl rfl (by first | assumption | rfl) | exact r_index_hs tok rfl rfl (lt_ rfl) t40 rfl t9 rfl rfl rfl (by first | rfl | simp) rfl rfl (by first | decide | omega | (simp; done) | (simp; omega)))) ?_
            refine k_ (g_ rfl rfl (by first | exact r_load tok rfl rfl (lt_ rfl) t9 rfl rfl rfl rfl | exact r_load_pt tok rfl rfl (lt_ rfl) t9 rfl (le_ rfl) rfl | exact r_load_ep tok rfl rfl (lt_ rfl) t9 rfl rfl (by first | rfl | simp) (by first | assumption | rfl) (le_ rfl) rfl)) ?_
            refine k_ (g_ rfl rfl (r_slice 83 tok rfl rfl (lt_ rfl) t40 rfl t9 (.cons rfl rfl (.c .refl (.nil)) rfl (.nil)) rfl rfl rfl rfl)) ?_
            refine k_ (g_ rfl rfl (by exact r_append tok rfl rfl (lt_ rfl) t40 rfl t9 rfl rfl rfl rfl (by first | rfl | simp) rfl (by first | exact .all rfl (by first | rfl | simp) | exact .hs rfl (by first | rfl | simp) (by first | rfl | (simp; done) | (simp [Go.AM.take_map]; done) | exact Go.AM.take_map.symm) | exact .sl | exact .nl | exact .sn) (by first | (simp; done) | (simp; omega)))) ?_
            refine k_ (g_ rfl rfl (r_assign rfl rfl (lt_ rfl) rfl)) ?_
            refine z_ rfl (by kernel_rfl) ?_
            refine awp_rg mixed ?_
            refine k_ (g_ rfl rfl (r_move rfl rfl (lt_ rfl) rfl)) ?_
            refine k_ (g_ rfl rfl (by exact r_addI rfl rfl (lt_ rfl) rfl rfl (by first | omega | (simp only [List.length_map]; omega)))) ?_
            refine k_ (g_ rfl rfl (r_assign rfl rfl (lt_ rfl) rfl)) ?_
            refine z_ rfl (by kernel_rfl) ?_
            refine ⟨(k + 1, out2 ++ [t], more2 ++ [t]), ⟨hlt2, ?_, ?_⟩, by dsimp only; omega, .list (fun i => i) ⟨rfl, hs_len (by simp), rfl, rfl, hs_len (by simp), rfl, rfl, rfl, trivial⟩ ⟨⟨_, rfl, .var rfl⟩, ⟨_, rfl, .arrE (by simp [encS])⟩, ⟨_, rfl, .arr1⟩, ⟨_, rfl, .arrE (by simp [encS])⟩, ⟨_, rfl, .var rfl⟩, trivial⟩ rfl⟩
            · rw [← hst]; exact hok2.step t
            · dsimp only; rw [← hst, hit2]; exact (fold_take ht).symm
          · refine awp_skip ?_
            have h2 : t ∈ out2 := by simpa using hb
            refine awp_rg mixed ?_
            refine k_ (g_ rfl rfl (r_move rfl rfl (lt_ rfl) rfl)) ?_
            refine k_ (g_ rfl rfl (by exact r_addI rfl rfl (lt_ rfl) rfl rfl (by first | omega | (simp only [List.length_map]; omega)))) ?_
            refine k_ (g_ rfl rfl (r_assign rfl rfl (lt_ rfl) rfl)) ?_
            refine z_ rfl (by kernel_rfl) ?_
            have hst : ostep p (out2, more2) t = (out2, more2) := by unfold ostep; rw [if_neg]; simp [h2]
            exact ⟨(k + 1, out2, more2), ⟨hlt2, hok2, by dsimp only; rw [← hst, hit2]; exact (fold_take ht).symm⟩, by dsimp only; omega, .list (fun i => i) ⟨rfl, rfl, rfl, rfl, rfl, rfl, rfl, rfl, trivial⟩ ⟨⟨_, rfl, .var rfl⟩, ⟨_, rfl, .arr1⟩, ⟨_, rfl, .arr1⟩, ⟨_, rfl, .arr1⟩, ⟨_, rfl, .var rfl⟩, trivial⟩ rfl⟩
        · have h1' : (cls p t).isSome = false := by simpa using h1
          refine awp_rg mixed ?_
          refine k_ (g_ rfl rfl (r_move rfl rfl (lt_ rfl) rfl)) ?_
          refine k_ (g_ rfl rfl (r_move rfl rfl (lt_ rfl) rfl)) ?_
          refine k_ (by first | exact GStep.no rfl rfl rfl (lt_ rfl) rfl rfl (by first | assumption | rfl | (simp; done) | (simp only [Bool.not]; assumption) | (simp; omega)) rfl | exact GStep.un rfl rfl rfl (lt_ rfl) rfl rfl) ?_
          refine k_ (by first | exact GStep.no rfl rfl rfl (lt_ rfl) rfl rfl (by first | assumption | rfl | (simp; done) | (simp only [Bool.not]; assumption) | (simp; omega)) rfl | exact GStep.un rfl rfl rfl (lt_ rfl) rfl rfl) ?_
          refine k_ (g_ rfl rfl (by exact r_pick_f rfl rfl (lt_ rfl) rfl (by first | assumption | rfl | (simp; done)) rfl)) ?_
          refine z_ rfl (by kernel_rfl) ?_
          refine awp_cond rfl (fun hb => by cases hb) (fun hb => ?_)
          refine awp_skip ?_
          refine awp_rg mixed ?_
          refine k_ (g_ rfl rfl (r_move rfl rfl (lt_ rfl) rfl)) ?_
          refine k_ (g_ rfl rfl (by exact r_addI rfl rfl (lt_ rfl) rfl rfl (by first | omega | (simp only [List.length_map]; omega)))) ?_
          refine k_ (g_ rfl rfl (r_assign rfl rfl (lt_ rfl) rfl)) ?_
          refine z_ rfl (by kernel_rfl) ?_
          have hst : ostep p (out2, more2) t = (out2, more2) := by unfold ostep; rw [if_neg]; simp [h1']
          exact ⟨(k + 1, out2, more2), ⟨hlt2, hok2, by dsimp only; rw [← hst, hit2]; exact (fold_take ht).symm⟩, by dsimp only; omega, .list (fun i => i) ⟨rfl, rfl, rfl, rfl, rfl, rfl, rfl, rfl, trivial⟩ ⟨⟨_, rfl, .var rfl⟩, ⟨_, rfl, .arr1⟩, ⟨_, rfl, .arr1⟩, ⟨_, rfl, .arr1⟩, ⟨_, rfl, .var rfl⟩, trivial⟩ rfl⟩
      · refine awp_exit ?_   -- 4
        have hge : k = (supersOf p x).length := by
          have : ¬ k < (supersOf p x).length := by simpa [supersOf] using hb
          omega
        subst hge
        rw [List.take_length] at hit2
        refine awp_rg mixed ?_
        refine k_ (g_ rfl rfl (r_move rfl rfl (lt_ rfl) rfl)) ?_
        refine k_ (g_ rfl rfl (by exact r_addI rfl rfl (lt_ rfl) rfl rfl (by first | omega | (simp only [List.length_map]; omega)))) ?_
        refine k_ (g_ rfl rfl (r_assign rfl rfl (lt_ rfl) rfl)) ?_
        refine z_ rfl (by kernel_rfl) ?_
        exact ⟨(i + 1, out2, more2), ⟨hlt, hok2, by rw [fold_take hx, ← hit1]; exact hit2⟩, by dsimp only; omega, .list (fun i => i) ⟨rfl, rfl, rfl, rfl, rfl, rfl, trivial⟩ ⟨⟨_, rfl, .var rfl⟩, ⟨_, rfl, .arr1⟩, ⟨_, rfl, .arr1⟩, ⟨_, rfl, .arr1⟩, trivial⟩ rfl⟩
    · refine awp_exit ?_   -- 2
      have hge : i = next.length := by
        have : ¬ i < next.length := by simpa using hb
        omega
      subst hge
      rw [List.take_length] at hit1
      have hlen1 := hok1.len
      have hmor1 := hok1.more
      dsimp only at hlen1 hmor1
      refine awp_rg mixed ?_
      refine k_ (g_ rfl rfl (r_move rfl rfl (lt_ rfl) rfl)) ?_
      refine k_ (g_ rfl rfl (r_assign rfl rfl (lt_ rfl) rfl)) ?_
      refine z_ rfl (by kernel_rfl) ?_
      refine awp_rg mixed ?_
      refine k_ (g_ rfl rfl (r_move rfl rfl (lt_ rfl) rfl)) ?_
      refine k_ (g_ rfl rfl (by exact r_addI rfl rfl (lt_ rfl) rfl rfl (by first | omega | (simp only [List.length_map]; omega)))) ?_
      refine k_ (g_ rfl rfl (r_assign rfl rfl (lt_ rfl) rfl)) ?_
      refine z_ rfl (by kernel_rfl) ?_
      exact ⟨(n + 1, out1, more1), ⟨by dsimp only; omega, ⟨hok1.1, hok1.2, Nat.zero_le _⟩, by dsimp only; omega, by dsimp only; rw [hit1]; show _ = oround p (iter (oround p) n ([], [s])); rw [← hit]; rfl⟩, by dsimp only; omega, .list (fun i => if Nat.beq i 6 then 8 else i) ⟨rfl, rfl, rfl, rfl, trivial⟩ ⟨⟨_, rfl, .var rfl⟩, ⟨_, rfl, .arr1⟩, ⟨_, rfl, .arr1⟩, trivial⟩ rfl⟩
  · refine awp_exit ?_   -- 0
    have hge : n = p.classes.length + 1 := by
      have : ¬ n ≤ p.classes.length := by simpa using hb
      omega
    refine awp_seq ?_
    refine awp_rg mixed ?_
    refine k_ (g_ rfl rfl (r_move rfl rfl (lt_ rfl) rfl)) ?_
    refine k_ (g_ rfl rfl (r_assign rfl rfl (lt_ rfl) rfl)) ?_
    refine z_ rfl (by kernel_rfl) ?_
    refine AWp.sub (Sub.freeze (id := 5) rfl) ?_
    refine awp_ret ?_
    have hov : over p s = out := by unfold over; rw [← hge, ← hit]
    rw [hov]
    exact ⟨.inr rfl, ⟨_, _, .tmp rfl .nil, .cons (.one (.hs rfl (by simp) take_map.symm .nil)) .nil, rfl⟩, trivial, rfl⟩
end Go.Proofs.Ythfeeaifddppoaa
