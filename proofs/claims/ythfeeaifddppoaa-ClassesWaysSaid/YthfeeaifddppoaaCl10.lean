/-
  THE REFERENCE's Made.
-/
import Derived.Test.YthfeeaifddppoaaCl9
namespace Go.Proofs.Ythfeeaifddppoaa
open Go Go.AM
set_option maxRecDepth 20000
set_option maxHeartbeats 1000000

def nm (k : Nat) : Str := namesL.getD k []
def cn (k : Nat) : Str := consL.getD k []
theorem nm_get {k : Nat} (h : k < 5) : (namesL.map encS)[k]? = some (encS (nm k)) := by
  match k, h with
  | 0, _ => rfl
  | 1, _ => rfl
  | 2, _ => rfl
  | 3, _ => rfl
  | 4, _ => rfl
theorem cn_get {k : Nat} (h : k < 3) : (consL.map encS)[k]? = some (encS (cn k)) := by
  match k, h with
  | 0, _ => rfl
  | 1, _ => rfl
  | 2, _ => rfl
theorem nm_len (k : Nat) : (nm k).length ≤ 1 := by
  match k with
  | 0 => decide
  | 1 => decide
  | 2 => decide
  | 3 => decide
  | 4 => decide
  | _ + 5 => simp [nm, namesL]
/-- The number at a place. -/
def pn (l : List Int) (k : Nat) : Nat := (pick l k).toNat
theorem pick_in {l : List Int} (hr : ∀ x ∈ l, In64 x) (k : Nat) : pick l k = pn l k ∧ pn l k ≤ 9223372036854775807 := by
  have : 0 ≤ pick l k ∧ pick l k ≤ 9223372036854775807 := by
    unfold pick
    cases h : l[k]? with
    | none => simp
    | some x =>
      obtain ⟨h1, h2⟩ := hr x (List.mem_of_getElem? h)
      simp only
      split <;> omega
  unfold pn
  omega
def sat (i k j : Nat) : Nat := if k % 7 = 6 then k / (3 + j) % 5 else k / (3 + 5 * j) % (i + 1)
def supF (i k : Nat) (acc : List Str) (j : Nat) : List Str := if sat i k j < i ∨ k % 7 = 6 then acc ++ [nm (sat i k j)] else acc
def msup (i k m : Nat) : List Str := (List.range m).foldl (supF i k) []
def zSch : Sch := ⟨.nl, .nl, .nl, .int .i64 0, .int .i64 0, .str [], .nl⟩
def mmet1 (i j : Nat) : Sig := ⟨[109] ++ nm ((i * 2 + j) % 5), ((10 * i + 2 + j : Nat) : Int), zSch⟩
def mmet (i m : Nat) : List Sig := (List.range m).map (mmet1 i)
def mcls (l : List Int) (i : Nat) : Cls := ⟨nm i, ((10 * i + 1 : Nat) : Int), [97], .nl, msup i (pn l (i + 1)) (pn l (i + 1) % 3), mmet i (pn l (i + 1) / 9 % 3)⟩
def mclss (l : List Int) (m : Nat) : List Cls := (List.range m).map (mcls l)
def minst (i k : Nat) : Inst := ⟨nm (k / 4 % 5), ((100 + (i * 37 + k / 60) % 300 : Nat) : Int), cn (k / 20 % 3), .nl, .nl, .nl⟩
def instF (l : List Int) (acc : List Inst) (i : Nat) : List Inst := if pn l i % 4 = 3 then acc else acc ++ [minst i (pn l i)]
/-- The instances of the places 6 .. 5 + m. -/
def minsts (l : List Int) (m : Nat) : List Inst := (List.range m).foldl (fun acc j => instF l acc (6 + j)) []
def mprog (l : List Int) : Prog := ⟨.nl, mclss l (pn l 0 % 6), minsts l (min 14 (l.length - 6)), .nl⟩
def made (l : List Int) : Prog := if pn l 0 / 6 % 3 > 0 then whole (mprog l) else mprog l

theorem range_fold {α : Type} (f : α → Nat → α) (a : α) (m : Nat) : (List.range (m + 1)).foldl f a = f ((List.range m).foldl f a) m := by
  rw [List.range_succ, List.foldl_append]; rfl
theorem msup_len (i k : Nat) : ∀ m, (msup i k m).length ≤ m
  | 0 => by simp [msup]
  | m + 1 => by
    have h := msup_len i k m
    have e : msup i k (m + 1) = supF i k (msup i k m) m := range_fold _ _ _
    rw [e]
    unfold supF
    split
    · simp; omega
    · omega
theorem minsts_len (l : List Int) : ∀ m, (minsts l m).length ≤ m
  | 0 => by simp [minsts]
  | m + 1 => by
    have h := minsts_len l m
    have e : minsts l (m + 1) = instF l (minsts l m) (6 + m) := range_fold _ _ _
    rw [e]
    unfold instF
    split
    · omega
    · simp; omega
theorem mprog_PS (l : List Int) : PS (mprog l) := by
  refine ⟨?_, ?_, ?_, ?_⟩
  · unfold Small mprog mclss; simp; omega
  · have := minsts_len l (min 14 (l.length - 6))
    unfold Small mprog; dsimp only; omega
  · intro c hc
    obtain ⟨i, _, rfl⟩ := List.mem_map.1 hc
    have := msup_len i (pn l (i + 1)) (pn l (i + 1) % 3)
    unfold Small mcls; dsimp only; omega
  · intro c hc
    obtain ⟨i, _, rfl⟩ := List.mem_map.1 hc
    unfold Small mcls mmet; simp; omega

theorem b8 : bodied Try.prog 8 := ⟨Try.f8, Try.func8, by decide, rfl⟩

theorem c8 (l : List Int) (hr : ∀ x ∈ l, In64 x) (hl : Fits l) : ImpC Try.prog 8 [.one (.c (.sl 1 (l.map encI)))] [] (.pa (encProg (made l))) [] := by
  unfold Fits at hl
  have hn0 := pick_in hr 0
  obtain ⟨e0, b0⟩ := hn0
  generalize en : pn l 0 = n at e0 b0
  refine impC (n := 159) tok Try.func8 rfl rfl rfl ?_
  refine awp_seq ?_
  refine awp_rg mixed ?_
  refine k_ (g_ rfl rfl (r_alloc 2 tok rfl rfl (lt_ rfl) t28 rfl)) ?_
  refine z_ rfl (by kernel_rfl) ?_
  refine awp_seq ?_
  refine awp_rg mixed ?_
  refine k_ (g_ rfl rfl (by exact r_call [] [] b13 rfl rfl (lt_ rfl) c13 (.nil) (by repeat (first | exact trivial | refine ⟨rfl, ?_⟩)) (by repeat (first | exact trivial | refine ⟨.inr rfl, ?_⟩ | refine ⟨.inl (by decide), ?_⟩)) rfl)) ?_
  refine k_ (g_ rfl rfl (r_move rfl rfl (lt_ rfl) rfl)) ?_
  refine k_ (g_ rfl rfl (r_extract rfl rfl (lt_ rfl) rfl rfl)) ?_
  refine k_ (g_ rfl rfl (r_extract rfl rfl (lt_ rfl) rfl rfl)) ?_
  refine k_ (g_ rfl rfl (r_assign rfl rfl (lt_ rfl) rfl)) ?_
  refine k_ (g_ rfl rfl (r_assign rfl rfl (lt_ rfl) rfl)) ?_
  refine z_ rfl (by kernel_rfl) ?_
  refine awp_seq ?_
  refine awp_rg mixed ?_
  refine k_ (g_ rfl rfl (r_alloc 5 tok rfl rfl (lt_ rfl) t28 rfl)) ?_
  refine z_ rfl (by kernel_rfl) ?_
  refine awp_seq ?_
  refine awp_rg mixed ?_
  refine k_ (g_ rfl rfl (r_move rfl rfl (lt_ rfl) rfl)) ?_
  refine k_ (g_ rfl rfl (by exact r_call [] [] b30 rfl rfl (lt_ rfl) (e0 ▸ c30 l 0 hr) (.cons rfl (by first | exact .refl | exact .one (.hs rfl (by first | rfl | simp) (by first | rfl | (simp; done) | (simp [Go.AM.take_map]; done) | exact Go.AM.take_map.symm) .nil) | exact .one (.c .nl .nil) | exact .one (.c .sn .nil)) (.cons rfl .refl (.nil))) (by repeat (first | exact trivial | refine ⟨rfl, ?_⟩)) (by repeat (first | exact trivial | refine ⟨.inr rfl, ?_⟩ | refine ⟨.inl (by decide), ?_⟩)) rfl)) ?_
  refine k_ (g_ rfl rfl (r_assign rfl rfl (lt_ rfl) rfl)) ?_
  refine z_ rfl (by kernel_rfl) ?_
  refine AWp.sub (Sub.ownCell (x := 5) (k := 1) (id := 200) 66 6 rfl rfl rfl) (AWp.sub (Sub.ownCell (x := 5) (k := 2) (id := 201) 50 6 rfl rfl rfl) ?_)
  refine awp_seq ?_
  refine awp_seq ?_
  refine awp_rg mixed ?_
  refine k_ (g_ rfl rfl (r_assign rfl rfl (lt_ rfl) rfl)) ?_
  refine z_ rfl (by kernel_rfl) ?_
  refine awp_block ?_   -- block 0
  refine awp_loop (fun i : Nat => mk [(0, .one (.c (.sl 1 (l.map encI)))), (2, .one (.vp 2 0)), (3, .one (.c (.sl 1 (namesL.map encS)))), (4, .one (.c (.sl 1 (consL.map encS)))), (5, .one (.vp 5 0)), (6, I .i64 n), (7, I .i64 i)]
      [(2, .var 28 [.c .nl, .c .nl, .c .nl, .c .nl]), (5, .var 28 [.c .nl, .hs 200 0 (mclss l i).length (mclss l i).length, .hs 201 0 0 0, .c .nl]), (200, .arr 66 6 ((mclss l i).map encCls) 1), (201, .arr 50 6 [] 1)])
    (fun i => i ≤ n % 6) (fun i => n % 6 - i) 0 (Nat.zero_le _) (.list (fun i => i) ⟨rfl, rfl, rfl, rfl, rfl, rfl, rfl, trivial⟩ ⟨⟨_, rfl, .var rfl⟩, ⟨_, rfl, .var rfl⟩, ⟨_, rfl, .arr1⟩, ⟨_, rfl, .arr1⟩, trivial⟩ rfl) ?_
  intro i hi
  refine awp_seq ?_
  refine awp_seq ?_
  refine awp_rg mixed ?_
  refine k_ (g_ rfl rfl (r_move rfl rfl (lt_ rfl) rfl)) ?_
  refine k_ (g_ rfl rfl (r_move rfl rfl (lt_ rfl) rfl)) ?_
  refine k_ (g_ rfl rfl (by exact r_remN (b := 6) rfl rfl (lt_ rfl) rfl rfl (by first | omega | (simp only [List.length_map]; omega)))) ?_
  refine k_ (g_ rfl rfl (r_lss rfl rfl (lt_ rfl) rfl rfl)) ?_
  refine z_ rfl (by kernel_rfl) ?_
  refine awp_cond rfl (fun hb => ?_) (fun hb => ?_)
  · refine awp_skip ?_
    have hlt : i < n % 6 := by simp at hb; omega
    have hi5 : i < 5 := by omega
    obtain ⟨ek, bk⟩ := pick_in hr (i + 1)
    generalize ekn : pn l (i + 1) = k at ek bk
    have hnm := nm_get hi5
    refine awp_seq ?_
    refine awp_block ?_   -- block 1
    refine awp_seq ?_
    refine awp_rg mixed ?_
    refine k_ (g_ rfl rfl (r_move rfl rfl (lt_ rfl) rfl)) ?_
    refine k_ (g_ rfl rfl (r_move rfl rfl (lt_ rfl) rfl)) ?_
    refine k_ (g_ rfl rfl (by exact r_addN (b := 1) rfl rfl (lt_ rfl) rfl rfl (by first | omega | (simp only [List.length_map]; omega)))) ?_
    refine k_ (g_ rfl rfl (by exact r_call [] [] b30 rfl rfl (lt_ rfl) (ek ▸ c30 l (i + 1) hr) (.cons rfl (by first | exact .refl | exact .one (.hs rfl (by first | rfl | simp) (by first | rfl | (simp; done) | (simp [Go.AM.take_map]; done) | exact Go.AM.take_map.symm) .nil) | exact .one (.c .nl .nil) | exact .one (.c .sn .nil)) (.cons rfl .refl (.nil))) (by repeat (first | exact trivial | refine ⟨rfl, ?_⟩)) (by repeat (first | exact trivial | refine ⟨.inr rfl, ?_⟩ | refine ⟨.inl (by decide), ?_⟩)) rfl)) ?_
    refine k_ (g_ rfl rfl (r_assign rfl rfl (lt_ rfl) rfl)) ?_
    refine z_ rfl (by kernel_rfl) ?_
    refine awp_seq ?_
    refine awp_rg mixed ?_
    refine k_ (g_ rfl rfl (r_move rfl rfl (lt_ rfl) rfl)) ?_
    refine k_ (g_ rfl rfl (r_move rfl rfl (lt_ rfl) rfl)) ?_
    refine k_ (g_ rfl rfl (by first | exact r_index tok rfl rfl (lt_ rfl) t40 rfl t9 rfl rfl rfl rfl (by first | assumption | rfl) | exact r_index_hs tok rfl rfl (lt_ rfl) t40 rfl t9 rfl rfl rfl (by first | rfl | simp) rfl rfl (by first | decide | omega | (simp; done) | (simp; omega)))) ?_
    refine k_ (g_ rfl rfl (by first | exact r_load tok rfl rfl (lt_ rfl) t9 rfl rfl rfl rfl | exact r_load_pt tok rfl rfl (lt_ rfl) t9 rfl (le_ rfl) rfl | exact r_load_ep tok rfl rfl (lt_ rfl) t9 rfl rfl (by first | rfl | simp) (by first | assumption | rfl) (le_ rfl) rfl)) ?_
    refine k_ (g_ rfl rfl (r_move rfl rfl (lt_ rfl) rfl)) ?_
    refine k_ (g_ rfl rfl (by exact r_mulN (a := 10) rfl rfl (lt_ rfl) rfl rfl (by first | omega | (simp only [List.length_map]; omega)))) ?_
    refine k_ (g_ rfl rfl (by exact r_addN (b := 1) rfl rfl (lt_ rfl) rfl rfl (by first | omega | (simp only [List.length_map]; omega)))) ?_
    refine k_ (g_ rfl rfl (r_build tok rfl rfl (lt_ rfl) t66 rfl p66 rfl rfl)) ?_
    refine k_ (g_ rfl rfl (r_alloc 9 tok rfl rfl (lt_ rfl) t66 rfl)) ?_
    refine k_ (g_ rfl rfl (by first | exact r_store tok rfl rfl t66 rfl rfl rfl rfl rfl rfl | exact r_store_ep tok rfl rfl t66 rfl rfl rfl rfl rfl (by first | rfl | simp) (by first | assumption | rfl) rfl (le_ rfl))) ?_
    refine z_ rfl (by kernel_rfl) ?_
    refine AWp.sub (Sub.ownCell (x := 9) (k := 4) (id := 300) 9 1 rfl rfl rfl) (AWp.sub (Sub.ownCell (x := 9) (k := 5) (id := 301) 81 9 rfl rfl rfl) ?_)
    refine awp_seq ?_
    refine awp_seq ?_
    refine awp_rg mixed ?_
    refine k_ (g_ rfl rfl (r_assign rfl rfl (lt_ rfl) rfl)) ?_
    refine z_ rfl (by kernel_rfl) ?_
    refine awp_block ?_   -- block 2
    refine awp_loop (fun j : Nat => mk [(0, .one (.c (.sl 1 (l.map encI)))), (2, .one (.vp 2 0)), (3, .one (.c (.sl 1 (namesL.map encS)))), (4, .one (.c (.sl 1 (consL.map encS)))), (5, .one (.vp 5 0)), (6, I .i64 n), (7, I .i64 i), (8, I .i64 k), (9, .one (.vp 9 0)), (10, I .i64 j)]
        [(2, .var 28 [.c .nl, .c .nl, .c .nl, .c .nl]), (5, .var 28 [.c .nl, .hs 200 0 (mclss l i).length (mclss l i).length, .hs 201 0 0 0, .c .nl]), (200, .arr 66 6 ((mclss l i).map encCls) 1), (201, .arr 50 6 [] 1),
         (9, .var 66 [.c (.str (nm i)), .c (.int .i64 ((10 * i + 1 : Nat) : Int)), .c (.str [97]), .c .nl, .hs 300 0 (msup i k j).length (msup i k j).length, .hs 301 0 0 0]), (300, .arr 9 1 ((msup i k j).map encS) 1), (301, .arr 81 9 [] 1)])
      (fun j => j ≤ k % 3) (fun j => k % 3 - j) 0 (Nat.zero_le _) (.list (fun i => i) ⟨rfl, rfl, rfl, rfl, rfl, rfl, rfl, rfl, rfl, rfl, trivial⟩ ⟨⟨_, rfl, .var rfl⟩, ⟨_, rfl, .var rfl⟩, ⟨_, rfl, .arr1⟩, ⟨_, rfl, .arr1⟩, ⟨_, rfl, .var rfl⟩, ⟨_, rfl, .arr1⟩, ⟨_, rfl, .arr1⟩, trivial⟩ rfl) ?_
    intro j hj
    have hml := msup_len i k j
    refine awp_seq ?_
    refine awp_seq ?_
    refine awp_rg mixed ?_
    refine k_ (g_ rfl rfl (r_move rfl rfl (lt_ rfl) rfl)) ?_
    refine k_ (g_ rfl rfl (r_move rfl rfl (lt_ rfl) rfl)) ?_
    refine k_ (g_ rfl rfl (by exact r_remN (b := 3) rfl rfl (lt_ rfl) rfl rfl (by first | omega | (simp only [List.length_map]; omega)))) ?_
    refine k_ (g_ rfl rfl (r_lss rfl rfl (lt_ rfl) rfl rfl)) ?_
    refine z_ rfl (by kernel_rfl) ?_
    refine awp_cond rfl (fun hb => ?_) (fun hb => ?_)
    · refine awp_skip ?_
      have hltj : j < k % 3 := by simp at hb; omega
      refine awp_seq ?_
      refine awp_block ?_   -- block 3
      refine awp_seq ?_
      refine awp_rg mixed ?_
      refine k_ (g_ rfl rfl (r_move rfl rfl (lt_ rfl) rfl)) ?_
      refine k_ (g_ rfl rfl (r_move rfl rfl (lt_ rfl) rfl)) ?_
      refine k_ (g_ rfl rfl (by exact r_mulN (a := 5) rfl rfl (lt_ rfl) rfl rfl (by first | omega | (simp only [List.length_map]; omega)))) ?_
      refine k_ (g_ rfl rfl (by exact r_addN (a := 3) rfl rfl (lt_ rfl) rfl rfl (by first | omega | (simp only [List.length_map]; omega)))) ?_
      refine k_ (g_ rfl rfl (by exact r_quoN rfl rfl (lt_ rfl) rfl rfl (by first | omega | (simp only [List.length_map]; omega)))) ?_
      refine k_ (g_ rfl rfl (r_move rfl rfl (lt_ rfl) rfl)) ?_
      refine k_ (g_ rfl rfl (by exact r_addN (b := 1) rfl rfl (lt_ rfl) rfl rfl (by first | omega | (simp only [List.length_map]; omega)))) ?_
      refine k_ (g_ rfl rfl (by exact r_remN rfl rfl (lt_ rfl) rfl rfl (by first | omega | (simp only [List.length_map]; omega)))) ?_
      refine k_ (g_ rfl rfl (r_assign rfl rfl (lt_ rfl) rfl)) ?_
      refine z_ rfl (by kernel_rfl) ?_
      refine awp_seq ?_
      refine awp_seq ?_
      refine awp_rg mixed ?_
      refine k_ (g_ rfl rfl (r_move rfl rfl (lt_ rfl) rfl)) ?_
      refine k_ (g_ rfl rfl (by exact r_remN (b := 7) rfl rfl (lt_ rfl) rfl rfl (by first | omega | (simp only [List.length_map]; omega)))) ?_
      refine k_ (g_ rfl rfl (r_eql rfl rfl (lt_ rfl) rfl rfl)) ?_
      refine z_ rfl (by kernel_rfl) ?_
      refine AWp.cut (mk [(0, .one (.c (.sl 1 (l.map encI)))), (2, .one (.vp 2 0)), (3, .one (.c (.sl 1 (namesL.map encS)))), (4, .one (.c (.sl 1 (consL.map encS)))), (5, .one (.vp 5 0)), (6, I .i64 n), (7, I .i64 i), (8, I .i64 k), (9, .one (.vp 9 0)), (10, I .i64 j), (11, I .i64 (sat i k j : Nat))] [(2, .var 28 [.c .nl, .c .nl, .c .nl, .c .nl]), (5, .var 28 [.c .nl, .hs 200 0 (mclss l i).length (mclss l i).length, .hs 201 0 0 0, .c .nl]), (200, .arr 66 6 ((mclss l i).map encCls) 1), (201, .arr 50 6 [] 1),
         (9, .var 66 [.c (.str (nm i)), .c (.int .i64 ((10 * i + 1 : Nat) : Int)), .c (.str [97]), .c .nl, .hs 300 0 (msup i k j).length (msup i k j).length, .hs 301 0 0 0]), (300, .arr 9 1 ((msup i k j).map encS) 1), (301, .arr 81 9 [] 1)]) ?_ ?_
      · refine awp_cond rfl (fun hb => ?_) (fun hb => ?_)
        · have h7 : k % 7 = 6 := by simp at hb; omega
          refine awp_rg mixed ?_
          refine k_ (g_ rfl rfl (r_move rfl rfl (lt_ rfl) rfl)) ?_
          refine k_ (g_ rfl rfl (r_move rfl rfl (lt_ rfl) rfl)) ?_
          refine k_ (g_ rfl rfl (by exact r_addN (a := 3) rfl rfl (lt_ rfl) rfl rfl (by first | omega | (simp only [List.length_map]; omega)))) ?_
          refine k_ (g_ rfl rfl (by exact r_quoN rfl rfl (lt_ rfl) rfl rfl (by first | omega | (simp only [List.length_map]; omega)))) ?_
          refine k_ (g_ rfl rfl (by exact r_remN (b := 5) rfl rfl (lt_ rfl) rfl rfl (by first | omega | (simp only [List.length_map]; omega)))) ?_
          refine k_ (g_ rfl rfl (r_assign rfl rfl (lt_ rfl) rfl)) ?_
          refine z_ rfl (by kernel_rfl) ?_
          exact .list (fun i => i) ⟨rfl, rfl, rfl, rfl, rfl, rfl, rfl, rfl, rfl, rfl, int_eq (by unfold sat; rw [if_pos h7]), trivial⟩ ⟨⟨_, rfl, .var rfl⟩, ⟨_, rfl, .var rfl⟩, ⟨_, rfl, .arr1⟩, ⟨_, rfl, .arr1⟩, ⟨_, rfl, .var rfl⟩, ⟨_, rfl, .arr1⟩, ⟨_, rfl, .arr1⟩, trivial⟩ rfl
        · refine awp_skip ?_
          have h7 : ¬ k % 7 = 6 := by simp at hb; omega
          exact .list (fun i => i) ⟨rfl, rfl, rfl, rfl, rfl, rfl, rfl, rfl, rfl, rfl, int_eq (by unfold sat; rw [if_neg h7]), trivial⟩ ⟨⟨_, rfl, .var rfl⟩, ⟨_, rfl, .var rfl⟩, ⟨_, rfl, .arr1⟩, ⟨_, rfl, .arr1⟩, ⟨_, rfl, .var rfl⟩, ⟨_, rfl, .arr1⟩, ⟨_, rfl, .arr1⟩, trivial⟩ rfl
      generalize ea : sat i k j = a
      have ha5 : a < i ∨ k % 7 = 6 → a < 5 := by
        rintro (h | h)
        · omega
        · rw [← ea]; unfold sat; rw [if_pos h]; omega
      refine awp_seq ?_
      refine AWp.cut (mk [(0, .one (.c (.sl 1 (l.map encI)))), (2, .one (.vp 2 0)), (3, .one (.c (.sl 1 (namesL.map encS)))), (4, .one (.c (.sl 1 (consL.map encS)))), (5, .one (.vp 5 0)), (6, I .i64 n), (7, I .i64 i), (8, I .i64 k), (9, .one (.vp 9 0)), (10, I .i64 j), (11, I .i64 a), (68, B (decide (a < i ∨ k % 7 = 6)))] [(2, .var 28 [.c .nl, .c .nl, .c .nl, .c .nl]), (5, .var 28 [.c .nl, .hs 200 0 (mclss l i).length (mclss l i).length, .hs 201 0 0 0, .c .nl]), (200, .arr 66 6 ((mclss l i).map encCls) 1), (201, .arr 50 6 [] 1),
         (9, .var 66 [.c (.str (nm i)), .c (.int .i64 ((10 * i + 1 : Nat) : Int)), .c (.str [97]), .c .nl, .hs 300 0 (msup i k j).length (msup i k j).length, .hs 301 0 0 0]), (300, .arr 9 1 ((msup i k j).map encS) 1), (301, .arr 81 9 [] 1)]) ?_ ?_
      · by_cases h8 : a < i
        · have h8' : decide ((a : Int) < (i : Int)) = true := by simp [h8]
          refine awp_rg mixed ?_
          refine k_ (g_ rfl rfl (r_move rfl rfl (lt_ rfl) rfl)) ?_
          refine k_ (g_ rfl rfl (r_move rfl rfl (lt_ rfl) rfl)) ?_
          refine k_ (g_ rfl rfl (r_lss rfl rfl (lt_ rfl) rfl rfl)) ?_
          refine k_ (g_ rfl rfl (r_move rfl rfl (lt_ rfl) rfl)) ?_
          refine k_ (by first | exact GStep.no rfl rfl rfl (lt_ rfl) rfl rfl (by first | assumption | rfl | (simp; done) | (simp only [Bool.not]; assumption) | (simp; omega)) rfl | exact GStep.un rfl rfl rfl (lt_ rfl) rfl rfl) ?_
          refine k_ (by first | exact GStep.no rfl rfl rfl (lt_ rfl) rfl rfl (by first | assumption | rfl | (simp; done) | (simp only [Bool.not]; assumption) | (simp; omega)) rfl | exact GStep.un rfl rfl rfl (lt_ rfl) rfl rfl) ?_
          refine k_ (by first | exact GStep.no rfl rfl rfl (lt_ rfl) rfl rfl (by first | assumption | rfl | (simp; done) | (simp only [Bool.not]; assumption) | (simp; omega)) rfl | exact GStep.un rfl rfl rfl (lt_ rfl) rfl rfl) ?_
          refine k_ (g_ rfl rfl (by exact r_pick_t rfl rfl (lt_ rfl) rfl (by first | assumption | rfl | (simp; done)) rfl)) ?_
          refine z_ rfl (by kernel_rfl) ?_
          exact .list (fun i => i) ⟨rfl, rfl, rfl, rfl, rfl, rfl, rfl, rfl, rfl, rfl, rfl, by rw [show decide (a < i ∨ k % 7 = 6) = true by simp [h8]]; rfl, trivial⟩ ⟨⟨_, rfl, .var rfl⟩, ⟨_, rfl, .var rfl⟩, ⟨_, rfl, .arr1⟩, ⟨_, rfl, .arr1⟩, ⟨_, rfl, .var rfl⟩, ⟨_, rfl, .arr1⟩, ⟨_, rfl, .arr1⟩, trivial⟩ rfl
        · have h8' : decide ((a : Int) < (i : Int)) = false := by simp; omega
          refine awp_rg mixed ?_
          refine k_ (g_ rfl rfl (r_move rfl rfl (lt_ rfl) rfl)) ?_
          refine k_ (g_ rfl rfl (r_move rfl rfl (lt_ rfl) rfl)) ?_
          refine k_ (g_ rfl rfl (r_lss rfl rfl (lt_ rfl) rfl rfl)) ?_
          refine k_ (g_ rfl rfl (r_move rfl rfl (lt_ rfl) rfl)) ?_
          refine k_ (GStep.yes rfl rfl rfl rfl (by first | assumption | rfl | (simp; done) | (simp only [Bool.not]; assumption) | (simp; omega)) (by exact r_move rfl rfl (lt_ rfl) rfl)) ?_
          refine k_ (GStep.yes rfl rfl rfl rfl (by first | assumption | rfl | (simp; done) | (simp only [Bool.not]; assumption) | (simp; omega)) (by exact r_remN (b := 7) rfl rfl (lt_ rfl) rfl rfl (by first | omega | (simp only [List.length_map]; omega)))) ?_
          refine k_ (GStep.yes rfl rfl rfl rfl (by first | assumption | rfl | (simp; done) | (simp only [Bool.not]; assumption) | (simp; omega)) (by exact r_eql rfl rfl (lt_ rfl) rfl rfl)) ?_
          refine k_ (g_ rfl rfl (by exact r_pick_f rfl rfl (lt_ rfl) rfl (by first | assumption | rfl | (simp; done)) rfl)) ?_
          refine z_ rfl (by kernel_rfl) ?_
          exact .list (fun i => i) ⟨rfl, rfl, rfl, rfl, rfl, rfl, rfl, rfl, rfl, rfl, rfl, bool_eq (by simp [h8]; omega), trivial⟩ ⟨⟨_, rfl, .var rfl⟩, ⟨_, rfl, .var rfl⟩, ⟨_, rfl, .arr1⟩, ⟨_, rfl, .arr1⟩, ⟨_, rfl, .var rfl⟩, ⟨_, rfl, .arr1⟩, ⟨_, rfl, .arr1⟩, trivial⟩ rfl
      have e1 : msup i k (j + 1) = supF i k (msup i k j) j := range_fold _ _ _
      refine awp_cond rfl (fun hb => ?_) (fun hb => ?_)
      · have hc : a < i ∨ k % 7 = 6 := by simpa using hb
        have hna := nm_get (ha5 hc)
        have e2 : msup i k (j + 1) = msup i k j ++ [nm a] := by rw [e1]; unfold supF; rw [ea, if_pos hc]
        refine awp_rg mixed ?_
        refine k_ (g_ rfl rfl (by first | exact r_field_vp tok rfl rfl (lt_ rfl) t66 rfl rfl t40 (nz_ rfl) rfl | exact r_field_pt tok rfl rfl (lt_ rfl) t66 rfl rfl t40 (nz_ rfl) rfl | exact r_field_ep tok rfl rfl (lt_ rfl) t66 rfl rfl t40 (nz_ rfl) rfl rfl (by first | rfl | simp))) ?_
        refine k_ (g_ rfl rfl (by first | exact r_load tok rfl rfl (lt_ rfl) t40 rfl rfl rfl rfl | exact r_load_pt tok rfl rfl (lt_ rfl) t40 rfl (le_ rfl) rfl | exact r_load_ep tok rfl rfl (lt_ rfl) t40 rfl rfl (by first | rfl | simp) (by first | assumption | rfl) (le_ rfl) rfl)) ?_
        refine k_ (g_ rfl rfl (r_move rfl rfl (lt_ rfl) rfl)) ?_
        refine k_ (g_ rfl rfl (r_move rfl rfl (lt_ rfl) rfl)) ?_
        refine k_ (g_ rfl rfl (by first | exact r_index tok rfl rfl (lt_ rfl) t40 rfl t9 rfl rfl rfl rfl (by first | assumption | rfl) | exact r_index_hs tok rfl rfl (lt_ rfl) t40 rfl t9 rfl rfl rfl (by first | rfl | simp) rfl rfl (by first | decide | omega | (simp; done) | (simp; omega)))) ?_
        refine k_ (g_ rfl rfl (by first | exact r_load tok rfl rfl (lt_ rfl) t9 rfl rfl rfl rfl | exact r_load_pt tok rfl rfl (lt_ rfl) t9 rfl (le_ rfl) rfl | exact r_load_ep tok rfl rfl (lt_ rfl) t9 rfl rfl (by first | rfl | simp) (by first | assumption | rfl) (le_ rfl) rfl)) ?_
        refine k_ (g_ rfl rfl (r_slice 75 tok rfl rfl (lt_ rfl) t40 rfl t9 (.cons rfl rfl (.c .refl (.nil)) rfl (.nil)) rfl rfl rfl rfl)) ?_
        refine k_ (g_ rfl rfl (by exact r_append tok rfl rfl (lt_ rfl) t40 rfl t9 rfl rfl rfl rfl (by first | rfl | simp) rfl (by first | exact .all rfl (by first | rfl | simp) | exact .hs rfl (by first | rfl | simp) (by first | rfl | (simp; done) | (simp [Go.AM.take_map]; done) | exact Go.AM.take_map.symm) | exact .sl | exact .nl | exact .sn) (by first | (simp; done) | (simp; omega)))) ?_
        refine k_ (g_ rfl rfl (by first | exact r_field_vp tok rfl rfl (lt_ rfl) t66 rfl rfl t40 (nz_ rfl) rfl | exact r_field_pt tok rfl rfl (lt_ rfl) t66 rfl rfl t40 (nz_ rfl) rfl | exact r_field_ep tok rfl rfl (lt_ rfl) t66 rfl rfl t40 (nz_ rfl) rfl rfl (by first | rfl | simp))) ?_
        refine k_ (g_ rfl rfl (by first | exact r_store tok rfl rfl t40 rfl rfl rfl rfl rfl rfl | exact r_store_ep tok rfl rfl t40 rfl rfl rfl rfl rfl (by first | rfl | simp) (by first | assumption | rfl) rfl (le_ rfl))) ?_
        refine z_ rfl (by kernel_rfl) ?_
        refine awp_rg mixed ?_
        refine k_ (g_ rfl rfl (r_move rfl rfl (lt_ rfl) rfl)) ?_
        refine k_ (g_ rfl rfl (by exact r_addN (b := 1) rfl rfl (lt_ rfl) rfl rfl (by first | omega | (simp only [List.length_map]; omega)))) ?_
        refine k_ (g_ rfl rfl (r_assign rfl rfl (lt_ rfl) rfl)) ?_
        refine z_ rfl (by kernel_rfl) ?_
        exact ⟨j + 1, hltj, by dsimp only; omega, .list (fun i => i) ⟨rfl, rfl, rfl, rfl, rfl, rfl, rfl, rfl, rfl, rfl, trivial⟩ ⟨⟨_, rfl, .var rfl⟩, ⟨_, rfl, .var rfl⟩, ⟨_, rfl, .arr1⟩, ⟨_, rfl, .arr1⟩, ⟨_, rfl, .var (by rw [e2]; simp [R.renL, R.ren, splice])⟩, ⟨_, rfl, .arrE (by rw [e2]; simp [encS])⟩, ⟨_, rfl, .arr1⟩, trivial⟩ rfl⟩
      · refine awp_skip ?_
        have hc : ¬ (a < i ∨ k % 7 = 6) := by simpa using hb
        have e2 : msup i k (j + 1) = msup i k j := by rw [e1]; unfold supF; rw [ea, if_neg hc]
        refine awp_rg mixed ?_
        refine k_ (g_ rfl rfl (r_move rfl rfl (lt_ rfl) rfl)) ?_
        refine k_ (g_ rfl rfl (by exact r_addN (b := 1) rfl rfl (lt_ rfl) rfl rfl (by first | omega | (simp only [List.length_map]; omega)))) ?_
        refine k_ (g_ rfl rfl (r_assign rfl rfl (lt_ rfl) rfl)) ?_
        refine z_ rfl (by kernel_rfl) ?_
        exact ⟨j + 1, hltj, by dsimp only; omega, .list (fun i => i) ⟨rfl, rfl, rfl, rfl, rfl, rfl, rfl, rfl, rfl, rfl, trivial⟩ ⟨⟨_, rfl, .var rfl⟩, ⟨_, rfl, .var rfl⟩, ⟨_, rfl, .arr1⟩, ⟨_, rfl, .arr1⟩, ⟨_, rfl, .var (by rw [e2]; rfl)⟩, ⟨_, rfl, .arrE (by rw [e2])⟩, ⟨_, rfl, .arr1⟩, trivial⟩ rfl⟩
    · refine awp_exit ?_   -- 2
      have hge : j = k % 3 := by simp at hb; omega
      rw [hge] at hml ⊢
      generalize esp : msup i k (k % 3) = sp at hml ⊢
      refine awp_seq ?_
      refine awp_seq ?_
      refine awp_rg mixed ?_
      refine k_ (g_ rfl rfl (r_assign rfl rfl (lt_ rfl) rfl)) ?_
      refine z_ rfl (by kernel_rfl) ?_
      refine awp_block ?_   -- block 4
      refine awp_loop (fun j : Nat => mk [(0, .one (.c (.sl 1 (l.map encI)))), (2, .one (.vp 2 0)), (3, .one (.c (.sl 1 (namesL.map encS)))), (4, .one (.c (.sl 1 (consL.map encS)))), (5, .one (.vp 5 0)), (6, I .i64 n), (7, I .i64 i), (8, I .i64 k), (9, .one (.vp 9 0)), (12, I .i64 j)]
          [(2, .var 28 [.c .nl, .c .nl, .c .nl, .c .nl]), (5, .var 28 [.c .nl, .hs 200 0 (mclss l i).length (mclss l i).length, .hs 201 0 0 0, .c .nl]), (200, .arr 66 6 ((mclss l i).map encCls) 1), (201, .arr 50 6 [] 1),
           (9, .var 66 [.c (.str (nm i)), .c (.int .i64 ((10 * i + 1 : Nat) : Int)), .c (.str [97]), .c .nl, .hs 300 0 sp.length sp.length, .hs 301 0 (mmet i j).length (mmet i j).length]), (300, .arr 9 1 (sp.map encS) 1), (301, .arr 81 9 ((mmet i j).map encSig) 1)])
        (fun j => j ≤ k / 9 % 3) (fun j => k / 9 % 3 - j) 0 (Nat.zero_le _) (.list (fun i => i) ⟨rfl, rfl, rfl, rfl, rfl, rfl, rfl, rfl, rfl, rfl, trivial⟩ ⟨⟨_, rfl, .var rfl⟩, ⟨_, rfl, .var rfl⟩, ⟨_, rfl, .arr1⟩, ⟨_, rfl, .arr1⟩, ⟨_, rfl, .var rfl⟩, ⟨_, rfl, .arr1⟩, ⟨_, rfl, .arr1⟩, trivial⟩ rfl) ?_
      intro j hj
      refine awp_seq ?_
      refine awp_seq ?_
      refine awp_rg mixed ?_
      refine k_ (g_ rfl rfl (r_move rfl rfl (lt_ rfl) rfl)) ?_
      refine k_ (g_ rfl rfl (r_move rfl rfl (lt_ rfl) rfl)) ?_
      refine k_ (g_ rfl rfl (by exact r_quoN (b := 9) rfl rfl (lt_ rfl) rfl rfl (by first | omega | (simp only [List.length_map]; omega)))) ?_
      refine k_ (g_ rfl rfl (by exact r_remN (b := 3) rfl rfl (lt_ rfl) rfl rfl (by first | omega | (simp only [List.length_map]; omega)))) ?_
      refine k_ (g_ rfl rfl (r_lss rfl rfl (lt_ rfl) rfl rfl)) ?_
      refine z_ rfl (by kernel_rfl) ?_
      refine awp_cond rfl (fun hb => ?_) (fun hb => ?_)
      · refine awp_skip ?_
        have hltj : j < k / 9 % 3 := by simp at hb; omega
        have hnj := nm_get (k := (i * 2 + j) % 5) (by omega)
        have hnl := nm_len ((i * 2 + j) % 5)
        refine awp_seq ?_
        refine awp_block ?_   -- block 5
        have hmj : (mmet i j).length = j := by simp [mmet]
        have e3 : mmet i (j + 1) = mmet i j ++ [mmet1 i j] := by unfold mmet; rw [List.range_succ, List.map_append]; rfl
        refine awp_rg mixed ?_
        refine k_ (g_ rfl rfl (by first | exact r_field_vp tok rfl rfl (lt_ rfl) t66 rfl rfl t64 (nz_ rfl) rfl | exact r_field_pt tok rfl rfl (lt_ rfl) t66 rfl rfl t64 (nz_ rfl) rfl | exact r_field_ep tok rfl rfl (lt_ rfl) t66 rfl rfl t64 (nz_ rfl) rfl rfl (by first | rfl | simp))) ?_
        refine k_ (g_ rfl rfl (by first | exact r_load tok rfl rfl (lt_ rfl) t64 rfl rfl rfl rfl | exact r_load_pt tok rfl rfl (lt_ rfl) t64 rfl (le_ rfl) rfl | exact r_load_ep tok rfl rfl (lt_ rfl) t64 rfl rfl (by first | rfl | simp) (by first | assumption | rfl) (le_ rfl) rfl)) ?_
        refine k_ (g_ rfl rfl (r_move rfl rfl (lt_ rfl) rfl)) ?_
        refine k_ (g_ rfl rfl (r_move rfl rfl (lt_ rfl) rfl)) ?_
        refine k_ (g_ rfl rfl (by exact r_mulN (b := 2) rfl rfl (lt_ rfl) rfl rfl (by first | omega | (simp only [List.length_map]; omega)))) ?_
        refine k_ (g_ rfl rfl (r_move rfl rfl (lt_ rfl) rfl)) ?_
        refine k_ (g_ rfl rfl (by exact r_addN rfl rfl (lt_ rfl) rfl rfl (by first | omega | (simp only [List.length_map]; omega)))) ?_
        refine k_ (g_ rfl rfl (by exact r_remN (b := 5) rfl rfl (lt_ rfl) rfl rfl (by first | omega | (simp only [List.length_map]; omega)))) ?_
        refine k_ (g_ rfl rfl (by first | exact r_index tok rfl rfl (lt_ rfl) t40 rfl t9 rfl rfl rfl rfl (by first | assumption | rfl) | exact r_index_hs tok rfl rfl (lt_ rfl) t40 rfl t9 rfl rfl rfl (by first | rfl | simp) rfl rfl (by first | decide | omega | (simp; done) | (simp; omega)))) ?_
        refine k_ (g_ rfl rfl (by first | exact r_load tok rfl rfl (lt_ rfl) t9 rfl rfl rfl rfl | exact r_load_pt tok rfl rfl (lt_ rfl) t9 rfl (le_ rfl) rfl | exact r_load_ep tok rfl rfl (lt_ rfl) t9 rfl rfl (by first | rfl | simp) (by first | assumption | rfl) (le_ rfl) rfl)) ?_
        refine k_ (g_ rfl rfl (by exact r_sadd (a := [109]) (b := nm ((i * 2 + j) % 5)) rfl rfl (lt_ rfl) rfl rfl (by unfold maxLen; simp; omega))) ?_
        refine k_ (g_ rfl rfl (r_move rfl rfl (lt_ rfl) rfl)) ?_
        refine k_ (g_ rfl rfl (by exact r_mulN (a := 10) rfl rfl (lt_ rfl) rfl rfl (by first | omega | (simp only [List.length_map]; omega)))) ?_
        refine k_ (g_ rfl rfl (by exact r_addN (b := 2) rfl rfl (lt_ rfl) rfl rfl (by first | omega | (simp only [List.length_map]; omega)))) ?_
        refine k_ (g_ rfl rfl (r_move rfl rfl (lt_ rfl) rfl)) ?_
        refine k_ (g_ rfl rfl (by exact r_addN rfl rfl (lt_ rfl) rfl rfl (by first | omega | (simp only [List.length_map]; omega)))) ?_
        refine k_ (g_ rfl rfl (r_build tok rfl rfl (lt_ rfl) t81 rfl p81 rfl rfl)) ?_
        refine k_ (g_ rfl rfl (by exact r_slice 102 tok rfl rfl (lt_ rfl) t64 rfl t81 (.cons rfl rfl (by first | exact .of_pure | (refine .c .refl ?_; refine .c .refl ?_; (first | refine .hs rfl (by first | rfl | simp) (by first | rfl | (simp; done) | (simp [Go.AM.take_map]; done) | exact Go.AM.take_map.symm) ?_ | refine .c .refl ?_ | refine .c (Cle.nl (es := 1)) ?_); (first | refine .hs rfl (by first | rfl | simp) (by first | rfl | (simp; done) | (simp [Go.AM.take_map]; done) | exact Go.AM.take_map.symm) ?_ | refine .c .refl ?_ | refine .c (Cle.nl (es := 1)) ?_); (first | refine .hs rfl (by first | rfl | simp) (by first | rfl | (simp; done) | (simp [Go.AM.take_map]; done) | exact Go.AM.take_map.symm) ?_ | refine .c .refl ?_ | refine .c (Cle.nl (es := 5)) ?_); refine .c .refl ?_; refine .c .refl ?_; refine .c .refl ?_; (first | refine .hs rfl (by first | rfl | simp) (by first | rfl | (simp; done) | (simp [Go.AM.take_map]; done) | exact Go.AM.take_map.symm) ?_ | refine .c .refl ?_ | refine .c (Cle.nl (es := 4)) ?_); exact .nil)) rfl (.nil)) rfl rfl rfl rfl)) ?_
        refine k_ (g_ rfl rfl (by exact r_append tok rfl rfl (lt_ rfl) t64 rfl t81 rfl rfl rfl rfl (by first | rfl | simp) rfl (by first | exact .all rfl (by first | rfl | simp) | exact .hs rfl (by first | rfl | simp) (by first | rfl | (simp; done) | (simp [Go.AM.take_map]; done) | exact Go.AM.take_map.symm) | exact .sl | exact .nl | exact .sn) (by first | (simp; done) | (simp; omega)))) ?_
        refine k_ (g_ rfl rfl (by first | exact r_field_vp tok rfl rfl (lt_ rfl) t66 rfl rfl t64 (nz_ rfl) rfl | exact r_field_pt tok rfl rfl (lt_ rfl) t66 rfl rfl t64 (nz_ rfl) rfl | exact r_field_ep tok rfl rfl (lt_ rfl) t66 rfl rfl t64 (nz_ rfl) rfl rfl (by first | rfl | simp))) ?_
        refine k_ (g_ rfl rfl (by first | exact r_store tok rfl rfl t64 rfl rfl rfl rfl rfl rfl | exact r_store_ep tok rfl rfl t64 rfl rfl rfl rfl rfl (by first | rfl | simp) (by first | assumption | rfl) rfl (le_ rfl))) ?_
        refine z_ rfl (by kernel_rfl) ?_
        refine awp_rg mixed ?_
        refine k_ (g_ rfl rfl (r_move rfl rfl (lt_ rfl) rfl)) ?_
        refine k_ (g_ rfl rfl (by exact r_addN (b := 1) rfl rfl (lt_ rfl) rfl rfl (by first | omega | (simp only [List.length_map]; omega)))) ?_
        refine k_ (g_ rfl rfl (r_assign rfl rfl (lt_ rfl) rfl)) ?_
        refine z_ rfl (by kernel_rfl) ?_
        exact ⟨j + 1, hltj, by dsimp only; omega, .list (fun i => i) ⟨rfl, rfl, rfl, rfl, rfl, rfl, rfl, rfl, rfl, rfl, trivial⟩ ⟨⟨_, rfl, .var rfl⟩, ⟨_, rfl, .var rfl⟩, ⟨_, rfl, .arr1⟩, ⟨_, rfl, .arr1⟩, ⟨_, rfl, .var (by rw [e3]; simp [R.renL, R.ren, splice])⟩, ⟨_, rfl, .arr1⟩, ⟨_, rfl, .arrE (by rw [e3]; simp; rfl)⟩, trivial⟩ rfl⟩
      · refine awp_exit ?_   -- 4
        have hge : j = k / 9 % 3 := by simp at hb; omega
        rw [hge]
        have hci : (mclss l i).length = i := by simp [mclss]
        have e4 : mclss l (i + 1) = mclss l i ++ [⟨nm i, ((10 * i + 1 : Nat) : Int), [97], .nl, sp, mmet i (k / 9 % 3)⟩] := by unfold mclss; rw [List.range_succ, List.map_append, ← esp, ← ekn]; rfl
        refine AWp.sub (Sub.freeze (id := 300) rfl) (AWp.sub (Sub.freeze (id := 301) rfl) ?_)
        refine awp_rg mixed ?_
        refine k_ (g_ rfl rfl (by first | exact r_field_vp tok rfl rfl (lt_ rfl) t28 rfl rfl t24 (nz_ rfl) rfl | exact r_field_pt tok rfl rfl (lt_ rfl) t28 rfl rfl t24 (nz_ rfl) rfl | exact r_field_ep tok rfl rfl (lt_ rfl) t28 rfl rfl t24 (nz_ rfl) rfl rfl (by first | rfl | simp))) ?_
        refine k_ (g_ rfl rfl (by first | exact r_load tok rfl rfl (lt_ rfl) t24 rfl rfl rfl rfl | exact r_load_pt tok rfl rfl (lt_ rfl) t24 rfl (le_ rfl) rfl | exact r_load_ep tok rfl rfl (lt_ rfl) t24 rfl rfl (by first | rfl | simp) (by first | assumption | rfl) (le_ rfl) rfl)) ?_
        refine k_ (g_ rfl rfl (by first | exact r_load tok rfl rfl (lt_ rfl) t66 rfl rfl rfl rfl | exact r_load_pt tok rfl rfl (lt_ rfl) t66 rfl (le_ rfl) rfl | exact r_load_ep tok rfl rfl (lt_ rfl) t66 rfl rfl (by first | rfl | simp) (by first | assumption | rfl) (le_ rfl) rfl)) ?_
        refine k_ (g_ rfl rfl (by exact r_slice 108 tok rfl rfl (lt_ rfl) t24 rfl t66 (.cons (cs := encCls ⟨nm i, ((10 * i + 1 : Nat) : Int), [97], .nl, sp, mmet i (k / 9 % 3)⟩) rfl rfl (.c .refl (.c .refl (.c .refl (.c .refl (.hs rfl (by simp) take_map.symm (.hs rfl (by simp) take_map.symm .nil)))))) rfl .nil) rfl rfl rfl rfl)) ?_
        refine k_ (g_ rfl rfl (by exact r_append tok rfl rfl (lt_ rfl) t24 rfl t66 rfl rfl rfl rfl (by first | rfl | simp) rfl (by first | exact .all rfl (by first | rfl | simp) | exact .hs rfl (by first | rfl | simp) (by first | rfl | (simp; done) | (simp [Go.AM.take_map]; done) | exact Go.AM.take_map.symm) | exact .sl | exact .nl | exact .sn) (by first | (simp; done) | (simp; omega)))) ?_
        refine k_ (g_ rfl rfl (by first | exact r_field_vp tok rfl rfl (lt_ rfl) t28 rfl rfl t24 (nz_ rfl) rfl | exact r_field_pt tok rfl rfl (lt_ rfl) t28 rfl rfl t24 (nz_ rfl) rfl | exact r_field_ep tok rfl rfl (lt_ rfl) t28 rfl rfl t24 (nz_ rfl) rfl rfl (by first | rfl | simp))) ?_
        refine k_ (g_ rfl rfl (by first | exact r_store tok rfl rfl t24 rfl rfl rfl rfl rfl rfl | exact r_store_ep tok rfl rfl t24 rfl rfl rfl rfl rfl (by first | rfl | simp) (by first | assumption | rfl) rfl (le_ rfl))) ?_
        refine z_ rfl (by kernel_rfl) ?_
        refine awp_rg mixed ?_
        refine k_ (g_ rfl rfl (r_move rfl rfl (lt_ rfl) rfl)) ?_
        refine k_ (g_ rfl rfl (by exact r_addN (b := 1) rfl rfl (lt_ rfl) rfl rfl (by first | omega | (simp only [List.length_map]; omega)))) ?_
        refine k_ (g_ rfl rfl (r_assign rfl rfl (lt_ rfl) rfl)) ?_
        refine z_ rfl (by kernel_rfl) ?_
        exact ⟨i + 1, hlt, by dsimp only; omega, .list (fun i => i) ⟨rfl, rfl, rfl, rfl, rfl, rfl, rfl, trivial⟩ ⟨⟨_, rfl, .var rfl⟩, ⟨_, rfl, .var (by rw [e4]; simp [R.renL, R.ren, splice])⟩, ⟨_, rfl, .arrE (by rw [e4]; simp)⟩, ⟨_, rfl, .arr1⟩, trivial⟩ rfl⟩
  · refine awp_exit ?_   -- 0
    have hge : i = n % 6 := by simp at hb; omega
    subst hge
    refine awp_seq ?_
    refine awp_seq ?_
    refine awp_rg mixed ?_
    refine k_ (g_ rfl rfl (r_assign rfl rfl (lt_ rfl) rfl)) ?_
    refine z_ rfl (by kernel_rfl) ?_
    refine awp_block ?_   -- block 6
    refine awp_loop (fun m : Nat => mk [(0, .one (.c (.sl 1 (l.map encI)))), (2, .one (.vp 2 0)), (3, .one (.c (.sl 1 (namesL.map encS)))), (4, .one (.c (.sl 1 (consL.map encS)))), (5, .one (.vp 5 0)), (6, I .i64 n), (13, I .i64 (6 + m : Nat))]
        [(2, .var 28 [.c .nl, .c .nl, .c .nl, .c .nl]), (5, .var 28 [.c .nl, .hs 200 0 (mclss l (n % 6)).length (mclss l (n % 6)).length, .hs 201 0 (minsts l m).length (minsts l m).length, .c .nl]), (200, .arr 66 6 ((mclss l (n % 6)).map encCls) 1), (201, .arr 50 6 ((minsts l m).map encInst) 1)])
      (fun m => m ≤ min 14 (l.length - 6)) (fun m => 14 - m) 0 (Nat.zero_le _) (.list (fun i => i) ⟨rfl, rfl, rfl, rfl, rfl, rfl, rfl, trivial⟩ ⟨⟨_, rfl, .var rfl⟩, ⟨_, rfl, .var rfl⟩, ⟨_, rfl, .arr1⟩, ⟨_, rfl, .arr1⟩, trivial⟩ rfl) ?_
    intro m hm
    have hml := minsts_len l m
    refine awp_seq ?_
    refine awp_seq ?_
    refine AWp.cut (mk [(0, .one (.c (.sl 1 (l.map encI)))), (2, .one (.vp 2 0)), (3, .one (.c (.sl 1 (namesL.map encS)))), (4, .one (.c (.sl 1 (consL.map encS)))), (5, .one (.vp 5 0)), (6, I .i64 n), (13, I .i64 (6 + m : Nat)), (118, B (decide (6 + m < 20 ∧ 6 + m < l.length)))]
        [(2, .var 28 [.c .nl, .c .nl, .c .nl, .c .nl]), (5, .var 28 [.c .nl, .hs 200 0 (mclss l (n % 6)).length (mclss l (n % 6)).length, .hs 201 0 (minsts l m).length (minsts l m).length, .c .nl]), (200, .arr 66 6 ((mclss l (n % 6)).map encCls) 1), (201, .arr 50 6 ((minsts l m).map encInst) 1)]) ?_ ?_
    · by_cases h20 : 6 + m < 20
      · have h20' : decide (((6 + m : Nat) : Int) < 20) = true := by simp; omega
        refine awp_rg mixed ?_
        refine k_ (g_ rfl rfl (r_move rfl rfl (lt_ rfl) rfl)) ?_
        refine k_ (g_ rfl rfl (r_lss rfl rfl (lt_ rfl) rfl rfl)) ?_
        refine k_ (g_ rfl rfl (r_move rfl rfl (lt_ rfl) rfl)) ?_
        refine k_ (GStep.yes rfl rfl rfl rfl (by first | assumption | rfl | (simp; done) | (simp only [Bool.not]; assumption) | (simp; omega)) (by exact r_move rfl rfl (lt_ rfl) rfl)) ?_
        refine k_ (GStep.yes rfl rfl rfl rfl (by first | assumption | rfl | (simp; done) | (simp only [Bool.not]; assumption) | (simp; omega)) (by exact r_move rfl rfl (lt_ rfl) rfl)) ?_
        refine k_ (GStep.yes rfl rfl rfl rfl (by first | assumption | rfl | (simp; done) | (simp only [Bool.not]; assumption) | (simp; omega)) (by first | exact r_len_sl tok rfl rfl (lt_ rfl) t22 rfl rfl | exact r_len_hs tok rfl rfl (lt_ rfl) t22 rfl rfl rfl (by first | rfl | simp) | exact r_len_nl tok rfl rfl (lt_ rfl) t22 rfl rfl | exact r_len_str tok rfl rfl (lt_ rfl) t22 rfl rfl)) ?_
        refine k_ (GStep.yes rfl rfl rfl rfl (by first | assumption | rfl | (simp; done) | (simp only [Bool.not]; assumption) | (simp; omega)) (by exact r_lss rfl rfl (lt_ rfl) rfl rfl)) ?_
        refine k_ (g_ rfl rfl (by exact r_pick_t rfl rfl (lt_ rfl) rfl (by first | assumption | rfl | (simp; done)) rfl)) ?_
        refine z_ rfl (by kernel_rfl) ?_
        exact .list (fun i => i) ⟨rfl, rfl, rfl, rfl, rfl, rfl, rfl, bool_eq (by simp [h20]; omega), trivial⟩ ⟨⟨_, rfl, .var rfl⟩, ⟨_, rfl, .var rfl⟩, ⟨_, rfl, .arr1⟩, ⟨_, rfl, .arr1⟩, trivial⟩ rfl
      · have h20' : decide (((6 + m : Nat) : Int) < 20) = false := by simp; omega
        refine awp_rg mixed ?_
        refine k_ (g_ rfl rfl (r_move rfl rfl (lt_ rfl) rfl)) ?_
        refine k_ (g_ rfl rfl (r_lss rfl rfl (lt_ rfl) rfl rfl)) ?_
        refine k_ (g_ rfl rfl (r_move rfl rfl (lt_ rfl) rfl)) ?_
        refine k_ (by first | exact GStep.no rfl rfl rfl (lt_ rfl) rfl rfl (by first | assumption | rfl | (simp; done) | (simp only [Bool.not]; assumption) | (simp; omega)) rfl | exact GStep.un rfl rfl rfl (lt_ rfl) rfl rfl) ?_
        refine k_ (by first | exact GStep.no rfl rfl rfl (lt_ rfl) rfl rfl (by first | assumption | rfl | (simp; done) | (simp only [Bool.not]; assumption) | (simp; omega)) rfl | exact GStep.un rfl rfl rfl (lt_ rfl) rfl rfl) ?_
        refine k_ (by first | exact GStep.no rfl rfl rfl (lt_ rfl) rfl rfl (by first | assumption | rfl | (simp; done) | (simp only [Bool.not]; assumption) | (simp; omega)) rfl | exact GStep.un rfl rfl rfl (lt_ rfl) rfl rfl) ?_
        refine k_ (by first | exact GStep.no rfl rfl rfl (lt_ rfl) rfl rfl (by first | assumption | rfl | (simp; done) | (simp only [Bool.not]; assumption) | (simp; omega)) rfl | exact GStep.un rfl rfl rfl (lt_ rfl) rfl rfl) ?_
        refine k_ (g_ rfl rfl (by exact r_pick_f rfl rfl (lt_ rfl) rfl (by first | assumption | rfl | (simp; done)) rfl)) ?_
        refine z_ rfl (by kernel_rfl) ?_
        exact .list (fun i => i) ⟨rfl, rfl, rfl, rfl, rfl, rfl, rfl, bool_eq (by simp [h20]), trivial⟩ ⟨⟨_, rfl, .var rfl⟩, ⟨_, rfl, .var rfl⟩, ⟨_, rfl, .arr1⟩, ⟨_, rfl, .arr1⟩, trivial⟩ rfl
    refine awp_cond rfl (fun hb => ?_) (fun hb => ?_)
    · refine awp_skip ?_
      have hb' : 6 + m < 20 ∧ 6 + m < l.length := by simpa using hb
      obtain ⟨ek, bk⟩ := pick_in hr (6 + m)
      generalize ekn : pn l (6 + m) = k at ek bk
      have h1 := nm_get (k := k / 4 % 5) (by omega)
      have h2 := cn_get (k := k / 20 % 3) (by omega)
      have e5 : minsts l (m + 1) = instF l (minsts l m) (6 + m) := range_fold _ _ _
      refine awp_seq ?_
      refine awp_block ?_   -- block 7
      refine awp_seq ?_
      refine awp_rg mixed ?_
      refine k_ (g_ rfl rfl (r_move rfl rfl (lt_ rfl) rfl)) ?_
      refine k_ (g_ rfl rfl (r_move rfl rfl (lt_ rfl) rfl)) ?_
      refine k_ (g_ rfl rfl (by exact r_call [] [] b30 rfl rfl (lt_ rfl) (ek ▸ c30 l (6 + m) hr) (.cons rfl (by first | exact .refl | exact .one (.hs rfl (by first | rfl | simp) (by first | rfl | (simp; done) | (simp [Go.AM.take_map]; done) | exact Go.AM.take_map.symm) .nil) | exact .one (.c .nl .nil) | exact .one (.c .sn .nil)) (.cons rfl .refl (.nil))) (by repeat (first | exact trivial | refine ⟨rfl, ?_⟩)) (by repeat (first | exact trivial | refine ⟨.inr rfl, ?_⟩ | refine ⟨.inl (by decide), ?_⟩)) rfl)) ?_
      refine k_ (g_ rfl rfl (r_assign rfl rfl (lt_ rfl) rfl)) ?_
      refine z_ rfl (by kernel_rfl) ?_
      refine awp_seq ?_
      refine awp_seq ?_
      refine awp_rg mixed ?_
      refine k_ (g_ rfl rfl (r_move rfl rfl (lt_ rfl) rfl)) ?_
      refine k_ (g_ rfl rfl (by exact r_remN (b := 4) rfl rfl (lt_ rfl) rfl rfl (by first | omega | (simp only [List.length_map]; omega)))) ?_
      refine k_ (g_ rfl rfl (r_eql rfl rfl (lt_ rfl) rfl rfl)) ?_
      refine z_ rfl (by kernel_rfl) ?_
      refine awp_cond rfl (fun hb => ?_) (fun hb => ?_)
      · refine awp_exit ?_   -- 7
        have h3 : k % 4 = 3 := by simp at hb; omega
        have e6 : minsts l (m + 1) = minsts l m := by rw [e5]; unfold instF; rw [ekn, if_pos h3]
        refine awp_rg mixed ?_
        refine k_ (g_ rfl rfl (r_move rfl rfl (lt_ rfl) rfl)) ?_
        refine k_ (g_ rfl rfl (by exact r_addN (b := 1) rfl rfl (lt_ rfl) rfl rfl (by first | omega | (simp only [List.length_map]; omega)))) ?_
        refine k_ (g_ rfl rfl (r_assign rfl rfl (lt_ rfl) rfl)) ?_
        refine z_ rfl (by kernel_rfl) ?_
        exact ⟨m + 1, by omega, by dsimp only; omega, .list (fun i => i) ⟨rfl, rfl, rfl, rfl, rfl, rfl, int_eq (by omega), trivial⟩ ⟨⟨_, rfl, .var rfl⟩, ⟨_, rfl, .var (by rw [e6]; rfl)⟩, ⟨_, rfl, .arr1⟩, ⟨_, rfl, .arrE (by rw [e6])⟩, trivial⟩ rfl⟩
      · refine awp_skip ?_
        have h3 : ¬ k % 4 = 3 := by simp at hb; omega
        have e6 : minsts l (m + 1) = minsts l m ++ [minst (6 + m) k] := by rw [e5]; unfold instF; rw [ekn, if_neg h3]
        refine awp_rg mixed ?_
        refine k_ (g_ rfl rfl (by first | exact r_field_vp tok rfl rfl (lt_ rfl) t28 rfl rfl t25 (nz_ rfl) rfl | exact r_field_pt tok rfl rfl (lt_ rfl) t28 rfl rfl t25 (nz_ rfl) rfl | exact r_field_ep tok rfl rfl (lt_ rfl) t28 rfl rfl t25 (nz_ rfl) rfl rfl (by first | rfl | simp))) ?_
        refine k_ (g_ rfl rfl (by first | exact r_load tok rfl rfl (lt_ rfl) t25 rfl rfl rfl rfl | exact r_load_pt tok rfl rfl (lt_ rfl) t25 rfl (le_ rfl) rfl | exact r_load_ep tok rfl rfl (lt_ rfl) t25 rfl rfl (by first | rfl | simp) (by first | assumption | rfl) (le_ rfl) rfl)) ?_
        refine k_ (g_ rfl rfl (r_move rfl rfl (lt_ rfl) rfl)) ?_
        refine k_ (g_ rfl rfl (r_move rfl rfl (lt_ rfl) rfl)) ?_
        refine k_ (g_ rfl rfl (by exact r_quoN (b := 4) rfl rfl (lt_ rfl) rfl rfl (by first | omega | (simp only [List.length_map]; omega)))) ?_
        refine k_ (g_ rfl rfl (by exact r_remN (b := 5) rfl rfl (lt_ rfl) rfl rfl (by first | omega | (simp only [List.length_map]; omega)))) ?_
        refine k_ (g_ rfl rfl (by first | exact r_index tok rfl rfl (lt_ rfl) t40 rfl t9 rfl rfl rfl rfl (by first | assumption | rfl) | exact r_index_hs tok rfl rfl (lt_ rfl) t40 rfl t9 rfl rfl rfl (by first | rfl | simp) rfl rfl (by first | decide | omega | (simp; done) | (simp; omega)))) ?_
        refine k_ (g_ rfl rfl (by first | exact r_load tok rfl rfl (lt_ rfl) t9 rfl rfl rfl rfl | exact r_load_pt tok rfl rfl (lt_ rfl) t9 rfl (le_ rfl) rfl | exact r_load_ep tok rfl rfl (lt_ rfl) t9 rfl rfl (by first | rfl | simp) (by first | assumption | rfl) (le_ rfl) rfl)) ?_
        refine k_ (g_ rfl rfl (r_move rfl rfl (lt_ rfl) rfl)) ?_
        refine k_ (g_ rfl rfl (r_move rfl rfl (lt_ rfl) rfl)) ?_
        refine k_ (g_ rfl rfl (by exact r_quoN (b := 20) rfl rfl (lt_ rfl) rfl rfl (by first | omega | (simp only [List.length_map]; omega)))) ?_
        refine k_ (g_ rfl rfl (by exact r_remN (b := 3) rfl rfl (lt_ rfl) rfl rfl (by first | omega | (simp only [List.length_map]; omega)))) ?_
        refine k_ (g_ rfl rfl (by first | exact r_index tok rfl rfl (lt_ rfl) t40 rfl t9 rfl rfl rfl rfl (by first | assumption | rfl) | exact r_index_hs tok rfl rfl (lt_ rfl) t40 rfl t9 rfl rfl rfl (by first | rfl | simp) rfl rfl (by first | decide | omega | (simp; done) | (simp; omega)))) ?_
        refine k_ (g_ rfl rfl (by first | exact r_load tok rfl rfl (lt_ rfl) t9 rfl rfl rfl rfl | exact r_load_pt tok rfl rfl (lt_ rfl) t9 rfl (le_ rfl) rfl | exact r_load_ep tok rfl rfl (lt_ rfl) t9 rfl rfl (by first | rfl | simp) (by first | assumption | rfl) (le_ rfl) rfl)) ?_
        refine k_ (g_ rfl rfl (r_move rfl rfl (lt_ rfl) rfl)) ?_
        refine k_ (g_ rfl rfl (by exact r_mulN (b := 37) rfl rfl (lt_ rfl) rfl rfl (by first | omega | (simp only [List.length_map]; omega)))) ?_
        refine k_ (g_ rfl rfl (r_move rfl rfl (lt_ rfl) rfl)) ?_
        refine k_ (g_ rfl rfl (by exact r_quoN (b := 60) rfl rfl (lt_ rfl) rfl rfl (by first | omega | (simp only [List.length_map]; omega)))) ?_
        refine k_ (g_ rfl rfl (by exact r_addN rfl rfl (lt_ rfl) rfl rfl (by first | omega | (simp only [List.length_map]; omega)))) ?_
        refine k_ (g_ rfl rfl (by exact r_remN (b := 300) rfl rfl (lt_ rfl) rfl rfl (by first | omega | (simp only [List.length_map]; omega)))) ?_
        refine k_ (g_ rfl rfl (by exact r_addN (a := 100) rfl rfl (lt_ rfl) rfl rfl (by first | omega | (simp only [List.length_map]; omega)))) ?_
        refine k_ (g_ rfl rfl (r_build tok rfl rfl (lt_ rfl) t50 rfl p50 rfl rfl)) ?_
        refine k_ (g_ rfl rfl (by exact r_slice 149 tok rfl rfl (lt_ rfl) t25 rfl t50 (.cons rfl rfl (by first | exact .of_pure | (refine .c .refl ?_; refine .c .refl ?_; refine .c .refl ?_; (first | refine .hs rfl (by first | rfl | simp) (by first | rfl | (simp; done) | (simp [Go.AM.take_map]; done) | exact Go.AM.take_map.symm) ?_ | refine .c .refl ?_ | refine .c (Cle.nl (es := 1)) ?_); (first | refine .hs rfl (by first | rfl | simp) (by first | rfl | (simp; done) | (simp [Go.AM.take_map]; done) | exact Go.AM.take_map.symm) ?_ | refine .c .refl ?_ | refine .c (Cle.nl (es := 5)) ?_); (first | refine .hs rfl (by first | rfl | simp) (by first | rfl | (simp; done) | (simp [Go.AM.take_map]; done) | exact Go.AM.take_map.symm) ?_ | refine .c .refl ?_ | refine .c (Cle.nl (es := 33)) ?_); exact .nil)) rfl (.nil)) rfl rfl rfl rfl)) ?_
        refine k_ (g_ rfl rfl (by exact r_append tok rfl rfl (lt_ rfl) t25 rfl t50 rfl rfl rfl rfl (by first | rfl | simp) rfl (by first | exact .all rfl (by first | rfl | simp) | exact .hs rfl (by first | rfl | simp) (by first | rfl | (simp; done) | (simp [Go.AM.take_map]; done) | exact Go.AM.take_map.symm) | exact .sl | exact .nl | exact .sn) (by first | (simp; done) | (simp; omega)))) ?_
        refine k_ (g_ rfl rfl (by first | exact r_field_vp tok rfl rfl (lt_ rfl) t28 rfl rfl t25 (nz_ rfl) rfl | exact r_field_pt tok rfl rfl (lt_ rfl) t28 rfl rfl t25 (nz_ rfl) rfl | exact r_field_ep tok rfl rfl (lt_ rfl) t28 rfl rfl t25 (nz_ rfl) rfl rfl (by first | rfl | simp))) ?_
        refine k_ (g_ rfl rfl (by first | exact r_store tok rfl rfl t25 rfl rfl rfl rfl rfl rfl | exact r_store_ep tok rfl rfl t25 rfl rfl rfl rfl rfl (by first | rfl | simp) (by first | assumption | rfl) rfl (le_ rfl))) ?_
        refine z_ rfl (by kernel_rfl) ?_
        refine awp_rg mixed ?_
        refine k_ (g_ rfl rfl (r_move rfl rfl (lt_ rfl) rfl)) ?_
        refine k_ (g_ rfl rfl (by exact r_addN (b := 1) rfl rfl (lt_ rfl) rfl rfl (by first | omega | (simp only [List.length_map]; omega)))) ?_
        refine k_ (g_ rfl rfl (r_assign rfl rfl (lt_ rfl) rfl)) ?_
        refine z_ rfl (by kernel_rfl) ?_
        exact ⟨m + 1, by omega, by dsimp only; omega, .list (fun i => i) ⟨rfl, rfl, rfl, rfl, rfl, rfl, int_eq (by omega), trivial⟩ ⟨⟨_, rfl, .var rfl⟩, ⟨_, rfl, .var (by rw [e6]; simp [R.renL, R.ren, splice])⟩, ⟨_, rfl, .arr1⟩, ⟨_, rfl, .arrE (by rw [e6]; simp; rfl)⟩, trivial⟩ rfl⟩
    · refine awp_exit ?_   -- 6
      have hb' : ¬ (6 + m < 20 ∧ 6 + m < l.length) := by simpa using hb
      have hge : m = min 14 (l.length - 6) := by omega
      have emp : mprog l = ⟨.nl, mclss l (n % 6), minsts l m, .nl⟩ := by unfold mprog; rw [en, ← hge]
      refine AWp.sub (Sub.freeze (id := 200) rfl) (AWp.sub (Sub.freeze (id := 201) rfl) ?_)
      refine awp_seq ?_
      refine awp_seq ?_
      refine awp_rg mixed ?_
      refine k_ (g_ rfl rfl (r_move rfl rfl (lt_ rfl) rfl)) ?_
      refine k_ (g_ rfl rfl (by exact r_quoN (b := 6) rfl rfl (lt_ rfl) rfl rfl (by first | omega | (simp only [List.length_map]; omega)))) ?_
      refine k_ (g_ rfl rfl (by exact r_remN (b := 3) rfl rfl (lt_ rfl) rfl rfl (by first | omega | (simp only [List.length_map]; omega)))) ?_
      refine k_ (g_ rfl rfl (r_gtr rfl rfl (lt_ rfl) rfl rfl)) ?_
      refine z_ rfl (by kernel_rfl) ?_
      refine awp_cond rfl (fun hb => ?_) (fun hb => ?_)
      · refine awp_seq ?_
        have h3 : n / 6 % 3 > 0 := by simp at hb; omega
        have c31' : ImpC Try.prog 31 [.pa (encProg ⟨.nl, mclss l (n % 6), minsts l m, .nl⟩)] [] (.pa (encProg (whole (mprog l)))) [] := by rw [← emp]; exact c31 (mprog l) (mprog_PS l)
        refine awp_rg mixed ?_
        refine k_ (g_ rfl rfl (by first | exact r_load tok rfl rfl (lt_ rfl) t28 rfl rfl rfl rfl | exact r_load_pt tok rfl rfl (lt_ rfl) t28 rfl (le_ rfl) rfl | exact r_load_ep tok rfl rfl (lt_ rfl) t28 rfl rfl (by first | rfl | simp) (by first | assumption | rfl) (le_ rfl) rfl)) ?_
        refine k_ (g_ rfl rfl (by exact r_call [] [] b31 rfl rfl (lt_ rfl) c31' (.cons rfl (.agg (.c .refl (.hs rfl (by simp) take_map.symm (.hs rfl (by simp) take_map.symm (.c .refl .nil))))) (.nil)) (by repeat (first | exact trivial | refine ⟨rfl, ?_⟩)) (by repeat (first | exact trivial | refine ⟨.inr rfl, ?_⟩ | refine ⟨.inl (by decide), ?_⟩)) rfl)) ?_
        refine k_ (g_ rfl rfl (by first | exact r_store tok rfl rfl t28 rfl rfl rfl rfl rfl rfl | exact r_store_ep tok rfl rfl t28 rfl rfl rfl rfl rfl (by first | rfl | simp) (by first | assumption | rfl) rfl (le_ rfl))) ?_
        refine z_ rfl (by kernel_rfl) ?_
        refine awp_ret ?_
        rw [show made l = whole (mprog l) by unfold made; rw [en, if_pos h3]]
        exact ⟨.inr rfl, ⟨_, _, .cell rfl t28 rfl rfl rfl .nil, .cons .refl .nil, rfl⟩, trivial, rfl⟩
      · refine awp_skip ?_
        have h3 : ¬ n / 6 % 3 > 0 := by simp at hb; omega
        refine awp_seq ?_
        refine awp_rg mixed ?_
        refine k_ (g_ rfl rfl (by first | exact r_load tok rfl rfl (lt_ rfl) t28 rfl rfl rfl rfl | exact r_load_pt tok rfl rfl (lt_ rfl) t28 rfl (le_ rfl) rfl | exact r_load_ep tok rfl rfl (lt_ rfl) t28 rfl rfl (by first | rfl | simp) (by first | assumption | rfl) (le_ rfl) rfl)) ?_
        refine k_ (g_ rfl rfl (by first | exact r_store tok rfl rfl t28 rfl rfl rfl rfl rfl rfl | exact r_store_ep tok rfl rfl t28 rfl rfl rfl rfl rfl (by first | rfl | simp) (by first | assumption | rfl) rfl (le_ rfl))) ?_
        refine z_ rfl (by kernel_rfl) ?_
        refine awp_ret ?_
        rw [show made l = mprog l by unfold made; rw [en, if_neg h3], emp]
        exact ⟨.inr rfl, ⟨_, [.pa (encProg ⟨.nl, mclss l (n % 6), minsts l m, .nl⟩)], .cell rfl t28 rfl rfl rfl .nil, .cons (.agg (.c .refl (.hs rfl (by simp) take_map.symm (.hs rfl (by simp) take_map.symm (.c .refl .nil))))) .nil, rfl⟩, trivial, rfl⟩
end Go.Proofs.Ythfeeaifddppoaa
