/-
  THE PROGRAM's refusals.
-/
import Derived.Test.YthfeeaifddppoaaCl15
namespace Go.Proofs.Ythfeeaifddppoaa
open Go Go.AM
set_option maxRecDepth 20000
set_option maxHeartbeats 1000000

theorem b35 : bodied Try.prog 35 := ⟨Try.f35, Try.func35, by decide, rfl⟩

def r1F (p : Prog) (acc : List At) (c : Cls) : List At := if ((cls p c.name).getD zCls).at_ = c.at_ ∧ (climbR p c.name c.name).isSome = true then acc ++ [⟨35, c.at_⟩] else acc
def r2 (p : Prog) (o : List At) : Nat → List At
  | 0 => o
  | k + 1 => match p.insts[k]? with
    | none => r2 p o k
    | some x => if (inst p x.cls x.con).isSome = true ∧ (inst p x.cls x.con).getD 0 < k then r2 p o k ++ [⟨34, x.at_⟩] else r2 p o k
def r3F (p : Prog) (acc : List At) (x : Inst) : List At := if bare p x = true then acc ++ [⟨35, x.at_⟩] else acc
def refl1 (p : Prog) : List At := p.classes.foldl (r1F p) []
def refl (p : Prog) : List At := p.insts.foldl (r3F p) (r2 p (refl1 p) p.insts.length)

theorem fold_len {α : Type} (f : List At → α → List At) (hf : ∀ a x, (f a x).length ≤ a.length + 1) : ∀ (l : List α) (a : List At), (l.foldl f a).length ≤ a.length + l.length
  | [], a => by simp
  | x :: l, a => by
    have h1 := fold_len f hf l (f a x)
    have h2 := hf a x
    simp only [List.foldl_cons, List.length_cons]
    omega
theorem r1F_len (p : Prog) (a : List At) (c : Cls) : (r1F p a c).length ≤ a.length + 1 := by unfold r1F; split <;> simp
theorem r3F_len (p : Prog) (a : List At) (c : Inst) : (r3F p a c).length ≤ a.length + 1 := by unfold r3F; split <;> simp
theorem r2_len (p : Prog) (o : List At) : ∀ k, (r2 p o k).length ≤ o.length + k
  | 0 => by simp [r2]
  | k + 1 => by
    have := r2_len p o k
    unfold r2
    split
    · omega
    · split
      · simp; omega
      · omega

theorem c35 (p : Prog) (e : Env) (he : EnvOk p e) (hp : PS p) : ImpC Try.prog 35 [.one (.c (.pt (encEnv e))), .pa (encProg p)] [] (.one (.c (.sl 2 ((refl p).map encAt)))) [] := by
  have hl := hp.cls
  have hli := hp.insts
  unfold Small at hl hli
  have hcs := he.cstr
  have hei := he.insts
  refine impC (n := 110) tok Try.func35 rfl rfl rfl ?_
  refine awp_seq ?_
  refine awp_rg mixed ?_
  refine k_ (g_ rfl rfl (r_box 2 rfl rfl (lt_ rfl) rfl rfl rfl)) ?_
  refine k_ (g_ rfl rfl (r_box 3 rfl rfl (lt_ rfl) rfl rfl rfl)) ?_
  refine k_ (g_ rfl rfl (r_assign rfl rfl (lt_ rfl) rfl)) ?_
  refine z_ rfl (by kernel_rfl) ?_
  refine awp_seq ?_
  refine awp_rg mixed ?_
  refine k_ (g_ rfl rfl (r_assign rfl rfl (lt_ rfl) rfl)) ?_
  refine z_ rfl (by kernel_rfl) ?_
  refine AWp.sub (Sub.own (t := 5) (id := 500) 34 2 rfl rfl) ?_
  refine awp_seq ?_
  refine awp_seq ?_
  refine awp_rg mixed ?_
  refine k_ (g_ rfl rfl (by first | exact r_field_vp tok rfl rfl (lt_ rfl) t28 rfl rfl t24 (nz_ rfl) rfl | exact r_field_pt tok rfl rfl (lt_ rfl) t28 rfl rfl t24 (nz_ rfl) rfl | exact r_field_ep tok rfl rfl (lt_ rfl) t28 rfl rfl t24 (nz_ rfl) rfl rfl (by first | rfl | simp))) ?_
  refine k_ (g_ rfl rfl (by first | exact r_load tok rfl rfl (lt_ rfl) t24 rfl rfl rfl rfl | exact r_load_pt tok rfl rfl (lt_ rfl) t24 rfl (le_ rfl) rfl | exact r_load_ep tok rfl rfl (lt_ rfl) t24 rfl rfl (by first | rfl | simp) (by first | assumption | rfl) (le_ rfl) rfl)) ?_
  refine k_ (g_ rfl rfl (by first | exact r_len_sl tok rfl rfl (lt_ rfl) t24 rfl rfl | exact r_len_hs tok rfl rfl (lt_ rfl) t24 rfl rfl rfl (by first | rfl | simp) | exact r_len_nl tok rfl rfl (lt_ rfl) t24 rfl rfl | exact r_len_str tok rfl rfl (lt_ rfl) t24 rfl rfl)) ?_
  refine k_ (g_ rfl rfl (r_move rfl rfl (lt_ rfl) rfl)) ?_
  refine z_ rfl (by kernel_rfl) ?_
  refine awp_block ?_   -- block 0
  refine awp_loop (fun x : Nat × List At => mk [(2, .one (.vp 2 0)), (5, .one (.hs 500 0 x.2.length x.2.length)), (17, .one (.c (.sl 6 (p.classes.map encCls)))), (18, I .i64 p.classes.length), (19, I .i64 x.1)] [(2, .var 31 [.c (.pt (encEnv e))]), (500, .arr 34 2 (x.2.map encAt) 1)])
    (fun x => x.1 ≤ p.classes.length ∧ x.2.length ≤ x.1 ∧ x.2 = (p.classes.take x.1).foldl (r1F p) []) (fun x => p.classes.length - x.1) (0, []) ⟨Nat.zero_le _, Nat.le_refl _, by simp⟩ (.list (fun i => i) ⟨rfl, rfl, rfl, int_eq (by simp), rfl, trivial⟩ ⟨⟨_, rfl, .var rfl⟩, ⟨_, rfl, .arr1⟩, trivial⟩ rfl) ?_
  rintro ⟨i, acc⟩ ⟨hi, hal, hit⟩
  dsimp only at hi hal hit ⊢
  refine awp_seq ?_
  refine awp_rg mixed ?_
  refine k_ (g_ rfl rfl (r_lss rfl rfl (lt_ rfl) rfl rfl)) ?_
  refine z_ rfl (by kernel_rfl) ?_
  refine awp_seq ?_
  refine awp_cond rfl (fun hb => ?_) (fun hb => ?_)
  · refine awp_skip ?_
    have hlt : i < p.classes.length := by simpa using hb
    obtain ⟨c, hc⟩ := get_of_lt hlt
    have hc' := getEnc encCls hc
    obtain ⟨c', hcc⟩ : ∃ c', cls p c.name = some c' := by
      cases h : cls p c.name with
      | some c' => exact ⟨c', rfl⟩
      | none =>
        unfold cls at h
        rw [List.find?_eq_none] at h
        have := h c (List.mem_of_getElem? hc)
        simp at this
    have hf := he.cls c.name
    rw [hcc] at hf
    have hf' : mfind c.name e.cm = some (encCls c') := hf
    refine awp_seq ?_
    refine awp_block ?_   -- block 1
    refine awp_seq ?_
    refine awp_rg mixed ?_
    refine k_ (g_ rfl rfl (by first | exact r_index tok rfl rfl (lt_ rfl) t24 rfl t66 rfl rfl rfl rfl (by first | assumption | rfl) | exact r_index_hs tok rfl rfl (lt_ rfl) t24 rfl t66 rfl rfl rfl (by first | rfl | simp) rfl rfl (by first | decide | omega | (simp; done) | (simp; omega)))) ?_
    refine k_ (g_ rfl rfl (by first | exact r_load tok rfl rfl (lt_ rfl) t66 rfl rfl rfl rfl | exact r_load_pt tok rfl rfl (lt_ rfl) t66 rfl (le_ rfl) rfl | exact r_load_ep tok rfl rfl (lt_ rfl) t66 rfl rfl (by first | rfl | simp) (by first | assumption | rfl) (le_ rfl) rfl)) ?_
    refine k_ (g_ rfl rfl (r_alloc 7 tok rfl rfl (lt_ rfl) t66 rfl)) ?_
    refine k_ (g_ rfl rfl (by first | exact r_store tok rfl rfl t66 rfl rfl rfl rfl rfl rfl | exact r_store_ep tok rfl rfl t66 rfl rfl rfl rfl rfl (by first | rfl | simp) (by first | assumption | rfl) rfl (le_ rfl))) ?_
    refine z_ rfl (by kernel_rfl) ?_
    refine awp_seq ?_
    refine awp_rg mixed ?_
    refine k_ (g_ rfl rfl (by first | exact r_load tok rfl rfl (lt_ rfl) t31 rfl rfl rfl rfl | exact r_load_pt tok rfl rfl (lt_ rfl) t31 rfl (le_ rfl) rfl | exact r_load_ep tok rfl rfl (lt_ rfl) t31 rfl rfl (by first | rfl | simp) (by first | assumption | rfl) (le_ rfl) rfl)) ?_
    refine k_ (g_ rfl rfl (r_nilCheck rfl rfl (lt_ rfl) rfl rfl)) ?_
    refine k_ (g_ rfl rfl (by first | exact r_field_vp tok rfl rfl (lt_ rfl) t86 rfl rfl t82 (nz_ rfl) rfl | exact r_field_pt tok rfl rfl (lt_ rfl) t86 rfl rfl t82 (nz_ rfl) rfl | exact r_field_ep tok rfl rfl (lt_ rfl) t86 rfl rfl t82 (nz_ rfl) rfl rfl (by first | rfl | simp))) ?_
    refine k_ (g_ rfl rfl (by first | exact r_load tok rfl rfl (lt_ rfl) t82 rfl rfl rfl rfl | exact r_load_pt tok rfl rfl (lt_ rfl) t82 rfl (le_ rfl) rfl | exact r_load_ep tok rfl rfl (lt_ rfl) t82 rfl rfl (by first | rfl | simp) (by first | assumption | rfl) (le_ rfl) rfl)) ?_
    refine k_ (g_ rfl rfl (by first | exact r_field_vp tok rfl rfl (lt_ rfl) t66 rfl rfl t9 (nz_ rfl) rfl | exact r_field_pt tok rfl rfl (lt_ rfl) t66 rfl rfl t9 (nz_ rfl) rfl | exact r_field_ep tok rfl rfl (lt_ rfl) t66 rfl rfl t9 (nz_ rfl) rfl rfl (by first | rfl | simp))) ?_
    refine k_ (g_ rfl rfl (by first | exact r_load tok rfl rfl (lt_ rfl) t9 rfl rfl rfl rfl | exact r_load_pt tok rfl rfl (lt_ rfl) t9 rfl (le_ rfl) rfl | exact r_load_ep tok rfl rfl (lt_ rfl) t9 rfl rfl (by first | rfl | simp) (by first | assumption | rfl) (le_ rfl) rfl)) ?_
    refine k_ (g_ rfl rfl (by exact r_lookup tok rfl rfl (lt_ rfl) t82 rfl t9 rfl t66 rfl rfl (by first | exact .mr rfl | exact .mp | exact .nil) (by first | assumption | exact trivial) rfl hf')) ?_
    refine k_ (g_ rfl rfl (r_alloc 8 tok rfl rfl (lt_ rfl) t66 rfl)) ?_
    refine k_ (g_ rfl rfl (by first | exact r_store tok rfl rfl t66 rfl rfl rfl rfl rfl rfl | exact r_store_ep tok rfl rfl t66 rfl rfl rfl rfl rfl (by first | rfl | simp) (by first | assumption | rfl) rfl (le_ rfl))) ?_
    refine z_ rfl (by kernel_rfl) ?_
    refine awp_seq ?_
    by_cases h1 : c'.at_ = c.at_
    · have h1' : decide (c'.at_ = c.at_) = true := by simp [h1]
      refine awp_rg mixed ?_
      refine k_ (g_ rfl rfl (by first | exact r_field_vp tok rfl rfl (lt_ rfl) t66 rfl rfl t3 (nz_ rfl) rfl | exact r_field_pt tok rfl rfl (lt_ rfl) t66 rfl rfl t3 (nz_ rfl) rfl | exact r_field_ep tok rfl rfl (lt_ rfl) t66 rfl rfl t3 (nz_ rfl) rfl rfl (by first | rfl | simp))) ?_
      refine k_ (g_ rfl rfl (by first | exact r_load tok rfl rfl (lt_ rfl) t3 rfl rfl rfl rfl | exact r_load_pt tok rfl rfl (lt_ rfl) t3 rfl (le_ rfl) rfl | exact r_load_ep tok rfl rfl (lt_ rfl) t3 rfl rfl (by first | rfl | simp) (by first | assumption | rfl) (le_ rfl) rfl)) ?_
      refine k_ (g_ rfl rfl (by first | exact r_field_vp tok rfl rfl (lt_ rfl) t66 rfl rfl t3 (nz_ rfl) rfl | exact r_field_pt tok rfl rfl (lt_ rfl) t66 rfl rfl t3 (nz_ rfl) rfl | exact r_field_ep tok rfl rfl (lt_ rfl) t66 rfl rfl t3 (nz_ rfl) rfl rfl (by first | rfl | simp))) ?_
      refine k_ (g_ rfl rfl (by first | exact r_load tok rfl rfl (lt_ rfl) t3 rfl rfl rfl rfl | exact r_load_pt tok rfl rfl (lt_ rfl) t3 rfl (le_ rfl) rfl | exact r_load_ep tok rfl rfl (lt_ rfl) t3 rfl rfl (by first | rfl | simp) (by first | assumption | rfl) (le_ rfl) rfl)) ?_
      refine k_ (g_ rfl rfl (r_eql rfl rfl (lt_ rfl) rfl rfl)) ?_
      refine k_ (g_ rfl rfl (r_move rfl rfl (lt_ rfl) rfl)) ?_
      refine k_ (GStep.yes rfl rfl rfl rfl (by first | assumption | rfl | (simp; done) | (simp only [Bool.not]; assumption) | (simp; omega)) (by first | exact r_load tok rfl rfl (lt_ rfl) t31 rfl rfl rfl rfl | exact r_load_pt tok rfl rfl (lt_ rfl) t31 rfl (le_ rfl) rfl | exact r_load_ep tok rfl rfl (lt_ rfl) t31 rfl rfl (by first | rfl | simp) (by first | assumption | rfl) (le_ rfl) rfl)) ?_
      refine k_ (GStep.yes rfl rfl rfl rfl (by first | assumption | rfl | (simp; done) | (simp only [Bool.not]; assumption) | (simp; omega)) (by first | exact r_field_vp tok rfl rfl (lt_ rfl) t66 rfl rfl t9 (nz_ rfl) rfl | exact r_field_pt tok rfl rfl (lt_ rfl) t66 rfl rfl t9 (nz_ rfl) rfl | exact r_field_ep tok rfl rfl (lt_ rfl) t66 rfl rfl t9 (nz_ rfl) rfl rfl (by first | rfl | simp))) ?_
      refine k_ (GStep.yes rfl rfl rfl rfl (by first | assumption | rfl | (simp; done) | (simp only [Bool.not]; assumption) | (simp; omega)) (by first | exact r_load tok rfl rfl (lt_ rfl) t9 rfl rfl rfl rfl | exact r_load_pt tok rfl rfl (lt_ rfl) t9 rfl (le_ rfl) rfl | exact r_load_ep tok rfl rfl (lt_ rfl) t9 rfl rfl (by first | rfl | simp) (by first | assumption | rfl) (le_ rfl) rfl)) ?_
      refine k_ (GStep.yes rfl rfl rfl rfl (by first | assumption | rfl | (simp; done) | (simp only [Bool.not]; assumption) | (simp; omega)) (by first | exact r_field_vp tok rfl rfl (lt_ rfl) t66 rfl rfl t9 (nz_ rfl) rfl | exact r_field_pt tok rfl rfl (lt_ rfl) t66 rfl rfl t9 (nz_ rfl) rfl | exact r_field_ep tok rfl rfl (lt_ rfl) t66 rfl rfl t9 (nz_ rfl) rfl rfl (by first | rfl | simp))) ?_
      refine k_ (GStep.yes rfl rfl rfl rfl (by first | assumption | rfl | (simp; done) | (simp only [Bool.not]; assumption) | (simp; omega)) (by first | exact r_load tok rfl rfl (lt_ rfl) t9 rfl rfl rfl rfl | exact r_load_pt tok rfl rfl (lt_ rfl) t9 rfl (le_ rfl) rfl | exact r_load_ep tok rfl rfl (lt_ rfl) t9 rfl rfl (by first | rfl | simp) (by first | assumption | rfl) (le_ rfl) rfl)) ?_
      refine k_ (GStep.yes rfl rfl rfl rfl (by first | assumption | rfl | (simp; done) | (simp only [Bool.not]; assumption) | (simp; omega)) (by exact r_call [] [] b51 rfl rfl (lt_ rfl) (c51 p e c.name c.name he hp) (.cons rfl .refl (.cons rfl .refl (.cons rfl .refl (.nil)))) (by repeat (first | exact trivial | refine ⟨rfl, ?_⟩)) (by repeat (first | exact trivial | refine ⟨.inr rfl, ?_⟩ | refine ⟨.inl (by decide), ?_⟩)) rfl)) ?_
      refine k_ (g_ rfl rfl (by exact r_pick_t rfl rfl (lt_ rfl) rfl (by first | assumption | rfl | (simp; done)) rfl)) ?_
      refine z_ rfl (by kernel_rfl) ?_
      refine awp_cond rfl (fun hb => ?_) (fun hb => ?_)
      · have hst : r1F p acc c = acc ++ [⟨35, c.at_⟩] := by unfold r1F; rw [if_pos]; rw [hcc]; exact ⟨h1, hb⟩
        refine awp_rg mixed ?_
        refine k_ (g_ rfl rfl (r_move rfl rfl (lt_ rfl) rfl)) ?_
        refine k_ (g_ rfl rfl (by first | exact r_field_vp tok rfl rfl (lt_ rfl) t66 rfl rfl t3 (nz_ rfl) rfl | exact r_field_pt tok rfl rfl (lt_ rfl) t66 rfl rfl t3 (nz_ rfl) rfl | exact r_field_ep tok rfl rfl (lt_ rfl) t66 rfl rfl t3 (nz_ rfl) rfl rfl (by first | rfl | simp))) ?_
        refine k_ (g_ rfl rfl (by first | exact r_load tok rfl rfl (lt_ rfl) t3 rfl rfl rfl rfl | exact r_load_pt tok rfl rfl (lt_ rfl) t3 rfl (le_ rfl) rfl | exact r_load_ep tok rfl rfl (lt_ rfl) t3 rfl rfl (by first | rfl | simp) (by first | assumption | rfl) (le_ rfl) rfl)) ?_
        refine k_ (g_ rfl rfl (r_build tok rfl rfl (lt_ rfl) t34 rfl p34 rfl rfl)) ?_
        refine k_ (g_ rfl rfl (r_slice 47 tok rfl rfl (lt_ rfl) t95 rfl t34 (.cons rfl rfl (.c .refl (.c .refl (.nil))) rfl (.nil)) rfl rfl rfl rfl)) ?_
        refine k_ (g_ rfl rfl (by exact r_append tok rfl rfl (lt_ rfl) t95 rfl t34 rfl rfl rfl rfl (by first | rfl | simp) rfl (by first | exact .all rfl (by first | rfl | simp) | exact .hs rfl (by first | rfl | simp) (by first | rfl | (simp; done) | (simp [Go.AM.take_map]; done) | exact Go.AM.take_map.symm) | exact .sl | exact .nl | exact .sn) (by first | (simp; done) | (simp; omega)))) ?_
        refine k_ (g_ rfl rfl (r_assign rfl rfl (lt_ rfl) rfl)) ?_
        refine z_ rfl (by kernel_rfl) ?_
        refine awp_rg mixed ?_
        refine k_ (g_ rfl rfl (by exact r_addI rfl rfl (lt_ rfl) rfl rfl (by first | omega | (simp only [List.length_map]; omega)))) ?_
        refine k_ (g_ rfl rfl (r_move rfl rfl (lt_ rfl) rfl)) ?_
        refine z_ rfl (by kernel_rfl) ?_
        exact ⟨(i + 1, acc ++ [⟨35, c.at_⟩]), ⟨hlt, by simp; omega, by dsimp only; rw [← hst, hit]; exact (fold_take hc).symm⟩, by dsimp only; omega, .list (fun i => i) ⟨rfl, hs_len (by simp), rfl, rfl, rfl, trivial⟩ ⟨⟨_, rfl, .var rfl⟩, ⟨_, rfl, .arrE (by simp; rfl)⟩, trivial⟩ rfl⟩
      · refine awp_skip ?_
        have hst : r1F p acc c = acc := by unfold r1F; rw [if_neg]; rw [hb]; simp
        refine awp_rg mixed ?_
        refine k_ (g_ rfl rfl (by exact r_addI rfl rfl (lt_ rfl) rfl rfl (by first | omega | (simp only [List.length_map]; omega)))) ?_
        refine k_ (g_ rfl rfl (r_move rfl rfl (lt_ rfl) rfl)) ?_
        refine z_ rfl (by kernel_rfl) ?_
        exact ⟨(i + 1, acc), ⟨hlt, by dsimp only; omega, by dsimp only; rw [← hst, hit]; exact (fold_take hc).symm⟩, by dsimp only; omega, .list (fun i => i) ⟨rfl, rfl, rfl, rfl, rfl, trivial⟩ ⟨⟨_, rfl, .var rfl⟩, ⟨_, rfl, .arr1⟩, trivial⟩ rfl⟩
    · have h1' : decide (c'.at_ = c.at_) = false := by simp [h1]
      refine awp_rg mixed ?_
      refine k_ (g_ rfl rfl (by first | exact r_field_vp tok rfl rfl (lt_ rfl) t66 rfl rfl t3 (nz_ rfl) rfl | exact r_field_pt tok rfl rfl (lt_ rfl) t66 rfl rfl t3 (nz_ rfl) rfl | exact r_field_ep tok rfl rfl (lt_ rfl) t66 rfl rfl t3 (nz_ rfl) rfl rfl (by first | rfl | simp))) ?_
      refine k_ (g_ rfl rfl (by first | exact r_load tok rfl rfl (lt_ rfl) t3 rfl rfl rfl rfl | exact r_load_pt tok rfl rfl (lt_ rfl) t3 rfl (le_ rfl) rfl | exact r_load_ep tok rfl rfl (lt_ rfl) t3 rfl rfl (by first | rfl | simp) (by first | assumption | rfl) (le_ rfl) rfl)) ?_
      refine k_ (g_ rfl rfl (by first | exact r_field_vp tok rfl rfl (lt_ rfl) t66 rfl rfl t3 (nz_ rfl) rfl | exact r_field_pt tok rfl rfl (lt_ rfl) t66 rfl rfl t3 (nz_ rfl) rfl | exact r_field_ep tok rfl rfl (lt_ rfl) t66 rfl rfl t3 (nz_ rfl) rfl rfl (by first | rfl | simp))) ?_
      refine k_ (g_ rfl rfl (by first | exact r_load tok rfl rfl (lt_ rfl) t3 rfl rfl rfl rfl | exact r_load_pt tok rfl rfl (lt_ rfl) t3 rfl (le_ rfl) rfl | exact r_load_ep tok rfl rfl (lt_ rfl) t3 rfl rfl (by first | rfl | simp) (by first | assumption | rfl) (le_ rfl) rfl)) ?_
      refine k_ (g_ rfl rfl (r_eql rfl rfl (lt_ rfl) rfl rfl)) ?_
      refine k_ (g_ rfl rfl (r_move rfl rfl (lt_ rfl) rfl)) ?_
      refine k_ (by first | exact GStep.no rfl rfl rfl (lt_ rfl) rfl rfl (by first | assumption | rfl | (simp; done) | (simp only [Bool.not]; assumption) | (simp; omega)) rfl | exact GStep.un rfl rfl rfl (lt_ rfl) rfl rfl) ?_
      refine k_ (by first | exact GStep.no rfl rfl rfl (lt_ rfl) rfl rfl (by first | assumption | rfl | (simp; done) | (simp only [Bool.not]; assumption) | (simp; omega)) rfl | exact GStep.un rfl rfl rfl (lt_ rfl) rfl rfl) ?_
      refine k_ (by first | exact GStep.no rfl rfl rfl (lt_ rfl) rfl rfl (by first | assumption | rfl | (simp; done) | (simp only [Bool.not]; assumption) | (simp; omega)) rfl | exact GStep.un rfl rfl rfl (lt_ rfl) rfl rfl) ?_
      refine k_ (by first | exact GStep.no rfl rfl rfl (lt_ rfl) rfl rfl (by first | assumption | rfl | (simp; done) | (simp only [Bool.not]; assumption) | (simp; omega)) rfl | exact GStep.un rfl rfl rfl (lt_ rfl) rfl rfl) ?_
      refine k_ (by first | exact GStep.no rfl rfl rfl (lt_ rfl) rfl rfl (by first | assumption | rfl | (simp; done) | (simp only [Bool.not]; assumption) | (simp; omega)) rfl | exact GStep.un rfl rfl rfl (lt_ rfl) rfl rfl) ?_
      refine k_ (by first | exact GStep.no rfl rfl rfl (lt_ rfl) rfl rfl (by first | assumption | rfl | (simp; done) | (simp only [Bool.not]; assumption) | (simp; omega)) rfl | exact GStep.un rfl rfl rfl (lt_ rfl) rfl rfl) ?_
      refine k_ (g_ rfl rfl (by exact r_pick_f rfl rfl (lt_ rfl) rfl (by first | assumption | rfl | (simp; done)) rfl)) ?_
      refine z_ rfl (by kernel_rfl) ?_
      refine awp_cond rfl (fun hb => by cases hb) (fun hb => ?_)
      refine awp_skip ?_
      have hst : r1F p acc c = acc := by unfold r1F; rw [if_neg]; rw [hcc]; simp [h1]
      refine awp_rg mixed ?_
      refine k_ (g_ rfl rfl (by exact r_addI rfl rfl (lt_ rfl) rfl rfl (by first | omega | (simp only [List.length_map]; omega)))) ?_
      refine k_ (g_ rfl rfl (r_move rfl rfl (lt_ rfl) rfl)) ?_
      refine z_ rfl (by kernel_rfl) ?_
      exact ⟨(i + 1, acc), ⟨hlt, by dsimp only; omega, by dsimp only; rw [← hst, hit]; exact (fold_take hc).symm⟩, by dsimp only; omega, .list (fun i => i) ⟨rfl, rfl, rfl, rfl, rfl, trivial⟩ ⟨⟨_, rfl, .var rfl⟩, ⟨_, rfl, .arr1⟩, trivial⟩ rfl⟩
  · refine awp_exit ?_   -- 0
    have hge : i = p.classes.length := by
      have : ¬ i < p.classes.length := by simpa using hb
      omega
    rw [hge, List.take_length] at hit
    rw [hge] at hal
    have hal1 : (refl1 p).length ≤ p.classes.length := by have := hal; rw [hit] at this; exact this
    rw [show acc = refl1 p from hit]
    refine awp_seq ?_
    refine awp_seq ?_
    refine awp_rg mixed ?_
    refine k_ (g_ rfl rfl (by first | exact r_load tok rfl rfl (lt_ rfl) t31 rfl rfl rfl rfl | exact r_load_pt tok rfl rfl (lt_ rfl) t31 rfl (le_ rfl) rfl | exact r_load_ep tok rfl rfl (lt_ rfl) t31 rfl rfl (by first | rfl | simp) (by first | assumption | rfl) (le_ rfl) rfl)) ?_
    refine k_ (g_ rfl rfl (r_nilCheck rfl rfl (lt_ rfl) rfl rfl)) ?_
    refine k_ (g_ rfl rfl (by first | exact r_field_vp tok rfl rfl (lt_ rfl) t86 rfl rfl t25 (nz_ rfl) rfl | exact r_field_pt tok rfl rfl (lt_ rfl) t86 rfl rfl t25 (nz_ rfl) rfl | exact r_field_ep tok rfl rfl (lt_ rfl) t86 rfl rfl t25 (nz_ rfl) rfl rfl (by first | rfl | simp))) ?_
    refine k_ (g_ rfl rfl (by first | exact r_load tok rfl rfl (lt_ rfl) t25 rfl rfl rfl rfl | exact r_load_pt tok rfl rfl (lt_ rfl) t25 rfl (le_ rfl) rfl | exact r_load_ep tok rfl rfl (lt_ rfl) t25 rfl rfl (by first | rfl | simp) (by first | assumption | rfl) (le_ rfl) rfl)) ?_
    refine k_ (g_ rfl rfl (by first | exact r_len_sl tok rfl rfl (lt_ rfl) t25 rfl rfl | exact r_len_hs tok rfl rfl (lt_ rfl) t25 rfl rfl rfl (by first | rfl | simp) | exact r_len_nl tok rfl rfl (lt_ rfl) t25 rfl rfl | exact r_len_str tok rfl rfl (lt_ rfl) t25 rfl rfl)) ?_
    refine k_ (g_ rfl rfl (r_move rfl rfl (lt_ rfl) rfl)) ?_
    refine z_ rfl (by kernel_rfl) ?_
    refine awp_block ?_   -- block 2
    refine awp_loop (fun i : Nat => mk [(2, .one (.vp 2 0)), (5, .one (.hs 500 0 (r2 p (refl1 p) i).length (r2 p (refl1 p) i).length)), (53, .one (.c (.sl 6 (e.insts.map encInst)))), (54, I .i64 e.insts.length), (55, I .i64 i)] [(2, .var 31 [.c (.pt (encEnv e))]), (500, .arr 34 2 ((r2 p (refl1 p) i).map encAt) 1)])
      (fun i => i ≤ e.insts.length) (fun i => e.insts.length - i) 0 (Nat.zero_le _) (.list (fun i => i) ⟨rfl, rfl, rfl, int_eq (by simp), rfl, trivial⟩ ⟨⟨_, rfl, .var rfl⟩, ⟨_, rfl, .arr1⟩, trivial⟩ rfl) ?_
    intro i hi
    have hil : i ≤ p.insts.length := by rw [← hei]; exact hi
    have hr2 := r2_len p (refl1 p) i
    refine awp_seq ?_
    refine awp_rg mixed ?_
    refine k_ (g_ rfl rfl (r_lss rfl rfl (lt_ rfl) rfl rfl)) ?_
    refine z_ rfl (by kernel_rfl) ?_
    refine awp_seq ?_
    refine awp_cond rfl (fun hb => ?_) (fun hb => ?_)
    · refine awp_skip ?_
      have hlt : i < e.insts.length := by simpa using hb
      obtain ⟨x, hx⟩ := get_of_lt hlt
      have hx' := getEnc encInst hx
      have hxp : p.insts[i]? = some x := by rw [← hei]; exact hx
      refine awp_seq ?_
      refine awp_block ?_   -- block 3
      refine awp_seq ?_
      refine awp_rg mixed ?_
      refine k_ (g_ rfl rfl (r_move rfl rfl (lt_ rfl) rfl)) ?_
      refine k_ (g_ rfl rfl (by first | exact r_index tok rfl rfl (lt_ rfl) t25 rfl t50 rfl rfl rfl rfl (by first | assumption | rfl) | exact r_index_hs tok rfl rfl (lt_ rfl) t25 rfl t50 rfl rfl rfl (by first | rfl | simp) rfl rfl (by first | decide | omega | (simp; done) | (simp; omega)))) ?_
      refine k_ (g_ rfl rfl (by first | exact r_load tok rfl rfl (lt_ rfl) t50 rfl rfl rfl rfl | exact r_load_pt tok rfl rfl (lt_ rfl) t50 rfl (le_ rfl) rfl | exact r_load_ep tok rfl rfl (lt_ rfl) t50 rfl rfl (by first | rfl | simp) (by first | assumption | rfl) (le_ rfl) rfl)) ?_
      refine k_ (g_ rfl rfl (r_alloc 10 tok rfl rfl (lt_ rfl) t50 rfl)) ?_
      refine k_ (g_ rfl rfl (r_assign rfl rfl (lt_ rfl) rfl)) ?_
      refine k_ (g_ rfl rfl (by first | exact r_store tok rfl rfl t50 rfl rfl rfl rfl rfl rfl | exact r_store_ep tok rfl rfl t50 rfl rfl rfl rfl rfl (by first | rfl | simp) (by first | assumption | rfl) rfl (le_ rfl))) ?_
      refine z_ rfl (by kernel_rfl) ?_
      refine awp_seq ?_
      refine awp_rg mixed ?_
      refine k_ (g_ rfl rfl (by first | exact r_load tok rfl rfl (lt_ rfl) t31 rfl rfl rfl rfl | exact r_load_pt tok rfl rfl (lt_ rfl) t31 rfl (le_ rfl) rfl | exact r_load_ep tok rfl rfl (lt_ rfl) t31 rfl rfl (by first | rfl | simp) (by first | assumption | rfl) (le_ rfl) rfl)) ?_
      refine k_ (g_ rfl rfl (by first | exact r_field_vp tok rfl rfl (lt_ rfl) t50 rfl rfl t9 (nz_ rfl) rfl | exact r_field_pt tok rfl rfl (lt_ rfl) t50 rfl rfl t9 (nz_ rfl) rfl | exact r_field_ep tok rfl rfl (lt_ rfl) t50 rfl rfl t9 (nz_ rfl) rfl rfl (by first | rfl | simp))) ?_
      refine k_ (g_ rfl rfl (by first | exact r_load tok rfl rfl (lt_ rfl) t9 rfl rfl rfl rfl | exact r_load_pt tok rfl rfl (lt_ rfl) t9 rfl (le_ rfl) rfl | exact r_load_ep tok rfl rfl (lt_ rfl) t9 rfl rfl (by first | rfl | simp) (by first | assumption | rfl) (le_ rfl) rfl)) ?_
      refine k_ (g_ rfl rfl (by first | exact r_field_vp tok rfl rfl (lt_ rfl) t50 rfl rfl t9 (nz_ rfl) rfl | exact r_field_pt tok rfl rfl (lt_ rfl) t50 rfl rfl t9 (nz_ rfl) rfl | exact r_field_ep tok rfl rfl (lt_ rfl) t50 rfl rfl t9 (nz_ rfl) rfl rfl (by first | rfl | simp))) ?_
      refine k_ (g_ rfl rfl (by first | exact r_load tok rfl rfl (lt_ rfl) t9 rfl rfl rfl rfl | exact r_load_pt tok rfl rfl (lt_ rfl) t9 rfl (le_ rfl) rfl | exact r_load_ep tok rfl rfl (lt_ rfl) t9 rfl rfl (by first | rfl | simp) (by first | assumption | rfl) (le_ rfl) rfl)) ?_
      refine k_ (g_ rfl rfl (by exact r_call [] [] b16 rfl rfl (lt_ rfl) (c16 p e x.cls x.con he hp) (.cons rfl .refl (.cons rfl .refl (.cons rfl .refl (.nil)))) (by repeat (first | exact trivial | refine ⟨rfl, ?_⟩)) (by repeat (first | exact trivial | refine ⟨.inr rfl, ?_⟩ | refine ⟨.inl (by decide), ?_⟩)) rfl)) ?_
      refine k_ (g_ rfl rfl (r_move rfl rfl (lt_ rfl) rfl)) ?_
      refine k_ (g_ rfl rfl (r_extract rfl rfl (lt_ rfl) rfl rfl)) ?_
      refine k_ (g_ rfl rfl (r_extract rfl rfl (lt_ rfl) rfl rfl)) ?_
      refine k_ (g_ rfl rfl (r_assign rfl rfl (lt_ rfl) rfl)) ?_
      refine k_ (g_ rfl rfl (r_assign rfl rfl (lt_ rfl) rfl)) ?_
      refine z_ rfl (by kernel_rfl) ?_
      refine awp_seq ?_
      by_cases h1 : (inst p x.cls x.con).isSome = true
      · have h1' := h1
        refine awp_rg mixed ?_
        refine k_ (g_ rfl rfl (r_move rfl rfl (lt_ rfl) rfl)) ?_
        refine k_ (g_ rfl rfl (r_move rfl rfl (lt_ rfl) rfl)) ?_
        refine k_ (GStep.yes rfl rfl rfl rfl (by first | assumption | rfl | (simp; done) | (simp only [Bool.not]; assumption) | (simp; omega)) (by exact r_move rfl rfl (lt_ rfl) rfl)) ?_
        refine k_ (GStep.yes rfl rfl rfl rfl (by first | assumption | rfl | (simp; done) | (simp only [Bool.not]; assumption) | (simp; omega)) (by exact r_move rfl rfl (lt_ rfl) rfl)) ?_
        refine k_ (GStep.yes rfl rfl rfl rfl (by first | assumption | rfl | (simp; done) | (simp only [Bool.not]; assumption) | (simp; omega)) (by exact r_lss rfl rfl (lt_ rfl) rfl rfl)) ?_
        refine k_ (g_ rfl rfl (by exact r_pick_t rfl rfl (lt_ rfl) rfl (by first | assumption | rfl | (simp; done)) rfl)) ?_
        refine z_ rfl (by kernel_rfl) ?_
        refine awp_cond rfl (fun hb => ?_) (fun hb => ?_)
        · have h2 : (inst p x.cls x.con).getD 0 < i := by simpa using hb
          have hst : r2 p (refl1 p) (i + 1) = r2 p (refl1 p) i ++ [⟨34, x.at_⟩] := by simp only [r2, hxp]; rw [if_pos ⟨h1, h2⟩]
          refine awp_rg mixed ?_
          refine k_ (g_ rfl rfl (r_move rfl rfl (lt_ rfl) rfl)) ?_
          refine k_ (g_ rfl rfl (by first | exact r_field_vp tok rfl rfl (lt_ rfl) t50 rfl rfl t3 (nz_ rfl) rfl | exact r_field_pt tok rfl rfl (lt_ rfl) t50 rfl rfl t3 (nz_ rfl) rfl | exact r_field_ep tok rfl rfl (lt_ rfl) t50 rfl rfl t3 (nz_ rfl) rfl rfl (by first | rfl | simp))) ?_
          refine k_ (g_ rfl rfl (by first | exact r_load tok rfl rfl (lt_ rfl) t3 rfl rfl rfl rfl | exact r_load_pt tok rfl rfl (lt_ rfl) t3 rfl (le_ rfl) rfl | exact r_load_ep tok rfl rfl (lt_ rfl) t3 rfl rfl (by first | rfl | simp) (by first | assumption | rfl) (le_ rfl) rfl)) ?_
          refine k_ (g_ rfl rfl (r_build tok rfl rfl (lt_ rfl) t34 rfl p34 rfl rfl)) ?_
          refine k_ (g_ rfl rfl (r_slice 79 tok rfl rfl (lt_ rfl) t95 rfl t34 (.cons rfl rfl (.c .refl (.c .refl (.nil))) rfl (.nil)) rfl rfl rfl rfl)) ?_
          refine k_ (g_ rfl rfl (by exact r_append tok rfl rfl (lt_ rfl) t95 rfl t34 rfl rfl rfl rfl (by first | rfl | simp) rfl (by first | exact .all rfl (by first | rfl | simp) | exact .hs rfl (by first | rfl | simp) (by first | rfl | (simp; done) | (simp [Go.AM.take_map]; done) | exact Go.AM.take_map.symm) | exact .sl | exact .nl | exact .sn) (by first | (simp; done) | (simp; omega)))) ?_
          refine k_ (g_ rfl rfl (r_assign rfl rfl (lt_ rfl) rfl)) ?_
          refine z_ rfl (by kernel_rfl) ?_
          refine awp_rg mixed ?_
          refine k_ (g_ rfl rfl (by exact r_addI rfl rfl (lt_ rfl) rfl rfl (by first | omega | (simp only [List.length_map]; omega)))) ?_
          refine k_ (g_ rfl rfl (r_move rfl rfl (lt_ rfl) rfl)) ?_
          refine z_ rfl (by kernel_rfl) ?_
          exact ⟨i + 1, hlt, by dsimp only; omega, .list (fun i => i) ⟨rfl, hs_len (by rw [hst]; simp), rfl, rfl, rfl, trivial⟩ ⟨⟨_, rfl, .var rfl⟩, ⟨_, rfl, .arrE (by rw [hst]; simp; rfl)⟩, trivial⟩ rfl⟩
        · refine awp_skip ?_
          have h2 : ¬ (inst p x.cls x.con).getD 0 < i := by simpa using hb
          have hst : r2 p (refl1 p) (i + 1) = r2 p (refl1 p) i := by simp only [r2, hxp]; rw [if_neg]; exact fun h => h2 h.2
          refine awp_rg mixed ?_
          refine k_ (g_ rfl rfl (by exact r_addI rfl rfl (lt_ rfl) rfl rfl (by first | omega | (simp only [List.length_map]; omega)))) ?_
          refine k_ (g_ rfl rfl (r_move rfl rfl (lt_ rfl) rfl)) ?_
          refine z_ rfl (by kernel_rfl) ?_
          exact ⟨i + 1, hlt, by dsimp only; omega, .list (fun i => i) ⟨rfl, hs_len (by rw [hst]), rfl, rfl, rfl, trivial⟩ ⟨⟨_, rfl, .var rfl⟩, ⟨_, rfl, .arrE (by rw [hst])⟩, trivial⟩ rfl⟩
      · have h1' : (inst p x.cls x.con).isSome = false := by simpa using h1
        refine awp_rg mixed ?_
        refine k_ (g_ rfl rfl (r_move rfl rfl (lt_ rfl) rfl)) ?_
        refine k_ (g_ rfl rfl (r_move rfl rfl (lt_ rfl) rfl)) ?_
        refine k_ (by first | exact GStep.no rfl rfl rfl (lt_ rfl) rfl rfl (by first | assumption | rfl | (simp; done) | (simp only [Bool.not]; assumption) | (simp; omega)) rfl | exact GStep.un rfl rfl rfl (lt_ rfl) rfl rfl) ?_
        refine k_ (by first | exact GStep.no rfl rfl rfl (lt_ rfl) rfl rfl (by first | assumption | rfl | (simp; done) | (simp only [Bool.not]; assumption) | (simp; omega)) rfl | exact GStep.un rfl rfl rfl (lt_ rfl) rfl rfl) ?_
        refine k_ (by first | exact GStep.no rfl rfl rfl (lt_ rfl) rfl rfl (by first | assumption | rfl | (simp; done) | (simp only [Bool.not]; assumption) | (simp; omega)) rfl | exact GStep.un rfl rfl rfl (lt_ rfl) rfl rfl) ?_
        refine k_ (g_ rfl rfl (by exact r_pick_f rfl rfl (lt_ rfl) rfl (by first | assumption | rfl | (simp; done)) rfl)) ?_
        refine z_ rfl (by kernel_rfl) ?_
        refine awp_cond rfl (fun hb => by cases hb) (fun hb => ?_)
        refine awp_skip ?_
        have hst : r2 p (refl1 p) (i + 1) = r2 p (refl1 p) i := by simp only [r2, hxp]; rw [if_neg]; exact fun h => h1 h.1
        refine awp_rg mixed ?_
        refine k_ (g_ rfl rfl (by exact r_addI rfl rfl (lt_ rfl) rfl rfl (by first | omega | (simp only [List.length_map]; omega)))) ?_
        refine k_ (g_ rfl rfl (r_move rfl rfl (lt_ rfl) rfl)) ?_
        refine z_ rfl (by kernel_rfl) ?_
        exact ⟨i + 1, hlt, by dsimp only; omega, .list (fun i => i) ⟨rfl, hs_len (by rw [hst]), rfl, rfl, rfl, trivial⟩ ⟨⟨_, rfl, .var rfl⟩, ⟨_, rfl, .arrE (by rw [hst])⟩, trivial⟩ rfl⟩
    · refine awp_exit ?_   -- 2
      have hge : i = e.insts.length := by
        have : ¬ i < e.insts.length := by simpa using hb
        omega
      rw [hge, show e.insts.length = p.insts.length by rw [hei]] at hr2
      rw [hge, show e.insts.length = p.insts.length by rw [hei]]
      refine awp_seq ?_
      refine awp_seq ?_
      refine awp_rg mixed ?_
      refine k_ (g_ rfl rfl (by first | exact r_load tok rfl rfl (lt_ rfl) t31 rfl rfl rfl rfl | exact r_load_pt tok rfl rfl (lt_ rfl) t31 rfl (le_ rfl) rfl | exact r_load_ep tok rfl rfl (lt_ rfl) t31 rfl rfl (by first | rfl | simp) (by first | assumption | rfl) (le_ rfl) rfl)) ?_
      refine k_ (g_ rfl rfl (r_nilCheck rfl rfl (lt_ rfl) rfl rfl)) ?_
      refine k_ (g_ rfl rfl (by first | exact r_field_vp tok rfl rfl (lt_ rfl) t86 rfl rfl t25 (nz_ rfl) rfl | exact r_field_pt tok rfl rfl (lt_ rfl) t86 rfl rfl t25 (nz_ rfl) rfl | exact r_field_ep tok rfl rfl (lt_ rfl) t86 rfl rfl t25 (nz_ rfl) rfl rfl (by first | rfl | simp))) ?_
      refine k_ (g_ rfl rfl (by first | exact r_load tok rfl rfl (lt_ rfl) t25 rfl rfl rfl rfl | exact r_load_pt tok rfl rfl (lt_ rfl) t25 rfl (le_ rfl) rfl | exact r_load_ep tok rfl rfl (lt_ rfl) t25 rfl rfl (by first | rfl | simp) (by first | assumption | rfl) (le_ rfl) rfl)) ?_
      refine k_ (g_ rfl rfl (by first | exact r_len_sl tok rfl rfl (lt_ rfl) t25 rfl rfl | exact r_len_hs tok rfl rfl (lt_ rfl) t25 rfl rfl rfl (by first | rfl | simp) | exact r_len_nl tok rfl rfl (lt_ rfl) t25 rfl rfl | exact r_len_str tok rfl rfl (lt_ rfl) t25 rfl rfl)) ?_
      refine k_ (g_ rfl rfl (r_move rfl rfl (lt_ rfl) rfl)) ?_
      refine z_ rfl (by kernel_rfl) ?_
      refine awp_block ?_   -- block 4
      refine awp_loop (fun y : Nat × List At => mk [(2, .one (.vp 2 0)), (5, .one (.hs 500 0 y.2.length y.2.length)), (85, .one (.c (.sl 6 (e.insts.map encInst)))), (86, I .i64 e.insts.length), (87, I .i64 y.1)] [(2, .var 31 [.c (.pt (encEnv e))]), (500, .arr 34 2 (y.2.map encAt) 1)])
        (fun y => y.1 ≤ e.insts.length ∧ y.2.length ≤ (r2 p (refl1 p) p.insts.length).length + y.1 ∧ y.2 = (p.insts.take y.1).foldl (r3F p) (r2 p (refl1 p) p.insts.length)) (fun y => e.insts.length - y.1) (0, r2 p (refl1 p) p.insts.length) ⟨Nat.zero_le _, Nat.le_refl _, by simp⟩ (.list (fun i => i) ⟨rfl, rfl, rfl, int_eq (by simp), rfl, trivial⟩ ⟨⟨_, rfl, .var rfl⟩, ⟨_, rfl, .arr1⟩, trivial⟩ rfl) ?_
      rintro ⟨i, acc⟩ ⟨hi, hal, hit⟩
      dsimp only at hi hal hit ⊢
      have hil : i ≤ p.insts.length := by rw [← hei]; exact hi
      refine awp_seq ?_
      refine awp_rg mixed ?_
      refine k_ (g_ rfl rfl (r_lss rfl rfl (lt_ rfl) rfl rfl)) ?_
      refine z_ rfl (by kernel_rfl) ?_
      refine awp_seq ?_
      refine awp_cond rfl (fun hb => ?_) (fun hb => ?_)
      · refine awp_skip ?_
        have hlt : i < e.insts.length := by simpa using hb
        obtain ⟨x, hx⟩ := get_of_lt hlt
        have hx' := getEnc encInst hx
        have hxp : p.insts[i]? = some x := by rw [← hei]; exact hx
        have hf := he.cls x.cls
        have hsf := (hp.supersOf x.cls).fits
        refine awp_seq ?_
        refine awp_block ?_   -- block 5
        refine awp_seq ?_
        refine awp_rg mixed ?_
        refine k_ (g_ rfl rfl (by first | exact r_index tok rfl rfl (lt_ rfl) t25 rfl t50 rfl rfl rfl rfl (by first | assumption | rfl) | exact r_index_hs tok rfl rfl (lt_ rfl) t25 rfl t50 rfl rfl rfl (by first | rfl | simp) rfl rfl (by first | decide | omega | (simp; done) | (simp; omega)))) ?_
        refine k_ (g_ rfl rfl (by first | exact r_load tok rfl rfl (lt_ rfl) t50 rfl rfl rfl rfl | exact r_load_pt tok rfl rfl (lt_ rfl) t50 rfl (le_ rfl) rfl | exact r_load_ep tok rfl rfl (lt_ rfl) t50 rfl rfl (by first | rfl | simp) (by first | assumption | rfl) (le_ rfl) rfl)) ?_
        refine k_ (g_ rfl rfl (r_alloc 14 tok rfl rfl (lt_ rfl) t50 rfl)) ?_
        refine k_ (g_ rfl rfl (by first | exact r_store tok rfl rfl t50 rfl rfl rfl rfl rfl rfl | exact r_store_ep tok rfl rfl t50 rfl rfl rfl rfl rfl (by first | rfl | simp) (by first | assumption | rfl) rfl (le_ rfl))) ?_
        refine z_ rfl (by kernel_rfl) ?_
        refine awp_seq ?_
        refine awp_rg mixed ?_
        refine k_ (g_ rfl rfl (r_makeFunc rfl rfl (lt_ rfl) rfl)) ?_
        refine k_ (g_ rfl rfl (r_assign rfl rfl (lt_ rfl) rfl)) ?_
        refine z_ rfl (by kernel_rfl) ?_
        refine awp_seq ?_
        refine AWp.cut (mk [(2, .one (.vp 2 0)), (5, .one (.hs 500 0 acc.length acc.length)), (14, .one (.vp 14 0)), (85, .one (.c (.sl 6 (e.insts.map encInst)))), (86, I .i64 e.insts.length), (87, I .i64 i), (101, B (bare p x))] [(2, .var 31 [.c (.pt (encEnv e))]), (14, .var 50 ((encInst x).map R.c)), (500, .arr 34 2 (acc.map encAt) 1)]) ?_ ?_
        · cases hc : cls p x.cls with
          | none =>
            rw [hc] at hf
            have hf' : mfind x.cls e.cm = none := hf
            refine awp_rg mixed ?_
            refine k_ (g_ rfl rfl (by first | exact r_load tok rfl rfl (lt_ rfl) t31 rfl rfl rfl rfl | exact r_load_pt tok rfl rfl (lt_ rfl) t31 rfl (le_ rfl) rfl | exact r_load_ep tok rfl rfl (lt_ rfl) t31 rfl rfl (by first | rfl | simp) (by first | assumption | rfl) (le_ rfl) rfl)) ?_
            refine k_ (g_ rfl rfl (r_nilCheck rfl rfl (lt_ rfl) rfl rfl)) ?_
            refine k_ (g_ rfl rfl (by first | exact r_field_vp tok rfl rfl (lt_ rfl) t86 rfl rfl t82 (nz_ rfl) rfl | exact r_field_pt tok rfl rfl (lt_ rfl) t86 rfl rfl t82 (nz_ rfl) rfl | exact r_field_ep tok rfl rfl (lt_ rfl) t86 rfl rfl t82 (nz_ rfl) rfl rfl (by first | rfl | simp))) ?_
            refine k_ (g_ rfl rfl (by first | exact r_load tok rfl rfl (lt_ rfl) t82 rfl rfl rfl rfl | exact r_load_pt tok rfl rfl (lt_ rfl) t82 rfl (le_ rfl) rfl | exact r_load_ep tok rfl rfl (lt_ rfl) t82 rfl rfl (by first | rfl | simp) (by first | assumption | rfl) (le_ rfl) rfl)) ?_
            refine k_ (g_ rfl rfl (by first | exact r_field_vp tok rfl rfl (lt_ rfl) t50 rfl rfl t9 (nz_ rfl) rfl | exact r_field_pt tok rfl rfl (lt_ rfl) t50 rfl rfl t9 (nz_ rfl) rfl | exact r_field_ep tok rfl rfl (lt_ rfl) t50 rfl rfl t9 (nz_ rfl) rfl rfl (by first | rfl | simp))) ?_
            refine k_ (g_ rfl rfl (by first | exact r_load tok rfl rfl (lt_ rfl) t9 rfl rfl rfl rfl | exact r_load_pt tok rfl rfl (lt_ rfl) t9 rfl (le_ rfl) rfl | exact r_load_ep tok rfl rfl (lt_ rfl) t9 rfl rfl (by first | rfl | simp) (by first | assumption | rfl) (le_ rfl) rfl)) ?_
            refine k_ (g_ rfl rfl (by exact r_lookup tok rfl rfl (lt_ rfl) t82 rfl t9 rfl t66 rfl rfl (by first | exact .mr rfl | exact .mp | exact .nil) (by first | assumption | exact trivial) rfl hf')) ?_
            refine k_ (g_ rfl rfl (r_field tok rfl rfl (lt_ rfl) t66 rfl rfl t40 rfl rfl rfl rfl rfl)) ?_
            refine k_ (g_ rfl rfl (r_move rfl rfl (lt_ rfl) rfl)) ?_
            refine k_ (g_ rfl rfl (by exact r_call (hin52 e x) (hin52 e x) b53 rfl rfl (lt_ rfl) (c53 p e x [] he hp (by simp [Fits])) (.cons rfl (by first | exact .refl | exact .one (.hs rfl (by first | rfl | simp) (by first | rfl | (simp; done) | (simp [Go.AM.take_map]; done) | exact Go.AM.take_map.symm) .nil) | exact .one (.c .nl .nil) | exact .one (.c .sn .nil)) (.cons rfl .refl (.nil))) ⟨rfl, rfl, trivial⟩ ⟨.inl (by simp [keys, hin52]), .inl (by simp [keys, hin52]), trivial⟩ rfl)) ?_
            refine z_ rfl (by kernel_rfl) ?_
            exact .list (fun i => i) ⟨rfl, rfl, rfl, rfl, rfl, rfl, bool_eq (by simp [bare, supersOf, hc, zCls]), trivial⟩ ⟨⟨_, rfl, .var rfl⟩, ⟨_, rfl, .var rfl⟩, ⟨_, rfl, .arr⟩, trivial⟩ rfl
          | some c =>
            rw [hc] at hf
            have hf' : mfind x.cls e.cm = some (encCls c) := hf
            have e1 : supersOf p x.cls = c.supers := by simp [supersOf, hc]
            rw [e1] at hsf
            refine awp_rg mixed ?_
            refine k_ (g_ rfl rfl (by first | exact r_load tok rfl rfl (lt_ rfl) t31 rfl rfl rfl rfl | exact r_load_pt tok rfl rfl (lt_ rfl) t31 rfl (le_ rfl) rfl | exact r_load_ep tok rfl rfl (lt_ rfl) t31 rfl rfl (by first | rfl | simp) (by first | assumption | rfl) (le_ rfl) rfl)) ?_
            refine k_ (g_ rfl rfl (r_nilCheck rfl rfl (lt_ rfl) rfl rfl)) ?_
            refine k_ (g_ rfl rfl (by first | exact r_field_vp tok rfl rfl (lt_ rfl) t86 rfl rfl t82 (nz_ rfl) rfl | exact r_field_pt tok rfl rfl (lt_ rfl) t86 rfl rfl t82 (nz_ rfl) rfl | exact r_field_ep tok rfl rfl (lt_ rfl) t86 rfl rfl t82 (nz_ rfl) rfl rfl (by first | rfl | simp))) ?_
            refine k_ (g_ rfl rfl (by first | exact r_load tok rfl rfl (lt_ rfl) t82 rfl rfl rfl rfl | exact r_load_pt tok rfl rfl (lt_ rfl) t82 rfl (le_ rfl) rfl | exact r_load_ep tok rfl rfl (lt_ rfl) t82 rfl rfl (by first | rfl | simp) (by first | assumption | rfl) (le_ rfl) rfl)) ?_
            refine k_ (g_ rfl rfl (by first | exact r_field_vp tok rfl rfl (lt_ rfl) t50 rfl rfl t9 (nz_ rfl) rfl | exact r_field_pt tok rfl rfl (lt_ rfl) t50 rfl rfl t9 (nz_ rfl) rfl | exact r_field_ep tok rfl rfl (lt_ rfl) t50 rfl rfl t9 (nz_ rfl) rfl rfl (by first | rfl | simp))) ?_
            refine k_ (g_ rfl rfl (by first | exact r_load tok rfl rfl (lt_ rfl) t9 rfl rfl rfl rfl | exact r_load_pt tok rfl rfl (lt_ rfl) t9 rfl (le_ rfl) rfl | exact r_load_ep tok rfl rfl (lt_ rfl) t9 rfl rfl (by first | rfl | simp) (by first | assumption | rfl) (le_ rfl) rfl)) ?_
            refine k_ (g_ rfl rfl (by exact r_lookup tok rfl rfl (lt_ rfl) t82 rfl t9 rfl t66 rfl rfl (by first | exact .mr rfl | exact .mp | exact .nil) (by first | assumption | exact trivial) rfl hf')) ?_
            refine k_ (g_ rfl rfl (r_field tok rfl rfl (lt_ rfl) t66 rfl rfl t40 rfl rfl rfl rfl rfl)) ?_
            refine k_ (g_ rfl rfl (r_move rfl rfl (lt_ rfl) rfl)) ?_
            refine k_ (g_ rfl rfl (by exact r_call (hin52 e x) (hin52 e x) b53 rfl rfl (lt_ rfl) (c53 p e x c.supers he hp hsf) (.cons rfl (by first | exact .refl | exact .one (.hs rfl (by first | rfl | simp) (by first | rfl | (simp; done) | (simp [Go.AM.take_map]; done) | exact Go.AM.take_map.symm) .nil) | exact .one (.c .nl .nil) | exact .one (.c .sn .nil)) (.cons rfl .refl (.nil))) ⟨rfl, rfl, trivial⟩ ⟨.inl (by simp [keys, hin52]), .inl (by simp [keys, hin52]), trivial⟩ rfl)) ?_
            refine z_ rfl (by kernel_rfl) ?_
            exact .list (fun i => i) ⟨rfl, rfl, rfl, rfl, rfl, rfl, bool_eq (by unfold bare; rw [e1]), trivial⟩ ⟨⟨_, rfl, .var rfl⟩, ⟨_, rfl, .var rfl⟩, ⟨_, rfl, .arr⟩, trivial⟩ rfl
        refine awp_cond rfl (fun hb => ?_) (fun hb => ?_)
        · have hst : r3F p acc x = acc ++ [⟨35, x.at_⟩] := by unfold r3F; rw [if_pos hb]
          refine awp_rg mixed ?_
          refine k_ (g_ rfl rfl (r_move rfl rfl (lt_ rfl) rfl)) ?_
          refine k_ (g_ rfl rfl (by first | exact r_field_vp tok rfl rfl (lt_ rfl) t50 rfl rfl t3 (nz_ rfl) rfl | exact r_field_pt tok rfl rfl (lt_ rfl) t50 rfl rfl t3 (nz_ rfl) rfl | exact r_field_ep tok rfl rfl (lt_ rfl) t50 rfl rfl t3 (nz_ rfl) rfl rfl (by first | rfl | simp))) ?_
          refine k_ (g_ rfl rfl (by first | exact r_load tok rfl rfl (lt_ rfl) t3 rfl rfl rfl rfl | exact r_load_pt tok rfl rfl (lt_ rfl) t3 rfl (le_ rfl) rfl | exact r_load_ep tok rfl rfl (lt_ rfl) t3 rfl rfl (by first | rfl | simp) (by first | assumption | rfl) (le_ rfl) rfl)) ?_
          refine k_ (g_ rfl rfl (r_build tok rfl rfl (lt_ rfl) t34 rfl p34 rfl rfl)) ?_
          refine k_ (g_ rfl rfl (r_slice 106 tok rfl rfl (lt_ rfl) t95 rfl t34 (.cons rfl rfl (.c .refl (.c .refl (.nil))) rfl (.nil)) rfl rfl rfl rfl)) ?_
          refine k_ (g_ rfl rfl (by exact r_append tok rfl rfl (lt_ rfl) t95 rfl t34 rfl rfl rfl rfl (by first | rfl | simp) rfl (by first | exact .all rfl (by first | rfl | simp) | exact .hs rfl (by first | rfl | simp) (by first | rfl | (simp; done) | (simp [Go.AM.take_map]; done) | exact Go.AM.take_map.symm) | exact .sl | exact .nl | exact .sn) (by first | (simp; done) | (simp; omega)))) ?_
          refine k_ (g_ rfl rfl (r_assign rfl rfl (lt_ rfl) rfl)) ?_
          refine z_ rfl (by kernel_rfl) ?_
          refine awp_rg mixed ?_
          refine k_ (g_ rfl rfl (by exact r_addI rfl rfl (lt_ rfl) rfl rfl (by first | omega | (simp only [List.length_map]; omega)))) ?_
          refine k_ (g_ rfl rfl (r_move rfl rfl (lt_ rfl) rfl)) ?_
          refine z_ rfl (by kernel_rfl) ?_
          exact ⟨(i + 1, acc ++ [⟨35, x.at_⟩]), ⟨hlt, by simp; omega, by dsimp only; rw [← hst, hit]; exact (fold_take hxp).symm⟩, by dsimp only; omega, .list (fun i => i) ⟨rfl, hs_len (by simp), rfl, rfl, rfl, trivial⟩ ⟨⟨_, rfl, .var rfl⟩, ⟨_, rfl, .arrE (by simp; rfl)⟩, trivial⟩ rfl⟩
        · refine awp_skip ?_
          have hst : r3F p acc x = acc := by unfold r3F; rw [if_neg]; rw [hb]; simp
          refine awp_rg mixed ?_
          refine k_ (g_ rfl rfl (by exact r_addI rfl rfl (lt_ rfl) rfl rfl (by first | omega | (simp only [List.length_map]; omega)))) ?_
          refine k_ (g_ rfl rfl (r_move rfl rfl (lt_ rfl) rfl)) ?_
          refine z_ rfl (by kernel_rfl) ?_
          exact ⟨(i + 1, acc), ⟨hlt, by dsimp only; omega, by dsimp only; rw [← hst, hit]; exact (fold_take hxp).symm⟩, by dsimp only; omega, .list (fun i => i) ⟨rfl, rfl, rfl, rfl, rfl, trivial⟩ ⟨⟨_, rfl, .var rfl⟩, ⟨_, rfl, .arr1⟩, trivial⟩ rfl⟩
      · refine awp_exit ?_   -- 4
        have hge : i = p.insts.length := by
          have : ¬ i < e.insts.length := by simpa using hb
          rw [hei] at this
          omega
        rw [hge, List.take_length] at hit
        refine awp_seq ?_
        refine awp_rg mixed ?_
        refine k_ (g_ rfl rfl (r_move rfl rfl (lt_ rfl) rfl)) ?_
        refine k_ (g_ rfl rfl (r_assign rfl rfl (lt_ rfl) rfl)) ?_
        refine z_ rfl (by kernel_rfl) ?_
        refine AWp.sub (Sub.freeze (id := 500) rfl) ?_
        refine awp_ret ?_
        rw [show refl p = acc from hit.symm]
        exact ⟨.inr rfl, ⟨_, _, .tmp rfl .nil, .cons (.one (.hs rfl (by simp) take_map.symm .nil)) .nil, rfl⟩, trivial, rfl⟩
end Go.Proofs.Ythfeeaifddppoaa
