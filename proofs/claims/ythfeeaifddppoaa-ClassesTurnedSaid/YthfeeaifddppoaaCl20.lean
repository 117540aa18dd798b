/-
  THE PROGRAM's Above: a closure that calls itself.
-/
import Derived.Test.YthfeeaifddppoaaCl19
namespace Go.Proofs.Ythfeeaifddppoaa
open Go Go.AM
set_option maxRecDepth 20000
set_option maxHeartbeats 1000000


def hin43 (e : Env) (told : List Str) : List (Nat × AObj) := [(2, .var 31 [.c (.pt (encEnv e))]), (5, .var 40 [.hs 700 0 told.length told.length]), (6, .var 105 [.clo 43 [.vp 2 0, .vp 5 0, .vp 6 0]]), (700, .arr 9 1 (told.map encS) 1)]
theorem abv_len {p : Prog} : ∀ (m : Nat) (s : Str) (told : List Str), told.length ≤ (abv p m told s).length
  | 0, _, _ => Nat.le_refl _
  | m + 1, s, told => by
    unfold abv
    split
    · have key : ∀ (l : List Str) (t : List Str), t.length ≤ (l.foldl (abv p m) t).length := by
        intro l
        induction l with
        | nil => intro t; exact Nat.le_refl _
        | cons x l ih => intro t; exact Nat.le_trans (abv_len m x t) (ih _)
      have := key (supersOf p s) (told ++ [s])
      simp only [List.length_append, List.length_singleton] at this
      omega
    · exact Nat.le_refl _
theorem abvs_len {p : Prog} (m : Nat) : ∀ (l : List Str) (t : List Str), t.length ≤ (l.foldl (abv p m) t).length
  | [], _ => Nat.le_refl _
  | x :: l, t => Nat.le_trans (abv_len m x t) (abvs_len m l _)

theorem c43 (p : Prog) (e : Env) (he : EnvOk p e) (hp : PS p) : ∀ (m : Nat) (s : Str) (told : List Str), TOk p told → p.classes.length + 1 ≤ told.length + m → ImpC Try.prog 43 [Go.AM.T s, .one (.vp 2 0), .one (.vp 5 0), .one (.vp 6 0)] (hin43 e told) (.tup []) (hin43 e (abv p m told s)) := by
  intro m
  induction m with
  | zero => intro s told ht hm; have := ht.len; omega
  | succ m ih =>
    intro s told ht hm
    have htl := ht.len
    have hl := hp.cls
    unfold Small at hl
    have hcs := he.cstr
    have hf := he.cls s
    have hsup := hp.supersOf s
    unfold Small at hsup
    refine impC (n := 40) tok Try.func43 rfl rfl rfl ?_
    refine awp_seq ?_
    cases hc : cls p s with
    | none =>
      rw [hc] at hf
      have hf' : mfind s e.cm = none := hf
      have habv : abv p (m + 1) told s = told := by unfold abv; rw [if_neg]; simp [hc]
      rw [habv]
      refine awp_rg mixed ?_
      refine k_ (g_ rfl rfl (by first | exact r_load tok rfl rfl (lt_ rfl) t31 rfl rfl rfl rfl | exact r_load_pt tok rfl rfl (lt_ rfl) t31 rfl (le_ rfl) rfl | exact r_load_ep tok rfl rfl (lt_ rfl) t31 rfl rfl (by first | rfl | simp) (by first | assumption | rfl) (le_ rfl) rfl)) ?_
      refine k_ (g_ rfl rfl (r_nilCheck rfl rfl (lt_ rfl) rfl rfl)) ?_
      refine k_ (g_ rfl rfl (by first | exact r_field_vp tok rfl rfl (lt_ rfl) t86 rfl rfl t82 (nz_ rfl) rfl | exact r_field_pt tok rfl rfl (lt_ rfl) t86 rfl rfl t82 (nz_ rfl) rfl | exact r_field_ep tok rfl rfl (lt_ rfl) t86 rfl rfl t82 (nz_ rfl) rfl rfl (by first | rfl | simp))) ?_
      refine k_ (g_ rfl rfl (by first | exact r_load tok rfl rfl (lt_ rfl) t82 rfl rfl rfl rfl | exact r_load_pt tok rfl rfl (lt_ rfl) t82 rfl (le_ rfl) rfl | exact r_load_ep tok rfl rfl (lt_ rfl) t82 rfl rfl (by first | rfl | simp) (by first | assumption | rfl) (le_ rfl) rfl)) ?_
      refine k_ (g_ rfl rfl (r_move rfl rfl (lt_ rfl) rfl)) ?_
      refine k_ (g_ rfl rfl (by exact r_lookup tok rfl rfl (lt_ rfl) t82 rfl t9 rfl t66 rfl rfl (by first | exact .mr rfl | exact .mp | exact .nil) (by first | assumption | exact trivial) rfl hf')) ?_
      refine k_ (g_ rfl rfl (r_move rfl rfl (lt_ rfl) rfl)) ?_
      refine k_ (g_ rfl rfl (r_extract rfl rfl (lt_ rfl) rfl rfl)) ?_
      refine k_ (g_ rfl rfl (r_extract rfl rfl (lt_ rfl) rfl rfl)) ?_
      refine k_ (g_ rfl rfl (r_alloc 555 tok rfl rfl (lt_ rfl) t66 rfl)) ?_
      refine k_ (g_ rfl rfl (by first | exact r_store tok rfl rfl t66 rfl rfl rfl rfl rfl rfl | exact r_store_ep tok rfl rfl t66 rfl rfl rfl rfl rfl (by first | rfl | simp) (by first | assumption | rfl) rfl (le_ rfl))) ?_
      refine k_ (g_ rfl rfl (r_assign rfl rfl (lt_ rfl) rfl)) ?_
      refine z_ rfl (by kernel_rfl) ?_
      refine awp_seq ?_
      refine awp_seq ?_
      refine awp_rg mixed ?_
      refine k_ (g_ rfl rfl (r_move rfl rfl (lt_ rfl) rfl)) ?_
      refine k_ (g_ rfl rfl (r_not rfl rfl (lt_ rfl) rfl)) ?_
      refine k_ (g_ rfl rfl (r_move rfl rfl (lt_ rfl) rfl)) ?_
      refine k_ (by first | exact GStep.no rfl rfl rfl (lt_ rfl) rfl rfl (by first | assumption | rfl | (simp; done) | (simp only [Bool.not]; assumption) | (simp; omega)) rfl | exact GStep.un rfl rfl rfl (lt_ rfl) rfl rfl) ?_
      refine k_ (by first | exact GStep.no rfl rfl rfl (lt_ rfl) rfl rfl (by first | assumption | rfl | (simp; done) | (simp only [Bool.not]; assumption) | (simp; omega)) rfl | exact GStep.un rfl rfl rfl (lt_ rfl) rfl rfl) ?_
      refine k_ (by first | exact GStep.no rfl rfl rfl (lt_ rfl) rfl rfl (by first | assumption | rfl | (simp; done) | (simp only [Bool.not]; assumption) | (simp; omega)) rfl | exact GStep.un rfl rfl rfl (lt_ rfl) rfl rfl) ?_
      refine k_ (g_ rfl rfl (by exact r_pick_t rfl rfl (lt_ rfl) rfl (by first | assumption | rfl | (simp; done)) rfl)) ?_
      refine z_ rfl (by kernel_rfl) ?_
      refine awp_cond rfl (fun hb => ?_) (fun hb => by cases hb)
      refine awp_ret ?_
      exact ⟨.inr rfl, ⟨_, _, .nil, .nil, rfl⟩, ⟨⟨_, rfl, .var rfl⟩, ⟨_, rfl, .var rfl⟩, ⟨_, rfl, .var rfl⟩, ⟨_, rfl, .arr⟩, trivial⟩, rfl⟩
    | some c =>
      rw [hc] at hf
      have hf' : mfind s e.cm = some (encCls c) := hf
      have hsc : supersOf p s = c.supers := by simp [supersOf, hc]
      rw [hsc] at hsup
      refine awp_rg mixed ?_
      refine k_ (g_ rfl rfl (by first | exact r_load tok rfl rfl (lt_ rfl) t31 rfl rfl rfl rfl | exact r_load_pt tok rfl rfl (lt_ rfl) t31 rfl (le_ rfl) rfl | exact r_load_ep tok rfl rfl (lt_ rfl) t31 rfl rfl (by first | rfl | simp) (by first | assumption | rfl) (le_ rfl) rfl)) ?_
      refine k_ (g_ rfl rfl (r_nilCheck rfl rfl (lt_ rfl) rfl rfl)) ?_
      refine k_ (g_ rfl rfl (by first | exact r_field_vp tok rfl rfl (lt_ rfl) t86 rfl rfl t82 (nz_ rfl) rfl | exact r_field_pt tok rfl rfl (lt_ rfl) t86 rfl rfl t82 (nz_ rfl) rfl | exact r_field_ep tok rfl rfl (lt_ rfl) t86 rfl rfl t82 (nz_ rfl) rfl rfl (by first | rfl | simp))) ?_
      refine k_ (g_ rfl rfl (by first | exact r_load tok rfl rfl (lt_ rfl) t82 rfl rfl rfl rfl | exact r_load_pt tok rfl rfl (lt_ rfl) t82 rfl (le_ rfl) rfl | exact r_load_ep tok rfl rfl (lt_ rfl) t82 rfl rfl (by first | rfl | simp) (by first | assumption | rfl) (le_ rfl) rfl)) ?_
      refine k_ (g_ rfl rfl (r_move rfl rfl (lt_ rfl) rfl)) ?_
      refine k_ (g_ rfl rfl (by exact r_lookup tok rfl rfl (lt_ rfl) t82 rfl t9 rfl t66 rfl rfl (by first | exact .mr rfl | exact .mp | exact .nil) (by first | assumption | exact trivial) rfl hf')) ?_
      refine k_ (g_ rfl rfl (r_move rfl rfl (lt_ rfl) rfl)) ?_
      refine k_ (g_ rfl rfl (r_extract rfl rfl (lt_ rfl) rfl rfl)) ?_
      refine k_ (g_ rfl rfl (r_extract rfl rfl (lt_ rfl) rfl rfl)) ?_
      refine k_ (g_ rfl rfl (r_alloc 555 tok rfl rfl (lt_ rfl) t66 rfl)) ?_
      refine k_ (g_ rfl rfl (by first | exact r_store tok rfl rfl t66 rfl rfl rfl rfl rfl rfl | exact r_store_ep tok rfl rfl t66 rfl rfl rfl rfl rfl (by first | rfl | simp) (by first | assumption | rfl) rfl (le_ rfl))) ?_
      refine k_ (g_ rfl rfl (r_assign rfl rfl (lt_ rfl) rfl)) ?_
      refine z_ rfl (by kernel_rfl) ?_
      refine AWp.sub (Sub.freeze (id := 700) rfl) ?_
      refine awp_seq ?_
      refine awp_seq ?_
      refine awp_rg mixed ?_
      refine k_ (g_ rfl rfl (r_move rfl rfl (lt_ rfl) rfl)) ?_
      refine k_ (g_ rfl rfl (r_not rfl rfl (lt_ rfl) rfl)) ?_
      refine k_ (g_ rfl rfl (r_move rfl rfl (lt_ rfl) rfl)) ?_
      refine k_ (GStep.yes rfl rfl rfl rfl (by first | assumption | rfl | (simp; done) | (simp only [Bool.not]; assumption) | (simp; omega)) (by first | exact r_load tok rfl rfl (lt_ rfl) t40 rfl rfl rfl rfl | exact r_load_pt tok rfl rfl (lt_ rfl) t40 rfl (le_ rfl) rfl | exact r_load_ep tok rfl rfl (lt_ rfl) t40 rfl rfl (by first | rfl | simp) (by first | assumption | rfl) (le_ rfl) rfl)) ?_
      refine k_ (GStep.yes rfl rfl rfl rfl (by first | assumption | rfl | (simp; done) | (simp only [Bool.not]; assumption) | (simp; omega)) (by exact r_move rfl rfl (lt_ rfl) rfl)) ?_
      refine k_ (GStep.yes rfl rfl rfl rfl (by first | assumption | rfl | (simp; done) | (simp only [Bool.not]; assumption) | (simp; omega)) (by exact r_call [] [] b44 rfl rfl (lt_ rfl) (c44 told s (by unfold Fits; omega)) (.cons rfl (by first | exact .refl | exact .one (.hs rfl (by first | rfl | simp) (by first | rfl | (simp; done) | (simp [Go.AM.take_map]; done) | exact Go.AM.take_map.symm) .nil) | exact .one (.c .nl .nil) | exact .one (.c .sn .nil)) (.cons rfl .refl (.nil))) (by repeat (first | exact trivial | refine ⟨rfl, ?_⟩)) (by repeat (first | exact trivial | refine ⟨.inr rfl, ?_⟩ | refine ⟨.inl (by decide), ?_⟩)) rfl)) ?_
      refine k_ (g_ rfl rfl (by exact r_pick_f rfl rfl (lt_ rfl) rfl (by first | assumption | rfl | (simp; done)) rfl)) ?_
      refine z_ rfl (by kernel_rfl) ?_
      refine awp_cond rfl (fun hb => ?_) (fun hb => ?_)
      · have hin : s ∈ told := by simpa using hb
        have habv : abv p (m + 1) told s = told := by unfold abv; rw [if_neg]; simp [hin]
        rw [habv]
        refine awp_ret ?_
        exact ⟨.inr rfl, ⟨_, _, .nil, .nil, rfl⟩, ⟨⟨_, rfl, .var rfl⟩, ⟨_, rfl, .var rfl⟩, ⟨_, rfl, .var rfl⟩, ⟨_, rfl, .arr1⟩, trivial⟩, rfl⟩
      · have hin : s ∉ told := by simpa using hb
        have habv : abv p (m + 1) told s = c.supers.foldl (abv p m) (told ++ [s]) := by
          show (if (cls p s).isSome ∧ s ∉ told then (supersOf p s).foldl (abv p m) (told ++ [s]) else told) = _
          rw [if_pos ⟨by rw [hc]; rfl, hin⟩, hsc]
        rw [habv]
        have hok : TOk p (told ++ [s]) := ht.snoc (by rw [hc]; rfl) hin
        refine awp_skip ?_
        refine awp_seq ?_
        refine awp_rg mixed ?_
        refine k_ (g_ rfl rfl (by first | exact r_load tok rfl rfl (lt_ rfl) t40 rfl rfl rfl rfl | exact r_load_pt tok rfl rfl (lt_ rfl) t40 rfl (le_ rfl) rfl | exact r_load_ep tok rfl rfl (lt_ rfl) t40 rfl rfl (by first | rfl | simp) (by first | assumption | rfl) (le_ rfl) rfl)) ?_
        refine k_ (g_ rfl rfl (r_move rfl rfl (lt_ rfl) rfl)) ?_
        refine k_ (g_ rfl rfl (r_slice 27 tok rfl rfl (lt_ rfl) t40 rfl t9 (.cons rfl rfl (.c .refl (.nil)) rfl (.nil)) rfl rfl rfl rfl)) ?_
        refine k_ (g_ rfl rfl (by exact r_append tok rfl rfl (lt_ rfl) t40 rfl t9 rfl rfl rfl rfl (by first | rfl | simp) rfl (by first | exact .all rfl (by first | rfl | simp) | exact .hs rfl (by first | rfl | simp) (by first | rfl | (simp; done) | (simp [Go.AM.take_map]; done) | exact Go.AM.take_map.symm) | exact .sl | exact .nl | exact .sn) (by first | (simp; done) | (simp; omega)))) ?_
        refine k_ (g_ rfl rfl (by first | exact r_store tok rfl rfl t40 rfl rfl rfl rfl rfl rfl | exact r_store_ep tok rfl rfl t40 rfl rfl rfl rfl rfl (by first | rfl | simp) (by first | assumption | rfl) rfl (le_ rfl))) ?_
        refine z_ rfl (by kernel_rfl) ?_
        refine awp_seq ?_
        refine awp_rg mixed ?_
        refine k_ (g_ rfl rfl (by first | exact r_field_vp tok rfl rfl (lt_ rfl) t66 rfl rfl t40 (nz_ rfl) rfl | exact r_field_pt tok rfl rfl (lt_ rfl) t66 rfl rfl t40 (nz_ rfl) rfl | exact r_field_ep tok rfl rfl (lt_ rfl) t66 rfl rfl t40 (nz_ rfl) rfl rfl (by first | rfl | simp))) ?_
        refine k_ (g_ rfl rfl (by first | exact r_load tok rfl rfl (lt_ rfl) t40 rfl rfl rfl rfl | exact r_load_pt tok rfl rfl (lt_ rfl) t40 rfl (le_ rfl) rfl | exact r_load_ep tok rfl rfl (lt_ rfl) t40 rfl rfl (by first | rfl | simp) (by first | assumption | rfl) (le_ rfl) rfl)) ?_
        refine k_ (g_ rfl rfl (by first | exact r_len_sl tok rfl rfl (lt_ rfl) t40 rfl rfl | exact r_len_hs tok rfl rfl (lt_ rfl) t40 rfl rfl rfl (by first | rfl | simp) | exact r_len_nl tok rfl rfl (lt_ rfl) t40 rfl rfl | exact r_len_str tok rfl rfl (lt_ rfl) t40 rfl rfl)) ?_
        refine k_ (g_ rfl rfl (r_move rfl rfl (lt_ rfl) rfl)) ?_
        refine z_ rfl (by kernel_rfl) ?_
        refine awp_block ?_   -- block 0
        refine awp_loop (fun x : Nat × List Str => mk [(1, .one (.vp 2 0)), (2, .one (.vp 5 0)), (3, .one (.vp 6 0)), (30, .one (.c (.sl 1 (c.supers.map encS)))), (31, I .i64 c.supers.length), (32, I .i64 x.1)] (hin43 e x.2))
          (fun x => x.1 ≤ c.supers.length ∧ x.2 = (c.supers.take x.1).foldl (abv p m) (told ++ [s])) (fun x => c.supers.length - x.1) (0, told ++ [s]) ⟨Nat.zero_le _, by simp⟩ (.list (fun i => i) ⟨rfl, rfl, rfl, rfl, int_eq (by simp), rfl, trivial⟩ ⟨⟨_, rfl, .var rfl⟩, ⟨_, rfl, .var (by simp [R.renL, R.ren, splice])⟩, ⟨_, rfl, .var rfl⟩, ⟨_, rfl, .arrE (by simp; rfl)⟩, trivial⟩ rfl) ?_
        rintro ⟨i, t⟩ ⟨hi, hit⟩
        dsimp only at hi hit ⊢
        have hokt : TOk p t := by rw [hit]; exact hok.abvs m _
        have htl2 : told.length + 1 ≤ t.length := by rw [hit]; have := abvs_len (p := p) m (c.supers.take i) (told ++ [s]); simpa using this
        refine awp_seq ?_
        refine awp_rg mixed ?_
        refine k_ (g_ rfl rfl (r_lss rfl rfl (lt_ rfl) rfl rfl)) ?_
        refine z_ rfl (by kernel_rfl) ?_
        refine awp_seq ?_
        refine awp_cond rfl (fun hb => ?_) (fun hb => ?_)
        · refine awp_skip ?_
          have hlt : i < c.supers.length := by simpa using hb
          obtain ⟨u, hu⟩ := get_of_lt hlt
          have hu' := getEnc encS hu
          refine awp_seq ?_
          refine awp_block ?_   -- block 1
          refine awp_seq ?_
          refine awp_rg mixed ?_
          refine k_ (g_ rfl rfl (by first | exact r_index tok rfl rfl (lt_ rfl) t40 rfl t9 rfl rfl rfl rfl (by first | assumption | rfl) | exact r_index_hs tok rfl rfl (lt_ rfl) t40 rfl t9 rfl rfl rfl (by first | rfl | simp) rfl rfl (by first | decide | omega | (simp; done) | (simp; omega)))) ?_
          refine k_ (g_ rfl rfl (by first | exact r_load tok rfl rfl (lt_ rfl) t9 rfl rfl rfl rfl | exact r_load_pt tok rfl rfl (lt_ rfl) t9 rfl (le_ rfl) rfl | exact r_load_ep tok rfl rfl (lt_ rfl) t9 rfl rfl (by first | rfl | simp) (by first | assumption | rfl) (le_ rfl) rfl)) ?_
          refine k_ (g_ rfl rfl (r_assign rfl rfl (lt_ rfl) rfl)) ?_
          refine z_ rfl (by kernel_rfl) ?_
          refine awp_rg mixed ?_
          refine k_ (g_ rfl rfl (by first | exact r_load tok rfl rfl (lt_ rfl) t105 rfl rfl rfl rfl | exact r_load_pt tok rfl rfl (lt_ rfl) t105 rfl (le_ rfl) rfl | exact r_load_ep tok rfl rfl (lt_ rfl) t105 rfl rfl (by first | rfl | simp) (by first | assumption | rfl) (le_ rfl) rfl)) ?_
          refine k_ (g_ rfl rfl (r_move rfl rfl (lt_ rfl) rfl)) ?_
          refine k_ (g_ rfl rfl (by exact r_callv (hin43 e t) (hin43 e (abv p m t u)) b43 rfl rfl (lt_ rfl) rfl (ih u t hokt (by omega)) (.cons rfl .refl (.nil)) ⟨rfl, rfl, rfl, rfl, trivial⟩ ⟨.inl (by simp [keys, hin43]), .inl (by simp [keys, hin43]), .inl (by simp [keys, hin43]), .inl (by simp [keys, hin43]), trivial⟩ rfl)) ?_
          refine z_ rfl (by kernel_rfl) ?_
          refine awp_rg mixed ?_
          refine k_ (g_ rfl rfl (by exact r_addI rfl rfl (lt_ rfl) rfl rfl (by first | omega | (simp only [List.length_map]; omega)))) ?_
          refine k_ (g_ rfl rfl (r_move rfl rfl (lt_ rfl) rfl)) ?_
          refine z_ rfl (by kernel_rfl) ?_
          exact ⟨(i + 1, abv p m t u), ⟨hlt, by dsimp only; rw [fold_take hu, ← hit]⟩, by dsimp only; omega, .list (fun i => i) ⟨rfl, rfl, rfl, rfl, rfl, rfl, trivial⟩ ⟨⟨_, rfl, .var rfl⟩, ⟨_, rfl, .var rfl⟩, ⟨_, rfl, .var rfl⟩, ⟨_, rfl, .arr⟩, trivial⟩ rfl⟩
        · refine awp_exit ?_   -- 0
          have hge : i = c.supers.length := by
            have : ¬ i < c.supers.length := by simpa using hb
            omega
          rw [hge, List.take_length] at hit
          rw [← hit]
          exact ⟨.inl rfl, ⟨_, _, .nil, .nil, rfl⟩, ⟨⟨_, rfl, .var rfl⟩, ⟨_, rfl, .var rfl⟩, ⟨_, rfl, .var rfl⟩, ⟨_, rfl, .arr⟩, trivial⟩, rfl⟩

theorem c18 (p : Prog) (e : Env) (s : Str) (he : EnvOk p e) (hp : PS p) : ImpC Try.prog 18 [.one (.c (.pt (encEnv e))), Go.AM.T s] [] (.one (.c (.sl 1 ((above p s).map encS)))) [] := by
  refine impC (n := 12) tok Try.func18 rfl rfl rfl ?_
  refine awp_seq ?_
  refine awp_rg mixed ?_
  refine k_ (g_ rfl rfl (r_box 2 rfl rfl (lt_ rfl) rfl rfl rfl)) ?_
  refine k_ (g_ rfl rfl (r_assign rfl rfl (lt_ rfl) rfl)) ?_
  refine z_ rfl (by kernel_rfl) ?_
  refine awp_seq ?_
  refine awp_rg mixed ?_
  refine k_ (g_ rfl rfl (r_alloc 5 tok rfl rfl (lt_ rfl) t40 rfl)) ?_
  refine z_ rfl (by kernel_rfl) ?_
  refine AWp.sub (Sub.ownCell (x := 5) (k := 0) (id := 700) 9 1 rfl rfl rfl) ?_
  refine awp_seq ?_
  refine awp_rg mixed ?_
  refine k_ (g_ rfl rfl (r_alloc 6 tok rfl rfl (lt_ rfl) t105 rfl)) ?_
  refine z_ rfl (by kernel_rfl) ?_
  refine awp_seq ?_
  refine awp_rg mixed ?_
  refine k_ (g_ rfl rfl (r_makeFunc rfl rfl (lt_ rfl) rfl)) ?_
  refine k_ (g_ rfl rfl (by first | exact r_store tok rfl rfl t105 rfl rfl rfl rfl rfl rfl | exact r_store_ep tok rfl rfl t105 rfl rfl rfl rfl rfl (by first | rfl | simp) (by first | assumption | rfl) rfl (le_ rfl))) ?_
  refine z_ rfl (by kernel_rfl) ?_
  refine AWp.sub (st2 := mk [(1, Go.AM.T s), (5, .one (.vp 5 0)), (6, .one (.vp 6 0))] (hin43 e [])) (.list (fun i => i) ⟨rfl, rfl, rfl, trivial⟩ ⟨⟨_, rfl, .var rfl⟩, ⟨_, rfl, .var rfl⟩, ⟨_, rfl, .var rfl⟩, ⟨_, rfl, .arr1⟩, trivial⟩ rfl) ?_
  refine awp_seq ?_
  refine awp_rg mixed ?_
  refine k_ (g_ rfl rfl (by first | exact r_load tok rfl rfl (lt_ rfl) t105 rfl rfl rfl rfl | exact r_load_pt tok rfl rfl (lt_ rfl) t105 rfl (le_ rfl) rfl | exact r_load_ep tok rfl rfl (lt_ rfl) t105 rfl rfl (by first | rfl | simp) (by first | assumption | rfl) (le_ rfl) rfl)) ?_
  refine k_ (g_ rfl rfl (r_move rfl rfl (lt_ rfl) rfl)) ?_
  refine k_ (g_ rfl rfl (by exact r_callv (hin43 e []) (hin43 e (above p s)) b43 rfl rfl (lt_ rfl) rfl (c43 p e he hp (p.classes.length + 1) s [] (.nil p) (by simp)) (.cons rfl .refl (.nil)) ⟨rfl, rfl, rfl, rfl, trivial⟩ ⟨.inl (by simp [keys, hin43]), .inl (by simp [keys, hin43]), .inl (by simp [keys, hin43]), .inl (by simp [keys, hin43]), trivial⟩ rfl)) ?_
  refine z_ rfl (by kernel_rfl) ?_
  refine AWp.sub (Sub.freeze (id := 700) rfl) ?_
  refine awp_seq ?_
  refine awp_rg mixed ?_
  refine k_ (g_ rfl rfl (by first | exact r_load tok rfl rfl (lt_ rfl) t40 rfl rfl rfl rfl | exact r_load_pt tok rfl rfl (lt_ rfl) t40 rfl (le_ rfl) rfl | exact r_load_ep tok rfl rfl (lt_ rfl) t40 rfl rfl (by first | rfl | simp) (by first | assumption | rfl) (le_ rfl) rfl)) ?_
  refine k_ (g_ rfl rfl (r_assign rfl rfl (lt_ rfl) rfl)) ?_
  refine z_ rfl (by kernel_rfl) ?_
  refine awp_ret ?_
  exact ⟨.inr rfl, ⟨_, _, .tmp rfl .nil, .cons (.one (.hs rfl (by simp) take_map.symm .nil)) .nil, rfl⟩, trivial, rfl⟩
end Go.Proofs.Ythfeeaifddppoaa
