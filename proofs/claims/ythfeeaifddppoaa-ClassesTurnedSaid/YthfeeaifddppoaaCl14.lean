/-
  THE PROGRAM's climb, as above uses it. (Printed by climb2.py out of Cl13.)
-/
import Derived.Test.YthfeeaifddppoaaCl13
namespace Go.Proofs.Ythfeeaifddppoaa
open Go Go.AM
set_option maxRecDepth 20000
set_option maxHeartbeats 1000000

theorem b59 : bodied Try.prog 59 := ⟨Try.f59, Try.func59, by decide, rfl⟩

def hin59 (t : Str) (b : Bool) : List (Nat × AObj) := [(5, .var 9 [.c (.str t)]), (11, .var 4 [.c (.bool b)])]
theorem c59 (w : Way) (t : Str) : ImpC Try.prog 59 [.pa (encW w), .one (.vp 11 0), .one (.vp 5 0)] (hin59 t false) (B (!decide (w.cls = t))) (hin59 t (decide (w.cls = t))) := by
  unfold hin59
  refine impC (n := 14) tok Try.func59 rfl rfl rfl ?_
  refine awp_seq ?_
  refine awp_rg mixed ?_
  refine k_ (g_ rfl rfl (r_box 3 rfl rfl (lt_ rfl) rfl rfl rfl)) ?_
  refine k_ (g_ rfl rfl (r_assign rfl rfl (lt_ rfl) rfl)) ?_
  refine z_ rfl (by kernel_rfl) ?_
  refine awp_seq ?_
  refine awp_rg mixed ?_
  refine k_ (g_ rfl rfl (by first | exact r_load tok rfl rfl (lt_ rfl) t4 rfl rfl rfl rfl | exact r_load_pt tok rfl rfl (lt_ rfl) t4 rfl (le_ rfl) rfl | exact r_load_ep tok rfl rfl (lt_ rfl) t4 rfl rfl (by first | rfl | simp) (by first | assumption | rfl) (le_ rfl) rfl)) ?_
  refine k_ (g_ rfl rfl (r_move rfl rfl (lt_ rfl) rfl)) ?_
  refine k_ (GStep.yes rfl rfl rfl rfl (by first | assumption | rfl | (simp; done) | (simp only [Bool.not]; assumption) | (simp; omega)) (by first | exact r_field_vp tok rfl rfl (lt_ rfl) t101 rfl rfl t9 (nz_ rfl) rfl | exact r_field_pt tok rfl rfl (lt_ rfl) t101 rfl rfl t9 (nz_ rfl) rfl | exact r_field_ep tok rfl rfl (lt_ rfl) t101 rfl rfl t9 (nz_ rfl) rfl rfl (by first | rfl | simp))) ?_
  refine k_ (GStep.yes rfl rfl rfl rfl (by first | assumption | rfl | (simp; done) | (simp only [Bool.not]; assumption) | (simp; omega)) (by first | exact r_load tok rfl rfl (lt_ rfl) t9 rfl rfl rfl rfl | exact r_load_pt tok rfl rfl (lt_ rfl) t9 rfl (le_ rfl) rfl | exact r_load_ep tok rfl rfl (lt_ rfl) t9 rfl rfl (by first | rfl | simp) (by first | assumption | rfl) (le_ rfl) rfl)) ?_
  refine k_ (GStep.yes rfl rfl rfl rfl (by first | assumption | rfl | (simp; done) | (simp only [Bool.not]; assumption) | (simp; omega)) (by first | exact r_load tok rfl rfl (lt_ rfl) t9 rfl rfl rfl rfl | exact r_load_pt tok rfl rfl (lt_ rfl) t9 rfl (le_ rfl) rfl | exact r_load_ep tok rfl rfl (lt_ rfl) t9 rfl rfl (by first | rfl | simp) (by first | assumption | rfl) (le_ rfl) rfl)) ?_
  refine k_ (GStep.yes rfl rfl rfl rfl (by first | assumption | rfl | (simp; done) | (simp only [Bool.not]; assumption) | (simp; omega)) (by exact r_seql rfl rfl (lt_ rfl) rfl rfl)) ?_
  refine k_ (g_ rfl rfl (by exact r_pick_f rfl rfl (lt_ rfl) rfl (by first | assumption | rfl | (simp; done)) rfl)) ?_
  refine k_ (g_ rfl rfl (by first | exact r_store tok rfl rfl t4 rfl rfl rfl rfl rfl rfl | exact r_store_ep tok rfl rfl t4 rfl rfl rfl rfl rfl (by first | rfl | simp) (by first | assumption | rfl) rfl (le_ rfl))) ?_
  refine z_ rfl (by kernel_rfl) ?_
  refine awp_seq ?_
  refine awp_rg mixed ?_
  refine k_ (g_ rfl rfl (by first | exact r_load tok rfl rfl (lt_ rfl) t4 rfl rfl rfl rfl | exact r_load_pt tok rfl rfl (lt_ rfl) t4 rfl (le_ rfl) rfl | exact r_load_ep tok rfl rfl (lt_ rfl) t4 rfl rfl (by first | rfl | simp) (by first | assumption | rfl) (le_ rfl) rfl)) ?_
  refine k_ (g_ rfl rfl (r_not rfl rfl (lt_ rfl) rfl)) ?_
  refine k_ (g_ rfl rfl (r_assign rfl rfl (lt_ rfl) rfl)) ?_
  refine z_ rfl (by kernel_rfl) ?_
  refine awp_ret ?_
  exact ⟨.inr rfl, ⟨_, _, .tmp rfl .nil, .cons .refl .nil, rfl⟩, ⟨⟨_, rfl, .var rfl⟩, ⟨_, rfl, .var rfl⟩, trivial⟩, rfl⟩

theorem c39b (p : Prog) (e : Env) (f t : Str) (he : EnvOk p e) (hp : PS p) : ImpC Try.prog 39 [.one (.c (.pt (encEnv e))), Go.AM.T f, .one (.clo 59 [.vp 11 0, .vp 5 0])] (hin59 t false) (.tup []) (hin59 t (climbR p f t).isSome) := by
  have hl := hp.cls
  unfold Small at hl
  have hcs := he.cstr
  unfold hin59
  refine impC (n := 76) tok Try.func39 rfl rfl rfl ?_
  refine awp_seq ?_
  refine awp_rg mixed ?_
  refine k_ (g_ rfl rfl (r_makeMap 15 false rfl rfl (lt_ rfl) rfl)) ?_
  refine k_ (g_ rfl rfl (r_assign rfl rfl (lt_ rfl) rfl)) ?_
  refine z_ rfl (by kernel_rfl) ?_
  refine awp_seq ?_
  refine awp_rg mixed ?_
  refine k_ (g_ rfl rfl (r_alloc 7 tok rfl rfl (lt_ rfl) t119 rfl)) ?_
  refine z_ rfl (by kernel_rfl) ?_
  refine AWp.sub (Sub.ownCell (x := 7) (k := 0) (id := 700) 101 2 rfl rfl rfl) ?_
  refine awp_seq ?_
  refine awp_rg mixed ?_
  refine k_ (g_ rfl rfl (r_move rfl rfl (lt_ rfl) rfl)) ?_
  refine k_ (g_ rfl rfl (r_build tok rfl rfl (lt_ rfl) t101 rfl p101 rfl rfl)) ?_
  refine k_ (g_ rfl rfl (by exact r_call [(7, .var 119 [.hs 700 0 0 0]), (700, .arr 101 2 [] 0)] [(7, .var 119 [.hs 700 0 ([] ++ [(⟨f, []⟩ : Way)]).length ([] ++ [(⟨f, []⟩ : Way)]).length]), (700, .arr 101 2 (([] ++ [(⟨f, []⟩ : Way)]).map encW) 0)] b55 rfl rfl (lt_ rfl) (c55 [] ⟨f, []⟩ (by simp [Small])) (.cons rfl (by first | exact .refl | exact .agg (by first | exact .of_pure | ((first | refine .hs rfl (by first | rfl | simp) (by first | rfl | (simp; done) | (simp [Go.AM.take_map]; done) | exact Go.AM.take_map.symm) ?_ | refine .c .refl ?_ | refine .c (Cle.nl (es := 2)) ?_); exact .nil)) | exact .pa (by first | exact .of_pure | ((first | refine .hs rfl (by first | rfl | simp) (by first | rfl | (simp; done) | (simp [Go.AM.take_map]; done) | exact Go.AM.take_map.symm) ?_ | refine .c .refl ?_ | refine .c (Cle.nl (es := 2)) ?_); exact .nil))) (.cons rfl (.pa (.c .refl (.c .nl .nil))) (.nil))) ⟨rfl, rfl, trivial⟩ ⟨.inl (by simp [keys]), .inl (by simp [keys]), trivial⟩ rfl)) ?_
  refine z_ rfl (by kernel_rfl) ?_
  refine awp_seq ?_
  refine awp_rg mixed ?_
  refine k_ (g_ rfl rfl (by exact r_call [(7, .var 119 [.hs 700 0 [(⟨f, []⟩ : Way)].length [(⟨f, []⟩ : Way)].length]), (700, .arr 101 2 ([(⟨f, []⟩ : Way)].map encW) 0)] [(7, .var 119 [.hs 701 0 0 0]), (701, .arr 101 2 [] 0), (700, .dead)] b56 rfl rfl (lt_ rfl) (c56c ⟨f, []⟩ [] (by simp [Small])) (.cons rfl (by first | exact .refl | exact .agg (by first | exact .of_pure | ((first | refine .hs rfl (by first | rfl | simp) (by first | rfl | (simp; done) | (simp [Go.AM.take_map]; done) | exact Go.AM.take_map.symm) ?_ | refine .c .refl ?_ | refine .c (Cle.nl (es := 2)) ?_); exact .nil)) | exact .pa (by first | exact .of_pure | ((first | refine .hs rfl (by first | rfl | simp) (by first | rfl | (simp; done) | (simp [Go.AM.take_map]; done) | exact Go.AM.take_map.symm) ?_ | refine .c .refl ?_ | refine .c (Cle.nl (es := 2)) ?_); exact .nil))) (.nil)) ⟨rfl, rfl, trivial⟩ ⟨.inl (by simp [keys]), .inr rfl, .inl (by simp [keys]), trivial⟩ rfl)) ?_
  refine k_ (g_ rfl rfl (r_move rfl rfl (lt_ rfl) rfl)) ?_
  refine k_ (g_ rfl rfl (r_extract rfl rfl (lt_ rfl) rfl rfl)) ?_
  refine k_ (g_ rfl rfl (r_extract rfl rfl (lt_ rfl) rfl rfl)) ?_
  refine k_ (g_ rfl rfl (r_alloc 8 tok rfl rfl (lt_ rfl) t101 rfl)) ?_
  refine k_ (g_ rfl rfl (by first | exact r_store tok rfl rfl t101 rfl rfl rfl rfl rfl rfl | exact r_store_ep tok rfl rfl t101 rfl rfl rfl rfl rfl (by first | rfl | simp) (by first | assumption | rfl) rfl (le_ rfl))) ?_
  refine k_ (g_ rfl rfl (r_assign rfl rfl (lt_ rfl) rfl)) ?_
  refine z_ rfl (by kernel_rfl) ?_
  refine awp_block ?_   -- block 0
  refine awp_loop (fun x : List Str × List Way => mk [(0, .one (.c (.pt (encEnv e)))), (2, .one (.clo 59 [.vp 11 0, .vp 5 0])), (6, .one (.mr 15)), (7, .one (.vp 7 0)), (8, .one (.vp 8 0)), (9, B (!x.2.isEmpty))] [(5, .var 9 [.c (.str t)]), (11, .var 4 [.c (.bool false)]), (15, .map false ((x.1).map encB)), (7, .var 119 [.hs 700 0 (x.2.tail).length (x.2.tail).length]), (700, .arr 101 2 ((x.2.tail).map encW) 0), (8, .var 101 ((encW (x.2.headD ⟨[], []⟩)).map R.c))])
    (fun x => COk p x.1 x.2 ∧ ∃ n, bfs p t n x.1 x.2 = climbR p f t ∧ (p.classes.length - x.1.length) + x.2.length < n) (fun x => (p.classes.length - x.1.length) + x.2.length) ([], [⟨f, []⟩])
    ⟨⟨.nil p, by simp, by simp⟩, p.classes.length + 2, rfl, by simp⟩ (.list (fun i => if Nat.beq i 700 then 701 else i) ⟨rfl, rfl, rfl, rfl, rfl, rfl, trivial⟩ ⟨⟨_, rfl, .var rfl⟩, ⟨_, rfl, .var rfl⟩, ⟨_, rfl, .map⟩, ⟨_, rfl, .var rfl⟩, ⟨_, rfl, .arr⟩, ⟨_, rfl, .var rfl⟩, trivial⟩ rfl) ?_
  rintro ⟨seen, ql⟩ ⟨hok, n, hn, hmn⟩
  dsimp only at hok hn hmn ⊢
  cases ql with
  | nil =>
    refine awp_seq ?_
    refine awp_seq ?_
    refine awp_rg mixed ?_
    refine k_ (g_ rfl rfl (r_move rfl rfl (lt_ rfl) rfl)) ?_
    refine z_ rfl (by kernel_rfl) ?_
    refine awp_cond rfl (fun hb => by cases hb) (fun hb => ?_)
    refine awp_exit ?_   -- 0
    have hnone : climbR p f t = none := by
      rw [← hn]
      cases n with
      | zero => rfl
      | succ n => rfl
    rw [hnone]
    exact ⟨.inl rfl, ⟨_, _, .nil, .nil, rfl⟩, ⟨⟨_, rfl, .var rfl⟩, ⟨_, rfl, .var rfl⟩, trivial⟩, rfl⟩
  | cons w q =>
    have hsl := hok.tok.len
    have hms := mstr_seen seen
    have hql := hok.len
    have hwp := hok.path w (by simp)
    have hsup := hp.supersOf w.cls
    unfold Small at hsup
    simp only [List.length_cons] at hql hmn
    obtain ⟨n, rfl⟩ : ∃ m, n = m + 1 := ⟨n - 1, by omega⟩
    refine awp_seq ?_
    refine awp_seq ?_
    refine awp_rg mixed ?_
    refine k_ (g_ rfl rfl (r_move rfl rfl (lt_ rfl) rfl)) ?_
    refine z_ rfl (by kernel_rfl) ?_
    refine awp_cond rfl (fun hb => ?_) (fun hb => by cases hb)
    refine awp_skip ?_
    refine awp_seq ?_
    refine awp_block ?_   -- block 1
    refine awp_seq ?_
    refine AWp.cut (mk [(0, .one (.c (.pt (encEnv e)))), (2, .one (.clo 59 [.vp 11 0, .vp 5 0])), (6, .one (.mr 15)), (7, .one (.vp 7 0)), (8, .one (.vp 8 0)), (35, .one (.c (.sl 1 ((supersOf p w.cls).map encS)))), (36, I .i64 (supersOf p w.cls).length), (37, I .i64 (0 : Nat))] [(5, .var 9 [.c (.str t)]), (11, .var 4 [.c (.bool false)]), (15, .map false ((seen).map encB)), (7, .var 119 [.hs 700 0 (q).length (q).length]), (700, .arr 101 2 ((q).map encW) 0), (8, .var 101 ((encW w).map R.c))]) ?_ ?_
    · have hf := he.cls w.cls
      cases hc : cls p w.cls with
      | none =>
        rw [hc] at hf
        have hf' : mfind w.cls e.cm = none := hf
        refine awp_rg mixed ?_
        refine k_ (g_ rfl rfl (r_move rfl rfl (lt_ rfl) rfl)) ?_
        refine k_ (g_ rfl rfl (r_nilCheck rfl rfl (lt_ rfl) rfl rfl)) ?_
        refine k_ (g_ rfl rfl (by first | exact r_field_vp tok rfl rfl (lt_ rfl) t86 rfl rfl t82 (nz_ rfl) rfl | exact r_field_pt tok rfl rfl (lt_ rfl) t86 rfl rfl t82 (nz_ rfl) rfl | exact r_field_ep tok rfl rfl (lt_ rfl) t86 rfl rfl t82 (nz_ rfl) rfl rfl (by first | rfl | simp))) ?_
        refine k_ (g_ rfl rfl (by first | exact r_load tok rfl rfl (lt_ rfl) t82 rfl rfl rfl rfl | exact r_load_pt tok rfl rfl (lt_ rfl) t82 rfl (le_ rfl) rfl | exact r_load_ep tok rfl rfl (lt_ rfl) t82 rfl rfl (by first | rfl | simp) (by first | assumption | rfl) (le_ rfl) rfl)) ?_
        refine k_ (g_ rfl rfl (by first | exact r_field_vp tok rfl rfl (lt_ rfl) t101 rfl rfl t9 (nz_ rfl) rfl | exact r_field_pt tok rfl rfl (lt_ rfl) t101 rfl rfl t9 (nz_ rfl) rfl | exact r_field_ep tok rfl rfl (lt_ rfl) t101 rfl rfl t9 (nz_ rfl) rfl rfl (by first | rfl | simp))) ?_
        refine k_ (g_ rfl rfl (by first | exact r_load tok rfl rfl (lt_ rfl) t9 rfl rfl rfl rfl | exact r_load_pt tok rfl rfl (lt_ rfl) t9 rfl (le_ rfl) rfl | exact r_load_ep tok rfl rfl (lt_ rfl) t9 rfl rfl (by first | rfl | simp) (by first | assumption | rfl) (le_ rfl) rfl)) ?_
        refine k_ (g_ rfl rfl (by exact r_lookup tok rfl rfl (lt_ rfl) t82 rfl t9 rfl t66 rfl rfl (by first | exact .mr rfl | exact .mp | exact .nil) (by first | assumption | exact trivial) rfl hf')) ?_
        refine k_ (g_ rfl rfl (r_field tok rfl rfl (lt_ rfl) t66 rfl rfl t40 rfl rfl rfl rfl rfl)) ?_
        refine k_ (g_ rfl rfl (by first | exact r_len_sl tok rfl rfl (lt_ rfl) t40 rfl rfl | exact r_len_hs tok rfl rfl (lt_ rfl) t40 rfl rfl rfl (by first | rfl | simp) | exact r_len_nl tok rfl rfl (lt_ rfl) t40 rfl rfl | exact r_len_str tok rfl rfl (lt_ rfl) t40 rfl rfl)) ?_
        refine k_ (g_ rfl rfl (r_move rfl rfl (lt_ rfl) rfl)) ?_
        refine z_ rfl (by kernel_rfl) ?_
        refine Sub.trans ?_ (Sub.conv (t := 35) (v' := .one (.c (.sl 1 []))) rfl (.one (.c .nl .nil)))
        rw [show supersOf p w.cls = [] by simp [supersOf, hc, zCls]]
        exact .list (fun i => i) ⟨rfl, rfl, rfl, rfl, rfl, rfl, rfl, rfl, trivial⟩ ⟨⟨_, rfl, .var rfl⟩, ⟨_, rfl, .var rfl⟩, ⟨_, rfl, .map⟩, ⟨_, rfl, .var rfl⟩, ⟨_, rfl, .arr⟩, ⟨_, rfl, .var rfl⟩, trivial⟩ rfl
      | some c =>
        rw [hc] at hf
        have hf' : mfind w.cls e.cm = some (encCls c) := hf
        refine awp_rg mixed ?_
        refine k_ (g_ rfl rfl (r_move rfl rfl (lt_ rfl) rfl)) ?_
        refine k_ (g_ rfl rfl (r_nilCheck rfl rfl (lt_ rfl) rfl rfl)) ?_
        refine k_ (g_ rfl rfl (by first | exact r_field_vp tok rfl rfl (lt_ rfl) t86 rfl rfl t82 (nz_ rfl) rfl | exact r_field_pt tok rfl rfl (lt_ rfl) t86 rfl rfl t82 (nz_ rfl) rfl | exact r_field_ep tok rfl rfl (lt_ rfl) t86 rfl rfl t82 (nz_ rfl) rfl rfl (by first | rfl | simp))) ?_
        refine k_ (g_ rfl rfl (by first | exact r_load tok rfl rfl (lt_ rfl) t82 rfl rfl rfl rfl | exact r_load_pt tok rfl rfl (lt_ rfl) t82 rfl (le_ rfl) rfl | exact r_load_ep tok rfl rfl (lt_ rfl) t82 rfl rfl (by first | rfl | simp) (by first | assumption | rfl) (le_ rfl) rfl)) ?_
        refine k_ (g_ rfl rfl (by first | exact r_field_vp tok rfl rfl (lt_ rfl) t101 rfl rfl t9 (nz_ rfl) rfl | exact r_field_pt tok rfl rfl (lt_ rfl) t101 rfl rfl t9 (nz_ rfl) rfl | exact r_field_ep tok rfl rfl (lt_ rfl) t101 rfl rfl t9 (nz_ rfl) rfl rfl (by first | rfl | simp))) ?_
        refine k_ (g_ rfl rfl (by first | exact r_load tok rfl rfl (lt_ rfl) t9 rfl rfl rfl rfl | exact r_load_pt tok rfl rfl (lt_ rfl) t9 rfl (le_ rfl) rfl | exact r_load_ep tok rfl rfl (lt_ rfl) t9 rfl rfl (by first | rfl | simp) (by first | assumption | rfl) (le_ rfl) rfl)) ?_
        refine k_ (g_ rfl rfl (by exact r_lookup tok rfl rfl (lt_ rfl) t82 rfl t9 rfl t66 rfl rfl (by first | exact .mr rfl | exact .mp | exact .nil) (by first | assumption | exact trivial) rfl hf')) ?_
        refine k_ (g_ rfl rfl (r_field tok rfl rfl (lt_ rfl) t66 rfl rfl t40 rfl rfl rfl rfl rfl)) ?_
        refine k_ (g_ rfl rfl (by first | exact r_len_sl tok rfl rfl (lt_ rfl) t40 rfl rfl | exact r_len_hs tok rfl rfl (lt_ rfl) t40 rfl rfl rfl (by first | rfl | simp) | exact r_len_nl tok rfl rfl (lt_ rfl) t40 rfl rfl | exact r_len_str tok rfl rfl (lt_ rfl) t40 rfl rfl)) ?_
        refine k_ (g_ rfl rfl (r_move rfl rfl (lt_ rfl) rfl)) ?_
        refine z_ rfl (by kernel_rfl) ?_
        rw [show supersOf p w.cls = c.supers by simp [supersOf, hc]]
        exact .list (fun i => i) ⟨rfl, rfl, rfl, rfl, rfl, rfl, int_eq (by simp), rfl, trivial⟩ ⟨⟨_, rfl, .var rfl⟩, ⟨_, rfl, .var rfl⟩, ⟨_, rfl, .map⟩, ⟨_, rfl, .var rfl⟩, ⟨_, rfl, .arr⟩, ⟨_, rfl, .var rfl⟩, trivial⟩ rfl
    refine awp_block ?_   -- block 2
    refine awp_loop (fun y : Nat × List Str × List Way => mk [(0, .one (.c (.pt (encEnv e)))), (2, .one (.clo 59 [.vp 11 0, .vp 5 0])), (6, .one (.mr 15)), (7, .one (.vp 7 0)), (8, .one (.vp 8 0)), (35, .one (.c (.sl 1 ((supersOf p w.cls).map encS)))), (36, I .i64 (supersOf p w.cls).length), (37, I .i64 y.1)] [(5, .var 9 [.c (.str t)]), (11, .var 4 [.c (.bool false)]), (15, .map false ((y.2.1).map encB)), (7, .var 119 [.hs 700 0 (y.2.2).length (y.2.2).length]), (700, .arr 101 2 ((y.2.2).map encW) 0), (8, .var 101 ((encW w).map R.c))])
      (fun y => y.1 ≤ (supersOf p w.cls).length ∧ COk p y.2.1 y.2.2 ∧ w.path.length ≤ y.2.1.length ∧ bin p t w ((supersOf p w.cls).zipIdx.drop y.1) y.2.1 y.2.2 = bin p t w (supersOf p w.cls).zipIdx seen q ∧ (p.classes.length - y.2.1.length) + y.2.2.length = (p.classes.length - seen.length) + q.length) (fun y => (supersOf p w.cls).length - y.1) (0, seen, q)
      ⟨Nat.zero_le _, ⟨hok.tok, by dsimp only; omega, fun v hv => hok.path v (by simp [hv])⟩, hwp, rfl, rfl⟩ (.list (fun i => i) ⟨rfl, rfl, rfl, rfl, rfl, rfl, rfl, rfl, trivial⟩ ⟨⟨_, rfl, .var rfl⟩, ⟨_, rfl, .var rfl⟩, ⟨_, rfl, .map⟩, ⟨_, rfl, .var rfl⟩, ⟨_, rfl, .arr⟩, ⟨_, rfl, .var rfl⟩, trivial⟩ rfl) ?_
    rintro ⟨i, sn, qq⟩ ⟨hi, hok2, hwp2, hbin, hmeas⟩
    dsimp only at hi hok2 hwp2 hbin hmeas ⊢
    have hsl2 := hok2.tok.len
    have hms2 := mstr_seen sn
    have hql2 := hok2.len
    refine awp_seq ?_
    refine awp_rg mixed ?_
    refine k_ (g_ rfl rfl (r_lss rfl rfl (lt_ rfl) rfl rfl)) ?_
    refine z_ rfl (by kernel_rfl) ?_
    refine awp_seq ?_
    refine awp_cond rfl (fun hb => ?_) (fun hb => ?_)
    · refine awp_skip ?_
      have hlt : i < (supersOf p w.cls).length := by simpa using hb
      obtain ⟨s, hs⟩ := get_of_lt hlt
      have hs' := getEnc encS hs
      have hz := zip_get hs
      have hzd : (supersOf p w.cls).zipIdx.drop i = (s, i) :: (supersOf p w.cls).zipIdx.drop (i + 1) := by
        have hl2 := (List.getElem?_eq_some_iff.1 hz).1
        rw [List.drop_eq_getElem_cons hl2, (List.getElem?_eq_some_iff.1 hz).2]
      rw [hzd] at hbin
      have hf := he.cls s
      refine awp_seq ?_
      refine awp_block ?_   -- block 3
      refine awp_seq ?_
      refine awp_rg mixed ?_
      refine k_ (g_ rfl rfl (r_move rfl rfl (lt_ rfl) rfl)) ?_
      refine k_ (g_ rfl rfl (by first | exact r_index tok rfl rfl (lt_ rfl) t40 rfl t9 rfl rfl rfl rfl (by first | assumption | rfl) | exact r_index_hs tok rfl rfl (lt_ rfl) t40 rfl t9 rfl rfl rfl (by first | rfl | simp) rfl rfl (by first | decide | omega | (simp; done) | (simp; omega)))) ?_
      refine k_ (g_ rfl rfl (by first | exact r_load tok rfl rfl (lt_ rfl) t9 rfl rfl rfl rfl | exact r_load_pt tok rfl rfl (lt_ rfl) t9 rfl (le_ rfl) rfl | exact r_load_ep tok rfl rfl (lt_ rfl) t9 rfl rfl (by first | rfl | simp) (by first | assumption | rfl) (le_ rfl) rfl)) ?_
      refine k_ (g_ rfl rfl (r_assign rfl rfl (lt_ rfl) rfl)) ?_
      refine k_ (g_ rfl rfl (r_assign rfl rfl (lt_ rfl) rfl)) ?_
      refine z_ rfl (by kernel_rfl) ?_
      refine awp_seq ?_
      refine awp_seq ?_
      cases hc : cls p s with
      | none =>
        rw [hc] at hf
        have hf' : mfind s e.cm = none := hf
        have hskip : bin p t w ((s, i) :: (supersOf p w.cls).zipIdx.drop (i + 1)) sn qq = bin p t w ((supersOf p w.cls).zipIdx.drop (i + 1)) sn qq := by rw [bin, if_neg]; simp [hc]
        rw [hskip] at hbin
        refine awp_rg mixed ?_
        refine k_ (g_ rfl rfl (r_move rfl rfl (lt_ rfl) rfl)) ?_
        refine k_ (g_ rfl rfl (r_nilCheck rfl rfl (lt_ rfl) rfl rfl)) ?_
        refine k_ (g_ rfl rfl (by first | exact r_field_vp tok rfl rfl (lt_ rfl) t86 rfl rfl t82 (nz_ rfl) rfl | exact r_field_pt tok rfl rfl (lt_ rfl) t86 rfl rfl t82 (nz_ rfl) rfl | exact r_field_ep tok rfl rfl (lt_ rfl) t86 rfl rfl t82 (nz_ rfl) rfl rfl (by first | rfl | simp))) ?_
        refine k_ (g_ rfl rfl (by first | exact r_load tok rfl rfl (lt_ rfl) t82 rfl rfl rfl rfl | exact r_load_pt tok rfl rfl (lt_ rfl) t82 rfl (le_ rfl) rfl | exact r_load_ep tok rfl rfl (lt_ rfl) t82 rfl rfl (by first | rfl | simp) (by first | assumption | rfl) (le_ rfl) rfl)) ?_
        refine k_ (g_ rfl rfl (r_move rfl rfl (lt_ rfl) rfl)) ?_
        refine k_ (g_ rfl rfl (by exact r_lookup tok rfl rfl (lt_ rfl) t82 rfl t9 rfl t66 rfl rfl (by first | exact .mr rfl | exact .mp | exact .nil) (by first | assumption | exact trivial) rfl hf')) ?_
        refine k_ (g_ rfl rfl (r_move rfl rfl (lt_ rfl) rfl)) ?_
        refine k_ (g_ rfl rfl (r_extract rfl rfl (lt_ rfl) rfl rfl)) ?_
        refine k_ (g_ rfl rfl (r_extract rfl rfl (lt_ rfl) rfl rfl)) ?_
        refine k_ (g_ rfl rfl (r_alloc 12 tok rfl rfl (lt_ rfl) t66 rfl)) ?_
        refine k_ (g_ rfl rfl (by first | exact r_store tok rfl rfl t66 rfl rfl rfl rfl rfl rfl | exact r_store_ep tok rfl rfl t66 rfl rfl rfl rfl rfl (by first | rfl | simp) (by first | assumption | rfl) rfl (le_ rfl))) ?_
        refine k_ (g_ rfl rfl (r_assign rfl rfl (lt_ rfl) rfl)) ?_
        refine z_ rfl (by kernel_rfl) ?_
        refine awp_seq ?_
        refine awp_rg mixed ?_
        refine k_ (g_ rfl rfl (r_move rfl rfl (lt_ rfl) rfl)) ?_
        refine k_ (g_ rfl rfl (r_not rfl rfl (lt_ rfl) rfl)) ?_
        refine k_ (g_ rfl rfl (r_move rfl rfl (lt_ rfl) rfl)) ?_
        refine k_ (by first | exact GStep.no rfl rfl rfl (lt_ rfl) rfl rfl (by first | assumption | rfl | (simp; done) | (simp only [Bool.not]; assumption) | (simp; omega)) rfl | exact GStep.un rfl rfl rfl (lt_ rfl) rfl rfl) ?_
        refine k_ (by first | exact GStep.no rfl rfl rfl (lt_ rfl) rfl rfl (by first | assumption | rfl | (simp; done) | (simp only [Bool.not]; assumption) | (simp; omega)) rfl | exact GStep.un rfl rfl rfl (lt_ rfl) rfl rfl) ?_
        refine k_ (by first | exact GStep.no rfl rfl rfl (lt_ rfl) rfl rfl (by first | assumption | rfl | (simp; done) | (simp only [Bool.not]; assumption) | (simp; omega)) rfl | exact GStep.un rfl rfl rfl (lt_ rfl) rfl rfl) ?_
        refine k_ (g_ rfl rfl (by exact r_pick_t rfl rfl (lt_ rfl) rfl (by first | assumption | rfl | (simp; done)) rfl)) ?_
        refine z_ rfl (by kernel_rfl) ?_
        refine awp_cond rfl (fun hb => ?_) (fun hb => by cases hb)
        refine awp_exit ?_   -- 3
        refine awp_rg mixed ?_
        refine k_ (g_ rfl rfl (by exact r_addI rfl rfl (lt_ rfl) rfl rfl (by first | omega | (simp only [List.length_map]; omega)))) ?_
        refine k_ (g_ rfl rfl (r_move rfl rfl (lt_ rfl) rfl)) ?_
        refine z_ rfl (by kernel_rfl) ?_
        exact ⟨(i + 1, sn, qq), ⟨hlt, hok2, hwp2, hbin, hmeas⟩, by dsimp only; omega, .list (fun i => i) ⟨rfl, rfl, rfl, rfl, rfl, rfl, rfl, rfl, trivial⟩ ⟨⟨_, rfl, .var rfl⟩, ⟨_, rfl, .var rfl⟩, ⟨_, rfl, .map⟩, ⟨_, rfl, .var rfl⟩, ⟨_, rfl, .arr⟩, ⟨_, rfl, .var rfl⟩, trivial⟩ rfl⟩
      | some c =>
        rw [hc] at hf
        have hf' : mfind s e.cm = some (encCls c) := hf
        refine awp_rg mixed ?_
        refine k_ (g_ rfl rfl (r_move rfl rfl (lt_ rfl) rfl)) ?_
        refine k_ (g_ rfl rfl (r_nilCheck rfl rfl (lt_ rfl) rfl rfl)) ?_
        refine k_ (g_ rfl rfl (by first | exact r_field_vp tok rfl rfl (lt_ rfl) t86 rfl rfl t82 (nz_ rfl) rfl | exact r_field_pt tok rfl rfl (lt_ rfl) t86 rfl rfl t82 (nz_ rfl) rfl | exact r_field_ep tok rfl rfl (lt_ rfl) t86 rfl rfl t82 (nz_ rfl) rfl rfl (by first | rfl | simp))) ?_
        refine k_ (g_ rfl rfl (by first | exact r_load tok rfl rfl (lt_ rfl) t82 rfl rfl rfl rfl | exact r_load_pt tok rfl rfl (lt_ rfl) t82 rfl (le_ rfl) rfl | exact r_load_ep tok rfl rfl (lt_ rfl) t82 rfl rfl (by first | rfl | simp) (by first | assumption | rfl) (le_ rfl) rfl)) ?_
        refine k_ (g_ rfl rfl (r_move rfl rfl (lt_ rfl) rfl)) ?_
        refine k_ (g_ rfl rfl (by exact r_lookup tok rfl rfl (lt_ rfl) t82 rfl t9 rfl t66 rfl rfl (by first | exact .mr rfl | exact .mp | exact .nil) (by first | assumption | exact trivial) rfl hf')) ?_
        refine k_ (g_ rfl rfl (r_move rfl rfl (lt_ rfl) rfl)) ?_
        refine k_ (g_ rfl rfl (r_extract rfl rfl (lt_ rfl) rfl rfl)) ?_
        refine k_ (g_ rfl rfl (r_extract rfl rfl (lt_ rfl) rfl rfl)) ?_
        refine k_ (g_ rfl rfl (r_alloc 12 tok rfl rfl (lt_ rfl) t66 rfl)) ?_
        refine k_ (g_ rfl rfl (by first | exact r_store tok rfl rfl t66 rfl rfl rfl rfl rfl rfl | exact r_store_ep tok rfl rfl t66 rfl rfl rfl rfl rfl (by first | rfl | simp) (by first | assumption | rfl) rfl (le_ rfl))) ?_
        refine k_ (g_ rfl rfl (r_assign rfl rfl (lt_ rfl) rfl)) ?_
        refine z_ rfl (by kernel_rfl) ?_
        refine awp_seq ?_
        by_cases hin : s ∈ sn
        · have hfs : mfind s (sn.map encB) = some [.bool true] := by rw [mfind_seen, if_pos hin]
          have hskip : bin p t w ((s, i) :: (supersOf p w.cls).zipIdx.drop (i + 1)) sn qq = bin p t w ((supersOf p w.cls).zipIdx.drop (i + 1)) sn qq := by rw [bin, if_neg]; simp [hin]
          rw [hskip] at hbin
          refine awp_rg mixed ?_
          refine k_ (g_ rfl rfl (r_move rfl rfl (lt_ rfl) rfl)) ?_
          refine k_ (g_ rfl rfl (r_not rfl rfl (lt_ rfl) rfl)) ?_
          refine k_ (g_ rfl rfl (r_move rfl rfl (lt_ rfl) rfl)) ?_
          refine k_ (GStep.yes rfl rfl rfl rfl (by first | assumption | rfl | (simp; done) | (simp only [Bool.not]; assumption) | (simp; omega)) (by exact r_move rfl rfl (lt_ rfl) rfl)) ?_
          refine k_ (GStep.yes rfl rfl rfl rfl (by first | assumption | rfl | (simp; done) | (simp only [Bool.not]; assumption) | (simp; omega)) (by exact r_move rfl rfl (lt_ rfl) rfl)) ?_
          refine k_ (GStep.yes rfl rfl rfl rfl (by first | assumption | rfl | (simp; done) | (simp only [Bool.not]; assumption) | (simp; omega)) (by exact r_lookup tok rfl rfl (lt_ rfl) t116 rfl t9 rfl t4 rfl rfl (by first | exact .mr rfl | exact .mp | exact .nil) (by first | assumption | exact trivial) rfl hfs)) ?_
          refine k_ (g_ rfl rfl (by exact r_pick_f rfl rfl (lt_ rfl) rfl (by first | assumption | rfl | (simp; done)) rfl)) ?_
          refine z_ rfl (by kernel_rfl) ?_
          refine awp_cond rfl (fun hb => ?_) (fun hb => by cases hb)
          refine awp_exit ?_   -- 3
          refine awp_rg mixed ?_
          refine k_ (g_ rfl rfl (by exact r_addI rfl rfl (lt_ rfl) rfl rfl (by first | omega | (simp only [List.length_map]; omega)))) ?_
          refine k_ (g_ rfl rfl (r_move rfl rfl (lt_ rfl) rfl)) ?_
          refine z_ rfl (by kernel_rfl) ?_
          exact ⟨(i + 1, sn, qq), ⟨hlt, hok2, hwp2, hbin, hmeas⟩, by dsimp only; omega, .list (fun i => i) ⟨rfl, rfl, rfl, rfl, rfl, rfl, rfl, rfl, trivial⟩ ⟨⟨_, rfl, .var rfl⟩, ⟨_, rfl, .var rfl⟩, ⟨_, rfl, .map⟩, ⟨_, rfl, .var rfl⟩, ⟨_, rfl, .arr⟩, ⟨_, rfl, .var rfl⟩, trivial⟩ rfl⟩
        · have hfs : mfind s (sn.map encB) = none := by rw [mfind_seen, if_neg hin]
          have hput := mput_seen s sn hin
          refine awp_rg mixed ?_
          refine k_ (g_ rfl rfl (r_move rfl rfl (lt_ rfl) rfl)) ?_
          refine k_ (g_ rfl rfl (r_not rfl rfl (lt_ rfl) rfl)) ?_
          refine k_ (g_ rfl rfl (r_move rfl rfl (lt_ rfl) rfl)) ?_
          refine k_ (GStep.yes rfl rfl rfl rfl (by first | assumption | rfl | (simp; done) | (simp only [Bool.not]; assumption) | (simp; omega)) (by exact r_move rfl rfl (lt_ rfl) rfl)) ?_
          refine k_ (GStep.yes rfl rfl rfl rfl (by first | assumption | rfl | (simp; done) | (simp only [Bool.not]; assumption) | (simp; omega)) (by exact r_move rfl rfl (lt_ rfl) rfl)) ?_
          refine k_ (GStep.yes rfl rfl rfl rfl (by first | assumption | rfl | (simp; done) | (simp only [Bool.not]; assumption) | (simp; omega)) (by exact r_lookup tok rfl rfl (lt_ rfl) t116 rfl t9 rfl t4 rfl rfl (by first | exact .mr rfl | exact .mp | exact .nil) (by first | assumption | exact trivial) rfl hfs)) ?_
          refine k_ (g_ rfl rfl (by exact r_pick_f rfl rfl (lt_ rfl) rfl (by first | assumption | rfl | (simp; done)) rfl)) ?_
          refine z_ rfl (by kernel_rfl) ?_
          refine awp_cond rfl (fun hb => by cases hb) (fun hb => ?_)
          refine awp_skip ?_
          have hok3 : TOk p (sn ++ [s]) := hok2.tok.snoc (by rw [hc]; rfl) hin
          have hl3 := hok3.len
          simp only [List.length_append, List.length_singleton] at hl3
          refine awp_seq ?_
          refine awp_rg mixed ?_
          refine k_ (g_ rfl rfl (r_move rfl rfl (lt_ rfl) rfl)) ?_
          refine k_ (g_ rfl rfl (r_move rfl rfl (lt_ rfl) rfl)) ?_
          refine k_ (g_ rfl rfl (by exact r_mapUpdate tok rfl rfl t116 rfl t9 rfl rfl rfl (by first | assumption | exact trivial) rfl rfl rfl rfl (.c .refl (.nil)))) ?_
          refine z_ rfl (by kernel_rfl) ?_
          refine awp_seq ?_
          refine awp_rg mixed ?_
          refine k_ (g_ rfl rfl (r_move rfl rfl (lt_ rfl) rfl)) ?_
          refine k_ (g_ rfl rfl (by first | exact r_field_vp tok rfl rfl (lt_ rfl) t101 rfl rfl t22 (nz_ rfl) rfl | exact r_field_pt tok rfl rfl (lt_ rfl) t101 rfl rfl t22 (nz_ rfl) rfl | exact r_field_ep tok rfl rfl (lt_ rfl) t101 rfl rfl t22 (nz_ rfl) rfl rfl (by first | rfl | simp))) ?_
          refine k_ (g_ rfl rfl (by first | exact r_load tok rfl rfl (lt_ rfl) t22 rfl rfl rfl rfl | exact r_load_pt tok rfl rfl (lt_ rfl) t22 rfl (le_ rfl) rfl | exact r_load_ep tok rfl rfl (lt_ rfl) t22 rfl rfl (by first | rfl | simp) (by first | assumption | rfl) (le_ rfl) rfl)) ?_
          refine k_ (g_ rfl rfl (by exact r_call [] [(763, .arr 3 1 (w.path.map encI) 0)] b57 rfl rfl (lt_ rfl) (c57o w.path (by unfold Small; omega)) (.cons rfl (by first | exact .refl | exact .one (.hs rfl (by first | rfl | simp) (by first | rfl | (simp; done) | (simp [Go.AM.take_map]; done) | exact Go.AM.take_map.symm) .nil) | exact .one (.c .nl .nil) | exact .one (.c .sn .nil)) (.nil)) (by repeat (first | exact trivial | refine ⟨rfl, ?_⟩)) ⟨.inr rfl, trivial⟩ rfl)) ?_
          refine k_ (g_ rfl rfl (r_move rfl rfl (lt_ rfl) rfl)) ?_
          refine k_ (g_ rfl rfl (r_slice 65 tok rfl rfl (lt_ rfl) t22 rfl t3 (.cons rfl rfl (.c .refl (.nil)) rfl (.nil)) rfl rfl rfl rfl)) ?_
          refine k_ (g_ rfl rfl (by exact r_append tok rfl rfl (lt_ rfl) t22 rfl t3 rfl rfl rfl rfl (by first | rfl | simp) rfl (by first | exact .all rfl (by first | rfl | simp) | exact .hs rfl (by first | rfl | simp) (by first | rfl | (simp; done) | (simp [Go.AM.take_map]; done) | exact Go.AM.take_map.symm) | exact .sl | exact .nl | exact .sn) (by first | (simp; done) | (simp; omega)))) ?_
          refine k_ (g_ rfl rfl (r_build tok rfl rfl (lt_ rfl) t101 rfl p101 rfl rfl)) ?_
          refine k_ (g_ rfl rfl (r_alloc 14 tok rfl rfl (lt_ rfl) t101 rfl)) ?_
          refine k_ (g_ rfl rfl (by first | exact r_store tok rfl rfl t101 rfl rfl rfl rfl rfl rfl | exact r_store_ep tok rfl rfl t101 rfl rfl rfl rfl rfl (by first | rfl | simp) (by first | assumption | rfl) rfl (le_ rfl))) ?_
          refine z_ rfl (by kernel_rfl) ?_
          refine AWp.sub (Sub.freeze (id := 763) rfl) ?_
          refine awp_seq ?_
          refine awp_seq ?_
          refine awp_rg mixed ?_
          refine k_ (g_ rfl rfl (r_move rfl rfl (lt_ rfl) rfl)) ?_
          refine k_ (g_ rfl rfl (by first | exact r_load tok rfl rfl (lt_ rfl) t101 rfl rfl rfl rfl | exact r_load_pt tok rfl rfl (lt_ rfl) t101 rfl (le_ rfl) rfl | exact r_load_ep tok rfl rfl (lt_ rfl) t101 rfl rfl (by first | rfl | simp) (by first | assumption | rfl) (le_ rfl) rfl)) ?_
          refine k_ (g_ rfl rfl (by exact r_callv (hin59 t false) (hin59 t (decide (s = t))) b59 rfl rfl (lt_ rfl) rfl (c59 ⟨s, w.path ++ [(i : Int)]⟩ t) (.cons rfl (.agg (.c .refl (.hs rfl (by simp) (by rw [List.take_of_length_le (by simp)]; simp [encI]) .nil))) (.nil)) ⟨rfl, rfl, trivial⟩ ⟨.inl (by simp [keys, hin59]), .inl (by simp [keys, hin59]), trivial⟩ rfl)) ?_
          refine k_ (g_ rfl rfl (r_not rfl rfl (lt_ rfl) rfl)) ?_
          refine z_ rfl (by kernel_rfl) ?_
          by_cases hst : s = t
          · have e1 : decide (s = t) = true := by simp [hst]
            have hfound : bin p t w ((s, i) :: (supersOf p w.cls).zipIdx.drop (i + 1)) sn qq = .inl (w.path ++ [(i : Int)]) := by rw [bin, if_pos ⟨by rw [hc]; rfl, hin⟩, if_pos hst]
            rw [hfound] at hbin
            have hres : climbR p f t = some (w.path ++ [(i : Int)]) := by rw [← hn, bfs, ← hbin]
            refine awp_cond rfl (fun hb => ?_) (fun hb => by simp [e1] at hb)
            refine awp_ret ?_
            rw [hres, e1]
            exact ⟨.inr rfl, ⟨_, _, .nil, .nil, rfl⟩, ⟨⟨_, rfl, .var rfl⟩, ⟨_, rfl, .var rfl⟩, trivial⟩, rfl⟩
          · have e1 : decide (s = t) = false := by simp [hst]
            have hgo : bin p t w ((s, i) :: (supersOf p w.cls).zipIdx.drop (i + 1)) sn qq = bin p t w ((supersOf p w.cls).zipIdx.drop (i + 1)) (sn ++ [s]) (qq ++ [⟨s, w.path ++ [(i : Int)]⟩]) := by rw [bin, if_pos ⟨by rw [hc]; rfl, hin⟩, if_neg hst]
            rw [hgo] at hbin
            refine awp_cond rfl (fun hb => by simp [e1] at hb) (fun hb => ?_)
            refine awp_skip ?_
            refine awp_rg mixed ?_
            refine k_ (g_ rfl rfl (by first | exact r_load tok rfl rfl (lt_ rfl) t101 rfl rfl rfl rfl | exact r_load_pt tok rfl rfl (lt_ rfl) t101 rfl (le_ rfl) rfl | exact r_load_ep tok rfl rfl (lt_ rfl) t101 rfl rfl (by first | rfl | simp) (by first | assumption | rfl) (le_ rfl) rfl)) ?_
            refine k_ (g_ rfl rfl (by exact r_call [(7, .var 119 [.hs 700 0 qq.length qq.length]), (700, .arr 101 2 (qq.map encW) 0)] [(7, .var 119 [.hs 700 0 (qq ++ [(⟨s, w.path ++ [(i : Int)]⟩ : Way)]).length (qq ++ [(⟨s, w.path ++ [(i : Int)]⟩ : Way)]).length]), (700, .arr 101 2 ((qq ++ [(⟨s, w.path ++ [(i : Int)]⟩ : Way)]).map encW) 0)] b55 rfl rfl (lt_ rfl) (c55 qq ⟨s, w.path ++ [(i : Int)]⟩ (by unfold Small; omega)) (.cons rfl (by first | exact .refl | exact .agg (by first | exact .of_pure | ((first | refine .hs rfl (by first | rfl | simp) (by first | rfl | (simp; done) | (simp [Go.AM.take_map]; done) | exact Go.AM.take_map.symm) ?_ | refine .c .refl ?_ | refine .c (Cle.nl (es := 2)) ?_); exact .nil)) | exact .pa (by first | exact .of_pure | ((first | refine .hs rfl (by first | rfl | simp) (by first | rfl | (simp; done) | (simp [Go.AM.take_map]; done) | exact Go.AM.take_map.symm) ?_ | refine .c .refl ?_ | refine .c (Cle.nl (es := 2)) ?_); exact .nil))) (.cons rfl (.agg (.c .refl (.hs rfl (by simp) (by rw [List.take_of_length_le (by simp)]; simp [encI]) .nil))) (.nil))) ⟨rfl, rfl, trivial⟩ ⟨.inl (by simp [keys]), .inl (by simp [keys]), trivial⟩ rfl)) ?_
            refine z_ rfl (by kernel_rfl) ?_
            refine awp_rg mixed ?_
            refine k_ (g_ rfl rfl (by exact r_addI rfl rfl (lt_ rfl) rfl rfl (by first | omega | (simp only [List.length_map]; omega)))) ?_
            refine k_ (g_ rfl rfl (r_move rfl rfl (lt_ rfl) rfl)) ?_
            refine z_ rfl (by kernel_rfl) ?_
            rw [e1]
            exact ⟨(i + 1, sn ++ [s], qq ++ [⟨s, w.path ++ [(i : Int)]⟩]), ⟨hlt, ⟨hok3, by simp; omega, fun v hv => by
              rcases List.mem_append.1 hv with hv | hv
              · have := hok2.path v hv
                dsimp only at this ⊢
                rw [List.length_append]; omega
              · simp at hv; subst hv; simp; exact hwp2⟩, by simp; omega, hbin, by simp; omega⟩, by dsimp only; omega, .list (fun i => i) ⟨rfl, rfl, rfl, rfl, rfl, rfl, rfl, rfl, trivial⟩ ⟨⟨_, rfl, .var rfl⟩, ⟨_, rfl, .var rfl⟩, ⟨_, rfl, Ole.mapE hput⟩, ⟨_, rfl, .var rfl⟩, ⟨_, rfl, .arr⟩, ⟨_, rfl, .var rfl⟩, trivial⟩ rfl⟩
    · refine awp_exit ?_   -- 2
      have hge : i = (supersOf p w.cls).length := by
        have : ¬ i < (supersOf p w.cls).length := by simpa using hb
        omega
      have hdr : (supersOf p w.cls).zipIdx.drop i = [] := List.drop_of_length_le (by rw [List.length_zipIdx]; omega)
      rw [hdr, bin] at hbin
      have hn2 : bfs p t n sn qq = climbR p f t := by rw [← hn, bfs, ← hbin]
      refine awp_seq ?_
      refine awp_seq ?_
      refine awp_rg mixed ?_
      refine k_ (g_ rfl rfl (by first | exact r_load tok rfl rfl (lt_ rfl) t101 rfl rfl rfl rfl | exact r_load_pt tok rfl rfl (lt_ rfl) t101 rfl (le_ rfl) rfl | exact r_load_ep tok rfl rfl (lt_ rfl) t101 rfl rfl (by first | rfl | simp) (by first | assumption | rfl) (le_ rfl) rfl)) ?_
      refine z_ rfl (by kernel_rfl) ?_
      refine awp_rg mixed ?_
      refine k_ (g_ rfl rfl (r_alloc 880 tok rfl rfl (lt_ rfl) t101 rfl)) ?_
      refine k_ (g_ rfl rfl (by first | exact r_store tok rfl rfl t101 rfl rfl rfl rfl rfl rfl | exact r_store_ep tok rfl rfl t101 rfl rfl rfl rfl rfl (by first | rfl | simp) (by first | assumption | rfl) rfl (le_ rfl))) ?_
      refine z_ rfl (by kernel_rfl) ?_
      cases qq with
      | nil =>
        refine awp_rg mixed ?_
        refine k_ (g_ rfl rfl (by exact r_call [(7, .var 119 [.hs 700 0 0 0]), (700, .arr 101 2 [] 0)] [(7, .var 119 [.hs 700 0 0 0]), (700, .arr 101 2 [] 0)] b56 rfl rfl (lt_ rfl) c56n (.cons rfl (by first | exact .refl | exact .agg (by first | exact .of_pure | ((first | refine .hs rfl (by first | rfl | simp) (by first | rfl | (simp; done) | (simp [Go.AM.take_map]; done) | exact Go.AM.take_map.symm) ?_ | refine .c .refl ?_ | refine .c (Cle.nl (es := 2)) ?_); exact .nil)) | exact .pa (by first | exact .of_pure | ((first | refine .hs rfl (by first | rfl | simp) (by first | rfl | (simp; done) | (simp [Go.AM.take_map]; done) | exact Go.AM.take_map.symm) ?_ | refine .c .refl ?_ | refine .c (Cle.nl (es := 2)) ?_); exact .nil))) (.nil)) ⟨rfl, rfl, trivial⟩ ⟨.inl (by simp [keys]), .inl (by simp [keys]), trivial⟩ rfl)) ?_
        refine k_ (g_ rfl rfl (r_move rfl rfl (lt_ rfl) rfl)) ?_
        refine k_ (g_ rfl rfl (r_extract rfl rfl (lt_ rfl) rfl rfl)) ?_
        refine k_ (g_ rfl rfl (r_extract rfl rfl (lt_ rfl) rfl rfl)) ?_
        refine k_ (g_ rfl rfl (by first | exact r_store tok rfl rfl t101 rfl rfl rfl rfl rfl rfl | exact r_store_ep tok rfl rfl t101 rfl rfl rfl rfl rfl (by first | rfl | simp) (by first | assumption | rfl) rfl (le_ rfl))) ?_
        refine k_ (g_ rfl rfl (r_assign rfl rfl (lt_ rfl) rfl)) ?_
        refine z_ rfl (by kernel_rfl) ?_
        exact ⟨(sn, []), ⟨hok2, n, hn2, by dsimp only [List.length_nil] at hmeas ⊢; omega⟩, by dsimp only [List.length_nil, List.length_cons] at hmeas ⊢; omega, .list (fun i => if Nat.beq i 8 then 880 else i) ⟨rfl, rfl, rfl, rfl, rfl, rfl, trivial⟩ ⟨⟨_, rfl, .var rfl⟩, ⟨_, rfl, .var rfl⟩, ⟨_, rfl, .map⟩, ⟨_, rfl, .var rfl⟩, ⟨_, rfl, .arr⟩, ⟨_, rfl, .var rfl⟩, trivial⟩ rfl⟩
      | cons v qq =>
        refine awp_rg mixed ?_
        refine k_ (g_ rfl rfl (by exact r_call [(7, .var 119 [.hs 700 0 (v :: qq).length (v :: qq).length]), (700, .arr 101 2 ((v :: qq).map encW) 0)] [(7, .var 119 [.hs 701 0 qq.length qq.length]), (701, .arr 101 2 (qq.map encW) 0), (700, .dead)] b56 rfl rfl (lt_ rfl) (c56c v qq (by unfold Small; simp only [List.length_cons] at hql2; omega)) (.cons rfl (by first | exact .refl | exact .agg (by first | exact .of_pure | ((first | refine .hs rfl (by first | rfl | simp) (by first | rfl | (simp; done) | (simp [Go.AM.take_map]; done) | exact Go.AM.take_map.symm) ?_ | refine .c .refl ?_ | refine .c (Cle.nl (es := 2)) ?_); exact .nil)) | exact .pa (by first | exact .of_pure | ((first | refine .hs rfl (by first | rfl | simp) (by first | rfl | (simp; done) | (simp [Go.AM.take_map]; done) | exact Go.AM.take_map.symm) ?_ | refine .c .refl ?_ | refine .c (Cle.nl (es := 2)) ?_); exact .nil))) (.nil)) ⟨rfl, rfl, trivial⟩ ⟨.inl (by simp [keys]), .inr rfl, .inl (by simp [keys]), trivial⟩ rfl)) ?_
        refine k_ (g_ rfl rfl (r_move rfl rfl (lt_ rfl) rfl)) ?_
        refine k_ (g_ rfl rfl (r_extract rfl rfl (lt_ rfl) rfl rfl)) ?_
        refine k_ (g_ rfl rfl (r_extract rfl rfl (lt_ rfl) rfl rfl)) ?_
        refine k_ (g_ rfl rfl (by first | exact r_store tok rfl rfl t101 rfl rfl rfl rfl rfl rfl | exact r_store_ep tok rfl rfl t101 rfl rfl rfl rfl rfl (by first | rfl | simp) (by first | assumption | rfl) rfl (le_ rfl))) ?_
        refine k_ (g_ rfl rfl (r_assign rfl rfl (lt_ rfl) rfl)) ?_
        refine z_ rfl (by kernel_rfl) ?_
        exact ⟨(sn, v :: qq), ⟨hok2, n, hn2, by dsimp only at hmeas ⊢; omega⟩, by dsimp only [List.length_cons] at hmeas ⊢; omega, .list (fun i => if Nat.beq i 8 then 880 else if Nat.beq i 700 then 701 else i) ⟨rfl, rfl, rfl, rfl, rfl, rfl, trivial⟩ ⟨⟨_, rfl, .var rfl⟩, ⟨_, rfl, .var rfl⟩, ⟨_, rfl, .map⟩, ⟨_, rfl, .var rfl⟩, ⟨_, rfl, .arr⟩, ⟨_, rfl, .var rfl⟩, trivial⟩ rfl⟩
end Go.Proofs.Ythfeeaifddppoaa
