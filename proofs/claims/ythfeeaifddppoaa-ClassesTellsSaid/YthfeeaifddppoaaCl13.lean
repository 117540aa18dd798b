/-
  THE PROGRAM's climb, as Path uses it.
-/
import Derived.Test.YthfeeaifddppoaaCl12
namespace Go.Proofs.Ythfeeaifddppoaa
open Go Go.AM
set_option maxRecDepth 20000
set_option maxHeartbeats 1000000

theorem b39 : bodied Try.prog 39 := ⟨Try.f39, Try.func39, by decide, rfl⟩
theorem b40 : bodied Try.prog 40 := ⟨Try.f40, Try.func40, by decide, rfl⟩

theorem c57o (l : List Int) (hl : Small l) : ImpC Try.prog 57 [.one (.c (.sl 1 (l.map encI)))] [] (.one (.hs 763 0 l.length l.length)) [(763, .arr 3 1 (l.map encI) 0)] := by
  unfold Small at hl
  refine impC (n := 8) tok Try.func57 rfl rfl rfl ?_
  refine AWp.split' (split_nil (t := 0) rfl) (fun h0 => ?_) ?_
  · refine awp_seq ?_
    refine awp_rg mixed ?_
    refine k_ (g_ rfl rfl (r_assign rfl rfl (lt_ rfl) rfl)) ?_
    refine z_ rfl (by kernel_rfl) ?_
    refine awp_seq ?_
    refine awp_seq ?_
    refine awp_rg mixed ?_
    refine k_ (g_ rfl rfl (r_move rfl rfl (lt_ rfl) rfl)) ?_
    refine k_ (g_ rfl rfl (r_sleql tok rfl rfl (lt_ rfl) t22 rfl rfl rfl rfl)) ?_
    refine z_ rfl (by kernel_rfl) ?_
    refine awp_cond rfl (fun hb => ?_) (fun hb => by cases hb)
    refine awp_seq ?_
    refine awp_rg mixed ?_
    refine k_ (g_ rfl rfl (r_assign rfl rfl (lt_ rfl) rfl)) ?_
    refine z_ rfl (by kernel_rfl) ?_
    refine AWp.sub (Sub.own (t := 2) (id := 763) 3 1 rfl rfl) ?_
    refine awp_ret ?_
    rw [List.map_eq_nil_iff] at h0
    rw [h0]
    exact ⟨.inr rfl, ⟨_, _, .tmp rfl .nil, .cons .refl .nil, rfl⟩, ⟨⟨_, rfl, .arr⟩, trivial⟩, rfl⟩
  · refine awp_seq ?_
    refine awp_rg mixed ?_
    refine k_ (g_ rfl rfl (r_assign rfl rfl (lt_ rfl) rfl)) ?_
    refine z_ rfl (by kernel_rfl) ?_
    refine awp_seq ?_
    refine awp_seq ?_
    refine awp_rg mixed ?_
    refine k_ (g_ rfl rfl (r_move rfl rfl (lt_ rfl) rfl)) ?_
    refine k_ (g_ rfl rfl (r_sleql tok rfl rfl (lt_ rfl) t22 rfl rfl rfl rfl)) ?_
    refine z_ rfl (by kernel_rfl) ?_
    refine awp_cond rfl (fun hb => by cases hb) (fun hb => ?_)
    refine awp_skip ?_
    refine awp_seq ?_
    refine awp_rg mixed ?_
    refine k_ (g_ rfl rfl (r_slice 763 tok rfl rfl (lt_ rfl) t22 rfl t3 (.nil) rfl rfl rfl rfl)) ?_
    refine k_ (g_ rfl rfl (r_move rfl rfl (lt_ rfl) rfl)) ?_
    refine k_ (g_ rfl rfl (by exact r_append tok rfl rfl (lt_ rfl) t22 rfl t3 rfl rfl rfl rfl (by first | rfl | simp) rfl (by first | exact .all rfl (by first | rfl | simp) | exact .hs rfl (by first | rfl | simp) (by first | rfl | (simp; done) | (simp [Go.AM.take_map]; done) | exact Go.AM.take_map.symm) | exact .sl | exact .nl | exact .sn) (by first | (simp; done) | (simp; omega)))) ?_
    refine k_ (g_ rfl rfl (r_assign rfl rfl (lt_ rfl) rfl)) ?_
    refine z_ rfl (by kernel_rfl) ?_
    refine awp_ret ?_
    exact ⟨.inr rfl, ⟨_, [.one (.hs 763 0 l.length l.length)], .tmp rfl .nil, .cons (by rw [show ([] : List (List C)).length + (l.map encI).length = l.length by simp]; exact .refl) .nil, rfl⟩, ⟨⟨_, rfl, .arr0 (by simp)⟩, trivial⟩, rfl⟩

def pathC : Option (List Int) → C
  | none => .nl
  | some r => .sl 1 (r.map encI)
def hin40 (t : Str) (r : Option (List Int)) : List (Nat × AObj) := [(5, .var 9 [.c (.str t)]), (10, .var 22 [.c (pathC r)]), (11, .var 4 [.c (.bool r.isSome)])]
theorem c40 (w : Way) (t : Str) : ImpC Try.prog 40 [.pa (encW w), .one (.vp 5 0), .one (.vp 10 0), .one (.vp 11 0)] (hin40 t none) (B (!decide (w.cls = t))) (hin40 t (if w.cls = t then some w.path else none)) := by
  unfold hin40
  refine impC (n := 14) tok Try.func40 rfl rfl rfl ?_
  refine awp_seq ?_
  refine awp_rg mixed ?_
  refine k_ (g_ rfl rfl (r_box 4 rfl rfl (lt_ rfl) rfl rfl rfl)) ?_
  refine k_ (g_ rfl rfl (r_assign rfl rfl (lt_ rfl) rfl)) ?_
  refine z_ rfl (by kernel_rfl) ?_
  refine awp_seq ?_
  refine awp_seq ?_
  refine awp_rg mixed ?_
  refine k_ (g_ rfl rfl (by first | exact r_field_vp tok rfl rfl (lt_ rfl) t101 rfl rfl t9 (nz_ rfl) rfl | exact r_field_pt tok rfl rfl (lt_ rfl) t101 rfl rfl t9 (nz_ rfl) rfl | exact r_field_ep tok rfl rfl (lt_ rfl) t101 rfl rfl t9 (nz_ rfl) rfl rfl (by first | rfl | simp))) ?_
  refine k_ (g_ rfl rfl (by first | exact r_load tok rfl rfl (lt_ rfl) t9 rfl rfl rfl rfl | exact r_load_pt tok rfl rfl (lt_ rfl) t9 rfl (le_ rfl) rfl | exact r_load_ep tok rfl rfl (lt_ rfl) t9 rfl rfl (by first | rfl | simp) (by first | assumption | rfl) (le_ rfl) rfl)) ?_
  refine k_ (g_ rfl rfl (by first | exact r_load tok rfl rfl (lt_ rfl) t9 rfl rfl rfl rfl | exact r_load_pt tok rfl rfl (lt_ rfl) t9 rfl (le_ rfl) rfl | exact r_load_ep tok rfl rfl (lt_ rfl) t9 rfl rfl (by first | rfl | simp) (by first | assumption | rfl) (le_ rfl) rfl)) ?_
  refine k_ (g_ rfl rfl (r_seql rfl rfl (lt_ rfl) rfl rfl)) ?_
  refine z_ rfl (by kernel_rfl) ?_
  refine awp_cond rfl (fun hb => ?_) (fun hb => ?_)
  · have h : w.cls = t := by simpa using hb
    refine awp_rg mixed ?_
    refine k_ (g_ rfl rfl (by first | exact r_field_vp tok rfl rfl (lt_ rfl) t101 rfl rfl t22 (nz_ rfl) rfl | exact r_field_pt tok rfl rfl (lt_ rfl) t101 rfl rfl t22 (nz_ rfl) rfl | exact r_field_ep tok rfl rfl (lt_ rfl) t101 rfl rfl t22 (nz_ rfl) rfl rfl (by first | rfl | simp))) ?_
    refine k_ (g_ rfl rfl (by first | exact r_load tok rfl rfl (lt_ rfl) t22 rfl rfl rfl rfl | exact r_load_pt tok rfl rfl (lt_ rfl) t22 rfl (le_ rfl) rfl | exact r_load_ep tok rfl rfl (lt_ rfl) t22 rfl rfl (by first | rfl | simp) (by first | assumption | rfl) (le_ rfl) rfl)) ?_
    refine k_ (g_ rfl rfl (by first | exact r_store tok rfl rfl t22 rfl rfl rfl rfl rfl rfl | exact r_store_ep tok rfl rfl t22 rfl rfl rfl rfl rfl (by first | rfl | simp) (by first | assumption | rfl) rfl (le_ rfl))) ?_
    refine k_ (g_ rfl rfl (by first | exact r_store tok rfl rfl t4 rfl rfl rfl rfl rfl rfl | exact r_store_ep tok rfl rfl t4 rfl rfl rfl rfl rfl (by first | rfl | simp) (by first | assumption | rfl) rfl (le_ rfl))) ?_
    refine z_ rfl (by kernel_rfl) ?_
    refine awp_seq ?_
    refine awp_rg mixed ?_
    refine k_ (g_ rfl rfl (by first | exact r_load tok rfl rfl (lt_ rfl) t4 rfl rfl rfl rfl | exact r_load_pt tok rfl rfl (lt_ rfl) t4 rfl (le_ rfl) rfl | exact r_load_ep tok rfl rfl (lt_ rfl) t4 rfl rfl (by first | rfl | simp) (by first | assumption | rfl) (le_ rfl) rfl)) ?_
    refine k_ (g_ rfl rfl (r_not rfl rfl (lt_ rfl) rfl)) ?_
    refine k_ (g_ rfl rfl (r_assign rfl rfl (lt_ rfl) rfl)) ?_
    refine z_ rfl (by kernel_rfl) ?_
    refine awp_ret ?_
    rw [if_pos h, show (!decide (w.cls = t)) = false by simp [h]]
    exact ⟨.inr rfl, ⟨_, _, .tmp rfl .nil, .cons .refl .nil, rfl⟩, ⟨⟨_, rfl, .var rfl⟩, ⟨_, rfl, .var rfl⟩, ⟨_, rfl, .var rfl⟩, trivial⟩, rfl⟩
  · refine awp_skip ?_
    have h : ¬ w.cls = t := by simpa using hb
    refine awp_seq ?_
    refine awp_rg mixed ?_
    refine k_ (g_ rfl rfl (by first | exact r_load tok rfl rfl (lt_ rfl) t4 rfl rfl rfl rfl | exact r_load_pt tok rfl rfl (lt_ rfl) t4 rfl (le_ rfl) rfl | exact r_load_ep tok rfl rfl (lt_ rfl) t4 rfl rfl (by first | rfl | simp) (by first | assumption | rfl) (le_ rfl) rfl)) ?_
    refine k_ (g_ rfl rfl (r_not rfl rfl (lt_ rfl) rfl)) ?_
    refine k_ (g_ rfl rfl (r_assign rfl rfl (lt_ rfl) rfl)) ?_
    refine z_ rfl (by kernel_rfl) ?_
    refine awp_ret ?_
    rw [if_neg h, show (!decide (w.cls = t)) = true by simp [h]]
    exact ⟨.inr rfl, ⟨_, _, .tmp rfl .nil, .cons .refl .nil, rfl⟩, ⟨⟨_, rfl, .var rfl⟩, ⟨_, rfl, .var rfl⟩, ⟨_, rfl, .var rfl⟩, trivial⟩, rfl⟩

/-! ### climb -/
def bin (p : Prog) (t : Str) (w : Way) : List (Str × Nat) → List Str → List Way → (List Int) ⊕ (List Str × List Way)
  | [], seen, q => .inr (seen, q)
  | (s, i) :: r, seen, q => if (cls p s).isSome ∧ s ∉ seen then (if s = t then .inl (w.path ++ [(i : Int)]) else bin p t w r (seen ++ [s]) (q ++ [⟨s, w.path ++ [(i : Int)]⟩])) else bin p t w r seen q
def bfs (p : Prog) (t : Str) : Nat → List Str → List Way → Option (List Int)
  | 0, _, _ => none
  | _ + 1, _, [] => none
  | n + 1, seen, w :: q => match bin p t w (supersOf p w.cls).zipIdx seen q with
    | .inl r => some r
    | .inr x => bfs p t n x.1 x.2
def climbR (p : Prog) (f t : Str) : Option (List Int) := bfs p t (p.classes.length + 2) [] [⟨f, []⟩]

def encB (s : Str) : List C := [.str s, .bool true]
theorem mstr_seen : ∀ l : List Str, mstr (l.map encB)
  | [] => trivial
  | _ :: l => mstr_seen l
theorem mfind_seen (s : Str) : ∀ l : List Str, mfind s (l.map encB) = if s ∈ l then some [.bool true] else none
  | [] => by simp [mfind]
  | x :: l => by
    simp only [List.map_cons, encB, mfind, mfind_seen s l]
    by_cases h : x = s
    · simp [h]
    · have h' : ¬ s = x := fun e => h e.symm
      simp [h, h']
theorem mput_seen (s : Str) : ∀ l : List Str, s ∉ l → mput s [.bool true] (l.map encB) = (l ++ [s]).map encB
  | [], _ => rfl
  | x :: l, h => by
    have h1 : ¬ x = s := fun e => h (by simp [e])
    have h2 : s ∉ l := fun e => h (by simp [e])
    have ih := mput_seen s l h2
    simp only [List.map_cons, encB, mput, h1, if_false, List.cons_append] at ih ⊢
    rw [ih]
theorem Ole.mapE {σ : Nat → Nat} {agg : Bool} {e e' : List (List C)} (h : e = e') : Ole σ (.map agg e) (.map agg e') := by subst h; exact .map
/-- What holds in climb. -/
structure COk (p : Prog) (seen : List Str) (q : List Way) : Prop where
  tok : TOk p seen
  len : q.length ≤ seen.length + 1
  path : ∀ w ∈ q, w.path.length ≤ seen.length

theorem c39 (p : Prog) (e : Env) (f t : Str) (he : EnvOk p e) (hp : PS p) : ImpC Try.prog 39 [.one (.c (.pt (encEnv e))), Go.AM.T f, .one (.clo 40 [.vp 5 0, .vp 10 0, .vp 11 0])] (hin40 t none) (.tup []) (hin40 t (climbR p f t)) := by
  have hl := hp.cls
  unfold Small at hl
  have hcs := he.cstr
  unfold hin40
  refine impC (n := 76) tok Try.func39 rfl rfl rfl ?_
  refine awp_seq ?_
  refine awp_rg mixed ?_
  refine k_ (g_ rfl rfl (r_makeMap 15 false rfl rfl (lt_ rfl) rfl)) ?_
  refine k_ (g_ rfl rfl (r_assign rfl rfl (lt_ rfl) rfl)) ?_
  refine z_ rfl (by kernel_rfl) ?_
  refine awp_seq ?_
  refine awp_rg mixed ?_
  refine k_ (g_ rfl rfl (r_alloc 7 tok rfl rfl (lt_ rfl) t119 rfl)) ?_
  refine z_ rfl (by kernel_rfl) ?_
  refine AWp.sub (Sub.ownCell (x := 7) (k := 0) (id := 700) 101 2 rfl rfl rfl) ?_
  refine awp_seq ?_
  refine awp_rg mixed ?_
  refine k_ (g_ rfl rfl (r_move rfl rfl (lt_ rfl) rfl)) ?_
  refine k_ (g_ rfl rfl (r_build tok rfl rfl (lt_ rfl) t101 rfl p101 rfl rfl)) ?_
  refine k_ (g_ rfl rfl (by exact r_call [(7, .var 119 [.hs 700 0 0 0]), (700, .arr 101 2 [] 0)] [(7, .var 119 [.hs 700 0 ([] ++ [(⟨f, []⟩ : Way)]).length ([] ++ [(⟨f, []⟩ : Way)]).length]), (700, .arr 101 2 (([] ++ [(⟨f, []⟩ : Way)]).map encW) 0)] b55 rfl rfl (lt_ rfl) (c55 [] ⟨f, []⟩ (by simp [Small])) (.cons rfl (by first | exact .refl | exact .agg (by first | exact .of_pure | ((first | refine .hs rfl (by first | rfl | simp) (by first | rfl | (simp; done) | (simp [Go.AM.take_map]; done) | exact Go.AM.take_map.symm) ?_ | refine .c .refl ?_ | refine .c (Cle.nl (es := 2)) ?_); exact .nil)) | exact .pa (by first | exact .of_pure | ((first | refine .hs rfl (by first | rfl | simp) (by first | rfl | (simp; done) | (simp [Go.AM.take_map]; done) | exact Go.AM.take_map.symm) ?_ | refine .c .refl ?_ | refine .c (Cle.nl (es := 2)) ?_); exact .nil))) (.cons rfl (.pa (.c .refl (.c .nl .nil))) (.nil))) ⟨rfl, rfl, trivial⟩ ⟨.inl (by simp [keys]), .inl (by simp [keys]), trivial⟩ rfl)) ?_
  refine z_ rfl (by kernel_rfl) ?_
  refine awp_seq ?_
  refine awp_rg mixed ?_
  refine k_ (g_ rfl rfl (by exact r_call [(7, .var 119 [.hs 700 0 [(⟨f, []⟩ : Way)].length [(⟨f, []⟩ : Way)].length]), (700, .arr 101 2 ([(⟨f, []⟩ : Way)].map encW) 0)] [(7, .var 119 [.hs 701 0 0 0]), (701, .arr 101 2 [] 0), (700, .dead)] b56 rfl rfl (lt_ rfl) (c56c ⟨f, []⟩ [] (by simp [Small])) (.cons rfl (by first | exact .refl | exact .agg (by first | exact .of_pure | ((first | refine .hs rfl (by first | rfl | simp) (by first | rfl | (simp; done) | (simp [Go.AM.take_map]; done) | exact Go.AM.take_map.symm) ?_ | refine .c .refl ?_ | refine .c (Cle.nl (es := 2)) ?_); exact .nil)) | exact .pa (by first | exact .of_pure | ((first | refine .hs rfl (by first | rfl | simp) (by first | rfl | (simp; done) | (simp [Go.AM.take_map]; done) | exact Go.AM.take_map.symm) ?_ | refine .c .refl ?_ | refine .c (Cle.nl (es := 2)) ?_); exact .nil))) (.nil)) ⟨rfl, rfl, trivial⟩ ⟨.inl (by simp [keys]), .inr rfl, .inl (by simp [keys]), trivial⟩ rfl)) ?_
  refine k_ (g_ rfl rfl (r_move rfl rfl (lt_ rfl) rfl)) ?_
  refine k_ (g_ rfl rfl (r_extract rfl rfl (lt_ rfl) rfl rfl)) ?_
  refine k_ (g_ rfl rfl (r_extract rfl rfl (lt_ rfl) rfl rfl)) ?_
  refine k_ (g_ rfl rfl (r_alloc 8 tok rfl rfl (lt_ rfl) t101 rfl)) ?_
  refine k_ (g_ rfl rfl (by first | exact r_store tok rfl rfl t101 rfl rfl rfl rfl rfl rfl | exact r_store_ep tok rfl rfl t101 rfl rfl rfl rfl rfl (by first | rfl | simp) (by first | assumption | rfl) rfl (le_ rfl))) ?_
  refine k_ (g_ rfl rfl (r_assign rfl rfl (lt_ rfl) rfl)) ?_
  refine z_ rfl (by kernel_rfl) ?_
  refine awp_block ?_   -- block 0
  refine awp_loop (fun x : List Str × List Way => mk [(0, .one (.c (.pt (encEnv e)))), (2, .one (.clo 40 [.vp 5 0, .vp 10 0, .vp 11 0])), (6, .one (.mr 15)), (7, .one (.vp 7 0)), (8, .one (.vp 8 0)), (9, B (!x.2.isEmpty))] [(5, .var 9 [.c (.str t)]), (10, .var 22 [.c .nl]), (11, .var 4 [.c (.bool false)]), (15, .map false ((x.1).map encB)), (7, .var 119 [.hs 700 0 (x.2.tail).length (x.2.tail).length]), (700, .arr 101 2 ((x.2.tail).map encW) 0), (8, .var 101 ((encW (x.2.headD ⟨[], []⟩)).map R.c))])
    (fun x => COk p x.1 x.2 ∧ ∃ n, bfs p t n x.1 x.2 = climbR p f t ∧ (p.classes.length - x.1.length) + x.2.length < n) (fun x => (p.classes.length - x.1.length) + x.2.length) ([], [⟨f, []⟩])
    ⟨⟨.nil p, by simp, by simp⟩, p.classes.length + 2, rfl, by simp⟩ (.list (fun i => if Nat.beq i 700 then 701 else i) ⟨rfl, rfl, rfl, rfl, rfl, rfl, trivial⟩ ⟨⟨_, rfl, .var rfl⟩, ⟨_, rfl, .var rfl⟩, ⟨_, rfl, .var rfl⟩, ⟨_, rfl, .map⟩, ⟨_, rfl, .var rfl⟩, ⟨_, rfl, .arr⟩, ⟨_, rfl, .var rfl⟩, trivial⟩ rfl) ?_
  rintro ⟨seen, ql⟩ ⟨hok, n, hn, hmn⟩
  dsimp only at hok hn hmn ⊢
  cases ql with
  | nil =>
    refine awp_seq ?_
    refine awp_seq ?_
    refine awp_rg mixed ?_
    refine k_ (g_ rfl rfl (r_move rfl rfl (lt_ rfl) rfl)) ?_
    refine z_ rfl (by kernel_rfl) ?_
    refine awp_cond rfl (fun hb => by cases hb) (fun hb => ?_)
    refine awp_exit ?_   -- 0
    have hnone : climbR p f t = none := by
      rw [← hn]
      cases n with
      | zero => rfl
      | succ n => rfl
    rw [hnone]
    exact ⟨.inl rfl, ⟨_, _, .nil, .nil, rfl⟩, ⟨⟨_, rfl, .var rfl⟩, ⟨_, rfl, .var rfl⟩, ⟨_, rfl, .var rfl⟩, trivial⟩, rfl⟩
  | cons w q =>
    have hsl := hok.tok.len
    have hms := mstr_seen seen
    have hql := hok.len
    have hwp := hok.path w (by simp)
    have hsup := hp.supersOf w.cls
    unfold Small at hsup
    simp only [List.length_cons] at hql hmn
    obtain ⟨n, rfl⟩ : ∃ m, n = m + 1 := ⟨n - 1, by omega⟩
    refine awp_seq ?_
    refine awp_seq ?_
    refine awp_rg mixed ?_
    refine k_ (g_ rfl rfl (r_move rfl rfl (lt_ rfl) rfl)) ?_
    refine z_ rfl (by kernel_rfl) ?_
    refine awp_cond rfl (fun hb => ?_) (fun hb => by cases hb)
    refine awp_skip ?_
    refine awp_seq ?_
    refine awp_block ?_   -- block 1
    refine awp_seq ?_
    refine AWp.cut (mk [(0, .one (.c (.pt (encEnv e)))), (2, .one (.clo 40 [.vp 5 0, .vp 10 0, .vp 11 0])), (6, .one (.mr 15)), (7, .one (.vp 7 0)), (8, .one (.vp 8 0)), (35, .one (.c (.sl 1 ((supersOf p w.cls).map encS)))), (36, I .i64 (supersOf p w.cls).length), (37, I .i64 (0 : Nat))] [(5, .var 9 [.c (.str t)]), (10, .var 22 [.c .nl]), (11, .var 4 [.c (.bool false)]), (15, .map false ((seen).map encB)), (7, .var 119 [.hs 700 0 (q).length (q).length]), (700, .arr 101 2 ((q).map encW) 0), (8, .var 101 ((encW w).map R.c))]) ?_ ?_
    · have hf := he.cls w.cls
      cases hc : cls p w.cls with
      | none =>
        rw [hc] at hf
        have hf' : mfind w.cls e.cm = none := hf
        refine awp_rg mixed ?_
        refine k_ (g_ rfl rfl (r_move rfl rfl (lt_ rfl) rfl)) ?_
        refine k_ (g_ rfl rfl (r_nilCheck rfl rfl (lt_ rfl) rfl rfl)) ?_
        refine k_ (g_ rfl rfl (by first | exact r_field_vp tok rfl rfl (lt_ rfl) t86 rfl rfl t82 (nz_ rfl) rfl | exact r_field_pt tok rfl rfl (lt_ rfl) t86 rfl rfl t82 (nz_ rfl) rfl | exact r_field_ep tok rfl rfl (lt_ rfl) t86 rfl rfl t82 (nz_ rfl) rfl rfl (by first | rfl | simp))) ?_
        refine k_ (g_ rfl rfl (by first | exact r_load tok rfl rfl (lt_ rfl) t82 rfl rfl rfl rfl | exact r_load_pt tok rfl rfl (lt_ rfl) t82 rfl (le_ rfl) rfl | exact r_load_ep tok rfl rfl (lt_ rfl) t82 rfl rfl (by first | rfl | simp) (by first | assumption | rfl) (le_ rfl) rfl)) ?_
        refine k_ (g_ rfl rfl (by first | exact r_field_vp tok rfl rfl (lt_ rfl) t101 rfl rfl t9 (nz_ rfl) rfl | exact r_field_pt tok rfl rfl (lt_ rfl) t101 rfl rfl t9 (nz_ rfl) rfl | exact r_field_ep tok rfl rfl (lt_ rfl) t101 rfl rfl t9 (nz_ rfl) rfl rfl (by first | rfl | simp))) ?_
        refine k_ (g_ rfl rfl (by first | exact r_load tok rfl rfl (lt_ rfl) t9 rfl rfl rfl rfl | exact r_load_pt tok rfl rfl (lt_ rfl) t9 rfl (le_ rfl) rfl | exact r_load_ep tok rfl rfl (lt_ rfl) t9 rfl rfl (by first | rfl | simp) (by first | assumption | rfl) (le_ rfl) rfl)) ?_
        refine k_ (g_ rfl rfl (by exact r_lookup tok rfl rfl (lt_ rfl) t82 rfl t9 rfl t66 rfl rfl (by first | exact .mr rfl | exact .mp | exact .nil) (by first | assumption | exact trivial) rfl hf')) ?_
        refine k_ (g_ rfl rfl (r_field tok rfl rfl (lt_ rfl) t66 rfl rfl t40 rfl rfl rfl rfl rfl)) ?_
        refine k_ (g_ rfl rfl (by first | exact r_len_sl tok rfl rfl (lt_ rfl) t40 rfl rfl | exact r_len_hs tok rfl rfl (lt_ rfl) t40 rfl rfl rfl (by first | rfl | simp) | exact r_len_nl tok rfl rfl (lt_ rfl) t40 rfl rfl | exact r_len_str tok rfl rfl (lt_ rfl) t40 rfl rfl)) ?_
        refine k_ (g_ rfl rfl (r_move rfl rfl (lt_ rfl) rfl)) ?_
        refine z_ rfl (by kernel_rfl) ?_
        refine Sub.trans ?_ (Sub.conv (t := 35) (v' := .one (.c (.sl 1 []))) rfl (.one (.c .nl .nil)))
        rw [show supersOf p w.cls = [] by simp [supersOf, hc, zCls]]
        exact .list (fun i => i) ⟨rfl, rfl, rfl, rfl, rfl, rfl, rfl, rfl, trivial⟩ ⟨⟨_, rfl, .var rfl⟩, ⟨_, rfl, .var rfl⟩, ⟨_, rfl, .var rfl⟩, ⟨_, rfl, .map⟩, ⟨_, rfl, .var rfl⟩, ⟨_, rfl, .arr⟩, ⟨_, rfl, .var rfl⟩, trivial⟩ rfl
      | some c =>
        rw [hc] at hf
        have hf' : mfind w.cls e.cm = some (encCls c) := hf
        refine awp_rg mixed ?_
        refine k_ (g_ rfl rfl (r_move rfl rfl (lt_ rfl) rfl)) ?_
        refine k_ (g_ rfl rfl (r_nilCheck rfl rfl (lt_ rfl) rfl rfl)) ?_
        refine k_ (g_ rfl rfl (by first | exact r_field_vp tok rfl rfl (lt_ rfl) t86 rfl rfl t82 (nz_ rfl) rfl | exact r_field_pt tok rfl rfl (lt_ rfl) t86 rfl rfl t82 (nz_ rfl) rfl | exact r_field_ep tok rfl rfl (lt_ rfl) t86 rfl rfl t82 (nz_ rfl) rfl rfl (by first | rfl | simp))) ?_
        refine k_ (g_ rfl rfl (by first | exact r_load tok rfl rfl (lt_ rfl) t82 rfl rfl rfl rfl | exact r_load_pt tok rfl rfl (lt_ rfl) t82 rfl (le_ rfl) rfl | exact r_load_ep tok rfl rfl (lt_ rfl) t82 rfl rfl (by first | rfl | simp) (by first | assumption | rfl) (le_ rfl) rfl)) ?_
        refine k_ (g_ rfl rfl (by first | exact r_field_vp tok rfl rfl (lt_ rfl) t101 rfl rfl t9 (nz_ rfl) rfl | exact r_field_pt tok rfl rfl (lt_ rfl) t101 rfl rfl t9 (nz_ rfl) rfl | exact r_field_ep tok rfl rfl (lt_ rfl) t101 rfl rfl t9 (nz_ rfl) rfl rfl (by first | rfl | simp))) ?_
        refine k_ (g_ rfl rfl (by first | exact r_load tok rfl rfl (lt_ rfl) t9 rfl rfl rfl rfl | exact r_load_pt tok rfl rfl (lt_ rfl) t9 rfl (le_ rfl) rfl | exact r_load_ep tok rfl rfl (lt_ rfl) t9 rfl rfl (by first | rfl | simp) (by first | assumption | rfl) (le_ rfl) rfl)) ?_
        refine k_ (g_ rfl rfl (by exact r_lookup tok rfl rfl (lt_ rfl) t82 rfl t9 rfl t66 rfl rfl (by first | exact .mr rfl | exact .mp | exact .nil) (by first | assumption | exact trivial) rfl hf')) ?_
        refine k_ (g_ rfl rfl (r_field tok rfl rfl (lt_ rfl) t66 rfl rfl t40 rfl rfl rfl rfl rfl)) ?_
        refine k_ (g_ rfl rfl (by first | exact r_len_sl tok rfl rfl (lt_ rfl) t40 rfl rfl | exact r_len_hs tok rfl rfl (lt_ rfl) t40 rfl rfl rfl (by first | rfl | simp) | exact r_len_nl tok rfl rfl (lt_ rfl) t40 rfl rfl | exact r_len_str tok rfl rfl (lt_ rfl) t40 rfl rfl)) ?_
        refine k_ (g_ rfl rfl (r_move rfl rfl (lt_ rfl) rfl)) ?_
        refine z_ rfl (by kernel_rfl) ?_
        rw [show supersOf p w.cls = c.supers by simp [supersOf, hc]]
        exact .list (fun i => i) ⟨rfl, rfl, rfl, rfl, rfl, rfl, int_eq (by simp), rfl, trivial⟩ ⟨⟨_, rfl, .var rfl⟩, ⟨_, rfl, .var rfl⟩, ⟨_, rfl, .var rfl⟩, ⟨_, rfl, .map⟩, ⟨_, rfl, .var rfl⟩, ⟨_, rfl, .arr⟩, ⟨_, rfl, .var rfl⟩, trivial⟩ rfl
    refine awp_block ?_   -- block 2
    refine awp_loop (fun y : Nat × List Str × List Way => mk [(0, .one (.c (.pt (encEnv e)))), (2, .one (.clo 40 [.vp 5 0, .vp 10 0, .vp 11 0])), (6, .one (.mr 15)), (7, .one (.vp 7 0)), (8, .one (.vp 8 0)), (35, .one (.c (.sl 1 ((supersOf p w.cls).map encS)))), (36, I .i64 (supersOf p w.cls).length), (37, I .i64 y.1)] [(5, .var 9 [.c (.str t)]), (10, .var 22 [.c .nl]), (11, .var 4 [.c (.bool false)]), (15, .map false ((y.2.1).map encB)), (7, .var 119 [.hs 700 0 (y.2.2).length (y.2.2).length]), (700, .arr 101 2 ((y.2.2).map encW) 0), (8, .var 101 ((encW w).map R.c))])
      (fun y => y.1 ≤ (supersOf p w.cls).length ∧ COk p y.2.1 y.2.2 ∧ w.path.length ≤ y.2.1.length ∧ bin p t w ((supersOf p w.cls).zipIdx.drop y.1) y.2.1 y.2.2 = bin p t w (supersOf p w.cls).zipIdx seen q ∧ (p.classes.length - y.2.1.length) + y.2.2.length = (p.classes.length - seen.length) + q.length) (fun y => (supersOf p w.cls).length - y.1) (0, seen, q)
      ⟨Nat.zero_le _, ⟨hok.tok, by dsimp only; omega, fun v hv => hok.path v (by simp [hv])⟩, hwp, rfl, rfl⟩ (.list (fun i => i) ⟨rfl, rfl, rfl, rfl, rfl, rfl, rfl, rfl, trivial⟩ ⟨⟨_, rfl, .var rfl⟩, ⟨_, rfl, .var rfl⟩, ⟨_, rfl, .var rfl⟩, ⟨_, rfl, .map⟩, ⟨_, rfl, .var rfl⟩, ⟨_, rfl, .arr⟩, ⟨_, rfl, .var rfl⟩, trivial⟩ rfl) ?_
    rintro ⟨i, sn, qq⟩ ⟨hi, hok2, hwp2, hbin, hmeas⟩
    dsimp only at hi hok2 hwp2 hbin hmeas ⊢
    have hsl2 := hok2.tok.len
    have hms2 := mstr_seen sn
    have hql2 := hok2.len
    refine awp_seq ?_
    refine awp_rg mixed ?_
    refine k_ (g_ rfl rfl (r_lss rfl rfl (lt_ rfl) rfl rfl)) ?_
    refine z_ rfl (by kernel_rfl) ?_
    refine awp_seq ?_
    refine awp_cond rfl (fun hb => ?_) (fun hb => ?_)
    · refine awp_skip ?_
      have hlt : i < (supersOf p w.cls).length := by simpa using hb
      obtain ⟨s, hs⟩ := get_of_lt hlt
      have hs' := getEnc encS hs
      have hz := zip_get hs
      have hzd : (supersOf p w.cls).zipIdx.drop i = (s, i) :: (supersOf p w.cls).zipIdx.drop (i + 1) := by
        have hl2 := (List.getElem?_eq_some_iff.1 hz).1
        rw [List.drop_eq_getElem_cons hl2, (List.getElem?_eq_some_iff.1 hz).2]
      rw [hzd] at hbin
      have hf := he.cls s
      refine awp_seq ?_
      refine awp_block ?_   -- block 3
      refine awp_seq ?_
      refine awp_rg mixed ?_
      refine k_ (g_ rfl rfl (r_move rfl rfl (lt_ rfl) rfl)) ?_
      refine k_ (g_ rfl rfl (by first | exact r_index tok rfl rfl (lt_ rfl) t40 rfl t9 rfl rfl rfl rfl (by first | assumption | rfl) | exact r_index_hs tok rfl rfl (lt_ rfl) t40 rfl t9 rfl rfl rfl (by first | rfl | simp) rfl rfl (by first | decide | omega | (simp; done) | (simp; omega)))) ?_
      refine k_ (g_ rfl rfl (by first | exact r_load tok rfl rfl (lt_ rfl) t9 rfl rfl rfl rfl | exact r_load_pt tok rfl rfl (lt_ rfl) t9 rfl (le_ rfl) rfl | exact r_load_ep tok rfl rfl (lt_ rfl) t9 rfl rfl (by first | rfl | simp) (by first | assumption | rfl) (le_ rfl) rfl)) ?_
      refine k_ (g_ rfl rfl (r_assign rfl rfl (lt_ rfl) rfl)) ?_
      refine k_ (g_ rfl rfl (r_assign rfl rfl (lt_ rfl) rfl)) ?_
      refine z_ rfl (by kernel_rfl) ?_
      refine awp_seq ?_
      refine awp_seq ?_
      cases hc : cls p s with
      | none =>
        rw [hc] at hf
        have hf' : mfind s e.cm = none := hf
        have hskip : bin p t w ((s, i) :: (supersOf p w.cls).zipIdx.drop (i + 1)) sn qq = bin p t w ((supersOf p w.cls).zipIdx.drop (i + 1)) sn qq := by rw [bin, if_neg]; simp [hc]
        rw [hskip] at hbin
        refine awp_rg mixed ?_
        refine k_ (g_ rfl rfl (r_move rfl rfl (lt_ rfl) rfl)) ?_
        refine k_ (g_ rfl rfl (r_nilCheck rfl rfl (lt_ rfl) rfl rfl)) ?_
        refine k_ (g_ rfl rfl (by first | exact r_field_vp tok rfl rfl (lt_ rfl) t86 rfl rfl t82 (nz_ rfl) rfl | exact r_field_pt tok rfl rfl (lt_ rfl) t86 rfl rfl t82 (nz_ rfl) rfl | exact r_field_ep tok rfl rfl (lt_ rfl) t86 rfl rfl t82 (nz_ rfl) rfl rfl (by first | rfl | simp))) ?_
        refine k_ (g_ rfl rfl (by first | exact r_load tok rfl rfl (lt_ rfl) t82 rfl rfl rfl rfl | exact r_load_pt tok rfl rfl (lt_ rfl) t82 rfl (le_ rfl) rfl | exact r_load_ep tok rfl rfl (lt_ rfl) t82 rfl rfl (by first | rfl | simp) (by first | assumption | rfl) (le_ rfl) rfl)) ?_
        refine k_ (g_ rfl rfl (r_move rfl rfl (lt_ rfl) rfl)) ?_
        refine k_ (g_ rfl rfl (by exact r_lookup tok rfl rfl (lt_ rfl) t82 rfl t9 rfl t66 rfl rfl (by first | exact .mr rfl | exact .mp | exact .nil) (by first | assumption | exact trivial) rfl hf')) ?_
        refine k_ (g_ rfl rfl (r_move rfl rfl (lt_ rfl) rfl)) ?_
        refine k_ (g_ rfl rfl (r_extract rfl rfl (lt_ rfl) rfl rfl)) ?_
        refine k_ (g_ rfl rfl (r_extract rfl rfl (lt_ rfl) rfl rfl)) ?_
        refine k_ (g_ rfl rfl (r_alloc 12 tok rfl rfl (lt_ rfl) t66 rfl)) ?_
        refine k_ (g_ rfl rfl (by first | exact r_store tok rfl rfl t66 rfl rfl rfl rfl rfl rfl | exact r_store_ep tok rfl rfl t66 rfl rfl rfl rfl rfl (by first | rfl | simp) (by first | assumption | rfl) rfl (le_ rfl))) ?_
        refine k_ (g_ rfl rfl (r_assign rfl rfl (lt_ rfl) rfl)) ?_
        refine z_ rfl (by kernel_rfl) ?_
        refine awp_seq ?_
        refine awp_rg mixed ?_
        refine k_ (g_ rfl rfl (r_move rfl rfl (lt_ rfl) rfl)) ?_
        refine k_ (g_ rfl rfl (r_not rfl rfl (lt_ rfl) rfl)) ?_
        refine k_ (g_ rfl rfl (r_move rfl rfl (lt_ rfl) rfl)) ?_
        refine k_ (by first | exact GStep.no rfl rfl rfl (lt_ rfl) rfl rfl (by first | assumption | rfl | (simp; done) | (simp only [Bool.not]; assumption) | (simp; omega)) rfl | exact GStep.un rfl rfl rfl (lt_ rfl) rfl rfl) ?_
        refine k_ (by first | exact GStep.no rfl rfl rfl (lt_ rfl) rfl rfl (by first | assumption | rfl | (simp; done) | (simp only [Bool.not]; assumption) | (simp; omega)) rfl | exact GStep.un rfl rfl rfl (lt_ rfl) rfl rfl) ?_
        refine k_ (by first | exact GStep.no rfl rfl rfl (lt_ rfl) rfl rfl (by first | assumption | rfl | (simp; done) | (simp only [Bool.not]; assumption) | (simp; omega)) rfl | exact GStep.un rfl rfl rfl (lt_ rfl) rfl rfl) ?_
        refine k_ (g_ rfl rfl (by exact r_pick_t rfl rfl (lt_ rfl) rfl (by first | assumption | rfl | (simp; done)) rfl)) ?_
        refine z_ rfl (by kernel_rfl) ?_
        refine awp_cond rfl (fun hb => ?_) (fun hb => by cases hb)
        refine awp_exit ?_   -- 3
        refine awp_rg mixed ?_
        refine k_ (g_ rfl rfl (by exact r_addI rfl rfl (lt_ rfl) rfl rfl (by first | omega | (simp only [List.length_map]; omega)))) ?_
        refine k_ (g_ rfl rfl (r_move rfl rfl (lt_ rfl) rfl)) ?_
        refine z_ rfl (by kernel_rfl) ?_
        exact ⟨(i + 1, sn, qq), ⟨hlt, hok2, hwp2, hbin, hmeas⟩, by dsimp only; omega, .list (fun i => i) ⟨rfl, rfl, rfl, rfl, rfl, rfl, rfl, rfl, trivial⟩ ⟨⟨_, rfl, .var rfl⟩, ⟨_, rfl, .var rfl⟩, ⟨_, rfl, .var rfl⟩, ⟨_, rfl, .map⟩, ⟨_, rfl, .var rfl⟩, ⟨_, rfl, .arr⟩, ⟨_, rfl, .var rfl⟩, trivial⟩ rfl⟩
      | some c =>
        rw [hc] at hf
        have hf' : mfind s e.cm = some (encCls c) := hf
        refine awp_rg mixed ?_
        refine k_ (g_ rfl rfl (r_move rfl rfl (lt_ rfl) rfl)) ?_
        refine k_ (g_ rfl rfl (r_nilCheck rfl rfl (lt_ rfl) rfl rfl)) ?_
        refine k_ (g_ rfl rfl (by first | exact r_field_vp tok rfl rfl (lt_ rfl) t86 rfl rfl t82 (nz_ rfl) rfl | exact r_field_pt tok rfl rfl (lt_ rfl) t86 rfl rfl t82 (nz_ rfl) rfl | exact r_field_ep tok rfl rfl (lt_ rfl) t86 rfl rfl t82 (nz_ rfl) rfl rfl (by first | rfl | simp))) ?_
        refine k_ (g_ rfl rfl (by first | exact r_load tok rfl rfl (lt_ rfl) t82 rfl rfl rfl rfl | exact r_load_pt tok rfl rfl (lt_ rfl) t82 rfl (le_ rfl) rfl | exact r_load_ep tok rfl rfl (lt_ rfl) t82 rfl rfl (by first | rfl | simp) (by first | assumption | rfl) (le_ rfl) rfl)) ?_
        refine k_ (g_ rfl rfl (r_move rfl rfl (lt_ rfl) rfl)) ?_
        refine k_ (g_ rfl rfl (by exact r_lookup tok rfl rfl (lt_ rfl) t82 rfl t9 rfl t66 rfl rfl (by first | exact .mr rfl | exact .mp | exact .nil) (by first | assumption | exact trivial) rfl hf')) ?_
        refine k_ (g_ rfl rfl (r_move rfl rfl (lt_ rfl) rfl)) ?_
        refine k_ (g_ rfl rfl (r_extract rfl rfl (lt_ rfl) rfl rfl)) ?_
        refine k_ (g_ rfl rfl (r_extract rfl rfl (lt_ rfl) rfl rfl)) ?_
        refine k_ (g_ rfl rfl (r_alloc 12 tok rfl rfl (lt_ rfl) t66 rfl)) ?_
        refine k_ (g_ rfl rfl (by first | exact r_store tok rfl rfl t66 rfl rfl rfl rfl rfl rfl | exact r_store_ep tok rfl rfl t66 rfl rfl rfl rfl rfl (by first | rfl | simp) (by first | assumption | rfl) rfl (le_ rfl))) ?_
        refine k_ (g_ rfl rfl (r_assign rfl rfl (lt_ rfl) rfl)) ?_
        refine z_ rfl (by kernel_rfl) ?_
        refine awp_seq ?_
        by_cases hin : s ∈ sn
        · have hfs : mfind s (sn.map encB) = some [.bool true] := by rw [mfind_seen, if_pos hin]
          have hskip : bin p t w ((s, i) :: (supersOf p w.cls).zipIdx.drop (i + 1)) sn qq = bin p t w ((supersOf p w.cls).zipIdx.drop (i + 1)) sn qq := by rw [bin, if_neg]; simp [hin]
          rw [hskip] at hbin
          refine awp_rg mixed ?_
          refine k_ (g_ rfl rfl (r_move rfl rfl (lt_ rfl) rfl)) ?_
          refine k_ (g_ rfl rfl (r_not rfl rfl (lt_ rfl) rfl)) ?_
          refine k_ (g_ rfl rfl (r_move rfl rfl (lt_ rfl) rfl)) ?_
          refine k_ (GStep.yes rfl rfl rfl rfl (by first | assumption | rfl | (simp; done) | (simp only [Bool.not]; assumption) | (simp; omega)) (by exact r_move rfl rfl (lt_ rfl) rfl)) ?_
          refine k_ (GStep.yes rfl rfl rfl rfl (by first | assumption | rfl | (simp; done) | (simp only [Bool.not]; assumption) | (simp; omega)) (by exact r_move rfl rfl (lt_ rfl) rfl)) ?_
          refine k_ (GStep.yes rfl rfl rfl rfl (by first | assumption | rfl | (simp; done) | (simp only [Bool.not]; assumption) | (simp; omega)) (by exact r_lookup tok rfl rfl (lt_ rfl) t116 rfl t9 rfl t4 rfl rfl (by first | exact .mr rfl | exact .mp | exact .nil) (by first | assumption | exact trivial) rfl hfs)) ?_
          refine k_ (g_ rfl rfl (by exact r_pick_f rfl rfl (lt_ rfl) rfl (by first | assumption | rfl | (simp; done)) rfl)) ?_
          refine z_ rfl (by kernel_rfl) ?_
          refine awp_cond rfl (fun hb => ?_) (fun hb => by cases hb)
          refine awp_exit ?_   -- 3
          refine awp_rg mixed ?_
          refine k_ (g_ rfl rfl (by exact r_addI rfl rfl (lt_ rfl) rfl rfl (by first | omega | (simp only [List.length_map]; omega)))) ?_
          refine k_ (g_ rfl rfl (r_move rfl rfl (lt_ rfl) rfl)) ?_
          refine z_ rfl (by kernel_rfl) ?_
          exact ⟨(i + 1, sn, qq), ⟨hlt, hok2, hwp2, hbin, hmeas⟩, by dsimp only; omega, .list (fun i => i) ⟨rfl, rfl, rfl, rfl, rfl, rfl, rfl, rfl, trivial⟩ ⟨⟨_, rfl, .var rfl⟩, ⟨_, rfl, .var rfl⟩, ⟨_, rfl, .var rfl⟩, ⟨_, rfl, .map⟩, ⟨_, rfl, .var rfl⟩, ⟨_, rfl, .arr⟩, ⟨_, rfl, .var rfl⟩, trivial⟩ rfl⟩
        · have hfs : mfind s (sn.map encB) = none := by rw [mfind_seen, if_neg hin]
          have hput := mput_seen s sn hin
          refine awp_rg mixed ?_
          refine k_ (g_ rfl rfl (r_move rfl rfl (lt_ rfl) rfl)) ?_
          refine k_ (g_ rfl rfl (r_not rfl rfl (lt_ rfl) rfl)) ?_
          refine k_ (g_ rfl rfl (r_move rfl rfl (lt_ rfl) rfl)) ?_
          refine k_ (GStep.yes rfl rfl rfl rfl (by first | assumption | rfl | (simp; done) | (simp only [Bool.not]; assumption) | (simp; omega)) (by exact r_move rfl rfl (lt_ rfl) rfl)) ?_
          refine k_ (GStep.yes rfl rfl rfl rfl (by first | assumption | rfl | (simp; done) | (simp only [Bool.not]; assumption) | (simp; omega)) (by exact r_move rfl rfl (lt_ rfl) rfl)) ?_
          refine k_ (GStep.yes rfl rfl rfl rfl (by first | assumption | rfl | (simp; done) | (simp only [Bool.not]; assumption) | (simp; omega)) (by exact r_lookup tok rfl rfl (lt_ rfl) t116 rfl t9 rfl t4 rfl rfl (by first | exact .mr rfl | exact .mp | exact .nil) (by first | assumption | exact trivial) rfl hfs)) ?_
          refine k_ (g_ rfl rfl (by exact r_pick_f rfl rfl (lt_ rfl) rfl (by first | assumption | rfl | (simp; done)) rfl)) ?_
          refine z_ rfl (by kernel_rfl) ?_
          refine awp_cond rfl (fun hb => by cases hb) (fun hb => ?_)
          refine awp_skip ?_
          have hok3 : TOk p (sn ++ [s]) := hok2.tok.snoc (by rw [hc]; rfl) hin
          have hl3 := hok3.len
          simp only [List.length_append, List.length_singleton] at hl3
          refine awp_seq ?_
          refine awp_rg mixed ?_
          refine k_ (g_ rfl rfl (r_move rfl rfl (lt_ rfl) rfl)) ?_
          refine k_ (g_ rfl rfl (r_move rfl rfl (lt_ rfl) rfl)) ?_
          refine k_ (g_ rfl rfl (by exact r_mapUpdate tok rfl rfl t116 rfl t9 rfl rfl rfl (by first | assumption | exact trivial) rfl rfl rfl rfl (.c .refl (.nil)))) ?_
          refine z_ rfl (by kernel_rfl) ?_
          refine awp_seq ?_
          refine awp_rg mixed ?_
          refine k_ (g_ rfl rfl (r_move rfl rfl (lt_ rfl) rfl)) ?_
          refine k_ (g_ rfl rfl (by first | exact r_field_vp tok rfl rfl (lt_ rfl) t101 rfl rfl t22 (nz_ rfl) rfl | exact r_field_pt tok rfl rfl (lt_ rfl) t101 rfl rfl t22 (nz_ rfl) rfl | exact r_field_ep tok rfl rfl (lt_ rfl) t101 rfl rfl t22 (nz_ rfl) rfl rfl (by first | rfl | simp))) ?_
          refine k_ (g_ rfl rfl (by first | exact r_load tok rfl rfl (lt_ rfl) t22 rfl rfl rfl rfl | exact r_load_pt tok rfl rfl (lt_ rfl) t22 rfl (le_ rfl) rfl | exact r_load_ep tok rfl rfl (lt_ rfl) t22 rfl rfl (by first | rfl | simp) (by first | assumption | rfl) (le_ rfl) rfl)) ?_
          refine k_ (g_ rfl rfl (by exact r_call [] [(763, .arr 3 1 (w.path.map encI) 0)] b57 rfl rfl (lt_ rfl) (c57o w.path (by unfold Small; omega)) (.cons rfl (by first | exact .refl | exact .one (.hs rfl (by first | rfl | simp) (by first | rfl | (simp; done) | (simp [Go.AM.take_map]; done) | exact Go.AM.take_map.symm) .nil) | exact .one (.c .nl .nil) | exact .one (.c .sn .nil)) (.nil)) (by repeat (first | exact trivial | refine ⟨rfl, ?_⟩)) ⟨.inr rfl, trivial⟩ rfl)) ?_
          refine k_ (g_ rfl rfl (r_move rfl rfl (lt_ rfl) rfl)) ?_
          refine k_ (g_ rfl rfl (r_slice 65 tok rfl rfl (lt_ rfl) t22 rfl t3 (.cons rfl rfl (.c .refl (.nil)) rfl (.nil)) rfl rfl rfl rfl)) ?_
          refine k_ (g_ rfl rfl (by exact r_append tok rfl rfl (lt_ rfl) t22 rfl t3 rfl rfl rfl rfl (by first | rfl | simp) rfl (by first | exact .all rfl (by first | rfl | simp) | exact .hs rfl (by first | rfl | simp) (by first | rfl | (simp; done) | (simp [Go.AM.take_map]; done) | exact Go.AM.take_map.symm) | exact .sl | exact .nl | exact .sn) (by first | (simp; done) | (simp; omega)))) ?_
          refine k_ (g_ rfl rfl (r_build tok rfl rfl (lt_ rfl) t101 rfl p101 rfl rfl)) ?_
          refine k_ (g_ rfl rfl (r_alloc 14 tok rfl rfl (lt_ rfl) t101 rfl)) ?_
          refine k_ (g_ rfl rfl (by first | exact r_store tok rfl rfl t101 rfl rfl rfl rfl rfl rfl | exact r_store_ep tok rfl rfl t101 rfl rfl rfl rfl rfl (by first | rfl | simp) (by first | assumption | rfl) rfl (le_ rfl))) ?_
          refine z_ rfl (by kernel_rfl) ?_
          refine AWp.sub (Sub.freeze (id := 763) rfl) ?_
          refine awp_seq ?_
          refine awp_seq ?_
          refine awp_rg mixed ?_
          refine k_ (g_ rfl rfl (r_move rfl rfl (lt_ rfl) rfl)) ?_
          refine k_ (g_ rfl rfl (by first | exact r_load tok rfl rfl (lt_ rfl) t101 rfl rfl rfl rfl | exact r_load_pt tok rfl rfl (lt_ rfl) t101 rfl (le_ rfl) rfl | exact r_load_ep tok rfl rfl (lt_ rfl) t101 rfl rfl (by first | rfl | simp) (by first | assumption | rfl) (le_ rfl) rfl)) ?_
          refine k_ (g_ rfl rfl (by exact r_callv (hin40 t none) (hin40 t (if s = t then some (w.path ++ [(i : Int)]) else none)) b40 rfl rfl (lt_ rfl) rfl (c40 ⟨s, w.path ++ [(i : Int)]⟩ t) (.cons rfl (.agg (.c .refl (.hs rfl (by simp) (by rw [List.take_of_length_le (by simp)]; simp [encI]) .nil))) (.nil)) ⟨rfl, rfl, rfl, trivial⟩ ⟨.inl (by simp [keys, hin40]), .inl (by simp [keys, hin40]), .inl (by simp [keys, hin40]), trivial⟩ rfl)) ?_
          refine k_ (g_ rfl rfl (r_not rfl rfl (lt_ rfl) rfl)) ?_
          refine z_ rfl (by kernel_rfl) ?_
          by_cases hst : s = t
          · have e1 : decide (s = t) = true := by simp [hst]
            have hfound : bin p t w ((s, i) :: (supersOf p w.cls).zipIdx.drop (i + 1)) sn qq = .inl (w.path ++ [(i : Int)]) := by rw [bin, if_pos ⟨by rw [hc]; rfl, hin⟩, if_pos hst]
            rw [hfound] at hbin
            have hres : climbR p f t = some (w.path ++ [(i : Int)]) := by rw [← hn, bfs, ← hbin]
            refine awp_cond rfl (fun hb => ?_) (fun hb => by simp [e1] at hb)
            refine awp_ret ?_
            rw [hres, if_pos hst]
            exact ⟨.inr rfl, ⟨_, _, .nil, .nil, rfl⟩, ⟨⟨_, rfl, .var rfl⟩, ⟨_, rfl, .var rfl⟩, ⟨_, rfl, .var rfl⟩, trivial⟩, rfl⟩
          · have e1 : decide (s = t) = false := by simp [hst]
            have hgo : bin p t w ((s, i) :: (supersOf p w.cls).zipIdx.drop (i + 1)) sn qq = bin p t w ((supersOf p w.cls).zipIdx.drop (i + 1)) (sn ++ [s]) (qq ++ [⟨s, w.path ++ [(i : Int)]⟩]) := by rw [bin, if_pos ⟨by rw [hc]; rfl, hin⟩, if_neg hst]
            rw [hgo] at hbin
            refine awp_cond rfl (fun hb => by simp [e1] at hb) (fun hb => ?_)
            refine awp_skip ?_
            refine awp_rg mixed ?_
            refine k_ (g_ rfl rfl (by first | exact r_load tok rfl rfl (lt_ rfl) t101 rfl rfl rfl rfl | exact r_load_pt tok rfl rfl (lt_ rfl) t101 rfl (le_ rfl) rfl | exact r_load_ep tok rfl rfl (lt_ rfl) t101 rfl rfl (by first | rfl | simp) (by first | assumption | rfl) (le_ rfl) rfl)) ?_
            refine k_ (g_ rfl rfl (by exact r_call [(7, .var 119 [.hs 700 0 qq.length qq.length]), (700, .arr 101 2 (qq.map encW) 0)] [(7, .var 119 [.hs 700 0 (qq ++ [(⟨s, w.path ++ [(i : Int)]⟩ : Way)]).length (qq ++ [(⟨s, w.path ++ [(i : Int)]⟩ : Way)]).length]), (700, .arr 101 2 ((qq ++ [(⟨s, w.path ++ [(i : Int)]⟩ : Way)]).map encW) 0)] b55 rfl rfl (lt_ rfl) (c55 qq ⟨s, w.path ++ [(i : Int)]⟩ (by unfold Small; omega)) (.cons rfl (by first | exact .refl | exact .agg (by first | exact .of_pure | ((first | refine .hs rfl (by first | rfl | simp) (by first | rfl | (simp; done) | (simp [Go.AM.take_map]; done) | exact Go.AM.take_map.symm) ?_ | refine .c .refl ?_ | refine .c (Cle.nl (es := 2)) ?_); exact .nil)) | exact .pa (by first | exact .of_pure | ((first | refine .hs rfl (by first | rfl | simp) (by first | rfl | (simp; done) | (simp [Go.AM.take_map]; done) | exact Go.AM.take_map.symm) ?_ | refine .c .refl ?_ | refine .c (Cle.nl (es := 2)) ?_); exact .nil))) (.cons rfl (.agg (.c .refl (.hs rfl (by simp) (by rw [List.take_of_length_le (by simp)]; simp [encI]) .nil))) (.nil))) ⟨rfl, rfl, trivial⟩ ⟨.inl (by simp [keys]), .inl (by simp [keys]), trivial⟩ rfl)) ?_
            refine z_ rfl (by kernel_rfl) ?_
            refine awp_rg mixed ?_
            refine k_ (g_ rfl rfl (by exact r_addI rfl rfl (lt_ rfl) rfl rfl (by first | omega | (simp only [List.length_map]; omega)))) ?_
            refine k_ (g_ rfl rfl (r_move rfl rfl (lt_ rfl) rfl)) ?_
            refine z_ rfl (by kernel_rfl) ?_
            rw [if_neg hst]
            exact ⟨(i + 1, sn ++ [s], qq ++ [⟨s, w.path ++ [(i : Int)]⟩]), ⟨hlt, ⟨hok3, by simp; omega, fun v hv => by
              rcases List.mem_append.1 hv with hv | hv
              · have := hok2.path v hv
                dsimp only at this ⊢
                rw [List.length_append]; omega
              · simp at hv; subst hv; simp; exact hwp2⟩, by simp; omega, hbin, by simp; omega⟩, by dsimp only; omega, .list (fun i => i) ⟨rfl, rfl, rfl, rfl, rfl, rfl, rfl, rfl, trivial⟩ ⟨⟨_, rfl, .var rfl⟩, ⟨_, rfl, .var rfl⟩, ⟨_, rfl, .var rfl⟩, ⟨_, rfl, Ole.mapE hput⟩, ⟨_, rfl, .var rfl⟩, ⟨_, rfl, .arr⟩, ⟨_, rfl, .var rfl⟩, trivial⟩ rfl⟩
    · refine awp_exit ?_   -- 2
      have hge : i = (supersOf p w.cls).length := by
        have : ¬ i < (supersOf p w.cls).length := by simpa using hb
        omega
      have hdr : (supersOf p w.cls).zipIdx.drop i = [] := List.drop_of_length_le (by rw [List.length_zipIdx]; omega)
      rw [hdr, bin] at hbin
      have hn2 : bfs p t n sn qq = climbR p f t := by rw [← hn, bfs, ← hbin]
      refine awp_seq ?_
      refine awp_seq ?_
      refine awp_rg mixed ?_
      refine k_ (g_ rfl rfl (by first | exact r_load tok rfl rfl (lt_ rfl) t101 rfl rfl rfl rfl | exact r_load_pt tok rfl rfl (lt_ rfl) t101 rfl (le_ rfl) rfl | exact r_load_ep tok rfl rfl (lt_ rfl) t101 rfl rfl (by first | rfl | simp) (by first | assumption | rfl) (le_ rfl) rfl)) ?_
      refine z_ rfl (by kernel_rfl) ?_
      refine awp_rg mixed ?_
      refine k_ (g_ rfl rfl (r_alloc 880 tok rfl rfl (lt_ rfl) t101 rfl)) ?_
      refine k_ (g_ rfl rfl (by first | exact r_store tok rfl rfl t101 rfl rfl rfl rfl rfl rfl | exact r_store_ep tok rfl rfl t101 rfl rfl rfl rfl rfl (by first | rfl | simp) (by first | assumption | rfl) rfl (le_ rfl))) ?_
      refine z_ rfl (by kernel_rfl) ?_
      cases qq with
      | nil =>
        refine awp_rg mixed ?_
        refine k_ (g_ rfl rfl (by exact r_call [(7, .var 119 [.hs 700 0 0 0]), (700, .arr 101 2 [] 0)] [(7, .var 119 [.hs 700 0 0 0]), (700, .arr 101 2 [] 0)] b56 rfl rfl (lt_ rfl) c56n (.cons rfl (by first | exact .refl | exact .agg (by first | exact .of_pure | ((first | refine .hs rfl (by first | rfl | simp) (by first | rfl | (simp; done) | (simp [Go.AM.take_map]; done) | exact Go.AM.take_map.symm) ?_ | refine .c .refl ?_ | refine .c (Cle.nl (es := 2)) ?_); exact .nil)) | exact .pa (by first | exact .of_pure | ((first | refine .hs rfl (by first | rfl | simp) (by first | rfl | (simp; done) | (simp [Go.AM.take_map]; done) | exact Go.AM.take_map.symm) ?_ | refine .c .refl ?_ | refine .c (Cle.nl (es := 2)) ?_); exact .nil))) (.nil)) ⟨rfl, rfl, trivial⟩ ⟨.inl (by simp [keys]), .inl (by simp [keys]), trivial⟩ rfl)) ?_
        refine k_ (g_ rfl rfl (r_move rfl rfl (lt_ rfl) rfl)) ?_
        refine k_ (g_ rfl rfl (r_extract rfl rfl (lt_ rfl) rfl rfl)) ?_
        refine k_ (g_ rfl rfl (r_extract rfl rfl (lt_ rfl) rfl rfl)) ?_
        refine k_ (g_ rfl rfl (by first | exact r_store tok rfl rfl t101 rfl rfl rfl rfl rfl rfl | exact r_store_ep tok rfl rfl t101 rfl rfl rfl rfl rfl (by first | rfl | simp) (by first | assumption | rfl) rfl (le_ rfl))) ?_
        refine k_ (g_ rfl rfl (r_assign rfl rfl (lt_ rfl) rfl)) ?_
        refine z_ rfl (by kernel_rfl) ?_
        exact ⟨(sn, []), ⟨hok2, n, hn2, by dsimp only [List.length_nil] at hmeas ⊢; omega⟩, by dsimp only [List.length_nil, List.length_cons] at hmeas ⊢; omega, .list (fun i => if Nat.beq i 8 then 880 else i) ⟨rfl, rfl, rfl, rfl, rfl, rfl, trivial⟩ ⟨⟨_, rfl, .var rfl⟩, ⟨_, rfl, .var rfl⟩, ⟨_, rfl, .var rfl⟩, ⟨_, rfl, .map⟩, ⟨_, rfl, .var rfl⟩, ⟨_, rfl, .arr⟩, ⟨_, rfl, .var rfl⟩, trivial⟩ rfl⟩
      | cons v qq =>
        refine awp_rg mixed ?_
        refine k_ (g_ rfl rfl (by exact r_call [(7, .var 119 [.hs 700 0 (v :: qq).length (v :: qq).length]), (700, .arr 101 2 ((v :: qq).map encW) 0)] [(7, .var 119 [.hs 701 0 qq.length qq.length]), (701, .arr 101 2 (qq.map encW) 0), (700, .dead)] b56 rfl rfl (lt_ rfl) (c56c v qq (by unfold Small; simp only [List.length_cons] at hql2; omega)) (.cons rfl (by first | exact .refl | exact .agg (by first | exact .of_pure | ((first | refine .hs rfl (by first | rfl | simp) (by first | rfl | (simp; done) | (simp [Go.AM.take_map]; done) | exact Go.AM.take_map.symm) ?_ | refine .c .refl ?_ | refine .c (Cle.nl (es := 2)) ?_); exact .nil)) | exact .pa (by first | exact .of_pure | ((first | refine .hs rfl (by first | rfl | simp) (by first | rfl | (simp; done) | (simp [Go.AM.take_map]; done) | exact Go.AM.take_map.symm) ?_ | refine .c .refl ?_ | refine .c (Cle.nl (es := 2)) ?_); exact .nil))) (.nil)) ⟨rfl, rfl, trivial⟩ ⟨.inl (by simp [keys]), .inr rfl, .inl (by simp [keys]), trivial⟩ rfl)) ?_
        refine k_ (g_ rfl rfl (r_move rfl rfl (lt_ rfl) rfl)) ?_
        refine k_ (g_ rfl rfl (r_extract rfl rfl (lt_ rfl) rfl rfl)) ?_
        refine k_ (g_ rfl rfl (r_extract rfl rfl (lt_ rfl) rfl rfl)) ?_
        refine k_ (g_ rfl rfl (by first | exact r_store tok rfl rfl t101 rfl rfl rfl rfl rfl rfl | exact r_store_ep tok rfl rfl t101 rfl rfl rfl rfl rfl (by first | rfl | simp) (by first | assumption | rfl) rfl (le_ rfl))) ?_
        refine k_ (g_ rfl rfl (r_assign rfl rfl (lt_ rfl) rfl)) ?_
        refine z_ rfl (by kernel_rfl) ?_
        exact ⟨(sn, v :: qq), ⟨hok2, n, hn2, by dsimp only at hmeas ⊢; omega⟩, by dsimp only [List.length_cons] at hmeas ⊢; omega, .list (fun i => if Nat.beq i 8 then 880 else if Nat.beq i 700 then 701 else i) ⟨rfl, rfl, rfl, rfl, rfl, rfl, trivial⟩ ⟨⟨_, rfl, .var rfl⟩, ⟨_, rfl, .var rfl⟩, ⟨_, rfl, .var rfl⟩, ⟨_, rfl, .map⟩, ⟨_, rfl, .var rfl⟩, ⟨_, rfl, .arr⟩, ⟨_, rfl, .var rfl⟩, trivial⟩ rfl⟩
end Go.Proofs.Ythfeeaifddppoaa
