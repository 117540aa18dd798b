/-
  THE REFERENCE's SMALL FUNCTIONS (fugueref11): In, Class, Inst, less, bare, pick, Names; mod.
-/
import Derived.Test.YthfeeaifddppoaaTt
import Derived.Test.YthfeeaifddppoaaAm16
namespace Go.Proofs.Ythfeeaifddppoaa
open Go Go.AM
set_option maxRecDepth 20000

abbrev Str := List UInt8
def encS (s : Str) : List C := [.str s]
structure Sch where
  (a b c d e f g : C)
structure Sig where
  name : Str
  at_ : Int
  ty : Sch
structure Cls where
  name : Str
  at_ : Int
  var : Str
  kind : C
  supers : List Str
  methods : List Sig
structure Inst where
  cls : Str
  at_ : Int
  con : Str
  (vars preds binds : C)
structure Prog where
  datas : C
  classes : List Cls
  insts : List Inst
  binds : C
structure At where
  no : Int
  at_ : Int
def encSig (s : Sig) : List C := [.str s.name, .int .i64 s.at_, s.ty.a, s.ty.b, s.ty.c, s.ty.d, s.ty.e, s.ty.f, s.ty.g]
def encCls (c : Cls) : List C := [.str c.name, .int .i64 c.at_, .str c.var, c.kind, .sl 1 (c.supers.map encS), .sl 9 (c.methods.map encSig)]
def encInst (c : Inst) : List C := [.str c.cls, .int .i64 c.at_, .str c.con, c.vars, c.preds, c.binds]
def encProg (p : Prog) : List C := [p.datas, .sl 6 (p.classes.map encCls), .sl 6 (p.insts.map encInst), p.binds]
def encAt (a : At) : List C := [.int .i64 a.no, .int .i64 a.at_]
theorem getEnc {α : Type} {l : List α} {k : Nat} {x : α} (f : α → List C) (h : l[k]? = some x) : (l.map f)[k]? = some (f x) := by rw [List.getElem?_map, h]; rfl
theorem get_of_lt {α : Type} {l : List α} {k : Nat} (h : k < l.length) : ∃ x, l[k]? = some x := ⟨l[k], by simp [h]⟩
/-- A slice that fits in memory. -/
def Fits {α : Type} (l : List α) : Prop := l.length ≤ 1152921504606846976

theorem b29 : bodied Try.prog 29 := ⟨Try.f29, Try.func29, by decide, rfl⟩
theorem b26 : bodied Try.prog 26 := ⟨Try.f26, Try.func26, by decide, rfl⟩
theorem b24 : bodied Try.prog 24 := ⟨Try.f24, Try.func24, by decide, rfl⟩
theorem b30 : bodied Try.prog 30 := ⟨Try.f30, Try.func30, by decide, rfl⟩
theorem b13 : bodied Try.prog 13 := ⟨Try.f13, Try.func13, by decide, rfl⟩
theorem b37 : bodied Try.prog 37 := ⟨Try.f37, Try.func37, by decide, rfl⟩
theorem b38 : bodied Try.prog 38 := ⟨Try.f38, Try.func38, by decide, rfl⟩
theorem b14 : bodied Try.prog 14 := ⟨Try.f14, Try.func14, by decide, rfl⟩

theorem c29 (l : List Str) (s : Str) (hl : Fits l) : ImpC Try.prog 29 [.one (.c (.sl 1 (l.map encS))), Go.AM.T s] [] (B (decide (s ∈ l))) [] := by
  unfold Fits at hl
  refine impC (n := 18) tok Try.func29 rfl rfl rfl ?_
  refine awp_seq ?_
  refine awp_rg mixed ?_
  refine k_ (g_ rfl rfl (r_assign rfl rfl (lt_ rfl) rfl)) ?_
  refine z_ rfl (by kernel_rfl) ?_
  refine awp_seq ?_
  refine awp_seq ?_
  refine awp_rg mixed ?_
  refine k_ (g_ rfl rfl (r_assign rfl rfl (lt_ rfl) rfl)) ?_
  refine z_ rfl (by kernel_rfl) ?_
  refine awp_block ?_   -- block 0
  refine awp_loop (fun k : Nat => mk [(0, .one (.c (.sl 1 (l.map encS)))), (1, Go.AM.T s), (5, I .i64 k)] []) (fun k => k ≤ l.length ∧ s ∉ l.take k) (fun k => l.length - k) 0 ⟨Nat.zero_le _, by simp⟩ (.list (fun i => i) ⟨rfl, rfl, rfl, trivial⟩ trivial rfl) ?_
  intro k ⟨hk, hm⟩
  refine awp_seq ?_
  refine awp_seq ?_
  refine awp_rg mixed ?_
  refine k_ (g_ rfl rfl (r_move rfl rfl (lt_ rfl) rfl)) ?_
  refine k_ (g_ rfl rfl (r_move rfl rfl (lt_ rfl) rfl)) ?_
  refine k_ (g_ rfl rfl (by first | exact r_len_sl tok rfl rfl (lt_ rfl) t40 rfl rfl | exact r_len_hs tok rfl rfl (lt_ rfl) t40 rfl rfl rfl (by first | rfl | simp) | exact r_len_nl tok rfl rfl (lt_ rfl) t40 rfl rfl | exact r_len_str tok rfl rfl (lt_ rfl) t40 rfl rfl)) ?_
  refine k_ (g_ rfl rfl (r_lss rfl rfl (lt_ rfl) rfl rfl)) ?_
  refine z_ rfl (by kernel_rfl) ?_
  refine awp_cond rfl (fun hb => ?_) (fun hb => ?_)
  · refine awp_skip ?_
    have hlt : k < l.length := by simpa using hb
    obtain ⟨x, hx⟩ := get_of_lt hlt
    have hx' := getEnc encS hx
    refine awp_seq ?_
    refine awp_block ?_   -- block 1
    refine awp_seq ?_
    refine awp_rg mixed ?_
    refine k_ (g_ rfl rfl (r_move rfl rfl (lt_ rfl) rfl)) ?_
    refine k_ (g_ rfl rfl (r_move rfl rfl (lt_ rfl) rfl)) ?_
    refine k_ (g_ rfl rfl (by first | exact r_index tok rfl rfl (lt_ rfl) t40 rfl t9 rfl rfl rfl rfl (by first | assumption | rfl) | exact r_index_hs tok rfl rfl (lt_ rfl) t40 rfl t9 rfl rfl rfl (by first | rfl | simp) rfl rfl (by first | decide | omega | (simp; done) | (simp; omega)))) ?_
    refine k_ (g_ rfl rfl (by first | exact r_load tok rfl rfl (lt_ rfl) t9 rfl rfl rfl rfl | exact r_load_pt tok rfl rfl (lt_ rfl) t9 rfl (le_ rfl) rfl | exact r_load_ep tok rfl rfl (lt_ rfl) t9 rfl rfl (by first | rfl | simp) (by first | assumption | rfl) (le_ rfl) rfl)) ?_
    refine k_ (g_ rfl rfl (r_move rfl rfl (lt_ rfl) rfl)) ?_
    refine k_ (g_ rfl rfl (r_seql rfl rfl (lt_ rfl) rfl rfl)) ?_
    refine z_ rfl (by kernel_rfl) ?_
    refine awp_cond rfl (fun hb => ?_) (fun hb => ?_)
    · refine awp_seq ?_
      refine awp_rg mixed ?_
      refine k_ (g_ rfl rfl (r_assign rfl rfl (lt_ rfl) rfl)) ?_
      refine z_ rfl (by kernel_rfl) ?_
      refine awp_ret ?_
      have hxs : x = s := by simpa using hb
      have : s ∈ l := by rw [← hxs]; exact List.mem_of_getElem? hx
      exact ⟨.inr rfl, ⟨_, _, .tmp rfl .nil, .cons .refl .nil, by simp [tupV, this]⟩, trivial, rfl⟩
    · refine awp_skip ?_
      refine awp_rg mixed ?_
      refine k_ (g_ rfl rfl (r_move rfl rfl (lt_ rfl) rfl)) ?_
      refine k_ (g_ rfl rfl (by exact r_addI rfl rfl (lt_ rfl) rfl rfl (by first | omega | (simp only [List.length_map]; omega)))) ?_
      refine k_ (g_ rfl rfl (r_assign rfl rfl (lt_ rfl) rfl)) ?_
      refine z_ rfl (by kernel_rfl) ?_
      refine ⟨k + 1, ⟨hlt, ?_⟩, by dsimp only; omega, .list (fun i => i) ⟨rfl, rfl, rfl, trivial⟩ trivial rfl⟩
      rw [List.take_add_one, hx]
      have hxs : ¬ x = s := by simpa using hb
      have hxs' : ¬ s = x := fun e => hxs e.symm
      simp [hm, hxs']
  · refine awp_exit ?_   -- 0
    have hge : k = l.length := by
      have : ¬ k < l.length := by simpa using hb
      omega
    refine awp_seq ?_
    refine awp_rg mixed ?_
    refine k_ (g_ rfl rfl (r_assign rfl rfl (lt_ rfl) rfl)) ?_
    refine z_ rfl (by kernel_rfl) ?_
    refine awp_ret ?_
    rw [hge, List.take_length] at hm
    exact ⟨.inr rfl, ⟨_, _, .tmp rfl .nil, .cons .refl .nil, by simp [tupV, hm]⟩, trivial, rfl⟩

def zCls : Cls := ⟨[], 0, [], .nl, [], []⟩
def cls (p : Prog) (s : Str) : Option Cls := p.classes.find? (fun c => c.name == s)

theorem find_take {α : Type} {l : List α} {p : α → Bool} {k : Nat} {x : α} (hx : l[k]? = some x) (hn : ∀ y ∈ l.take k, p y = false) (hp : p x = true) : l.find? p = some x := by
  have hlt := (List.getElem?_eq_some_iff.1 hx).1
  rw [List.find?_eq_some_iff_getElem]
  refine ⟨hp, k, hlt, (List.getElem?_eq_some_iff.1 hx).2, fun j hj => ?_⟩
  rw [hn]
  · rfl
  · rw [List.mem_take_iff_getElem]
    exact ⟨j, by omega, rfl⟩
theorem find_none_take {α : Type} {l : List α} {p : α → Bool} (hn : ∀ y ∈ l.take l.length, p y = false) : l.find? p = none := by
  rw [List.take_length] at hn
  rw [List.find?_eq_none]
  intro x hx
  rw [hn x hx]
  simp
theorem take_step {α : Type} {l : List α} {p : α → Bool} {k : Nat} {x : α} (hx : l[k]? = some x) (hn : ∀ y ∈ l.take k, p y = false) (hp : p x = false) : ∀ y ∈ l.take (k + 1), p y = false := by
  intro y hy
  rw [List.take_add_one, hx] at hy
  rcases List.mem_append.1 hy with h | h
  · exact hn y h
  · simp at h; rw [h]; exact hp

theorem c26 (p : Prog) (s : Str) (hl : Fits p.classes) : ImpC Try.prog 26 [.pa (encProg p), Go.AM.T s] [] (.tup [.pa (encCls ((cls p s).getD zCls)), B (cls p s).isSome]) [] := by
  unfold Fits at hl
  refine impC (n := 28) tok Try.func26 rfl rfl rfl ?_
  refine awp_seq ?_
  refine awp_rg mixed ?_
  refine k_ (g_ rfl rfl (r_box 2 rfl rfl (lt_ rfl) rfl rfl rfl)) ?_
  refine k_ (g_ rfl rfl (r_alloc 4 tok rfl rfl (lt_ rfl) t66 rfl)) ?_
  refine k_ (g_ rfl rfl (r_assign rfl rfl (lt_ rfl) rfl)) ?_
  refine z_ rfl (by kernel_rfl) ?_
  refine awp_seq ?_
  refine awp_seq ?_
  refine awp_rg mixed ?_
  refine k_ (g_ rfl rfl (r_assign rfl rfl (lt_ rfl) rfl)) ?_
  refine z_ rfl (by kernel_rfl) ?_
  refine awp_block ?_   -- block 0
  refine awp_loop (fun k : Nat => mk [(1, Go.AM.T s), (2, .one (.vp 2 0)), (4, .one (.vp 4 0)), (6, I .i64 k)] [(2, .var 28 ((encProg p).map R.c)), (4, .var 66 [.c (.str []), .c (.int .i64 0), .c (.str []), .c .nl, .c .nl, .c .nl])]) (fun k => k ≤ p.classes.length ∧ ∀ y ∈ p.classes.take k, (y.name == s) = false) (fun k => p.classes.length - k) 0 ⟨Nat.zero_le _, by simp⟩ (.list (fun i => i) ⟨rfl, rfl, rfl, rfl, trivial⟩ ⟨⟨_, rfl, .var rfl⟩, ⟨_, rfl, .var rfl⟩, trivial⟩ rfl) ?_
  intro k ⟨hk, hm⟩
  refine awp_seq ?_
  refine awp_seq ?_
  refine awp_rg mixed ?_
  refine k_ (g_ rfl rfl (r_move rfl rfl (lt_ rfl) rfl)) ?_
  refine k_ (g_ rfl rfl (by first | exact r_field_vp tok rfl rfl (lt_ rfl) t28 rfl rfl t24 (nz_ rfl) rfl | exact r_field_pt tok rfl rfl (lt_ rfl) t28 rfl rfl t24 (nz_ rfl) rfl | exact r_field_ep tok rfl rfl (lt_ rfl) t28 rfl rfl t24 (nz_ rfl) rfl rfl (by first | rfl | simp))) ?_
  refine k_ (g_ rfl rfl (by first | exact r_load tok rfl rfl (lt_ rfl) t24 rfl rfl rfl rfl | exact r_load_pt tok rfl rfl (lt_ rfl) t24 rfl (le_ rfl) rfl | exact r_load_ep tok rfl rfl (lt_ rfl) t24 rfl rfl (by first | rfl | simp) (by first | assumption | rfl) (le_ rfl) rfl)) ?_
  refine k_ (g_ rfl rfl (by first | exact r_len_sl tok rfl rfl (lt_ rfl) t24 rfl rfl | exact r_len_hs tok rfl rfl (lt_ rfl) t24 rfl rfl rfl (by first | rfl | simp) | exact r_len_nl tok rfl rfl (lt_ rfl) t24 rfl rfl | exact r_len_str tok rfl rfl (lt_ rfl) t24 rfl rfl)) ?_
  refine k_ (g_ rfl rfl (r_lss rfl rfl (lt_ rfl) rfl rfl)) ?_
  refine z_ rfl (by kernel_rfl) ?_
  refine awp_cond rfl (fun hb => ?_) (fun hb => ?_)
  · refine awp_skip ?_
    have hlt : k < p.classes.length := by simpa using hb
    obtain ⟨x, hx⟩ := get_of_lt hlt
    have hx' := getEnc encCls hx
    refine awp_seq ?_
    refine awp_block ?_   -- block 1
    refine awp_seq ?_
    refine awp_rg mixed ?_
    refine k_ (g_ rfl rfl (by first | exact r_field_vp tok rfl rfl (lt_ rfl) t28 rfl rfl t24 (nz_ rfl) rfl | exact r_field_pt tok rfl rfl (lt_ rfl) t28 rfl rfl t24 (nz_ rfl) rfl | exact r_field_ep tok rfl rfl (lt_ rfl) t28 rfl rfl t24 (nz_ rfl) rfl rfl (by first | rfl | simp))) ?_
    refine k_ (g_ rfl rfl (by first | exact r_load tok rfl rfl (lt_ rfl) t24 rfl rfl rfl rfl | exact r_load_pt tok rfl rfl (lt_ rfl) t24 rfl (le_ rfl) rfl | exact r_load_ep tok rfl rfl (lt_ rfl) t24 rfl rfl (by first | rfl | simp) (by first | assumption | rfl) (le_ rfl) rfl)) ?_
    refine k_ (g_ rfl rfl (r_move rfl rfl (lt_ rfl) rfl)) ?_
    refine k_ (g_ rfl rfl (by first | exact r_index tok rfl rfl (lt_ rfl) t24 rfl t66 rfl rfl rfl rfl (by first | assumption | rfl) | exact r_index_hs tok rfl rfl (lt_ rfl) t24 rfl t66 rfl rfl rfl (by first | rfl | simp) rfl rfl (by first | decide | omega | (simp; done) | (simp; omega)))) ?_
    refine k_ (g_ rfl rfl (by first | exact r_field_vp tok rfl rfl (lt_ rfl) t66 rfl rfl t9 (nz_ rfl) rfl | exact r_field_pt tok rfl rfl (lt_ rfl) t66 rfl rfl t9 (nz_ rfl) rfl | exact r_field_ep tok rfl rfl (lt_ rfl) t66 rfl rfl t9 (nz_ rfl) rfl rfl (by first | rfl | simp))) ?_
    refine k_ (g_ rfl rfl (by first | exact r_load tok rfl rfl (lt_ rfl) t9 rfl rfl rfl rfl | exact r_load_pt tok rfl rfl (lt_ rfl) t9 rfl (le_ rfl) rfl | exact r_load_ep tok rfl rfl (lt_ rfl) t9 rfl rfl (by first | rfl | simp) (by first | assumption | rfl) (le_ rfl) rfl)) ?_
    refine k_ (g_ rfl rfl (r_move rfl rfl (lt_ rfl) rfl)) ?_
    refine k_ (g_ rfl rfl (r_seql rfl rfl (lt_ rfl) rfl rfl)) ?_
    refine z_ rfl (by kernel_rfl) ?_
    refine awp_cond rfl (fun hb => ?_) (fun hb => ?_)
    · refine awp_seq ?_
      refine awp_rg mixed ?_
      refine k_ (g_ rfl rfl (by first | exact r_field_vp tok rfl rfl (lt_ rfl) t28 rfl rfl t24 (nz_ rfl) rfl | exact r_field_pt tok rfl rfl (lt_ rfl) t28 rfl rfl t24 (nz_ rfl) rfl | exact r_field_ep tok rfl rfl (lt_ rfl) t28 rfl rfl t24 (nz_ rfl) rfl rfl (by first | rfl | simp))) ?_
      refine k_ (g_ rfl rfl (by first | exact r_load tok rfl rfl (lt_ rfl) t24 rfl rfl rfl rfl | exact r_load_pt tok rfl rfl (lt_ rfl) t24 rfl (le_ rfl) rfl | exact r_load_ep tok rfl rfl (lt_ rfl) t24 rfl rfl (by first | rfl | simp) (by first | assumption | rfl) (le_ rfl) rfl)) ?_
      refine k_ (g_ rfl rfl (r_move rfl rfl (lt_ rfl) rfl)) ?_
      refine k_ (g_ rfl rfl (by first | exact r_index tok rfl rfl (lt_ rfl) t24 rfl t66 rfl rfl rfl rfl (by first | assumption | rfl) | exact r_index_hs tok rfl rfl (lt_ rfl) t24 rfl t66 rfl rfl rfl (by first | rfl | simp) rfl rfl (by first | decide | omega | (simp; done) | (simp; omega)))) ?_
      refine k_ (g_ rfl rfl (by first | exact r_load tok rfl rfl (lt_ rfl) t66 rfl rfl rfl rfl | exact r_load_pt tok rfl rfl (lt_ rfl) t66 rfl (le_ rfl) rfl | exact r_load_ep tok rfl rfl (lt_ rfl) t66 rfl rfl (by first | rfl | simp) (by first | assumption | rfl) (le_ rfl) rfl)) ?_
      refine k_ (g_ rfl rfl (by first | exact r_store tok rfl rfl t66 rfl rfl rfl rfl rfl rfl | exact r_store_ep tok rfl rfl t66 rfl rfl rfl rfl rfl (by first | rfl | simp) (by first | assumption | rfl) rfl (le_ rfl))) ?_
      refine k_ (g_ rfl rfl (r_assign rfl rfl (lt_ rfl) rfl)) ?_
      refine z_ rfl (by kernel_rfl) ?_
      refine awp_ret ?_
      have hxs : x.name = s := by simpa using hb
      have hf : cls p s = some x := find_take hx hm (by simp [hxs])
      rw [hf]
      exact ⟨.inr rfl, ⟨_, _, .cell rfl t66 rfl rfl rfl (.tmp rfl .nil), .cons .refl (.cons .refl .nil), rfl⟩, trivial, rfl⟩
    · refine awp_skip ?_
      refine awp_rg mixed ?_
      refine k_ (g_ rfl rfl (r_move rfl rfl (lt_ rfl) rfl)) ?_
      refine k_ (g_ rfl rfl (by exact r_addI rfl rfl (lt_ rfl) rfl rfl (by first | omega | (simp only [List.length_map]; omega)))) ?_
      refine k_ (g_ rfl rfl (r_assign rfl rfl (lt_ rfl) rfl)) ?_
      refine z_ rfl (by kernel_rfl) ?_
      have hxs : (x.name == s) = false := by simpa using hb
      exact ⟨k + 1, ⟨hlt, take_step hx hm hxs⟩, by dsimp only; omega, .list (fun i => i) ⟨rfl, rfl, rfl, rfl, trivial⟩ ⟨⟨_, rfl, .var rfl⟩, ⟨_, rfl, .var rfl⟩, trivial⟩ rfl⟩
  · refine awp_exit ?_   -- 0
    have hge : k = p.classes.length := by
      have : ¬ k < p.classes.length := by simpa using hb
      omega
    refine awp_seq ?_
    refine awp_rg mixed ?_
    refine k_ (g_ rfl rfl (r_build tok rfl rfl (lt_ rfl) t66 rfl p66 rfl rfl)) ?_
    refine k_ (g_ rfl rfl (by first | exact r_store tok rfl rfl t66 rfl rfl rfl rfl rfl rfl | exact r_store_ep tok rfl rfl t66 rfl rfl rfl rfl rfl (by first | rfl | simp) (by first | assumption | rfl) rfl (le_ rfl))) ?_
    refine k_ (g_ rfl rfl (r_assign rfl rfl (lt_ rfl) rfl)) ?_
    refine z_ rfl (by kernel_rfl) ?_
    refine awp_ret ?_
    rw [hge] at hm
    have hf : cls p s = none := find_none_take hm
    rw [hf]
    exact ⟨.inr rfl, ⟨_, _, .cell rfl t66 rfl rfl rfl (.tmp rfl .nil), .cons (.pa (.c .refl (.c .refl (.c .refl (.c .refl (.c .nl (.c .nl .nil))))))) (.cons .refl .nil), rfl⟩, trivial, rfl⟩
end Go.Proofs.Ythfeeaifddppoaa
