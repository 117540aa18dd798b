/-
  Texts La1, La2, La3, La4, La5 in one.
-/
import Derived.Test.YtojcjjjpniimiaaDoorM8
/- THE DATA of core, and the small functions of the references. -/
namespace Go.Proofs.YtojcjjjpniimiaaDoor
open Go Go.AM
set_option maxRecDepth 20000

abbrev Str := List UInt8
def encS (s : Str) : List C := [.str s]
inductive Ty where
  | mk (form n : Int) (name : Str) (args : List Ty)
mutual
inductive Core where
  | mk (form n : Int) (name : Str) (ty : Ty) (kids : List Core) (binds : List Bind) (alts : List Alt)
inductive Bind where
  | mk (name : Str) (ty : Ty) (body : Core)
inductive Alt where
  | mk (form n : Int) (name : Str) (vars : List Str) (body : Core)
end
def Ty.form : Ty → Int | .mk f _ _ _ => f
def Ty.n : Ty → Int | .mk _ n _ _ => n
def Ty.name : Ty → Str | .mk _ _ s _ => s
def Ty.args : Ty → List Ty | .mk _ _ _ l => l
def Core.form : Core → Int | .mk f _ _ _ _ _ _ => f
def Core.n : Core → Int | .mk _ n _ _ _ _ _ => n
def Core.name : Core → Str | .mk _ _ s _ _ _ _ => s
def Core.ty : Core → Ty | .mk _ _ _ t _ _ _ => t
def Core.kids : Core → List Core | .mk _ _ _ _ l _ _ => l
def Core.binds : Core → List Bind | .mk _ _ _ _ _ l _ => l
def Core.alts : Core → List Alt | .mk _ _ _ _ _ _ l => l
def Bind.name : Bind → Str | .mk s _ _ => s
def Bind.ty : Bind → Ty | .mk _ t _ => t
def Bind.body : Bind → Core | .mk _ _ c => c
def Alt.form : Alt → Int | .mk f _ _ _ _ => f
def Alt.n : Alt → Int | .mk _ n _ _ _ => n
def Alt.name : Alt → Str | .mk _ _ s _ _ => s
def Alt.vars : Alt → List Str | .mk _ _ _ l _ => l
def Alt.body : Alt → Core | .mk _ _ _ _ c => c
mutual
def encArgs : Ty → List (List C)
  | .mk _ _ _ a => encTys a
def encTys : List Ty → List (List C)
  | [] => []
  | t :: l => [.int .i64 t.form, .int .i64 t.n, .str t.name, .sl 4 (encArgs t)] :: encTys l
end
/-- A type's cells: of whatever type, as long as it is one. -/
def encTy (t : Ty) : List C := [.int .i64 t.form, .int .i64 t.n, .str t.name, .sl 4 (encArgs t)]
mutual
def encKids : Core → List (List C)
  | .mk _ _ _ _ l _ _ => encCores l
def encLets : Core → List (List C)
  | .mk _ _ _ _ _ l _ => encBinds l
def encCases : Core → List (List C)
  | .mk _ _ _ _ _ _ l => encAlts l
def encCores : List Core → List (List C)
  | [] => []
  | c :: l => [.int .i64 c.form, .int .i64 c.n, .str c.name, .int .i64 c.ty.form, .int .i64 c.ty.n, .str c.ty.name, .sl 4 (encArgs c.ty), .sl 10 (encKids c), .sl 15 (encLets c), .sl 14 (encCases c)] :: encCores l
def encBody : Bind → List C
  | .mk _ _ c => [.int .i64 c.form, .int .i64 c.n, .str c.name, .int .i64 c.ty.form, .int .i64 c.ty.n, .str c.ty.name, .sl 4 (encArgs c.ty), .sl 10 (encKids c), .sl 15 (encLets c), .sl 14 (encCases c)]
def encBinds : List Bind → List (List C)
  | [] => []
  | b :: l => ([.str b.name, .int .i64 b.ty.form, .int .i64 b.ty.n, .str b.ty.name, .sl 4 (encArgs b.ty)] ++ encBody b) :: encBinds l
def encThen : Alt → List C
  | .mk _ _ _ _ c => [.int .i64 c.form, .int .i64 c.n, .str c.name, .int .i64 c.ty.form, .int .i64 c.ty.n, .str c.ty.name, .sl 4 (encArgs c.ty), .sl 10 (encKids c), .sl 15 (encLets c), .sl 14 (encCases c)]
def encAlts : List Alt → List (List C)
  | [] => []
  | a :: l => ([.int .i64 a.form, .int .i64 a.n, .str a.name, .sl 1 (a.vars.map encS)] ++ encThen a) :: encAlts l
end
def encCore (c : Core) : List C := [.int .i64 c.form, .int .i64 c.n, .str c.name, .int .i64 c.ty.form, .int .i64 c.ty.n, .str c.ty.name, .sl 4 (encArgs c.ty), .sl 10 (encKids c), .sl 15 (encLets c), .sl 14 (encCases c)]
def encBind (b : Bind) : List C := [.str b.name, .int .i64 b.ty.form, .int .i64 b.ty.n, .str b.ty.name, .sl 4 (encArgs b.ty)] ++ encCore b.body
def encAlt (a : Alt) : List C := [.int .i64 a.form, .int .i64 a.n, .str a.name, .sl 1 (a.vars.map encS)] ++ encCore a.body

theorem getEnc {α : Type} {l : List α} {k : Nat} {x : α} (f : α → List C) (h : l[k]? = some x) : (l.map f)[k]? = some (f x) := by rw [List.getElem?_map, h]; rfl
theorem get_of_lt {α : Type} {l : List α} {k : Nat} (h : k < l.length) : ∃ x, l[k]? = some x := ⟨l[k], by simp [h]⟩
theorem encCores_map : ∀ l : List Core, encCores l = l.map encCore
  | [] => by simp [encCores]
  | c :: l => by rw [encCores, encCores_map l]; rfl
theorem encBinds_map : ∀ l : List Bind, encBinds l = l.map encBind
  | [] => by simp [encBinds]
  | .mk s t c :: l => by rw [encBinds, encBinds_map l]; rfl
theorem encAlts_map : ∀ l : List Alt, encAlts l = l.map encAlt
  | [] => by simp [encAlts]
  | .mk f n s v c :: l => by rw [encAlts, encAlts_map l]; rfl
theorem encTys_map : ∀ l : List Ty, encTys l = l.map encTy
  | [] => by simp [encTys]
  | c :: l => by rw [encTys, encTys_map l]; rfl
theorem encKids_eq (c : Core) : encKids c = c.kids.map encCore := by cases c; rw [encKids, encCores_map]; rfl
theorem encLets_eq (c : Core) : encLets c = c.binds.map encBind := by cases c; rw [encLets, encBinds_map]; rfl
theorem encCases_eq (c : Core) : encCases c = c.alts.map encAlt := by cases c; rw [encCases, encAlts_map]; rfl
theorem encArgs_eq (t : Ty) : encArgs t = t.args.map encTy := by cases t; rw [encArgs, encTys_map]; rfl

/-- Fewer parts than the form asks for. -/
def few (c : Core) : Bool := if c.form = 4 ∨ c.form = 10 then decide ((c.kids.length : Int) < 2) else decide (c.form = 5 ∨ c.form = 6 ∨ c.form = 7 ∨ c.form = 8 ∨ c.form = 9) && decide ((c.kids.length : Int) < 1)

theorem c_few (c : Core) : ImpC Tryd.prog 35 [.pa (encCore c)] [] (B (few c)) [] := by
  refine impC (n := 46) tok Tryd.func35 rfl rfl rfl ?_
  refine awp_seq (ag [] rfl ?_)
  refine awp_seq (ag [] rfl ?_)
  refine awp_seq (awp_seq (agF 4 [] rfl rfl rfl ?_))
  refine awp_cond rfl (fun hb => ?_) (fun hb => ?_)
  · refine awp_seq (ag [] rfl ?_)
    refine awp_ret ?_
    have : c.form = 4 ∨ c.form = 10 := by simpa using hb
    exact ⟨.inr rfl, ⟨_, _, .tmp rfl .nil, .cons .refl .nil, by simp [tupV, few, this, encKids_eq]⟩, trivial, rfl⟩
  · refine awp_skip ?_
    have h1 : ¬ (c.form = 4 ∨ c.form = 10) := by simpa using hb
    refine awp_seq (agF 4 [] rfl rfl rfl ?_)
    refine awp_seq (agF 2 [] rfl rfl rfl ?_)
    refine awp_ret ?_
    exact ⟨.inr rfl, ⟨_, _, .tmp rfl .nil, .cons .refl .nil, by simp [tupV, few, h1, encKids_eq]⟩, trivial, rfl⟩

/-- A slice that fits in memory. -/
def Fits {α : Type} (l : List α) : Prop := l.length ≤ 1152921504606846976

theorem c_has (l : List Str) (s : Str) (hl : Fits l) : ImpC Tryd.prog 27 [.one (.c (.sl 1 (l.map encS))), Go.AM.T s] [] (B (decide (s ∈ l))) [] := by
  unfold Fits at hl
  refine impC (n := 18) tok Tryd.func27 rfl rfl rfl ?_
  refine awp_seq (ag [] rfl ?_)
  refine awp_seq (awp_seq (ag [] rfl ?_))
  refine awp_block (awp_loop (fun k : Nat => mk [(0, .one (.c (.sl 1 (l.map encS)))), (1, Go.AM.T s), (5, I .i64 k)] []) (fun k => k ≤ l.length ∧ s ∉ l.take k) (fun k => l.length - k) 0 ⟨Nat.zero_le _, by simp⟩ (.list (fun i => i) ⟨rfl, rfl, rfl, trivial⟩ trivial rfl) ?_)
  intro k ⟨hk, hm⟩
  refine awp_seq (awp_seq (ag [] rfl ?_))
  refine awp_cond rfl (fun hb => ?_) (fun hb => ?_)
  · refine awp_skip ?_
    have hlt : k < l.length := by simpa using hb
    obtain ⟨x, hx⟩ := get_of_lt hlt
    have hx' := getEnc encS hx
    refine awp_seq (awp_block (awp_seq (ag [(2, .row k (encS x))] rfl ?_)))
    refine awp_cond rfl (fun hb => ?_) (fun hb => ?_)
    · refine awp_seq (ag [] rfl ?_)
      refine awp_ret ?_
      have hxs : x = s := by simpa using hb
      have : s ∈ l := by rw [← hxs]; exact List.mem_of_getElem? hx
      exact ⟨.inr rfl, ⟨_, _, .tmp rfl .nil, .cons .refl .nil, by simp [tupV, this]⟩, trivial, rfl⟩
    · refine awp_skip (ag [] rfl ?_)
      refine ⟨k + 1, ⟨hlt, ?_⟩, by dsimp only; omega, .list (fun i => i) ⟨rfl, rfl, rfl, trivial⟩ trivial rfl⟩
      rw [List.take_add_one, hx]
      have hxs : ¬ x = s := by simpa using hb
      have hxs' : ¬ s = x := fun e => hxs e.symm
      simp [hm, hxs']
  · refine awp_exit ?_
    have hge : k = l.length := by
      have : ¬ k < l.length := by simpa using hb
      omega
    refine awp_seq (ag [] rfl ?_)
    refine awp_ret ?_
    rw [hge, List.take_length] at hm
    exact ⟨.inr rfl, ⟨_, _, .tmp rfl .nil, .cons .refl .nil, by simp [tupV, hm]⟩, trivial, rfl⟩

/-- A number folded to be at least 0, and the rest of it. -/
def around (n k : Int) : Int := (if n < 0 then -(n + 1) else n) % k
def i64 (n : Int) : Prop := -9223372036854775808 ≤ n ∧ n ≤ 9223372036854775807
theorem around_lt (n : Int) {k : Int} (hk : 0 < k) : 0 ≤ around n k ∧ around n k < k := ⟨Int.emod_nonneg _ (by omega), Int.emod_lt_of_pos _ hk⟩
theorem c_around (n k : Int) (hn : i64 n) (hk : 1 ≤ k) : ImpC Tryd.prog 11 [I .i64 n, I .i64 k] [] (I .i64 (around n k)) [] := by
  unfold i64 at hn
  refine impC (n := 13) tok Tryd.func11 rfl rfl rfl ?_
  refine awp_seq (ag [] rfl ?_)
  refine awp_seq (awp_seq (ag [] rfl ?_))
  refine awp_cond rfl (fun hb => ?_) (fun hb => ?_)
  · have h0 : n < 0 := by simpa using hb
    refine ag [] rfl ?_
    refine awp_seq (ag [] rfl ?_)
    refine awp_ret ?_
    exact ⟨.inr rfl, ⟨_, _, .tmp rfl .nil, .cons .refl .nil, by simp [tupV, around, h0]⟩, trivial, rfl⟩
  · have h0 : ¬ n < 0 := by simpa using hb
    refine awp_skip (awp_seq (ag [] rfl ?_))
    refine awp_ret ?_
    exact ⟨.inr rfl, ⟨_, _, .tmp rfl .nil, .cons .refl .nil, by simp [tupV, around, h0]⟩, trivial, rfl⟩
end Go.Proofs.YtojcjjjpniimiaaDoor

/- NUMBERS, NAMES, TYPES: the makers' small functions. -/
namespace Go.Proofs.YtojcjjjpniimiaaDoor
open Go Go.AM
set_option maxRecDepth 20000

def encI (n : Int) : List C := [.int .i64 n]
/-- One of some texts. -/
def oneOf (l : List Str) (n : Int) : Str := (l[(around n l.length).toNat]?).getD []
theorem oneOf_at {l : List Str} {n : Int} {k : Nat} (hl : 0 < l.length) (h : around n l.length = k) : (l.map encS)[k]? = some (encS (oneOf l n)) := by
  have h1 := (around_lt n (k := l.length) (by omega)).2
  have hk : k < l.length := by omega
  unfold oneOf
  rw [h]
  simp [hk]
def nmL : List Str := [[120], [121], [97], [98], [122, 64, 49]]
def conL : List Str := [[78], [67], [84, 114, 117, 101], [75, 64]]
def primL : List Str := [[97, 100, 100], [115, 117, 98], [109, 117, 108], [100, 105, 118], [101, 113], [108, 116]]
def tnmL : List Str := [[97], [98], [99], [120]]

theorem c_name (n : Int) (hn : i64 n) : ImpC Tryd.prog 63 [I .i64 n] [] (Go.AM.T (oneOf nmL n)) [] := by
  refine impC (n := 8) tok Tryd.func63 rfl rfl rfl ?_
  refine awp_seq (ag [] rfl ?_)
  obtain ⟨k, hk⟩ := Int.eq_ofNat_of_zero_le (around_lt n (k := 5) (by omega)).1
  have hx := oneOf_at (l := nmL) (n := n) (by decide) hk
  have hlt := (around_lt n (k := 5) (by omega)).2
  refine awp_seq (awp_rg mixed ?_)
  refine ak 2 [] rfl ?_
  refine kc (c_around n 5 hn (by omega)) ?_
  refine ak 3 [(3, .row k []), (4, .row k (encS (oneOf nmL n)))] rfl ?_
  refine az ?_
  refine awp_ret ?_
  exact ⟨.inr rfl, ⟨_, _, .tmp rfl .nil, .cons .refl .nil, rfl⟩, trivial, rfl⟩
theorem c_con (n : Int) (hn : i64 n) : ImpC Tryd.prog 64 [I .i64 n] [] (Go.AM.T (oneOf conL n)) [] := by
  refine impC (n := 8) tok Tryd.func64 rfl rfl rfl ?_
  refine awp_seq (ag [] rfl ?_)
  obtain ⟨k, hk⟩ := Int.eq_ofNat_of_zero_le (around_lt n (k := 4) (by omega)).1
  have hx := oneOf_at (l := conL) (n := n) (by decide) hk
  have hlt := (around_lt n (k := 4) (by omega)).2
  refine awp_seq (awp_rg mixed ?_)
  refine ak 2 [] rfl ?_
  refine kc (c_around n 4 hn (by omega)) ?_
  refine ak 3 [(3, .row k []), (4, .row k (encS (oneOf conL n)))] rfl ?_
  refine az ?_
  refine awp_ret ?_
  exact ⟨.inr rfl, ⟨_, _, .tmp rfl .nil, .cons .refl .nil, rfl⟩, trivial, rfl⟩
theorem c_prim (n : Int) (hn : i64 n) : ImpC Tryd.prog 68 [I .i64 n] [] (Go.AM.T (oneOf primL n)) [] := by
  refine impC (n := 8) tok Tryd.func68 rfl rfl rfl ?_
  refine awp_seq (ag [] rfl ?_)
  obtain ⟨k, hk⟩ := Int.eq_ofNat_of_zero_le (around_lt n (k := 6) (by omega)).1
  have hx := oneOf_at (l := primL) (n := n) (by decide) hk
  have hlt := (around_lt n (k := 6) (by omega)).2
  refine awp_seq (awp_rg mixed ?_)
  refine ak 2 [] rfl ?_
  refine kc (c_around n 6 hn (by omega)) ?_
  refine ak 3 [(3, .row k []), (4, .row k (encS (oneOf primL n)))] rfl ?_
  refine az ?_
  refine awp_ret ?_
  exact ⟨.inr rfl, ⟨_, _, .tmp rfl .nil, .cons .refl .nil, rfl⟩, trivial, rfl⟩
theorem c_tname (n : Int) (hn : i64 n) : ImpC Tryd.prog 66 [I .i64 n] [] (Go.AM.T (oneOf tnmL n)) [] := by
  refine impC (n := 8) tok Tryd.func66 rfl rfl rfl ?_
  refine awp_seq (ag [] rfl ?_)
  obtain ⟨k, hk⟩ := Int.eq_ofNat_of_zero_le (around_lt n (k := 4) (by omega)).1
  have hx := oneOf_at (l := tnmL) (n := n) (by decide) hk
  have hlt := (around_lt n (k := 4) (by omega)).2
  refine awp_seq (awp_rg mixed ?_)
  refine ak 2 [] rfl ?_
  refine kc (c_around n 4 hn (by omega)) ?_
  refine ak 3 [(3, .row k []), (4, .row k (encS (oneOf tnmL n)))] rfl ?_
  refine az ?_
  refine awp_ret ?_
  exact ⟨.inr rfl, ⟨_, _, .tmp rfl .nil, .cons .refl .nil, rfl⟩, trivial, rfl⟩

/-- Types: an application, a function's type. -/
def tapp (a b : Ty) : Ty := .mk 4 0 [] [a, b]
def arrow : Str := [45, 62]
def tfun (a b : Ty) : Ty := tapp (tapp (.mk 3 0 arrow []) a) b
theorem c_app (a b : Ty) : ImpC Tryd.prog 75 [.pa (encTy a), .pa (encTy b)] [] (.pa (encTy (tapp a b))) [] := by
  obtain ⟨f, n, s, l⟩ := a
  obtain ⟨f', n', s', l'⟩ := b
  refine impC (n := 9) tok Tryd.func75 rfl rfl rfl ?_
  refine awp_seq (ag [] rfl ?_)
  refine awp_seq (ag [] rfl ?_)
  refine AWp.sub (Sub.freeze (id := 7) rfl) (awp_ret ?_)
  exact ⟨.inr rfl, ⟨_, _, .cell rfl (tg rfl) rfl rfl rfl .nil, .cons (.agg (.c .refl (.c .refl (.c .refl (.hs rfl rfl rfl .nil))))) .nil, rfl⟩, trivial, rfl⟩
theorem c_fun (a b : Ty) : ImpC Tryd.prog 47 [.pa (encTy a), .pa (encTy b)] [] (.pa (encTy (tfun a b))) [] := by
  obtain ⟨f, n, s, l⟩ := a
  obtain ⟨f', n', s', l'⟩ := b
  refine impC (n := 10) tok Tryd.func47 rfl rfl rfl ?_
  refine awp_seq (ag [] rfl ?_)
  refine awp_seq (awp_rg mixed ?_)
  refine ak 2 [] rfl ?_
  refine kc (c_app (.mk 3 0 arrow []) (.mk f n s l)) ?_
  refine ak 1 [] rfl ?_
  refine kc (c_app (tapp (.mk 3 0 arrow []) (.mk f n s l)) (.mk f' n' s' l')) ?_
  refine ak 1 [] rfl ?_
  refine az ?_
  refine awp_ret ?_
  exact ⟨.inr rfl, ⟨_, _, .cell rfl (tg rfl) rfl rfl rfl .nil, .cons .refl .nil, rfl⟩, trivial, rfl⟩

/-- The next number. -/
def nextR : List Int → Int × List Int
  | [] => (0, [])
  | x :: l => (around x 1000, l)
/-- A maker: its numbers, and how many nodes there may be yet. -/
def mkO (l : List Int) (left : Int) : List (Nat × AObj) := [(700, .var 73 [.c (.sl 1 (l.map encI)), .c (.int .i64 left)])]
def Nums (l : List Int) : Prop := ∀ x ∈ l, i64 x
theorem c_next (l : List Int) (left : Int) (hl : Nums l) (hf : Fits l) : ImpC Tryd.prog 62 [.one (.vp 700 0)] (mkO l left) (I .i64 (nextR l).1) (mkO (nextR l).2 left) := by
  unfold Fits at hf
  refine impC (n := 26) tok Tryd.func62 rfl rfl rfl ?_
  refine awp_seq (ag [] rfl ?_)
  refine awp_seq (awp_seq (ag [] rfl ?_))
  cases l with
  | nil =>
    refine awp_cond rfl (fun hb => ?_) (fun hb => by simp at hb)
    refine awp_seq (ag [] rfl ?_)
    refine awp_ret ?_
    exact ⟨.inr rfl, ⟨_, _, .tmp rfl .nil, .cons .refl .nil, rfl⟩, ⟨⟨_, rfl, .var rfl⟩, trivial⟩, rfl⟩
  | cons x l =>
    refine awp_cond rfl (fun hb => by simp at hb; omega) (fun hb => ?_)
    refine awp_skip (awp_seq (awp_rg mixed ?_))
    refine ak 6 [] rfl ?_
    refine kc (c_around x 1000 (hl x (by simp)) (by omega)) ?_
    refine ak 1 [] rfl ?_
    refine az ?_
    refine awp_seq (ag [] rfl ?_)
    refine awp_seq (ag [] rfl ?_)
    refine awp_ret ?_
    exact ⟨.inr rfl, ⟨_, _, .tmp rfl .nil, .cons .refl .nil, rfl⟩, ⟨⟨_, rfl, .var rfl⟩, trivial⟩, rfl⟩
end Go.Proofs.YtojcjjjpniimiaaDoor

/- TYPES, made of numbers. -/
namespace Go.Proofs.YtojcjjjpniimiaaDoor
open Go Go.AM
set_option maxRecDepth 20000

theorem nextR_suf (l : List Int) : (nextR l).2 <:+ l := by
  cases l with
  | nil => exact List.suffix_refl _
  | cons x l => exact ⟨[x], rfl⟩
theorem nextR_lt (l : List Int) : 0 ≤ (nextR l).1 ∧ (nextR l).1 < 1000 := by
  cases l with
  | nil => simp [nextR]
  | cons x l => exact around_lt x (by omega)
theorem Nums.suf {l l' : List Int} (h : Nums l) (hs : l' <:+ l) : Nums l' := fun x hx => h x (hs.subset hx)
theorem Fits.suf {l l' : List Int} (h : Fits l) (hs : l' <:+ l) : Fits l' := by
  have := hs.length_le
  unfold Fits at *
  omega
def tInt : Ty := .mk 3 0 [73, 110, 116] []
def tL : Ty := .mk 3 0 [76] []
/-- A type, of the next numbers, so many levels deep yet. -/
def typR : Nat → List Int → Ty × List Int
  | 0, l => if (nextR l).1 % 3 < 2 then (.mk 2 0 (oneOf tnmL ((nextR l).1 / 6)) [], (nextR l).2) else (tInt, (nextR l).2)
  | f + 1, l =>
    if (nextR l).1 % 6 < 2 then (.mk 2 0 (oneOf tnmL ((nextR l).1 / 6)) [], (nextR l).2)
    else if (nextR l).1 % 6 = 2 then (tInt, (nextR l).2)
    else if (nextR l).1 % 6 = 3 then (tfun (typR f (nextR l).2).1 (typR f (typR f (nextR l).2).2).1, (typR f (typR f (nextR l).2).2).2)
    else if (nextR l).1 % 6 = 4 then (tapp tL (typR f (nextR l).2).1, (typR f (nextR l).2).2)
    else (.mk 5 0 (oneOf tnmL ((nextR l).1 / 6)) [(typR f (nextR l).2).1], (typR f (nextR l).2).2)
theorem typR_suf : ∀ (f : Nat) (l : List Int), (typR f l).2 <:+ l
  | 0, l => by
    unfold typR
    split <;> exact nextR_suf l
  | f + 1, l => by
    have h1 := (typR_suf f (nextR l).2).trans (nextR_suf l)
    have h2 := (typR_suf f (typR f (nextR l).2).2).trans h1
    unfold typR
    split
    · exact nextR_suf l
    · split
      · exact nextR_suf l
      · split
        · exact h2
        · split <;> exact h1
def tyV (t : Ty) : V := .pa (encTy t)

theorem c_typ (left : Int) : ∀ (f : Nat) (l : List Int) (dp : Int), Nums l → Fits l → dp + f = 3 → 1 ≤ dp → ImpC Tryd.prog 65 [.one (.vp 700 0), I .i64 dp] (mkO l left) (tyV (typR f l).1) (mkO (typR f l).2 left) := by
  intro f
  induction f with
  | zero =>
    intro l dp hl hf hd h1
    have hn := nextR_lt l
    refine impC (n := 57) tok Tryd.func65 rfl rfl rfl ?_
    refine awp_seq (ag [] rfl ?_)
    refine awp_seq (awp_rg mixed ?_)
    refine ak 1 [] rfl ?_
    refine kc (c_next l left hl hf) ?_
    refine ak 1 [] rfl ?_
    refine az ?_
    refine awp_seq (ag [] rfl ?_)
    refine awp_seq (awp_seq (ag [] rfl ?_))
    refine awp_cond rfl (fun hb => ?_) (fun hb => by simp at hb; omega)
    refine ag [] rfl ?_
    refine awp_seq (awp_seq (ag [] rfl ?_))
    refine awp_block (awp_seq (awp_seq (ag [] rfl ?_)))
    refine awp_cond rfl (fun hb => ?_) (fun hb => ?_)
    · have hr : typR 0 l = (.mk 2 0 (oneOf tnmL ((nextR l).1 / 6)) [], (nextR l).2) := by
        unfold typR
        rw [if_pos (by simp at hb; omega)]
      refine awp_skip (awp_cond rfl (fun _ => ?_) (fun hb' => by rw [hb] at hb'; cases hb'))
      refine awp_seq (awp_rg mixed ?_)
      refine ak 2 [] rfl ?_
      refine kc (c_tname ((nextR l).1 / 6) (by unfold i64; omega)) ?_
      refine ak 2 [] rfl ?_
      refine az ?_
      refine awp_ret ?_
      rw [hr]
      exact ⟨.inr rfl, ⟨_, _, .cell rfl (tg rfl) rfl rfl rfl .nil, .cons (.pa (.c .refl (.c .refl (.c .refl (.c .nl .nil))))) .nil, rfl⟩, ⟨⟨_, rfl, .var rfl⟩, trivial⟩, rfl⟩
    · refine ag [] rfl ?_
      refine awp_cond rfl (fun hb1 => ?_) (fun hb1 => ?_)
      · have hr : typR 0 l = (.mk 2 0 (oneOf tnmL ((nextR l).1 / 6)) [], (nextR l).2) := by
          unfold typR
          rw [if_pos (by simp at hb1; omega)]
        refine awp_seq (awp_rg mixed ?_)
        refine ak 2 [] rfl ?_
        refine kc (c_tname ((nextR l).1 / 6) (by unfold i64; omega)) ?_
        refine ak 2 [] rfl ?_
        refine az ?_
        refine awp_ret ?_
        rw [hr]
        exact ⟨.inr rfl, ⟨_, _, .cell rfl (tg rfl) rfl rfl rfl .nil, .cons (.pa (.c .refl (.c .refl (.c .refl (.c .nl .nil))))) .nil, rfl⟩, ⟨⟨_, rfl, .var rfl⟩, trivial⟩, rfl⟩
      · have hr : typR 0 l = (tInt, (nextR l).2) := by
          unfold typR
          rw [if_neg (by simp at hb hb1; omega)]
        refine awp_seq (ag [] rfl ?_)
        refine awp_cond rfl (fun hb2 => ?_) (fun hb2 => by simp at hb hb1 hb2; omega)
        refine awp_seq (ag [] rfl ?_)
        refine awp_ret ?_
        rw [hr]
        exact ⟨.inr rfl, ⟨_, _, .cell rfl (tg rfl) rfl rfl rfl .nil, .cons (.pa (.c .refl (.c .refl (.c .refl (.c .nl .nil))))) .nil, rfl⟩, ⟨⟨_, rfl, .var rfl⟩, trivial⟩, rfl⟩
  | succ f ih =>
    intro l dp hl hf hd h1
    have hn := nextR_lt l
    have hl1 := hl.suf (nextR_suf l)
    have hf1 := hf.suf (nextR_suf l)
    have hl2 := hl1.suf (typR_suf f (nextR l).2)
    have hf2 := hf1.suf (typR_suf f (nextR l).2)
    refine impC (n := 57) tok Tryd.func65 rfl rfl rfl ?_
    refine awp_seq (ag [] rfl ?_)
    refine awp_seq (awp_rg mixed ?_)
    refine ak 1 [] rfl ?_
    refine kc (c_next l left hl hf) ?_
    refine ak 1 [] rfl ?_
    refine az ?_
    refine awp_seq (ag [] rfl ?_)
    refine awp_seq (awp_seq (ag [] rfl ?_))
    refine awp_cond rfl (fun hb => by simp at hb; omega) (fun hb => ?_)
    refine awp_skip (awp_seq (awp_seq (ag [] rfl ?_)))
    refine awp_block (awp_seq (awp_seq (ag [] rfl ?_)))
    refine awp_cond rfl (fun hb => ?_) (fun hb => ?_)
    · have hr : typR (f + 1) l = (.mk 2 0 (oneOf tnmL ((nextR l).1 / 6)) [], (nextR l).2) := by
        unfold typR
        rw [if_pos (by simp at hb; omega)]
      refine awp_skip (awp_cond rfl (fun _ => ?_) (fun hb' => by rw [hb] at hb'; cases hb'))
      refine awp_seq (awp_rg mixed ?_)
      refine ak 2 [] rfl ?_
      refine kc (c_tname ((nextR l).1 / 6) (by unfold i64; omega)) ?_
      refine ak 2 [] rfl ?_
      refine az ?_
      refine awp_ret ?_
      rw [hr]
      exact ⟨.inr rfl, ⟨_, _, .cell rfl (tg rfl) rfl rfl rfl .nil, .cons (.pa (.c .refl (.c .refl (.c .refl (.c .nl .nil))))) .nil, rfl⟩, ⟨⟨_, rfl, .var rfl⟩, trivial⟩, rfl⟩
    · refine ag [] rfl ?_
      refine awp_cond rfl (fun hb1 => ?_) (fun hb1 => ?_)
      · have hr : typR (f + 1) l = (.mk 2 0 (oneOf tnmL ((nextR l).1 / 6)) [], (nextR l).2) := by
          unfold typR
          rw [if_pos (by simp at hb1; omega)]
        refine awp_seq (awp_rg mixed ?_)
        refine ak 2 [] rfl ?_
        refine kc (c_tname ((nextR l).1 / 6) (by unfold i64; omega)) ?_
        refine ak 2 [] rfl ?_
        refine az ?_
        refine awp_ret ?_
        rw [hr]
        exact ⟨.inr rfl, ⟨_, _, .cell rfl (tg rfl) rfl rfl rfl .nil, .cons (.pa (.c .refl (.c .refl (.c .refl (.c .nl .nil))))) .nil, rfl⟩, ⟨⟨_, rfl, .var rfl⟩, trivial⟩, rfl⟩
      · have hlt : ¬ (nextR l).1 % 6 < 2 := by simp at hb hb1; omega
        refine awp_seq (ag [] rfl ?_)
        refine awp_cond rfl (fun hb2 => ?_) (fun hb2 => ?_)
        · have hr : typR (f + 1) l = (tInt, (nextR l).2) := by
            have h2 : (nextR l).1 % 6 = 2 := by simpa using hb2
            unfold typR
            rw [if_neg hlt, if_pos h2]
          refine awp_seq (ag [] rfl ?_)
          refine awp_ret ?_
          rw [hr]
          exact ⟨.inr rfl, ⟨_, _, .cell rfl (tg rfl) rfl rfl rfl .nil, .cons (.pa (.c .refl (.c .refl (.c .refl (.c .nl .nil))))) .nil, rfl⟩, ⟨⟨_, rfl, .var rfl⟩, trivial⟩, rfl⟩
        · have h2 : ¬ (nextR l).1 % 6 = 2 := by simpa using hb2
          have ih1 := ih (nextR l).2 (dp + 1) hl1 hf1 (by omega) (by omega)
          have ih2 := ih (typR f (nextR l).2).2 (dp + 1) hl2 hf2 (by omega) (by omega)
          refine awp_seq (ag [] rfl ?_)
          refine awp_cond rfl (fun hb3 => ?_) (fun hb3 => ?_)
          · have h3 : (nextR l).1 % 6 = 3 := by simpa using hb3
            have hr : typR (f + 1) l = (tfun (typR f (nextR l).2).1 (typR f (typR f (nextR l).2).2).1, (typR f (typR f (nextR l).2).2).2) := by
              rw [typR, if_neg hlt, if_neg h2, if_pos h3]
            rw [hr]
            generalize typR f (typR f (nextR l).2).2 = r2 at ih2 ⊢
            generalize typR f (nextR l).2 = r1 at ih1 ih2 ⊢
            obtain ⟨⟨f1, n1, s1, a1⟩, l1⟩ := r1
            obtain ⟨⟨f2, n2, s2, a2⟩, l2⟩ := r2
            refine awp_seq (awp_rg mixed ?_)
            refine ak 3 [] rfl ?_
            refine kc ih1 ?_
            refine ak 2 [] rfl ?_
            refine az ?_
            refine awp_seq (awp_rg mixed ?_)
            refine ak 4 [] rfl ?_
            refine kc ih2 ?_
            refine kc (c_fun (.mk f1 n1 s1 a1) (.mk f2 n2 s2 a2)) ?_
            refine ak 1 [] rfl ?_
            refine az ?_
            refine awp_ret ?_
            exact ⟨.inr rfl, ⟨_, _, .cell rfl (tg rfl) rfl rfl rfl .nil, .cons .refl .nil, rfl⟩, ⟨⟨_, rfl, .var rfl⟩, trivial⟩, rfl⟩
          · have h3 : ¬ (nextR l).1 % 6 = 3 := by simpa using hb3
            refine awp_seq (ag [] rfl ?_)
            refine awp_cond rfl (fun hb4 => ?_) (fun hb4 => ?_)
            · have h4 : (nextR l).1 % 6 = 4 := by simpa using hb4
              have hr : typR (f + 1) l = (tapp tL (typR f (nextR l).2).1, (typR f (nextR l).2).2) := by
                rw [typR, if_neg hlt, if_neg h2, if_neg h3, if_pos h4]
              rw [hr]
              clear ih2
              generalize typR f (nextR l).2 = r1 at ih1 ⊢
              obtain ⟨⟨f1, n1, s1, a1⟩, l1⟩ := r1
              refine awp_seq (awp_rg mixed ?_)
              refine ak 4 [] rfl ?_
              refine kc ih1 ?_
              refine ak 3 [] rfl ?_
              refine az ?_
              refine AWp.sub (Sub.freeze (id := 46) rfl) (awp_ret ?_)
              exact ⟨.inr rfl, ⟨_, _, .cell rfl (tg rfl) rfl rfl rfl .nil, .cons (.agg (.c .refl (.c .refl (.c .refl (.hs rfl rfl rfl .nil))))) .nil, rfl⟩, ⟨⟨_, rfl, .var rfl⟩, trivial⟩, rfl⟩
            · have h4 : ¬ (nextR l).1 % 6 = 4 := by simpa using hb4
              have hr : typR (f + 1) l = (.mk 5 0 (oneOf tnmL ((nextR l).1 / 6)) [(typR f (nextR l).2).1], (typR f (nextR l).2).2) := by
                rw [typR, if_neg hlt, if_neg h2, if_neg h3, if_neg h4]
              rw [hr]
              clear ih2
              generalize typR f (nextR l).2 = r1 at ih1 ⊢
              obtain ⟨⟨f1, n1, s1, a1⟩, l1⟩ := r1
              refine awp_skip (awp_seq (awp_rg mixed ?_))
              refine ak 2 [] rfl ?_
              refine kc (c_tname ((nextR l).1 / 6) (by unfold i64; omega)) ?_
              refine ak 3 [] rfl ?_
              refine kc ih1 ?_
              refine ak 3 [] rfl ?_
              refine az ?_
              refine AWp.sub (Sub.freeze (id := 55) rfl) (awp_ret ?_)
              exact ⟨.inr rfl, ⟨_, _, .cell rfl (tg rfl) rfl rfl rfl .nil, .cons (.agg (.c .refl (.c .refl (.c .refl (.hs rfl rfl rfl .nil))))) .nil, rfl⟩, ⟨⟨_, rfl, .var rfl⟩, trivial⟩, rfl⟩
end Go.Proofs.YtojcjjjpniimiaaDoor

/- NAMES, made of numbers. -/
namespace Go.Proofs.YtojcjjjpniimiaaDoor
open Go Go.AM
set_option maxRecDepth 20000

/-- One more, if it is not there. -/
def addN (l : List Str) (s : Str) : List Str := if s ∈ l then l else l ++ [s]
def nameAt (n : Int) (i : Nat) : Str := oneOf nmL (n / 4 + (i : Int) * (1 + n % 2))
def namesTo (n : Int) : Nat → List Str
  | 0 => []
  | i + 1 => addN (namesTo n i) (nameAt n i)
def namesR (l : List Int) : List Str × List Int := (namesTo (nextR l).1 ((nextR l).1 % 4).toNat, (nextR l).2)
theorem addN_len (l : List Str) (s : Str) : (addN l s).length ≤ l.length + 1 := by
  unfold addN
  split <;> simp
theorem namesTo_len (n : Int) : ∀ i : Nat, (namesTo n i).length ≤ i
  | 0 => Nat.le_refl _
  | i + 1 => Nat.le_trans (addN_len _ _) (Nat.succ_le_succ (namesTo_len n i))

theorem c_names (left : Int) (l : List Int) (hl : Nums l) (hf : Fits l) : ImpC Tryd.prog 67 [.one (.vp 700 0)] (mkO l left) (.one (.c (.sl 1 ((namesR l).1.map encS)))) (mkO (namesR l).2 left) := by
  have hn := nextR_lt l
  refine impC (n := 33) tok Tryd.func67 rfl rfl rfl ?_
  refine awp_seq (ag [] rfl ?_)
  refine awp_seq (awp_rg mixed ?_)
  refine ak 1 [] rfl ?_
  refine kc (c_next l left hl hf) ?_
  refine ak 1 [] rfl ?_
  refine az ?_
  refine awp_seq (ag [] rfl ?_)
  refine awp_seq (awp_seq (ag [] rfl ?_))
  refine AWp.sub (Sub.own (t := 4) (id := 500) 9 1 rfl rfl) (AWp.sub (Sub.freeze (id := 500) rfl) ?_)
  refine awp_block (awp_loop (fun i : Nat => mk [(3, I .i64 (nextR l).1), (4, .one (.hs 500 0 (namesTo (nextR l).1 i).length (namesTo (nextR l).1 i).length)), (5, I .i64 i)] ((500, .arr 9 1 ((namesTo (nextR l).1 i).map encS) 2) :: mkO (nextR l).2 left)) (fun i => (i : Int) ≤ (nextR l).1 % 4) (fun i => 4 - i) 0 (by simp; omega) (.list (fun i => i) ⟨rfl, rfl, rfl, trivial⟩ ⟨⟨_, rfl, .arr⟩, ⟨_, rfl, .var rfl⟩, trivial⟩ rfl) ?_)
  intro i hi
  have hlen := namesTo_len (nextR l).1 i
  refine awp_seq (awp_seq (ag [] rfl ?_))
  refine awp_cond rfl (fun hb => ?_) (fun hb => ?_)
  · refine awp_skip ?_
    have hlt : (i : Int) < (nextR l).1 % 4 := by simpa using hb
    have hi64 : i64 ((nextR l).1 / 4 + (i : Int) * (1 + (nextR l).1 % 2)) := by
      have h1 : (i : Int) ≤ 4 := by omega
      have h2 : (i : Int) * (1 + (nextR l).1 % 2) ≤ 4 * 2 := Int.mul_le_mul h1 (by omega) (by omega) (by omega)
      have h3 : 0 ≤ (i : Int) * (1 + (nextR l).1 % 2) := Int.mul_nonneg (by omega) (by omega)
      unfold i64
      omega
    have hm : -9223372036854775808 ≤ (i : Int) * (1 + (nextR l).1 % 2) ∧ (i : Int) * (1 + (nextR l).1 % 2) ≤ 9223372036854775807 := by
      have h1 : (i : Int) ≤ 4 := by omega
      have h2 : (i : Int) * (1 + (nextR l).1 % 2) ≤ 4 * 2 := Int.mul_le_mul h1 (by omega) (by omega) (by omega)
      have h3 : 0 ≤ (i : Int) * (1 + (nextR l).1 % 2) := Int.mul_nonneg (by omega) (by omega)
      omega
    refine awp_seq (awp_block (awp_seq (awp_rg mixed ?_)))
    unfold i64 at hi64
    refine ak 8 [] rfl ?_
    refine kc (c_name _ hi64) ?_
    refine ak 1 [] rfl ?_
    refine az ?_
    refine awp_seq (awp_rg mixed ?_)
    refine ak 2 [] rfl ?_
    refine kc (c_has (namesTo (nextR l).1 i) (nameAt (nextR l).1 i) (by unfold Fits; omega)) ?_
    refine ak 1 [] rfl ?_
    refine az ?_
    refine awp_cond rfl (fun hb => ?_) (fun hb => ?_)
    · have hni : nameAt (nextR l).1 i ∉ namesTo (nextR l).1 i := by simpa using hb
      refine ag [] rfl ?_
      refine AWp.sub (Sub.freeze (id := 500) rfl) ?_
      refine ag [] rfl ?_
      have he : namesTo (nextR l).1 (i + 1) = namesTo (nextR l).1 i ++ [nameAt (nextR l).1 i] := by rw [namesTo, addN, if_neg hni]
      refine ⟨i + 1, by dsimp only; omega, by dsimp only; omega, .list (fun i => i) ⟨rfl, ?_, rfl, trivial⟩ ⟨⟨_, rfl, by rw [he, List.map_append]; exact .arr⟩, ⟨_, rfl, .var rfl⟩, trivial⟩ rfl⟩
      show some (V.one (R.hs 500 0 _ _)) = some (V.one (R.hs 500 0 _ _))
      rw [he]
      simp
    · have hni : nameAt (nextR l).1 i ∈ namesTo (nextR l).1 i := by simpa using hb
      have he : namesTo (nextR l).1 (i + 1) = namesTo (nextR l).1 i := by rw [namesTo, addN, if_pos hni]
      refine awp_skip (ag [] rfl ?_)
      refine ⟨i + 1, by dsimp only; omega, by dsimp only; omega, ?_⟩
      dsimp only
      rw [he]
      exact .list (fun i => i) ⟨rfl, rfl, rfl, trivial⟩ ⟨⟨_, rfl, .arr⟩, ⟨_, rfl, .var rfl⟩, trivial⟩ rfl
  · have hge : ((nextR l).1 % 4).toNat = i := by
      have : ¬ (i : Int) < (nextR l).1 % 4 := by simpa using hb
      omega
    have hr : namesR l = (namesTo (nextR l).1 i, (nextR l).2) := by unfold namesR; rw [hge]
    refine awp_exit (awp_seq (ag [] rfl (awp_ret ?_)))
    rw [hr]
    exact ⟨.inr rfl, ⟨_, _, .tmp rfl .nil, .cons (.one (.hs rfl (by simp) Go.AM.take_map.symm .nil)) .nil, rfl⟩, ⟨⟨_, rfl, .var rfl⟩, trivial⟩, rfl⟩
end Go.Proofs.YtojcjjjpniimiaaDoor

/- CORE, made of numbers: what is made. -/
namespace Go.Proofs.YtojcjjjpniimiaaDoor
open Go Go.AM
set_option maxRecDepth 20000

def zTy : Ty := .mk 0 0 [] []
abbrev Mk := Core × List Int × Int
/-- The binds of a let, one behind the other. -/
def bindsTo (g : List Int → Int → Mk) (ns : List Str) (l : List Int) (left : Int) : Nat → List Bind × List Int × Int
  | 0 => ([], l, left)
  | i + 1 => let r := bindsTo g ns l left i
    let c := g (typR 2 r.2.1).2 r.2.2
    (r.1 ++ [.mk (ns[i]?.getD []) (typR 2 r.2.1).1 c.1], c.2)
/-- The alternatives of a case, one behind the other. -/
def altsTo (g : List Int → Int → Mk) (n : Int) (l : List Int) (left : Int) : Nat → List Alt × List Int × Int
  | 0 => ([], l, left)
  | i + 1 => let r := altsTo g n l left i
    let c := g (namesR r.2.1).2 r.2.2
    (r.1 ++ [if i = 1 then .mk 2 (n / 14) [] [] c.1 else if i = 2 then .mk 3 0 [] [] c.1 else .mk 1 0 (oneOf conL (n / 14 + i)) (namesR r.2.1).1 c.1], c.2)
/-- Core of a kind, of the next numbers. -/
def coreK (g : List Int → Int → Mk) (n k : Int) (l : List Int) (left : Int) : Mk :=
  if k < 2 then (.mk 1 0 (oneOf nmL (n / 14)) zTy [] [] [], l, left)
  else if k = 2 then (.mk 2 0 (oneOf conL (n / 14)) zTy [] [] [], l, left)
  else if k = 3 then (.mk 3 (n / 14 - 3) [] zTy [] [] [], l, left)
  else if k < 6 then (.mk 4 0 [] zTy [(g l left).1, (g (g l left).2.1 (g l left).2.2).1] [] [], (g (g l left).2.1 (g l left).2.2).2)
  else if k < 8 then (.mk 5 0 (oneOf nmL (n / 14)) (typR 2 l).1 [(g (typR 2 l).2 left).1] [] [], (g (typR 2 l).2 left).2)
  else if k = 8 then (.mk 6 0 [] (typR 2 l).1 [(g (typR 2 l).2 left).1] [] [], (g (typR 2 l).2 left).2)
  else if k = 9 then (.mk 7 0 (oneOf tnmL (n / 14)) zTy [(g l left).1] [] [], (g l left).2)
  else if k = 10 then
    let r := bindsTo g (namesR l).1 (namesR l).2 left (namesR l).1.length
    (.mk 8 0 [] zTy [(g r.2.1 r.2.2).1] r.1 [], (g r.2.1 r.2.2).2)
  else if k = 11 then
    let c := g (typR 2 l).2 left
    let r := altsTo g n c.2.1 c.2.2 (n / 14 % 4).toNat
    (.mk 9 0 [] (typR 2 l).1 [c.1] [] r.1, r.2)
  else if k = 12 then (.mk 10 0 (oneOf primL (n / 14)) zTy [(g l left).1, (g (g l left).2.1 (g l left).2.2).1] [] [], (g (g l left).2.1 (g l left).2.2).2)
  else (.mk 11 0 [] (typR 2 l).1 [] [] [], (typR 2 l).2, left)
/-- Core, so many levels deep yet. -/
def coreR : Nat → List Int → Int → Mk
  | 0, l, left => coreK (fun l left => (.mk 0 0 [] zTy [] [] [], l, left)) (nextR l).1 ((nextR l).1 % 4) (nextR l).2 (left - 1)
  | f + 1, l, left => coreK (coreR f) (nextR l).1 (if left - 1 < 1 then (nextR l).1 % 4 else (nextR l).1 % 14) (nextR l).2 (left - 1)

/-- What a maker of core does: to its numbers, to what is left. -/
structure MkOk (g : List Int → Int → Mk) (N : Nat) : Prop where
  suf : ∀ l left, (g l left).2.1 <:+ l
  le : ∀ l left, (g l left).2.2 ≤ left
  ge : ∀ l left, left ≤ (g l left).2.2 + N
theorem namesR_suf (l : List Int) : (namesR l).2 <:+ l := nextR_suf l
theorem namesR_len (l : List Int) : (namesR l).1.length ≤ 3 := by
  have h1 := namesTo_len (nextR l).1 ((nextR l).1 % 4).toNat
  have h2 : ((nextR l).1 % 4).toNat ≤ 3 := by omega
  exact Nat.le_trans h1 h2
theorem bindsTo_ok {g : List Int → Int → Mk} {N : Nat} (h : MkOk g N) (ns : List Str) (l : List Int) (left : Int) : ∀ i : Nat, (bindsTo g ns l left i).2.1 <:+ l ∧ (bindsTo g ns l left i).2.2 ≤ left ∧ left ≤ (bindsTo g ns l left i).2.2 + (i : Int) * N ∧ (bindsTo g ns l left i).1.length = i
  | 0 => by simp [bindsTo]
  | i + 1 => by
    obtain ⟨h1, h2, h3, h4⟩ := bindsTo_ok h ns l left i
    simp only [bindsTo]
    refine ⟨((h.suf _ _).trans (typR_suf 2 _)).trans h1, Int.le_trans (h.le _ _) h2, ?_, by simp [h4]⟩
    have := h.ge (typR 2 (bindsTo g ns l left i).2.1).2 (bindsTo g ns l left i).2.2
    rw [show ((i + 1 : Nat) : Int) * (N : Int) = (i : Int) * N + N by rw [Int.natCast_add, Int.add_mul]; simp]
    omega
theorem altsTo_ok {g : List Int → Int → Mk} {N : Nat} (h : MkOk g N) (n : Int) (l : List Int) (left : Int) : ∀ i : Nat, (altsTo g n l left i).2.1 <:+ l ∧ (altsTo g n l left i).2.2 ≤ left ∧ left ≤ (altsTo g n l left i).2.2 + (i : Int) * N ∧ (altsTo g n l left i).1.length = i
  | 0 => by simp [altsTo]
  | i + 1 => by
    obtain ⟨h1, h2, h3, h4⟩ := altsTo_ok h n l left i
    simp only [altsTo]
    refine ⟨((h.suf _ _).trans (namesR_suf _)).trans h1, Int.le_trans (h.le _ _) h2, ?_, by simp [h4]⟩
    have := h.ge (namesR (altsTo g n l left i).2.1).2 (altsTo g n l left i).2.2
    rw [show ((i + 1 : Nat) : Int) * (N : Int) = (i : Int) * N + N by rw [Int.natCast_add, Int.add_mul]; simp]
    omega
theorem coreK_ok {g : List Int → Int → Mk} {N : Nat} (h : MkOk g N) (n k : Int) (l : List Int) (left : Int) : (coreK g n k l left).2.1 <:+ l ∧ (coreK g n k l left).2.2 ≤ left ∧ left ≤ (coreK g n k l left).2.2 + 4 * N := by
  have ht := typR_suf 2 l
  have hg1 := h.suf l left
  have hg2 := h.le l left
  have hg3 := h.ge l left
  have hh1 := h.suf (g l left).2.1 (g l left).2.2
  have hh2 := h.le (g l left).2.1 (g l left).2.2
  have hh3 := h.ge (g l left).2.1 (g l left).2.2
  have hu1 := h.suf (typR 2 l).2 left
  have hu2 := h.le (typR 2 l).2 left
  have hu3 := h.ge (typR 2 l).2 left
  unfold coreK
  split
  · exact ⟨List.suffix_refl _, Int.le_refl _, by dsimp only; omega⟩
  split
  · exact ⟨List.suffix_refl _, Int.le_refl _, by dsimp only; omega⟩
  split
  · exact ⟨List.suffix_refl _, Int.le_refl _, by dsimp only; omega⟩
  split
  · exact ⟨hh1.trans hg1, by dsimp only; omega, by dsimp only; omega⟩
  split
  · exact ⟨hu1.trans ht, by dsimp only; omega, by dsimp only; omega⟩
  split
  · exact ⟨hu1.trans ht, by dsimp only; omega, by dsimp only; omega⟩
  split
  · exact ⟨hg1, by dsimp only; omega, by dsimp only; omega⟩
  split
  · have hl := namesR_len l
    obtain ⟨b1, b2, b3, _⟩ := bindsTo_ok h (namesR l).1 (namesR l).2 left (namesR l).1.length
    have c1 := h.suf (bindsTo g (namesR l).1 (namesR l).2 left (namesR l).1.length).2.1 (bindsTo g (namesR l).1 (namesR l).2 left (namesR l).1.length).2.2
    have c2 := h.le (bindsTo g (namesR l).1 (namesR l).2 left (namesR l).1.length).2.1 (bindsTo g (namesR l).1 (namesR l).2 left (namesR l).1.length).2.2
    have c3 := h.ge (bindsTo g (namesR l).1 (namesR l).2 left (namesR l).1.length).2.1 (bindsTo g (namesR l).1 (namesR l).2 left (namesR l).1.length).2.2
    have hm : (((namesR l).1.length : Nat) : Int) * (N : Int) ≤ 3 * (N : Int) := Int.mul_le_mul_of_nonneg_right (by omega) (by omega)
    exact ⟨(c1.trans b1).trans (namesR_suf l), by dsimp only; omega, by dsimp only; omega⟩
  split
  · obtain ⟨b1, b2, b3, _⟩ := altsTo_ok h n (g (typR 2 l).2 left).2.1 (g (typR 2 l).2 left).2.2 (n / 14 % 4).toNat
    have hm : (((n / 14 % 4).toNat : Nat) : Int) * (N : Int) ≤ 3 * (N : Int) := Int.mul_le_mul_of_nonneg_right (by omega) (by omega)
    exact ⟨(b1.trans hu1).trans ht, by dsimp only; omega, by dsimp only; omega⟩
  split
  · exact ⟨hh1.trans hg1, by dsimp only; omega, by dsimp only; omega⟩
  · exact ⟨ht, Int.le_refl _, by dsimp only; omega⟩
/-- How much may be used up, so many levels deep. -/
def use : Nat → Nat
  | 0 => 1
  | f + 1 => 1 + 4 * use f
theorem coreR_ok : ∀ f : Nat, MkOk (coreR f) (use f)
  | 0 => by
    have h : MkOk (fun l left => ((.mk 0 0 [] zTy [] [] [], l, left) : Mk)) 0 := ⟨fun _ _ => List.suffix_refl _, fun _ _ => Int.le_refl _, fun _ _ => by simp⟩
    refine ⟨fun l left => ?_, fun l left => ?_, fun l left => ?_⟩ <;> obtain ⟨h1, h2, h3⟩ := coreK_ok h (nextR l).1 ((nextR l).1 % 4) (nextR l).2 (left - 1) <;> simp only [coreR, use]
    · exact h1.trans (nextR_suf l)
    · omega
    · simp only [Int.natCast_zero, Int.mul_zero, Int.add_zero] at h3; omega
  | f + 1 => by
    have h := coreR_ok f
    refine ⟨fun l left => ?_, fun l left => ?_, fun l left => ?_⟩ <;> obtain ⟨h1, h2, h3⟩ := coreK_ok h (nextR l).1 (if left - 1 < 1 then (nextR l).1 % 4 else (nextR l).1 % 14) (nextR l).2 (left - 1) <;> simp only [coreR, use]
    · exact h1.trans (nextR_suf l)
    · omega
    · simp only [Int.natCast_add, Int.natCast_mul]; omega
end Go.Proofs.YtojcjjjpniimiaaDoor
