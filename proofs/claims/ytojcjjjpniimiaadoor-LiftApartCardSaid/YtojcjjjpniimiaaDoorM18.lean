/-
  Texts Lt8, Lt9 in one.
-/
import Derived.Test.YtojcjjjpniimiaaDoorM17
import Derived.Shelf.Strconv.Itoa3
import Derived.Lib.LaidTab
/- NUMBERS AS TEXTS, whatever the number (printed by lt8.py). -/
namespace Go.Proofs.YtojcjjjpniimiaaDoor
open Go Go.AM Go.Shelf
set_option maxRecDepth 100000

def ir : Ren := ⟨fun f => if f = 129 then 106 else if f = 171 then 73 else if f = 243 then 94 else if f = 246 then 99 else if f = 283 then 101 else if f = 284 then 102 else if f = 285 then 103 else if f = 286 then 104 else if f = 317 then 105 else if f = 318 then 107 else if f = 319 then 108 else if f = 320 then 109 else if f = 337 then 110 else if f = 338 then 111 else f, fun t => if t = 0 then 0 else if t = 2 then 2 else if t = 3 then 3 else if t = 4 then 4 else if t = 5 then 5 else if t = 9 then 9 else if t = 20 then 20 else if t = 37 then 120 else if t = 46 then 146 else if t = 51 then 143 else if t = 53 then 136 else if t = 171 then 135 else if t = 173 then 139 else if t = 212 then 142 else if t = 213 then 144 else if t = 232 then 149 else if t = 233 then 150 else t, fun g => if g = 17 then 0 else if g = 18 then 1 else if g = 19 then 2 else g⟩
theorem il : LaysM.n171 Tryd.prog ir where
  mixed := mixed
  f129 := by kernel_rfl
  f171 := by kernel_rfl
  f243 := by kernel_rfl
  f246 := by kernel_rfl
  f283 := by kernel_rfl
  f284 := by kernel_rfl
  f285 := by kernel_rfl
  f286 := by kernel_rfl
  f317 := by kernel_rfl
  f318 := by kernel_rfl
  f319 := by kernel_rfl
  f320 := by kernel_rfl
  f337 := by kernel_rfl
  f338 := by kernel_rfl
  t0 := by kernel_rfl
  a0 := fun w => by kernel_rfl
  z0 := fun w => by kernel_rfl
  v0 := fun w => by kernel_rfl
  t2 := by kernel_rfl
  a2 := fun w => by kernel_rfl
  z2 := fun w => by kernel_rfl
  v2 := fun w => by kernel_rfl
  t3 := by kernel_rfl
  a3 := fun w => by kernel_rfl
  z3 := fun w => by kernel_rfl
  v3 := fun w => by kernel_rfl
  t4 := by kernel_rfl
  a4 := fun w => by kernel_rfl
  z4 := fun w => by kernel_rfl
  v4 := fun w => by kernel_rfl
  t5 := by kernel_rfl
  a5 := fun w => by kernel_rfl
  z5 := fun w => by kernel_rfl
  v5 := fun w => by kernel_rfl
  t9 := by kernel_rfl
  a9 := fun w => by kernel_rfl
  z9 := fun w => by kernel_rfl
  v9 := fun w => by kernel_rfl
  t20 := by kernel_rfl
  a20 := fun w => by kernel_rfl
  z20 := fun w => by kernel_rfl
  v20 := fun w => by kernel_rfl
  t37 := by kernel_rfl
  a37 := fun w => by kernel_rfl
  z37 := fun w => by kernel_rfl
  v37 := fun w => by kernel_rfl
  t46 := by kernel_rfl
  a46 := fun w => by kernel_rfl
  z46 := fun w => by kernel_rfl
  v46 := fun w => by kernel_rfl
  t51 := by kernel_rfl
  a51 := fun w => by kernel_rfl
  z51 := fun w => by kernel_rfl
  v51 := fun w => by kernel_rfl
  t53 := by kernel_rfl
  a53 := fun w => by kernel_rfl
  z53 := fun w => by kernel_rfl
  v53 := fun w => by kernel_rfl
  t171 := by kernel_rfl
  a171 := fun w => by kernel_rfl
  z171 := fun w => by kernel_rfl
  v171 := fun w => by kernel_rfl
  t173 := by kernel_rfl
  a173 := fun w => by kernel_rfl
  z173 := fun w => by kernel_rfl
  v173 := fun w => by kernel_rfl
  t212 := by kernel_rfl
  a212 := fun w => by kernel_rfl
  z212 := fun w => by kernel_rfl
  v212 := fun w => by kernel_rfl
  t213 := by kernel_rfl
  a213 := fun w => by kernel_rfl
  z213 := fun w => by kernel_rfl
  t232 := by kernel_rfl
  a232 := fun w => by kernel_rfl
  z232 := fun w => by kernel_rfl
  v232 := fun w => by kernel_rfl
  t233 := by kernel_rfl
  a233 := fun w => by kernel_rfl
  z233 := fun w => by kernel_rfl
  v233 := fun w => by kernel_rfl
  g17 := by kernel_rfl
  g18 := by kernel_rfl
  g19 := by kernel_rfl
  i0 := by kernel_rfl
  i2 := by kernel_rfl
  i3 := by kernel_rfl
  i4 := by kernel_rfl
  i5 := by kernel_rfl
  i9 := by kernel_rfl
  i20 := by kernel_rfl
  i37 := by kernel_rfl
  i46 := by kernel_rfl
  i51 := by kernel_rfl
  i53 := by kernel_rfl
  i171 := by kernel_rfl
  i173 := by kernel_rfl
  i212 := by kernel_rfl
  i232 := by kernel_rfl
  i233 := by kernel_rfl
  m17 := by kernel_rfl
  m18 := by kernel_rfl
  m19 := by kernel_rfl
end Go.Proofs.YtojcjjjpniimiaaDoor

/- NUMBERS AS TEXTS, whatever the number: the contract. -/
namespace Go.AM
open Go
/-- More memory, of which nobody knows. -/
theorem Inv.grown {G : Ctx} {S : Sto} {μ : Mu} {H : Heap} {w : World} (h : Inv G S μ H w) (k : Nat) (os : Array Obj) : Inv G S μ H (Sort.grow (w.drewN k) os) := by
  have hold : ∀ b : Nat, b < w.heap.size → (Sort.grow (w.drewN k) os).heap[b]? = w.heap[b]? := fun b hb => by
    show (w.heap ++ os)[b]? = w.heap[b]?
    exact Array.getElem?_append_left hb
  have hsz : w.heap.size ≤ (Sort.grow (w.drewN k) os).heap.size := by
    show w.heap.size ≤ (w.heap ++ os).size
    rw [Array.size_append]; omega
  obtain ⟨h1, h2, h3, h4, h5, h6, h7, h8⟩ := h
  refine ⟨⟨fun b o v e => ?_, fun b es clk e => ?_⟩, fun id o e => (h2 id o e).evolve (Evolve.refl _ _ _) rfl fun b c hm => ⟨hold b ((h2 id o e).lt hm), fun _ => rfl, rfl⟩, h3, h4, ?_, h6, h7, h8⟩
  · obtain ⟨vs, t, fr, g1, g2⟩ := h1.1 b o v e
    exact ⟨vs, t, fr, by rw [hold b (lt_of_some g1)]; exact g1, g2⟩
  · have g := h1.2 b es clk e
    rw [hold b (lt_of_some g)]; exact g
  · obtain ⟨f1, f2, f3, f4, f5, f6⟩ := h5
    exact ⟨f1, f2, f3, Nat.le_trans f4 hsz, fun b hb hF => by rw [hold b (Nat.lt_of_lt_of_le hb f4)]; exact f5 b hb hF, f6⟩
end Go.AM
namespace Go.Proofs.YtojcjjjpniimiaaDoor
open Go Go.AM
set_option maxRecDepth 20000
theorem dec_digits : ∀ (n : Nat), n < 1000000000000000000 → Lib.decDigits n = dec n := by
  intro n
  induction n using Nat.strongRecOn with
  | _ n ih =>
    intro h
    rw [Lib.decDigits, dec_eq n h]
    by_cases h1 : n < 10
    · rw [dif_pos h1, if_pos h1]
    · rw [dif_neg h1, if_neg h1, ih (n / 10) (by omega) (by omega)]
theorem c_itoaL (k : Nat) (h : k < 1000000000000000000) : ImpC Tryd.prog 73 [I .i64 (k : Int)] [] (Go.AM.T (dec k)) [] := by
  intro S μ w vals hI hv
  simp only [VRelL, VRel, RRel, Rep] at hv
  obtain ⟨v1, vs1, rfl, rfl, rfl⟩ := hv
  have htab : Lib.TabIs Tryd.prog w "internal/strconv.uint64pow10" .u64 Lib.pow10Tab := by
    obtain ⟨h1, t, fr, h2⟩ := hI.frame.tabAt 0 rfl
    unfold Lib.TabIs World.var?
    rw [show Tryd.prog.globalNamed "internal/strconv.uint64pow10" = some 0 by kernel_rfl]
    simp only [Option.bind_some, h2]
    rfl
  refine Calls.mono (Any.strconv_Itoa il (k : Int) (by omega) (by omega) w htab) ?_
  rintro e w' ⟨rfl, j, os, rfl⟩
  refine ⟨S, μ, _, rfl, hI.grown j os, ?_⟩
  rw [Lib.itoa_nonneg, dec_digits k h]
  simp only [VRel, RRel, Rep]
end Go.Proofs.YtojcjjjpniimiaaDoor
