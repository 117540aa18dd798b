/-
  Texts Am24 to La3 in one.
-/
import Derived.Test.YtlegeikmepnmcaaDoorM4
import Derived.KernelRfl
import Derived.Test.YtlegeikmepnmcaaDoorProg
open List (all_cons all_eq_true cons_append drop_zero length_cons length_nil mem_append nil_append suffix_refl take_length)
open Nat (eq_of_beq_eq_true le_refl zero_le)
namespace Go.AM
open Go
section
variable {P : Program} {n : Nat} {o : Oper} {st : St} {ob : List Prop} {tr : Tr} {md nat : Bool}
def arith (md nat : Bool) (op : BinOp) (a b : Int) (ob : List Prop) : Option (Int × List Prop) := match op with
 | .add => bif nat then (match a, b with | .ofNat x, .ofNat y => (fJ md (x + y ≤ 9223372036854775807) ob).bind fun ob1 => some (((x + y : Nat) : Int), ob1) | _, _ => none)
  else (fJ md (-9223372036854775808 ≤ a + b ∧ a + b ≤ 9223372036854775807) ob).bind fun ob1 => some (a + b, ob1)
 | .sub => bif nat then (match a, b with | .ofNat x, .ofNat y => (fJ md (y ≤ x ∧ x ≤ 9223372036854775807) ob).bind fun ob1 => some (((x - y : Nat) : Int), ob1) | _, _ => none)
  else (fJ md (-9223372036854775808 ≤ a - b ∧ a - b ≤ 9223372036854775807) ob).bind fun ob1 => some (a - b, ob1)
 | .mul => bif nat then (match a, b with | .ofNat x, .ofNat y => (fJ md (x * y ≤ 9223372036854775807) ob).bind fun ob1 => some (((x * y : Nat) : Int), ob1) | _, _ => none)
  else (fJ md (-9223372036854775808 ≤ a * b ∧ a * b ≤ 9223372036854775807) ob).bind fun ob1 => some (a * b, ob1)
 | .quo => bif nat then (match a, b with | .ofNat x, .ofNat y => (fJ md (x ≤ 9223372036854775807 ∧ 1 ≤ y) ob).bind fun ob1 => some (((x / y : Nat) : Int), ob1) | _, _ => none)
  else (fJ md (0 ≤ a ∧ a ≤ 9223372036854775807 ∧ 1 ≤ b) ob).bind fun ob1 => some (a / b, ob1)
 | .rem => bif nat then (match a, b with | .ofNat x, .ofNat y => (fJ md (1 ≤ y) ob).bind fun ob1 => some (((x % y : Nat) : Int), ob1) | _, _ => none)
  else (fJ md (0 ≤ a ∧ 1 ≤ b) ob).bind fun ob1 => some (a % b, ob1)
 | _ => none
theorem nP {α : Type} {ob' : List Prop} {x : Option (List Prop)} {r r' : α} (h : (x.bind fun ob1 => some (r, ob1)) = some (r', ob')) : x = some ob' ∧ r' = r := by
 rw [Option.bind_eq_some_iff] at h;obtain ⟨ob1, h1, h2⟩ := h;cases h2;exact ⟨h1, rfl⟩
theorem aDq {op : BinOp} {tx ty : TypeId} {x y : Operand} {d : Nat} {a b r : Int} {ob' : List Prop} (ho : o.op = .binOp op tx x y ty) (hd : o.dst = some d) (hdn : d < n) (hx : opv st x = some (I .i64 a)) (hy : opv st y = some (I .i64 b)) (h : arith md nat op a b ob = some (r, ob')) :
  gF ob' → gF ob ∧ Step P n o st ⟨opr x ++ opr y, []⟩ ⟨some (d, some (I .i64 r)), []⟩ := by
 intro hc;unfold arith at h;cases nat <;> cases op <;> simp only [cond_true, cond_false] at h <;> try (cases h; done)
 ·obtain ⟨h1, rfl⟩ := nP h; obtain ⟨g, k⟩ := aS h1 hc; exact ⟨g, aHa ho hd hdn hx hy k⟩
 ·obtain ⟨h1, rfl⟩ := nP h; obtain ⟨g, k⟩ := aS h1 hc; exact ⟨g, aGt ho hd hdn hx hy k⟩
 ·obtain ⟨h1, rfl⟩ := nP h; obtain ⟨g, k⟩ := aS h1 hc; exact ⟨g, aG4 ho hd hdn hx hy k⟩
 ·obtain ⟨h1, rfl⟩ := nP h; obtain ⟨g, k⟩ := aS h1 hc; exact ⟨g, aD2 ho hd hdn hx hy k⟩
 ·obtain ⟨h1, rfl⟩ := nP h; obtain ⟨g, k⟩ := aS h1 hc; exact ⟨g, aD1 ho hd hdn hx hy k⟩
 all_goals cases a <;> cases b <;> simp only at h <;> try (cases h; done)
 ·obtain ⟨h1, rfl⟩ := nP h; obtain ⟨g, k⟩ := aS h1 hc; exact ⟨g, aG9 ho hd hdn hx hy k⟩
 ·obtain ⟨h1, rfl⟩ := nP h; obtain ⟨g, k⟩ := aS h1 hc; exact ⟨g, aGs ho hd hdn hx hy k⟩
 ·obtain ⟨h1, rfl⟩ := nP h; obtain ⟨g, k⟩ := aS h1 hc; exact ⟨g, aG3 ho hd hdn hx hy k⟩
 ·obtain ⟨h1, rfl⟩ := nP h; obtain ⟨g, k⟩ := aS h1 hc; exact ⟨g, aG0 ho hd hdn hx hy k⟩
 ·obtain ⟨h1, rfl⟩ := nP h; obtain ⟨g, k⟩ := aS h1 hc; exact ⟨g, aGz ho hd hdn hx hy k⟩
def aI5 (op : BinOp) (a b : Int) : Option Bool := match op with
 | .lss => some (decide (a < b))
 | .leq => some (decide (a ≤ b))
 | .gtr => some (decide (b < a))
 | .geq => some (decide (b ≤ a))
 | .eql => some (decide (a = b))
 | .neq => some (!decide (a = b))
 | _ => none
theorem aFw {op : BinOp} {tx ty : TypeId} {x y : Operand} {d : Nat} {k : IntKind} {a b : Int} {r : Bool} (ho : o.op = .binOp op tx x y ty) (hd : o.dst = some d) (hdn : d < n) (hx : opv st x = some (I k a)) (hy : opv st y = some (I k b)) (h : aI5 op a b = some r) :
  Step P n o st ⟨opr x ++ opr y, []⟩ ⟨some (d, some (B r)), []⟩ := by
 unfold aI5 at h;cases op <;> simp only at h <;> try (cases h; done)
 ·cases h; exact aIt ho hd hdn hx hy
 ·cases h; exact aIl ho hd hdn hx hy
 ·cases h; exact aIp ho hd hdn hx hy
 ·cases h; exact aIq ho hd hdn hx hy
 ·cases h; exact aIr ho hd hdn hx hy
 ·cases h; exact aIs ho hd hdn hx hy
def aEt (op : BinOp) (k : IntKind) (a b : Int) : Option Int := match op with
 | .add => some (k.wrap (a + b))
 | .sub => some (k.wrap (a - b))
 | .mul => some (k.wrap (a * b))
 | _ => none
theorem aB0 {op : BinOp} {tx ty : TypeId} {x y : Operand} {d : Nat} {k : IntKind} {a b r : Int} (ho : o.op = .binOp op tx x y ty) (hd : o.dst = some d) (hdn : d < n) (hx : opv st x = some (I k a)) (hy : opv st y = some (I k b)) (h : aEt op k a b = some r) :
  Step P n o st ⟨opr x ++ opr y, []⟩ ⟨some (d, some (I k r)), []⟩ := by
 unfold aEt at h;cases op <;> simp only at h <;> try (cases h; done)
 ·cases h; exact aFd ho hd hdn hx hy rfl
 ·cases h; exact aE1 ho hd hdn hx hy rfl
 ·cases h; exact aE4 ho hd hdn hx hy rfl
def aFn : IntKind → Bool
 | .i64 => true
 | _ => false
def aH6 (tr : Tr) (md nat : Bool) (o : Oper) (n : Nat) (st : St) (ob : List Prop) (op : BinOp) (tx : TypeId) (x y : Operand) : Ans := (opO st x).bind fun v => (opO st y).bind fun u => match v, u with
 | .one (.c (.int k a)), .one (.c (.int k' b)) => bif decide (k = k') then (match aI5 op a b with
   | some r => val o n ⟨opr x ++ opr y, []⟩ (.one (.c (.bool r))) [] ob
   | none => bif aFn k then (arith md nat op a b ob).bind fun (r, ob1) => val o n ⟨opr x ++ opr y, []⟩ (.one (.c (.int .i64 r))) [] ob1
    else (aEt op k a b).bind fun r => val o n ⟨opr x ++ opr y, []⟩ (.one (.c (.int k r))) [] ob) else none
 | .one (.c (.str a)), .one (.c (.str b)) => match op with
  | .eql => val o n ⟨opr x ++ opr y, []⟩ (.one (.c (.bool (decide (a = b))))) [] ob
  | .neq => val o n ⟨opr x ++ opr y, []⟩ (.one (.c (.bool (!decide (a = b))))) [] ob
  | .lss => val o n ⟨opr x ++ opr y, []⟩ (.one (.c (.bool (Op.bytesLess a b)))) [] ob
  | .add => (fJ md (a.length + b.length ≤ maxLen) ob).bind fun ob1 => val o n ⟨opr x ++ opr y, []⟩ (.one (.c (.str (a ++ b)))) [] ob1
  | _ => none
 | .one (.c (.bool a)), .one (.c (.bool b)) => (tr.get tx).bind fun i => match i.k with
  | .bool => match op with
   | .eql => val o n ⟨opr x ++ opr y, []⟩ (.one (.c (.bool (a == b)))) [] ob
   | .neq => val o n ⟨opr x ++ opr y, []⟩ (.one (.c (.bool (!(a == b))))) [] ob
   | _ => none
  | _ => none
 | v, .one (.c .np) => (tr.get tx).bind fun i => match i.k with
  | .pt _ => (qW v).bind fun b => match op with
   | .eql => val o n ⟨opr x ++ opr y, []⟩ (.one (.c (.bool b))) [] ob
   | .neq => val o n ⟨opr x ++ opr y, []⟩ (.one (.c (.bool (!b)))) [] ob
   | _ => none
  | _ => none
 | v, .one (.c .nl) => (tr.get tx).bind fun i => match i.k with
  | .sl _ => (aB7 v).bind fun b => match op with
   | .eql => val o n ⟨opr x ++ opr y, []⟩ (.one (.c (.bool b))) [] ob
   | _ => none
  | _ => none
 | _, _ => none
theorem aDp {op : BinOp} {tx ty : TypeId} {x y : Operand} (hw : tr.wf = true) (hT : Tok P tr.flat) (ho : o.op = .binOp op tx x y ty) : Snd P n o st ob (aH6 tr md nat o n st ob op tx x y) := by
 refine Snd.bind fun v hv => Snd.bind fun u hu => ?_
 rw [bY] at hv hu;split
 ·rename_i k a k' b;refine Snd.cond fun hk => ?_
  have hk' := of_decide_eq_true hk;subst hk';split
  ·rename_i r hr;exact Snd.val fun _ hd hdn hc => ⟨hc, aFw ho hd hdn hv hu hr⟩
  ·cases hi : aFn k with
   | true =>
    simp only [cond_true];cases k <;> simp only [aFn] at hi <;> try (cases hi; done)
    refine Snd.bind fun p hp => ?_
    obtain ⟨r, ob1⟩ := p;exact Snd.val fun _ hd hdn hc => aDq ho hd hdn hv hu hp hc
   | false =>
    simp only [cond_false];exact Snd.bind fun r hr => Snd.val fun _ hd hdn hc => ⟨hc, aB0 ho hd hdn hv hu hr⟩
 ·split
  ·exact Snd.val fun _ hd hdn hc => ⟨hc, aGw ho hd hdn hv hu⟩
  ·exact Snd.val fun _ hd hdn hc => ⟨hc, aGu ho hd hdn hv hu⟩
  ·exact Snd.val fun _ hd hdn hc => ⟨hc, aGv ho hd hdn hv hu⟩
  ·exact Snd.bind fun ob1 h1 => Snd.val fun _ hd hdn hc => ⟨(aS h1 hc).1, aGy ho hd hdn hv hu (aS h1 hc).2⟩
  ·exact Snd.none
 ·refine Snd.bind fun i hi => ?_
  replace hi := Tr.get_ok hw hi
  split
  ·rename_i hk;split
   ·exact Snd.val fun _ hd hdn hc => ⟨hc, aG8 hT ho hd hdn hi hk hv hu⟩
   ·exact Snd.val fun _ hd hdn hc => ⟨hc, aG7 hT ho hd hdn hi hk hv hu⟩
   ·exact Snd.none
  ·exact Snd.none
 ·refine Snd.bind fun i hi => ?_
  replace hi := Tr.get_ok hw hi
  split
  ·rename_i hk;refine Snd.bind fun b hb => ?_
   split
   ·exact Snd.val fun _ hd hdn hc => ⟨hc, aG2 hT ho hd hdn hi hk hv hb hu⟩
   ·exact Snd.val fun _ hd hdn hc => ⟨hc, aG1 hT ho hd hdn hi hk hv hb hu⟩
   ·exact Snd.none
  ·exact Snd.none
 ·refine Snd.bind fun i hi => ?_
  replace hi := Tr.get_ok hw hi
  split
  ·rename_i hk;refine Snd.bind fun b hb => ?_
   split
   ·exact Snd.val fun _ hd hdn hc => ⟨hc, aE3 hT ho hd hdn hi hk hv hb hu⟩
   ·exact Snd.none
  ·exact Snd.none
 ·exact Snd.none
def aJi (md : Bool) (o : Oper) (n : Nat) (st : St) (ob : List Prop) (op : UnOp) (x : Operand) : Ans := (opO st x).bind fun v => match v with
 | .one (.c (.bool b)) => match op with
  | .not => val o n ⟨opr x, []⟩ (.one (.c (.bool (!b)))) [] ob
  | _ => none
 | .one (.c (.int .i64 a)) => match op with
  | .neg => (fJ md (-9223372036854775808 ≤ 0 - a ∧ 0 - a ≤ 9223372036854775807) ob).bind fun ob1 => val o n ⟨opr x, []⟩ (.one (.c (.int .i64 (0 - a)))) [] ob1
  | _ => none
 | _ => none
theorem aF4 {op : UnOp} {t : TypeId} {x : Operand} (ho : o.op = .unOp op t x) : Snd P n o st ob (aJi md o n st ob op x) := by
 refine Snd.bind fun v hv => ?_
 rw [bY] at hv;split
 ·split
  ·exact Snd.val fun _ hd hdn hc => ⟨hc, aIk ho hd hdn hv⟩
  ·exact Snd.none
 ·split
  ·exact Snd.bind fun ob1 h1 => Snd.val fun _ hd hdn hc => ⟨(aS h1 hc).1, aIm ho hd hdn hv (IntWalk.i64_in _ (aS h1 hc).2)⟩
  ·exact Snd.none
 ·exact Snd.none
def aH4 (tr : Tr) (md : Bool) (o : Oper) (n : Nat) (st : St) (ob : List Prop) (x : Operand) (t : TypeId) : Ans := (tr.get t).bind fun i => (opO st x).bind fun v => match i.k with
 | .sl _ => match v with
  | .one (.c (.sl _ l)) => val o n ⟨opr x, []⟩ (.one (.c (.int .i64 ((l.length : Nat) : Int)))) [] ob
  | .one (.c .nl) => val o n ⟨opr x, []⟩ (.one (.c (.int .i64 0))) [] ob
  | .one (.ras n' _ _) => val o n ⟨opr x, []⟩ (.one (.c (.int .i64 ((n' : Nat) : Int)))) [] ob
  | .one (.hs id _ len sz) => match st.h id with
   | some (.arr _ _ elems _) => (fJ md (sz = elems.length) ob).bind fun ob1 => val o n ⟨opr x, [id]⟩ (.one (.c (.int .i64 ((len : Nat) : Int)))) [] ob1
   | _ => none
  | .one (.ra id _ len sz) => match st.h id with
   | some (.rarr _ _ elems) => (fJ md (sz = elems.length) ob).bind fun ob1 => val o n ⟨opr x, [id]⟩ (.one (.c (.int .i64 ((len : Nat) : Int)))) [] ob1
   | _ => none
  | _ => none
 | .str => match v with
  | .one (.c (.str s)) => val o n ⟨opr x, []⟩ (.one (.c (.int .i64 ((s.length : Nat) : Int)))) [] ob
  | _ => none
 | .mp _ _ => match v with
  | .one (.mr id) => match st.h id with
   | some (.map _ ents) => (fJ md (i4 ents) ob).bind fun ob1 => val o n ⟨opr x, [id]⟩ (.one (.c (.int .i64 ((ents.length : Nat) : Int)))) [] ob1
   | _ => none
  | _ => none
 | _ => none
theorem aDl {x : Operand} {t : TypeId} (hw : tr.wf = true) (hT : Tok P tr.flat) (ho : o.op = .call { callee := .builtin .len, args := #[x], argTypes := #[t] }) : Snd P n o st ob (aH4 tr md o n st ob x t) := by
 refine Snd.bind fun i hi => Snd.bind fun v hv => ?_
 replace hi := Tr.get_ok hw hi
 rw [bY] at hv;split
 ·rename_i hk;split
  ·exact Snd.val fun _ hd hdn hc => ⟨hc, aCg hT ho hd hdn hi hk hv⟩
  ·exact Snd.val fun _ hd hdn hc => ⟨hc, aCi hT ho hd hdn hi hk hv⟩
  ·exact Snd.val fun _ hd hdn hc => ⟨hc, zC hT ho hd hdn hi hk hv⟩
  ·split
   ·rename_i hh;exact Snd.bind fun ob1 h1 => Snd.val fun _ hd hdn hc => ⟨(aS h1 hc).1, aCj hT ho hd hdn hi hk hv hh (aS h1 hc).2⟩
   ·exact Snd.none
  ·split
   ·rename_i hh;exact Snd.bind fun ob1 h1 => Snd.val fun _ hd hdn hc => ⟨(aS h1 hc).1, aCh hT ho hd hdn hi hk hv hh (aS h1 hc).2⟩
   ·exact Snd.none
  ·exact Snd.none
 ·rename_i hk;split
  ·exact Snd.val fun _ hd hdn hc => ⟨hc, zB hT ho hd hdn hi hk hv⟩
  ·exact Snd.none
 ·rename_i hk;split
  ·split
   ·rename_i hh;exact Snd.bind fun ob1 h1 => Snd.val fun _ hd hdn hc => ⟨(aS h1 hc).1, zD hT ho hd hdn hi hk hv hh (aS h1 hc).2⟩
   ·exact Snd.none
  ·exact Snd.none
 ·exact Snd.none
def aH9 (md : Bool) (st : St) (es : Nat) (hn : Hn) (v : V) (ob : List Prop) : Option (List Nat × List (List C) × List Prop) := match v with
 | .one (.hs id off len sz) => match st.h id with
  | some (.arr _ es' elems _) => bif Nat.beq es' es then (fJ md (sz = elems.length) ob).bind fun ob1 => (match hn with
   | .all => some ([id], elems, (off = 0 ∧ len = sz) :: ob1)
   | .c rows => some ([id], rows, (rows = (elems.drop off).take len) :: ob1)
   | _ => bif Nat.beq off 0 && Nat.beq len sz then some ([id], elems, ob1) else some ([id], (elems.drop off).take len, ob1)) else none
  | _ => none
 | .one (.c (.sl es' l)) => bif Nat.beq es' es then some ([], l, ob) else none
 | .one (.c (.sn es' l)) => bif Nat.beq es' es then some ([], l, ob) else none
 | .one (.c .nl) => some ([], [], ob)
 | _ => none
theorem oZ {es : Nat} {hn : Hn} {v : V} {ids : List Nat} {rows : List (List C)} {ob' : List Prop} (h : aH9 md st es hn v ob = some (ids, rows, ob')) : gF ob' → gF ob ∧ Src st es ids v rows := by
 intro hc;unfold aH9 at h;split at h
 ·rename_i id off len sz;split at h
  ·rename_i te es' elems fz hh;obtain ⟨h1, h'⟩ := dC h;clear h;have := eq_of_beq_eq_true h1;subst this;rw [Option.bind_eq_some_iff] at h';obtain ⟨ob1, h2, h⟩ := h';split at h
   ·cases h;obtain ⟨⟨rfl, rfl⟩, hc⟩ := hc;obtain ⟨g, k⟩ := aS h2 hc;exact ⟨g, .all hh k⟩
   ·cases h;obtain ⟨k1, hc⟩ := hc;obtain ⟨g, k⟩ := aS h2 hc;exact ⟨g, .hs hh k k1⟩
   ·cases hb : Nat.beq off 0 && Nat.beq len sz with
    | true =>
     rw [hb] at h;cases h;obtain ⟨g, k⟩ := aS h2 hc;simp only [Bool.and_eq_true] at hb;have e1 := eq_of_beq_eq_true hb.1;have e2 := eq_of_beq_eq_true hb.2;subst e1 e2;exact ⟨g, .all hh k⟩
    | false =>
     rw [hb] at h;cases h;obtain ⟨g, k⟩ := aS h2 hc;exact ⟨g, .hs hh k rfl⟩
  ·cases h
 ·obtain ⟨h1, h'⟩ := dC h;clear h;have := eq_of_beq_eq_true h1;subst this;cases h';exact ⟨hc, .sl⟩
 ·obtain ⟨h1, h'⟩ := dC h;clear h;have := eq_of_beq_eq_true h1;subst this;cases h';exact ⟨hc, .sn⟩
 ·cases h; exact ⟨hc, .nl⟩
 ·cases h
def sU : List (List C) → Option (List Int)
 | [] => some []
 | [.int .u8 m] :: rs => (sU rs).bind fun l => some (m :: l)
 | _ => none
theorem sT : ∀ {rows : List (List C)} {ns : List Int}, sU rows = some ns → rows = ns.map fun m => [C.int .u8 m]
 | [], ns, h => by simp [sU] at h; subst h; rfl
 | [.int .u8 m] :: rs, ns, h => by
  simp only [sU, Option.bind_eq_some_iff] at h;obtain ⟨l, h1, h2⟩ := h;cases h2;rw [sT h1]; rfl
def aEo (tr : Tr) (md : Bool) (o : Oper) (n : Nat) (st : St) (ob : List Prop) (hn : Hn) (src dst : TypeId) (x : Operand) : Ans := (tr.get src).bind fun i => (tr.get dst).bind fun j => (opO st x).bind fun v => match j.k with
 | .int k' => match i.k, v with
  | .int k, .one (.c (.int k2 m)) => bif decide (k2 = k) then val o n ⟨opr x, []⟩ (.one (.c (.int k' (k'.wrap m)))) [] ob else none
  | _, _ => none
 | .str => match i.k with
  | .sl e => (tr.get e).bind fun ei => match ei.k with
   | .int .u8 => (aH9 md st 1 hn v ob).bind fun (ids, rows, ob1) => (sU rows).bind fun ns => (frc (ns.map fun m => UInt8.ofNat m.toNat)).bind fun bs => val o n ⟨opr x, ids⟩ (.one (.c (.str bs))) [] ob1
   | _ => none
  | _ => none
 | _ => none
theorem aBh {hn : Hn} {src dst : TypeId} {x : Operand} (hw : tr.wf = true) (hT : Tok P tr.flat) (ho : o.op = .convert src dst x) : Snd P n o st ob (aEo tr md o n st ob hn src dst x) := by
 refine Snd.bind fun i hi => Snd.bind fun j hj => Snd.bind fun v hv => ?_
 replace hi := Tr.get_ok hw hi
 replace hj := Tr.get_ok hw hj
 rw [bY] at hv;split
 ·rename_i k' hjk;split
  ·rename_i k k2 m hik;refine Snd.cond fun hk => ?_
   have := of_decide_eq_true hk;subst this;exact Snd.val fun _ hd hdn hc => ⟨hc, aE7 hT ho hd hdn hi hik hj hjk hv⟩
  ·exact Snd.none
 ·rename_i hjk;split
  ·rename_i e hik;refine Snd.bind fun ei hei => ?_
   replace hei := Tr.get_ok hw hei
   split
   ·rename_i hek;refine Snd.bind fun p hp => ?_
    obtain ⟨ids, rows, ob1⟩ := p;refine Snd.bind fun ns hns => Snd.bind fun bs hbs => Snd.val fun _ hd hdn hc => ?_
    rw [i0] at hbs;cases hbs;obtain ⟨g1, g2⟩ := oZ hp hc;exact ⟨g1, aE8 hT ho hd hdn hi hik hei hek hj hjk hv g2 (sT hns)⟩
   ·exact Snd.none
  ·exact Snd.none
 ·exact Snd.none
def aJf (md : Bool) (a b : List (List C)) : Option (List (List C)) := bif md then some (a ++ b) else frc (a ++ b)
theorem aFx (md : Bool) (a b : List (List C)) : aJf md a b = some (a ++ b) := by
 cases md
 ·exact i0 _
 ·rfl
def wU (tr : Tr) (md : Bool) (o : Oper) (n : Nat) (st : St) (ob : List Prop) (hn : Hn) (id0 : Nat) (x y : Operand) (t : TypeId) : Ans := (tr.get t).bind fun i => match i.k with
 | .sl e => (tr.get e).bind fun ei => match ei with
  | ⟨_, s0, b0, _⟩ => bif Nat.ble 1 s0 && Nat.ble 1 b0 then (opO st x).bind fun v => (opO st y).bind fun u => (aH9 md st s0 hn u ob).bind fun (ids, rows, ob1) => (match v with
  | .one (.hs id off len sz) => match st.h id with
   | some (.arr te es elems fz) => bif Nat.beq te e && Nat.beq es s0 then (fJ md (sz = elems.length) ob1).bind fun ob2 => (fJ md (off = 0 ∧ len = sz) ob2).bind fun ob3 => (fJ md ((elems.length + rows.length) * b0 ≤ 140737488355328) ob3).bind fun ob4 =>
     (aJf md elems rows).bind fun l => match fz with
     | 0 => val o n ⟨opr x ++ opr y, id :: ids⟩ (.one (.hs id 0 (elems.length + rows.length) (elems.length + rows.length))) [(id, some (.arr e s0 l 0))] ob4
     | _ + 1 => val o n ⟨opr x ++ opr y, id :: ids⟩ (.one (.hs id 0 (elems.length + rows.length) (elems.length + rows.length))) [(id, some (.arr e s0 l 1))] ob4
    else none
   | _ => none
  | .one (.c .nl) => match st.h id0 with
   | none => (fJ md (rows.length * b0 ≤ 140737488355328) ob1).bind fun ob2 => val o n ⟨opr x ++ opr y, id0 :: ids⟩ (.one (.hs id0 0 rows.length rows.length)) [(id0, some (.arr e s0 rows 0))] ob2
   | some _ => none
  | _ => none) else none
 | _ => none
theorem uU {hn : Hn} {id0 : Nat} {x y : Operand} {t : TypeId} (hw : tr.wf = true) (hT : Tok P tr.flat) (ho : o.op = .call { callee := .builtin .append, args := #[x, y], argTypes := #[t, t] }) : Snd P n o st ob (wU tr md o n st ob hn id0 x y t) := by
 refine Snd.bind fun i hi => ?_
 replace hi := Tr.get_ok hw hi
 split
 ·rename_i e hk;refine Snd.bind fun ei hei => ?_
  obtain ⟨k0, s0, b0, z0⟩ := ei;refine Snd.cond fun hb => Snd.bind fun v hv => Snd.bind fun u hu => Snd.bind fun p hp => ?_
  replace hei := Tr.get_ok hw hei
  obtain ⟨ids, rows, ob1⟩ := p;simp only [Bool.and_eq_true] at hb;rw [bY] at hv hu;dsimp only;split
  ·rename_i id off len sz;split
   ·rename_i te es elems fz hh;refine Snd.cond fun hte => Snd.bind fun ob2 h2 => Snd.bind fun ob3 h3 => Snd.bind fun ob4 h4 => Snd.bind fun l hl => ?_
    simp only [Bool.and_eq_true] at hte;have e1 := eq_of_beq_eq_true hte.1;have e2 := eq_of_beq_eq_true hte.2;subst e1 e2;rw [aFx] at hl;cases hl;split
    ·refine Snd.val fun _ hd hdn hc => ?_
     obtain ⟨g1, g2⟩ := aS h4 hc;obtain ⟨g3, g4, g5⟩ := aS h3 g1;obtain ⟨g6, g7⟩ := aS h2 g3;obtain ⟨g8, g9⟩ := oZ hp g6;subst g4 g5;exact ⟨g8, vK hT ho hd hdn hi hk hei hb.1 hb.2 hv hh g7 hu g9 g2⟩
    ·refine Snd.val fun _ hd hdn hc => ?_
     obtain ⟨g1, g2⟩ := aS h4 hc;obtain ⟨g3, g4, g5⟩ := aS h3 g1;obtain ⟨g6, g7⟩ := aS h2 g3;obtain ⟨g8, g9⟩ := oZ hp g6;subst g4 g5;exact ⟨g8, vK hT ho hd hdn hi hk hei hb.1 hb.2 hv hh g7 hu g9 g2⟩
   ·exact Snd.none
  ·split
   ·rename_i hid;refine Snd.bind fun ob2 h2 => Snd.val fun _ hd hdn hc => ?_
    obtain ⟨g1, g2⟩ := aS h2 hc;obtain ⟨g3, g4⟩ := oZ hp g1;exact ⟨g3, zH id0 hT ho hd hdn hi hk hei hb.1 hb.2 hv hid hu g4 g2⟩
   ·exact Snd.none
  ·exact Snd.none
 ·exact Snd.none
def tE (tr : Tr) (md : Bool) (o : Oper) (n : Nat) (st : St) (ob : List Prop) (id0 : Nat) (x y : Operand) (t : TypeId) : Ans := (tr.get t).bind fun i => match i.k with
 | .sl e => (tr.get e).bind fun ei => match ei with
  | ⟨_, s0, b0, _⟩ => bif Nat.ble 1 s0 && Nat.ble 1 b0 then (opO st x).bind fun v => (opO st y).bind fun u => match u with
  | .one (.ra id2 off2 len2 sz2) => match st.h id2 with
   | some (.rarr _ es2 rows) => bif Nat.beq es2 s0 && (Nat.beq off2 0 && (Nat.beq len2 rows.length && (Nat.beq sz2 rows.length && Nat.blt 0 rows.length))) then (match v with
    | .one (.ra id off len sz) => match st.h id with
     | some (.rarr te es elems) => bif Nat.beq te e && Nat.beq es s0 then (fJ md (sz = elems.length) ob).bind fun ob2 => (fJ md (off = 0 ∧ len = sz) ob2).bind fun ob3 => (fJ md ((elems.length + rows.length) * b0 ≤ 140737488355328) ob3).bind fun ob4 =>
       val o n ⟨opr x ++ opr y, [id, id2]⟩ (.one (.ra id 0 (elems.length + rows.length) (elems.length + rows.length))) [(id, some (.rarr e s0 (elems ++ rows)))] ob4 else none
     | _ => none
    | .one (.c .nl) => match st.h id0 with
     | none => (fJ md (rows.length * b0 ≤ 140737488355328) ob).bind fun ob2 => val o n ⟨opr x ++ opr y, [id0, id2]⟩ (.one (.ra id0 0 rows.length rows.length)) [(id0, some (.rarr e s0 rows))] ob2
     | some _ => none
    | _ => none) else none
   | _ => none
  | _ => none
  else none
 | _ => none
theorem tD {id0 : Nat} {x y : Operand} {t : TypeId} (hw : tr.wf = true) (hT : Tok P tr.flat) (ho : o.op = .call { callee := .builtin .append, args := #[x, y], argTypes := #[t, t] }) : Snd P n o st ob (tE tr md o n st ob id0 x y t) := by
 refine Snd.bind fun i hi => ?_
 replace hi := Tr.get_ok hw hi
 split
 ·rename_i e hk;refine Snd.bind fun ei hei => ?_
  obtain ⟨k0, s0, b0, z0⟩ := ei;refine Snd.cond fun hb => Snd.bind fun v hv => Snd.bind fun u hu => ?_
  replace hei := Tr.get_ok hw hei
  simp only [Bool.and_eq_true] at hb;rw [bY] at hv hu;split
  ·rename_i id2 off2 len2 sz2;split
   ·rename_i te2 es2 rows hh2;refine Snd.cond fun hc2 => ?_
    simp only [Bool.and_eq_true] at hc2;obtain ⟨c1, c2, c3, c4, c5⟩ := hc2;have c1 := eq_of_beq_eq_true c1;have c2 := eq_of_beq_eq_true c2;have c3 := eq_of_beq_eq_true c3;have c4 := eq_of_beq_eq_true c4;have c5 := lK c5;subst c1 c2 c3 c4;split
    ·rename_i id off len sz;split
     ·rename_i te es elems hh;refine Snd.cond fun hte => Snd.bind fun ob2 h2 => Snd.bind fun ob3 h3 => Snd.bind fun ob4 h4 => Snd.val fun _ hd hdn hc => ?_
      simp only [Bool.and_eq_true] at hte;have e1 := eq_of_beq_eq_true hte.1;have e2 := eq_of_beq_eq_true hte.2;subst e1;rw [e2] at hh;obtain ⟨g1, g2⟩ := aS h4 hc;obtain ⟨g3, g4, g5⟩ := aS h3 g1;obtain ⟨g6, g7⟩ := aS h2 g3;subst g4 g5;exact ⟨g6, zG hT ho hd hdn hi hk hei hb.1 hb.2 hv hh g7 hu hh2 c5 g2⟩
     ·exact Snd.none
    ·split
     ·rename_i hid;refine Snd.bind fun ob2 h2 => Snd.val fun _ hd hdn hc => ?_
      obtain ⟨g1, g2⟩ := aS h2 hc;exact ⟨g1, xM id0 hT ho hd hdn hi hk hei hb.1 hb.2 hv hid hu hh2 c5 g2⟩
     ·exact Snd.none
    ·exact Snd.none
   ·exact Snd.none
  ·exact Snd.none
 ·exact Snd.none
def aIb (P : Program) (f : FuncId) : Bool := match P.funcs[f]? with
 | some fn => !(fn.name == "runtime.NumGoroutine") && fn.body.isSome
 | none => false
theorem aGg {P : Program} {f : FuncId} (h : aIb P f = true) : kC P f := by
 unfold aIb at h;split at h
 ·rename_i fn hf;simp only [Bool.and_eq_true, Bool.not_eq_true'] at h;refine ⟨fn, hf, h.1, ?_⟩;cases hb : fn.body with
  | none => rw [hb] at h; cases h.2
  | some _ => rfl
 ·cases h
def aDt (P : Program) (f : FuncId) (args : List V) (res : V) : Prop := aIb P f = true ∧ bN P f args [] res []
def mL (st : St) : List Nat → List R → List Prop → Option (List Nat × List C × List Prop)
 | _, [], ob => some ([], [], ob)
 | ty, r :: rs, ob => match r with
  | .c x => (yM ty [x]).bind fun y => match y with
   | [y] => (mL st ty.tail rs ob).bind fun (ids, cs, ob1) => some (ids, y :: cs, ob1)
   | _ => none
  | .hs id 0 len sz => match st.h id with
   | some (.arr _ es elems 2) => (mL st ty.tail rs ob).bind fun (ids, cs, ob1) => some (id :: ids, .sl es elems :: cs, (sz = elems.length ∧ len = elems.length) :: ob1)
   | _ => none
  | _ => none
theorem jQ {st : St} : ∀ {rs : List R} {ty : List Nat} {ob ob' : List Prop} {ids : List Nat} {cs : List C}, mL st ty rs ob = some (ids, cs, ob') → gF ob' → gF ob ∧ PureL st.h ids rs cs
 | [], ty, ob, ob', ids, cs, h, hc => by
  cases ty <;> (simp only [mL] at h; cases h; exact ⟨hc, .nil⟩)
 | r :: rs, ty, ob, ob', ids, cs, h, hc => by
  rw [mL.eq_def] at h;dsimp only at h;split at h
  ·rename_i x;rw [Option.bind_eq_some_iff] at h;obtain ⟨y, hy, h⟩ := h;split at h
   ·rename_i y';rw [Option.bind_eq_some_iff] at h;obtain ⟨⟨ids1, cs1, ob1⟩, h1, h2⟩ := h;cases h2;obtain ⟨g1, g2⟩ := jQ h1 hc;rw [mQ] at hy;have hp := iV (h := st.h) ty [x];rw [Option.some.inj hy] at hp;cases hp with
    | c hx _ => exact ⟨g1, .c hx g2⟩
    | any _ => exact ⟨g1, .any g2⟩
   ·cases h
  ·rename_i id len sz;split at h
   ·rename_i te es elems hh;rw [Option.bind_eq_some_iff] at h;obtain ⟨⟨ids1, cs1, ob1⟩, h1, h2⟩ := h;cases h2;obtain ⟨g1, g2⟩ := jQ h1 hc.2;exact ⟨g1, .hs hh hc.1.1 (by rw [hc.1.2, drop_zero, take_length]) g2⟩
   ·cases h
  ·cases h
def aFu (tr : Tr) (st : St) (v : V) (t : TypeId) (ob : List Prop) : Option (List Nat × V × List Prop) := match v with
 | .one r => (mL st (kB tr 300 [t]) [r] ob).bind fun (ids, cs, ob1) => match cs with
  | [c] => some (ids, .one (.c c), ob1)
  | _ => none
 | .pa l => (yM (kB tr 300 [t]) l).bind fun l' => some ([], .pa l', ob)
 | .ma rs => (mL st (kB tr 300 [t]) rs ob).bind fun (ids, cs, ob1) => some (ids, .pa cs, ob1)
 | _ => none
theorem aC7 {tr : Tr} {st : St} {v v' : V} {t : TypeId} {ob ob' : List Prop} {ids : List Nat} (h : aFu tr st v t ob = some (ids, v', ob')) (hc : gF ob') : (gF ob ∧ Conv st.h ids v v') ∧ v'.refs = [] := by
 unfold aFu at h;split at h
 ·rw [Option.bind_eq_some_iff] at h;obtain ⟨⟨ids1, cs1, ob1⟩, h1, h2⟩ := h;dsimp only at h2;split at h2
  ·cases h2;obtain ⟨g1, g2⟩ := jQ h1 hc;exact ⟨⟨g1, .one g2⟩, by simp [V.refs, R.refs]⟩
  ·cases h2
 ·rw [Option.bind_eq_some_iff] at h;obtain ⟨l', h1, h2⟩ := h;cases h2;rw [mQ] at h1;cases h1;exact ⟨⟨hc, .pa (iV _ _)⟩, by simp [V.refs]⟩
 ·rw [Option.bind_eq_some_iff] at h;obtain ⟨⟨ids1, cs1, ob1⟩, h1, h2⟩ := h;cases h2;obtain ⟨g1, g2⟩ := jQ h1 hc;exact ⟨⟨g1, .agg g2⟩, by simp [V.refs]⟩
 ·cases h
def yH (tr : Tr) (st : St) : List Operand → List TypeId → List Prop → Option (List Nat × List V × List Prop)
 | [], _, ob => some ([], [], ob)
 | x :: xs, t :: ts, ob => (opO st x).bind fun v => (aFu tr st v t ob).bind fun (ids1, v', ob1) => (yH tr st xs ts ob1).bind fun (ids2, vs, ob2) => some (ids1 ++ ids2, v' :: vs, ob2)
 | _ :: _, [], _ => none
theorem wW {tr : Tr} {st : St} : ∀ {xs : List Operand} {ts : List TypeId} {ob ob' : List Prop} {ids : List Nat} {l : List V}, yH tr st xs ts ob = some (ids, l, ob') → gF ob' → (gF ob ∧ ArgsV st ids xs l) ∧ V.refsL l = []
 | [], ts, ob, ob', ids, l, h, hc => by
  cases ts <;> (simp only [yH] at h; cases h; exact ⟨⟨hc, .nil⟩, by simp [V.refsL]⟩)
 | x :: xs, [], ob, ob', ids, l, h, hc => by simp [yH] at h
 | x :: xs, t :: ts, ob, ob', ids, l, h, hc => by
  simp only [yH, bY, Option.bind_eq_some_iff] at h;obtain ⟨v, hv, ⟨ids1, v', ob1⟩, h1, ⟨ids2, vs, ob2⟩, h2, h3⟩ := h;cases h3;obtain ⟨⟨g1, g2⟩, g3⟩ := wW h2 hc;obtain ⟨⟨k1, k2⟩, k3⟩ := aC7 h1 g1;exact ⟨⟨k1, .cons hv k2 g2⟩, by simp [V.refsL, k3, g3]⟩
def aEk (P : Program) (tr : Tr) (o : Oper) (n : Nat) (st : St) (ob : List Prop) (res : V) (f : FuncId) (xs : Array Operand) (ts : Array TypeId) : Ans := (yH tr st xs.toList ts.toList ob).bind fun (ids, args, ob1) => val o n ⟨cG xs.toList, ids⟩ res [] (aDt P f args res :: ob1)
theorem aA8 {res : V} {f : FuncId} {xs : Array Operand} {ts : Array TypeId} (ho : o.op = .call { callee := .value (.func f), args := xs, argTypes := ts }) : Snd P n o st ob (aEk P tr o n st ob res f xs ts) := by
 refine Snd.bind fun p ha => ?_
 obtain ⟨ids, args, ob1⟩ := p;refine Snd.val fun d hd hdn hc => ?_
 obtain ⟨⟨g1, g2⟩, g3⟩ := wW ha hc.2;refine ⟨g1, ?_⟩;have := zF [] [] (aGg hc.1.1) ho hd hdn hc.1.2 g2 trivial trivial (by simp [callOk, g3, keys, eS, subset]);simpa [outs, keys] using this
def aBj (P : Program) (tr : Tr) (md : Bool) (o : Oper) (n : Nat) (st : St) (ob : List Prop) (hn : Hn) (id0 : Nat) (c : Call) : Ans := match c.callee with
 | .builtin b => match b, c.args.toList, c.argTypes.toList with
  | .len, [x], [t] => aH4 tr md o n st ob x t
  | .append, [x, y], [t, t'] => bif Nat.beq t t' then (match opO st y with | some (.one (.ra _ _ _ _)) => tE tr md o n st ob id0 x y t | _ => wU tr md o n st ob hn id0 x y t) else none
  | .min, [x, y], [_, _] => (opO st x).bind fun v => (opO st y).bind fun u => match v, u with
   | .one (.c (.int k a)), .one (.c (.int k' b)) => bif decide (k = k') then val o n ⟨opr x ++ opr y, []⟩ (.one (.c (.int k (if b < a then b else a)))) [] ob else none
   | _, _ => none
  | .max, [x, y], [_, _] => (opO st x).bind fun v => (opO st y).bind fun u => match v, u with
   | .one (.c (.int k a)), .one (.c (.int k' b)) => bif decide (k = k') then val o n ⟨opr x ++ opr y, []⟩ (.one (.c (.int k (if b > a then b else a)))) [] ob else none
   | _, _ => none
  | _, _, _ => none
 | .value (.func f) => match hn with
  | .pc res => aEk P tr o n st ob res f c.args c.argTypes
  | _ => none
 | _ => none
theorem arr1 {α : Type} {a : Array α} {x : α} (h : a.toList = [x]) : a = #[x] := by cases a; simp at h; simp [h]
theorem aGi {α : Type} {a : Array α} {x y : α} (h : a.toList = [x, y]) : a = #[x, y] := by cases a; simp at h; simp [h]
theorem aBi {hn : Hn} {id0 : Nat} {c : Call} (hw : tr.wf = true) (hT : Tok P tr.flat) (ho : o.op = .call c) : Snd P n o st ob (aBj P tr md o n st ob hn id0 c) := by
 obtain ⟨cal, args, ats⟩ := c;unfold aBj;dsimp only;split
 ·rename_i b;split
  ·rename_i x t h1 h2;have := arr1 h1;have := arr1 h2
   subst_vars
   exact aDl hw hT ho
  ·rename_i x y t t' h1 h2;have := aGi h1;have := aGi h2
   subst_vars
   refine Snd.cond fun ht => ?_
   have := eq_of_beq_eq_true ht;subst this;split
   ·exact tD hw hT ho
   ·exact uU hw hT ho
  ·rename_i x y t t' h1 h2;have := aGi h1;have := aGi h2
   subst_vars
   refine Snd.bind fun v hv => Snd.bind fun u hu => ?_
   rw [bY] at hv hu;split
   ·refine Snd.cond fun hk => ?_
    have := of_decide_eq_true hk;subst this;exact Snd.val fun _ hd hdn hc => ⟨hc, aIn ho hd hdn hv hu rfl⟩
   ·exact Snd.none
  ·rename_i x y t t' h1 h2;have := aGi h1;have := aGi h2
   subst_vars
   refine Snd.bind fun v hv => Snd.bind fun u hu => ?_
   rw [bY] at hv hu;split
   ·refine Snd.cond fun hk => ?_
    have := of_decide_eq_true hk;subst this;exact Snd.val fun _ hd hdn hc => ⟨hc, aIo ho hd hdn hv hu rfl⟩
   ·exact Snd.none
  ·exact Snd.none
 ·split
  ·exact aA8 ho
  ·exact Snd.none
 ·exact Snd.none
def idO (hn : Hn) (d : Option Nat) : Option Nat := match hn with
 | .id n => some n
 | _ => match d with
  | some d => some d
  | none => none
def aDi (P : Program) (tr : Tr) (md nat : Bool) (n : Nat) (st : St) (hn : Hn) (o : Oper) (ob : List Prop) : Ans := match o.op with
 | .move x => wT o n st ob x
 | .assign x => wT o n st ob x
 | .pick c x y => aEl o n st ob hn c x y
 | .alloc t => (idO hn o.dst).bind fun id => aBl tr o n st ob id t
 | .box t x => (idO hn o.dst).bind fun id => aH5 o n st ob id t x
 | .build t ps => aBk tr o n st ob t ps
 | .buildSlice t len ps => (idO hn o.dst).bind fun id => aA7 tr o n st ob hn id t len ps
 | .load t x => aEm tr md o n st ob hn t x
 | .store t x y => aA6 tr md o st ob hn t x y
 | .nilCheck x => aH3 md o n st ob x
 | .slice t x l h m => aF7 tr md o n st ob t x l h m
 | .index t x y => aBd tr o n st ob hn t x y
 | .convert src dst x => aEo tr md o n st ob hn src dst x
 | .binOp op tx x y _ => aH6 tr md nat o n st ob op tx x y
 | .unOp op _ x => aJi md o n st ob op x
 | .makeFunc f a b => aBf o n st ob f a b
 | .makeMap t r => (idO hn o.dst).bind fun id => aF5 tr o n st ob id t r
 | .fieldAddr t x f => nI tr md o n st ob t x f
 | .field t x f => aBg tr o n st ob t x f
 | .indexAddr t x y => nH tr md o n st ob hn t x y
 | .lookup t x y ok => q9 tr md o n st ob hn t x y ok
 | .mapUpdate t x y z => hU tr md o st ob t x y z
 | .insert t x y z => hU tr md o st ob t x y z
 | .extract x i => tC o n st ob x i
 | .call c => (idO hn o.dst).bind fun id => aBj P tr md o n st ob hn id c
 | _ => none
theorem wS {hn : Hn} (hw : tr.wf = true) (hT : Tok P tr.flat) : Snd P n o st ob (aDi P tr md nat n st hn o ob) := by
 unfold aDi;split
 ·rename_i ho; exact aBb ho
 ·rename_i ho; exact uT ho
 ·rename_i ho; exact aA9 ho
 ·rename_i ho; exact Snd.bind fun _ _ => yG hw hT ho
 ·rename_i ho; exact Snd.bind fun _ _ => aDo ho
 ·rename_i ho; exact yF hw hT ho
 ·rename_i ho; exact Snd.bind fun _ _ => yB hw hT ho
 ·rename_i ho; exact aBc hw hT ho
 ·rename_i ho; exact yA hw hT ho
 ·rename_i ho; exact aDj ho
 ·rename_i ho; exact aDn hw hT ho
 ·rename_i ho; exact yC hw hT ho
 ·rename_i ho; exact aBh hw hT ho
 ·rename_i ho; exact aDp hw hT ho
 ·rename_i ho; exact aF4 ho
 ·rename_i ho; exact aBe ho
 ·rename_i ho; exact Snd.bind fun _ _ => aDk ho
 ·rename_i ho; exact nS hw hT ho
 ·rename_i ho; exact yE hw hT ho
 ·rename_i ho; exact nR hw hT ho
 ·rename_i ho; exact uP hw hT ho
 ·rename_i ho; exact nQ hw hT ho
 ·rename_i ho; exact uQ hw hT ho
 ·rename_i ho; exact tB ho
 ·rename_i ho; exact Snd.bind fun _ _ => aBi hw hT ho
 ·exact Snd.none
theorem Step.freeze {rd : Rd} {dv : Option (Nat × Option V)} {id te es z : Nat} {l : List (List C)} (h : Step P n o st rd ⟨dv, [(id, some (.arr te es l z))]⟩) : Step P n o st rd ⟨dv, [(id, some (.arr te es l 2))]⟩ := by
 intro st' ha G S μ a w K Q hs hk';refine h st' ha G S μ a w K Q hs fun S1 μ1 a1 w1 h1 => ?_
 have hh : (Eff.apply ⟨dv, [(id, some (.arr te es l z))]⟩ st').h id = some (.arr te es l z) := by
  show jD st'.h [(id, some (.arr te es l z))] id = _;rw [cD, aC]
 obtain ⟨S2, μ2, h2⟩ := h1.freeze hh;refine hk' S2 μ2 a1 w1 ?_;have e2 : upd (Eff.apply ⟨dv, [(id, some (.arr te es l z))]⟩ st').h id (some (.arr te es l 2)) = (Eff.apply ⟨dv, [(id, some (.arr te es l 2))]⟩ st').h := by
  show upd (jD st'.h [(id, some (.arr te es l z))]) id _ = jD st'.h [(id, some (.arr te es l 2))];rw [cD, cD, jC]
 rw [e2] at h2;exact h2
def aJa : Ans → Ans
 | some (rd, ⟨dv, [(id, some (.arr te es l _))]⟩, ob') => some (rd, ⟨dv, [(id, some (.arr te es l 2))]⟩, ob')
 | _ => none
theorem aF6 {r : Ans} (h : Snd P n o st ob r) : Snd P n o st ob (aJa r) := by
 intro rd f ob' e hc;unfold aJa at e;split at e
 ·cases e;obtain ⟨g1, g2⟩ := h _ _ _ rfl hc;exact ⟨g1, g2.freeze⟩
 ·cases e
def aIc (P : Program) (tr : Tr) (md nat : Bool) (n : Nat) (st : St) (hn : Hn) (o : Oper) (ob : List Prop) : Ans := match hn with
 | .fz => aJa (aDi P tr md nat n st .no o ob)
 | hn => aDi P tr md nat n st hn o ob
theorem aBa {hn : Hn} (hw : tr.wf = true) (hT : Tok P tr.flat) : Snd P n o st ob (aIc P tr md nat n st hn o ob) := by
 unfold aIc;split
 ·exact aF6 (wS hw hT)
 ·exact wS hw hT
def uC : List Oper → Nat → Option Nat
 | [], _ => none
 | o :: os, i => bif Nat.beq i 0 then o.dst else uC os (i - 1)
theorem wG : ∀ (os : List Oper) (i : Nat), uC os i = (os[i]?).bind (·.dst)
 | [], i => by simp [uC]
 | o :: os, 0 => by simp [uC]
 | o :: os, i + 1 => by
  have : Nat.beq (i + 1) 0 = false := rfl;simp [uC, this, wG os i]
def axG (P : Program) (tr : Tr) (md nat : Bool) (n : Nat) (all : List Oper) (hs : List (Nat × Hn)) (k : Nat) (o : Oper) (st : St) (ob : List Prop) : Ans := match o.guard with
 | none => aIc P tr md nat n st (aC0 hs k) o ob
 | some (j, want) => (uC all j).bind fun t => (st.e t).bind fun v => match v with
  | .one (.c (.bool b)) => match aB3 (match aC0 hs j with | .bv w => .bv w | _ => .no) b ob with
   | (w, ob1) => bif w == want then (aIc P tr md nat n st (aC0 hs k) o ob1).bind fun (rd, f, ob2) => some (⟨t :: rd.e, rd.h⟩, f, ob2)
    else match o.dst with
     | some d => bif Nat.blt d n then some (⟨[t], []⟩, ⟨some (d, some (.tup [])), []⟩, ob1) else none
     | none => none
  | .tup [] => match o.dst with
   | some d => bif Nat.blt d n then some (⟨[t], []⟩, ⟨some (d, some (.tup [])), []⟩, ob) else none
   | none => none
  | _ => none
theorem aEn {ops : Array Oper} {hs : List (Nat × Hn)} {k : Nat} {rd : Rd} {f : Eff} {ob' : List Prop} (hw : tr.wf = true) (hT : Tok P tr.flat) (ho : ops[k]? = some o) (h : axG P tr md nat n ops.toList hs k o st ob = some (rd, f, ob')) : gF ob' → gF ob ∧ GStep P n ops k st rd f := by
 intro hc;unfold axG at h;split at h
 ·rename_i hg;obtain ⟨h1, h2⟩ := aBa hw hT _ _ _ h hc;exact ⟨h1, GStep.plain ho hg h2⟩
 ·rename_i j want hg;rw [Option.bind_eq_some_iff] at h;obtain ⟨t, ht, h⟩ := h;rw [Option.bind_eq_some_iff] at h;obtain ⟨v, hv, h⟩ := h;have hj : (ops[j]?).bind (·.dst) = some t := by
   rw [wG] at ht;simpa using ht
  split at h
  ·rename_i b;split at h;rename_i w ob1 htr;cases hww : w == want with
   | true =>
    rw [hww] at h;simp only [cond_true] at h;rw [Option.bind_eq_some_iff] at h;obtain ⟨⟨rd1, f1, ob2⟩, h1, h2⟩ := h;cases h2;obtain ⟨g1, g2⟩ := aBa hw hT _ _ _ h1 hc;obtain ⟨g3, g4⟩ := lS htr g1;exact ⟨g3, GStep.yes ho hg hj hv (g4.trans (eq_of_beq hww)) g2⟩
   | false =>
    rw [hww] at h;simp only [cond_false] at h;split at h
    ·rename_i d hd;obtain ⟨h1, h2⟩ := dC h;cases h2;obtain ⟨g3, g4⟩ := lS htr hc;refine ⟨g3, GStep.no ho hg hd (lK h1) hj hv g4 ?_⟩;cases w <;> cases want <;> first | rfl | (cases hww)
    ·cases h
  ·split at h
   ·rename_i d hd;obtain ⟨h1, h2⟩ := dC h;cases h2;exact ⟨hc, GStep.un ho hg hd (lK h1) hj hv⟩
   ·cases h
  ·cases h
def uS (P : Program) (tr : Tr) (md nat : Bool) (n : Nat) (all : List Oper) (hs : List (Nat × Hn)) : Nat → Nat → List Oper → (Nat → Option V) → cH → List Nat → REs → List Prop → Option (St × Nat × REs × List Prop)
 | 0, k, _, e, h, d, pre, ob => some (⟨e, h, d⟩, k, pre, ob)
 | _ + 1, k, [], e, h, d, pre, ob => some (⟨e, h, d⟩, k, pre, ob)
 | m + 1, k, o :: os, e, h, d, pre, ob => (axG P tr md nat n all hs k o ⟨e, h, d⟩ ob).bind fun (rd, f, ob1) => match f with
  | ⟨some (t, v), []⟩ => uS P tr md nat n all hs m (k + 1) os (upd e t v) h d ((rd, ⟨some (t, v), []⟩) :: pre) ob1
  | ⟨some (t, v), [(id, x)]⟩ => uS P tr md nat n all hs m (k + 1) os (upd e t v) (upd h id x) d ((rd, ⟨some (t, v), [(id, x)]⟩) :: pre) ob1
  | ⟨none, [(id, x)]⟩ => uS P tr md nat n all hs m (k + 1) os e (upd h id x) d ((rd, ⟨none, [(id, x)]⟩) :: pre) ob1
  | _ => none
theorem uR {ops : Array Oper} {hs : List (Nat × Hn)} {draw : Bool} (hw : tr.wf = true) (hT : Tok P tr.flat) : ∀ (m k : Nat) (os : List Oper) (e : Nat → Option V) (h : cH) (d : List Nat) (pre : REs) (ob : List Prop) (st' : St) (k' : Nat) (pre' : REs) (ob' : List Prop), os = ops.toList.drop k →
  uS P tr md nat n ops.toList hs m k os e h d pre ob = some (st', k', pre', ob') → gF ob' → gF ob ∧ ∀ Q, lC P n ops draw k' st' pre' Q → lC P n ops draw k ⟨e, h, d⟩ pre Q := by
 intro m
 induction m with
 | zero =>
  intro k os e h d pre ob st' k' pre' ob' _ hg hc;simp only [uS] at hg;cases hg;exact ⟨hc, fun Q hq => hq⟩
 | succ m ih =>
  intro k os e h d pre ob st' k' pre' ob' hos hg hc;cases os with
  | nil =>
   simp only [uS] at hg;cases hg;exact ⟨hc, fun Q hq => hq⟩
  | cons o os =>
   have ho : ops[k]? = some o := by
    have : (ops.toList.drop k)[0]? = some o := by rw [← hos]; rfl
    simpa using this
   have hos' : os = ops.toList.drop (k + 1) := by
    have : os = (ops.toList.drop k).tail := by rw [← hos]; rfl
    rw [this, List.tail_drop]
   simp only [uS, Option.bind_eq_some_iff] at hg;obtain ⟨⟨rd, f, ob1⟩, h1, h2⟩ := hg;have key : ∀ {st1 : St}, gF ob1 → st1 = f.apply ⟨e, h, d⟩ → (∀ Q, lC P n ops draw k' st' pre' Q → lC P n ops draw (k + 1) st1 ((rd, f) :: pre) Q) → gF ob ∧ ∀ Q, lC P n ops draw k' st' pre' Q → lC P n ops draw k ⟨e, h, d⟩ pre Q := by
    intro st1 hc1 hst hk;obtain ⟨g1, g2⟩ := aEn hw hT ho h1 hc1;subst hst;exact ⟨g1, fun Q hq => k_ g2 (hk Q hq)⟩
   split at h2
   ·rename_i heq;have heq : f = _ := heq;subst heq;obtain ⟨g1, g2⟩ := ih _ _ _ _ _ _ _ _ _ _ _ hos' h2 hc;exact key g1 (by simp only [Eff.apply, vC]) g2
   ·rename_i heq;have heq : f = _ := heq;subst heq;obtain ⟨g1, g2⟩ := ih _ _ _ _ _ _ _ _ _ _ _ hos' h2 hc;exact key g1 (by simp only [Eff.apply, cD]) g2
   ·rename_i heq;have heq : f = _ := heq;subst heq;obtain ⟨g1, g2⟩ := ih _ _ _ _ _ _ _ _ _ _ _ hos' h2 hc;exact key g1 (by simp only [Eff.apply, cD]) g2
   ·cases h2
end
section
variable {ro : Option Nat} {P : Program} {n : Nat} {ops : Array Oper} {draw : Bool} {k k' : Nat} {st st' : St} {pre pre' : REs} {Q : St → Prop} {tr : Tr} {ob : List Prop}
theorem ax_ {hs : List (Nat × Hn)} {md nat : Bool} (m : Nat) (hw : tr.wf = true) (hT : Tok P tr.flat) (h : uS P tr md nat n ops.toList hs m k (ops.toList.drop k) st.e st.h st.d pre [] = some (st', k', pre', ob)) (hc : gF ob) (hk : lC P n ops draw k' st' pre' Q) : lC P n ops draw k st pre Q :=
 (uR hw hT m k _ st.e st.h st.d pre [] st' k' pre' ob rfl h hc).2 Q hk
theorem aEp {hs : List (Nat × Hn)} {md nat : Bool} {kf : List Nat} {id : Nat} {Q : Exit → St → Prop} (hm : P.follows .mixedOrders = true) (hw : tr.wf = true) (hT : Tok P tr.flat) (h : uS P tr md nat n ops.toList hs 1000 0 ops.toList st.e st.h st.d [] [] = some (st', k', pre', ob)) (hc : gF ob)
  (h1 : Nat.beq k' ops.size = true) (h2 : (!draw || (eQ (nN ops) pre'.reverse [] && hJ ops)) = true) (hq : Q .normal st') : AWp ro P n kf (.region id ops draw) st Q :=
 aJ hm ((uR hw hT 1000 0 _ st.e st.h st.d [] [] st' k' pre' ob rfl h hc).2 _ (z_ h1 h2 hq))
end
theorem hs_all {h : cH} {id te es n : Nat} {l l' : List (List C)} {fz : Nat} (h1 : h id = some (.arr te es l fz)) (hf : fz = 2) (h2 : n = l.length) (h3 : l = l') : Conv h [id] (.one (.hs id 0 n n)) (.one (.c (.sl es l'))) := by
 subst h2;subst h3;subst hf;exact .one (.hs h1 rfl (by rw [drop_zero, take_length]) .nil)
section
variable {P : Program} {n : Nat} {ops : Array Oper} {draw : Bool} {k d : Nat} {st : St} {pre : REs} {Q : St → Prop} {o : Oper} {f : FuncId} {xs : Array Operand} {ts : Array TypeId} {ids : List Nat} {args : List V} {res : V} {hin hout : List (Nat × AObj)}
theorem kc (hf : bN P f args hin res hout)
  (hk : lC P n ops draw (k + 1) ⟨upd st.e d (some res), jD st.h (outs hout), st.d⟩ ((⟨cG xs.toList, ids ++ keys hin ++ keys hout⟩, ⟨some (d, some res), outs hout⟩) :: pre) Q)
  (hb : kC P f := by exact aGg (by kernel_rfl)) (ho : ops[k]? = some o := by rfl) (hg : o.guard = none := by rfl) (hop : o.op = .call { callee := .value (.func f), args := xs, argTypes := ts } := by rfl) (hd : o.dst = some d := by rfl) (hdn : Nat.blt d n = true := by rfl)
  (ha : ArgsV st ids xs.toList args := by repeat (first | exact .nil | (apply Go.AM.ArgsV.cons rfl; (first | exact .refl | exact .one (.c .nl .nil) | exact .one (.c .sn .nil) | exact .one (.hs rfl (by first | rfl | simp) (by first | rfl | (simp; done) | (simp [Go.AM.take_map]; done) | exact Go.AM.take_map.symm) .nil) | exact Go.AM.hs_all rfl rfl (by first | rfl | assumption | (simp; done) | (simp; omega)) (by first | rfl | assumption | (simp; done)) | ((first | apply Go.AM.Conv.pa | apply Go.AM.Conv.agg); repeat (first | exact .nil | apply Go.AM.PureL.c .refl | apply Go.AM.PureL.c .nl | apply Go.AM.PureL.c .sn | (apply Go.AM.PureL.hs; rfl; (first | rfl | simp); (first | rfl | (simp; done) | (simp [Go.AM.take_map]; done) | exact Go.AM.take_map.symm))))))))
  (hin' : fU (fun p => st.h p.1 = some p.2) hin := by repeat (first | exact trivial | refine ⟨rfl, ?_⟩)) (hout' : fU (fun p => p.1 ∈ keys hin ∨ st.h p.1 = none) hout := by repeat (first | exact trivial | refine ⟨.inr rfl, ?_⟩ | refine ⟨.inl (by decide), ?_⟩ | refine ⟨.inl (by repeat (first | exact List.Mem.head _ | apply List.Mem.tail)), ?_⟩)) (hok : callOk args hin = true := by rfl) : lC P n ops draw k st pre Q :=
 k_ (g_ ho hg (zF hin hout hb hop hd (lK hdn) hf ha hin' hout' hok)) hk
theorem kv {x : Operand} {caps : List R} (hf : bN P f (args ++ caps.map V.one) hin res hout)
  (hk : lC P n ops draw (k + 1) ⟨upd st.e d (some res), jD st.h (outs hout), st.d⟩ ((⟨opr x ++ cG xs.toList, ids ++ keys hin ++ keys hout⟩, ⟨some (d, some res), outs hout⟩) :: pre) Q)
  (hb : kC P f := by exact aGg (by kernel_rfl)) (ho : ops[k]? = some o := by rfl) (hg : o.guard = none := by rfl) (hop : o.op = .call { callee := .value x, args := xs, argTypes := ts } := by rfl) (hd : o.dst = some d := by rfl) (hdn : Nat.blt d n = true := by rfl) (hx : opv st x = some (.one (.clo f caps)) := by rfl)
  (ha : ArgsV st ids xs.toList args := by repeat (first | exact .nil | (apply Go.AM.ArgsV.cons rfl; (first | exact .refl | exact .one (.c .nl .nil) | exact .one (.c .sn .nil) | exact .one (.hs rfl (by first | rfl | simp) (by first | rfl | (simp; done) | (simp [Go.AM.take_map]; done) | exact Go.AM.take_map.symm) .nil) | exact Go.AM.hs_all rfl rfl (by first | rfl | assumption | (simp; done) | (simp; omega)) (by first | rfl | assumption | (simp; done)) | ((first | apply Go.AM.Conv.pa | apply Go.AM.Conv.agg); repeat (first | exact .nil | apply Go.AM.PureL.c .refl | apply Go.AM.PureL.c .nl | apply Go.AM.PureL.c .sn | (apply Go.AM.PureL.hs; rfl; (first | rfl | simp); (first | rfl | (simp; done) | (simp [Go.AM.take_map]; done) | exact Go.AM.take_map.symm))))))))
  (hin' : fU (fun p => st.h p.1 = some p.2) hin := by repeat (first | exact trivial | refine ⟨rfl, ?_⟩)) (hout' : fU (fun p => p.1 ∈ keys hin ∨ st.h p.1 = none) hout := by repeat (first | exact trivial | refine ⟨.inr rfl, ?_⟩ | refine ⟨.inl (by decide), ?_⟩ | refine ⟨.inl (by repeat (first | exact List.Mem.head _ | apply List.Mem.tail)), ?_⟩)) (hok : callOk (args ++ caps.map V.one) hin = true := by rfl) : lC P n ops draw k st pre Q :=
 k_ (g_ ho hg (aE9 hin hout hb hop hd (lK hdn) hx hf ha hin' hout' hok)) hk
theorem km {x : Operand} {recv : R} (hf : bN P f (.one recv :: args) hin res hout)
  (hk : lC P n ops draw (k + 1) ⟨upd st.e d (some res), jD st.h (outs hout), st.d⟩ ((⟨opr x ++ cG xs.toList, ids ++ keys hin ++ keys hout⟩, ⟨some (d, some res), outs hout⟩) :: pre) Q)
  (hb : kC P f := by exact aGg (by kernel_rfl)) (ho : ops[k]? = some o := by rfl) (hg : o.guard = none := by rfl) (hop : o.op = .call { callee := .value x, args := xs, argTypes := ts } := by rfl) (hd : o.dst = some d := by rfl) (hdn : Nat.blt d n = true := by rfl) (hx : opv st x = some (.one (.mth f recv)) := by rfl)
  (ha : ArgsV st ids xs.toList args := by repeat (first | exact .nil | (apply Go.AM.ArgsV.cons rfl; (first | exact .refl | exact .one (.c .nl .nil) | exact .one (.c .sn .nil) | exact .one (.hs rfl (by first | rfl | simp) (by first | rfl | (simp; done) | (simp [Go.AM.take_map]; done) | exact Go.AM.take_map.symm) .nil) | exact Go.AM.hs_all rfl rfl (by first | rfl | assumption | (simp; done) | (simp; omega)) (by first | rfl | assumption | (simp; done)) | ((first | apply Go.AM.Conv.pa | apply Go.AM.Conv.agg); repeat (first | exact .nil | apply Go.AM.PureL.c .refl | apply Go.AM.PureL.c .nl | apply Go.AM.PureL.c .sn | (apply Go.AM.PureL.hs; rfl; (first | rfl | simp); (first | rfl | (simp; done) | (simp [Go.AM.take_map]; done) | exact Go.AM.take_map.symm))))))))
  (hin' : fU (fun p => st.h p.1 = some p.2) hin := by repeat (first | exact trivial | refine ⟨rfl, ?_⟩)) (hout' : fU (fun p => p.1 ∈ keys hin ∨ st.h p.1 = none) hout := by repeat (first | exact trivial | refine ⟨.inr rfl, ?_⟩ | refine ⟨.inl (by decide), ?_⟩ | refine ⟨.inl (by repeat (first | exact List.Mem.head _ | apply List.Mem.tail)), ?_⟩)) (hok : callOk (.one recv :: args) hin = true := by rfl) : lC P n ops draw k st pre Q :=
 k_ (g_ ho hg (aFa hin hout hb hop hd (lK hdn) hx hf ha hin' hout' hok)) hk
end
inductive Res where
 | leaf (st : St) (k : Nat) (pre : REs) (ob : List Prop)
 | fork (b : Bool) (x y : Res)
def Res.obs : Res → Prop
 | .leaf _ _ _ ob => gF ob
 | .fork b x y => (b = true → x.obs) ∧ (b = false → y.obs)
def Res.good (ops : Array Oper) (draw : Bool) : Res → Bool
 | .leaf _ k pre _ => Nat.beq k ops.size && (!draw || (eQ (nN ops) pre.reverse [] && hJ ops))
 | .fork _ x y => x.good ops draw && y.good ops draw
def Res.all (Q : St → Prop) : Res → Prop
 | .leaf st _ _ _ => Q st
 | .fork b x y => (b = true → x.all Q) ∧ (b = false → y.all Q)
def aFi : Nat → List Nat → Bool
 | _, [] => false
 | i, x :: l => bif Nat.beq i x then true else aFi i l
theorem vZ : ∀ {i : Nat} {l : List Nat}, aFi i l = true ↔ i ∈ l
 | i, [] => by simp [aFi]
 | i, x :: l => by
  simp only [aFi];cases h : Nat.beq i x with
  | true => have := eq_of_beq_eq_true h; simp [this]
  | false =>
   have : i ≠ x := fun e => by subst e; simp at h
   simp [this, vZ]
def aHm (all : List Oper) (dec : List Nat) (o : Oper) : Option Nat :=
 match (match o.guard with | some (j, _) => (uC all j).bind fun t => bif aFi t dec then none else some t | none => none) with
 | some t => some t
 | none => match o.op with
  | .pick (.tmp t) _ _ => bif aFi t dec then none else some t
  | _ => none
def kD (P : Program) (tr : Tr) (md nat : Bool) (n : Nat) (all : List Oper) (hs : List (Nat × Hn)) (W : List Nat) : Nat → Nat → List Oper → (Nat → Option V) → cH → List Nat → List Nat → REs → List Prop → Option Res
 | 0, _, _, _, _, _, _, _, _ => none
 | _ + 1, k, [], e, h, d, _, pre, ob => some (.leaf ⟨e, h, d⟩ k pre ob)
 | m + 1, k, o :: os, e, h, d, dec, pre, ob => match aHm all dec o with
  | some t => match e t with
   | some (.one (.c (.bool b))) => (kD P tr md nat n all hs W m k (o :: os) (upd e t (some (.one (.c (.bool true))))) h d (t :: dec) pre ob).bind fun x =>
     (kD P tr md nat n all hs W m k (o :: os) (upd e t (some (.one (.c (.bool false))))) h d (t :: dec) pre ob).bind fun y => some (.fork b x y)
   | _ => kD P tr md nat n all hs W m k (o :: os) e h d (t :: dec) pre ob
  | none => (axG P tr md nat n all hs k o ⟨e, h, d⟩ ob).bind fun (rd, f, ob1) => match f with
   | ⟨some (t, v), []⟩ => bif aFi t W then kD P tr md nat n all hs W m (k + 1) os (upd e t v) h d dec ((rd, ⟨some (t, v), []⟩) :: pre) ob1 else none
   | _ => none
section
variable {P : Program} {n : Nat} {tr : Tr} {md nat : Bool}
theorem vB {e : Nat → Option V} {t : Nat} {x : Option V} (h : e t = x) : upd e t x = e := by
 funext i;simp only [upd];split
 ·rename_i hb; rw [eq_of_beq_eq_true hb, h]
 ·rfl
theorem aDm {ops : Array Oper} {hs : List (Nat × Hn)} {W : List Nat} {draw : Bool} (hw : tr.wf = true) (hT : Tok P tr.flat) : ∀ (m k : Nat) (os : List Oper) (e : Nat → Option V) (h : cH) (d dec : List Nat) (pre : REs) (ob : List Prop) (res : Res), os = ops.toList.drop k →
  kD P tr md nat n ops.toList hs W m k os e h d dec pre ob = some res → res.obs → res.good ops draw = true → ∀ Q, res.all Q → gF ob ∧ lC P n ops draw k ⟨e, h, d⟩ pre Q := by
 intro m
 induction m with
 | zero => intro k os e h d dec pre ob res _ hg; simp [kD] at hg
 | succ m ih =>
  intro k os e h d dec pre ob res hos hg ho hgood Q hq;cases os with
  | nil =>
   simp only [kD] at hg;cases hg;simp only [Res.good, Bool.and_eq_true] at hgood;exact ⟨ho, z_ hgood.1 hgood.2 hq⟩
  | cons o os =>
   have hok : ops[k]? = some o := by
    have : (ops.toList.drop k)[0]? = some o := by rw [← hos]; rfl
    simpa using this
   have hos' : os = ops.toList.drop (k + 1) := by
    have : os = (ops.toList.drop k).tail := by rw [← hos]; rfl
    rw [this, List.tail_drop]
   simp only [kD] at hg;split at hg
   ·rename_i t _;split at hg
    ·rename_i b hb;rw [Option.bind_eq_some_iff] at hg;obtain ⟨x, hx, hg⟩ := hg;rw [Option.bind_eq_some_iff] at hg;obtain ⟨y, hy, hg⟩ := hg;cases hg;simp only [Res.obs] at ho;simp only [Res.good, Bool.and_eq_true] at hgood;simp only [Res.all] at hq;cases b with
     | true =>
      rw [vB hb] at hx;exact ih _ _ _ _ _ _ _ _ _ hos hx (ho.1 rfl) hgood.1 Q (hq.1 rfl)
     | false =>
      rw [vB hb] at hy;exact ih _ _ _ _ _ _ _ _ _ hos hy (ho.2 rfl) hgood.2 Q (hq.2 rfl)
    ·exact ih _ _ _ _ _ _ _ _ _ hos hg ho hgood Q hq
   ·rw [Option.bind_eq_some_iff] at hg;obtain ⟨⟨rd, f, ob1⟩, h1, h2⟩ := hg;dsimp only at h2;split at h2
    ·obtain ⟨_, h3⟩ := dC h2;obtain ⟨g1, g2⟩ := ih _ _ _ _ _ _ _ _ _ hos' h3 ho hgood Q hq;obtain ⟨g3, g4⟩ := aEn hw hT hok h1 g1;refine ⟨g3, k_ g4 ?_⟩;simpa only [Eff.apply, vC] using g2
    ·cases h2
def Res.keep (e0 : Nat → Option V) (h0 : cH) (d0 : List Nat) (W : List Nat) : Res → Prop
 | .leaf st _ _ _ => (∀ t, t ∉ W → ∀ v, e0 t = some v → st.e t = some v) ∧ st.h = h0 ∧ st.d = d0
 | .fork b x y => (b = true → x.keep e0 h0 d0 W) ∧ (b = false → y.keep e0 h0 d0 W)
theorem yD {all : List Oper} {hs : List (Nat × Hn)} {W : List Nat} {e0 : Nat → Option V} : ∀ (m k : Nat) (os : List Oper) (e : Nat → Option V) (h : cH) (d dec : List Nat) (pre : REs) (ob : List Prop) (res : Res),
  kD P tr md nat n all hs W m k os e h d dec pre ob = some res → (∀ t, t ∉ W → ∀ v, e0 t = some v → e t = some v) → res.keep e0 h d W := by
 intro m
 induction m with
 | zero => intro k os e h d dec pre ob res hg; simp [kD] at hg
 | succ m ih =>
  intro k os e h d dec pre ob res hg he;cases os with
  | nil =>
   simp only [kD] at hg;cases hg;exact ⟨he, rfl, rfl⟩
  | cons o os =>
   simp only [kD] at hg;split at hg
   ·rename_i t _;split at hg
    ·rename_i b hb;rw [Option.bind_eq_some_iff] at hg;obtain ⟨x, hx, hg⟩ := hg;rw [Option.bind_eq_some_iff] at hg;obtain ⟨y, hy, hg⟩ := hg;cases hg;refine ⟨fun hbt => ?_, fun hbf => ?_⟩
     ·subst hbt;rw [vB hb] at hx;exact ih _ _ _ _ _ _ _ _ _ hx he
     ·subst hbf;rw [vB hb] at hy;exact ih _ _ _ _ _ _ _ _ _ hy he
    ·exact ih _ _ _ _ _ _ _ _ _ hg he
   ·rw [Option.bind_eq_some_iff] at hg;obtain ⟨⟨rd, f, ob1⟩, h1, h2⟩ := hg;dsimp only at h2;split at h2
    ·obtain ⟨hm, h3⟩ := dC h2;refine ih _ _ _ _ _ _ _ _ _ h3 fun s hs u hu => ?_
     have hne : s ≠ _ := fun e => hs (by rw [e]; exact vZ.1 hm)
     rw [aT _ _ _ hne];exact he s hs u hu
    ·cases h2
def Res.boolAt (w : Nat) : Res → Option Bool
 | .leaf st _ _ _ => match st.e w with
  | some (.one (.c (.bool x))) => some x
  | _ => none
 | .fork b x y => (x.boolAt w).bind fun p => (y.boolAt w).bind fun q => some (bif b then p else q)
theorem Res.boolAt_all {w : Nat} : ∀ {r : Res} {x : Bool}, r.boolAt w = some x → r.all fun st => st.e w = some (.one (.c (.bool x)))
 | .leaf st _ _ _, x, h => by
  simp only [Res.boolAt] at h;split at h
  ·rename_i hx; cases h; exact hx
  ·cases h
 | .fork b p q, x, h => by
  simp only [Res.boolAt, Option.bind_eq_some_iff] at h;obtain ⟨u, hu, v, hv, h⟩ := h;cases h;refine ⟨fun hb => ?_, fun hb => ?_⟩
  ·subst hb; exact Res.boolAt_all hu
  ·subst hb; exact Res.boolAt_all hv
def mU (res : Res) : List Nat → Option (List (Nat × Option V))
 | [] => some []
 | w :: ws => (mU res ws).bind fun l => match res.boolAt w with
  | some x => some ((w, some (.one (.c (.bool x)))) :: l)
  | none => some ((w, none) :: l)
def j8 (e : Nat → Option V) : List (Nat × Option V) → Nat → Option V
 | [], t => e t
 | (w, v) :: l, t => bif Nat.beq t w then v else j8 e l t
theorem rH {res : Res} {e0 : Nat → Option V} {t : Nat} : ∀ {W : List Nat} {L : List (Nat × Option V)}, mU res W = some L → j8 e0 L t = if t ∈ W then (res.boolAt t).map (fun x => V.one (.c (.bool x))) else e0 t
 | [], L, h => by
  simp only [mU] at h;cases h;simp [j8]
 | w :: ws, L, h => by
  simp only [mU, Option.bind_eq_some_iff] at h;obtain ⟨l, hl, h⟩ := h;have ih := rH (e0 := e0) (t := t) hl;have hL : L = (w, (res.boolAt w).map (fun x => V.one (.c (.bool x)))) :: l := by
   split at h
   ·rename_i x hx; cases h; rw [hx]; rfl
   ·rename_i hx; cases h; rw [hx]; rfl
  subst hL;simp only [j8];by_cases htw : t = w
  ·subst htw;simp
  ·have hb : Nat.beq t w = false := by
    cases hb : Nat.beq t w with
    | true => exact absurd (eq_of_beq_eq_true hb) htw
    | false => rfl
   rw [hb, cond_false, ih];simp [htw]
theorem Res.all_mono {Q Q' : St → Prop} (h : ∀ st, Q st → Q' st) : ∀ {r : Res}, r.all Q → r.all Q'
 | .leaf st _ _ _, k => h st k
 | .fork _ _ _, k => ⟨fun hb => Res.all_mono h (k.1 hb), fun hb => Res.all_mono h (k.2 hb)⟩
theorem Res.all_forall {α : Type} {Q : α → St → Prop} : ∀ {r : Res}, (∀ a, r.all (Q a)) → r.all fun st => ∀ a, Q a st
 | .leaf _ _ _ _, k => fun a => k a
 | .fork _ _ _, k => ⟨fun hb => Res.all_forall fun a => (k a).1 hb, fun hb => Res.all_forall fun a => (k a).2 hb⟩
theorem Res.all_and {Q Q' : St → Prop} : ∀ {r : Res}, r.all Q → r.all Q' → r.all fun st => Q st ∧ Q' st
 | .leaf _ _ _ _, h, k => ⟨h, k⟩
 | .fork _ _ _, h, k => ⟨fun hb => Res.all_and (h.1 hb) (k.1 hb), fun hb => Res.all_and (h.2 hb) (k.2 hb)⟩
theorem Res.keep_at {e0 : Nat → Option V} {h0 : cH} {d0 W : List Nat} {t : Nat} {v : V} (ht : t ∉ W) (hv : e0 t = some v) : ∀ {r : Res}, r.keep e0 h0 d0 W → r.all fun st => st.e t = some v
 | .leaf _ _ _ _, k => k.1 t ht v hv
 | .fork _ _ _, k => ⟨fun hb => Res.keep_at ht hv (k.1 hb), fun hb => Res.keep_at ht hv (k.2 hb)⟩
theorem Res.keep_hd {e0 : Nat → Option V} {h0 : cH} {d0 W : List Nat} : ∀ {r : Res}, r.keep e0 h0 d0 W → r.all fun st => st.h = h0 ∧ st.d = d0
 | .leaf _ _ _ _, k => k.2
 | .fork _ _ _, k => ⟨fun hb => Res.keep_hd (k.1 hb), fun hb => Res.keep_hd (k.2 hb)⟩
theorem aCw {res : Res} {e0 : Nat → Option V} {h0 : cH} {d0 W : List Nat} {L : List (Nat × Option V)} (h : mU res W = some L) (hk : res.keep e0 h0 d0 W) : res.all fun st => (∀ p : Nat × V, j8 e0 L p.1 = some p.2 → st.e p.1 = some p.2) ∧ (st.h = h0 ∧ st.d = d0) := by
 refine Res.all_and (Res.all_forall fun p => ?_) (Res.keep_hd hk);by_cases hv : j8 e0 L p.1 = some p.2
 ·refine Res.all_mono (fun st h _ => h) (?_ : res.all fun st => st.e p.1 = some p.2);rw [rH h] at hv;by_cases ht : p.1 ∈ W
  ·rw [if_pos ht, Option.map_eq_some_iff] at hv;obtain ⟨x, hx, hv⟩ := hv;rw [← hv];exact Res.boolAt_all hx
  ·rw [if_neg ht] at hv;exact Res.keep_at ht hv hk
 ·have : ∀ r : Res, r.all fun st => j8 e0 L p.1 = some p.2 → st.e p.1 = some p.2 := by
   intro r
   induction r with
   | leaf st k pre ob => exact fun h => absurd h hv
   | fork b x y ihx ihy => exact ⟨fun _ => ihx, fun _ => ihy⟩
  exact this res
theorem Sub.weak {kf : List Nat} {st1 st2 : St} (he : ∀ p : Nat × V, st2.e p.1 = some p.2 → st1.e p.1 = some p.2) (hh : st1.h = st2.h) (hd : st1.d = st2.d) : Sub kf st2 st1 := by
 intro G n S μ a w _ hs;refine ⟨S, μ, ⟨?_, hs.size, ?_, fun t v e => ?_⟩⟩
 ·rw [← hh]; exact hs.inv
 ·rw [← hh, ← hd]; exact hs.defers
 ·rw [← hh]; exact hs.env t v (he (t, v) e)
def aGf : List Oper → List Nat
 | [] => []
 | o :: os => match o.dst with
  | some t => t :: aGf os
  | none => aGf os
theorem aF9 {ro : Option Nat} {ops : Array Oper} {draw : Bool} {st : St} {e1 : Nat → Option V} {h1 : cH} {d1 : List Nat} {k1 : Nat} {pre1 : REs} {ob1 : List Prop} {res : Res} {L : List (Nat × Option V)} {hs : List (Nat × Hn)} {kf : List Nat} {id : Nat} {Q : Exit → St → Prop} (m : Nat) (hm : P.follows .mixedOrders = true) (hw : tr.wf = true) (hT : Tok P tr.flat)
  (g1 : uS P tr md nat n ops.toList hs m 0 ops.toList st.e st.h st.d [] [] = some (⟨e1, h1, d1⟩, k1, pre1, ob1))
  (g2 : kD P tr md nat n ops.toList hs (aGf (ops.toList.drop k1)) 1000 k1 (ops.toList.drop k1) e1 h1 d1 [] pre1 ob1 = some res)
  (g3 : mU res (aGf (ops.toList.drop k1)) = some L) (ho : res.obs) (hg : res.good ops draw = true) (hq : Q .normal ⟨j8 e1 L, h1, d1⟩) : AWp ro P n kf (.region id ops draw) st Q := by
 have hk := yD (P := P) (tr := tr) (md := md) (nat := nat) (n := n) (e0 := e1) _ _ _ _ _ _ _ _ _ _ g2 (fun _ _ _ h => h);have hmo := aCw g3 hk;have hall : res.all fun st' => Sub kf ⟨j8 e1 L, h1, d1⟩ st' := Res.all_mono (fun st h => Sub.weak h.1 h.2.1 h.2.2) hmo
 obtain ⟨hob, hrun⟩ := aDm (draw := draw) hw hT _ _ _ _ _ _ _ _ _ _ rfl g2 ho hg _ hall;exact aF8 _ hm ((uR hw hT m 0 _ st.e st.h st.d [] [] _ k1 pre1 ob1 rfl g1 hob).2 _ hrun) hq
end
end Go.AM
namespace Go.AM
open Go
theorem Ole.mapE {σ : Nat → Nat} {agg : Bool} {l l' : List (List C)} (h : l = l') : Ole σ (.map agg l) (.map agg l') := by subst h; exact .map
theorem Ole.arrS {σ : Nat → Nat} {te es fz : Nat} {l l' : List (List C)} (h : l = l') : Ole σ (.arr te es l fz) (.arr te es l' fz) := by subst h; exact .arr
theorem hs_ren {id off a b a' b' : Nat} (h : a = a') (k : b = b') : some (V.one (.hs id off a b)) = some (V.ren (fun i => i) (V.one (.hs id off a' b'))) := by subst h; subst k; rfl
theorem sl {kf : List Nat} {st1 : St} {el : List (Nat × V)} {hl : List (Nat × AObj)}
  (he : fU (fun p => st1.e p.1 = some (p.2.ren (fun i => i))) el := by repeat (first | exact trivial | refine ⟨by first | rfl | exact Go.AM.hs_ren (by first | (simp; done) | (simp; omega)) (by first | (simp; done) | (simp; omega)), ?_⟩))
  (hh : fU (fun p => ∃ o, st1.h p.1 = some o ∧ Ole (fun i => i) o p.2) hl := by repeat (first | exact trivial | refine ⟨⟨_, rfl, by first | exact Go.AM.Ole.arr | exact Go.AM.Ole.var rfl | exact Go.AM.Ole.map | exact Go.AM.Ole.rarr rfl | exact Go.AM.Ole.arr1 | exact Go.AM.Ole.arrS (by first | assumption | (simp; done) | (simp; rfl) | (simp; omega)) | exact Go.AM.Ole.arrE (by first | assumption | (simp; done) | (simp; rfl) | (simp; omega)) | exact Go.AM.Ole.var (by first | (simp [Go.AM.R.renL, Go.AM.R.ren]; done) | (simp [Go.AM.R.renL, Go.AM.R.ren]; omega)) | exact Go.AM.Ole.mapE (by first | assumption | (simp; done) | (simp; rfl) | (simp; omega))⟩, ?_⟩))
  (hok : (aCv kf (fun i => i) el hl && eqL [] st1.d) = true := by rfl) : Sub kf (mk el hl) st1 := Sub.list (fun i => i) he hh hok
theorem take_all {α : Type} {l : List α} {n : Nat} (h : n = l.length) : l = (l.drop 0).take n := by rw [h, drop_zero, take_length]
theorem ltD {i n : Nat} {l : List (List C)} (h : decide ((i : Int) < (l.length : Int)) = true) (e : l.length = n) : i < n := by
 have : (i : Int) < (l.length : Int) := by simpa using h
 omega
theorem geD {i n : Nat} {l : List (List C)} (h : decide ((i : Int) < (l.length : Int)) = false) (e : l.length = n) (hi : i ≤ n) : i = n := by
 have : ¬ (i : Int) < (l.length : Int) := by simpa using h
 omega
theorem xA {k : Nat} {o : AObj} {l : List (Nat × AObj)} : eS ((k, o) :: l) = o.refs ++ eS l := rfl
theorem yP {k : Nat} {o o' : AObj} {post : List (Nat × AObj)} {K : List Nat} (hr : ∀ x ∈ o.refs, x ∈ o'.refs) (h : subset (eS ((k, o') :: post)) K = true) : subset (eS ((k, o) :: post)) K = true := by
 rw [xA] at h ⊢;simp only [subset, all_eq_true, mem_append] at h ⊢;intro x hx;rcases hx with hx | hx
 ·exact h x (.inl (hr x hx))
 ·exact h x (.inr hx)
theorem aCu {kf : List Nat} {el : List (Nat × V)} {k : Nat} {o o' : AObj} {post : List (Nat × AObj)} (hr : ∀ x ∈ o.refs, x ∈ o'.refs) (h : aCv kf (fun i => i) el ((k, o') :: post) = true) : aCv kf (fun i => i) el ((k, o) :: post) = true := by
 simp only [aCv, Bool.and_eq_true] at h ⊢;obtain ⟨⟨⟨⟨h1, h2⟩, h3⟩, h4⟩, h5⟩ := h;exact ⟨⟨⟨⟨h1, yP hr h2⟩, h3⟩, h4⟩, h5⟩
theorem Ole.rarrS {te es : Nat} {l l' : List (List R)} (h : l = l') : Ole (fun i => i) (.rarr te es l) (.rarr te es l') := by subst h; exact .rarr (tQ _).symm
theorem slR {k : Nat} {o : AObj} {kf : List Nat} {st1 : St} {el : List (Nat × V)} {hl : List (Nat × AObj)} (o' : AObj) (hr : ∀ x ∈ o.refs, x ∈ o'.refs) (h0 : ∃ oo, st1.h k = some oo ∧ Ole (fun i => i) oo o)
  (he : fU (fun p => st1.e p.1 = some (p.2.ren (fun i => i))) el := by repeat (first | exact trivial | refine ⟨by first | rfl | exact Go.AM.hs_ren (by first | (simp; done) | (simp; omega)) (by first | (simp; done) | (simp; omega)), ?_⟩))
  (hh : fU (fun p => ∃ o, st1.h p.1 = some o ∧ Ole (fun i => i) o p.2) hl := by repeat (first | exact trivial | refine ⟨⟨_, rfl, by first | exact Go.AM.Ole.arr | exact Go.AM.Ole.var rfl | exact Go.AM.Ole.map | exact Go.AM.Ole.rarr rfl | exact Go.AM.Ole.arr1 | exact Go.AM.Ole.arrS (by first | assumption | (simp; done) | (simp; rfl) | (simp; omega)) | exact Go.AM.Ole.arrE (by first | assumption | (simp; done) | (simp; rfl) | (simp; omega)) | exact Go.AM.Ole.var (by first | (simp [Go.AM.R.renL, Go.AM.R.ren]; done) | (simp [Go.AM.R.renL, Go.AM.R.ren]; omega)) | exact Go.AM.Ole.mapE (by first | assumption | (simp; done) | (simp; rfl) | (simp; omega))⟩, ?_⟩))
  (hok : (aCv kf (fun i => i) el ((k, o') :: hl) && eqL [] st1.d) = true := by rfl) : Sub kf (mk el ((k, o) :: hl)) st1 := by
 rw [Bool.and_eq_true] at hok;exact Sub.list (fun i => i) he ⟨h0, hh⟩ (by rw [Bool.and_eq_true]; exact ⟨aCu hr hok.1, hok.2⟩)
section
variable {T : TT} {fn : Func} {st : St} {hin hout : List (Nat × AObj)} {res : V}
theorem rtT {t : Nat} {v : V} {ids : List Nat} (hr : fn.results.toList = [.tmp t] := by rfl) (hv : st.e t = some v := by rfl)
  (hc : Conv st.h ids v res := by first | exact .refl | exact .one (.c .nl .nil) | ((first | apply Go.AM.Conv.pa | apply Go.AM.Conv.agg); repeat (first | exact .nil | apply Go.AM.PureL.c .refl | apply Go.AM.PureL.c .nl | (apply Go.AM.PureL.hs; rfl; (first | rfl | assumption | simp); (first | rfl | exact Go.AM.take_all (by first | assumption | rfl | (simp; done)) | exact Go.AM.take_map.symm)))))
  (ho : fU (fun p => ∃ o, st.h p.1 = some o ∧ Ole (fun i => i) o p.2) hout := by repeat (first | exact trivial | refine ⟨⟨_, rfl, by first | exact Go.AM.Ole.arr | exact Go.AM.Ole.var rfl | exact Go.AM.Ole.map | exact Go.AM.Ole.rarr rfl | exact Go.AM.Ole.arr1 | exact Go.AM.Ole.arrS (by first | assumption | (simp; done) | (simp; rfl) | (simp; omega)) | exact Go.AM.Ole.arrE (by first | assumption | (simp; done) | (simp; rfl) | (simp; omega)) | exact Go.AM.Ole.var (by first | (simp [Go.AM.R.renL, Go.AM.R.ren]; done) | (simp [Go.AM.R.renL, Go.AM.R.ren]; omega)) | exact Go.AM.Ole.mapE (by first | assumption | (simp; done) | (simp; rfl) | (simp; omega))⟩, ?_⟩))
  (hok : (subset res.refs (keys hout) && subset (eS hout) (keys hout) && distinct (keys hout) && subset (keys hin) (keys hout) && (hin.all fun p => p.2.plain) && (hout.all fun p => p.2.plain)) = true := by rfl) : (Exit.ret = .normal ∨ Exit.ret = .ret) ∧ Fin T fn st hin res hout :=
 ⟨.inr rfl, ⟨[v], [res], by rw [hr]; exact .tmp hv .nil, .cons hc .nil, rfl⟩, ho, hok⟩
theorem rtC {tr : Tr} {a t : Nat} {i : TI} {id off tv : Nat} {cells : List R} {v : V} {ids : List Nat} (hw : tr.wf = true) (hr : fn.results.toList = [.cell a t] := by rfl) (hi : tr.get t = some i := by rfl) (ha : st.e a = some (.one (.vp id off)) := by rfl) (hh : st.h id = some (.var tv cells) := by rfl) (hb : Nat.ble (off + i.size) cells.length = true := by rfl) (hv : nO i ((cells.drop off).take i.size) = some v := by rfl)
  (hc : Conv st.h ids v res := by first | exact .refl | exact .one (.c .nl .nil) | ((first | apply Go.AM.Conv.pa | apply Go.AM.Conv.agg); repeat (first | exact .nil | apply Go.AM.PureL.c .refl | apply Go.AM.PureL.c .nl | (apply Go.AM.PureL.hs; rfl; (first | rfl | assumption | simp); (first | rfl | exact Go.AM.take_all (by first | assumption | rfl | (simp; done)) | exact Go.AM.take_map.symm)))))
  (ho : fU (fun p => ∃ o, st.h p.1 = some o ∧ Ole (fun i => i) o p.2) hout := by repeat (first | exact trivial | refine ⟨⟨_, rfl, by first | exact Go.AM.Ole.arr | exact Go.AM.Ole.var rfl | exact Go.AM.Ole.map | exact Go.AM.Ole.rarr rfl | exact Go.AM.Ole.arr1 | exact Go.AM.Ole.arrS (by first | assumption | (simp; done) | (simp; rfl) | (simp; omega)) | exact Go.AM.Ole.arrE (by first | assumption | (simp; done) | (simp; rfl) | (simp; omega)) | exact Go.AM.Ole.var (by first | (simp [Go.AM.R.renL, Go.AM.R.ren]; done) | (simp [Go.AM.R.renL, Go.AM.R.ren]; omega)) | exact Go.AM.Ole.mapE (by first | assumption | (simp; done) | (simp; rfl) | (simp; omega))⟩, ?_⟩))
  (hok : (subset res.refs (keys hout) && subset (eS hout) (keys hout) && distinct (keys hout) && subset (keys hin) (keys hout) && (hin.all fun p => p.2.plain) && (hout.all fun p => p.2.plain)) = true := by rfl) : (Exit.ret = .normal ∨ Exit.ret = .ret) ∧ Fin tr.flat fn st hin res hout :=
 ⟨.inr rfl, ⟨[v], [res], by rw [hr]; exact .cell ha (Tr.get_ok hw hi) hh hb hv .nil, .cons hc .nil, rfl⟩, ho, hok⟩
end
end Go.AM
namespace Go.AM
open Go
theorem fB {id : Nat} {o : AObj} {hin : List (Nat × AObj)} : look ((id, o) :: hin) = upd (look hin) id (some o) := by
 funext i;by_cases h : i = id
 ·subst h; rw [aC, jA]
 ·rw [aT _ _ _ h, rN h]
theorem Inv.emptyZ {G : Ctx} {S : Sto} {μ : Mu} {H : cH} {w : World} {id : Nat} (te es z : Nat) (h : Inv G S μ H w) (hid : H id = none) : Inv G S (upd μ id none) (upd H id (some (.arr te es [] z))) w ∧ Evolve S μ H S (upd μ id none) (upd H id (some (.arr te es [] z))) := by
 have hE : Evolve S μ H S (upd μ id none) (upd H id (some (.arr te es [] z))) := eB hid _ _;refine ⟨⟨h.holds, fun j x hj => ?_, fun i j x x' b c c' hi hj hm hm' => ?_, fun i x b c hi hm => ?_, h.frame, h.sle, h.sto, h.evo.trans hE, h.fre⟩, hE⟩
 ·by_cases hne : j = id
  ·subst hne;rw [aC] at hj; cases hj;exact ⟨by simp, .inl ⟨aC _ _ _, rfl⟩⟩
  ·rw [aT _ _ _ hne] at hj;exact (h.obj j x hj).evolve hE (aT _ _ _ hne) fun _ _ _ => ⟨rfl, fun _ => rfl, rfl⟩
 ·have h1 : i ≠ id := fun e => by subst e; rw [aC] at hm; cases hm
  have h2 : j ≠ id := fun e => by subst e; rw [aC] at hm'; cases hm'
  rw [aT _ _ _ h1] at hi hm;rw [aT _ _ _ h2] at hj hm';exact h.inj i j x x' b c c' hi hj hm hm'
 ·have h1 : i ≠ id := fun e => by subst e; rw [aC] at hm; cases hm
  rw [aT _ _ _ h1] at hi hm;exact h.own i x b c hi hm
theorem bN.nilArg {P : Program} {f : FuncId} {pre post : List V} {hin hout : List (Nat × AObj)} {res : V} {id te es z : Nat} (h : bN P f (pre ++ .one (.hs id 0 0 0) :: post) ((id, .arr te es [] z) :: hin) res hout) (hid : look hin id = none) : bN P f (pre ++ .one (.c .nl) :: post) hin res hout := by
 intro S μ w vals hI hv;obtain ⟨hi, hE⟩ := hI.emptyZ te es z hid;have hF : nL (upd μ id none) (look ((id, .arr te es [] z) :: hin)) = nL μ (look hin) := by
  funext b;rw [fB];refine propext ⟨?_, ?_⟩
  ·rintro ⟨j, o, c, h1, h2⟩;by_cases hj : j = id
   ·subst hj; rw [aC] at h2; cases h2
   ·rw [aT _ _ _ hj] at h1 h2; exact ⟨j, o, c, h1, h2⟩
  ·rintro ⟨j, o, c, h1, h2⟩;have hj : j ≠ id := fun e => by subst e; rw [hid] at h1; cases h1
   exact ⟨j, o, c, by rw [aT _ _ _ hj]; exact h1, by rw [aT _ _ _ hj]; exact h2⟩
 have hi' : Inv ⟨w, S, nL (upd μ id none) (look ((id, .arr te es [] z) :: hin)), upd μ id none, look ((id, .arr te es [] z) :: hin)⟩ S (upd μ id none) (look ((id, .arr te es [] z) :: hin)) w := by
  rw [hF, fB];exact ⟨hi.holds, hi.obj, hi.inj, hi.own, hi.frame, hi.sle, hi.sto, Evolve.refl _ _ _, hi.fre⟩
 have hv' : bO S (upd μ id none) (look ((id, .arr te es [] z) :: hin)) (pre ++ .one (.hs id 0 0 0) :: post) vals := by
  rw [fB];have key : ∀ (l : List V) (us : List Value), bO S μ (look hin) (l ++ .one (.c .nl) :: post) us → bO S (upd μ id none) (upd (look hin) id (some (.arr te es [] z))) (l ++ .one (.hs id 0 0 0) :: post) us := by
   intro l
   induction l with
   | nil =>
    intro us hu;simp only [nil_append, bO] at hu ⊢;obtain ⟨u, us', h1, h2, h3⟩ := hu;refine ⟨u, us', h1, ?_, bO.evolve hE _ _ h3⟩;simp only [aQ, b5, Rep] at h2 ⊢;exact ⟨⟨_, _, _, h2⟩, .inr ⟨te, es, [], z, aC _ _ _, le_refl _, fun _ => ⟨le_refl _, .inl ⟨aC _ _ _, rfl, h2⟩⟩⟩⟩
   | cons x l ih =>
    intro us hu;simp only [cons_append, bO] at hu ⊢;obtain ⟨u, us', h1, h2, h3⟩ := hu;exact ⟨u, us', h1, aQ.evolve hE _ _ h2, ih us' h3⟩
  exact key pre vals hv
 refine Calls.mono (h S (upd μ id none) w vals hi' hv') ?_;rintro e w' ⟨S', μ', v, h1, h2, h3⟩;refine ⟨S', μ', v, h1, ?_, h3⟩;rw [hF] at h2;refine ⟨h2.holds, h2.obj, h2.inj, h2.own, h2.frame, h2.sle, h2.sto, hE.trans ?_, h2.fre⟩;have := h2.evo;rwa [fB] at this
theorem bN.sub {P : Program} {f : FuncId} {args : List V} {hin hout hout' : List (Nat × AObj)} {res res' : V} (h : bN P f args hin res hout) (hs : Sub (keys hin) (mk [(0, res')] hout') (mk [(0, res)] hout)) : bN P f args hin res' hout' := by
 intro S μ w vals hI hv;refine Calls.mono (h S μ w vals hI hv) ?_;rintro e w' ⟨S', μ', v, h1, h2, h3⟩;have hkeep : Ctx.keeps ⟨w, S, nL μ (look hin), μ, look hin⟩ (keys hin) := rX
 obtain ⟨S2, μ2, g⟩ := hs _ 1 S' μ' ⟨#[v], []⟩ w' hkeep ⟨h2, rfl, rfl, fun t y e => by
  simp only [mk, look] at e;split at e
  ·rename_i hb;cases e;rw [eq_of_beq_eq_true hb];exact h3
  ·cases e⟩
 exact ⟨S2, μ2, v, h1, g.inv, g.env 0 res' rfl⟩
theorem bN.plain {P : Program} {f : FuncId} {args : List V} {id te es n : Nat} {rows : List (List C)} {fz : Nat} (h : bN P f args [] (.one (.hs id 0 n n)) [(id, .arr te es rows fz)]) (hn : n = rows.length) : bN P f args [] (.one (.c (.sl es rows))) [] := by
 refine h.sub ?_;have h1 : Sub [] ⟨look [(0, V.one (.hs id 0 n n))], upd (look [(id, AObj.arr te es rows fz)]) id (some (.arr te es rows 2)), []⟩ (mk [(0, .one (.hs id 0 n n))] [(id, .arr te es rows fz)]) := Sub.freeze (st := mk [(0, .one (.hs id 0 n n))] [(id, .arr te es rows fz)]) jA;refine Sub.trans (Sub.trans ?_ (Sub.conv (t := 0) (v := .one (.hs id 0 n n)) rfl (hs_all (aC _ _ _) rfl hn rfl))) h1;exact Sub.list (fun i => i) ⟨rfl, trivial⟩ trivial rfl
theorem Sub.varPure {kf : List Nat} {st : St} {x tv : Nat} {cells : List R} {ids : List Nat} {cs : List C} (h : st.h x = some (.var tv cells)) (hp : PureL st.h ids cells cs) : Sub kf ⟨st.e, upd st.h x (some (.var tv (cs.map R.c))), st.d⟩ st := by
 intro G n S μ a w _ hs;have hi := hs.inv;obtain ⟨b, vs, g1, g2, g3, g4⟩ := hi.obj x _ h
 have hE2 : Evolve S μ st.h S μ (upd st.h x (some (.var tv (cs.map R.c)))) := ⟨S.le_refl, fun j y hj => by
  by_cases hjx : j = x
  ·subst hjx;rw [h] at hj; cases hj;exact ⟨_, aC _ _ _, by simp [AObj.succ]⟩
  ·exact ⟨y, by rw [aT _ _ _ hjx]; exact hj, y.succ_refl rfl⟩⟩
 have hold : ∀ j y, upd st.h x (some (.var tv (cs.map R.c))) j = some y → ∃ y', st.h j = some y' := fun j y hj => by
  by_cases hjx : j = x
  ·subst hjx; exact ⟨_, h⟩
  ·rw [aT _ _ _ hjx] at hj; exact ⟨_, hj⟩
 refine ⟨S, μ, ⟨⟨hi.holds, fun j y hj => ?_, fun i j y y' b c c' hi' hj hm hm' => ?_, fun i y b c hi' hm => ?_, hi.frame, hi.sle, hi.sto, hi.evo.trans hE2, hi.fre⟩, hs.size, hs.defers.evolve hE2, fun s v e => aQ.evolve hE2 v _ (hs.env s v e)⟩⟩
 ·by_cases hjx : j = x
  ·subst hjx;have hj' : some (AObj.var tv (cs.map R.c)) = some y := by rw [← hj]; exact (aC _ _ _).symm
   cases hj';exact ⟨b, vs, g1, g2, (hp.rel (fun _ _ => rfl) hi.obj g3).toR, g4⟩
  ·have hj' : st.h j = some y := by rw [← hj]; exact (aT _ _ _ hjx).symm
   exact (hi.obj j y hj').evolve hE2 rfl fun _ _ _ => ⟨rfl, fun _ => rfl, rfl⟩
 ·obtain ⟨_, h1⟩ := hold _ _ hi';obtain ⟨_, h2⟩ := hold _ _ hj;exact hi.inj i j _ _ b c c' h1 h2 hm hm'
 ·obtain ⟨_, h1⟩ := hold _ _ hi';exact hi.own i _ b c h1 hm
theorem vp {kf : List Nat} {st : St} (x : Nat) {tv : Nat} {cells : List R} (cs : List C) {ids : List Nat} (h : st.h x = some (.var tv cells) := by rfl)
  (hp : PureL st.h ids cells cs := by repeat (first | exact .nil | apply Go.AM.PureL.c .refl | apply Go.AM.PureL.c .nl | apply Go.AM.PureL.c .sn | (apply Go.AM.PureL.hs; rfl; (first | rfl | assumption | (simp; done) | (simp; omega)); (first | rfl | exact Go.AM.take_all (by first | assumption | rfl | (simp; done) | (simp; omega)) | exact Go.AM.take_map.symm)))) : Sub kf ⟨st.e, upd st.h x (some (.var tv (cs.map R.c))), st.d⟩ st := Sub.varPure h hp
theorem cv {kf : List Nat} {st : St} (t : Nat) {id te es n sz : Nat} {l : List (List C)} (l' : List (List C)) (h : st.e t = some (.one (.hs id 0 n sz)) := by rfl) (hh : st.h id = some (.arr te es l 2) := by rfl) (h1 : n = l.length := by first | rfl | assumption | (simp; done) | (simp; omega)) (h2 : sz = l.length := by first | rfl | assumption | (simp; done) | (simp; omega)) (h3 : l = l' := by first | rfl | assumption | (simp; done)) : Sub kf ⟨upd st.e t (some (.one (.c (.sl es l')))), st.h, st.d⟩ st := by
 subst h3;exact Sub.conv h (.one (.hs hh h2 (by rw [h1, drop_zero, take_length]) .nil))
theorem aJl {T : TT} {fn : Func} {st : St} {hin hout : List (Nat × AObj)} {k : Nat} {o : AObj} {res : V} (o' : AObj) (hr : ∀ x ∈ o.refs, x ∈ o'.refs) (hex : ∃ vs vs', ResV T st fn.results.toList vs ∧ Convs st.h vs vs' ∧ yJ vs' = res) (ho : fU (fun p => ∃ o, st.h p.1 = some o ∧ Ole (fun i => i) o p.2) ((k, o) :: hout)) (hp : o.plain = true)
  (hok : (subset res.refs (keys ((k, o') :: hout)) && subset (eS ((k, o') :: hout)) (keys ((k, o') :: hout)) && distinct (keys ((k, o') :: hout)) && subset (keys hin) (keys ((k, o') :: hout)) && (hin.all fun p => p.2.plain) && (((k, o') :: hout).all fun p => p.2.plain)) = true) : Fin T fn st hin res ((k, o) :: hout) := by
 refine ⟨hex, ho, ?_⟩;simp only [Bool.and_eq_true] at hok ⊢;obtain ⟨⟨⟨⟨⟨k1, k2⟩, k3⟩, k4⟩, k5⟩, k6⟩ := hok;refine ⟨⟨⟨⟨⟨k1, yP hr k2⟩, k3⟩, k4⟩, k5⟩, ?_⟩;simp only [all_cons, Bool.and_eq_true] at k6 ⊢;exact ⟨hp, k6.2⟩
end Go.AM
namespace Go.Proofs.YtlegeikmepnmcaaDoor
open Go Go.AM
def zl_ : Tr := .leaf none
def zl0 : Tr := .leaf (some ⟨.fn, 1, 8, [.zv 1]⟩)
def zl1 : Tr := .leaf (some ⟨.int .u8, 1, 1, [.int .u8 0]⟩)
def zl2 : Tr := .leaf (some ⟨.str, 1, 16, [.str []]⟩)
def zl3 : Tr := .leaf (some ⟨.int .u64, 1, 8, [.int .u64 0]⟩)
def zl4 : Tr := .leaf (some ⟨.int .i32, 1, 4, [.int .i32 0]⟩)
def tr : Tr :=
 .node 70 (.node 35 (.node 17 (.node 8 (.node 4 (.node 2 (.node 1 zl_ zl0) (.node 1 (.leaf (some ⟨.int .i64, 1, 8, [.int .i64 0]⟩)) (.leaf (some ⟨.int .i64, 1, 8, [.int .i64 0]⟩)))) (.node 2 (.node 1 (.leaf (some ⟨.bool, 1, 1, [.bool false]⟩)) zl1) (.node 1 zl1 (.leaf (some ⟨.st [(0, 2), (1, 3), (2, 4), (3, 6)], 4, 24, [.int .i64 0, .int .i64 0, .bool false, .int .u8 0]⟩))))) (.node 4 (.node 2 (.node 1 (.leaf (some ⟨.st [(0, 2), (1, 3), (2, 4), (3, 6)], 4, 24, [.int .i64 0, .int .i64 0, .bool false, .int .u8 0]⟩)) zl2) (.node 1 zl2 zl2)) (.node 2 (.node 1 zl3 (.leaf (some ⟨.st [(0, 9), (1, 12)], 2, 24, [.str [], .int .u64 0]⟩))) (.node 1 (.leaf (some ⟨.st [(0, 9), (1, 12)], 2, 24, [.str [], .int .u64 0]⟩)) (.node 1 (.leaf (some ⟨.pt 127, 1, 8, [.np]⟩)) (.leaf (some ⟨.pt 130, 1, 8, [.np]⟩))))))) (.node 9 (.node 4 (.node 2 (.node 1 (.leaf (some ⟨.pt 138, 1, 8, [.np]⟩)) (.leaf (some ⟨.st [(0, 17)], 1, 8, [.np]⟩))) (.node 1 (.leaf (some ⟨.st [(0, 17)], 1, 8, [.np]⟩)) zl_)) (.node 2 (.node 1 zl4 (.leaf (some ⟨.sl 23, 1, 24, [.nl]⟩))) (.node 1 (.leaf (some ⟨.sl 3, 1, 24, [.nl]⟩)) (.node 1 (.leaf (some ⟨.sl 40, 1, 24, [.nl]⟩)) zl0)))) (.node 4 (.node 2 (.node 1 (.leaf (some ⟨.sl 46, 1, 24, [.nl]⟩)) zl0) (.node 1 zl0 zl0)) (.node 2 (.node 1 zl0 (.leaf (some ⟨.sl 9, 1, 24, [.nl]⟩))) (.node 1 (.leaf (some ⟨.sl 34, 1, 24, [.nl]⟩)) (.node 1 (.leaf (some ⟨.st [(0, 3), (1, 3), (2, 9), (3, 32)], 4, 56, [.int .i64 0, .int .i64 0, .str [], .nl]⟩)) (.leaf (some ⟨.st [(0, 3), (1, 3), (2, 9), (3, 32)], 4, 56, [.int .i64 0, .int .i64 0, .str [], .nl]⟩)))))))) (.node 17 (.node 8 (.node 4 (.node 2 (.node 1 (.leaf (some ⟨.sl 38, 1, 24, [.nl]⟩)) (.leaf (some ⟨.sl 65, 1, 24, [.nl]⟩))) (.node 1 (.leaf (some ⟨.st [(0, 3), (1, 3), (2, 9), (3, 34), (7, 35), (8, 26), (9, 36)], 10, 160, [.int .i64 0, .int .i64 0, .str [], .int .i64 0, .int .i64 0, .str [], .nl, .nl, .nl, .nl]⟩)) (.leaf (some ⟨.st [(0, 3), (1, 3), (2, 9), (3, 34), (7, 35), (8, 26), (9, 36)], 10, 160, [.int .i64 0, .int .i64 0, .str [], .int .i64 0, .int .i64 0, .str [], .nl, .nl, .nl, .nl]⟩)))) (.node 2 (.node 1 (.leaf (some ⟨.st [(0, 9), (1, 31), (2, 38)], 12, 200, [.str [], .nl, .int .i64 0, .int .i64 0, .str [], .int .i64 0, .int .i64 0, .str [], .nl, .nl, .nl, .nl]⟩)) (.leaf (some ⟨.st [(0, 9), (1, 31), (2, 38)], 12, 200, [.str [], .nl, .int .i64 0, .int .i64 0, .str [], .int .i64 0, .int .i64 0, .str [], .nl, .nl, .nl, .nl]⟩))) (.node 1 zl0 zl0))) (.node 4 (.node 2 (.node 1 zl0 zl0) (.node 1 (.leaf (some ⟨.st [(0, 9), (1, 34), (5, 38)], 15, 232, [.str [], .int .i64 0, .int .i64 0, .str [], .nl, .int .i64 0, .int .i64 0, .str [], .int .i64 0, .int .i64 0, .str [], .nl, .nl, .nl, .nl]⟩)) (.leaf (some ⟨.st [(0, 9), (1, 34), (5, 38)], 15, 232, [.str [], .int .i64 0, .int .i64 0, .str [], .nl, .int .i64 0, .int .i64 0, .str [], .int .i64 0, .int .i64 0, .str [], .nl, .nl, .nl, .nl]⟩)))) (.node 2 (.node 1 zl0 zl0) (.node 1 zl_ (.node 1 zl0 zl_))))) (.node 9 (.node 4 (.node 2 (.node 1 zl0 zl0) (.node 1 zl0 zl0)) (.node 2 (.node 1 zl0 zl0) (.node 1 (.leaf (some ⟨.mp 9 3, 1, 8, [.zv 0]⟩)) (.node 1 (.leaf (some ⟨.mp 9 3, 1, 8, [.zv 0]⟩)) zl0)))) (.node 4 (.node 2 (.node 1 zl0 zl0) (.node 1 zl0 (.leaf (some ⟨.st [(0, 3), (1, 3), (2, 9), (3, 31), (4, 38)], 14, 216, [.int .i64 0, .int .i64 0, .str [], .nl, .int .i64 0, .int .i64 0, .str [], .int .i64 0, .int .i64 0, .str [], .nl, .nl, .nl, .nl]⟩)))) (.node 2 (.node 1 (.leaf (some ⟨.st [(0, 3), (1, 3), (2, 9), (3, 31), (4, 38)], 14, 216, [.int .i64 0, .int .i64 0, .str [], .nl, .int .i64 0, .int .i64 0, .str [], .int .i64 0, .int .i64 0, .str [], .nl, .nl, .nl, .nl]⟩)) (.leaf (some ⟨.pt 69, 1, 8, [.np]⟩))) (.node 1 zl0 (.node 1 (.leaf (some ⟨.st [(0, 23), (1, 3)], 2, 32, [.nl, .int .i64 0]⟩)) (.leaf (some ⟨.st [(0, 23), (1, 3)], 2, 32, [.nl, .int .i64 0]⟩))))))))) (.node 35 (.node 17 (.node 8 (.node 4 (.node 2 (.node 1 zl0 zl0) (.node 1 zl0 (.leaf (some ⟨.pt 75, 1, 8, [.np]⟩)))) (.node 2 (.node 1 (.leaf (some ⟨.st [(0, 9), (1, 24)], 2, 40, [.str [], .nl]⟩)) (.leaf (some ⟨.st [(0, 9), (1, 24)], 2, 40, [.str [], .nl]⟩))) (.node 1 zl0 zl0))) (.node 4 (.node 2 (.node 1 zl0 zl0) (.node 1 (.leaf (some ⟨.mp 9 81, 1, 8, [.zv 0]⟩)) (.leaf (some ⟨.st [], 0, 0, []⟩)))) (.node 2 (.node 1 zl0 zl0) (.node 1 (.leaf (some ⟨.sl 88, 1, 24, [.nl]⟩)) (.node 1 zl0 (.leaf (some ⟨.pt 38, 1, 8, [.np]⟩))))))) (.node 9 (.node 4 (.node 2 (.node 1 (.leaf (some ⟨.st [(0, 86), (1, 31)], 2, 32, [.np, .nl]⟩)) (.leaf (some ⟨.st [(0, 86), (1, 31)], 2, 32, [.np, .nl]⟩))) (.node 1 zl0 zl0)) (.node 2 (.node 1 zl0 zl0) (.node 1 zl0 (.node 1 zl0 (.leaf (some ⟨.sl 5, 1, 24, [.nl]⟩)))))) (.node 4 (.node 2 (.node 1 zl0 zl0) (.node 1 zl0 zl0)) (.node 2 (.node 1 zl0 zl0) (.node 1 zl0 (.node 1 (.leaf (some ⟨.pt 31, 1, 8, [.np]⟩)) zl0)))))) (.node 17 (.node 8 (.node 4 (.node 2 (.node 1 (.leaf (some ⟨.sl 31, 1, 24, [.nl]⟩)) zl0) (.node 1 zl0 zl_)) (.node 2 (.node 1 zl3 zl0) (.node 1 zl0 zl_))) (.node 4 (.node 2 (.node 1 zl0 zl0) (.node 1 zl0 zl_)) (.node 2 (.node 1 (.leaf (some ⟨.int .u32, 1, 4, [.int .u32 0]⟩)) zl_) (.node 1 zl0 (.node 1 zl3 zl0))))) (.node 9 (.node 4 (.node 2 (.node 1 zl0 zl_) (.node 1 zl_ zl0)) (.node 2 (.node 1 (.leaf (some ⟨.st [(0, 17), (1, 17), (2, 17), (3, 9)], 4, 40, [.np, .np, .np, .str []]⟩)) (.leaf (some ⟨.st [(0, 17), (1, 17), (2, 17), (3, 9)], 4, 40, [.np, .np, .np, .str []]⟩))) (.node 1 (.leaf (some ⟨.ar 0 16, 0, 0, []⟩)) (.node 1 (.leaf (some ⟨.st [(0, 128)], 0, 0, []⟩)) (.leaf (some ⟨.st [(0, 128)], 0, 0, []⟩)))))) (.node 4 (.node 2 (.node 1 zl1 zl1) (.node 1 zl0 (.leaf (some ⟨.pt 5, 1, 8, [.np]⟩)))) (.node 2 (.node 1 zl4 zl4) (.node 1 (.leaf (some ⟨.st [(0, 12), (1, 12), (2, 117), (3, 131), (4, 5), (5, 5), (6, 132), (7, 133), (8, 134), (9, 135), (10, 136)], 11, 48, [.int .u64 0, .int .u64 0, .int .u32 0, .int .u8 0, .int .u8 0, .int .u8 0, .int .u8 0, .zv 1, .np, .int .i32 0, .int .i32 0]⟩)) (.node 1 (.leaf (some ⟨.st [(0, 12), (1, 12), (2, 117), (3, 131), (4, 5), (5, 5), (6, 132), (7, 133), (8, 134), (9, 135), (10, 136)], 11, 48, [.int .u64 0, .int .u64 0, .int .u32 0, .int .u8 0, .int .u8 0, .int .u8 0, .int .u8 0, .zv 1, .np, .int .i32 0, .int .i32 0]⟩)) zl_)))))))
theorem trw : tr.wf = true := by kernel_rfl
theorem tok : Tok Tryd.prog tr.flat := by unfold Tok; kernel_rfl
theorem tg {t : Nat} {i : TI} (h : tr.get t = some i) : tr.flat[t]? = some (some i) := Tr.get_ok trw h
theorem mixed : Tryd.prog.follows .mixedOrders = true := by kernel_rfl
section
variable {ro : Option Nat} {n : Nat} {ops : Array Oper} {draw : Bool} {k k' : Nat} {e : Nat → Option V} {h0 : cH} {d0 : List Nat} {st' : St} {pre pre' : REs} {tr' : Tr} {ob : List Prop} {kf : List Nat} {id : Nat}
theorem ag {Q : Exit → St → Prop} (hs : List (Nat × Hn)) (h : uS Tryd.prog tr true false n ops.toList hs 1000 0 ops.toList e h0 d0 [] [] = some (st', k', pre', ob)) (hq : Q .normal st')
  (hc : gF ob := by repeat (first | exact trivial | refine ⟨by first | omega | assumption | exact ⟨by kernel_rfl, by assumption⟩ | rfl | (simp only [List.length_cons, List.length_nil]; omega) | (simp; done) | (simp; omega), ?_⟩)) (h1 : Nat.beq k' ops.size = true := by rfl) (h2 : (!draw || (eQ (nN ops) pre'.reverse [] && hJ ops)) = true := by kernel_rfl) : AWp ro Tryd.prog n kf (.region id ops draw) ⟨e, h0, d0⟩ Q :=
 aEp mixed trw tok h hc h1 h2 hq
theorem agN {Q : Exit → St → Prop} (hs : List (Nat × Hn)) (h : uS Tryd.prog tr true true n ops.toList hs 1000 0 ops.toList e h0 d0 [] [] = some (st', k', pre', ob)) (hq : Q .normal st')
  (hc : gF ob := by repeat (first | exact trivial | refine ⟨by first | omega | assumption | exact ⟨by kernel_rfl, by assumption⟩ | rfl | (simp only [List.length_cons, List.length_nil]; omega) | (simp; done) | (simp; omega), ?_⟩)) (h1 : Nat.beq k' ops.size = true := by rfl) (h2 : (!draw || (eQ (nN ops) pre'.reverse [] && hJ ops)) = true := by kernel_rfl) : AWp ro Tryd.prog n kf (.region id ops draw) ⟨e, h0, d0⟩ Q :=
 aEp mixed trw tok h hc h1 h2 hq
theorem ak {Q : St → Prop} (m : Nat) (hs : List (Nat × Hn)) (h : uS Tryd.prog tr true false n ops.toList hs m k (ops.toList.drop k) e h0 d0 pre [] = some (st', k', pre', ob)) (hk : lC Tryd.prog n ops draw k' st' pre' Q)
  (hc : gF ob := by repeat (first | exact trivial | refine ⟨by first | omega | assumption | exact ⟨by kernel_rfl, by assumption⟩ | rfl | (simp only [List.length_cons, List.length_nil]; omega) | (simp; done) | (simp; omega), ?_⟩)) : lC Tryd.prog n ops draw k ⟨e, h0, d0⟩ pre Q :=
 ax_ m trw tok h hc hk
theorem akN {Q : St → Prop} (m : Nat) (hs : List (Nat × Hn)) (h : uS Tryd.prog tr true true n ops.toList hs m k (ops.toList.drop k) e h0 d0 pre [] = some (st', k', pre', ob)) (hk : lC Tryd.prog n ops draw k' st' pre' Q)
  (hc : gF ob := by repeat (first | exact trivial | refine ⟨by first | omega | assumption | exact ⟨by kernel_rfl, by assumption⟩ | rfl | (simp only [List.length_cons, List.length_nil]; omega) | (simp; done) | (simp; omega), ?_⟩)) : lC Tryd.prog n ops draw k ⟨e, h0, d0⟩ pre Q :=
 ax_ m trw tok h hc hk
theorem agF {Q : Exit → St → Prop} {e1 : Nat → Option V} {hh1 : cH} {d1 : List Nat} {ob1 : List Prop} {res : Res} {L : List (Nat × Option V)} (m : Nat) (hs : List (Nat × Hn)) (g1 : uS Tryd.prog tr true false n ops.toList hs m 0 ops.toList e h0 d0 [] [] = some (⟨e1, hh1, d1⟩, k', pre', ob1))
  (g2 : kD Tryd.prog tr true false n ops.toList hs (aGf (ops.toList.drop k')) 1000 k' (ops.toList.drop k') e1 hh1 d1 [] pre' ob1 = some res) (g3 : mU res (aGf (ops.toList.drop k')) = some L) (hq : Q .normal ⟨j8 e1 L, hh1, d1⟩)
  (ho : res.obs := by repeat (first | exact trivial | refine ⟨fun _ => ?_, fun _ => ?_⟩ | refine ⟨by first | omega | assumption | exact ⟨by kernel_rfl, by assumption⟩ | rfl | (simp only [List.length_cons, List.length_nil]; omega) | (simp; done) | (simp; omega), ?_⟩)) (hg : res.good ops draw = true := by kernel_rfl) : AWp ro Tryd.prog n kf (.region id ops draw) ⟨e, h0, d0⟩ Q :=
 aF9 m mixed trw tok g1 g2 g3 ho hg hq
theorem az {Q : St → Prop} (hq : Q ⟨e, h0, d0⟩) (h1 : Nat.beq k ops.size = true := by rfl) (h2 : (!draw || (eQ (nN ops) pre.reverse [] && hJ ops)) = true := by kernel_rfl) : lC Tryd.prog n ops draw k ⟨e, h0, d0⟩ pre Q := z_ h1 h2 hq
end
set_option maxRecDepth 20000
abbrev Str := List UInt8
def bF (s : Str) : List C := [.str s]
inductive Ty where
 | mk (form n : Int) (name : Str) (args : List Ty)
mutual
inductive Core where
 | mk (form n : Int) (name : Str) (ty : Ty) (kids : List Core) (binds : List Bind) (alts : List Alt)
inductive Bind where
 | mk (name : Str) (ty : Ty) (body : Core)
inductive Alt where
 | mk (form n : Int) (name : Str) (vars : List Str) (body : Core)
end
def Ty.form : Ty → Int | .mk f _ _ _ => f
def Ty.n : Ty → Int | .mk _ n _ _ => n
def Ty.name : Ty → Str | .mk _ _ s _ => s
def Ty.args : Ty → List Ty | .mk _ _ _ l => l
def Core.form : Core → Int | .mk f _ _ _ _ _ _ => f
def Core.n : Core → Int | .mk _ n _ _ _ _ _ => n
def Core.name : Core → Str | .mk _ _ s _ _ _ _ => s
def Core.ty : Core → Ty | .mk _ _ _ t _ _ _ => t
def Core.kids : Core → List Core | .mk _ _ _ _ l _ _ => l
def Core.binds : Core → List Bind | .mk _ _ _ _ _ l _ => l
def Bind.name : Bind → Str | .mk s _ _ => s
def Bind.ty : Bind → Ty | .mk _ t _ => t
def Bind.body : Bind → Core | .mk _ _ c => c
def Alt.form : Alt → Int | .mk f _ _ _ _ => f
def Alt.n : Alt → Int | .mk _ n _ _ _ => n
def Alt.name : Alt → Str | .mk _ _ s _ _ => s
def Alt.vars : Alt → List Str | .mk _ _ _ l _ => l
def Alt.body : Alt → Core | .mk _ _ _ _ c => c
mutual
def eV : Ty → List (List C)
 | .mk _ _ _ a => sG a
def sG : List Ty → List (List C)
 | [] => []
 | t :: l => [.int .i64 t.form, .int .i64 t.n, .str t.name, .sl 4 (eV t)] :: sG l
end
def n9 (t : Ty) : List C := [.int .i64 t.form, .int .i64 t.n, .str t.name, .sl 4 (eV t)]
mutual
def iM : Core → List (List C)
 | .mk _ _ _ _ l _ _ => bB l
def kZ : Core → List (List C)
 | .mk _ _ _ _ _ l _ => aP l
def j1 : Core → List (List C)
 | .mk _ _ _ _ _ _ l => bH l
def bB : List Core → List (List C)
 | [] => []
 | c :: l => [.int .i64 c.form, .int .i64 c.n, .str c.name, .int .i64 c.ty.form, .int .i64 c.ty.n, .str c.ty.name, .sl 4 (eV c.ty), .sl 10 (iM c), .sl 15 (kZ c), .sl 14 (j1 c)] :: bB l
def uB : Bind → List C
 | .mk _ _ c => [.int .i64 c.form, .int .i64 c.n, .str c.name, .int .i64 c.ty.form, .int .i64 c.ty.n, .str c.ty.name, .sl 4 (eV c.ty), .sl 10 (iM c), .sl 15 (kZ c), .sl 14 (j1 c)]
def aP : List Bind → List (List C)
 | [] => []
 | b :: l => ([.str b.name, .int .i64 b.ty.form, .int .i64 b.ty.n, .str b.ty.name, .sl 4 (eV b.ty)] ++ uB b) :: aP l
def uA : Alt → List C
 | .mk _ _ _ _ c => [.int .i64 c.form, .int .i64 c.n, .str c.name, .int .i64 c.ty.form, .int .i64 c.ty.n, .str c.ty.name, .sl 4 (eV c.ty), .sl 10 (iM c), .sl 15 (kZ c), .sl 14 (j1 c)]
def bH : List Alt → List (List C)
 | [] => []
 | a :: l => ([.int .i64 a.form, .int .i64 a.n, .str a.name, .sl 1 (a.vars.map bF)] ++ uA a) :: bH l
end
def aE (c : Core) : List C := [.int .i64 c.form, .int .i64 c.n, .str c.name, .int .i64 c.ty.form, .int .i64 c.ty.n, .str c.ty.name, .sl 4 (eV c.ty), .sl 10 (iM c), .sl 15 (kZ c), .sl 14 (j1 c)]
def aK (b : Bind) : List C := [.str b.name, .int .i64 b.ty.form, .int .i64 b.ty.n, .str b.ty.name, .sl 4 (eV b.ty)] ++ aE b.body
def cL (a : Alt) : List C := [.int .i64 a.form, .int .i64 a.n, .str a.name, .sl 1 (a.vars.map bF)] ++ aE a.body
theorem c6 {α : Type} {l : List α} {k : Nat} {x : α} (f : α → List C) (h : l[k]? = some x) : (l.map f)[k]? = some (f x) := by rw [List.getElem?_map, h]; rfl
theorem aI {α : Type} {l : List α} {k : Nat} (h : k < l.length) : ∃ x, l[k]? = some x := ⟨l[k], by simp [h]⟩
theorem b9 : ∀ l : List Core, bB l = l.map aE
 | [] => by simp [bB]
 | c :: l => by rw [bB, b9 l]; rfl
theorem aU : ∀ l : List Bind, aP l = l.map aK
 | [] => by simp [aP]
 | .mk s t c :: l => by rw [aP, aU l]; rfl
theorem aV : ∀ l : List Alt, bH l = l.map cL
 | [] => by simp [bH]
 | .mk f n s v c :: l => by rw [bH, aV l]; rfl
theorem oJ (c : Core) : iM c = c.kids.map aE := by cases c; rw [iM, b9]; rfl
def few (c : Core) : Bool := if c.form = 4 ∨ c.form = 10 then decide ((c.kids.length : Int) < 2) else decide (c.form = 5 ∨ c.form = 6 ∨ c.form = 7 ∨ c.form = 8 ∨ c.form = 9) && decide ((c.kids.length : Int) < 1)
theorem aI8 (c : Core) : bN Tryd.prog 29 [.pa (aE c)] [] (B (few c)) [] := by
 refine cT (n := 46) tok Tryd.func29 rfl rfl rfl ?_;refine a8 (ag [] rfl ?_);refine a8 (ag [] rfl ?_);refine a8 (a8 (agF 4 [] rfl rfl rfl ?_));refine aA rfl (fun hb => ?_) (fun hb => ?_)
 ·refine a8 (ag [] rfl ?_);refine aF ?_;have : c.form = 4 ∨ c.form = 10 := by simpa using hb
  exact ⟨.inr rfl, ⟨_, _, .tmp rfl .nil, .cons .refl .nil, by simp [yJ, few, this, oJ]⟩, trivial, rfl⟩
 ·refine aD ?_;have h1 : ¬ (c.form = 4 ∨ c.form = 10) := by simpa using hb
  refine a8 (agF 4 [] rfl rfl rfl ?_);refine a8 (agF 2 [] rfl rfl rfl ?_);refine aF ?_;exact ⟨.inr rfl, ⟨_, _, .tmp rfl .nil, .cons .refl .nil, by simp [yJ, few, h1, oJ]⟩, trivial, rfl⟩
def Fits {α : Type} (l : List α) : Prop := l.length ≤ 1152921504606846976
theorem nE (l : List Str) (s : Str) (hl : Fits l) : bN Tryd.prog 20 [.one (.c (.sl 1 (l.map bF))), Go.AM.T s] [] (B (decide (s ∈ l))) [] := by
 unfold Fits at hl;refine cT (n := 18) tok Tryd.func20 rfl rfl rfl ?_;refine a8 (ag [] rfl ?_);refine a8 (a8 (ag [] rfl ?_));refine aB (aL (fun k : Nat => mk [(0, .one (.c (.sl 1 (l.map bF)))), (1, Go.AM.T s), (5, I .i64 k)] []) (fun k => k ≤ l.length ∧ s ∉ l.take k) (fun k => l.length - k) 0 ⟨zero_le _, by simp⟩ (.list (fun i => i) ⟨rfl, rfl, rfl, trivial⟩ trivial rfl) ?_);intro k ⟨hk, hm⟩;refine a8 (a8 (ag [] rfl ?_));refine aA rfl (fun hb => ?_) (fun hb => ?_)
 ·refine aD ?_;have hlt : k < l.length := by simpa using hb
  obtain ⟨x, hx⟩ := aI hlt;have hx' := c6 bF hx;refine a8 (aB (a8 (ag [(2, .row k (bF x))] rfl ?_)));refine aA rfl (fun hb => ?_) (fun hb => ?_)
  ·refine a8 (ag [] rfl ?_);refine aF ?_;have hxs : x = s := by simpa using hb
   have : s ∈ l := by rw [← hxs]; exact List.mem_of_getElem? hx
   exact ⟨.inr rfl, ⟨_, _, .tmp rfl .nil, .cons .refl .nil, by simp [yJ, this]⟩, trivial, rfl⟩
  ·refine aD (ag [] rfl ?_);refine ⟨k + 1, ⟨hlt, ?_⟩, by dsimp only; omega, .list (fun i => i) ⟨rfl, rfl, rfl, trivial⟩ trivial rfl⟩;rw [List.take_add_one, hx];have hxs : ¬ x = s := by simpa using hb
   have hxs' : ¬ s = x := fun e => hxs e.symm
   simp [hm, hxs']
 ·refine aM ?_;have hge : k = l.length := by
   have : ¬ k < l.length := by simpa using hb
   omega
  refine a8 (ag [] rfl ?_);refine aF ?_;rw [hge, take_length] at hm;exact ⟨.inr rfl, ⟨_, _, .tmp rfl .nil, .cons .refl .nil, by simp [yJ, hm]⟩, trivial, rfl⟩
def kE (n k : Int) : Int := (if n < 0 then -(n + 1) else n) % k
def i64 (n : Int) : Prop := -9223372036854775808 ≤ n ∧ n ≤ 9223372036854775807
theorem cP (n : Int) {k : Int} (hk : 0 < k) : 0 ≤ kE n k ∧ kE n k < k := ⟨Int.emod_nonneg _ (by omega), Int.emod_lt_of_pos _ hk⟩
theorem hP (n k : Int) (hn : i64 n) (hk : 1 ≤ k) : bN Tryd.prog 9 [I .i64 n, I .i64 k] [] (I .i64 (kE n k)) [] := by
 unfold i64 at hn;refine cT (n := 13) tok Tryd.func9 rfl rfl rfl ?_;refine a8 (ag [] rfl ?_);refine a8 (a8 (ag [] rfl ?_));refine aA rfl (fun hb => ?_) (fun hb => ?_)
 ·have h0 : n < 0 := by simpa using hb
  refine ag [] rfl ?_;refine a8 (ag [] rfl ?_);refine aF ?_;exact ⟨.inr rfl, ⟨_, _, .tmp rfl .nil, .cons .refl .nil, by simp [yJ, kE, h0]⟩, trivial, rfl⟩
 ·have h0 : ¬ n < 0 := by simpa using hb
  refine aD (a8 (ag [] rfl ?_));refine aF ?_;exact ⟨.inr rfl, ⟨_, _, .tmp rfl .nil, .cons .refl .nil, by simp [yJ, kE, h0]⟩, trivial, rfl⟩
def aAc (n : Int) : List C := [.int .i64 n]
def oneOf (l : List Str) (n : Int) : Str := (l[(kE n l.length).toNat]?).getD []
theorem lY {l : List Str} {n : Int} {k : Nat} (hl : 0 < l.length) (h : kE n l.length = k) : (l.map bF)[k]? = some (bF (oneOf l n)) := by
 have h1 := (cP n (k := l.length) (by omega)).2
 have hk : k < l.length := by omega
 unfold oneOf;rw [h];simp [hk]
def nmL : List Str := [[120], [121], [97], [98], [122, 64, 49]]
def aC8 : List Str := [[78], [67], [84, 114, 117, 101], [75, 64]]
def tU : List Str := [[97, 100, 100], [115, 117, 98], [109, 117, 108], [100, 105, 118], [101, 113], [108, 116]]
def tK : List Str := [[97], [98], [99], [120]]
theorem sP (n : Int) (hn : i64 n) : bN Tryd.prog 50 [I .i64 n] [] (Go.AM.T (oneOf nmL n)) [] := by
 refine cT (n := 8) tok Tryd.func50 rfl rfl rfl ?_;refine a8 (ag [] rfl ?_);obtain ⟨k, hk⟩ := Int.eq_ofNat_of_zero_le (cP n (k := 5) (by omega)).1;have hx := lY (l := nmL) (n := n) (by decide) hk;have hlt := (cP n (k := 5) (by omega)).2
 refine a8 (aJ mixed ?_);refine ak 2 [] rfl ?_;refine kc (hP n 5 hn (by omega)) ?_;refine ak 3 [(3, .row k []), (4, .row k (bF (oneOf nmL n)))] rfl ?_;refine az ?_;refine aF ?_;exact ⟨.inr rfl, ⟨_, _, .tmp rfl .nil, .cons .refl .nil, rfl⟩, trivial, rfl⟩
theorem aDe (n : Int) (hn : i64 n) : bN Tryd.prog 51 [I .i64 n] [] (Go.AM.T (oneOf aC8 n)) [] := by
 refine cT (n := 8) tok Tryd.func51 rfl rfl rfl ?_;refine a8 (ag [] rfl ?_);obtain ⟨k, hk⟩ := Int.eq_ofNat_of_zero_le (cP n (k := 4) (by omega)).1;have hx := lY (l := aC8) (n := n) (by decide) hk;have hlt := (cP n (k := 4) (by omega)).2
 refine a8 (aJ mixed ?_);refine ak 2 [] rfl ?_;refine kc (hP n 4 hn (by omega)) ?_;refine ak 3 [(3, .row k []), (4, .row k (bF (oneOf aC8 n)))] rfl ?_;refine az ?_;refine aF ?_;exact ⟨.inr rfl, ⟨_, _, .tmp rfl .nil, .cons .refl .nil, rfl⟩, trivial, rfl⟩
theorem aHu (n : Int) (hn : i64 n) : bN Tryd.prog 55 [I .i64 n] [] (Go.AM.T (oneOf tU n)) [] := by
 refine cT (n := 8) tok Tryd.func55 rfl rfl rfl ?_;refine a8 (ag [] rfl ?_);obtain ⟨k, hk⟩ := Int.eq_ofNat_of_zero_le (cP n (k := 6) (by omega)).1;have hx := lY (l := tU) (n := n) (by decide) hk;have hlt := (cP n (k := 6) (by omega)).2
 refine a8 (aJ mixed ?_);refine ak 2 [] rfl ?_;refine kc (hP n 6 hn (by omega)) ?_;refine ak 3 [(3, .row k []), (4, .row k (bF (oneOf tU n)))] rfl ?_;refine az ?_;refine aF ?_;exact ⟨.inr rfl, ⟨_, _, .tmp rfl .nil, .cons .refl .nil, rfl⟩, trivial, rfl⟩
theorem l6 (n : Int) (hn : i64 n) : bN Tryd.prog 53 [I .i64 n] [] (Go.AM.T (oneOf tK n)) [] := by
 refine cT (n := 8) tok Tryd.func53 rfl rfl rfl ?_;refine a8 (ag [] rfl ?_);obtain ⟨k, hk⟩ := Int.eq_ofNat_of_zero_le (cP n (k := 4) (by omega)).1;have hx := lY (l := tK) (n := n) (by decide) hk;have hlt := (cP n (k := 4) (by omega)).2
 refine a8 (aJ mixed ?_);refine ak 2 [] rfl ?_;refine kc (hP n 4 hn (by omega)) ?_;refine ak 3 [(3, .row k []), (4, .row k (bF (oneOf tK n)))] rfl ?_;refine az ?_;refine aF ?_;exact ⟨.inr rfl, ⟨_, _, .tmp rfl .nil, .cons .refl .nil, rfl⟩, trivial, rfl⟩
def aGc (a b : Ty) : Ty := .mk 4 0 [] [a, b]
def arrow : Str := [45, 62]
def aIg (a b : Ty) : Ty := aGc (aGc (.mk 3 0 arrow []) a) b
theorem aH1 (a b : Ty) : bN Tryd.prog 74 [.pa (n9 a), .pa (n9 b)] [] (.pa (n9 (aGc a b))) [] := by
 obtain ⟨f, n, s, l⟩ := a;obtain ⟨f', n', s', l'⟩ := b;refine cT (n := 9) tok Tryd.func74 rfl rfl rfl ?_;refine a8 (ag [] rfl ?_);refine a8 (ag [] rfl ?_);refine AWp.sub (Sub.freeze (id := 7) rfl) (aF ?_);exact ⟨.inr rfl, ⟨_, _, .cell rfl (tg rfl) rfl rfl rfl .nil, .cons (.agg (.c .refl (.c .refl (.c .refl (.hs rfl rfl rfl .nil))))) .nil, rfl⟩, trivial, rfl⟩
theorem aI7 (a b : Ty) : bN Tryd.prog 67 [.pa (n9 a), .pa (n9 b)] [] (.pa (n9 (aIg a b))) [] := by
 obtain ⟨f, n, s, l⟩ := a;obtain ⟨f', n', s', l'⟩ := b;refine cT (n := 10) tok Tryd.func67 rfl rfl rfl ?_;refine a8 (ag [] rfl ?_);refine a8 (aJ mixed ?_);refine ak 2 [] rfl ?_;refine kc (aH1 (.mk 3 0 arrow []) (.mk f n s l)) ?_;refine ak 1 [] rfl ?_;refine kc (aH1 (aGc (.mk 3 0 arrow []) (.mk f n s l)) (.mk f' n' s' l')) ?_;refine ak 1 [] rfl ?_;refine az ?_;refine aF ?_;exact ⟨.inr rfl, ⟨_, _, .cell rfl (tg rfl) rfl rfl rfl .nil, .cons .refl .nil, rfl⟩, trivial, rfl⟩
def aN : List Int → Int × List Int
 | [] => (0, [])
 | x :: l => (kE x 1000, l)
def mkO (l : List Int) (left : Int) : List (Nat × AObj) := [(700, .var 69 [.c (.sl 1 (l.map aAc)), .c (.int .i64 left)])]
def yN (l : List Int) : Prop := ∀ x ∈ l, i64 x
theorem wP (l : List Int) (left : Int) (hl : yN l) (hf : Fits l) : bN Tryd.prog 49 [.one (.vp 700 0)] (mkO l left) (I .i64 (aN l).1) (mkO (aN l).2 left) := by
 unfold Fits at hf;refine cT (n := 26) tok Tryd.func49 rfl rfl rfl ?_;refine a8 (ag [] rfl ?_);refine a8 (a8 (ag [] rfl ?_));cases l with
 | nil =>
  refine aA rfl (fun hb => ?_) (fun hb => by simp at hb);refine a8 (ag [] rfl ?_);refine aF ?_;exact ⟨.inr rfl, ⟨_, _, .tmp rfl .nil, .cons .refl .nil, rfl⟩, ⟨⟨_, rfl, .var rfl⟩, trivial⟩, rfl⟩
 | cons x l =>
  refine aA rfl (fun hb => by simp at hb; omega) (fun hb => ?_);refine aD (a8 (aJ mixed ?_));refine ak 6 [] rfl ?_;refine kc (hP x 1000 (hl x (by simp)) (by omega)) ?_;refine ak 1 [] rfl ?_;refine az ?_;refine a8 (ag [] rfl ?_);refine a8 (ag [] rfl ?_);refine aF ?_;exact ⟨.inr rfl, ⟨_, _, .tmp rfl .nil, .cons .refl .nil, rfl⟩, ⟨⟨_, rfl, .var rfl⟩, trivial⟩, rfl⟩
theorem dM (l : List Int) : (aN l).2 <:+ l := by
 cases l with
 | nil => exact suffix_refl _
 | cons x l => exact ⟨[x], rfl⟩
theorem m6 (l : List Int) : 0 ≤ (aN l).1 ∧ (aN l).1 < 1000 := by
 cases l with
 | nil => simp [aN]
 | cons x l => exact cP x (by omega)
theorem yN.suf {l l' : List Int} (h : yN l) (hs : l' <:+ l) : yN l' := fun x hx => h x (hs.subset hx)
theorem Fits.suf {l l' : List Int} (h : Fits l) (hs : l' <:+ l) : Fits l' := by
 have := hs.length_le;unfold Fits at *;omega
def aH8 : Ty := .mk 3 0 [73, 110, 116] []
def tL : Ty := .mk 3 0 [76] []
def cK : Nat → List Int → Ty × List Int
 | 0, l => if (aN l).1 % 3 < 2 then (.mk 2 0 (oneOf tK ((aN l).1 / 6)) [], (aN l).2) else (aH8, (aN l).2)
 | f + 1, l =>
  if (aN l).1 % 6 < 2 then (.mk 2 0 (oneOf tK ((aN l).1 / 6)) [], (aN l).2)
  else if (aN l).1 % 6 = 2 then (aH8, (aN l).2)
  else if (aN l).1 % 6 = 3 then (aIg (cK f (aN l).2).1 (cK f (cK f (aN l).2).2).1, (cK f (cK f (aN l).2).2).2)
  else if (aN l).1 % 6 = 4 then (aGc tL (cK f (aN l).2).1, (cK f (aN l).2).2)
  else (.mk 5 0 (oneOf tK ((aN l).1 / 6)) [(cK f (aN l).2).1], (cK f (aN l).2).2)
theorem eF : ∀ (f : Nat) (l : List Int), (cK f l).2 <:+ l
 | 0, l => by
  unfold cK;split <;> exact dM l
 | f + 1, l => by
  have h1 := (eF f (aN l).2).trans (dM l);have h2 := (eF f (cK f (aN l).2).2).trans h1;unfold cK;split
  ·exact dM l
  ·split
   ·exact dM l
   ·split
    ·exact h2
    ·split <;> exact h1
def tyV (t : Ty) : V := .pa (n9 t)
theorem y8 (left : Int) : ∀ (f : Nat) (l : List Int) (dp : Int), yN l → Fits l → dp + f = 3 → 1 ≤ dp → bN Tryd.prog 52 [.one (.vp 700 0), I .i64 dp] (mkO l left) (tyV (cK f l).1) (mkO (cK f l).2 left) := by
 intro f
 induction f with
 | zero =>
  intro l dp hl hf hd h1;have hn := m6 l;refine cT (n := 57) tok Tryd.func52 rfl rfl rfl ?_;refine a8 (ag [] rfl ?_);refine a8 (aJ mixed ?_);refine ak 1 [] rfl ?_;refine kc (wP l left hl hf) ?_;refine ak 1 [] rfl ?_;refine az ?_;refine a8 (ag [] rfl ?_);refine a8 (a8 (ag [] rfl ?_));refine aA rfl (fun hb => ?_) (fun hb => by simp at hb; omega);refine ag [] rfl ?_;refine a8 (a8 (ag [] rfl ?_));refine aB (a8 (a8 (ag [] rfl ?_)));refine aA rfl (fun hb => ?_) (fun hb => ?_)
  ·have hr : cK 0 l = (.mk 2 0 (oneOf tK ((aN l).1 / 6)) [], (aN l).2) := by
    unfold cK;rw [if_pos (by simp at hb; omega)]
   refine aD (aA rfl (fun _ => ?_) (fun hb' => by rw [hb] at hb'; cases hb'));refine a8 (aJ mixed ?_);refine ak 2 [] rfl ?_;refine kc (l6 ((aN l).1 / 6) (by unfold i64; omega)) ?_;refine ak 2 [] rfl ?_;refine az ?_;refine aF ?_;rw [hr];exact ⟨.inr rfl, ⟨_, _, .cell rfl (tg rfl) rfl rfl rfl .nil, .cons (.pa (.c .refl (.c .refl (.c .refl (.c .nl .nil))))) .nil, rfl⟩, ⟨⟨_, rfl, .var rfl⟩, trivial⟩, rfl⟩
  ·refine ag [] rfl ?_;refine aA rfl (fun hb1 => ?_) (fun hb1 => ?_)
   ·have hr : cK 0 l = (.mk 2 0 (oneOf tK ((aN l).1 / 6)) [], (aN l).2) := by
     unfold cK;rw [if_pos (by simp at hb1; omega)]
    refine a8 (aJ mixed ?_);refine ak 2 [] rfl ?_;refine kc (l6 ((aN l).1 / 6) (by unfold i64; omega)) ?_;refine ak 2 [] rfl ?_;refine az ?_;refine aF ?_;rw [hr];exact ⟨.inr rfl, ⟨_, _, .cell rfl (tg rfl) rfl rfl rfl .nil, .cons (.pa (.c .refl (.c .refl (.c .refl (.c .nl .nil))))) .nil, rfl⟩, ⟨⟨_, rfl, .var rfl⟩, trivial⟩, rfl⟩
   ·have hr : cK 0 l = (aH8, (aN l).2) := by
     unfold cK;rw [if_neg (by simp at hb hb1; omega)]
    refine a8 (ag [] rfl ?_);refine aA rfl (fun hb2 => ?_) (fun hb2 => by simp at hb hb1 hb2; omega);refine a8 (ag [] rfl ?_);refine aF ?_;rw [hr];exact ⟨.inr rfl, ⟨_, _, .cell rfl (tg rfl) rfl rfl rfl .nil, .cons (.pa (.c .refl (.c .refl (.c .refl (.c .nl .nil))))) .nil, rfl⟩, ⟨⟨_, rfl, .var rfl⟩, trivial⟩, rfl⟩
 | succ f ih =>
  intro l dp hl hf hd h1;have hn := m6 l;have hl1 := hl.suf (dM l);have hf1 := hf.suf (dM l);have hl2 := hl1.suf (eF f (aN l).2);have hf2 := hf1.suf (eF f (aN l).2);refine cT (n := 57) tok Tryd.func52 rfl rfl rfl ?_;refine a8 (ag [] rfl ?_);refine a8 (aJ mixed ?_);refine ak 1 [] rfl ?_;refine kc (wP l left hl hf) ?_;refine ak 1 [] rfl ?_;refine az ?_;refine a8 (ag [] rfl ?_);refine a8 (a8 (ag [] rfl ?_));refine aA rfl (fun hb => by simp at hb; omega) (fun hb => ?_);refine aD (a8 (a8 (ag [] rfl ?_)));refine aB (a8 (a8 (ag [] rfl ?_)));refine aA rfl (fun hb => ?_) (fun hb => ?_)
  ·have hr : cK (f + 1) l = (.mk 2 0 (oneOf tK ((aN l).1 / 6)) [], (aN l).2) := by
    unfold cK;rw [if_pos (by simp at hb; omega)]
   refine aD (aA rfl (fun _ => ?_) (fun hb' => by rw [hb] at hb'; cases hb'));refine a8 (aJ mixed ?_);refine ak 2 [] rfl ?_;refine kc (l6 ((aN l).1 / 6) (by unfold i64; omega)) ?_;refine ak 2 [] rfl ?_;refine az ?_;refine aF ?_;rw [hr];exact ⟨.inr rfl, ⟨_, _, .cell rfl (tg rfl) rfl rfl rfl .nil, .cons (.pa (.c .refl (.c .refl (.c .refl (.c .nl .nil))))) .nil, rfl⟩, ⟨⟨_, rfl, .var rfl⟩, trivial⟩, rfl⟩
  ·refine ag [] rfl ?_;refine aA rfl (fun hb1 => ?_) (fun hb1 => ?_)
   ·have hr : cK (f + 1) l = (.mk 2 0 (oneOf tK ((aN l).1 / 6)) [], (aN l).2) := by
     unfold cK;rw [if_pos (by simp at hb1; omega)]
    refine a8 (aJ mixed ?_);refine ak 2 [] rfl ?_;refine kc (l6 ((aN l).1 / 6) (by unfold i64; omega)) ?_;refine ak 2 [] rfl ?_;refine az ?_;refine aF ?_;rw [hr];exact ⟨.inr rfl, ⟨_, _, .cell rfl (tg rfl) rfl rfl rfl .nil, .cons (.pa (.c .refl (.c .refl (.c .refl (.c .nl .nil))))) .nil, rfl⟩, ⟨⟨_, rfl, .var rfl⟩, trivial⟩, rfl⟩
   ·have hlt : ¬ (aN l).1 % 6 < 2 := by simp at hb hb1; omega
    refine a8 (ag [] rfl ?_);refine aA rfl (fun hb2 => ?_) (fun hb2 => ?_)
    ·have hr : cK (f + 1) l = (aH8, (aN l).2) := by
      have h2 : (aN l).1 % 6 = 2 := by simpa using hb2
      unfold cK;rw [if_neg hlt, if_pos h2]
     refine a8 (ag [] rfl ?_);refine aF ?_;rw [hr];exact ⟨.inr rfl, ⟨_, _, .cell rfl (tg rfl) rfl rfl rfl .nil, .cons (.pa (.c .refl (.c .refl (.c .refl (.c .nl .nil))))) .nil, rfl⟩, ⟨⟨_, rfl, .var rfl⟩, trivial⟩, rfl⟩
    ·have h2 : ¬ (aN l).1 % 6 = 2 := by simpa using hb2
     have ih1 := ih (aN l).2 (dp + 1) hl1 hf1 (by omega) (by omega);have ih2 := ih (cK f (aN l).2).2 (dp + 1) hl2 hf2 (by omega) (by omega);refine a8 (ag [] rfl ?_);refine aA rfl (fun hb3 => ?_) (fun hb3 => ?_)
     ·have h3 : (aN l).1 % 6 = 3 := by simpa using hb3
      have hr : cK (f + 1) l = (aIg (cK f (aN l).2).1 (cK f (cK f (aN l).2).2).1, (cK f (cK f (aN l).2).2).2) := by
       rw [cK, if_neg hlt, if_neg h2, if_pos h3]
      rw [hr];generalize cK f (cK f (aN l).2).2 = r2 at ih2 ⊢;generalize cK f (aN l).2 = r1 at ih1 ih2 ⊢;obtain ⟨⟨f1, n1, s1, a1⟩, l1⟩ := r1;obtain ⟨⟨f2, n2, s2, a2⟩, l2⟩ := r2;refine a8 (aJ mixed ?_);refine ak 3 [] rfl ?_;refine kc ih1 ?_;refine ak 2 [] rfl ?_;refine az ?_;refine a8 (aJ mixed ?_);refine ak 4 [] rfl ?_;refine kc ih2 ?_;refine kc (aI7 (.mk f1 n1 s1 a1) (.mk f2 n2 s2 a2)) ?_;refine ak 1 [] rfl ?_;refine az ?_;refine aF ?_;exact ⟨.inr rfl, ⟨_, _, .cell rfl (tg rfl) rfl rfl rfl .nil, .cons .refl .nil, rfl⟩, ⟨⟨_, rfl, .var rfl⟩, trivial⟩, rfl⟩
     ·have h3 : ¬ (aN l).1 % 6 = 3 := by simpa using hb3
      refine a8 (ag [] rfl ?_);refine aA rfl (fun hb4 => ?_) (fun hb4 => ?_)
      ·have h4 : (aN l).1 % 6 = 4 := by simpa using hb4
       have hr : cK (f + 1) l = (aGc tL (cK f (aN l).2).1, (cK f (aN l).2).2) := by
        rw [cK, if_neg hlt, if_neg h2, if_neg h3, if_pos h4]
       rw [hr];clear ih2;generalize cK f (aN l).2 = r1 at ih1 ⊢;obtain ⟨⟨f1, n1, s1, a1⟩, l1⟩ := r1;refine a8 (aJ mixed ?_);refine ak 4 [] rfl ?_;refine kc ih1 ?_;refine ak 3 [] rfl ?_;refine az ?_;refine AWp.sub (Sub.freeze (id := 46) rfl) (aF ?_);exact ⟨.inr rfl, ⟨_, _, .cell rfl (tg rfl) rfl rfl rfl .nil, .cons (.agg (.c .refl (.c .refl (.c .refl (.hs rfl rfl rfl .nil))))) .nil, rfl⟩, ⟨⟨_, rfl, .var rfl⟩, trivial⟩, rfl⟩
      ·have h4 : ¬ (aN l).1 % 6 = 4 := by simpa using hb4
       have hr : cK (f + 1) l = (.mk 5 0 (oneOf tK ((aN l).1 / 6)) [(cK f (aN l).2).1], (cK f (aN l).2).2) := by
        rw [cK, if_neg hlt, if_neg h2, if_neg h3, if_neg h4]
       rw [hr];clear ih2;generalize cK f (aN l).2 = r1 at ih1 ⊢;obtain ⟨⟨f1, n1, s1, a1⟩, l1⟩ := r1;refine aD (a8 (aJ mixed ?_));refine ak 2 [] rfl ?_;refine kc (l6 ((aN l).1 / 6) (by unfold i64; omega)) ?_;refine ak 3 [] rfl ?_;refine kc ih1 ?_;refine ak 3 [] rfl ?_;refine az ?_;refine AWp.sub (Sub.freeze (id := 55) rfl) (aF ?_);exact ⟨.inr rfl, ⟨_, _, .cell rfl (tg rfl) rfl rfl rfl .nil, .cons (.agg (.c .refl (.c .refl (.c .refl (.hs rfl rfl rfl .nil))))) .nil, rfl⟩, ⟨⟨_, rfl, .var rfl⟩, trivial⟩, rfl⟩
end Go.Proofs.YtlegeikmepnmcaaDoor
