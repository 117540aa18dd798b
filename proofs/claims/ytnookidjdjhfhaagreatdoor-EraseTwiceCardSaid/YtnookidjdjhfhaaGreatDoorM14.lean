/-
  Texts Lc7, Lc8, Lc9 in one.
-/
import Derived.Test.YtnookidjdjhfhaaGreatDoorM13
/- THE DOCUMENT's EXAMPLE (of layer 24), one function after the other. -/
namespace Go.Proofs.YtnookidjdjhfhaaGreatDoor
open Go Go.AM
set_option maxRecDepth 20000

/-- What the example is: a function that is given an integer. -/
def exX : Core := .mk 1 0 [120] zTy [] [] []
def exL : Core := .mk 5 0 [120] zTy [exX] [] []
def exI : Core := .mk 3 3 [] zTy [] [] []
def exE : Core := capp exL exI
def cosV (l : List Core) : V := .one (.c (.sl 10 (l.map encCore)))
theorem c_rev1 (l : List Core) (hl : l.length ≤ 1) : ImpC Tryz.prog 89 [cosV l] [] (.tup []) [] := by
  have hkl : (l.map encCore).length = l.length := List.length_map _
  refine impC (n := 28) tok Tryz.func89 rfl rfl rfl ?_
  refine awp_seq (ag [] rfl ?_)
  refine awp_block ?_
  refine awp_loop (fun _ : Unit => mk [(0, cosV l), (2, I .i64 0), (3, I .i64 (((l.map encCore).length : Int) - 1))] []) (fun _ => True) (fun _ => 0) () trivial sl ?_
  intro _ _
  refine awp_seq (awp_seq (ag [] rfl ?_))
  refine awp_cond rfl (fun hb => ?_) (fun hb => ?_)
  · exfalso
    have : (0 : Int) < ((l.map encCore).length : Int) - 1 := of_decide_eq_true hb
    omega
  refine awp_exit ?_
  exact ⟨.inl rfl, ⟨_, _, .nil, .nil, rfl⟩, trivial, rfl⟩
theorem c_spineI : ImpC Tryz.prog 78 [.pa (encCore exI)] [] (.tup [.pa (encCore exI), cosV []]) [] := by
  have hr := c_rev1 [] (by simp)
  refine impC (n := 23) tok Tryz.func78 rfl rfl rfl ?_
  refine awp_seq (ag [] rfl ?_)
  refine awp_seq (ag [] rfl ?_)
  refine awp_seq (awp_block ?_)
  refine awp_loop (fun _ : Unit => mk [(1, .one (.vp 1 0)), (2, .one (.vp 2 0)), (4, .one (.c .nl))] [(1, .var 30 (cellsC exI)), (2, .var 30 zCells)]) (fun _ => True) (fun _ => 0) () trivial sl ?_
  intro _ _
  refine awp_seq (awp_seq (ag [] rfl ?_))
  refine awp_cond rfl (fun hb => by cases hb) (fun _ => ?_)
  refine awp_exit ?_
  refine awp_seq (ag [(1, .pc (.tup []))] rfl ?_)
  refine awp_seq (ag [] rfl ?_)
  exact awp_ret ⟨.inr rfl, ⟨_, _, .cell rfl (tg rfl) rfl rfl rfl (.tmp rfl .nil), .cons .refl (.cons (.one (.c .nl .nil)) .nil), rfl⟩, trivial, rfl⟩
theorem c_spineE : ImpC Tryz.prog 78 [.pa (encCore exE)] [] (.tup [.pa (encCore exL), cosV [exI]]) [] := by
  have hr := c_rev1 [exI] (by simp)
  refine impC (n := 23) tok Tryz.func78 rfl rfl rfl ?_
  refine awp_seq (ag [] rfl ?_)
  refine awp_seq (ag [] rfl ?_)
  refine AWp.sub (Sub.own (t := 4) (id := 500) 30 10 rfl rfl) ?_
  refine awp_seq (awp_block ?_)
  refine awp_loop (fun i : Bool => mk [(1, .one (.vp 1 0)), (2, .one (.vp 2 0)), (4, .one (.hs 500 0 (if i then 1 else 0) (if i then 1 else 0)))] [(1, .var 30 (cellsC (if i then exL else exE))), (2, .var 30 zCells), (500, .arr 30 10 (if i then [encCore exI] else []) 0)]) (fun _ => True) (fun i => if i then 0 else 1) false trivial sl ?_
  intro i _
  cases i with
  | false =>
    refine awp_seq (awp_seq (ag [] rfl ?_))
    refine awp_cond rfl (fun _ => ?_) (fun hb => by cases hb)
    refine awp_skip ?_
    refine awp_block (awp_seq (ag [(3, .row 1 (encCore exI))] rfl ?_))
    refine ag [(2, .row 0 (encCore exL))] rfl ?_
    exact ⟨true, trivial, by decide, sl⟩
  | true =>
    refine awp_seq (awp_seq (ag [] rfl ?_))
    refine awp_cond rfl (fun hb => by cases hb) (fun _ => ?_)
    refine awp_exit ?_
    refine AWp.sub (Sub.freeze (id := 500) rfl) (AWp.sub (cv 4 [encCore exI]) ?_)
    refine awp_seq (ag [(1, .pc (.tup []))] rfl ?_)
    refine awp_seq (ag [] rfl ?_)
    exact awp_ret ⟨.inr rfl, ⟨_, _, .cell rfl (tg rfl) rfl rfl rfl (.tmp rfl .nil), .cons .refl (.cons .refl .nil), rfl⟩, trivial, rfl⟩
theorem c_showsI : ImpC Tryz.prog 56 [.pa (encCore exI)] [] (B true) [] := by
  have h := c_spineI
  refine impC (n := 23) tok Tryz.func56 rfl rfl rfl ?_
  refine awp_seq (ag [] rfl ?_)
  refine awp_seq (ag [(1, .pc (.tup [.pa (encCore exI), cosV []]))] rfl ?_)
  refine awp_seq (ag [(3, .bv false), (7, .bv false), (8, .bv true), (12, .bv true)] rfl ?_)
  exact awp_ret rtT
theorem c_showsE : ImpC Tryz.prog 56 [.pa (encCore exE)] [] (B false) [] := by
  have h := c_spineE
  refine impC (n := 23) tok Tryz.func56 rfl rfl rfl ?_
  refine awp_seq (ag [] rfl ?_)
  refine awp_seq (ag [(1, .pc (.tup [.pa (encCore exL), cosV [exI]]))] rfl ?_)
  refine awp_seq (ag [(3, .bv false), (7, .bv false), (8, .bv false), (12, .bv false)] rfl ?_)
  exact awp_ret rtT
theorem c_subX : ImpC Tryz.prog 81 [.pa (encCore exX), Go.AM.T [120], .pa (encCore exI)] [] (.pa (encCore exI)) [] := by
  have h := c_own _ exI (Nat.le_refl _) rfl (by decide)
  refine impC (n := 47) tok Tryz.func81 rfl rfl rfl ?_
  refine awp_seq (ag [] rfl ?_)
  refine awp_seq (awp_seq (ag [(3, .bv true), (8, .bv true)] rfl ?_))
  refine awp_cond rfl (fun _ => ?_) (fun hb => by cases hb)
  refine awp_seq (ag [(1, .pc (.pa (encCore exI)))] rfl ?_)
  exact awp_ret (rtC trw)
end Go.Proofs.YtnookidjdjhfhaaGreatDoor

/- THE PRIMITIVES (erase.ops): a map of functions, of which nobody reads. -/
namespace Go.Proofs.YtnookidjdjhfhaaGreatDoor
open Go Go.AM
set_option maxRecDepth 20000

def opV (g id : Nat) : V := .ma [.clo g [.vp id 0], .c (.zv 1)]
theorem c_ops1 (g : Nat) : ImpC Tryz.prog 66 [.one (.clo g [])] [] (opV 67 601) [(601, .var 82 [.clo g []])] := by
  refine impC (n := 5) tok Tryz.func66 rfl rfl rfl ?_
  refine awp_seq (ag [(0, .id 601)] rfl ?_)
  refine awp_seq (ag [] rfl ?_)
  exact awp_ret (rtC trw)
theorem c_ops2 (g : Nat) : ImpC Tryz.prog 68 [.one (.clo g [])] [] (opV 69 601) [(601, .var 106 [.clo g []])] := by
  refine impC (n := 5) tok Tryz.func68 rfl rfl rfl ?_
  refine awp_seq (ag [(0, .id 601)] rfl ?_)
  refine awp_seq (ag [] rfl ?_)
  exact awp_ret (rtC trw)
def opsO : AObj := omap true
theorem c_ops : ImpC Tryz.prog 55 [] [] (.one (.mr 620)) [(620, opsO)] := by
  have h1 : ImpC Tryz.prog 66 ([.one (.clo 71 [])] ++ ([] : List R).map V.one) [] (opV 67 601) [(601, .var 82 [.clo 71 []])] := c_ops1 _
  have h2 : ImpC Tryz.prog 66 ([.one (.clo 73 [])] ++ ([] : List R).map V.one) [] (opV 67 602) [(602, .var 82 [.clo 73 []])] := (c_ops1 73).swap 601 602
  have h3 : ImpC Tryz.prog 66 ([.one (.clo 74 [])] ++ ([] : List R).map V.one) [] (opV 67 603) [(603, .var 82 [.clo 74 []])] := (c_ops1 74).swap 601 603
  have h4 : ImpC Tryz.prog 66 ([.one (.clo 75 [])] ++ ([] : List R).map V.one) [] (opV 67 604) [(604, .var 82 [.clo 75 []])] := (c_ops1 75).swap 601 604
  have h5 : ImpC Tryz.prog 68 ([.one (.clo 76 [])] ++ ([] : List R).map V.one) [] (opV 69 605) [(605, .var 106 [.clo 76 []])] := (c_ops2 76).swap 601 605
  have h6 : ImpC Tryz.prog 68 ([.one (.clo 77 [])] ++ ([] : List R).map V.one) [] (opV 69 606) [(606, .var 106 [.clo 77 []])] := (c_ops2 77).swap 601 606
  refine impC (n := 20) tok Tryz.func55 rfl rfl rfl ?_
  refine awp_seq (ag [] rfl ?_)
  refine awp_seq (ag [] rfl ?_)
  refine awp_seq (ag [] rfl ?_)
  refine awp_seq (awp_rg mixed ?_)
  refine ak 1 [] rfl ?_
  refine kv (args := [.one (.clo 71 [])]) h1 ?_
  refine ak 2 [] rfl ?_
  refine az ?_
  refine awp_seq (ag [] rfl ?_)
  refine awp_seq (awp_rg mixed ?_)
  refine k_ (g_ rfl rfl (r_makeMapO (d := 7) (id := 620) (agg := true) rfl rfl (blt_lt rfl) rfl)) ?_
  refine ak 1 [] rfl ?_
  refine kv (args := [.one (.clo 73 [])]) h2 ?_
  refine k_ (g_ rfl rfl (r_insertO (id := 620) (agg := true) tok rfl rfl (tg rfl) rfl (tg rfl) rfl rfl rfl rfl rfl rfl rfl)) ?_
  refine ak 1 [] rfl ?_
  refine kv (args := [.one (.clo 74 [])]) h3 ?_
  refine k_ (g_ rfl rfl (r_insertO (id := 620) (agg := true) tok rfl rfl (tg rfl) rfl (tg rfl) rfl rfl rfl rfl rfl rfl rfl)) ?_
  refine ak 1 [] rfl ?_
  refine kv (args := [.one (.clo 75 [])]) h4 ?_
  refine k_ (g_ rfl rfl (r_insertO (id := 620) (agg := true) tok rfl rfl (tg rfl) rfl (tg rfl) rfl rfl rfl rfl rfl rfl rfl)) ?_
  refine ak 1 [] rfl ?_
  refine k_ (g_ rfl rfl (r_insertO (id := 620) (agg := true) tok rfl rfl (tg rfl) rfl (tg rfl) rfl rfl rfl rfl rfl rfl rfl)) ?_
  refine ak 1 [] rfl ?_
  refine kv (args := [.one (.clo 76 [])]) h5 ?_
  refine k_ (g_ rfl rfl (r_insertO (id := 620) (agg := true) tok rfl rfl (tg rfl) rfl (tg rfl) rfl rfl rfl rfl rfl rfl rfl)) ?_
  refine ak 1 [] rfl ?_
  refine kv (args := [.one (.clo 77 [])]) h6 ?_
  refine k_ (g_ rfl rfl (r_insertO (id := 620) (agg := true) tok rfl rfl (tg rfl) rfl (tg rfl) rfl rfl rfl rfl rfl rfl rfl)) ?_
  refine ak 2 [] rfl ?_
  refine az ?_
  exact awp_ret rtT
end Go.Proofs.YtnookidjdjhfhaaGreatDoor

/- THE DOCUMENT's EXAMPLE lives (fuguelaw24.lives): the walk. -/
namespace Go.Proofs.YtnookidjdjhfhaaGreatDoor
open Go Go.AM
set_option maxRecDepth 20000

def mcV : V := .ma [.c (.sl 15 []), .mr 620]
theorem c_stepE : ImpC Tryz.prog 57 [mcV, .pa (encCore exE)] [(620, opsO)] (.tup [.pa (encCore exI), I .i64 0]) [(620, opsO)] := by
  have hs := c_subX
  refine impC (n := 113) tok Tryz.func57 rfl rfl rfl ?_
  refine awp_seq (ag [] rfl ?_)
  refine awp_seq (ag [] rfl ?_)
  refine awp_seq (awp_seq (ag [] rfl ?_))
  refine awp_block (awp_seq (ag [] rfl ?_))
  refine awp_cond rfl (fun hb => by cases hb) (fun _ => ?_)
  refine awp_seq (ag [] rfl ?_)
  refine awp_cond rfl (fun _ => ?_) (fun hb => by cases hb)
  refine awp_seq (ag [(2, .row 0 (encCore exL))] rfl ?_)
  refine awp_block (awp_seq (ag [] rfl ?_))
  refine awp_cond rfl (fun _ => ?_) (fun hb => by cases hb)
  refine awp_seq (ag [(2, .row 0 (encCore exX)), (8, .row 1 (encCore exI)), (10, .pc (.pa (encCore exI)))] rfl ?_)
  exact awp_ret ⟨.inr rfl, ⟨_, _, .cell rfl (tg rfl) rfl rfl rfl (.tmp rfl .nil), .cons .refl (.cons .refl .nil), rfl⟩, ⟨⟨_, rfl, .map⟩, trivial⟩, rfl⟩
theorem c_whnfE : ImpC Tryz.prog 34 [.one (.c (.sl 15 [])), .pa (encCore exE), I .i64 9] [] (.tup [.pa (encCore exI), I .i64 1, I .i64 0]) [] := by
  have hE := c_showsE
  have hI := c_showsI
  have hst := c_stepE
  have hap := c_capp0 exI rfl (by decide)
  have hz := c_size _ exI (Nat.le_refl _) (by decide)
  rw [show sizeR exI = 1 by simp [exI, sizeR, sizeCs, sizeBs, sizeAs]] at hz
  refine impC (n := 43) tok Tryz.func34 rfl rfl rfl ?_
  refine awp_seq (ag [] rfl ?_)
  refine awp_seq (awp_rg mixed ?_)
  refine ak 1 [] rfl ?_
  refine kc c_ops ?_
  refine ak 3 [] rfl ?_
  refine az ?_
  refine awp_seq (ag [] rfl ?_)
  refine awp_seq (awp_block ?_)
  refine awp_loop (fun i : Bool => mk [(2, I .i64 9), (4, .one (.vp 4 0)), (6, .one (.vp 6 0)), (9, .one (.vp 9 0)), (10, I .i64 (if i then 1 else 0))] [(4, .var 30 (cellsC (if i then exI else exE))), (6, .var 30 zCells), (9, .var 90 [.c (.sl 15 []), .mr 620]), (620, opsO)]) (fun _ => True) (fun i => if i then 0 else 1) false trivial sl ?_
  intro i _
  cases i with
  | false =>
    refine awp_seq (awp_seq (ag [(1, .pc (B false))] rfl ?_))
    refine awp_cond rfl (fun _ => ?_) (fun hb => by cases hb)
    refine awp_skip ?_
    refine awp_seq (awp_block (awp_seq (awp_seq (ag [] rfl ?_))))
    refine awp_cond rfl (fun hb => by cases hb) (fun _ => ?_)
    refine awp_skip ?_
    refine awp_seq (awp_rg mixed ?_)
    refine ak 2 [] rfl ?_
    refine kc hst ?_
    refine ak 6 [] rfl ?_
    refine az ?_
    refine awp_seq (awp_seq (ag [] rfl ?_))
    refine awp_cond rfl (fun hb => by cases hb) (fun _ => ?_)
    refine awp_skip ?_
    refine awp_seq (ag [] rfl ?_)
    refine awp_seq (ag [(1, .pc (I .i64 (1 : Nat)))] rfl ?_)
    refine awp_cond rfl (fun hb => by cases hb) (fun _ => ?_)
    refine awp_skip ?_
    refine ag [] rfl ?_
    exact ⟨true, trivial, by decide, sl⟩
  | true =>
    refine awp_seq (awp_seq (ag [(1, .pc (B true))] rfl ?_))
    refine awp_cond rfl (fun hb => by cases hb) (fun _ => ?_)
    refine awp_exit ?_
    refine awp_seq (ag [(1, .pc (.pa (encCore exI)))] rfl ?_)
    exact awp_ret ⟨.inr rfl, ⟨_, _, .cell rfl (tg rfl) rfl rfl rfl (.tmp rfl (.tmp rfl .nil)), .cons .refl (.cons .refl (.cons .refl .nil)), rfl⟩, trivial, rfl⟩
def exTa : Ty := .mk 2 0 [97] []
def exA : Core := tlamC [97] (lamT [120] exTa exX)
def exB : Core := tappC exA tInt
def exC0 : Core := capp exB exI
theorem c_lives24 : ImpC Tryz.prog 13 [] [] (B true) [] := by
  have h1 := c_tyvar [97]
  have h2 := c_cvar [120]
  have h3 := c_clam [120] exTa exX rfl rfl (by decide)
  have h4 := c_ctlam [97] (lamT [120] exTa exX) rfl (by decide)
  have h5 := c_tycon [73, 110, 116]
  have h6 := c_ctapp exA tInt rfl rfl (by decide)
  have h7 := c_cint 3
  have h8 := c_capp exB exI rfl rfl (by decide) (by decide)
  have h9 : ImpC Tryz.prog 6 [.pa (encCore exC0)] [] (.pa (encCore exE)) [] := c_perase _ exC0 (Nat.le_refl _) (by decide) rfl
  have h10 := c_whnfE
  refine impC (n := 60) tok Tryz.func13 rfl rfl rfl ?_
  refine awp_seq (ag [] rfl ?_)
  refine awp_seq (ag [(0, .pc (tyV exTa)), (1, .pc (.pa (encCore exX))), (2, .pc (.pa (encCore (lamT [120] exTa exX)))), (3, .all), (4, .pc (.pa (encCore exA)))] rfl ?_)
  refine awp_seq (ag [(1, .pc (tyV tInt)), (2, .all), (3, .pc (.pa (encCore exB))), (4, .pc (.pa (encCore exI))), (5, .all), (6, .pc (.pa (encCore exC0))), (7, .pc (.pa (encCore exE)))] rfl ?_)
  refine awp_seq (ag [(1, .pc (.tup [.pa (encCore exI), I .i64 1, I .i64 0]))] rfl ?_)
  refine awp_seq (ag [(3, .bv true), (8, .bv true), (9, .bv true), (12, .row 0 (encCore exL)), (16, .bv true), (17, .bv true), (21, .bv true), (22, .bv true), (26, .bv true), (27, .bv true), (30, .bv true), (31, .bv true), (34, .bv true)] rfl ?_)
  exact awp_ret rtT
end Go.Proofs.YtnookidjdjhfhaaGreatDoor
