/-
  THE PROGRAM's New.
-/
import Derived.Test.YthfeeaifddppoaaCl17
import Derived.Test.YthfeeaifddppoaaCl18
namespace Go.Proofs.Ythfeeaifddppoaa
open Go Go.AM
set_option maxRecDepth 20000
set_option maxHeartbeats 1000000

theorem b10 : bodied Try.prog 10 := ⟨Try.f10, Try.func10, by decide, rfl⟩

def cmF : List Cls → List (List C)
  | [] => []
  | c :: r => mput c.name (encCls c) (cmF r)
def mtF (s : Str) : Nat → List Sig → List (List C) → List (List C)
  | _, [], a => a
  | k, m :: r, a => mput m.name [.str s, .int .i64 (k : Nat)] (mtF s (k + 1) r a)
def mmF : List Cls → List (List C)
  | [] => []
  | c :: r => mtF c.name 0 c.methods (mmF r)
theorem mstr_put {k : Str} {vs : List C} : ∀ {l : List (List C)}, mstr l → mstr (mput k vs l)
  | [], _ => by simp [mput, mstr]
  | (.str s :: us) :: r, h => by
    simp only [mput]
    simp only [mstr] at h
    split
    · simpa [mstr] using h
    · simpa [mstr] using mstr_put h
theorem mfind_put {k s : Str} {vs : List C} : ∀ {l : List (List C)}, mstr l → mfind s (mput k vs l) = if k = s then some vs else mfind s l
  | [], _ => by simp [mput, mfind]
  | (.str t :: us) :: r, h => by
    simp only [mstr] at h
    have ih := mfind_put (k := k) (s := s) (vs := vs) h
    simp only [mput]
    by_cases h1 : t = k
    · subst h1
      simp only [if_true, mfind]
      by_cases h2 : t = s <;> simp [h2]
    · simp only [h1, if_false, mfind, ih]
      by_cases h2 : t = s
      · subst h2
        have : ¬ k = t := fun e => h1 e.symm
        simp [this]
      · simp [h2]
theorem mstr_cm : ∀ l : List Cls, mstr (cmF l)
  | [] => trivial
  | _ :: r => mstr_put (mstr_cm r)
theorem mstr_mt (s : Str) : ∀ (l : List Sig) (k : Nat) {a : List (List C)}, mstr a → mstr (mtF s k l a)
  | [], _, _, h => h
  | _ :: r, k, _, h => mstr_put (mstr_mt s r (k + 1) h)
theorem mstr_mm : ∀ l : List Cls, mstr (mmF l)
  | [] => trivial
  | _ :: r => mstr_mt _ _ _ (mstr_mm r)
def envOf (p : Prog) : Env := ⟨cmF p.classes, mmF p.classes, p.insts⟩
theorem mfind_mt (s t : Str) : ∀ (l : List Sig) (k : Nat) {a : List (List C)}, mstr a → mfind t (mtF s k l a) = match findM l t with | some j => some [.str s, .int .i64 ((k + j : Nat) : Int)] | none => mfind t a
  | [], _, _, _ => by simp [mtF, findM]
  | m :: r, k, a, h => by
    simp only [mtF]
    rw [mfind_put (mstr_mt s r (k + 1) h), mfind_mt s t r (k + 1) h]
    unfold findM
    rw [List.findIdx?_cons]
    by_cases h1 : m.name = t
    · simp [h1]
    · have h2 : (m.name == t) = false := by simpa using h1
      simp only [h1, if_false, h2, Bool.false_eq_true]
      cases hq : List.findIdx? (fun m => m.name == t) r with
      | none => simp
      | some j => simp; omega
theorem envOf_ok (p : Prog) : EnvOk p (envOf p) := by
  refine ⟨mstr_cm _, mstr_mm _, fun s => ?_, fun s => ?_, rfl⟩
  · unfold cls envOf
    dsimp only
    induction p.classes with
    | nil => rfl
    | cons c r ih =>
      simp only [cmF]
      rw [mfind_put (mstr_cm r), ih, List.find?_cons]
      by_cases h : c.name = s
      · simp [h]
      · have h2 : (c.name == s) = false := by simpa using h
        simp [h, h2]
  · unfold method envOf
    dsimp only
    induction p.classes with
    | nil => rfl
    | cons c r ih =>
      simp only [mmF]
      rw [mfind_mt _ _ _ _ (mstr_mm r), ih, List.findSome?_cons]
      cases hq : findM c.methods s with
      | none => simp
      | some j => simp

def leastF (a r : At) : At := if a.no = 0 ∨ r.at_ < a.at_ then r else a
def newAt (p : Prog) : At := (refl p).foldl leastF ⟨0, 0⟩
def newR (p : Prog) : V := if (newAt p).no ≠ 0 then .tup [.one (.c .np), .pa (encAt (newAt p))] else .tup [.one (.c (.pt (encEnv (envOf p)))), .pa (encAt ⟨0, 0⟩)]

def hk1 (p : Prog) (k : Nat) : List (Nat × AObj) := [(771, .var 24 [.c (.sl 6 (p.classes.map encCls))]), (4, .var 31 [.vp 20 0]), (20, .var 86 [.mr 14, .mr 15, .c (.sl 6 (p.insts.map encInst))]), (14, .map true (cmF (p.classes.drop k))), (15, .map true [])]
def hk2 (p : Prog) (k : Nat) : List (Nat × AObj) := [(771, .var 24 [.c (.sl 6 (p.classes.map encCls))]), (4, .var 31 [.vp 20 0]), (20, .var 86 [.mr 14, .mr 15, .c (.sl 6 (p.insts.map encInst))]), (14, .map true (cmF p.classes)), (15, .map true (mmF (p.classes.drop k)))]
def hk3 (p : Prog) (c : Cls) (a : List (List C)) (k : Nat) : List (Nat × AObj) := [(772, .var 64 [.c (.sl 9 (c.methods.map encSig))]), (4, .var 31 [.vp 20 0]), (20, .var 86 [.mr 14, .mr 15, .c (.sl 6 (p.insts.map encInst))]), (14, .map true (cmF p.classes)), (15, .map true (mtF c.name k (c.methods.drop k) a)), (8, .var 66 ((encCls c).map R.c))]
theorem enc_get {α : Type} {f : α → List C} {l : List α} {k : Nat} {x : List C} (h : (l.map f)[k]? = some x) : ∃ y, l[k]? = some y ∧ x = f y := by
  rw [List.getElem?_map] at h
  cases hq : l[k]? with
  | none => rw [hq] at h; cases h
  | some y => rw [hq] at h; cases h; exact ⟨y, rfl, rfl⟩
theorem drop_get {α : Type} {l : List α} {k : Nat} {x : α} (h : l[k]? = some x) : l.drop k = x :: l.drop (k + 1) := by
  have hl := (List.getElem?_eq_some_iff.1 h).1
  rw [List.drop_eq_getElem_cons hl, (List.getElem?_eq_some_iff.1 h).2]
theorem refl_len (p : Prog) : (refl p).length ≤ p.classes.length + p.insts.length + p.insts.length := by
  unfold refl refl1
  have h1 := fold_len (r1F p) (r1F_len p) p.classes []
  have h2 := r2_len p (p.classes.foldl (r1F p) []) p.insts.length
  have h3 := fold_len (r3F p) (r3F_len p) p.insts (r2 p (p.classes.foldl (r1F p) []) p.insts.length)
  simp only [List.length_nil] at h1
  omega

theorem c10 (p : Prog) (hp : PS p) : ImpC Try.prog 10 [.pa (encProg p)] [] (newR p) [] := by
  have hl := hp.cls
  have hli := hp.insts
  unfold Small at hl hli
  refine impC (n := 80) tok Try.func10 rfl rfl rfl ?_
  refine awp_seq ?_
  refine awp_rg mixed ?_
  refine k_ (g_ rfl rfl (r_box 1 rfl rfl (lt_ rfl) rfl rfl rfl)) ?_
  refine k_ (g_ rfl rfl (r_assign rfl rfl (lt_ rfl) rfl)) ?_
  refine k_ (g_ rfl rfl (r_alloc 3 tok rfl rfl (lt_ rfl) t34 rfl)) ?_
  refine z_ rfl (by kernel_rfl) ?_
  refine awp_seq ?_
  refine awp_rg mixed ?_
  refine k_ (g_ rfl rfl (r_makeMap 14 true rfl rfl (lt_ rfl) rfl)) ?_
  refine k_ (g_ rfl rfl (r_makeMap 15 true rfl rfl (lt_ rfl) rfl)) ?_
  refine k_ (g_ rfl rfl (by first | exact r_field_vp tok rfl rfl (lt_ rfl) t28 rfl rfl t25 (nz_ rfl) rfl | exact r_field_pt tok rfl rfl (lt_ rfl) t28 rfl rfl t25 (nz_ rfl) rfl | exact r_field_ep tok rfl rfl (lt_ rfl) t28 rfl rfl t25 (nz_ rfl) rfl rfl (by first | rfl | simp))) ?_
  refine k_ (g_ rfl rfl (by first | exact r_load tok rfl rfl (lt_ rfl) t25 rfl rfl rfl rfl | exact r_load_pt tok rfl rfl (lt_ rfl) t25 rfl (le_ rfl) rfl | exact r_load_ep tok rfl rfl (lt_ rfl) t25 rfl rfl (by first | rfl | simp) (by first | assumption | rfl) (le_ rfl) rfl)) ?_
  refine k_ (g_ rfl rfl (by exact r_call [] [] b32 rfl rfl (lt_ rfl) (c32 (p.insts.map encInst) (by unfold Small; simpa using hli)) (.cons rfl (by first | exact .refl | exact .one (.hs rfl (by first | rfl | simp) (by first | rfl | (simp; done) | (simp [Go.AM.take_map]; done) | exact Go.AM.take_map.symm) .nil) | exact .one (.c .nl .nil) | exact .one (.c .sn .nil)) (.nil)) (by repeat (first | exact trivial | refine ⟨rfl, ?_⟩)) (by repeat (first | exact trivial | refine ⟨.inr rfl, ?_⟩ | refine ⟨.inl (by decide), ?_⟩)) rfl)) ?_
  refine k_ (g_ rfl rfl (r_build tok rfl rfl (lt_ rfl) t86 rfl p86 rfl rfl)) ?_
  refine k_ (g_ rfl rfl (r_box 20 rfl rfl (lt_ rfl) rfl rfl rfl)) ?_
  refine k_ (g_ rfl rfl (r_alloc 4 tok rfl rfl (lt_ rfl) t31 rfl)) ?_
  refine k_ (g_ rfl rfl (by first | exact r_store tok rfl rfl t31 rfl rfl rfl rfl rfl rfl | exact r_store_ep tok rfl rfl t31 rfl rfl rfl rfl rfl (by first | rfl | simp) (by first | assumption | rfl) rfl (le_ rfl))) ?_
  refine z_ rfl (by kernel_rfl) ?_
  refine awp_seq ?_
  refine awp_seq ?_
  refine awp_rg mixed ?_
  refine k_ (g_ rfl rfl (by first | exact r_field_vp tok rfl rfl (lt_ rfl) t28 rfl rfl t24 (nz_ rfl) rfl | exact r_field_pt tok rfl rfl (lt_ rfl) t28 rfl rfl t24 (nz_ rfl) rfl | exact r_field_ep tok rfl rfl (lt_ rfl) t28 rfl rfl t24 (nz_ rfl) rfl rfl (by first | rfl | simp))) ?_
  refine k_ (g_ rfl rfl (by first | exact r_load tok rfl rfl (lt_ rfl) t24 rfl rfl rfl rfl | exact r_load_pt tok rfl rfl (lt_ rfl) t24 rfl (le_ rfl) rfl | exact r_load_ep tok rfl rfl (lt_ rfl) t24 rfl rfl (by first | rfl | simp) (by first | assumption | rfl) (le_ rfl) rfl)) ?_
  refine k_ (g_ rfl rfl (by exact r_call [] [(771, .var 24 [.c (.sl 6 (p.classes.map encCls))])] b33 rfl rfl (lt_ rfl) (c33 (p.classes.map encCls)) (.cons rfl (by first | exact .refl | exact .one (.hs rfl (by first | rfl | simp) (by first | rfl | (simp; done) | (simp [Go.AM.take_map]; done) | exact Go.AM.take_map.symm) .nil) | exact .one (.c .nl .nil) | exact .one (.c .sn .nil)) (.nil)) (by repeat (first | exact trivial | refine ⟨rfl, ?_⟩)) ⟨.inr rfl, trivial⟩ rfl)) ?_
  refine z_ rfl (by kernel_rfl) ?_
  refine awp_block ?_   -- block 0
  refine awp_range (st' := .ready) (j := none) (hin := hk1 p (p.classes.map encCls).length) (hout := hk1 p 0) 900 901 [(4, .one (.vp 4 0))]
    (mkd [(1, .one (.vp 1 0)), (3, .one (.vp 3 0)), (4, .one (.vp 4 0))] [(1, .var 28 ((encProg p).map R.c)), (3, .var 34 [.c (.int .i64 0), .c (.int .i64 0)]), (4, .var 31 [.vp 20 0]), (20, .var 86 [.mr 14, .mr 15, .c (.sl 6 (p.insts.map encInst))]), (14, .map true (cmF p.classes)), (15, .map true []), (901, .dfr)] [901])
    b49 rfl ⟨rfl, trivial⟩ ⟨rfl, rfl, rfl, by rw [List.length_map, List.drop_length]; rfl, rfl, trivial⟩ ⟨.inl (by simp [keys, hk1]), .inl (by simp [keys, hk1]), .inl (by simp [keys, hk1]), .inl (by simp [keys, hk1]), .inl (by simp [keys, hk1]), trivial⟩ rfl rfl
    (c49 (p.classes.map encCls) (by simpa using hl) 900 771 [900, 771, 4, 20, 14, 15] (fun k => (900, .lp .ready none ⟨80, _, _, _⟩ [(4, .one (.vp 4 0))]) :: hk1 p k) (fun k => ⟨rfl, rfl⟩) (fun k => rfl) rfl (by simp [encCls]) ?_) rfl (by simp)
    (.listD (fun i => i) ⟨rfl, rfl, rfl, trivial⟩ ⟨⟨_, rfl, .var rfl⟩, ⟨_, rfl, .var rfl⟩, ⟨_, rfl, .var rfl⟩, ⟨_, rfl, .var rfl⟩, ⟨_, rfl, .map⟩, ⟨_, rfl, .map⟩, ⟨_, rfl, .dfr⟩, trivial⟩ rfl) ?_
  · intro k x hx
    obtain ⟨c, hc, rfl⟩ := enc_get hx
    have hms := mstr_cm (p.classes.drop (k + 1))
    refine RndC.of (j := none) (fun l => ?_) rfl
    refine awp_rg mixed ?_
    refine k_ (g_ rfl rfl (r_alloc 6 tok rfl rfl (lt_ rfl) t66 rfl)) ?_
    refine k_ (g_ rfl rfl (by first | exact r_store tok rfl rfl t66 rfl rfl rfl rfl rfl rfl | exact r_store_ep tok rfl rfl t66 rfl rfl rfl rfl rfl (by first | rfl | simp) (by first | assumption | rfl) rfl (le_ rfl))) ?_
    refine z_ rfl (by kernel_rfl) ?_
    refine ⟨rfl, ?_⟩
    refine awp_block ?_
    refine awp_rg mixed ?_
    refine k_ (g_ rfl rfl (by first | exact r_load tok rfl rfl (lt_ rfl) t31 rfl rfl rfl rfl | exact r_load_pt tok rfl rfl (lt_ rfl) t31 rfl (le_ rfl) rfl | exact r_load_ep tok rfl rfl (lt_ rfl) t31 rfl rfl (by first | rfl | simp) (by first | assumption | rfl) (le_ rfl) rfl)) ?_
    refine k_ (g_ rfl rfl (r_nilCheck rfl rfl (lt_ rfl) rfl rfl)) ?_
    refine k_ (g_ rfl rfl (by first | exact r_field_vp tok rfl rfl (lt_ rfl) t86 rfl rfl t82 (nz_ rfl) rfl | exact r_field_pt tok rfl rfl (lt_ rfl) t86 rfl rfl t82 (nz_ rfl) rfl | exact r_field_ep tok rfl rfl (lt_ rfl) t86 rfl rfl t82 (nz_ rfl) rfl rfl (by first | rfl | simp))) ?_
    refine k_ (g_ rfl rfl (by first | exact r_load tok rfl rfl (lt_ rfl) t82 rfl rfl rfl rfl | exact r_load_pt tok rfl rfl (lt_ rfl) t82 rfl (le_ rfl) rfl | exact r_load_ep tok rfl rfl (lt_ rfl) t82 rfl rfl (by first | rfl | simp) (by first | assumption | rfl) (le_ rfl) rfl)) ?_
    refine k_ (g_ rfl rfl (by first | exact r_field_vp tok rfl rfl (lt_ rfl) t66 rfl rfl t9 (nz_ rfl) rfl | exact r_field_pt tok rfl rfl (lt_ rfl) t66 rfl rfl t9 (nz_ rfl) rfl | exact r_field_ep tok rfl rfl (lt_ rfl) t66 rfl rfl t9 (nz_ rfl) rfl rfl (by first | rfl | simp))) ?_
    refine k_ (g_ rfl rfl (by first | exact r_load tok rfl rfl (lt_ rfl) t9 rfl rfl rfl rfl | exact r_load_pt tok rfl rfl (lt_ rfl) t9 rfl (le_ rfl) rfl | exact r_load_ep tok rfl rfl (lt_ rfl) t9 rfl rfl (by first | rfl | simp) (by first | assumption | rfl) (le_ rfl) rfl)) ?_
    refine k_ (g_ rfl rfl (by first | exact r_load tok rfl rfl (lt_ rfl) t66 rfl rfl rfl rfl | exact r_load_pt tok rfl rfl (lt_ rfl) t66 rfl (le_ rfl) rfl | exact r_load_ep tok rfl rfl (lt_ rfl) t66 rfl rfl (by first | rfl | simp) (by first | assumption | rfl) (le_ rfl) rfl)) ?_
    refine k_ (g_ rfl rfl (by exact r_mapUpdate tok rfl rfl t82 rfl t9 rfl rfl rfl (by first | assumption | exact trivial) rfl rfl rfl rfl (by first | exact .of_pure | (refine .c .refl ?_; refine .c .refl ?_; refine .c .refl ?_; (first | refine .hs rfl (by first | rfl | simp) (by first | rfl | (simp; done) | (simp [Go.AM.take_map]; done) | exact Go.AM.take_map.symm) ?_ | refine .c .refl ?_ | refine .c (Cle.nl (es := 1)) ?_); (first | refine .hs rfl (by first | rfl | simp) (by first | rfl | (simp; done) | (simp [Go.AM.take_map]; done) | exact Go.AM.take_map.symm) ?_ | refine .c .refl ?_ | refine .c (Cle.nl (es := 1)) ?_); (first | refine .hs rfl (by first | rfl | simp) (by first | rfl | (simp; done) | (simp [Go.AM.take_map]; done) | exact Go.AM.take_map.symm) ?_ | refine .c .refl ?_ | refine .c (Cle.nl (es := 9)) ?_); exact .nil)))) ?_
    refine z_ rfl (by kernel_rfl) ?_
    exact ⟨rfl, ⟨⟨_, rfl, .var rfl⟩, ⟨_, rfl, .var rfl⟩, ⟨_, rfl, .var rfl⟩, ⟨_, rfl, Ole.mapE (by rw [drop_get hc]; rfl)⟩, ⟨_, rfl, .map⟩, trivial⟩, rfl⟩
  refine awp_seq ?_
  refine awp_seq ?_
  refine awp_rg mixed ?_
  refine k_ (g_ rfl rfl (by first | exact r_field_vp tok rfl rfl (lt_ rfl) t28 rfl rfl t24 (nz_ rfl) rfl | exact r_field_pt tok rfl rfl (lt_ rfl) t28 rfl rfl t24 (nz_ rfl) rfl | exact r_field_ep tok rfl rfl (lt_ rfl) t28 rfl rfl t24 (nz_ rfl) rfl rfl (by first | rfl | simp))) ?_
  refine k_ (g_ rfl rfl (by first | exact r_load tok rfl rfl (lt_ rfl) t24 rfl rfl rfl rfl | exact r_load_pt tok rfl rfl (lt_ rfl) t24 rfl (le_ rfl) rfl | exact r_load_ep tok rfl rfl (lt_ rfl) t24 rfl rfl (by first | rfl | simp) (by first | assumption | rfl) (le_ rfl) rfl)) ?_
  refine k_ (g_ rfl rfl (by exact r_call [] [(771, .var 24 [.c (.sl 6 (p.classes.map encCls))])] b33 rfl rfl (lt_ rfl) (c33 (p.classes.map encCls)) (.cons rfl (by first | exact .refl | exact .one (.hs rfl (by first | rfl | simp) (by first | rfl | (simp; done) | (simp [Go.AM.take_map]; done) | exact Go.AM.take_map.symm) .nil) | exact .one (.c .nl .nil) | exact .one (.c .sn .nil)) (.nil)) (by repeat (first | exact trivial | refine ⟨rfl, ?_⟩)) ⟨.inr rfl, trivial⟩ rfl)) ?_
  refine z_ rfl (by kernel_rfl) ?_
  refine awp_block ?_   -- block 2
  refine awp_range (st' := .ready) (j := none) (hin := hk2 p (p.classes.map encCls).length) (hout := hk2 p 0) 900 902 [(4, .one (.vp 4 0))]
    (mkd [(1, .one (.vp 1 0)), (3, .one (.vp 3 0)), (4, .one (.vp 4 0))] [(1, .var 28 ((encProg p).map R.c)), (3, .var 34 [.c (.int .i64 0), .c (.int .i64 0)]), (4, .var 31 [.vp 20 0]), (20, .var 86 [.mr 14, .mr 15, .c (.sl 6 (p.insts.map encInst))]), (14, .map true (cmF p.classes)), (15, .map true (mmF p.classes)), (901, .dfr), (902, .dfr)] [902, 901])
    b49 rfl ⟨rfl, trivial⟩ ⟨rfl, rfl, rfl, rfl, by rw [List.length_map, List.drop_length]; rfl, trivial⟩ ⟨.inl (by simp [keys, hk2]), .inl (by simp [keys, hk2]), .inl (by simp [keys, hk2]), .inl (by simp [keys, hk2]), .inl (by simp [keys, hk2]), trivial⟩ rfl rfl
    (c49 (p.classes.map encCls) (by simpa using hl) 900 771 [900, 771, 4, 20, 14, 15] (fun k => (900, .lp .ready none ⟨80, _, _, _⟩ [(4, .one (.vp 4 0))]) :: hk2 p k) (fun k => ⟨rfl, rfl⟩) (fun k => rfl) rfl (by simp [encCls]) ?_) rfl (by simp)
    (.listD (fun i => i) ⟨rfl, rfl, rfl, trivial⟩ ⟨⟨_, rfl, .var rfl⟩, ⟨_, rfl, .var rfl⟩, ⟨_, rfl, .var rfl⟩, ⟨_, rfl, .var rfl⟩, ⟨_, rfl, .map⟩, ⟨_, rfl, .map⟩, ⟨_, rfl, .dfr⟩, ⟨_, rfl, .dfr⟩, trivial⟩ rfl) ?_
  · intro k x hx
    obtain ⟨c, hc, rfl⟩ := enc_get hx
    have hms := mstr_mm (p.classes.drop (k + 1))
    have hml := hp.mets c (List.mem_of_getElem? hc)
    unfold Small at hml
    refine RndC.of (j := none) (fun l => ?_) rfl
    refine awp_rg mixed ?_
    refine k_ (g_ rfl rfl (r_alloc 8 tok rfl rfl (lt_ rfl) t66 rfl)) ?_
    refine k_ (g_ rfl rfl (by first | exact r_store tok rfl rfl t66 rfl rfl rfl rfl rfl rfl | exact r_store_ep tok rfl rfl t66 rfl rfl rfl rfl rfl (by first | rfl | simp) (by first | assumption | rfl) rfl (le_ rfl))) ?_
    refine z_ rfl (by kernel_rfl) ?_
    refine ⟨rfl, ?_⟩
    refine awp_block ?_   -- block 3
    refine awp_seq ?_
    refine awp_rg mixed ?_
    refine k_ (g_ rfl rfl (by first | exact r_field_vp tok rfl rfl (lt_ rfl) t66 rfl rfl t64 (nz_ rfl) rfl | exact r_field_pt tok rfl rfl (lt_ rfl) t66 rfl rfl t64 (nz_ rfl) rfl | exact r_field_ep tok rfl rfl (lt_ rfl) t66 rfl rfl t64 (nz_ rfl) rfl rfl (by first | rfl | simp))) ?_
    refine k_ (g_ rfl rfl (by first | exact r_load tok rfl rfl (lt_ rfl) t64 rfl rfl rfl rfl | exact r_load_pt tok rfl rfl (lt_ rfl) t64 rfl (le_ rfl) rfl | exact r_load_ep tok rfl rfl (lt_ rfl) t64 rfl rfl (by first | rfl | simp) (by first | assumption | rfl) (le_ rfl) rfl)) ?_
    refine k_ (g_ rfl rfl (by exact r_call [] [(772, .var 64 [.c (.sl 9 (c.methods.map encSig))])] b34 rfl rfl (lt_ rfl) (c34 (c.methods.map encSig)) (.cons rfl (by first | exact .refl | exact .one (.hs rfl (by first | rfl | simp) (by first | rfl | (simp; done) | (simp [Go.AM.take_map]; done) | exact Go.AM.take_map.symm) .nil) | exact .one (.c .nl .nil) | exact .one (.c .sn .nil)) (.nil)) (by repeat (first | exact trivial | refine ⟨rfl, ?_⟩)) ⟨.inr rfl, trivial⟩ rfl)) ?_
    refine z_ rfl (by kernel_rfl) ?_
    refine awp_block ?_   -- block 4
    refine awp_rangeR (st' := .ready) (j := none) (hin := hk3 p c (mmF (p.classes.drop (k + 1))) (c.methods.map encSig).length) (hout := hk3 p c (mmF (p.classes.drop (k + 1))) 0) 910 [(4, .one (.vp 4 0)), (8, .one (.vp 8 0))]
      (mk [] [(771, .var 24 [.c (.sl 6 (p.classes.map encCls))]), (4, .var 31 [.vp 20 0]), (20, .var 86 [.mr 14, .mr 15, .c (.sl 6 (p.insts.map encInst))]), (14, .map true (cmF p.classes)), (15, .map true (mmF (p.classes.drop k)))])
      b50 rfl ⟨rfl, rfl, trivial⟩ ⟨rfl, rfl, rfl, rfl, by rw [List.length_map, List.drop_length]; rfl, rfl, trivial⟩ ⟨.inl (by simp [keys, hk3]), .inl (by simp [keys, hk3]), .inl (by simp [keys, hk3]), .inl (by simp [keys, hk3]), .inl (by simp [keys, hk3]), .inl (by simp [keys, hk3]), trivial⟩ rfl
      (c50 (c.methods.map encSig) (by simpa using hml) 910 772 [910, 772, 4, 20, 14, 15, 8] (fun j => (910, .lp .ready none ⟨80, _, _, _⟩ [(4, .one (.vp 4 0)), (8, .one (.vp 8 0))]) :: hk3 p c (mmF (p.classes.drop (k + 1))) j) (fun j => ⟨rfl, rfl⟩) (fun j => rfl) rfl (by simp [encSig]) ?_) rfl (by simp)
      (.list (fun i => i) trivial ⟨⟨_, rfl, .var rfl⟩, ⟨_, rfl, .var rfl⟩, ⟨_, rfl, .var rfl⟩, ⟨_, rfl, .map⟩, ⟨_, rfl, Ole.mapE (by rw [drop_get hc]; rfl)⟩, trivial⟩ rfl) ?_
    · intro j y hy
      obtain ⟨m, hm, rfl⟩ := enc_get hy
      have hms' := mstr_mt c.name (c.methods.drop (j + 1)) (j + 1) hms
      refine RndC.of (j := none) (fun l => ?_) rfl
      refine awp_seq ?_
      refine awp_rg mixed ?_
      refine k_ (g_ rfl rfl (r_assign rfl rfl (lt_ rfl) rfl)) ?_
      refine z_ rfl (by kernel_rfl) ?_
      refine awp_rg mixed ?_
      refine k_ (g_ rfl rfl (r_alloc 10 tok rfl rfl (lt_ rfl) t81 rfl)) ?_
      refine k_ (g_ rfl rfl (by first | exact r_store tok rfl rfl t81 rfl rfl rfl rfl rfl rfl | exact r_store_ep tok rfl rfl t81 rfl rfl rfl rfl rfl (by first | rfl | simp) (by first | assumption | rfl) rfl (le_ rfl))) ?_
      refine z_ rfl (by kernel_rfl) ?_
      refine ⟨rfl, ?_⟩
      refine awp_block ?_
      refine awp_rg mixed ?_
      refine k_ (g_ rfl rfl (by first | exact r_load tok rfl rfl (lt_ rfl) t31 rfl rfl rfl rfl | exact r_load_pt tok rfl rfl (lt_ rfl) t31 rfl (le_ rfl) rfl | exact r_load_ep tok rfl rfl (lt_ rfl) t31 rfl rfl (by first | rfl | simp) (by first | assumption | rfl) (le_ rfl) rfl)) ?_
      refine k_ (g_ rfl rfl (r_nilCheck rfl rfl (lt_ rfl) rfl rfl)) ?_
      refine k_ (g_ rfl rfl (by first | exact r_field_vp tok rfl rfl (lt_ rfl) t86 rfl rfl t83 (nz_ rfl) rfl | exact r_field_pt tok rfl rfl (lt_ rfl) t86 rfl rfl t83 (nz_ rfl) rfl | exact r_field_ep tok rfl rfl (lt_ rfl) t86 rfl rfl t83 (nz_ rfl) rfl rfl (by first | rfl | simp))) ?_
      refine k_ (g_ rfl rfl (by first | exact r_load tok rfl rfl (lt_ rfl) t83 rfl rfl rfl rfl | exact r_load_pt tok rfl rfl (lt_ rfl) t83 rfl (le_ rfl) rfl | exact r_load_ep tok rfl rfl (lt_ rfl) t83 rfl rfl (by first | rfl | simp) (by first | assumption | rfl) (le_ rfl) rfl)) ?_
      refine k_ (g_ rfl rfl (by first | exact r_field_vp tok rfl rfl (lt_ rfl) t81 rfl rfl t9 (nz_ rfl) rfl | exact r_field_pt tok rfl rfl (lt_ rfl) t81 rfl rfl t9 (nz_ rfl) rfl | exact r_field_ep tok rfl rfl (lt_ rfl) t81 rfl rfl t9 (nz_ rfl) rfl rfl (by first | rfl | simp))) ?_
      refine k_ (g_ rfl rfl (by first | exact r_load tok rfl rfl (lt_ rfl) t9 rfl rfl rfl rfl | exact r_load_pt tok rfl rfl (lt_ rfl) t9 rfl (le_ rfl) rfl | exact r_load_ep tok rfl rfl (lt_ rfl) t9 rfl rfl (by first | rfl | simp) (by first | assumption | rfl) (le_ rfl) rfl)) ?_
      refine k_ (g_ rfl rfl (by first | exact r_field_vp tok rfl rfl (lt_ rfl) t66 rfl rfl t9 (nz_ rfl) rfl | exact r_field_pt tok rfl rfl (lt_ rfl) t66 rfl rfl t9 (nz_ rfl) rfl | exact r_field_ep tok rfl rfl (lt_ rfl) t66 rfl rfl t9 (nz_ rfl) rfl rfl (by first | rfl | simp))) ?_
      refine k_ (g_ rfl rfl (by first | exact r_load tok rfl rfl (lt_ rfl) t9 rfl rfl rfl rfl | exact r_load_pt tok rfl rfl (lt_ rfl) t9 rfl (le_ rfl) rfl | exact r_load_ep tok rfl rfl (lt_ rfl) t9 rfl rfl (by first | rfl | simp) (by first | assumption | rfl) (le_ rfl) rfl)) ?_
      refine k_ (g_ rfl rfl (r_move rfl rfl (lt_ rfl) rfl)) ?_
      refine k_ (g_ rfl rfl (r_build tok rfl rfl (lt_ rfl) t94 rfl p94 rfl rfl)) ?_
      refine k_ (g_ rfl rfl (by exact r_mapUpdate tok rfl rfl t83 rfl t9 rfl rfl rfl (by first | assumption | exact trivial) rfl rfl rfl rfl (.c .refl (.c .refl (.nil))))) ?_
      refine z_ rfl (by kernel_rfl) ?_
      exact ⟨rfl, ⟨⟨_, rfl, .var rfl⟩, ⟨_, rfl, .var rfl⟩, ⟨_, rfl, .var rfl⟩, ⟨_, rfl, .map⟩, ⟨_, rfl, Ole.mapE (by rw [drop_get hm]; rfl)⟩, ⟨_, rfl, .var rfl⟩, trivial⟩, rfl⟩
    exact ⟨rfl, ⟨⟨_, rfl, .var rfl⟩, ⟨_, rfl, .var rfl⟩, ⟨_, rfl, .var rfl⟩, ⟨_, rfl, .map⟩, ⟨_, rfl, .map⟩, trivial⟩, rfl⟩
  refine awp_seq ?_
  refine awp_rg mixed ?_
  refine k_ (g_ rfl rfl (r_build tok rfl rfl (lt_ rfl) t34 rfl p34 rfl rfl)) ?_
  refine k_ (g_ rfl rfl (r_alloc 11 tok rfl rfl (lt_ rfl) t34 rfl)) ?_
  refine k_ (g_ rfl rfl (by first | exact r_store tok rfl rfl t34 rfl rfl rfl rfl rfl rfl | exact r_store_ep tok rfl rfl t34 rfl rfl rfl rfl rfl (by first | rfl | simp) (by first | assumption | rfl) rfl (le_ rfl))) ?_
  refine z_ rfl (by kernel_rfl) ?_
  refine AWp.sub (Sub.fmap (id := 14) rfl (by simp [keys])) ?_
  refine AWp.sub (Sub.fmap (id := 15) rfl (by simp [keys])) ?_
  refine AWp.sub (Sub.fvar (id := 20) (l := encEnv (envOf p)) rfl (by simp [keys])) ?_
  refine AWp.sub (st2 := mkd [(1, .one (.vp 1 0)), (3, .one (.vp 3 0)), (4, .one (.vp 4 0)), (11, .one (.vp 11 0))] [(1, .var 28 ((encProg p).map R.c)), (3, .var 34 [.c (.int .i64 0), .c (.int .i64 0)]), (4, .var 31 [.c (.pt (encEnv (envOf p)))]), (11, .var 34 ((encAt ⟨0, 0⟩).map R.c)), (901, .dfr), (902, .dfr)] [902, 901]) (.listD (fun i => i) ⟨rfl, rfl, rfl, rfl, trivial⟩ ⟨⟨_, rfl, .var rfl⟩, ⟨_, rfl, .var rfl⟩, ⟨_, rfl, .var rfl⟩, ⟨_, rfl, .var rfl⟩, ⟨_, rfl, .dfr⟩, ⟨_, rfl, .dfr⟩, trivial⟩ rfl) ?_
  have hrl := refl_len p
  refine awp_seq ?_
  refine awp_seq ?_
  refine awp_rg mixed ?_
  refine k_ (g_ rfl rfl (by first | exact r_load tok rfl rfl (lt_ rfl) t31 rfl rfl rfl rfl | exact r_load_pt tok rfl rfl (lt_ rfl) t31 rfl (le_ rfl) rfl | exact r_load_ep tok rfl rfl (lt_ rfl) t31 rfl rfl (by first | rfl | simp) (by first | assumption | rfl) (le_ rfl) rfl)) ?_
  refine k_ (g_ rfl rfl (by first | exact r_load tok rfl rfl (lt_ rfl) t28 rfl rfl rfl rfl | exact r_load_pt tok rfl rfl (lt_ rfl) t28 rfl (le_ rfl) rfl | exact r_load_ep tok rfl rfl (lt_ rfl) t28 rfl rfl (by first | rfl | simp) (by first | assumption | rfl) (le_ rfl) rfl)) ?_
  refine k_ (g_ rfl rfl (by exact r_call [] [] b35 rfl rfl (lt_ rfl) (c35 p (envOf p) (envOf_ok p) hp) (.cons rfl .refl (.cons rfl (by first | exact .refl | exact .agg (by first | exact .of_pure | ((first | refine .hs rfl (by first | rfl | simp) (by first | rfl | (simp; done) | (simp [Go.AM.take_map]; done) | exact Go.AM.take_map.symm) ?_ | refine .c .refl ?_ | refine .c (Cle.nl (es := 5)) ?_); (first | refine .hs rfl (by first | rfl | simp) (by first | rfl | (simp; done) | (simp [Go.AM.take_map]; done) | exact Go.AM.take_map.symm) ?_ | refine .c .refl ?_ | refine .c (Cle.nl (es := 6)) ?_); (first | refine .hs rfl (by first | rfl | simp) (by first | rfl | (simp; done) | (simp [Go.AM.take_map]; done) | exact Go.AM.take_map.symm) ?_ | refine .c .refl ?_ | refine .c (Cle.nl (es := 6)) ?_); (first | refine .hs rfl (by first | rfl | simp) (by first | rfl | (simp; done) | (simp [Go.AM.take_map]; done) | exact Go.AM.take_map.symm) ?_ | refine .c .refl ?_ | refine .c (Cle.nl (es := 33)) ?_); exact .nil)) | exact .pa (by first | exact .of_pure | ((first | refine .hs rfl (by first | rfl | simp) (by first | rfl | (simp; done) | (simp [Go.AM.take_map]; done) | exact Go.AM.take_map.symm) ?_ | refine .c .refl ?_ | refine .c (Cle.nl (es := 5)) ?_); (first | refine .hs rfl (by first | rfl | simp) (by first | rfl | (simp; done) | (simp [Go.AM.take_map]; done) | exact Go.AM.take_map.symm) ?_ | refine .c .refl ?_ | refine .c (Cle.nl (es := 6)) ?_); (first | refine .hs rfl (by first | rfl | simp) (by first | rfl | (simp; done) | (simp [Go.AM.take_map]; done) | exact Go.AM.take_map.symm) ?_ | refine .c .refl ?_ | refine .c (Cle.nl (es := 6)) ?_); (first | refine .hs rfl (by first | rfl | simp) (by first | rfl | (simp; done) | (simp [Go.AM.take_map]; done) | exact Go.AM.take_map.symm) ?_ | refine .c .refl ?_ | refine .c (Cle.nl (es := 33)) ?_); exact .nil))) (.nil))) (by repeat (first | exact trivial | refine ⟨rfl, ?_⟩)) (by repeat (first | exact trivial | refine ⟨.inr rfl, ?_⟩ | refine ⟨.inl (by decide), ?_⟩)) rfl)) ?_
  refine k_ (g_ rfl rfl (by first | exact r_len_sl tok rfl rfl (lt_ rfl) t95 rfl rfl | exact r_len_hs tok rfl rfl (lt_ rfl) t95 rfl rfl rfl (by first | rfl | simp) | exact r_len_nl tok rfl rfl (lt_ rfl) t95 rfl rfl | exact r_len_str tok rfl rfl (lt_ rfl) t95 rfl rfl)) ?_
  refine k_ (g_ rfl rfl (r_move rfl rfl (lt_ rfl) rfl)) ?_
  refine z_ rfl (by kernel_rfl) ?_
  refine awp_block ?_   -- block 6
  refine awp_loop (fun x : Nat × At => mkd [(3, .one (.vp 3 0)), (4, .one (.vp 4 0)), (11, .one (.vp 11 0)), (56, .one (.c (.sl 2 ((refl p).map encAt)))), (57, I .i64 (refl p).length), (58, I .i64 x.1)] [(3, .var 34 [.c (.int .i64 0), .c (.int .i64 0)]), (4, .var 31 [.c (.pt (encEnv (envOf p)))]), (11, .var 34 ((encAt x.2).map R.c)), (901, .dfr), (902, .dfr)] [902, 901])
    (fun x => x.1 ≤ (refl p).length ∧ x.2 = ((refl p).take x.1).foldl leastF ⟨0, 0⟩) (fun x => (refl p).length - x.1) (0, ⟨0, 0⟩) ⟨Nat.zero_le _, by simp⟩ (.listD (fun i => i) ⟨rfl, rfl, rfl, rfl, int_eq (by simp), rfl, trivial⟩ ⟨⟨_, rfl, .var rfl⟩, ⟨_, rfl, .var rfl⟩, ⟨_, rfl, .var rfl⟩, ⟨_, rfl, .dfr⟩, ⟨_, rfl, .dfr⟩, trivial⟩ rfl) ?_
  rintro ⟨i, a⟩ ⟨hi, hit⟩
  dsimp only at hi hit ⊢
  refine awp_seq ?_
  refine awp_rg mixed ?_
  refine k_ (g_ rfl rfl (r_lss rfl rfl (lt_ rfl) rfl rfl)) ?_
  refine z_ rfl (by kernel_rfl) ?_
  refine awp_seq ?_
  refine awp_cond rfl (fun hb => ?_) (fun hb => ?_)
  · refine awp_skip ?_
    have hlt : i < (refl p).length := by simpa using hb
    obtain ⟨r, hr⟩ := get_of_lt hlt
    have hr' := getEnc encAt hr
    have hnext : leastF a r = ((refl p).take (i + 1)).foldl leastF ⟨0, 0⟩ := by rw [fold_take hr, ← hit]
    refine awp_seq ?_
    refine awp_block ?_   -- block 7
    refine awp_seq ?_
    refine awp_rg mixed ?_
    refine k_ (g_ rfl rfl (by first | exact r_index tok rfl rfl (lt_ rfl) t95 rfl t34 rfl rfl rfl rfl (by first | assumption | rfl) | exact r_index_hs tok rfl rfl (lt_ rfl) t95 rfl t34 rfl rfl rfl (by first | rfl | simp) rfl rfl (by first | decide | omega | (simp; done) | (simp; omega)))) ?_
    refine k_ (g_ rfl rfl (by first | exact r_load tok rfl rfl (lt_ rfl) t34 rfl rfl rfl rfl | exact r_load_pt tok rfl rfl (lt_ rfl) t34 rfl (le_ rfl) rfl | exact r_load_ep tok rfl rfl (lt_ rfl) t34 rfl rfl (by first | rfl | simp) (by first | assumption | rfl) (le_ rfl) rfl)) ?_
    refine k_ (g_ rfl rfl (r_alloc 13 tok rfl rfl (lt_ rfl) t34 rfl)) ?_
    refine k_ (g_ rfl rfl (by first | exact r_store tok rfl rfl t34 rfl rfl rfl rfl rfl rfl | exact r_store_ep tok rfl rfl t34 rfl rfl rfl rfl rfl (by first | rfl | simp) (by first | assumption | rfl) rfl (le_ rfl))) ?_
    refine z_ rfl (by kernel_rfl) ?_
    refine awp_seq ?_
    by_cases h1 : a.no = 0
    · have h1' : decide (a.no = 0) = true := by simp [h1]
      refine awp_rg mixed ?_
      refine k_ (g_ rfl rfl (by first | exact r_field_vp tok rfl rfl (lt_ rfl) t34 rfl rfl t32 (nz_ rfl) rfl | exact r_field_pt tok rfl rfl (lt_ rfl) t34 rfl rfl t32 (nz_ rfl) rfl | exact r_field_ep tok rfl rfl (lt_ rfl) t34 rfl rfl t32 (nz_ rfl) rfl rfl (by first | rfl | simp))) ?_
      refine k_ (g_ rfl rfl (by first | exact r_load tok rfl rfl (lt_ rfl) t32 rfl rfl rfl rfl | exact r_load_pt tok rfl rfl (lt_ rfl) t32 rfl (le_ rfl) rfl | exact r_load_ep tok rfl rfl (lt_ rfl) t32 rfl rfl (by first | rfl | simp) (by first | assumption | rfl) (le_ rfl) rfl)) ?_
      refine k_ (g_ rfl rfl (r_eql rfl rfl (lt_ rfl) rfl rfl)) ?_
      refine k_ (g_ rfl rfl (r_move rfl rfl (lt_ rfl) rfl)) ?_
      refine k_ (by first | exact GStep.no rfl rfl rfl (lt_ rfl) rfl rfl (by first | assumption | rfl | (simp; done) | (simp only [Bool.not]; assumption) | (simp; omega)) rfl | exact GStep.un rfl rfl rfl (lt_ rfl) rfl rfl) ?_
      refine k_ (by first | exact GStep.no rfl rfl rfl (lt_ rfl) rfl rfl (by first | assumption | rfl | (simp; done) | (simp only [Bool.not]; assumption) | (simp; omega)) rfl | exact GStep.un rfl rfl rfl (lt_ rfl) rfl rfl) ?_
      refine k_ (by first | exact GStep.no rfl rfl rfl (lt_ rfl) rfl rfl (by first | assumption | rfl | (simp; done) | (simp only [Bool.not]; assumption) | (simp; omega)) rfl | exact GStep.un rfl rfl rfl (lt_ rfl) rfl rfl) ?_
      refine k_ (by first | exact GStep.no rfl rfl rfl (lt_ rfl) rfl rfl (by first | assumption | rfl | (simp; done) | (simp only [Bool.not]; assumption) | (simp; omega)) rfl | exact GStep.un rfl rfl rfl (lt_ rfl) rfl rfl) ?_
      refine k_ (by first | exact GStep.no rfl rfl rfl (lt_ rfl) rfl rfl (by first | assumption | rfl | (simp; done) | (simp only [Bool.not]; assumption) | (simp; omega)) rfl | exact GStep.un rfl rfl rfl (lt_ rfl) rfl rfl) ?_
      refine k_ (g_ rfl rfl (by exact r_pick_t rfl rfl (lt_ rfl) rfl (by first | assumption | rfl | (simp; done)) rfl)) ?_
      refine z_ rfl (by kernel_rfl) ?_
      refine awp_cond rfl (fun hb => ?_) (fun hb => by cases hb)
      refine awp_rg mixed ?_
      refine k_ (g_ rfl rfl (by first | exact r_load tok rfl rfl (lt_ rfl) t34 rfl rfl rfl rfl | exact r_load_pt tok rfl rfl (lt_ rfl) t34 rfl (le_ rfl) rfl | exact r_load_ep tok rfl rfl (lt_ rfl) t34 rfl rfl (by first | rfl | simp) (by first | assumption | rfl) (le_ rfl) rfl)) ?_
      refine k_ (g_ rfl rfl (by first | exact r_store tok rfl rfl t34 rfl rfl rfl rfl rfl rfl | exact r_store_ep tok rfl rfl t34 rfl rfl rfl rfl rfl (by first | rfl | simp) (by first | assumption | rfl) rfl (le_ rfl))) ?_
      refine z_ rfl (by kernel_rfl) ?_
      refine awp_rg mixed ?_
      refine k_ (g_ rfl rfl (by exact r_addI rfl rfl (lt_ rfl) rfl rfl (by first | omega | (simp only [List.length_map]; omega)))) ?_
      refine k_ (g_ rfl rfl (r_move rfl rfl (lt_ rfl) rfl)) ?_
      refine z_ rfl (by kernel_rfl) ?_
      exact ⟨(i + 1, r), ⟨hlt, by rw [← hnext]; simp [leastF, h1]⟩, by dsimp only; omega, .listD (fun i => i) ⟨rfl, rfl, rfl, rfl, rfl, rfl, trivial⟩ ⟨⟨_, rfl, .var rfl⟩, ⟨_, rfl, .var rfl⟩, ⟨_, rfl, .var rfl⟩, ⟨_, rfl, .dfr⟩, ⟨_, rfl, .dfr⟩, trivial⟩ rfl⟩
    · have h1' : decide (a.no = 0) = false := by simp [h1]
      refine awp_rg mixed ?_
      refine k_ (g_ rfl rfl (by first | exact r_field_vp tok rfl rfl (lt_ rfl) t34 rfl rfl t32 (nz_ rfl) rfl | exact r_field_pt tok rfl rfl (lt_ rfl) t34 rfl rfl t32 (nz_ rfl) rfl | exact r_field_ep tok rfl rfl (lt_ rfl) t34 rfl rfl t32 (nz_ rfl) rfl rfl (by first | rfl | simp))) ?_
      refine k_ (g_ rfl rfl (by first | exact r_load tok rfl rfl (lt_ rfl) t32 rfl rfl rfl rfl | exact r_load_pt tok rfl rfl (lt_ rfl) t32 rfl (le_ rfl) rfl | exact r_load_ep tok rfl rfl (lt_ rfl) t32 rfl rfl (by first | rfl | simp) (by first | assumption | rfl) (le_ rfl) rfl)) ?_
      refine k_ (g_ rfl rfl (r_eql rfl rfl (lt_ rfl) rfl rfl)) ?_
      refine k_ (g_ rfl rfl (r_move rfl rfl (lt_ rfl) rfl)) ?_
      refine k_ (GStep.yes rfl rfl rfl rfl (by first | assumption | rfl | (simp; done) | (simp only [Bool.not]; assumption) | (simp; omega)) (by first | exact r_field_vp tok rfl rfl (lt_ rfl) t34 rfl rfl t3 (nz_ rfl) rfl | exact r_field_pt tok rfl rfl (lt_ rfl) t34 rfl rfl t3 (nz_ rfl) rfl | exact r_field_ep tok rfl rfl (lt_ rfl) t34 rfl rfl t3 (nz_ rfl) rfl rfl (by first | rfl | simp))) ?_
      refine k_ (GStep.yes rfl rfl rfl rfl (by first | assumption | rfl | (simp; done) | (simp only [Bool.not]; assumption) | (simp; omega)) (by first | exact r_load tok rfl rfl (lt_ rfl) t3 rfl rfl rfl rfl | exact r_load_pt tok rfl rfl (lt_ rfl) t3 rfl (le_ rfl) rfl | exact r_load_ep tok rfl rfl (lt_ rfl) t3 rfl rfl (by first | rfl | simp) (by first | assumption | rfl) (le_ rfl) rfl)) ?_
      refine k_ (GStep.yes rfl rfl rfl rfl (by first | assumption | rfl | (simp; done) | (simp only [Bool.not]; assumption) | (simp; omega)) (by first | exact r_field_vp tok rfl rfl (lt_ rfl) t34 rfl rfl t3 (nz_ rfl) rfl | exact r_field_pt tok rfl rfl (lt_ rfl) t34 rfl rfl t3 (nz_ rfl) rfl | exact r_field_ep tok rfl rfl (lt_ rfl) t34 rfl rfl t3 (nz_ rfl) rfl rfl (by first | rfl | simp))) ?_
      refine k_ (GStep.yes rfl rfl rfl rfl (by first | assumption | rfl | (simp; done) | (simp only [Bool.not]; assumption) | (simp; omega)) (by first | exact r_load tok rfl rfl (lt_ rfl) t3 rfl rfl rfl rfl | exact r_load_pt tok rfl rfl (lt_ rfl) t3 rfl (le_ rfl) rfl | exact r_load_ep tok rfl rfl (lt_ rfl) t3 rfl rfl (by first | rfl | simp) (by first | assumption | rfl) (le_ rfl) rfl)) ?_
      refine k_ (GStep.yes rfl rfl rfl rfl (by first | assumption | rfl | (simp; done) | (simp only [Bool.not]; assumption) | (simp; omega)) (by exact r_lss rfl rfl (lt_ rfl) rfl rfl)) ?_
      refine k_ (g_ rfl rfl (by exact r_pick_f rfl rfl (lt_ rfl) rfl (by first | assumption | rfl | (simp; done)) rfl)) ?_
      refine z_ rfl (by kernel_rfl) ?_
      refine awp_cond rfl (fun hb => ?_) (fun hb => ?_)
      · have h2 : r.at_ < a.at_ := by simpa using hb
        refine awp_rg mixed ?_
        refine k_ (g_ rfl rfl (by first | exact r_load tok rfl rfl (lt_ rfl) t34 rfl rfl rfl rfl | exact r_load_pt tok rfl rfl (lt_ rfl) t34 rfl (le_ rfl) rfl | exact r_load_ep tok rfl rfl (lt_ rfl) t34 rfl rfl (by first | rfl | simp) (by first | assumption | rfl) (le_ rfl) rfl)) ?_
        refine k_ (g_ rfl rfl (by first | exact r_store tok rfl rfl t34 rfl rfl rfl rfl rfl rfl | exact r_store_ep tok rfl rfl t34 rfl rfl rfl rfl rfl (by first | rfl | simp) (by first | assumption | rfl) rfl (le_ rfl))) ?_
        refine z_ rfl (by kernel_rfl) ?_
        refine awp_rg mixed ?_
        refine k_ (g_ rfl rfl (by exact r_addI rfl rfl (lt_ rfl) rfl rfl (by first | omega | (simp only [List.length_map]; omega)))) ?_
        refine k_ (g_ rfl rfl (r_move rfl rfl (lt_ rfl) rfl)) ?_
        refine z_ rfl (by kernel_rfl) ?_
        exact ⟨(i + 1, r), ⟨hlt, by rw [← hnext]; simp [leastF, h2]⟩, by dsimp only; omega, .listD (fun i => i) ⟨rfl, rfl, rfl, rfl, rfl, rfl, trivial⟩ ⟨⟨_, rfl, .var rfl⟩, ⟨_, rfl, .var rfl⟩, ⟨_, rfl, .var rfl⟩, ⟨_, rfl, .dfr⟩, ⟨_, rfl, .dfr⟩, trivial⟩ rfl⟩
      · refine awp_skip ?_
        have h2 : ¬ r.at_ < a.at_ := by simpa using hb
        refine awp_rg mixed ?_
        refine k_ (g_ rfl rfl (by exact r_addI rfl rfl (lt_ rfl) rfl rfl (by first | omega | (simp only [List.length_map]; omega)))) ?_
        refine k_ (g_ rfl rfl (r_move rfl rfl (lt_ rfl) rfl)) ?_
        refine z_ rfl (by kernel_rfl) ?_
        exact ⟨(i + 1, a), ⟨hlt, by rw [← hnext]; simp [leastF, h1, h2]⟩, by dsimp only; omega, .listD (fun i => i) ⟨rfl, rfl, rfl, rfl, rfl, rfl, trivial⟩ ⟨⟨_, rfl, .var rfl⟩, ⟨_, rfl, .var rfl⟩, ⟨_, rfl, .var rfl⟩, ⟨_, rfl, .dfr⟩, ⟨_, rfl, .dfr⟩, trivial⟩ rfl⟩
  · refine awp_exit ?_   -- 6
    have hge : i = (refl p).length := by
      have : ¬ i < (refl p).length := by simpa using hb
      omega
    rw [hge, List.take_length] at hit
    rw [show a = newAt p from hit]
    refine awp_seq ?_
    refine awp_seq ?_
    refine awp_rg mixed ?_
    refine k_ (g_ rfl rfl (by first | exact r_field_vp tok rfl rfl (lt_ rfl) t34 rfl rfl t32 (nz_ rfl) rfl | exact r_field_pt tok rfl rfl (lt_ rfl) t34 rfl rfl t32 (nz_ rfl) rfl | exact r_field_ep tok rfl rfl (lt_ rfl) t34 rfl rfl t32 (nz_ rfl) rfl rfl (by first | rfl | simp))) ?_
    refine k_ (g_ rfl rfl (by first | exact r_load tok rfl rfl (lt_ rfl) t32 rfl rfl rfl rfl | exact r_load_pt tok rfl rfl (lt_ rfl) t32 rfl (le_ rfl) rfl | exact r_load_ep tok rfl rfl (lt_ rfl) t32 rfl rfl (by first | rfl | simp) (by first | assumption | rfl) (le_ rfl) rfl)) ?_
    refine k_ (g_ rfl rfl (r_neq rfl rfl (lt_ rfl) rfl rfl)) ?_
    refine z_ rfl (by kernel_rfl) ?_
    refine awp_cond rfl (fun hb => ?_) (fun hb => ?_)
    · have h : (newAt p).no ≠ 0 := by simpa using hb
      refine awp_seq ?_
      refine awp_rg mixed ?_
      refine k_ (g_ rfl rfl (by first | exact r_load tok rfl rfl (lt_ rfl) t34 rfl rfl rfl rfl | exact r_load_pt tok rfl rfl (lt_ rfl) t34 rfl (le_ rfl) rfl | exact r_load_ep tok rfl rfl (lt_ rfl) t34 rfl rfl (by first | rfl | simp) (by first | assumption | rfl) (le_ rfl) rfl)) ?_
      refine k_ (g_ rfl rfl (r_assign rfl rfl (lt_ rfl) rfl)) ?_
      refine k_ (g_ rfl rfl (by first | exact r_store tok rfl rfl t34 rfl rfl rfl rfl rfl rfl | exact r_store_ep tok rfl rfl t34 rfl rfl rfl rfl rfl (by first | rfl | simp) (by first | assumption | rfl) rfl (le_ rfl))) ?_
      refine z_ rfl (by kernel_rfl) ?_
      refine awp_ret ?_
      rw [newR, if_pos h]
      exact ⟨.inr rfl, ⟨_, _, .tmp rfl (.cell rfl t34 rfl rfl rfl .nil), .cons .refl (.cons .refl .nil), rfl⟩, trivial, rfl⟩
    · have h : (newAt p).no = 0 := by simpa using hb
      refine awp_skip ?_
      refine awp_seq ?_
      refine awp_rg mixed ?_
      refine k_ (g_ rfl rfl (by first | exact r_load tok rfl rfl (lt_ rfl) t31 rfl rfl rfl rfl | exact r_load_pt tok rfl rfl (lt_ rfl) t31 rfl (le_ rfl) rfl | exact r_load_ep tok rfl rfl (lt_ rfl) t31 rfl rfl (by first | rfl | simp) (by first | assumption | rfl) (le_ rfl) rfl)) ?_
      refine k_ (g_ rfl rfl (r_build tok rfl rfl (lt_ rfl) t34 rfl p34 rfl rfl)) ?_
      refine k_ (g_ rfl rfl (r_assign rfl rfl (lt_ rfl) rfl)) ?_
      refine k_ (g_ rfl rfl (by first | exact r_store tok rfl rfl t34 rfl rfl rfl rfl rfl rfl | exact r_store_ep tok rfl rfl t34 rfl rfl rfl rfl rfl (by first | rfl | simp) (by first | assumption | rfl) rfl (le_ rfl))) ?_
      refine z_ rfl (by kernel_rfl) ?_
      refine awp_ret ?_
      rw [newR, if_neg (by simpa using h)]
      exact ⟨.inr rfl, ⟨_, _, .tmp rfl (.cell rfl t34 rfl rfl rfl .nil), .cons .refl (.cons .refl .nil), rfl⟩, trivial, rfl⟩
end Go.Proofs.Ythfeeaifddppoaa
