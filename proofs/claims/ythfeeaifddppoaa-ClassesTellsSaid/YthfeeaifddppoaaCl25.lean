/-
  ClassesTells.
-/
import Derived.Test.YthfeeaifddppoaaCl24
namespace Go.Proofs.Ythfeeaifddppoaa
open Go Go.AM
set_option maxRecDepth 20000
set_option maxHeartbeats 1000000

theorem envPath_fits {p : Prog} (hp : PS p) (f t : Str) : Fits ((envPath p f t).getD []) := by
  have hl := hp.cls
  unfold Small at hl
  unfold Fits
  unfold envPath
  split
  · split <;> simp
  · rcases climbR_spec p f t with ⟨x, h1, h2⟩ | ⟨h1, _⟩
    · rw [h1]
      have := h2.len
      simp only [Option.getD_some, ipath, List.length_map]
      omega
    · rw [h1]; simp
theorem above_fits {p : Prog} (hp : PS p) (f : Str) : Fits (above p f) := by
  have hl := hp.cls
  unfold Small at hl
  have h2 : (above p f).length ≤ p.classes.length := (TOk.abv (p := p) (p.classes.length + 1) (told := []) f (.nil p)).len
  unfold Fits
  omega

theorem c6 (l : List Int) (a b c : Int) (hr : ∀ x ∈ l, In64 x) (hl : Fits l) : ImpC Try.prog 6 [.one (.c (.sl 1 (l.map encI))), I .i64 a, I .i64 b, I .i64 c] [] (B true) [] := by
  have h8 := c8 l hr hl
  have hp := made_PS l
  generalize made l = p at h8 hp
  have h10 := c10 p hp
  refine impC (n := 201) tok Try.func6 rfl rfl rfl ?_
  by_cases hno : (newAt p).no ≠ 0
  · rw [newR_nil hno] at h10
    have s1 : (!decide ((newAt p).no = 0)) = true := by simpa using hno
    refine awp_seq ?_
    refine awp_rg mixed ?_
    refine k_ (g_ rfl rfl (r_assign rfl rfl (lt_ rfl) rfl)) ?_
    refine z_ rfl (by kernel_rfl) ?_
    refine awp_seq ?_
    refine awp_rg mixed ?_
    refine k_ (g_ rfl rfl (r_move rfl rfl (lt_ rfl) rfl)) ?_
    refine k_ (g_ rfl rfl (by exact r_call [] [] b8 rfl rfl (lt_ rfl) h8 (.cons rfl (by first | exact .refl | exact .one (.hs rfl (by first | rfl | simp) (by first | rfl | (simp; done) | (simp [Go.AM.take_map]; done) | exact Go.AM.take_map.symm) .nil) | exact .one (.c .nl .nil) | exact .one (.c .sn .nil)) (.nil)) (by repeat (first | exact trivial | refine ⟨rfl, ?_⟩)) (by repeat (first | exact trivial | refine ⟨.inr rfl, ?_⟩ | refine ⟨.inl (by decide), ?_⟩)) rfl)) ?_
    refine k_ (g_ rfl rfl (r_alloc 9 tok rfl rfl (lt_ rfl) t28 rfl)) ?_
    refine k_ (g_ rfl rfl (by first | exact r_store tok rfl rfl t28 rfl rfl rfl rfl rfl rfl | exact r_store_ep tok rfl rfl t28 rfl rfl rfl rfl rfl (by first | rfl | simp) (by first | assumption | rfl) rfl (le_ rfl))) ?_
    refine z_ rfl (by kernel_rfl) ?_
    refine awp_seq ?_
    refine awp_rg mixed ?_
    refine k_ (g_ rfl rfl (by first | exact r_load tok rfl rfl (lt_ rfl) t28 rfl rfl rfl rfl | exact r_load_pt tok rfl rfl (lt_ rfl) t28 rfl (le_ rfl) rfl | exact r_load_ep tok rfl rfl (lt_ rfl) t28 rfl rfl (by first | rfl | simp) (by first | assumption | rfl) (le_ rfl) rfl)) ?_
    refine k_ (g_ rfl rfl (by exact r_call [] [] b10 rfl rfl (lt_ rfl) h10 (.cons rfl (by first | exact .refl | exact .agg (by first | exact .of_pure | ((first | refine .hs rfl (by first | rfl | simp) (by first | rfl | (simp; done) | (simp [Go.AM.take_map]; done) | exact Go.AM.take_map.symm) ?_ | refine .c .refl ?_ | refine .c (Cle.nl (es := 5)) ?_); (first | refine .hs rfl (by first | rfl | simp) (by first | rfl | (simp; done) | (simp [Go.AM.take_map]; done) | exact Go.AM.take_map.symm) ?_ | refine .c .refl ?_ | refine .c (Cle.nl (es := 6)) ?_); (first | refine .hs rfl (by first | rfl | simp) (by first | rfl | (simp; done) | (simp [Go.AM.take_map]; done) | exact Go.AM.take_map.symm) ?_ | refine .c .refl ?_ | refine .c (Cle.nl (es := 6)) ?_); (first | refine .hs rfl (by first | rfl | simp) (by first | rfl | (simp; done) | (simp [Go.AM.take_map]; done) | exact Go.AM.take_map.symm) ?_ | refine .c .refl ?_ | refine .c (Cle.nl (es := 33)) ?_); exact .nil)) | exact .pa (by first | exact .of_pure | ((first | refine .hs rfl (by first | rfl | simp) (by first | rfl | (simp; done) | (simp [Go.AM.take_map]; done) | exact Go.AM.take_map.symm) ?_ | refine .c .refl ?_ | refine .c (Cle.nl (es := 5)) ?_); (first | refine .hs rfl (by first | rfl | simp) (by first | rfl | (simp; done) | (simp [Go.AM.take_map]; done) | exact Go.AM.take_map.symm) ?_ | refine .c .refl ?_ | refine .c (Cle.nl (es := 6)) ?_); (first | refine .hs rfl (by first | rfl | simp) (by first | rfl | (simp; done) | (simp [Go.AM.take_map]; done) | exact Go.AM.take_map.symm) ?_ | refine .c .refl ?_ | refine .c (Cle.nl (es := 6)) ?_); (first | refine .hs rfl (by first | rfl | simp) (by first | rfl | (simp; done) | (simp [Go.AM.take_map]; done) | exact Go.AM.take_map.symm) ?_ | refine .c .refl ?_ | refine .c (Cle.nl (es := 33)) ?_); exact .nil))) (.nil)) (by repeat (first | exact trivial | refine ⟨rfl, ?_⟩)) (by repeat (first | exact trivial | refine ⟨.inr rfl, ?_⟩ | refine ⟨.inl (by decide), ?_⟩)) rfl)) ?_
    refine k_ (g_ rfl rfl (r_move rfl rfl (lt_ rfl) rfl)) ?_
    refine k_ (g_ rfl rfl (r_extract rfl rfl (lt_ rfl) rfl rfl)) ?_
    refine k_ (g_ rfl rfl (r_extract rfl rfl (lt_ rfl) rfl rfl)) ?_
    refine k_ (g_ rfl rfl (r_alloc 11 tok rfl rfl (lt_ rfl) t34 rfl)) ?_
    refine k_ (g_ rfl rfl (r_assign rfl rfl (lt_ rfl) rfl)) ?_
    refine k_ (g_ rfl rfl (by first | exact r_store tok rfl rfl t34 rfl rfl rfl rfl rfl rfl | exact r_store_ep tok rfl rfl t34 rfl rfl rfl rfl rfl (by first | rfl | simp) (by first | assumption | rfl) rfl (le_ rfl))) ?_
    refine z_ rfl (by kernel_rfl) ?_
    refine awp_seq ?_
    refine awp_seq ?_
    refine awp_rg mixed ?_
    refine k_ (g_ rfl rfl (r_move rfl rfl (lt_ rfl) rfl)) ?_
    refine k_ (g_ rfl rfl (by exact r_peql tok rfl rfl (lt_ rfl) t31 rfl rfl (by first | rfl | assumption) rfl)) ?_
    refine z_ rfl (by kernel_rfl) ?_
    refine awp_cond rfl (fun hb => ?_) (fun hb => by cases hb)
    refine awp_seq ?_
    refine awp_rg mixed ?_
    refine k_ (g_ rfl rfl (by first | exact r_field_vp tok rfl rfl (lt_ rfl) t34 rfl rfl t32 (nz_ rfl) rfl | exact r_field_pt tok rfl rfl (lt_ rfl) t34 rfl rfl t32 (nz_ rfl) rfl | exact r_field_ep tok rfl rfl (lt_ rfl) t34 rfl rfl t32 (nz_ rfl) rfl rfl (by first | rfl | simp))) ?_
    refine k_ (g_ rfl rfl (by first | exact r_load tok rfl rfl (lt_ rfl) t32 rfl rfl rfl rfl | exact r_load_pt tok rfl rfl (lt_ rfl) t32 rfl (le_ rfl) rfl | exact r_load_ep tok rfl rfl (lt_ rfl) t32 rfl rfl (by first | rfl | simp) (by first | assumption | rfl) (le_ rfl) rfl)) ?_
    refine k_ (g_ rfl rfl (r_neq rfl rfl (lt_ rfl) rfl rfl)) ?_
    refine k_ (g_ rfl rfl (r_move rfl rfl (lt_ rfl) rfl)) ?_
    refine k_ (GStep.yes rfl rfl rfl rfl (by first | assumption | rfl | (simp; done) | (simp only [Bool.not]; assumption) | (simp; omega)) (by exact r_call [] [] b12 rfl rfl (lt_ rfl) c12 (.nil) (by repeat (first | exact trivial | refine ⟨rfl, ?_⟩)) (by repeat (first | exact trivial | refine ⟨.inr rfl, ?_⟩ | refine ⟨.inl (by decide), ?_⟩)) rfl)) ?_
    refine k_ (g_ rfl rfl (by exact r_pick_t rfl rfl (lt_ rfl) rfl (by first | assumption | rfl | (simp; done)) rfl)) ?_
    refine k_ (g_ rfl rfl (r_assign rfl rfl (lt_ rfl) rfl)) ?_
    refine z_ rfl (by kernel_rfl) ?_
    refine awp_ret ?_
    exact ⟨.inr rfl, ⟨_, _, .tmp rfl .nil, .cons .refl .nil, rfl⟩, trivial, rfl⟩
  · have h0 : (newAt p).no = 0 := by simpa using hno
    rw [newR_env h0] at h10
    have he := envOf_ok p
    obtain ⟨k1, hk1, h14a⟩ := nm_of a
    obtain ⟨k2, hk2, h14b⟩ := nm_of b
    obtain ⟨k3, hk3, h14c⟩ := cn_of c
    have g1 := nm_get hk1
    have g2 := nm_get hk2
    have g3 := cn_get hk3
    have hnl := nm_len k2
    have h15 := c15 p (envOf p) (nm k1) (nm k2) he hp
    have h20 := c20 p (nm k1) (nm k2) hp
    rw [pathR_eq] at h20
    have h21 := c21 ((envPath p (nm k1) (nm k2)).getD []) ((envPath p (nm k1) (nm k2)).getD []) (envPath_fits hp _ _) (envPath_fits hp _ _)
    have h18 := c18 p (envOf p) (nm k1) he hp
    have h23 := c23 p (nm k1) hp
    have h22 := c22 (above p (nm k1)) (above p (nm k1)) (above_fits hp _) (above_fits hp _)
    have h16 := c16 p (envOf p) (nm k1) (cn k3) he hp
    have h24 := c24 p (nm k1) (cn k3) hp.insts.fits
    have h25 := c25 p (envOf p) (nm k1) he hp
    have h26 := c26 p (nm k1) hp.cls.fits
    have h27 := c27 p (envOf p) ([109] ++ nm k2) he
    have h28 := c28 p ([109] ++ nm k2) hp.cls.fits (fun c hc => (hp.mets c hc).fits)
    have h19 := c19 p (envOf p) he hp
    have hsf : Fits ((cls p (nm k1)).getD zCls).supers := (hp.supersOf (nm k1)).fits
    have h22s := c22 ((cls p (nm k1)).getD zCls).supers ((cls p (nm k1)).getD zCls).supers hsf hsf
    refine awp_seq ?_
    refine awp_rg mixed ?_
    refine k_ (g_ rfl rfl (r_assign rfl rfl (lt_ rfl) rfl)) ?_
    refine z_ rfl (by kernel_rfl) ?_
    refine awp_seq ?_
    refine awp_rg mixed ?_
    refine k_ (g_ rfl rfl (r_move rfl rfl (lt_ rfl) rfl)) ?_
    refine k_ (g_ rfl rfl (by exact r_call [] [] b8 rfl rfl (lt_ rfl) h8 (.cons rfl (by first | exact .refl | exact .one (.hs rfl (by first | rfl | simp) (by first | rfl | (simp; done) | (simp [Go.AM.take_map]; done) | exact Go.AM.take_map.symm) .nil) | exact .one (.c .nl .nil) | exact .one (.c .sn .nil)) (.nil)) (by repeat (first | exact trivial | refine ⟨rfl, ?_⟩)) (by repeat (first | exact trivial | refine ⟨.inr rfl, ?_⟩ | refine ⟨.inl (by decide), ?_⟩)) rfl)) ?_
    refine k_ (g_ rfl rfl (r_alloc 9 tok rfl rfl (lt_ rfl) t28 rfl)) ?_
    refine k_ (g_ rfl rfl (by first | exact r_store tok rfl rfl t28 rfl rfl rfl rfl rfl rfl | exact r_store_ep tok rfl rfl t28 rfl rfl rfl rfl rfl (by first | rfl | simp) (by first | assumption | rfl) rfl (le_ rfl))) ?_
    refine z_ rfl (by kernel_rfl) ?_
    refine awp_seq ?_
    refine awp_rg mixed ?_
    refine k_ (g_ rfl rfl (by first | exact r_load tok rfl rfl (lt_ rfl) t28 rfl rfl rfl rfl | exact r_load_pt tok rfl rfl (lt_ rfl) t28 rfl (le_ rfl) rfl | exact r_load_ep tok rfl rfl (lt_ rfl) t28 rfl rfl (by first | rfl | simp) (by first | assumption | rfl) (le_ rfl) rfl)) ?_
    refine k_ (g_ rfl rfl (by exact r_call [] [] b10 rfl rfl (lt_ rfl) h10 (.cons rfl (by first | exact .refl | exact .agg (by first | exact .of_pure | ((first | refine .hs rfl (by first | rfl | simp) (by first | rfl | (simp; done) | (simp [Go.AM.take_map]; done) | exact Go.AM.take_map.symm) ?_ | refine .c .refl ?_ | refine .c (Cle.nl (es := 5)) ?_); (first | refine .hs rfl (by first | rfl | simp) (by first | rfl | (simp; done) | (simp [Go.AM.take_map]; done) | exact Go.AM.take_map.symm) ?_ | refine .c .refl ?_ | refine .c (Cle.nl (es := 6)) ?_); (first | refine .hs rfl (by first | rfl | simp) (by first | rfl | (simp; done) | (simp [Go.AM.take_map]; done) | exact Go.AM.take_map.symm) ?_ | refine .c .refl ?_ | refine .c (Cle.nl (es := 6)) ?_); (first | refine .hs rfl (by first | rfl | simp) (by first | rfl | (simp; done) | (simp [Go.AM.take_map]; done) | exact Go.AM.take_map.symm) ?_ | refine .c .refl ?_ | refine .c (Cle.nl (es := 33)) ?_); exact .nil)) | exact .pa (by first | exact .of_pure | ((first | refine .hs rfl (by first | rfl | simp) (by first | rfl | (simp; done) | (simp [Go.AM.take_map]; done) | exact Go.AM.take_map.symm) ?_ | refine .c .refl ?_ | refine .c (Cle.nl (es := 5)) ?_); (first | refine .hs rfl (by first | rfl | simp) (by first | rfl | (simp; done) | (simp [Go.AM.take_map]; done) | exact Go.AM.take_map.symm) ?_ | refine .c .refl ?_ | refine .c (Cle.nl (es := 6)) ?_); (first | refine .hs rfl (by first | rfl | simp) (by first | rfl | (simp; done) | (simp [Go.AM.take_map]; done) | exact Go.AM.take_map.symm) ?_ | refine .c .refl ?_ | refine .c (Cle.nl (es := 6)) ?_); (first | refine .hs rfl (by first | rfl | simp) (by first | rfl | (simp; done) | (simp [Go.AM.take_map]; done) | exact Go.AM.take_map.symm) ?_ | refine .c .refl ?_ | refine .c (Cle.nl (es := 33)) ?_); exact .nil))) (.nil)) (by repeat (first | exact trivial | refine ⟨rfl, ?_⟩)) (by repeat (first | exact trivial | refine ⟨.inr rfl, ?_⟩ | refine ⟨.inl (by decide), ?_⟩)) rfl)) ?_
    refine k_ (g_ rfl rfl (r_move rfl rfl (lt_ rfl) rfl)) ?_
    refine k_ (g_ rfl rfl (r_extract rfl rfl (lt_ rfl) rfl rfl)) ?_
    refine k_ (g_ rfl rfl (r_extract rfl rfl (lt_ rfl) rfl rfl)) ?_
    refine k_ (g_ rfl rfl (r_alloc 11 tok rfl rfl (lt_ rfl) t34 rfl)) ?_
    refine k_ (g_ rfl rfl (r_assign rfl rfl (lt_ rfl) rfl)) ?_
    refine k_ (g_ rfl rfl (by first | exact r_store tok rfl rfl t34 rfl rfl rfl rfl rfl rfl | exact r_store_ep tok rfl rfl t34 rfl rfl rfl rfl rfl (by first | rfl | simp) (by first | assumption | rfl) rfl (le_ rfl))) ?_
    refine z_ rfl (by kernel_rfl) ?_
    refine awp_seq ?_
    refine awp_seq ?_
    refine awp_rg mixed ?_
    refine k_ (g_ rfl rfl (r_move rfl rfl (lt_ rfl) rfl)) ?_
    refine k_ (g_ rfl rfl (by exact r_peql tok rfl rfl (lt_ rfl) t31 rfl rfl (by first | rfl | assumption) rfl)) ?_
    refine z_ rfl (by kernel_rfl) ?_
    refine awp_cond rfl (fun hb => by cases hb) (fun hb => ?_)
    refine awp_skip ?_
    refine awp_seq ?_
    refine awp_rg mixed ?_
    refine k_ (g_ rfl rfl (by exact r_call [] [] b13 rfl rfl (lt_ rfl) c13 (.nil) (by repeat (first | exact trivial | refine ⟨rfl, ?_⟩)) (by repeat (first | exact trivial | refine ⟨.inr rfl, ?_⟩ | refine ⟨.inl (by decide), ?_⟩)) rfl)) ?_
    refine k_ (g_ rfl rfl (r_move rfl rfl (lt_ rfl) rfl)) ?_
    refine k_ (g_ rfl rfl (r_extract rfl rfl (lt_ rfl) rfl rfl)) ?_
    refine k_ (g_ rfl rfl (r_extract rfl rfl (lt_ rfl) rfl rfl)) ?_
    refine k_ (g_ rfl rfl (r_assign rfl rfl (lt_ rfl) rfl)) ?_
    refine k_ (g_ rfl rfl (r_assign rfl rfl (lt_ rfl) rfl)) ?_
    refine z_ rfl (by kernel_rfl) ?_
    refine awp_seq ?_
    refine awp_rg mixed ?_
    refine k_ (g_ rfl rfl (r_move rfl rfl (lt_ rfl) rfl)) ?_
    refine k_ (g_ rfl rfl (r_move rfl rfl (lt_ rfl) rfl)) ?_
    refine k_ (g_ rfl rfl (by exact r_call [] [] b14 rfl rfl (lt_ rfl) h14a (.cons rfl .refl (.cons rfl .refl (.nil))) (by repeat (first | exact trivial | refine ⟨rfl, ?_⟩)) (by repeat (first | exact trivial | refine ⟨.inr rfl, ?_⟩ | refine ⟨.inl (by decide), ?_⟩)) rfl)) ?_
    refine k_ (g_ rfl rfl (by first | exact r_index tok rfl rfl (lt_ rfl) t40 rfl t9 rfl rfl rfl rfl (by first | assumption | rfl) | exact r_index_hs tok rfl rfl (lt_ rfl) t40 rfl t9 rfl rfl rfl (by first | rfl | simp) rfl rfl (by first | decide | omega | (simp; done) | (simp; omega)))) ?_
    refine k_ (g_ rfl rfl (by first | exact r_load tok rfl rfl (lt_ rfl) t9 rfl rfl rfl rfl | exact r_load_pt tok rfl rfl (lt_ rfl) t9 rfl (le_ rfl) rfl | exact r_load_ep tok rfl rfl (lt_ rfl) t9 rfl rfl (by first | rfl | simp) (by first | assumption | rfl) (le_ rfl) rfl)) ?_
    refine k_ (g_ rfl rfl (r_assign rfl rfl (lt_ rfl) rfl)) ?_
    refine z_ rfl (by kernel_rfl) ?_
    refine awp_seq ?_
    refine awp_rg mixed ?_
    refine k_ (g_ rfl rfl (r_move rfl rfl (lt_ rfl) rfl)) ?_
    refine k_ (g_ rfl rfl (r_move rfl rfl (lt_ rfl) rfl)) ?_
    refine k_ (g_ rfl rfl (by exact r_call [] [] b14 rfl rfl (lt_ rfl) h14b (.cons rfl .refl (.cons rfl .refl (.nil))) (by repeat (first | exact trivial | refine ⟨rfl, ?_⟩)) (by repeat (first | exact trivial | refine ⟨.inr rfl, ?_⟩ | refine ⟨.inl (by decide), ?_⟩)) rfl)) ?_
    refine k_ (g_ rfl rfl (by first | exact r_index tok rfl rfl (lt_ rfl) t40 rfl t9 rfl rfl rfl rfl (by first | assumption | rfl) | exact r_index_hs tok rfl rfl (lt_ rfl) t40 rfl t9 rfl rfl rfl (by first | rfl | simp) rfl rfl (by first | decide | omega | (simp; done) | (simp; omega)))) ?_
    refine k_ (g_ rfl rfl (by first | exact r_load tok rfl rfl (lt_ rfl) t9 rfl rfl rfl rfl | exact r_load_pt tok rfl rfl (lt_ rfl) t9 rfl (le_ rfl) rfl | exact r_load_ep tok rfl rfl (lt_ rfl) t9 rfl rfl (by first | rfl | simp) (by first | assumption | rfl) (le_ rfl) rfl)) ?_
    refine k_ (g_ rfl rfl (r_assign rfl rfl (lt_ rfl) rfl)) ?_
    refine z_ rfl (by kernel_rfl) ?_
    refine awp_seq ?_
    refine awp_rg mixed ?_
    refine k_ (g_ rfl rfl (r_move rfl rfl (lt_ rfl) rfl)) ?_
    refine k_ (g_ rfl rfl (r_move rfl rfl (lt_ rfl) rfl)) ?_
    refine k_ (g_ rfl rfl (by exact r_call [] [] b14 rfl rfl (lt_ rfl) h14c (.cons rfl .refl (.cons rfl .refl (.nil))) (by repeat (first | exact trivial | refine ⟨rfl, ?_⟩)) (by repeat (first | exact trivial | refine ⟨.inr rfl, ?_⟩ | refine ⟨.inl (by decide), ?_⟩)) rfl)) ?_
    refine k_ (g_ rfl rfl (by first | exact r_index tok rfl rfl (lt_ rfl) t40 rfl t9 rfl rfl rfl rfl (by first | assumption | rfl) | exact r_index_hs tok rfl rfl (lt_ rfl) t40 rfl t9 rfl rfl rfl (by first | rfl | simp) rfl rfl (by first | decide | omega | (simp; done) | (simp; omega)))) ?_
    refine k_ (g_ rfl rfl (by first | exact r_load tok rfl rfl (lt_ rfl) t9 rfl rfl rfl rfl | exact r_load_pt tok rfl rfl (lt_ rfl) t9 rfl (le_ rfl) rfl | exact r_load_ep tok rfl rfl (lt_ rfl) t9 rfl rfl (by first | rfl | simp) (by first | assumption | rfl) (le_ rfl) rfl)) ?_
    refine k_ (g_ rfl rfl (r_assign rfl rfl (lt_ rfl) rfl)) ?_
    refine z_ rfl (by kernel_rfl) ?_
    refine awp_seq ?_
    refine awp_rg mixed ?_
    refine k_ (g_ rfl rfl (r_move rfl rfl (lt_ rfl) rfl)) ?_
    refine k_ (g_ rfl rfl (r_move rfl rfl (lt_ rfl) rfl)) ?_
    refine k_ (g_ rfl rfl (r_move rfl rfl (lt_ rfl) rfl)) ?_
    refine k_ (g_ rfl rfl (by exact r_call [] [] b15 rfl rfl (lt_ rfl) h15 (.cons rfl .refl (.cons rfl .refl (.cons rfl .refl (.nil)))) (by repeat (first | exact trivial | refine ⟨rfl, ?_⟩)) (by repeat (first | exact trivial | refine ⟨.inr rfl, ?_⟩ | refine ⟨.inl (by decide), ?_⟩)) rfl)) ?_
    refine k_ (g_ rfl rfl (r_move rfl rfl (lt_ rfl) rfl)) ?_
    refine k_ (g_ rfl rfl (r_extract rfl rfl (lt_ rfl) rfl rfl)) ?_
    refine k_ (g_ rfl rfl (r_extract rfl rfl (lt_ rfl) rfl rfl)) ?_
    refine k_ (g_ rfl rfl (r_assign rfl rfl (lt_ rfl) rfl)) ?_
    refine k_ (g_ rfl rfl (r_assign rfl rfl (lt_ rfl) rfl)) ?_
    refine z_ rfl (by kernel_rfl) ?_
    refine awp_seq ?_
    refine awp_rg mixed ?_
    refine k_ (g_ rfl rfl (by first | exact r_load tok rfl rfl (lt_ rfl) t28 rfl rfl rfl rfl | exact r_load_pt tok rfl rfl (lt_ rfl) t28 rfl (le_ rfl) rfl | exact r_load_ep tok rfl rfl (lt_ rfl) t28 rfl rfl (by first | rfl | simp) (by first | assumption | rfl) (le_ rfl) rfl)) ?_
    refine k_ (g_ rfl rfl (r_move rfl rfl (lt_ rfl) rfl)) ?_
    refine k_ (g_ rfl rfl (r_move rfl rfl (lt_ rfl) rfl)) ?_
    refine k_ (g_ rfl rfl (by exact r_call [] [] b20 rfl rfl (lt_ rfl) h20 (.cons rfl (by first | exact .refl | exact .agg (by first | exact .of_pure | ((first | refine .hs rfl (by first | rfl | simp) (by first | rfl | (simp; done) | (simp [Go.AM.take_map]; done) | exact Go.AM.take_map.symm) ?_ | refine .c .refl ?_ | refine .c (Cle.nl (es := 5)) ?_); (first | refine .hs rfl (by first | rfl | simp) (by first | rfl | (simp; done) | (simp [Go.AM.take_map]; done) | exact Go.AM.take_map.symm) ?_ | refine .c .refl ?_ | refine .c (Cle.nl (es := 6)) ?_); (first | refine .hs rfl (by first | rfl | simp) (by first | rfl | (simp; done) | (simp [Go.AM.take_map]; done) | exact Go.AM.take_map.symm) ?_ | refine .c .refl ?_ | refine .c (Cle.nl (es := 6)) ?_); (first | refine .hs rfl (by first | rfl | simp) (by first | rfl | (simp; done) | (simp [Go.AM.take_map]; done) | exact Go.AM.take_map.symm) ?_ | refine .c .refl ?_ | refine .c (Cle.nl (es := 33)) ?_); exact .nil)) | exact .pa (by first | exact .of_pure | ((first | refine .hs rfl (by first | rfl | simp) (by first | rfl | (simp; done) | (simp [Go.AM.take_map]; done) | exact Go.AM.take_map.symm) ?_ | refine .c .refl ?_ | refine .c (Cle.nl (es := 5)) ?_); (first | refine .hs rfl (by first | rfl | simp) (by first | rfl | (simp; done) | (simp [Go.AM.take_map]; done) | exact Go.AM.take_map.symm) ?_ | refine .c .refl ?_ | refine .c (Cle.nl (es := 6)) ?_); (first | refine .hs rfl (by first | rfl | simp) (by first | rfl | (simp; done) | (simp [Go.AM.take_map]; done) | exact Go.AM.take_map.symm) ?_ | refine .c .refl ?_ | refine .c (Cle.nl (es := 6)) ?_); (first | refine .hs rfl (by first | rfl | simp) (by first | rfl | (simp; done) | (simp [Go.AM.take_map]; done) | exact Go.AM.take_map.symm) ?_ | refine .c .refl ?_ | refine .c (Cle.nl (es := 33)) ?_); exact .nil))) (.cons rfl .refl (.cons rfl .refl (.nil)))) (by repeat (first | exact trivial | refine ⟨rfl, ?_⟩)) (by repeat (first | exact trivial | refine ⟨.inr rfl, ?_⟩ | refine ⟨.inl (by decide), ?_⟩)) rfl)) ?_
    refine k_ (g_ rfl rfl (r_move rfl rfl (lt_ rfl) rfl)) ?_
    refine k_ (g_ rfl rfl (r_extract rfl rfl (lt_ rfl) rfl rfl)) ?_
    refine k_ (g_ rfl rfl (r_extract rfl rfl (lt_ rfl) rfl rfl)) ?_
    refine k_ (g_ rfl rfl (r_assign rfl rfl (lt_ rfl) rfl)) ?_
    refine k_ (g_ rfl rfl (r_assign rfl rfl (lt_ rfl) rfl)) ?_
    refine z_ rfl (by kernel_rfl) ?_
    refine awp_seq ?_
    refine awp_rg mixed ?_
    refine k_ (g_ rfl rfl (r_move rfl rfl (lt_ rfl) rfl)) ?_
    refine k_ (g_ rfl rfl (r_move rfl rfl (lt_ rfl) rfl)) ?_
    refine k_ (g_ rfl rfl (by exact r_call [] [] b21 rfl rfl (lt_ rfl) h21 (.cons rfl (by first | exact .refl | exact .one (.hs rfl (by first | rfl | simp) (by first | rfl | (simp; done) | (simp [Go.AM.take_map]; done) | exact Go.AM.take_map.symm) .nil) | exact .one (.c .nl .nil) | exact .one (.c .sn .nil)) (.cons rfl (by first | exact .refl | exact .one (.hs rfl (by first | rfl | simp) (by first | rfl | (simp; done) | (simp [Go.AM.take_map]; done) | exact Go.AM.take_map.symm) .nil) | exact .one (.c .nl .nil) | exact .one (.c .sn .nil)) (.nil))) (by repeat (first | exact trivial | refine ⟨rfl, ?_⟩)) (by repeat (first | exact trivial | refine ⟨.inr rfl, ?_⟩ | refine ⟨.inl (by decide), ?_⟩)) rfl)) ?_
    refine k_ (g_ rfl rfl (r_assign rfl rfl (lt_ rfl) rfl)) ?_
    refine z_ rfl (by kernel_rfl) ?_
    refine awp_seq ?_
    refine awp_rg mixed ?_
    refine k_ (g_ rfl rfl (r_move rfl rfl (lt_ rfl) rfl)) ?_
    refine k_ (g_ rfl rfl (r_move rfl rfl (lt_ rfl) rfl)) ?_
    refine k_ (g_ rfl rfl (by exact r_call [] [] b18 rfl rfl (lt_ rfl) h18 (.cons rfl .refl (.cons rfl .refl (.nil))) (by repeat (first | exact trivial | refine ⟨rfl, ?_⟩)) (by repeat (first | exact trivial | refine ⟨.inr rfl, ?_⟩ | refine ⟨.inl (by decide), ?_⟩)) rfl)) ?_
    refine k_ (g_ rfl rfl (by first | exact r_load tok rfl rfl (lt_ rfl) t28 rfl rfl rfl rfl | exact r_load_pt tok rfl rfl (lt_ rfl) t28 rfl (le_ rfl) rfl | exact r_load_ep tok rfl rfl (lt_ rfl) t28 rfl rfl (by first | rfl | simp) (by first | assumption | rfl) (le_ rfl) rfl)) ?_
    refine k_ (g_ rfl rfl (r_move rfl rfl (lt_ rfl) rfl)) ?_
    refine k_ (g_ rfl rfl (by exact r_call [] [] b23 rfl rfl (lt_ rfl) h23 (.cons rfl (by first | exact .refl | exact .agg (by first | exact .of_pure | ((first | refine .hs rfl (by first | rfl | simp) (by first | rfl | (simp; done) | (simp [Go.AM.take_map]; done) | exact Go.AM.take_map.symm) ?_ | refine .c .refl ?_ | refine .c (Cle.nl (es := 5)) ?_); (first | refine .hs rfl (by first | rfl | simp) (by first | rfl | (simp; done) | (simp [Go.AM.take_map]; done) | exact Go.AM.take_map.symm) ?_ | refine .c .refl ?_ | refine .c (Cle.nl (es := 6)) ?_); (first | refine .hs rfl (by first | rfl | simp) (by first | rfl | (simp; done) | (simp [Go.AM.take_map]; done) | exact Go.AM.take_map.symm) ?_ | refine .c .refl ?_ | refine .c (Cle.nl (es := 6)) ?_); (first | refine .hs rfl (by first | rfl | simp) (by first | rfl | (simp; done) | (simp [Go.AM.take_map]; done) | exact Go.AM.take_map.symm) ?_ | refine .c .refl ?_ | refine .c (Cle.nl (es := 33)) ?_); exact .nil)) | exact .pa (by first | exact .of_pure | ((first | refine .hs rfl (by first | rfl | simp) (by first | rfl | (simp; done) | (simp [Go.AM.take_map]; done) | exact Go.AM.take_map.symm) ?_ | refine .c .refl ?_ | refine .c (Cle.nl (es := 5)) ?_); (first | refine .hs rfl (by first | rfl | simp) (by first | rfl | (simp; done) | (simp [Go.AM.take_map]; done) | exact Go.AM.take_map.symm) ?_ | refine .c .refl ?_ | refine .c (Cle.nl (es := 6)) ?_); (first | refine .hs rfl (by first | rfl | simp) (by first | rfl | (simp; done) | (simp [Go.AM.take_map]; done) | exact Go.AM.take_map.symm) ?_ | refine .c .refl ?_ | refine .c (Cle.nl (es := 6)) ?_); (first | refine .hs rfl (by first | rfl | simp) (by first | rfl | (simp; done) | (simp [Go.AM.take_map]; done) | exact Go.AM.take_map.symm) ?_ | refine .c .refl ?_ | refine .c (Cle.nl (es := 33)) ?_); exact .nil))) (.cons rfl .refl (.nil))) (by repeat (first | exact trivial | refine ⟨rfl, ?_⟩)) (by repeat (first | exact trivial | refine ⟨.inr rfl, ?_⟩ | refine ⟨.inl (by decide), ?_⟩)) rfl)) ?_
    refine k_ (g_ rfl rfl (by exact r_call [] [] b22 rfl rfl (lt_ rfl) h22 (.cons rfl (by first | exact .refl | exact .one (.hs rfl (by first | rfl | simp) (by first | rfl | (simp; done) | (simp [Go.AM.take_map]; done) | exact Go.AM.take_map.symm) .nil) | exact .one (.c .nl .nil) | exact .one (.c .sn .nil)) (.cons rfl (by first | exact .refl | exact .one (.hs rfl (by first | rfl | simp) (by first | rfl | (simp; done) | (simp [Go.AM.take_map]; done) | exact Go.AM.take_map.symm) .nil) | exact .one (.c .nl .nil) | exact .one (.c .sn .nil)) (.nil))) (by repeat (first | exact trivial | refine ⟨rfl, ?_⟩)) (by repeat (first | exact trivial | refine ⟨.inr rfl, ?_⟩ | refine ⟨.inl (by decide), ?_⟩)) rfl)) ?_
    refine k_ (g_ rfl rfl (r_assign rfl rfl (lt_ rfl) rfl)) ?_
    refine z_ rfl (by kernel_rfl) ?_
    refine awp_seq ?_
    refine awp_rg mixed ?_
    refine k_ (g_ rfl rfl (r_move rfl rfl (lt_ rfl) rfl)) ?_
    refine k_ (g_ rfl rfl (r_move rfl rfl (lt_ rfl) rfl)) ?_
    refine k_ (g_ rfl rfl (r_move rfl rfl (lt_ rfl) rfl)) ?_
    refine k_ (g_ rfl rfl (by exact r_call [] [] b16 rfl rfl (lt_ rfl) h16 (.cons rfl .refl (.cons rfl .refl (.cons rfl .refl (.nil)))) (by repeat (first | exact trivial | refine ⟨rfl, ?_⟩)) (by repeat (first | exact trivial | refine ⟨.inr rfl, ?_⟩ | refine ⟨.inl (by decide), ?_⟩)) rfl)) ?_
    refine k_ (g_ rfl rfl (r_move rfl rfl (lt_ rfl) rfl)) ?_
    refine k_ (g_ rfl rfl (r_extract rfl rfl (lt_ rfl) rfl rfl)) ?_
    refine k_ (g_ rfl rfl (r_extract rfl rfl (lt_ rfl) rfl rfl)) ?_
    refine k_ (g_ rfl rfl (r_assign rfl rfl (lt_ rfl) rfl)) ?_
    refine k_ (g_ rfl rfl (r_assign rfl rfl (lt_ rfl) rfl)) ?_
    refine z_ rfl (by kernel_rfl) ?_
    refine awp_seq ?_
    refine awp_rg mixed ?_
    refine k_ (g_ rfl rfl (by first | exact r_load tok rfl rfl (lt_ rfl) t28 rfl rfl rfl rfl | exact r_load_pt tok rfl rfl (lt_ rfl) t28 rfl (le_ rfl) rfl | exact r_load_ep tok rfl rfl (lt_ rfl) t28 rfl rfl (by first | rfl | simp) (by first | assumption | rfl) (le_ rfl) rfl)) ?_
    refine k_ (g_ rfl rfl (r_move rfl rfl (lt_ rfl) rfl)) ?_
    refine k_ (g_ rfl rfl (r_move rfl rfl (lt_ rfl) rfl)) ?_
    refine k_ (g_ rfl rfl (by exact r_call [] [] b24 rfl rfl (lt_ rfl) h24 (.cons rfl (by first | exact .refl | exact .agg (by first | exact .of_pure | ((first | refine .hs rfl (by first | rfl | simp) (by first | rfl | (simp; done) | (simp [Go.AM.take_map]; done) | exact Go.AM.take_map.symm) ?_ | refine .c .refl ?_ | refine .c (Cle.nl (es := 5)) ?_); (first | refine .hs rfl (by first | rfl | simp) (by first | rfl | (simp; done) | (simp [Go.AM.take_map]; done) | exact Go.AM.take_map.symm) ?_ | refine .c .refl ?_ | refine .c (Cle.nl (es := 6)) ?_); (first | refine .hs rfl (by first | rfl | simp) (by first | rfl | (simp; done) | (simp [Go.AM.take_map]; done) | exact Go.AM.take_map.symm) ?_ | refine .c .refl ?_ | refine .c (Cle.nl (es := 6)) ?_); (first | refine .hs rfl (by first | rfl | simp) (by first | rfl | (simp; done) | (simp [Go.AM.take_map]; done) | exact Go.AM.take_map.symm) ?_ | refine .c .refl ?_ | refine .c (Cle.nl (es := 33)) ?_); exact .nil)) | exact .pa (by first | exact .of_pure | ((first | refine .hs rfl (by first | rfl | simp) (by first | rfl | (simp; done) | (simp [Go.AM.take_map]; done) | exact Go.AM.take_map.symm) ?_ | refine .c .refl ?_ | refine .c (Cle.nl (es := 5)) ?_); (first | refine .hs rfl (by first | rfl | simp) (by first | rfl | (simp; done) | (simp [Go.AM.take_map]; done) | exact Go.AM.take_map.symm) ?_ | refine .c .refl ?_ | refine .c (Cle.nl (es := 6)) ?_); (first | refine .hs rfl (by first | rfl | simp) (by first | rfl | (simp; done) | (simp [Go.AM.take_map]; done) | exact Go.AM.take_map.symm) ?_ | refine .c .refl ?_ | refine .c (Cle.nl (es := 6)) ?_); (first | refine .hs rfl (by first | rfl | simp) (by first | rfl | (simp; done) | (simp [Go.AM.take_map]; done) | exact Go.AM.take_map.symm) ?_ | refine .c .refl ?_ | refine .c (Cle.nl (es := 33)) ?_); exact .nil))) (.cons rfl .refl (.cons rfl .refl (.nil)))) (by repeat (first | exact trivial | refine ⟨rfl, ?_⟩)) (by repeat (first | exact trivial | refine ⟨.inr rfl, ?_⟩ | refine ⟨.inl (by decide), ?_⟩)) rfl)) ?_
    refine k_ (g_ rfl rfl (r_move rfl rfl (lt_ rfl) rfl)) ?_
    refine k_ (g_ rfl rfl (r_extract rfl rfl (lt_ rfl) rfl rfl)) ?_
    refine k_ (g_ rfl rfl (r_extract rfl rfl (lt_ rfl) rfl rfl)) ?_
    refine k_ (g_ rfl rfl (r_assign rfl rfl (lt_ rfl) rfl)) ?_
    refine k_ (g_ rfl rfl (r_assign rfl rfl (lt_ rfl) rfl)) ?_
    refine z_ rfl (by kernel_rfl) ?_
    refine awp_seq ?_
    refine awp_rg mixed ?_
    refine k_ (g_ rfl rfl (r_move rfl rfl (lt_ rfl) rfl)) ?_
    refine k_ (g_ rfl rfl (r_move rfl rfl (lt_ rfl) rfl)) ?_
    refine k_ (g_ rfl rfl (by exact r_call [] [] b25 rfl rfl (lt_ rfl) h25 (.cons rfl .refl (.cons rfl .refl (.nil))) (by repeat (first | exact trivial | refine ⟨rfl, ?_⟩)) (by repeat (first | exact trivial | refine ⟨.inr rfl, ?_⟩ | refine ⟨.inl (by decide), ?_⟩)) rfl)) ?_
    refine k_ (g_ rfl rfl (r_move rfl rfl (lt_ rfl) rfl)) ?_
    refine k_ (g_ rfl rfl (r_extract rfl rfl (lt_ rfl) rfl rfl)) ?_
    refine k_ (g_ rfl rfl (r_extract rfl rfl (lt_ rfl) rfl rfl)) ?_
    refine k_ (g_ rfl rfl (r_alloc 27 tok rfl rfl (lt_ rfl) t66 rfl)) ?_
    refine k_ (g_ rfl rfl (by first | exact r_store tok rfl rfl t66 rfl rfl rfl rfl rfl rfl | exact r_store_ep tok rfl rfl t66 rfl rfl rfl rfl rfl (by first | rfl | simp) (by first | assumption | rfl) rfl (le_ rfl))) ?_
    refine k_ (g_ rfl rfl (r_assign rfl rfl (lt_ rfl) rfl)) ?_
    refine z_ rfl (by kernel_rfl) ?_
    refine awp_seq ?_
    refine awp_rg mixed ?_
    refine k_ (g_ rfl rfl (by first | exact r_load tok rfl rfl (lt_ rfl) t28 rfl rfl rfl rfl | exact r_load_pt tok rfl rfl (lt_ rfl) t28 rfl (le_ rfl) rfl | exact r_load_ep tok rfl rfl (lt_ rfl) t28 rfl rfl (by first | rfl | simp) (by first | assumption | rfl) (le_ rfl) rfl)) ?_
    refine k_ (g_ rfl rfl (r_move rfl rfl (lt_ rfl) rfl)) ?_
    refine k_ (g_ rfl rfl (by exact r_call [] [] b26 rfl rfl (lt_ rfl) h26 (.cons rfl (by first | exact .refl | exact .agg (by first | exact .of_pure | ((first | refine .hs rfl (by first | rfl | simp) (by first | rfl | (simp; done) | (simp [Go.AM.take_map]; done) | exact Go.AM.take_map.symm) ?_ | refine .c .refl ?_ | refine .c (Cle.nl (es := 5)) ?_); (first | refine .hs rfl (by first | rfl | simp) (by first | rfl | (simp; done) | (simp [Go.AM.take_map]; done) | exact Go.AM.take_map.symm) ?_ | refine .c .refl ?_ | refine .c (Cle.nl (es := 6)) ?_); (first | refine .hs rfl (by first | rfl | simp) (by first | rfl | (simp; done) | (simp [Go.AM.take_map]; done) | exact Go.AM.take_map.symm) ?_ | refine .c .refl ?_ | refine .c (Cle.nl (es := 6)) ?_); (first | refine .hs rfl (by first | rfl | simp) (by first | rfl | (simp; done) | (simp [Go.AM.take_map]; done) | exact Go.AM.take_map.symm) ?_ | refine .c .refl ?_ | refine .c (Cle.nl (es := 33)) ?_); exact .nil)) | exact .pa (by first | exact .of_pure | ((first | refine .hs rfl (by first | rfl | simp) (by first | rfl | (simp; done) | (simp [Go.AM.take_map]; done) | exact Go.AM.take_map.symm) ?_ | refine .c .refl ?_ | refine .c (Cle.nl (es := 5)) ?_); (first | refine .hs rfl (by first | rfl | simp) (by first | rfl | (simp; done) | (simp [Go.AM.take_map]; done) | exact Go.AM.take_map.symm) ?_ | refine .c .refl ?_ | refine .c (Cle.nl (es := 6)) ?_); (first | refine .hs rfl (by first | rfl | simp) (by first | rfl | (simp; done) | (simp [Go.AM.take_map]; done) | exact Go.AM.take_map.symm) ?_ | refine .c .refl ?_ | refine .c (Cle.nl (es := 6)) ?_); (first | refine .hs rfl (by first | rfl | simp) (by first | rfl | (simp; done) | (simp [Go.AM.take_map]; done) | exact Go.AM.take_map.symm) ?_ | refine .c .refl ?_ | refine .c (Cle.nl (es := 33)) ?_); exact .nil))) (.cons rfl .refl (.nil))) (by repeat (first | exact trivial | refine ⟨rfl, ?_⟩)) (by repeat (first | exact trivial | refine ⟨.inr rfl, ?_⟩ | refine ⟨.inl (by decide), ?_⟩)) rfl)) ?_
    refine k_ (g_ rfl rfl (r_move rfl rfl (lt_ rfl) rfl)) ?_
    refine k_ (g_ rfl rfl (r_extract rfl rfl (lt_ rfl) rfl rfl)) ?_
    refine k_ (g_ rfl rfl (r_extract rfl rfl (lt_ rfl) rfl rfl)) ?_
    refine k_ (g_ rfl rfl (r_alloc 29 tok rfl rfl (lt_ rfl) t66 rfl)) ?_
    refine k_ (g_ rfl rfl (by first | exact r_store tok rfl rfl t66 rfl rfl rfl rfl rfl rfl | exact r_store_ep tok rfl rfl t66 rfl rfl rfl rfl rfl (by first | rfl | simp) (by first | assumption | rfl) rfl (le_ rfl))) ?_
    refine k_ (g_ rfl rfl (r_assign rfl rfl (lt_ rfl) rfl)) ?_
    refine z_ rfl (by kernel_rfl) ?_
    refine awp_seq ?_
    refine awp_rg mixed ?_
    refine k_ (g_ rfl rfl (r_move rfl rfl (lt_ rfl) rfl)) ?_
    refine k_ (g_ rfl rfl (r_move rfl rfl (lt_ rfl) rfl)) ?_
    refine k_ (g_ rfl rfl (by exact r_sadd (a := [109]) rfl rfl (lt_ rfl) rfl rfl (by simp [maxLen]; try omega))) ?_
    refine k_ (g_ rfl rfl (by exact r_call [] [] b27 rfl rfl (lt_ rfl) h27 (.cons rfl .refl (.cons rfl .refl (.nil))) (by repeat (first | exact trivial | refine ⟨rfl, ?_⟩)) (by repeat (first | exact trivial | refine ⟨.inr rfl, ?_⟩ | refine ⟨.inl (by decide), ?_⟩)) rfl)) ?_
    refine k_ (g_ rfl rfl (r_move rfl rfl (lt_ rfl) rfl)) ?_
    refine k_ (g_ rfl rfl (r_extract rfl rfl (lt_ rfl) rfl rfl)) ?_
    refine k_ (g_ rfl rfl (r_extract rfl rfl (lt_ rfl) rfl rfl)) ?_
    refine k_ (g_ rfl rfl (r_extract rfl rfl (lt_ rfl) rfl rfl)) ?_
    refine k_ (g_ rfl rfl (r_assign rfl rfl (lt_ rfl) rfl)) ?_
    refine k_ (g_ rfl rfl (r_assign rfl rfl (lt_ rfl) rfl)) ?_
    refine k_ (g_ rfl rfl (r_assign rfl rfl (lt_ rfl) rfl)) ?_
    refine z_ rfl (by kernel_rfl) ?_
    refine awp_seq ?_
    refine awp_rg mixed ?_
    refine k_ (g_ rfl rfl (by first | exact r_load tok rfl rfl (lt_ rfl) t28 rfl rfl rfl rfl | exact r_load_pt tok rfl rfl (lt_ rfl) t28 rfl (le_ rfl) rfl | exact r_load_ep tok rfl rfl (lt_ rfl) t28 rfl rfl (by first | rfl | simp) (by first | assumption | rfl) (le_ rfl) rfl)) ?_
    refine k_ (g_ rfl rfl (r_move rfl rfl (lt_ rfl) rfl)) ?_
    refine k_ (g_ rfl rfl (by exact r_sadd (a := [109]) rfl rfl (lt_ rfl) rfl rfl (by simp [maxLen]; try omega))) ?_
    refine k_ (g_ rfl rfl (by exact r_call [] [] b28 rfl rfl (lt_ rfl) h28 (.cons rfl (by first | exact .refl | exact .agg (by first | exact .of_pure | ((first | refine .hs rfl (by first | rfl | simp) (by first | rfl | (simp; done) | (simp [Go.AM.take_map]; done) | exact Go.AM.take_map.symm) ?_ | refine .c .refl ?_ | refine .c (Cle.nl (es := 5)) ?_); (first | refine .hs rfl (by first | rfl | simp) (by first | rfl | (simp; done) | (simp [Go.AM.take_map]; done) | exact Go.AM.take_map.symm) ?_ | refine .c .refl ?_ | refine .c (Cle.nl (es := 6)) ?_); (first | refine .hs rfl (by first | rfl | simp) (by first | rfl | (simp; done) | (simp [Go.AM.take_map]; done) | exact Go.AM.take_map.symm) ?_ | refine .c .refl ?_ | refine .c (Cle.nl (es := 6)) ?_); (first | refine .hs rfl (by first | rfl | simp) (by first | rfl | (simp; done) | (simp [Go.AM.take_map]; done) | exact Go.AM.take_map.symm) ?_ | refine .c .refl ?_ | refine .c (Cle.nl (es := 33)) ?_); exact .nil)) | exact .pa (by first | exact .of_pure | ((first | refine .hs rfl (by first | rfl | simp) (by first | rfl | (simp; done) | (simp [Go.AM.take_map]; done) | exact Go.AM.take_map.symm) ?_ | refine .c .refl ?_ | refine .c (Cle.nl (es := 5)) ?_); (first | refine .hs rfl (by first | rfl | simp) (by first | rfl | (simp; done) | (simp [Go.AM.take_map]; done) | exact Go.AM.take_map.symm) ?_ | refine .c .refl ?_ | refine .c (Cle.nl (es := 6)) ?_); (first | refine .hs rfl (by first | rfl | simp) (by first | rfl | (simp; done) | (simp [Go.AM.take_map]; done) | exact Go.AM.take_map.symm) ?_ | refine .c .refl ?_ | refine .c (Cle.nl (es := 6)) ?_); (first | refine .hs rfl (by first | rfl | simp) (by first | rfl | (simp; done) | (simp [Go.AM.take_map]; done) | exact Go.AM.take_map.symm) ?_ | refine .c .refl ?_ | refine .c (Cle.nl (es := 33)) ?_); exact .nil))) (.cons rfl .refl (.nil))) (by repeat (first | exact trivial | refine ⟨rfl, ?_⟩)) (by repeat (first | exact trivial | refine ⟨.inr rfl, ?_⟩ | refine ⟨.inl (by decide), ?_⟩)) rfl)) ?_
    refine k_ (g_ rfl rfl (r_move rfl rfl (lt_ rfl) rfl)) ?_
    refine k_ (g_ rfl rfl (r_extract rfl rfl (lt_ rfl) rfl rfl)) ?_
    refine k_ (g_ rfl rfl (r_extract rfl rfl (lt_ rfl) rfl rfl)) ?_
    refine k_ (g_ rfl rfl (r_extract rfl rfl (lt_ rfl) rfl rfl)) ?_
    refine k_ (g_ rfl rfl (r_assign rfl rfl (lt_ rfl) rfl)) ?_
    refine k_ (g_ rfl rfl (r_assign rfl rfl (lt_ rfl) rfl)) ?_
    refine k_ (g_ rfl rfl (r_assign rfl rfl (lt_ rfl) rfl)) ?_
    refine z_ rfl (by kernel_rfl) ?_
    refine awp_seq ?_
    refine awp_rg mixed ?_
    refine k_ (g_ rfl rfl (r_move rfl rfl (lt_ rfl) rfl)) ?_
    refine k_ (g_ rfl rfl (r_move rfl rfl (lt_ rfl) rfl)) ?_
    refine k_ (GStep.yes rfl rfl rfl rfl (by first | assumption | rfl | (simp; done) | (simp only [Bool.not]; assumption) | (simp; omega)) (by exact r_move rfl rfl (lt_ rfl) rfl)) ?_
    refine k_ (GStep.yes rfl rfl rfl rfl (by first | assumption | rfl | (simp; done) | (simp only [Bool.not]; assumption) | (simp; omega)) (by exact r_move rfl rfl (lt_ rfl) rfl)) ?_
    refine k_ (GStep.yes rfl rfl rfl rfl (by first | assumption | rfl | (simp; done) | (simp only [Bool.not]; assumption) | (simp; omega)) (by exact r_beql tok rfl rfl (lt_ rfl) t4 rfl rfl rfl)) ?_
    refine k_ (g_ rfl rfl (by exact r_pick_t rfl rfl (lt_ rfl) rfl (by first | assumption | rfl | (simp; done)) rfl)) ?_
    refine k_ (g_ rfl rfl (r_move rfl rfl (lt_ rfl) rfl)) ?_
    refine k_ (GStep.yes rfl rfl rfl rfl (by first | assumption | rfl | (simp; done) | (simp only [Bool.not]; assumption) | (simp; omega)) (by exact r_move rfl rfl (lt_ rfl) rfl)) ?_
    refine k_ (g_ rfl rfl (by exact r_pick_t rfl rfl (lt_ rfl) rfl (by first | assumption | rfl | (simp; done)) rfl)) ?_
    refine k_ (g_ rfl rfl (r_move rfl rfl (lt_ rfl) rfl)) ?_
    refine k_ (GStep.yes rfl rfl rfl rfl (by first | assumption | rfl | (simp; done) | (simp only [Bool.not]; assumption) | (simp; omega)) (by exact r_move rfl rfl (lt_ rfl) rfl)) ?_
    refine k_ (GStep.yes rfl rfl rfl rfl (by first | assumption | rfl | (simp; done) | (simp only [Bool.not]; assumption) | (simp; omega)) (by exact r_move rfl rfl (lt_ rfl) rfl)) ?_
    refine k_ (GStep.yes rfl rfl rfl rfl (by first | assumption | rfl | (simp; done) | (simp only [Bool.not]; assumption) | (simp; omega)) (by exact r_eql rfl rfl (lt_ rfl) rfl rfl)) ?_
    refine k_ (g_ rfl rfl (by exact r_pick_t rfl rfl (lt_ rfl) rfl (by first | assumption | rfl | (simp; done)) rfl)) ?_
    refine k_ (g_ rfl rfl (r_move rfl rfl (lt_ rfl) rfl)) ?_
    refine k_ (GStep.yes rfl rfl rfl rfl (by first | assumption | rfl | (simp; done) | (simp only [Bool.not]; assumption) | (simp; omega)) (by exact r_move rfl rfl (lt_ rfl) rfl)) ?_
    refine k_ (GStep.yes rfl rfl rfl rfl (by first | assumption | rfl | (simp; done) | (simp only [Bool.not]; assumption) | (simp; omega)) (by exact r_move rfl rfl (lt_ rfl) rfl)) ?_
    refine k_ (GStep.yes rfl rfl rfl rfl (by first | assumption | rfl | (simp; done) | (simp only [Bool.not]; assumption) | (simp; omega)) (by exact r_beql tok rfl rfl (lt_ rfl) t4 rfl rfl rfl)) ?_
    refine k_ (g_ rfl rfl (by exact r_pick_t rfl rfl (lt_ rfl) rfl (by first | assumption | rfl | (simp; done)) rfl)) ?_
    refine k_ (g_ rfl rfl (r_move rfl rfl (lt_ rfl) rfl)) ?_
    refine k_ (GStep.yes rfl rfl rfl rfl (by first | assumption | rfl | (simp; done) | (simp only [Bool.not]; assumption) | (simp; omega)) (by exact r_move rfl rfl (lt_ rfl) rfl)) ?_
    refine k_ (GStep.yes rfl rfl rfl rfl (by first | assumption | rfl | (simp; done) | (simp only [Bool.not]; assumption) | (simp; omega)) (by exact r_move rfl rfl (lt_ rfl) rfl)) ?_
    refine k_ (GStep.yes rfl rfl rfl rfl (by first | assumption | rfl | (simp; done) | (simp only [Bool.not]; assumption) | (simp; omega)) (by exact r_beql tok rfl rfl (lt_ rfl) t4 rfl rfl rfl)) ?_
    refine k_ (g_ rfl rfl (by exact r_pick_t rfl rfl (lt_ rfl) rfl (by first | assumption | rfl | (simp; done)) rfl)) ?_
    refine k_ (g_ rfl rfl (r_move rfl rfl (lt_ rfl) rfl)) ?_
    refine k_ (GStep.yes rfl rfl rfl rfl (by first | assumption | rfl | (simp; done) | (simp only [Bool.not]; assumption) | (simp; omega)) (by first | exact r_field_vp tok rfl rfl (lt_ rfl) t66 rfl rfl t3 (nz_ rfl) rfl | exact r_field_pt tok rfl rfl (lt_ rfl) t66 rfl rfl t3 (nz_ rfl) rfl | exact r_field_ep tok rfl rfl (lt_ rfl) t66 rfl rfl t3 (nz_ rfl) rfl rfl (by first | rfl | simp))) ?_
    refine k_ (GStep.yes rfl rfl rfl rfl (by first | assumption | rfl | (simp; done) | (simp only [Bool.not]; assumption) | (simp; omega)) (by first | exact r_load tok rfl rfl (lt_ rfl) t3 rfl rfl rfl rfl | exact r_load_pt tok rfl rfl (lt_ rfl) t3 rfl (le_ rfl) rfl | exact r_load_ep tok rfl rfl (lt_ rfl) t3 rfl rfl (by first | rfl | simp) (by first | assumption | rfl) (le_ rfl) rfl)) ?_
    refine k_ (GStep.yes rfl rfl rfl rfl (by first | assumption | rfl | (simp; done) | (simp only [Bool.not]; assumption) | (simp; omega)) (by first | exact r_field_vp tok rfl rfl (lt_ rfl) t66 rfl rfl t3 (nz_ rfl) rfl | exact r_field_pt tok rfl rfl (lt_ rfl) t66 rfl rfl t3 (nz_ rfl) rfl | exact r_field_ep tok rfl rfl (lt_ rfl) t66 rfl rfl t3 (nz_ rfl) rfl rfl (by first | rfl | simp))) ?_
    refine k_ (GStep.yes rfl rfl rfl rfl (by first | assumption | rfl | (simp; done) | (simp only [Bool.not]; assumption) | (simp; omega)) (by first | exact r_load tok rfl rfl (lt_ rfl) t3 rfl rfl rfl rfl | exact r_load_pt tok rfl rfl (lt_ rfl) t3 rfl (le_ rfl) rfl | exact r_load_ep tok rfl rfl (lt_ rfl) t3 rfl rfl (by first | rfl | simp) (by first | assumption | rfl) (le_ rfl) rfl)) ?_
    refine k_ (GStep.yes rfl rfl rfl rfl (by first | assumption | rfl | (simp; done) | (simp only [Bool.not]; assumption) | (simp; omega)) (by exact r_eql rfl rfl (lt_ rfl) rfl rfl)) ?_
    refine k_ (g_ rfl rfl (by exact r_pick_t rfl rfl (lt_ rfl) rfl (by first | assumption | rfl | (simp; done)) rfl)) ?_
    refine k_ (g_ rfl rfl (r_move rfl rfl (lt_ rfl) rfl)) ?_
    refine k_ (GStep.yes rfl rfl rfl rfl (by first | assumption | rfl | (simp; done) | (simp only [Bool.not]; assumption) | (simp; omega)) (by first | exact r_field_vp tok rfl rfl (lt_ rfl) t66 rfl rfl t40 (nz_ rfl) rfl | exact r_field_pt tok rfl rfl (lt_ rfl) t66 rfl rfl t40 (nz_ rfl) rfl | exact r_field_ep tok rfl rfl (lt_ rfl) t66 rfl rfl t40 (nz_ rfl) rfl rfl (by first | rfl | simp))) ?_
    refine k_ (GStep.yes rfl rfl rfl rfl (by first | assumption | rfl | (simp; done) | (simp only [Bool.not]; assumption) | (simp; omega)) (by first | exact r_load tok rfl rfl (lt_ rfl) t40 rfl rfl rfl rfl | exact r_load_pt tok rfl rfl (lt_ rfl) t40 rfl (le_ rfl) rfl | exact r_load_ep tok rfl rfl (lt_ rfl) t40 rfl rfl (by first | rfl | simp) (by first | assumption | rfl) (le_ rfl) rfl)) ?_
    refine k_ (GStep.yes rfl rfl rfl rfl (by first | assumption | rfl | (simp; done) | (simp only [Bool.not]; assumption) | (simp; omega)) (by first | exact r_field_vp tok rfl rfl (lt_ rfl) t66 rfl rfl t40 (nz_ rfl) rfl | exact r_field_pt tok rfl rfl (lt_ rfl) t66 rfl rfl t40 (nz_ rfl) rfl | exact r_field_ep tok rfl rfl (lt_ rfl) t66 rfl rfl t40 (nz_ rfl) rfl rfl (by first | rfl | simp))) ?_
    refine k_ (GStep.yes rfl rfl rfl rfl (by first | assumption | rfl | (simp; done) | (simp only [Bool.not]; assumption) | (simp; omega)) (by first | exact r_load tok rfl rfl (lt_ rfl) t40 rfl rfl rfl rfl | exact r_load_pt tok rfl rfl (lt_ rfl) t40 rfl (le_ rfl) rfl | exact r_load_ep tok rfl rfl (lt_ rfl) t40 rfl rfl (by first | rfl | simp) (by first | assumption | rfl) (le_ rfl) rfl)) ?_
    refine k_ (GStep.yes rfl rfl rfl rfl (by first | assumption | rfl | (simp; done) | (simp only [Bool.not]; assumption) | (simp; omega)) (by exact r_call [] [] b22 rfl rfl (lt_ rfl) h22s (.cons rfl (by first | exact .refl | exact .one (.hs rfl (by first | rfl | simp) (by first | rfl | (simp; done) | (simp [Go.AM.take_map]; done) | exact Go.AM.take_map.symm) .nil) | exact .one (.c .nl .nil) | exact .one (.c .sn .nil)) (.cons rfl (by first | exact .refl | exact .one (.hs rfl (by first | rfl | simp) (by first | rfl | (simp; done) | (simp [Go.AM.take_map]; done) | exact Go.AM.take_map.symm) .nil) | exact .one (.c .nl .nil) | exact .one (.c .sn .nil)) (.nil))) (by repeat (first | exact trivial | refine ⟨rfl, ?_⟩)) (by repeat (first | exact trivial | refine ⟨.inr rfl, ?_⟩ | refine ⟨.inl (by decide), ?_⟩)) rfl)) ?_
    refine k_ (g_ rfl rfl (by exact r_pick_t rfl rfl (lt_ rfl) rfl (by first | assumption | rfl | (simp; done)) rfl)) ?_
    refine k_ (g_ rfl rfl (r_move rfl rfl (lt_ rfl) rfl)) ?_
    refine k_ (GStep.yes rfl rfl rfl rfl (by first | assumption | rfl | (simp; done) | (simp only [Bool.not]; assumption) | (simp; omega)) (by exact r_move rfl rfl (lt_ rfl) rfl)) ?_
    refine k_ (GStep.yes rfl rfl rfl rfl (by first | assumption | rfl | (simp; done) | (simp only [Bool.not]; assumption) | (simp; omega)) (by exact r_move rfl rfl (lt_ rfl) rfl)) ?_
    refine k_ (GStep.yes rfl rfl rfl rfl (by first | assumption | rfl | (simp; done) | (simp only [Bool.not]; assumption) | (simp; omega)) (by exact r_seql rfl rfl (lt_ rfl) rfl rfl)) ?_
    refine k_ (g_ rfl rfl (by exact r_pick_t rfl rfl (lt_ rfl) rfl (by first | assumption | rfl | (simp; done)) rfl)) ?_
    refine k_ (g_ rfl rfl (r_move rfl rfl (lt_ rfl) rfl)) ?_
    refine k_ (GStep.yes rfl rfl rfl rfl (by first | assumption | rfl | (simp; done) | (simp only [Bool.not]; assumption) | (simp; omega)) (by exact r_move rfl rfl (lt_ rfl) rfl)) ?_
    refine k_ (GStep.yes rfl rfl rfl rfl (by first | assumption | rfl | (simp; done) | (simp only [Bool.not]; assumption) | (simp; omega)) (by exact r_move rfl rfl (lt_ rfl) rfl)) ?_
    refine k_ (GStep.yes rfl rfl rfl rfl (by first | assumption | rfl | (simp; done) | (simp only [Bool.not]; assumption) | (simp; omega)) (by exact r_eql rfl rfl (lt_ rfl) rfl rfl)) ?_
    refine k_ (g_ rfl rfl (by exact r_pick_t rfl rfl (lt_ rfl) rfl (by first | assumption | rfl | (simp; done)) rfl)) ?_
    refine k_ (g_ rfl rfl (r_move rfl rfl (lt_ rfl) rfl)) ?_
    refine k_ (GStep.yes rfl rfl rfl rfl (by first | assumption | rfl | (simp; done) | (simp only [Bool.not]; assumption) | (simp; omega)) (by exact r_move rfl rfl (lt_ rfl) rfl)) ?_
    refine k_ (GStep.yes rfl rfl rfl rfl (by first | assumption | rfl | (simp; done) | (simp only [Bool.not]; assumption) | (simp; omega)) (by exact r_move rfl rfl (lt_ rfl) rfl)) ?_
    refine k_ (GStep.yes rfl rfl rfl rfl (by first | assumption | rfl | (simp; done) | (simp only [Bool.not]; assumption) | (simp; omega)) (by exact r_beql tok rfl rfl (lt_ rfl) t4 rfl rfl rfl)) ?_
    refine k_ (g_ rfl rfl (by exact r_pick_t rfl rfl (lt_ rfl) rfl (by first | assumption | rfl | (simp; done)) rfl)) ?_
    refine k_ (g_ rfl rfl (r_move rfl rfl (lt_ rfl) rfl)) ?_
    refine k_ (GStep.yes rfl rfl rfl rfl (by first | assumption | rfl | (simp; done) | (simp only [Bool.not]; assumption) | (simp; omega)) (by exact r_move rfl rfl (lt_ rfl) rfl)) ?_
    refine k_ (GStep.yes rfl rfl rfl rfl (by first | assumption | rfl | (simp; done) | (simp only [Bool.not]; assumption) | (simp; omega)) (by exact r_call [] [] b19 rfl rfl (lt_ rfl) h19 (.cons rfl .refl (.nil)) (by repeat (first | exact trivial | refine ⟨rfl, ?_⟩)) (by repeat (first | exact trivial | refine ⟨.inr rfl, ?_⟩ | refine ⟨.inl (by decide), ?_⟩)) rfl)) ?_
    refine k_ (GStep.yes rfl rfl rfl rfl (by first | assumption | rfl | (simp; done) | (simp only [Bool.not]; assumption) | (simp; omega)) (by first | exact r_field_vp tok rfl rfl (lt_ rfl) t28 rfl rfl t25 (nz_ rfl) rfl | exact r_field_pt tok rfl rfl (lt_ rfl) t28 rfl rfl t25 (nz_ rfl) rfl | exact r_field_ep tok rfl rfl (lt_ rfl) t28 rfl rfl t25 (nz_ rfl) rfl rfl (by first | rfl | simp))) ?_
    refine k_ (GStep.yes rfl rfl rfl rfl (by first | assumption | rfl | (simp; done) | (simp only [Bool.not]; assumption) | (simp; omega)) (by first | exact r_load tok rfl rfl (lt_ rfl) t25 rfl rfl rfl rfl | exact r_load_pt tok rfl rfl (lt_ rfl) t25 rfl (le_ rfl) rfl | exact r_load_ep tok rfl rfl (lt_ rfl) t25 rfl rfl (by first | rfl | simp) (by first | assumption | rfl) (le_ rfl) rfl)) ?_
    refine k_ (GStep.yes rfl rfl rfl rfl (by first | assumption | rfl | (simp; done) | (simp only [Bool.not]; assumption) | (simp; omega)) (by first | exact r_len_sl tok rfl rfl (lt_ rfl) t25 rfl rfl | exact r_len_hs tok rfl rfl (lt_ rfl) t25 rfl rfl rfl (by first | rfl | simp) | exact r_len_nl tok rfl rfl (lt_ rfl) t25 rfl rfl | exact r_len_str tok rfl rfl (lt_ rfl) t25 rfl rfl)) ?_
    refine k_ (GStep.yes rfl rfl rfl rfl (by first | assumption | rfl | (simp; done) | (simp only [Bool.not]; assumption) | (simp; omega)) (by exact r_eql rfl rfl (lt_ rfl) rfl rfl)) ?_
    refine k_ (g_ rfl rfl (by exact r_pick_t rfl rfl (lt_ rfl) rfl (by first | assumption | rfl | (simp; done)) rfl)) ?_
    refine k_ (g_ rfl rfl (r_move rfl rfl (lt_ rfl) rfl)) ?_
    refine k_ (GStep.yes rfl rfl rfl rfl (by first | assumption | rfl | (simp; done) | (simp only [Bool.not]; assumption) | (simp; omega)) (by exact r_call [] [] b12 rfl rfl (lt_ rfl) c12 (.nil) (by repeat (first | exact trivial | refine ⟨rfl, ?_⟩)) (by repeat (first | exact trivial | refine ⟨.inr rfl, ?_⟩ | refine ⟨.inl (by decide), ?_⟩)) rfl)) ?_
    refine k_ (g_ rfl rfl (by exact r_pick_t rfl rfl (lt_ rfl) rfl (by first | assumption | rfl | (simp; done)) rfl)) ?_
    refine k_ (g_ rfl rfl (r_assign rfl rfl (lt_ rfl) rfl)) ?_
    refine z_ rfl (by kernel_rfl) ?_
    refine awp_ret ?_
    exact ⟨.inr rfl, ⟨_, _, .tmp rfl .nil, .cons .refl .nil, rfl⟩, trivial, rfl⟩
end Go.Proofs.Ythfeeaifddppoaa
