/-
  THE REST OF AN ARRAY ('l[k:]'), and what is no more written: maps, variables.
-/
import Derived.Test.YthfeeaifddppoaaAm17
namespace Go.AM
open Go

section
variable {P : Program} {n : Nat} {o : Oper} {st : St} {d : Nat} {T : TT}

theorem run_tail {t e : TypeId} {i ei : TI} (hT : Tok P T) (hi : T[t]? = some (some i)) (hk : i.k = .sl e) (hei : T[e]? = some (some ei)) (w : World) (ad : Option Addr) (len cap l : Nat) (kk : IntKind) (h : l ≤ len) :
    (Instr.sliceAt t (.slice ad len cap) (some (.int kk (l : Int))) none none).run P w = .ok (.slice (if cap = l then ad else ad.map (·.add (l * ei.size))) (len - l) (cap - l)) w := by
  have hu := run_underlying ((hT.get hi).slice hk) w
  simp [Instr.sliceAt, hu, Instr.slice, Instr.sliceBounds, Instr.sliceBound, asIntOf, h, (hT.get hei).size_run w]

/-- 'l[k:]', of an array of the call's own. -/
theorem r_tail {t e : TypeId} {i ei : TI} {x y : Operand} {te es id len sz : Nat} {kk : IntKind} {elems : List (List C)} {fz : Nat} (l : Nat) (hT : Tok P T) (ho : o.op = .slice t x (some y) none none) (hd : o.dst = some d) (hdn : d < n) (hi : T[t]? = some (some i)) (hk : i.k = .sl e) (hei : T[e]? = some (some ei)) (hes : ei.size = es)
    (hx : opv st x = some (.one (.hs id 0 len sz))) (hh : st.h id = some (.arr te es elems fz)) (hsz : sz = elems.length) (hlen : len = sz) (hy : opv st y = some (I kk (l : Nat))) (hl : 1 ≤ l ∧ l ≤ len) : Step P n o st ⟨opr x ++ opr y, [id]⟩ ⟨some (d, some (.one (.tl id l (len - l) sz))), []⟩ := by
  refine Step.value hd hdn fun st' ha G S μ a w hs => ?_
  have hv := opv_rel hs hx fun t ht => ha.1 t (by simp [ht])
  have hv2 := one_int (opv_rel hs hy fun t ht => ha.1 t (by simp [ht]))
  have hh' : st'.h id = some (.arr te es elems fz) := by rw [ha.2 id (by simp), hh]
  simp only [VRel, RRel] at hv
  obtain ⟨_, hv | ⟨te', es', elems', fz', h1, h2, h3⟩⟩ := hv
  · rw [hh'] at hv; cases hv
  rw [hh'] at h1; cases h1
  obtain ⟨h4, ⟨h5, h6, h7⟩ | ⟨b, base, cap, h5, h6⟩⟩ := h3 hsz
  · subst h6; simp at hsz; omega
  obtain ⟨q0, vs, q1, q2, q3, q4, q5⟩ := (hs.inv.obj id _ hh').arr h5
  rw [Nat.zero_mul, Nat.add_zero, Nat.sub_zero] at h6
  refine ⟨.slice (if cap = l then some ⟨b, base, none⟩ else (some ⟨b, base, none⟩ : Option Addr).map (·.add (l * ei.size))) (len - l) (cap - l), ?_, ?_⟩
  · have hr := run_tail (P := P) hT hi hk hei w (some ⟨b, base, none⟩) len cap l kk hl.2
    simp only [execOp, ho, Option.map_some, Option.map_none, h6, hv2, Sem.run_bind, Result.andThen_ok, Sem.run_pure] at hr ⊢
    rw [hr]
    rfl
  · simp only [VRel, RRel]
    refine ⟨⟨_, _, _, rfl⟩, .inr ⟨te, es, elems, fz, hh', h2, fun _ => ⟨by omega, b, base, cap, h5, by omega, ?_⟩⟩⟩
    by_cases hc : cap = l
    · simp [hc]
    · simp [hc, hes, Addr.add_mid]

/-- The rest of an array is an array of its own; what was ahead of it is given up. -/
theorem Sub.tail {kf : List Nat} {x k id id' tv te es off len sz : Nat} {cells : List R} {elems : List (List C)} (h : st.h x = some (.var tv cells)) (hk : cells[k]? = some (.tl id off len sz)) (ha : st.h id = some (.arr te es elems 0)) (hsz : sz = elems.length) (hid : st.h id' = none) :
    Sub kf ⟨st.e, upd (upd (upd st.h id (some .dead)) id' (some (.arr te es (elems.drop off) 0))) x (some (.var tv (cells.set k (.hs id' 0 len len)))), st.d⟩ st := by
  intro G n S μ a w _ hs
  have hxi : x ≠ id := fun e => by subst e; rw [h] at ha; cases ha
  have hxi' : x ≠ id' := fun e => by subst e; rw [h] at hid; cases hid
  have hii : id ≠ id' := fun e => by subst e; rw [ha] at hid; cases hid
  obtain ⟨bx, vx, g1, g2, g3, g4⟩ := hs.inv.obj x _ h
  obtain ⟨u, hu, hru⟩ := g3.get k _ hk
  simp only [RRel] at hru
  obtain ⟨_, hru | ⟨te', es', elems', fz', p1, p2, p3⟩⟩ := hru
  · rw [ha] at hru; cases hru
  rw [ha] at p1; cases p1
  obtain ⟨p4, b, base, cap, p5, p6, p7⟩ := p3 hsz
  obtain ⟨q0, vs, q1, q2, q3, q4, q5, q6, q7, q8⟩ := (hs.inv.obj id _ ha).arr p5
  generalize hbase : (if cap = off then base else base + off * es) = base' at p7
  have hble : base ≤ base' := by rw [← hbase]; split <;> omega
  have hEA : Evolve S μ st.h S (upd (upd μ id none) id' (some (b, base', cap - off))) (upd (upd st.h id (some .dead)) id' (some (.arr te es (elems.drop off) 0))) := ⟨S.le_refl, fun j y hj => by
    by_cases h1 : j = id'
    · subst h1; rw [hid] at hj; cases hj
    · by_cases h2 : j = id
      · subst h2
        rw [ha] at hj; cases hj
        exact ⟨.dead, by rw [upd_ne _ _ _ h1]; exact upd_same _ _ _, trivial⟩
      · exact ⟨y, by rw [upd_ne _ _ _ h1, upd_ne _ _ _ h2]; exact hj, y.succ_refl (by rw [upd_ne _ _ _ h1, upd_ne _ _ _ h2])⟩⟩
  generalize hμ : upd (upd μ id none) id' (some (b, base', cap - off)) = μ' at hEA
  generalize hH : upd (upd st.h id (some .dead)) id' (some (.arr te es (elems.drop off) 0)) = H1 at hEA
  have hμid : μ' id = none := by rw [← hμ, upd_ne _ _ _ hii]; exact upd_same _ _ _
  have hμid' : μ' id' = some (b, base', cap - off) := by rw [← hμ]; exact upd_same _ _ _
  have hμo : ∀ j, j ≠ id → j ≠ id' → μ' j = μ j := fun j h1 h2 => by rw [← hμ, upd_ne _ _ _ h2, upd_ne _ _ _ h1]
  have hHid : H1 id = some .dead := by rw [← hH, upd_ne _ _ _ hii]; exact upd_same _ _ _
  have hHid' : H1 id' = some (.arr te es (elems.drop off) 0) := by rw [← hH]; exact upd_same _ _ _
  have hHo : ∀ j, j ≠ id → j ≠ id' → H1 j = st.h j := fun j h1 h2 => by rw [← hH, upd_ne _ _ _ h2, upd_ne _ _ _ h1]
  have hHx : H1 x = some (.var tv cells) := by rw [hHo x hxi hxi', h]
  have hEB : Evolve S μ' H1 S μ' (upd H1 x (some (.var tv (cells.set k (.hs id' 0 len len))))) := ⟨S.le_refl, fun j y hj => by
    by_cases hjx : j = x
    · subst hjx
      rw [hHx] at hj; cases hj
      exact ⟨_, upd_same _ _ _, by simp [AObj.succ]⟩
    · exact ⟨y, by rw [upd_ne _ _ _ hjx]; exact hj, y.succ_refl rfl⟩⟩
  have hE := hEA.trans hEB
  have hkl : k < cells.length := (List.getElem?_eq_some_iff.1 hk).1
  have hdl : (elems.drop off).length = len := by rw [List.length_drop]; omega
  have hold : ∀ j y, upd H1 x (some (.var tv (cells.set k (.hs id' 0 len len)))) j = some y → ∀ b1 c1, μ' j = some (b1, c1) → ∃ j0 y0 c0, st.h j0 = some y0 ∧ μ j0 = some (b1, c0) ∧ (j0 = if j = id' then id else j) := by
    intro j y hj b1 c1 hm
    by_cases h1 : j = id'
    · subst h1
      rw [hμid'] at hm; cases hm
      exact ⟨id, _, _, ha, p5, by simp⟩
    · by_cases h2 : j = id
      · subst h2; rw [hμid] at hm; cases hm
      · rw [hμo j h2 h1] at hm
        by_cases hjx : j = x
        · subst hjx; exact ⟨_, _, c1, h, hm, by simp [h1]⟩
        · rw [upd_ne _ _ _ hjx, hHo j h2 h1] at hj
          exact ⟨j, y, c1, hj, hm, by simp [h1]⟩
  refine ⟨S, μ', ⟨⟨hs.inv.holds, fun j y hj => ?_, fun i j y y' b1 c c' hi hj hm hm' => ?_, fun i y b1 c hi hm => ?_, hs.inv.frame, hs.inv.sle, hs.inv.sto, hs.inv.evo.trans hE⟩, hs.size, hs.defers.evolve hE, fun s v e => VRel.evolve hE v _ (hs.env s v e)⟩⟩
  · by_cases hjx : j = x
    · subst hjx
      have hj' : some (AObj.var tv (cells.set k (.hs id' 0 len len))) = some y := by rw [← hj]; exact (upd_same _ _ _).symm
      cases hj'
      refine ⟨bx, vx, by rw [hμo _ hxi hxi', g1], g2, ?_, g4⟩
      have h3 := RRelL.evolve hE _ _ g3
      have hsplit : cells.set k (.hs id' 0 len len) = splice cells k [.hs id' 0 len len] := by
        unfold splice
        rw [List.set_eq_take_append_cons_drop, if_pos hkl]
        simp
      have hvl := g3.length
      have hvs : vx = splice vx k [u] := by
        unfold splice
        apply List.ext_getElem?
        intro i
        simp only [List.getElem?_append, List.length_append, List.length_take, List.length_cons, List.length_nil, List.getElem?_take, List.getElem?_drop]
        have hm : min k vx.length = k := by omega
        rw [hm]
        by_cases c1 : i < k
        · simp [c1, show i < k + 1 by omega]
        · by_cases c2 : i = k
          · subst c2; simp [hu]
          · simp [show ¬ i < k + 1 by omega, show k + 1 + (i - (k + 1)) = i by omega]
      rw [hsplit] at h3 ⊢
      rw [hvs]
      refine splice_rel h3 ?_
      simp only [RRelL, RRel]
      refine ⟨u, [], rfl, ⟨⟨_, _, _, p7⟩, .inr ⟨te, es, elems.drop off, 0, by rw [upd_ne _ _ _ (Ne.symm hxi')]; exact hHid', by omega, fun _ => ⟨by omega, .inr ⟨b, base', cap - off, hμid', by rw [p7]; simp⟩⟩⟩⟩, rfl⟩
    · have hj' : H1 j = some y := by rw [← hj]; exact (upd_ne _ _ _ hjx).symm
      by_cases h1 : j = id'
      · subst h1
        rw [hHid'] at hj'; cases hj'
        refine ⟨fun r hr => q0 r (List.mem_of_mem_drop hr), .inr ⟨b, base', cap - off, vs, hμid', q1, ?_, by omega, by omega, ?_, fun _ o ho => q6 rfl o (by omega), fun o ho => q6 rfl o (by omega), fun e => by cases e⟩⟩
        · rw [← hbase]
          split
          · rename_i hc; rw [hc]; simp; omega
          · have : cap * es = off * es + (cap - off) * es := by rw [← Nat.add_mul]; congr 1; omega
            omega
        · rw [hdl]
          by_cases hc : cap = off
          · have : len = 0 := by omega
            have hd0 : elems.drop off = [] := List.drop_of_length_le (by omega)
            rw [hd0, this]; simp [RepL]
          · rw [if_neg hc] at hbase
            have h1 := q5.drop (off * es)
            rw [← flat_drop q0, List.drop_take, List.drop_drop, hbase] at h1
            rwa [show elems.length * es - off * es = len * es by rw [← Nat.sub_mul]; congr 1; omega] at h1
      · by_cases h2 : j = id
        · subst h2
          rw [hHid] at hj'; cases hj'
          exact hμid
        · rw [hHo j h2 h1] at hj'
          exact (hs.inv.obj j y hj').evolve hE (hμo j h2 h1) fun _ _ _ => ⟨rfl, fun _ => rfl, rfl⟩
  · obtain ⟨i0, yi, ci, e1, e2, e3⟩ := hold _ _ hi _ _ hm
    obtain ⟨j0, yj, cj, f1, f2, f3⟩ := hold _ _ hj _ _ hm'
    have := hs.inv.inj i0 j0 _ _ b1 ci cj e1 f1 e2 f2
    rw [e3, f3] at this
    by_cases h1 : i = id' <;> by_cases h2 : j = id'
    · rw [h1, h2]
    · simp [h1, h2] at this; subst this; rw [hμid] at hm'; cases hm'
    · simp [h1, h2] at this; subst this; rw [hμid] at hm; cases hm
    · simpa [h1, h2] using this
  · obtain ⟨i0, yi, ci, e1, e2, e3⟩ := hold _ _ hi _ _ hm
    exact hs.inv.own i0 _ b1 ci e1 e2
end
end Go.AM
