/-
  THE OPERATIONS, ONE BY ONE (7): append.
-/
import Derived.Test.YthfeeaifddppoaaAm9
namespace Go.AM
open Go

/-- The elements of a slice that is read. -/
inductive Src (st : St) (es : Nat) : List Nat → V → List (List C) → Prop
  | hs {id off len sz te elems fz rows} : st.h id = some (.arr te es elems fz) → sz = elems.length → rows = (elems.drop off).take len → Src st es [id] (.one (.hs id off len sz)) rows
  | all {id sz te elems fz} : st.h id = some (.arr te es elems fz) → sz = elems.length → Src st es [id] (.one (.hs id 0 sz sz)) elems
  | sl {l} : Src st es [] (.one (.c (.sl es l))) l
  | nl : Src st es [] (.one (.c .nl)) []
  | sn {l} : Src st es [] (.one (.c (.sn es l))) l

theorem flat_take {α : Type} {es : Nat} : ∀ {l : List (List α)}, (∀ r ∈ l, r.length = es) → ∀ k : Nat, (l.take k).flatten = l.flatten.take (k * es)
  | [], _, k => by simp
  | x :: xs, hl, 0 => by simp
  | x :: xs, hl, k + 1 => by
    have hx := hl x (by simp)
    have ih := flat_take (l := xs) (fun r hr => hl r (by simp [hr])) k
    rw [List.take_succ_cons, List.flatten_cons, List.flatten_cons, ih, List.take_append, List.take_of_length_le (l := x) (by rw [hx, Nat.add_mul]; omega)]
    rw [show (k + 1) * es - x.length = k * es by rw [hx, Nat.add_mul]; omega]
theorem flat_drop {α : Type} {es : Nat} : ∀ {l : List (List α)}, (∀ r ∈ l, r.length = es) → ∀ k : Nat, (l.drop k).flatten = l.flatten.drop (k * es)
  | [], _, k => by simp
  | x :: xs, hl, 0 => by simp
  | x :: xs, hl, k + 1 => by
    have hx := hl x (by simp)
    have ih := flat_drop (l := xs) (fun r hr => hl r (by simp [hr])) k
    rw [List.drop_succ_cons, List.flatten_cons, ih, List.drop_append, List.drop_of_length_le (l := x) (by rw [hx, Nat.add_mul]; omega), List.nil_append]
    rw [show (k + 1) * es - x.length = k * es by rw [hx, Nat.add_mul]; omega]

theorem RepRows.flat {S : Sto} {es b : Nat} : ∀ {l : List (List C)} {o : Nat}, RepRows S es b l o → ∃ vs, RepL S l.flatten vs ∧ CellsAt S b o vs ∧ ∀ r ∈ l, r.length = es
  | [], _, _ => ⟨[], by simp [RepL], fun i v h => by simp at h, by simp⟩
  | r :: rs, o, h => by
    simp only [RepRows] at h
    obtain ⟨h1, ⟨vs, h2, h3⟩, h4⟩ := h
    obtain ⟨us, h5, h6, h7⟩ := RepRows.flat h4
    have hl := h2.length
    refine ⟨vs ++ us, by rw [List.flatten_cons]; exact h2.append h5, fun i v hi => ?_, ?_⟩
    · rw [List.getElem?_append] at hi
      split at hi
      · exact h3 i v hi
      · have := h6 _ v hi
        rwa [show o + es + (i - vs.length) = o + i by omega] at this
    · intro q hq
      rcases List.mem_cons.1 hq with rfl | hq
      · exact h1
      · exact h7 q hq

/-- What is read of it. -/
theorem Src.rel {G : Ctx} {n : Nat} {S : Sto} {μ : Mu} {st st' : St} {a : Act} {w : World} {es : Nat} {ids : List Nat} {y : V} {rows : List (List C)} {v : Value} (hs : Sim G n S μ st' a w) (h : Src st es ids y rows) (hi : ∀ i ∈ ids, st'.h i = st.h i) (hv : VRel S μ st'.h y v) :
    ∃ ad c news, v = .slice ad rows.length c ∧ RepL S rows.flatten news ∧ (∀ r ∈ rows, r.length = es) ∧ (ad = none → rows = []) ∧ ∀ x, ad = some x → ∀ j u, news[j]? = some u → w.cell? (x.add j) = some u := by
  have hall : ∀ {id off len sz te elems fz rows}, st.h id = some (.arr te es elems fz) → sz = elems.length → rows = (elems.drop off).take len → (∀ i ∈ [id], st'.h i = st.h i) → VRel S μ st'.h (.one (.hs id off len sz)) v →
      ∃ ad c news, v = .slice ad rows.length c ∧ RepL S rows.flatten news ∧ (∀ r ∈ rows, r.length = es) ∧ (ad = none → rows = []) ∧ ∀ x, ad = some x → ∀ j u, news[j]? = some u → w.cell? (x.add j) = some u := by
    intro id off len sz te elems fz rows he hsz hr hi hv
    have hh : st'.h id = some (.arr te es elems fz) := by rw [hi id (by simp), he]
    simp only [VRel, RRel] at hv
    obtain ⟨_, hv | ⟨te', es', elems', fz', h1, h2, h3⟩⟩ := hv
    · rw [hh] at hv; cases hv
    rw [hh] at h1; cases h1
    obtain ⟨h4, ⟨h5, h6, h7⟩ | ⟨b, base, cap, h5, h6⟩⟩ := h3 hsz
    · subst h6
      simp at hr
      subst hr
      exact ⟨none, 0, [], h7, by simp [RepL], by simp, fun _ => rfl, by simp⟩
    · obtain ⟨g0, vs, g1, g2, g3, g4, g5, g6, g7, g8⟩ := (hs.inv.obj id _ hh).arr h5
      have hrl : rows.length = len := by rw [hr]; simp; omega
      have hfl : rows.flatten = (elems.flatten.drop (off * es)).take (len * es) := by
        rw [hr, flat_take (fun r hr => g0 r (List.mem_of_mem_drop hr)), flat_drop g0]
      refine ⟨_, cap - off, _, by rw [hrl]; exact h6, by rw [hfl]; exact (g5.drop (off * es)).take (len * es), fun r hr' => g0 r (List.mem_of_mem_drop (List.mem_of_mem_take (hr ▸ hr'))), by simp, ?_⟩
      rintro x ⟨⟩ j u hj
      rw [Addr.add_mid, cell_of_row w b _ ⟨vs⟩ te (0, 0) g1]
      rw [List.getElem?_take] at hj
      split at hj
      · rw [List.getElem?_drop, List.getElem?_take] at hj
        split at hj
        · rw [List.getElem?_drop] at hj
          simpa [Nat.add_assoc] using hj
        · cases hj
      · cases hj
  cases h with
  | hs he hsz hr => exact hall he hsz hr hi hv
  | all he hsz =>
    subst hsz
    exact hall he rfl (by simp) hi hv
  | sl =>
    simp only [VRel, RRel, Rep] at hv
    obtain ⟨ad, len, cap, h1, h2, h3, h4, h5, h6, b, off, h7, h8⟩ := hv
    obtain ⟨vs, q1, q2, q3⟩ := RepRows.flat h8
    refine ⟨ad, cap, vs, by rw [h1, h2], q1, q3, fun e => List.eq_nil_of_length_eq_zero (by rw [← h2]; exact (h5 e).1), ?_⟩
    rintro x rfl j u hj
    obtain ⟨h9, h10⟩ := h7 x rfl
    have h11 := h6 x rfl
    have hx : x = ⟨b, off, none⟩ := by cases x; simp_all
    subst hx
    rw [Addr.add_mid]
    exact hs.inv.holds.cell (q2 j u hj)
  | nl =>
    simp only [VRel, RRel, Rep] at hv
    exact ⟨none, 0, [], hv, by simp [RepL], by simp, fun _ => rfl, by simp⟩
  | sn =>
    simp only [VRel, RRel, Rep] at hv
    obtain ⟨b, off, len, cap, h1, h2, h3, h4, h8⟩ := hv
    obtain ⟨vs, q1, q2, q3⟩ := RepRows.flat h8
    refine ⟨some ⟨b, off, none⟩, cap, vs, by rw [h1, h2], q1, q3, by simp, ?_⟩
    rintro x ⟨⟩ j u hj
    rw [Addr.add_mid]
    exact hs.inv.holds.cell (q2 j u hj)

section
variable {P : Program} {n : Nat} {o : Oper} {st : St} {d : Nat} {T : TT}

theorem run_append_room' (w : World) (t ty e : TypeId) (i : TypeInfo) (ht : P.underlying t = some (.slice e)) (hi : P.info? e = some i)
    (g base sLen sCap : Nat) (cur : Array Value) (hg : w.heap[g]? = some (.cells cur e (0, 0)))
    (a : Addr) (m c : Nat) (news : List Value) (hl : news.length = m * i.size) (hnews : ∀ j u, news[j]? = some u → w.cell? (a.add j) = some u) (h1 : ∀ u ∈ news, u.oneCell' = true)
    (hroom : sLen + m ≤ sCap) (hfit : base + sLen * i.size + news.length ≤ cur.size) :
    (Builtin.append_ #[t, t] ty #[.slice (some ⟨g, base, none⟩) sLen sCap, .slice (some a) m c]).run P w =
      .ok (.slice (some ⟨g, base, none⟩) (sLen + m) sCap) (w.setRow g (cur.toList.take (base + sLen * i.size) ++ news ++ cur.toList.drop (base + sLen * i.size + news.length)).toArray) := by
  have hf := run_firstCells_some (P := P) w i.size m a m c news hl hnews
  have hst := run_storeCells_at P g (base + sLen * i.size) e news 0 cur w hg (by simpa using hfit) h1
  simp only [Nat.add_zero] at hst
  simp [Builtin.append_, run_underlying ht, sizeOf, typeInfo, hi, Builtin.lenOf, hroom, hf, Addr.add_mid, hst]

theorem run_append_zero (w : World) (t ty e : TypeId) (i : TypeInfo) (ht : P.underlying t = some (.slice e)) (hi : P.info? e = some i) (s : Option Addr) (ad : Option Addr) (sLen sCap c : Nat) (hroom : sLen ≤ sCap) :
    (Builtin.append_ #[t, t] ty #[.slice s sLen sCap, .slice ad 0 c]).run P w = .ok (.slice s sLen sCap) w := by
  cases s <;> cases ad <;> simp [Builtin.append_, run_underlying ht, sizeOf, typeInfo, hi, Builtin.lenOf, hroom, Builtin.firstCells, loadCells, loadCellsFrom, storeCells]

theorem run_append {x y : Operand} {t : TypeId} {a : Act} {w w' : World} {u v r : Value} (ho : o.op = .call { callee := .builtin .append, args := #[x, y], argTypes := #[t, t] }) (hx : a.eval x = u) (hy : a.eval y = v) (hr : (Builtin.append_ #[t, t] o.type #[u, v]).run P w = .ok r w') :
    (execOp a.eval o).run P w = .ok (.value r) w' := by
  simp only [execOp, ho, resolve, List.map_toArray, List.map_cons, List.map_nil, hx, hy, Sem.run_bind, Sem.run_pure, Result.andThen_ok, invoke, builtin, hr]

/-- An array has grown, in its block or into a new one. -/
theorem grow_at {y : V} {id te es fz : Nat} {elems elems' : List (List C)} (hd : o.dst = some d) (hdn : d < n) (hlen : elems.length ≤ elems'.length) (fz' : Nat) {st' : St} {G : Ctx} {S : Sto} {μ : Mu} {a : Act} {w : World} {K : Act → World → Prop} {Q : Exit → Act → World → Prop}
    (hid' : st'.h id = some (.arr te es elems fz)) (hs : Sim G n S μ st' a w) (hk : ∀ S' μ' a' w', Sim G n S' μ' (Eff.apply ⟨some (d, some y), [(id, some (.arr te es elems' fz'))]⟩ st') a' w' → K a' w')
    (h : ∃ w' v, (execOp a.eval o).run P w = .ok (.value v) w' ∧
      ((w' = w ∧ elems' = elems ∧ (fz' = fz ∨ fz' = 1) ∧ VRel S μ st'.h y v) ∨
       (elems.length < elems'.length ∧ ∃ b bo c, (w.heap.size ≤ b ∨ ∃ c', μ id = some (b, c')) ∧ WChg w w' b bo ∧ ORel S (upd μ id (some (b, c))) (upd st'.h id (some (.arr te es elems' fz'))) w' id (.arr te es elems' fz') ∧
         (∀ o v, S.cell b o = some v → ∃ vs t fr, bo = .cells vs t fr ∧ vs[o]? = some v) ∧ (∀ m, S.mapo b = some m → w.heap.size ≤ b) ∧ VRel S (upd μ id (some (b, c))) (upd st'.h id (some (.arr te es elems' fz'))) y v))) :
    ∀ ro, o.wpIn (Wd ro) 0 P a w K Q := by
  obtain ⟨w', v, hr, hcase⟩ := h
  refine fun ro => wpIn_of_value hr ?_
  rw [hd]
  rcases hcase with ⟨rfl, rfl, hfz, hv⟩ | ⟨hlt, b, bo, c, hb, hw, hO, hS, hSm, hv⟩
  · have hE : Evolve S μ st'.h S μ (upd st'.h id (some (.arr te es elems' fz'))) := ⟨S.le_refl, fun j x hj => by
      by_cases hne : j = id
      · subst hne
        rw [hid'] at hj; cases hj
        exact ⟨_, upd_same _ _ _, by simp [AObj.succ]⟩
      · exact ⟨x, by rw [upd_ne _ _ _ hne]; exact hj, x.succ_refl rfl⟩⟩
    have hi : Inv G S μ (upd st'.h id (some (.arr te es elems' fz'))) w' := by
      obtain ⟨h1, h2, h3, h4, h5, h6, h7, h8⟩ := hs.inv
      have hold : ∀ j x, upd st'.h id (some (.arr te es elems' fz')) j = some x → ∃ x', st'.h j = some x' := fun j x hj => by
        by_cases hne : j = id
        · subst hne; exact ⟨_, hid'⟩
        · rw [upd_ne _ _ _ hne] at hj; exact ⟨_, hj⟩
      refine ⟨h1, fun j x hj => ?_, fun i j x x' b c c' hi hj hm hm' => ?_, fun i x b c hi hm => ?_, h5, h6, h7, h8.trans hE⟩
      · by_cases hne : j = id
        · subst hne
          rw [upd_same] at hj; cases hj
          have hO := (h2 j _ hid').evolve hE rfl fun _ _ _ => ⟨rfl, fun _ => rfl, rfl⟩
          rcases hfz with rfl | rfl
          · exact hO
          · obtain ⟨g0, g1 | ⟨b, base, cap, vs, g1, g2, g3, g4, g5, g6, g7, g8, g9⟩⟩ := hO
            · exact ⟨g0, .inl g1⟩
            · exact ⟨g0, .inr ⟨b, base, cap, vs, g1, g2, g3, g4, g5, g6, (fun e => by cases e), g8, (fun e => by cases e)⟩⟩
        · rw [upd_ne _ _ _ hne] at hj
          exact (h2 j x hj).evolve hE rfl fun _ _ _ => ⟨rfl, fun _ => rfl, rfl⟩
      · obtain ⟨_, hi'⟩ := hold _ _ hi
        obtain ⟨_, hj'⟩ := hold _ _ hj
        exact h3 i j _ _ b c c' hi' hj' hm hm'
      · obtain ⟨_, hi'⟩ := hold _ _ hi
        exact h4 i _ b c hi' hm
    have := hs.put hi hE hdn (x := some y) (v := v) (fun z hz => by cases hz; exact VRel.evolve hE _ _ hv)
    refine hk S μ _ _ ?_
    unfold Eff.apply
    rw [updL_one]
    exact this
  · have hE : Evolve S μ st'.h S (upd μ id (some (b, c))) (upd st'.h id (some (.arr te es elems' fz'))) := ⟨S.le_refl, fun j x hj => by
      by_cases hne : j = id
      · subst hne
        rw [hid'] at hj; cases hj
        exact ⟨_, upd_same _ _ _, by simp only [AObj.succ, true_and]; exact ⟨hlen, fun e => by omega⟩⟩
      · exact ⟨x, by rw [upd_ne _ _ _ hne]; exact hj, x.succ_refl (upd_ne _ _ _ hne)⟩⟩
    have hi := hs.inv.chg (id := id) (cap := c) (ao := .arr te es elems' fz') hw (hb.imp (fun h => h) fun ⟨c', h⟩ => ⟨_, c', hid', h⟩) hE hO hS hSm
    have := hs.put hi hE hdn (x := some y) (v := v) (fun z hz => by cases hz; exact hv)
    refine hk S (upd μ id (some (b, c))) _ _ ?_
    unfold Eff.apply
    rw [updL_one]
    exact this

theorem Step.grow {rd : Rd} {y : V} {id te es fz : Nat} {elems elems' : List (List C)} (hd : o.dst = some d) (hdn : d < n) (hid : st.h id = some (.arr te es elems fz)) (hrd : id ∈ rd.h) (hlen : elems.length ≤ elems'.length) (fz' : Nat)
    (h : ∀ st', Agree rd st st' → st'.h id = some (.arr te es elems fz) → ∀ G S μ a w, Sim G n S μ st' a w → ∃ w' v, (execOp a.eval o).run P w = .ok (.value v) w' ∧
      ((w' = w ∧ elems' = elems ∧ (fz' = fz ∨ fz' = 1) ∧ VRel S μ st'.h y v) ∨
       (elems.length < elems'.length ∧ ∃ b bo c, (w.heap.size ≤ b ∨ ∃ c', μ id = some (b, c')) ∧ WChg w w' b bo ∧ ORel S (upd μ id (some (b, c))) (upd st'.h id (some (.arr te es elems' fz'))) w' id (.arr te es elems' fz') ∧
         (∀ o v, S.cell b o = some v → ∃ vs t fr, bo = .cells vs t fr ∧ vs[o]? = some v) ∧ (∀ m, S.mapo b = some m → w.heap.size ≤ b) ∧ VRel S (upd μ id (some (b, c))) (upd st'.h id (some (.arr te es elems' fz'))) y v))) :
    Step P n o st rd ⟨some (d, some y), [(id, some (.arr te es elems' fz'))]⟩ := by
  intro st' ha G S μ a w K Q hs hk
  have hid' : st'.h id = some (.arr te es elems fz) := by rw [ha.2 id hrd, hid]
  exact grow_at hd hdn hlen fz' hid' hs hk (h st' ha hid' G S μ a w hs)

/-- append, onto an array of the call's own, at its end: what runs. -/
theorem append_at {t e : TypeId} {i ei : TI} {x y : Operand} {id sz fz : Nat} {elems rows : List (List C)} {vy : V} {ids : List Nat} {st' : St} {G : Ctx} {S : Sto} {μ : Mu} {a : Act} {w : World} (hT : Tok P T) (ho : o.op = .call { callee := .builtin .append, args := #[x, y], argTypes := #[t, t] })
    (hi : T[t]? = some (some i)) (hk : i.k = .sl e) (hei : T[e]? = some (some ei)) (hes : Nat.ble 1 ei.size = true) (heb : Nat.ble 1 ei.bytes = true)
    (hsz : sz = elems.length) (hroom : (elems.length + rows.length) * ei.bytes ≤ 140737488355328) (hh' : st'.h id = some (.arr e ei.size elems fz)) (hs : Sim G n S μ st' a w)
    (hvx : VRel S μ st'.h (.one (.hs id 0 sz sz)) (a.eval x)) (hvy : VRel S μ st'.h vy (a.eval y)) (hsrc : Src st ei.size ids vy rows) (hsi : ∀ i ∈ ids, st'.h i = st.h i) :
    ∃ w' v, (execOp a.eval o).run P w = .ok (.value v) w' ∧
      ((w' = w ∧ elems ++ rows = elems ∧ ((if fz = 0 then 0 else 1) = fz ∨ (if fz = 0 then 0 else 1) = 1) ∧ VRel S μ st'.h (.one (.hs id 0 (elems.length + rows.length) (elems.length + rows.length))) v) ∨
       (elems.length < (elems ++ rows).length ∧ ∃ b bo c, (w.heap.size ≤ b ∨ ∃ c', μ id = some (b, c')) ∧ WChg w w' b bo ∧ ORel S (upd μ id (some (b, c))) (upd st'.h id (some (.arr e ei.size (elems ++ rows) (if fz = 0 then 0 else 1)))) w' id (.arr e ei.size (elems ++ rows) (if fz = 0 then 0 else 1)) ∧
         (∀ o v, S.cell b o = some v → ∃ vs t fr, bo = .cells vs t fr ∧ vs[o]? = some v) ∧ (∀ m, S.mapo b = some m → w.heap.size ≤ b) ∧ VRel S (upd μ id (some (b, c))) (upd st'.h id (some (.arr e ei.size (elems ++ rows) (if fz = 0 then 0 else 1)))) (.one (.hs id 0 (elems.length + rows.length) (elems.length + rows.length))) v)) := by
  subst hsz
  have hes' := Nat.le_of_ble_eq_true hes
  have heb' := Nat.le_of_ble_eq_true heb
  obtain ⟨ad, c, news, hvy1, hnrep, hrl, hnone, hcell⟩ := hsrc.rel hs hsi hvy
  have hnl : news.length = rows.length * ei.size := by rw [hnrep.length, length_flat hrl]
  obtain ⟨inf, dd, z, g1, g2, g3, g4, g5, g6, g7, g8⟩ := (hT.get hei).ex
  have hu := (hT.get hi).slice hk
  have hzs : z.cells.size = ei.size := by
    have h1 := (checkL_rep (S := S) g7).length
    rw [(hT.get hei).len] at h1
    simpa using h1
  simp only [VRel, RRel] at hvx
  obtain ⟨_, hv | ⟨te', es', elems', fz', h1, h2, h3⟩⟩ := hvx
  · rw [hh'] at hv; cases hv
  rw [hh'] at h1; cases h1
  obtain ⟨h4, hcase⟩ := h3 rfl
  have hbig : elems.length + rows.length ≤ 140737488355328 := by
    have : (elems.length + rows.length) * 1 ≤ (elems.length + rows.length) * ei.bytes := Nat.mul_le_mul_left _ heb'
    omega
  have hone : ∀ u ∈ news, u.oneCell' = true := (hnrep.toR (μ := μ) (H := st'.h)).one
  have hcap : ∀ old, elems.length + rows.length ≤ grownCap w (elems.length + rows.length) old e ∧ grownCap w (elems.length + rows.length) old e ≤ maxLen := fun old =>
    ⟨grownCap_ge _ _ _ _, grownCap_le_maxLen _ _ _ _ (by unfold maxLen; omega)⟩
  -- into a new block
  have hgrown : ∀ (olds : List Value) (old : Nat), RepL S elems.flatten olds → 0 < rows.length → ∀ g0 : (∀ r ∈ elems, r.length = ei.size),
      ORel S (upd μ id (some (w.heap.size, 0, grownCap w (elems.length + rows.length) old e))) (upd st'.h id (some (.arr e ei.size (elems ++ rows) (if fz = 0 then 0 else 1))))
        (w.drew.alloc (.cells (olds.toArray ++ news.toArray ++ Builtin.zeroCells z.cells (grownCap w (elems.length + rows.length) old e - (elems.length + rows.length))) e)) id (.arr e ei.size (elems ++ rows) (if fz = 0 then 0 else 1)) := by
    intro olds old hol hpos g0
    obtain ⟨hc1, hc2⟩ := hcap old
    have hol' := hol.length
    rw [length_flat g0] at hol'
    refine ⟨?_, .inr ⟨w.heap.size, 0, grownCap w (elems.length + rows.length) old e, (olds.toArray ++ news.toArray ++ Builtin.zeroCells z.cells (grownCap w (elems.length + rows.length) old e - (elems.length + rows.length))).toList, upd_same _ _ _, heap_alloc_new w.drew _, ?_, by simpa using hc1, hc2, ?_, fun _ o _ => no_cell hs.inv o, fun o _ => no_cell hs.inv o, fun e => by split at e <;> cases e⟩⟩
    · intro r hr
      rcases List.mem_append.1 hr with hr | hr
      · exact g0 r hr
      · exact hrl r hr
    · simp only [Array.toList_append, List.length_append, Array.length_toList, size_zeroCells, hzs]
      simp only [hol', hnl, Nat.zero_add, ← Nat.add_mul]
      exact Nat.mul_le_mul_right _ (by omega)
    · simp only [Array.toList_append, List.drop_zero, List.length_append, List.flatten_append]
      rw [List.take_append_of_le_length (by simp [hol', hnl, Nat.add_mul]), List.take_of_length_le (by simp [hol', hnl, Nat.add_mul])]
      exact hol.append hnrep
  have hlen' : (elems ++ rows).length = elems.length + rows.length := by simp
  by_cases hm : rows.length = 0
  · -- nothing is appended
    have hr0 : rows = [] := List.eq_nil_of_length_eq_zero hm
    have hfzz : (if fz = 0 then 0 else 1) = fz ∨ (if fz = 0 then 0 else 1) = 1 := by
      by_cases h : fz = 0
      · left; rw [if_pos h, h]
      · right; rw [if_neg h]
    rcases hcase with ⟨h5, h6, h7⟩ | ⟨b, base, cap, h5, h6⟩
    · refine ⟨w, .slice none 0 0, run_append ho h7 hvy1 (by rw [hm]; exact run_append_zero w t o.type e inf hu g1 none ad 0 0 c (Nat.le_refl _)), .inl ⟨rfl, by rw [hr0, List.append_nil], hfzz, ?_⟩⟩
      simp only [VRel, RRel]
      exact ⟨⟨_, _, _, rfl⟩, .inr ⟨e, ei.size, elems, fz, hh', by omega, fun _ => ⟨by omega, .inl ⟨h5, h6, (by first | rfl | trivial)⟩⟩⟩⟩
    · obtain ⟨q0, vs, q1, q2, q3, q4, q5, q6, q7, q8⟩ := (hs.inv.obj id _ hh').arr h5
      refine ⟨w, _, run_append ho h6 hvy1 (by rw [hm]; exact run_append_zero w t o.type e inf hu g1 _ ad elems.length _ c (by omega)), .inl ⟨rfl, by rw [hr0, List.append_nil], hfzz, ?_⟩⟩
      simp only [VRel, RRel]
      exact ⟨⟨_, _, _, rfl⟩, .inr ⟨e, ei.size, elems, fz, hh', by omega, fun _ => ⟨by omega, .inr ⟨b, base, cap, h5, by rw [hm, Nat.add_zero]⟩⟩⟩⟩
  · cases ad with
    | none => exact absurd (by rw [hnone rfl]; rfl) hm
    | some ad =>
      have hc := hcell ad rfl
      rcases hcase with ⟨h5, h6, h7⟩ | ⟨b, base, cap, h5, h6⟩
      · -- the first elements
        subst h6
        simp only [List.length_nil, Nat.zero_add] at hroom hbig hgrown hcap
        have hr := run_append_nil (P := P) w t o.type e inf z hu g1 g6 ad rows.length c news (by rw [hnl, g3]) hc (by omega) (by omega) (by rw [g4]; omega)
        refine ⟨_, _, run_append ho h7 hvy1 hr, .inr ⟨by simp; omega, w.heap.size, _, (0, grownCap w rows.length 0 e), .inl (Nat.le_refl _), WChg.alloc_drew w _, ?_, (fun o v e => by rw [no_cell hs.inv] at e; cases e), fun m e => Nat.le_refl _, ?_⟩⟩
        · have := hgrown [] 0 (by simp [RepL]) (by omega) (by simp)
          simpa using this
        · simp only [VRel, RRel]
          exact ⟨⟨_, _, _, rfl⟩, .inr ⟨e, ei.size, _, _, upd_same _ _ _, by simp, fun _ => ⟨by simp, .inr ⟨w.heap.size, 0, _, upd_same _ _ _, by simp⟩⟩⟩⟩
      · obtain ⟨q0, vs, q1, q2, q3, q4, q5, q6, q7, q8⟩ := (hs.inv.obj id _ hh').arr h5
        have hce : elems.length * ei.size ≤ cap * ei.size := Nat.mul_le_mul_right _ q3
        simp only [Nat.sub_zero, Nat.zero_mul, Nat.add_zero] at h6
        by_cases hroom' : elems.length + rows.length ≤ cap
        · -- there is room
          have hce2 : (elems.length + rows.length) * ei.size ≤ cap * ei.size := Nat.mul_le_mul_right _ hroom'
          rw [Nat.add_mul] at hce2
          have hr := run_append_room' (P := P) w t o.type e inf hu g1 b base elems.length cap ⟨vs⟩ q1 ad rows.length c news (by rw [hnl, g3]) hc hone hroom' (by rw [g3, hnl]; simp only [List.size_toArray]; omega)
          rw [g3] at hr
          have hW := WChg.setRow w b ⟨vs⟩ ⟨vs.take (base + elems.length * ei.size) ++ news ++ vs.drop (base + elems.length * ei.size + news.length)⟩ e (0, 0) q1
          refine ⟨_, _, run_append ho h6 hvy1 hr, .inr ⟨by simp; omega, b, _, (base, cap), .inr ⟨_, h5⟩, hW, ⟨?_, .inr ⟨b, base, cap, _, upd_same _ _ _, hW.new, ?_, by rw [hlen']; omega, q4, ?_, ?_, ?_, fun e => by split at e <;> cases e⟩⟩, ?_, fun m e => map_none_of hs.inv.holds q1 m e, ?_⟩⟩
          · intro r hr
            rcases List.mem_append.1 hr with hr | hr
            · exact q0 r hr
            · exact hrl r hr
          · simp only [List.length_append, List.length_take, List.length_drop]
            omega
          · rw [hlen', List.flatten_append]
            have e1 : ((vs.take (base + elems.length * ei.size) ++ news ++ vs.drop (base + elems.length * ei.size + news.length)).drop base).take ((elems.length + rows.length) * ei.size) = (vs.drop base).take (elems.length * ei.size) ++ news := by
              rw [List.append_assoc, List.drop_append_of_le_length (by simp; omega), ← List.append_assoc, List.take_append_of_le_length (by simp [Nat.add_mul]; omega)]
              rw [List.take_of_length_le (by simp [Nat.add_mul]; omega), List.drop_take]
              rw [show base + elems.length * ei.size - base = elems.length * ei.size by omega]
            rw [e1]
            exact q5.append hnrep
          · intro e o ho
            exact q6 (Classical.byContradiction fun hne => by rw [if_neg hne] at e; cases e) o ho
          · intro o ho
            rw [hlen', Nat.add_mul] at ho
            exact q7 o (by omega)
          · intro o v e
            by_cases hlt : o < base + elems.length * ei.size
            · obtain ⟨vs0, t0, fr0, p1, p2⟩ := hs.inv.holds.1 b o v e
              rw [q1] at p1; cases p1
              refine ⟨_, _, _, rfl, ?_⟩
              simp only [List.getElem?_toArray] at p2 ⊢
              rw [List.append_assoc, List.getElem?_append_left (by simp; omega), List.getElem?_take, if_pos (by omega)]
              exact p2
            · rw [q7 o (by omega)] at e; cases e
          · simp only [VRel, RRel]
            exact ⟨⟨_, _, _, rfl⟩, .inr ⟨e, ei.size, _, _, upd_same _ _ _, by simp, fun _ => ⟨by simp, .inr ⟨b, base, cap, upd_same _ _ _, by simp⟩⟩⟩⟩
        · -- into a new block
          have hr := run_append_grow (P := P) w t o.type e inf z hu g1 g6 ⟨b, base, none⟩ elems.length cap ((vs.drop base).take (elems.length * ei.size)) (by rw [g3]; simp; omega) (by
              intro j v hj
              rw [Addr.add_mid, cell_of_row w b _ ⟨vs⟩ e (0, 0) q1]
              rw [List.getElem?_take] at hj
              split at hj
              · rw [List.getElem?_drop] at hj
                simpa using hj
              · cases hj) ad rows.length c news (by rw [hnl, g3]) hc (by omega) (by omega) (by rw [g4]; exact growslice_fits (by omega) hroom)
          have hq5 : RepL S elems.flatten ((vs.drop base).take (elems.length * ei.size)) := q5
          refine ⟨_, _, run_append ho h6 hvy1 hr, .inr ⟨by simp; omega, w.heap.size, _, (0, grownCap w (elems.length + rows.length) cap e), .inl (Nat.le_refl _), WChg.alloc_drew w _, ?_, (fun o v e => by rw [no_cell hs.inv] at e; cases e), fun m e => Nat.le_refl _, ?_⟩⟩
          · have := hgrown _ cap hq5 (by omega) q0
            simpa using this
          · simp only [VRel, RRel]
            exact ⟨⟨_, _, _, rfl⟩, .inr ⟨e, ei.size, _, _, upd_same _ _ _, by simp, fun _ => ⟨by simp, .inr ⟨w.heap.size, 0, _, upd_same _ _ _, by simp⟩⟩⟩⟩

/-- append, onto an array of the call's own, at its end. -/
theorem r_append {t e : TypeId} {i ei : TI} {x y : Operand} {id sz fz : Nat} {elems rows : List (List C)} {vy : V} {ids : List Nat} (hT : Tok P T) (ho : o.op = .call { callee := .builtin .append, args := #[x, y], argTypes := #[t, t] }) (hd : o.dst = some d) (hdn : d < n)
    (hi : T[t]? = some (some i)) (hk : i.k = .sl e) (hei : T[e]? = some (some ei)) (hes : Nat.ble 1 ei.size = true) (heb : Nat.ble 1 ei.bytes = true)
    (hx : opv st x = some (.one (.hs id 0 sz sz))) (hh : st.h id = some (.arr e ei.size elems fz)) (hsz : sz = elems.length) (hy : opv st y = some vy) (hsrc : Src st ei.size ids vy rows)
    (hroom : (elems.length + rows.length) * ei.bytes ≤ 140737488355328) :
    Step P n o st ⟨opr x ++ opr y, id :: ids⟩ ⟨some (d, some (.one (.hs id 0 (elems.length + rows.length) (elems.length + rows.length)))), [(id, some (.arr e ei.size (elems ++ rows) (if fz = 0 then 0 else 1)))]⟩ := by
  refine Step.grow hd hdn hh (by simp) (by simp) _ fun st' ha hh' G S μ a w hs => ?_
  have hvx := opv_rel hs hx fun t ht => ha.1 t (by simp [ht])
  have hvy := opv_rel hs hy fun t ht => ha.1 t (by simp [ht])
  exact append_at hT ho hi hk hei hes heb hsz hroom hh' hs hvx hvy hsrc fun i h => ha.2 i (by simp [h])
end
end Go.AM
