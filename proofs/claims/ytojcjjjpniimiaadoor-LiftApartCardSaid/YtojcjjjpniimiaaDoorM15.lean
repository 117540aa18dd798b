/-
  Texts La11, La12, La13, La14 in one.
-/
import Derived.Test.YtojcjjjpniimiaaDoorM14
/- WHAT IS FREE IN CORE (the reference of layer 18): what it is, the walk. -/
namespace Go.Proofs.YtojcjjjpniimiaaDoor
open Go Go.AM
set_option maxRecDepth 20000

mutual
/-- The names that are free, behind those that were met. -/
def fR : Core → (Str → Bool) → List Str → List Str
  | .mk f _ s _ ks bs al, G, out =>
    if f = 1 then (if !G s && !decide (s ∈ out) then out ++ [s] else out)
    else fRa al (ext G (gvs f s bs)) (fRb bs (ext G (gvs f s bs)) (fRk ks (ext G (gvs f s bs)) out))
def fRk : List Core → (Str → Bool) → List Str → List Str
  | [], _, out => out
  | c :: l, G, out => fRk l G (fR c G out)
def fRb : List Bind → (Str → Bool) → List Str → List Str
  | [], _, out => out
  | .mk _ _ c :: l, G, out => fRb l G (fR c G out)
def fRa : List Alt → (Str → Bool) → List Str → List Str
  | [], _, out => out
  | .mk _ _ _ vs c :: l, G, out => fRa l G (fR c (ext G vs) out)
end
theorem fRk_fold : ∀ (l : List Core) (G : Str → Bool) (out : List Str), fRk l G out = l.foldl (fun o c => fR c G o) out
  | [], _, _ => by rw [fRk]; rfl
  | c :: l, G, out => by rw [fRk, fRk_fold l]; rfl
theorem fRb_fold : ∀ (l : List Bind) (G : Str → Bool) (out : List Str), fRb l G out = l.foldl (fun o c => fR c.body G o) out
  | [], _, _ => by rw [fRb]; rfl
  | .mk _ _ c :: l, G, out => by rw [fRb, fRb_fold l]; rfl
theorem fRa_fold : ∀ (l : List Alt) (G : Str → Bool) (out : List Str), fRa l G out = l.foldl (fun o c => fR c.body (ext G c.vars) o) out
  | [], _, _ => by rw [fRa]; rfl
  | .mk _ _ _ _ c :: l, G, out => by rw [fRa, fRa_fold l]; rfl
theorem fold_step {α β : Type} (f : β → α → β) (b : β) {l : List α} {i : Nat} {x : α} (h : l[i]? = some x) : (l.take (i + 1)).foldl f b = f ((l.take i).foldl f b) x := by
  rw [take_step h, List.foldl_append]; rfl
mutual
theorem fR_len : ∀ (c : Core) (G : Str → Bool) (out : List Str), (fR c G out).length ≤ out.length + csize c
  | .mk f _ x _ ks bs al, G, out => by
    rw [fR, csize]
    split
    · split
      · simp; omega
      · omega
    · have h1 := fRk_len ks (ext G (gvs f x bs)) out
      have h2 := fRb_len bs (ext G (gvs f x bs)) (fRk ks (ext G (gvs f x bs)) out)
      have h3 := fRa_len al (ext G (gvs f x bs)) (fRb bs (ext G (gvs f x bs)) (fRk ks (ext G (gvs f x bs)) out))
      omega
theorem fRk_len : ∀ (l : List Core) (G : Str → Bool) (out : List Str), (fRk l G out).length ≤ out.length + csizes l
  | [], _, out => by rw [fRk]; omega
  | c :: l, G, out => by rw [fRk, csizes]; have := fRk_len l G (fR c G out); have := fR_len c G out; omega
theorem fRb_len : ∀ (l : List Bind) (G : Str → Bool) (out : List Str), (fRb l G out).length ≤ out.length + bsizes l
  | [], _, out => by rw [fRb]; omega
  | .mk _ _ c :: l, G, out => by rw [fRb, bsizes, bsize]; have := fRb_len l G (fR c G out); have := fR_len c G out; omega
theorem fRa_len : ∀ (l : List Alt) (G : Str → Bool) (out : List Str), (fRa l G out).length ≤ out.length + asizes l
  | [], _, out => by rw [fRa]; omega
  | .mk _ _ _ vs c :: l, G, out => by rw [fRa, asizes, asize]; have := fRa_len l G (fR c (ext G vs) out); have := fR_len c (ext G vs) out; omega
end
/-- Sizes of lists cut short. -/
theorem csizes_take : ∀ (l : List Core) (i : Nat), csizes (l.take i) ≤ csizes l
  | [], i => by simp
  | c :: l, 0 => by rw [List.take_zero, csizes]; exact Nat.zero_le _
  | c :: l, i + 1 => by rw [List.take_succ_cons, csizes, csizes]; have := csizes_take l i; omega
theorem bsizes_take : ∀ (l : List Bind) (i : Nat), bsizes (l.take i) ≤ bsizes l
  | [], i => by simp
  | c :: l, 0 => by rw [List.take_zero, bsizes]; exact Nat.zero_le _
  | c :: l, i + 1 => by rw [List.take_succ_cons, bsizes, bsizes]; have := bsizes_take l i; omega
theorem asizes_take : ∀ (l : List Alt) (i : Nat), asizes (l.take i) ≤ asizes l
  | [], i => by simp
  | c :: l, 0 => by rw [List.take_zero, asizes]; exact Nat.zero_le _
  | c :: l, i + 1 => by rw [List.take_succ_cons, asizes, asizes]; have := asizes_take l i; omega
theorem csizes_take_mem : ∀ {l : List Core} {i : Nat} {c : Core}, l[i]? = some c → csizes (l.take i) + csize c + (l.length - (i + 1)) ≤ csizes l
  | d :: l, 0, c, h => by simp at h; subst h; rw [List.take_zero, csizes, csizes, List.length_cons]; have := csizes_len l; omega
  | d :: l, i + 1, c, h => by
    have := csizes_take_mem (l := l) (i := i) (c := c) (by simpa using h)
    rw [List.take_succ_cons, csizes, csizes, List.length_cons]; omega
theorem bsizes_take_mem : ∀ {l : List Bind} {i : Nat} {c : Bind}, l[i]? = some c → bsizes (l.take i) + bsize c + (l.length - (i + 1)) ≤ bsizes l
  | d :: l, 0, c, h => by simp at h; subst h; rw [List.take_zero, bsizes, bsizes, List.length_cons]; have := bsizes_len l; omega
  | d :: l, i + 1, c, h => by
    have := bsizes_take_mem (l := l) (i := i) (c := c) (by simpa using h)
    rw [List.take_succ_cons, bsizes, bsizes, List.length_cons]; omega
theorem asizes_take_mem : ∀ {l : List Alt} {i : Nat} {c : Alt}, l[i]? = some c → asizes (l.take i) + asize c + (l.length - (i + 1)) ≤ asizes l
  | d :: l, 0, c, h => by simp at h; subst h; rw [List.take_zero, asizes, asizes, List.length_cons]; have := asizes_len l; omega
  | d :: l, i + 1, c, h => by
    have := asizes_take_mem (l := l) (i := i) (c := c) (by simpa using h)
    rw [List.take_succ_cons, asizes, asizes, List.length_cons]; omega
theorem vsum_len : ∀ l : List Str, l.length ≤ (l.map fun v => 1 + v.length).sum
  | [] => Nat.zero_le _
  | _ :: l => by have := vsum_len l; simp; omega
theorem memG (g l : List Str) : (fun s => decide (s ∈ g ++ l)) = ext (fun s => decide (s ∈ g)) l := by
  funext s; simp [ext]

/-- Names of one's own, as an object. -/
def outO (l : List Str) : AObj := .arr 9 1 (l.map encS) 1
def outV (l : List Str) : V := .one (.hs 900 0 l.length l.length)
def strsV (l : List Str) : V := .one (.c (.sl 1 (l.map encS)))
def FrSpec (c : Core) : Prop := ∀ g out : List Str, 2 * csize c + g.length + out.length ≤ 1000000 → ImpC Tryd.prog 57 [.pa (encCore c), strsV g, outV out] [(900, outO out)] (outV (fR c (fun s => decide (s ∈ g)) out)) [(900, outO (fR c (fun s => decide (s ∈ g)) out))]

theorem c_fr_step (c : Core) (ih : ∀ x, csize x < csize c → FrSpec x) : FrSpec c := by
  intro g out hsz
  obtain ⟨f, n, s, t, ks, bs, al⟩ := c
  obtain ⟨ihk, ihb, iha, hkl, hbl, hal⟩ := @size_in f n s t ks bs al
  have hg := c_has g s (by unfold Fits; omega)
  have hsz2 := hsz
  rw [csize] at hsz2
  have hbl2 := bsizes_len bs
  have ho := c_has out s (by unfold Fits; omega)
  refine impC (n := 119) tok Tryd.func57 rfl rfl rfl ?_
  refine awp_seq (ag [] rfl ?_)
  refine awp_seq (awp_seq (ag [] rfl ?_))
  refine awp_cond rfl (fun hb => ?_) (fun hb => ?_)
  · have hf : f = 1 := of_decide_eq_true hb
    have hr : fR (.mk f n s t ks bs al) (fun s => decide (s ∈ g)) out = if !decide (s ∈ g) && !decide (s ∈ out) then out ++ [s] else out := by rw [fR, if_pos hf]
    rw [hr]
    refine AWp.sub (Sub.freeze (id := 900) rfl) ?_
    refine awp_seq (awp_seq (agF 5 [(3, .pc (B (decide (s ∈ g)))), (9, .pc (B (decide (s ∈ out))))] rfl rfl rfl ?_))
    refine awp_cond rfl (fun hb => ?_) (fun hb => ?_)
    · have hm : (!decide (s ∈ g) && !decide (s ∈ out)) = true := by
        cases h1 : decide (s ∈ g) <;> cases h2 : decide (s ∈ out) <;> simp [h1, h2] at hb ⊢
      rw [if_pos hm]
      refine ag [] rfl ?_
      refine awp_seq (ag [] rfl ?_)
      refine AWp.sub (st2 := mk [(6, outV (out ++ [s]))] [(900, outO (out ++ [s]))]) sl ?_
      exact awp_ret rtT
    · have hm : ¬ (!decide (s ∈ g) && !decide (s ∈ out)) = true := by
        cases h1 : decide (s ∈ g) <;> cases h2 : decide (s ∈ out) <;> simp [h1, h2] at hb ⊢
      rw [if_neg hm]
      refine awp_skip ?_
      refine awp_seq (ag [] rfl ?_)
      exact awp_ret rtT
  · have hf : ¬ f = 1 := of_decide_eq_false hb
    rw [show fR (.mk f n s t ks bs al) (fun s => decide (s ∈ g)) out = fRa al (fun x => decide (x ∈ g ++ gvs f s bs)) (fRb bs (fun x => decide (x ∈ g ++ gvs f s bs)) (fRk ks (fun x => decide (x ∈ g ++ gvs f s bs)) out)) by rw [fR, if_neg hf, memG]]
    refine awp_skip ?_
    refine awp_seq (ag [] rfl ?_)
    refine awp_seq (ag [] rfl ?_)
    have hE1 : (if f = 5 then [s] else []).length ≤ 1 := by split <;> simp
    refine awp_seq (AWp.cut (mk [(2, outV out), (3, .one (.vp 3 0)), (7, .one (.hs 36 0 (g ++ (if f = 5 then [s] else [])).length (g ++ (if f = 5 then [s] else [])).length))] [(3, .var 38 (cellsC (.mk f n s t ks bs al))), (36, .arr 9 1 ((g ++ (if f = 5 then [s] else [])).map encS) 0), (900, outO out)]) ?_ ?_)
    · refine awp_seq (ag [] rfl ?_)
      refine awp_cond rfl (fun hb => ?_) (fun hb => ?_)
      · have h5 : f = 5 := of_decide_eq_true hb
        rw [if_pos h5]
        refine ag [] rfl ?_
        exact sl
      · have h5 : ¬ f = 5 := of_decide_eq_false hb
        rw [if_neg h5, List.append_nil]
        refine awp_skip ?_
        exact sl
    have hgv : gvs f s bs = (if f = 5 then [s] else []) ++ bs.map Bind.name := rfl
    have hil : (g ++ gvs f s bs).length ≤ g.length + 1 + bs.length := by
      rw [hgv]; simp only [List.length_append, List.length_map]; omega
    generalize (if f = 5 then [s] else []) = w at hE1 hgv ⊢
    have hkB : (encBinds bs).length = bs.length := by rw [encBinds_map, List.length_map]
    have hkK : (encCores ks).length = ks.length := by rw [encCores_map, List.length_map]
    have hkA : (encAlts al).length = al.length := by rw [encAlts_map, List.length_map]
    refine awp_seq (awp_seq (ag [] rfl ?_))
    refine awp_block ?_
    refine awp_loop (fun i : Nat => mk [(2, outV out), (3, .one (.vp 3 0)), (7, .one (.hs 36 0 (g.length + w.length + i) (g.length + w.length + i))), (8, I .i64 i)] [(3, .var 38 (cellsC (.mk f n s t ks bs al))), (36, .arr 9 1 ((g ++ (w ++ (bs.take i).map Bind.name)).map encS) 0), (900, outO out)]) (fun i => i ≤ bs.length) (fun i => bs.length - i) 0 (Nat.zero_le _) sl ?_
    intro i hi
    refine awp_seq (awp_seq (ag [] rfl ?_))
    refine awp_cond rfl (fun hb => ?_) (fun hb => ?_)
    · have hlt := ltD hb hkB
      obtain ⟨b, hbi⟩ := get_of_lt hlt
      have hbi' := encBinds_at hbi
      have hrows : (g ++ (w ++ (bs.take i).map Bind.name)).map encS ++ [[.str b.name]] = (g ++ (w ++ (bs.take (i + 1)).map Bind.name)).map encS := by
        rw [take_step hbi]; simp [encS]
      refine awp_skip ?_
      refine awp_seq (awp_block ?_)
      refine ag [(4, .row i (encBind b))] rfl ?_
      refine ag [] rfl ?_
      exact ⟨i + 1, hlt, by dsimp only; omega, sl⟩
    have hge := geD hb hkB hi
    subst hge
    refine awp_exit ?_
    rw [List.take_length, ← hgv]
    have hil2 : g.length + w.length + bs.length = (g ++ gvs f s bs).length := by rw [hgv]; simp [Nat.add_assoc]
    rw [hil2]
    generalize g ++ gvs f s bs = ins at hil ⊢
    refine AWp.sub (Sub.freeze (id := 36) rfl) ?_
    refine awp_seq (awp_seq (ag [] rfl ?_))
    refine awp_block ?_
    have hfl := fun (l : List Core) => fRk_len l (fun x => decide (x ∈ ins)) out
    refine awp_loop (fun i : Nat => mk [(2, outV (fRk (ks.take i) (fun x => decide (x ∈ ins)) out)), (3, .one (.vp 3 0)), (7, .one (.hs 36 0 ins.length ins.length)), (9, I .i64 i)] [(3, .var 38 (cellsC (.mk f n s t ks bs al))), (36, .arr 9 1 (ins.map encS) 2), (900, outO (fRk (ks.take i) (fun x => decide (x ∈ ins)) out))]) (fun i => i ≤ ks.length) (fun i => ks.length - i) 0 (Nat.zero_le _) (by rw [List.take_zero, fRk]; exact sl) ?_
    intro i hi
    refine awp_seq (awp_seq (ag [] rfl ?_))
    refine awp_cond rfl (fun hb => ?_) (fun hb => ?_)
    · have hlt := ltD hb hkK
      obtain ⟨k, hki⟩ := get_of_lt hlt
      have hki' := encCores_at hki
      have hst : fRk (ks.take (i + 1)) (fun x => decide (x ∈ ins)) out = fR k (fun x => decide (x ∈ ins)) (fRk (ks.take i) (fun x => decide (x ∈ ins)) out) := by
        rw [fRk_fold, fRk_fold, fold_step _ _ hki]
      have h1 := csizes_take_mem hki
      have h2 := hfl (ks.take i)
      have hc := ih k (ihk k (List.mem_of_getElem? hki)) ins (fRk (ks.take i) (fun x => decide (x ∈ ins)) out) (by omega)
      refine awp_skip ?_
      refine awp_seq (awp_block ?_)
      refine awp_rg mixed ?_
      refine ak 7 [(3, .row i (encCore k))] rfl ?_
      refine kc hc ?_
      refine ak 1 [] rfl ?_
      refine az ?_
      refine ag [] rfl ?_
      refine ⟨i + 1, hlt, by dsimp only; omega, ?_⟩
      dsimp only
      rw [hst]
      exact sl
    have hge := geD hb hkK hi
    subst hge
    refine awp_exit ?_
    rw [List.take_length]
    have hk1 := hfl ks
    generalize fRk ks (fun x => decide (x ∈ ins)) out = oK at hk1
    refine awp_seq (awp_seq (ag [] rfl ?_))
    refine awp_block ?_
    have hfl := fun (l : List Bind) => fRb_len l (fun x => decide (x ∈ ins)) oK
    refine awp_loop (fun i : Nat => mk [(2, outV (fRb (bs.take i) (fun x => decide (x ∈ ins)) oK)), (3, .one (.vp 3 0)), (7, .one (.hs 36 0 ins.length ins.length)), (10, I .i64 i)] [(3, .var 38 (cellsC (.mk f n s t ks bs al))), (36, .arr 9 1 (ins.map encS) 2), (900, outO (fRb (bs.take i) (fun x => decide (x ∈ ins)) oK))]) (fun i => i ≤ bs.length) (fun i => bs.length - i) 0 (Nat.zero_le _) (by rw [List.take_zero, fRb]; exact sl) ?_
    intro i hi
    refine awp_seq (awp_seq (ag [] rfl ?_))
    refine awp_cond rfl (fun hb => ?_) (fun hb => ?_)
    · have hlt := ltD hb hkB
      obtain ⟨b, hbi⟩ := get_of_lt hlt
      have hbi' := encBinds_at hbi
      have hst : fRb (bs.take (i + 1)) (fun x => decide (x ∈ ins)) oK = fR b.body (fun x => decide (x ∈ ins)) (fRb (bs.take i) (fun x => decide (x ∈ ins)) oK) := by
        rw [fRb_fold, fRb_fold, fold_step _ _ hbi]
      have h1 := bsizes_take_mem hbi
      have h2 := hfl (bs.take i)
      have h3 : csize b.body ≤ bsize b := by obtain ⟨s', t', c'⟩ := b; rw [bsize]; show csize c' ≤ _; omega
      have hbl3 := bsizes_len (bs.take i)
      rw [List.length_take] at hbl3
      have hc := ih b.body (ihb b (List.mem_of_getElem? hbi)) ins (fRb (bs.take i) (fun x => decide (x ∈ ins)) oK) (by omega)
      refine awp_skip ?_
      refine awp_seq (awp_block ?_)
      refine awp_rg mixed ?_
      refine ak 8 [(3, .row i (encBind b))] rfl ?_
      refine kc hc ?_
      refine ak 1 [] rfl ?_
      refine az ?_
      refine ag [] rfl ?_
      refine ⟨i + 1, hlt, by dsimp only; omega, ?_⟩
      dsimp only
      rw [hst]
      exact sl
    have hge := geD hb hkB hi
    subst hge
    refine awp_exit ?_
    rw [List.take_length]
    have hb1 := hfl bs
    generalize fRb bs (fun x => decide (x ∈ ins)) oK = oB at hb1
    refine awp_seq (awp_seq (ag [] rfl ?_))
    refine awp_block ?_
    have hfl := fun (l : List Alt) => fRa_len l (fun x => decide (x ∈ ins)) oB
    refine awp_loop (fun i : Nat => mk [(2, outV (fRa (al.take i) (fun x => decide (x ∈ ins)) oB)), (3, .one (.vp 3 0)), (7, .one (.hs 36 0 ins.length ins.length)), (11, I .i64 i)] [(3, .var 38 (cellsC (.mk f n s t ks bs al))), (36, .arr 9 1 (ins.map encS) 2), (900, outO (fRa (al.take i) (fun x => decide (x ∈ ins)) oB))]) (fun i => i ≤ al.length) (fun i => al.length - i) 0 (Nat.zero_le _) (by rw [List.take_zero, fRa]; exact sl) ?_
    intro i hi
    refine awp_seq (awp_seq (ag [] rfl ?_))
    refine awp_cond rfl (fun hb => ?_) (fun hb => ?_)
    · have hlt := ltD hb hkA
      obtain ⟨a, hai⟩ := get_of_lt hlt
      have hai' := encAlts_at hai
      have hst : fRa (al.take (i + 1)) (fun x => decide (x ∈ ins)) oB = fR a.body (fun x => decide (x ∈ ins ++ a.vars)) (fRa (al.take i) (fun x => decide (x ∈ ins)) oB) := by
        rw [fRa_fold, fRa_fold, fold_step _ _ hai, memG]
      have h1 := asizes_take_mem hai
      have h2 := hfl (al.take i)
      have h3 : csize a.body + a.vars.length ≤ asize a := by obtain ⟨f', n', s', v', c'⟩ := a; rw [asize]; show csize c' + v'.length ≤ _; have := vsum_len v'; omega
      have hc := ih a.body (iha a (List.mem_of_getElem? hai)) (ins ++ a.vars) (fRa (al.take i) (fun x => decide (x ∈ ins)) oB) (by rw [List.length_append]; omega)
      refine awp_skip ?_
      refine awp_seq (awp_block ?_)
      refine awp_seq (ag [] rfl ?_)
      refine awp_seq (ag [(2, .all)] rfl ?_)
      refine awp_rg mixed ?_
      refine ak 15 [(3, .row i (encAlt a)), (10, .row i (encAlt a)), (13, .fz)] rfl ?_
      refine kc hc ?_
      refine ak 1 [] rfl ?_
      refine az ?_
      refine ag [] rfl ?_
      refine ⟨i + 1, hlt, by dsimp only; omega, ?_⟩
      dsimp only
      rw [hst]
      exact sl
    have hge := geD hb hkA hi
    subst hge
    refine awp_exit ?_
    rw [List.take_length]
    refine awp_seq (ag [] rfl ?_)
    exact awp_ret rtT
theorem c_fr : ∀ (n : Nat) (c : Core), csize c ≤ n → FrSpec c
  | 0, c, h => by have := csize_pos c; omega
  | n + 1, c, h => c_fr_step c fun x hx => c_fr n x (by omega)
end Go.Proofs.YtojcjjjpniimiaaDoor

/- SMALL FUNCTIONS of the references: names put together, a chain, digits, what params are called. -/
namespace Go.Proofs.YtojcjjjpniimiaaDoor
open Go Go.AM
set_option maxRecDepth 20000

theorem c_Free18 (c : Core) (h : csize c ≤ 400000) : ImpC Tryd.prog 26 [.pa (encCore c)] [] (strsV (fR c (fun _ => false) [])) [] := by
  have h0 := c_fr _ c (Nat.le_refl _) [] [] (by simp; omega)
  have h1 := ImpC.nilArg (pre := [.pa (encCore c), strsV []]) (post := []) (hin := []) h0 rfl
  have h2 := h1.plain (by simp)
  refine impC (n := 5) tok Tryd.func26 rfl rfl rfl ?_
  refine awp_seq (ag [] rfl ?_)
  refine awp_seq (awp_rg mixed ?_)
  refine ak 1 [] rfl ?_
  refine kc h2 ?_
  refine ak 1 [] rfl ?_
  refine az ?_
  exact awp_ret rtT

theorem c_with (a b : List Str) (h : a.length + b.length ≤ 8000000) : ImpC Tryd.prog 40 [strsV a, strsV b] [] (strsV (a ++ b)) [] := by
  refine impC (n := 12) tok Tryd.func40 rfl rfl rfl ?_
  refine awp_seq (ag [] rfl ?_)
  refine awp_seq (ag [] rfl ?_)
  refine awp_seq (ag [] rfl ?_)
  refine awp_seq (ag [] rfl ?_)
  refine AWp.sub (Sub.freeze (id := 8) rfl) ?_
  exact awp_ret (rtT (hc := hs_all rfl rfl (by simp) (by simp)))

theorem c_gives (c : Core) (hsz : csize c ≤ 4000000) : ImpC Tryd.prog 56 [.pa (encCore c)] [] (strsV (gvs c.form c.name c.binds)) [] := by
  obtain ⟨f, n, s, t, ks, bs, al⟩ := c
  rw [csize] at hsz
  have hbl := bsizes_len bs
  refine impC (n := 30) tok Tryd.func56 rfl rfl rfl ?_
  refine awp_seq (ag [] rfl ?_)
  refine awp_seq (ag [] rfl ?_)
  refine AWp.sub (Sub.own (t := 3) (id := 500) 9 1 rfl rfl) ?_
  have hE1 : (if f = 5 then [s] else []).length ≤ 1 := by split <;> simp
  refine awp_seq (AWp.cut (mk [(1, .one (.vp 1 0)), (3, .one (.hs 500 0 (if f = 5 then [s] else []).length (if f = 5 then [s] else []).length))] [(1, .var 38 (cellsC (.mk f n s t ks bs al))), (500, .arr 9 1 ((if f = 5 then [s] else []).map encS) 0)]) ?_ ?_)
  · refine awp_seq (ag [] rfl ?_)
    refine awp_cond rfl (fun hb => ?_) (fun hb => ?_)
    · have h5 : f = 5 := of_decide_eq_true hb
      rw [if_pos h5]
      exact ag [] rfl sl
    · have h5 : ¬ f = 5 := of_decide_eq_false hb
      rw [if_neg h5]
      exact awp_skip sl
  have hgv : gvs f s bs = (if f = 5 then [s] else []) ++ bs.map Bind.name := rfl
  show AM.Then _ _ _ _ _ _ _ _
  rw [show gvs (Core.form (.mk f n s t ks bs al)) (Core.name (.mk f n s t ks bs al)) (Core.binds (.mk f n s t ks bs al)) = gvs f s bs from rfl]
  generalize (if f = 5 then [s] else []) = w at hE1 hgv ⊢
  have hkB : (encBinds bs).length = bs.length := by rw [encBinds_map, List.length_map]
  refine awp_seq (awp_seq (ag [] rfl ?_))
  refine awp_block ?_
  refine awp_loop (fun i : Nat => mk [(1, .one (.vp 1 0)), (3, .one (.hs 500 0 (w.length + i) (w.length + i))), (4, I .i64 i)] [(1, .var 38 (cellsC (.mk f n s t ks bs al))), (500, .arr 9 1 ((w ++ (bs.take i).map Bind.name).map encS) 0)]) (fun i => i ≤ bs.length) (fun i => bs.length - i) 0 (Nat.zero_le _) sl ?_
  intro i hi
  refine awp_seq (awp_seq (ag [] rfl ?_))
  refine awp_cond rfl (fun hb => ?_) (fun hb => ?_)
  · have hlt := ltD hb hkB
    obtain ⟨b, hbi⟩ := get_of_lt hlt
    have hbi' := encBinds_at hbi
    have hrows : (w ++ (bs.take i).map Bind.name).map encS ++ [[.str b.name]] = (w ++ (bs.take (i + 1)).map Bind.name).map encS := by
      rw [take_step hbi]; simp [encS]
    refine awp_skip ?_
    refine awp_seq (awp_block ?_)
    refine ag [(4, .row i (encBind b))] rfl ?_
    refine ag [] rfl ?_
    exact ⟨i + 1, hlt, by dsimp only; omega, sl⟩
  have hge := geD hb hkB hi
  subst hge
  refine awp_exit ?_
  rw [List.take_length, ← hgv]
  refine awp_seq (ag [] rfl ?_)
  refine AWp.sub (Sub.freeze (id := 500) rfl) ?_
  exact awp_ret (rtT (hc := hs_all rfl rfl (by rw [hgv]; simp) rfl))

theorem c_sameTexts (a b : List Str) (h : a.length ≤ 8000000) : ImpC Tryd.prog 50 [strsV a, strsV b] [] (B (decide (a = b))) [] := by
  refine impC (n := 26) tok Tryd.func50 rfl rfl rfl ?_
  refine awp_seq (ag [] rfl ?_)
  refine awp_seq (awp_seq (ag [] rfl ?_))
  refine awp_cond rfl (fun hb => ?_) (fun hb => ?_)
  · have hne : ¬ a = b := by
      rintro rfl
      simp at hb
    refine awp_seq (ag [] rfl ?_)
    rw [decide_eq_false hne]
    exact awp_ret rtT
  · have hlen : a.length = b.length := by
      have : (a.length : Int) = (b.length : Int) := by simpa using hb
      omega
    refine awp_skip ?_
    refine awp_seq (awp_seq (ag [] rfl ?_))
    refine awp_block ?_
    have hka : (a.map encS).length = a.length := List.length_map _
    refine awp_loop (fun i : Nat => mk [(0, strsV a), (1, strsV b), (5, I .i64 i)] []) (fun i => i ≤ a.length ∧ a.take i = b.take i) (fun i => a.length - i) 0 ⟨Nat.zero_le _, by simp⟩ sl ?_
    intro i ⟨hi, he⟩
    refine awp_seq (awp_seq (ag [] rfl ?_))
    refine awp_cond rfl (fun hb => ?_) (fun hb => ?_)
    · have hlt := ltD hb hka
      obtain ⟨x, hx⟩ := get_of_lt hlt
      obtain ⟨y, hy⟩ := get_of_lt (show i < b.length by omega)
      have hx' := getEnc encS hx
      have hy' := getEnc encS hy
      refine awp_skip ?_
      refine awp_seq (awp_block ?_)
      refine awp_seq (ag [(2, .row i (encS x)), (6, .row i (encS y))] rfl ?_)
      refine awp_cond rfl (fun hb => ?_) (fun hb => ?_)
      · have hxy : ¬ x = y := by simpa using hb
        have hne : ¬ a = b := by
          rintro rfl
          rw [hx] at hy
          exact hxy (Option.some.inj hy)
        rw [decide_eq_false hne]
        refine awp_seq (ag [] rfl ?_)
        exact awp_ret rtT
      · have hxy : x = y := by simpa using hb
        refine awp_skip ?_
        refine ag [] rfl ?_
        refine ⟨i + 1, ⟨hlt, ?_⟩, by dsimp only; omega, sl⟩
        rw [take_step hx, take_step hy, he, hxy]
    · have hge := geD hb hka hi
      have hab : a = b := by
        have := he
        rw [hge, List.take_length, List.take_of_length_le (by omega)] at this
        exact this
      refine awp_exit ?_
      rw [decide_eq_true hab]
      refine awp_seq (ag [] rfl ?_)
      exact awp_ret (rtT (hc := .refl))
end Go.Proofs.YtojcjjjpniimiaaDoor

/- DIGITS, a chain, what params are called: the walks. -/
namespace Go.Proofs.YtojcjjjpniimiaaDoor
open Go Go.AM
set_option maxRecDepth 20000

theorem digits_more : ∀ (f n : Nat), n < 10 ^ (f + 1) → digits (f + 2) n = digits (f + 1) n
  | 0, n, h => by
    have : n < 10 := by simpa using h
    rw [digits_succ 1 n, digits_succ 0 n, if_pos this, if_pos this]
  | f + 1, n, h => by
    rw [digits_succ (f + 2) n, digits_succ (f + 1) n]
    split
    · rfl
    · have e : (10 : Nat) ^ (f + 1 + 1) = 10 ^ (f + 1) * 10 := Nat.pow_succ ..
      rw [digits_more f (n / 10) (by omega)]
theorem dec_eq (n : Nat) (h : n < 1000000000000000000) : dec n = if n < 10 then [UInt8.ofNat (48 + n)] else dec (n / 10) ++ [UInt8.ofNat (48 + n % 10)] := by
  unfold dec
  rw [digits_succ 19 n]
  split
  · rfl
  · rw [← digits_more 18 (n / 10) (Nat.lt_of_lt_of_le (show n / 10 < 1000000000000000000 by omega) (by decide))]
theorem dec_len (n : Nat) : (dec n).length ≤ 20 := by
  unfold dec
  have : ∀ f n, (digits f n).length ≤ f := by
    intro f
    induction f with
    | zero => intro n; simp [digits]
    | succ f ih =>
      intro n
      rw [digits_succ]
      split
      · simp
      · have := ih (n / 10); simp; omega
  exact this 20 n

theorem wrap_digit (n : Nat) : UInt8.ofNat (IntKind.u8.wrap ((48 + n % 10 : Nat) : Int)).toNat = UInt8.ofNat (48 + n % 10) := by
  have h : n % 10 < 10 := Nat.mod_lt _ (by omega)
  have : IntKind.u8.wrap ((48 + n % 10 : Nat) : Int) = ((48 + n % 10 : Nat) : Int) := by
    simp [IntKind.wrap, IntKind.signed, IntKind.bits]
    omega
  rw [this]
  rfl
theorem c_dec (n : Nat) : n < 1000000000000000000 → ImpC Tryd.prog 55 [I .i64 (n : Int)] [] (Go.AM.T (dec n)) [] := by
  induction n using Nat.strongRecOn with
  | ind n ih =>
    intro hn
    refine impC (n := 32) tok Tryd.func55 rfl rfl rfl ?_
    refine awp_seq (ag [] rfl ?_)
    refine awp_seq (agN [] rfl ?_)
    refine awp_seq (awp_seq (ag [] rfl ?_))
    refine awp_cond rfl (fun hb => ?_) (fun hb => ?_)
    · exfalso
      have : ((n % 10 : Nat) : Int) < 0 := by simpa using hb
      omega
    · refine awp_skip ?_
      refine awp_seq (agN [] rfl ?_)
      refine AWp.sub (st2 := mk [(0, I .i64 (n : Int)), (4, Go.AM.T [UInt8.ofNat (48 + n % 10)])] []) (.list (fun i => i) ⟨rfl, ?_, trivial⟩ trivial rfl) ?_
      · show some (V.one (R.c (C.str [UInt8.ofNat (IntKind.u8.wrap ((48 + n % 10 : Nat) : Int)).toNat]))) = _
        rw [wrap_digit]
        rfl
      refine awp_seq (awp_seq (agF 3 [] rfl rfl rfl ?_))
      refine awp_cond rfl (fun hb => ?_) (fun hb => ?_)
      · have hlt : n < 10 := by
          simp at hb
          omega
        refine awp_seq (awp_seq (ag [] rfl ?_))
        refine awp_cond rfl (fun hb => ?_) (fun hb => ?_)
        · exfalso
          have : (n : Int) < 0 := by simpa using hb
          omega
        · refine awp_skip ?_
          refine awp_seq (ag [] rfl ?_)
          rw [dec_eq n hn, if_pos hlt]
          rw [Nat.mod_eq_of_lt hlt]
          exact awp_ret (rtT (hc := .refl))
      · have hge : ¬ n < 10 := by
          intro hlt
          simp at hb
          omega
        have hc := ih (n / 10) (by omega) (by omega)
        have hl := dec_len (n / 10)
        have hM : 1000000000 ≤ maxLen := by decide
        refine awp_skip ?_
        refine awp_seq (awp_rg mixed ?_)
        refine akN 2 [] rfl ?_
        refine kc hc ?_
        refine ak 3 [] rfl ?_
        refine az ?_
        rw [dec_eq n hn, if_neg hge]
        exact awp_ret (rtT (hc := .refl))

/-- A chain: core that has a body wherever it is a lambda. -/
def lamOk : Core → Bool
  | .mk f _ _ _ ks _ _ => if f = 5 then (match ks with | [] => false | k :: _ => lamOk k) else true
theorem c_chain (c : Core) (hl : lamOk c = true) (hs : csize c ≤ 4000000) : ImpC Tryd.prog 23 [.pa (encCore c)] [] (.tup [strsV (chainN c), .pa (encCore (chainB c))]) [] := by
  refine impC (n := 19) tok Tryd.func23 rfl rfl rfl ?_
  refine awp_seq (ag [] rfl ?_)
  refine awp_seq (ag [] rfl ?_)
  refine AWp.sub (Sub.own (t := 4) (id := 500) 9 1 rfl rfl) ?_
  refine awp_seq (awp_block ?_)
  refine awp_loop (fun x : List Str × Core => mk [(1, .one (.vp 1 0)), (3, .one (.vp 3 0)), (4, .one (.hs 500 0 x.1.length x.1.length))] [(1, .var 38 (cellsC x.2)), (3, .var 38 zCells), (500, .arr 9 1 (x.1.map encS) 0)]) (fun x => lamOk x.2 = true ∧ chainN c = x.1 ++ chainN x.2 ∧ chainB c = chainB x.2 ∧ x.1.length + csize x.2 ≤ csize c) (fun x => csize x.2) ([], c) ⟨hl, rfl, rfl, by simp⟩ sl ?_
  rintro ⟨pre, f, n, s, t, ks, bs, al⟩ ⟨h1, h2, h3, h4⟩
  dsimp only at h1 h2 h3 h4 ⊢
  refine awp_seq (awp_seq (ag [] rfl ?_))
  refine awp_cond rfl (fun hb => ?_) (fun hb => ?_)
  · have hf : f = 5 := of_decide_eq_true hb
    refine awp_skip ?_
    cases ks with
    | nil => simp [lamOk, hf] at h1
    | cons k ks =>
      rw [lamOk, if_pos hf] at h1
      rw [chainN, if_pos hf, chainNs] at h2
      rw [chainB, if_pos hf, chainBs] at h3
      rw [csize, csizes] at h4
      refine awp_block ?_
      refine awp_seq (ag [] rfl ?_)
      refine ag [(2, .row 0 (encCore k))] rfl ?_
      refine ⟨(pre ++ [s], k), ⟨h1, by rw [h2]; simp, h3, by simp; omega⟩, by dsimp only; rw [csize, csizes]; omega, sl⟩
  · have hf : ¬ f = 5 := of_decide_eq_false hb
    rw [chainN, if_neg hf, List.append_nil] at h2
    rw [chainB, if_neg hf] at h3
    rw [h2, h3]
    refine awp_exit ?_
    refine awp_seq (ag [] rfl ?_)
    refine AWp.sub (Sub.freeze (id := 500) rfl) ?_
    refine awp_ret ?_
    exact ⟨.inr rfl, ⟨_, _, .tmp rfl (.cell rfl (tg rfl) rfl rfl rfl .nil), .cons (hs_all rfl rfl (by simp) rfl) (.cons .refl .nil), rfl⟩, trivial, rfl⟩
end Go.Proofs.YtojcjjjpniimiaaDoor

/- WHAT IS FREE OF THOSE AROUND (the reference of layer 25): the walk; what params are called. -/
namespace Go.Proofs.YtojcjjjpniimiaaDoor
open Go Go.AM
set_option maxRecDepth 20000

def FeSpec (c : Core) : Prop := ∀ ar g out : List Str, ar.length ≤ 1000000 → 2 * csize c + g.length + out.length ≤ 1000000 → ImpC Tryd.prog 54 [.pa (encCore c), strsV ar, strsV g, outV out] [(900, outO out)] (outV (freeR (fun s => decide (s ∈ ar)) c (fun s => decide (s ∈ g)) out)) [(900, outO (freeR (fun s => decide (s ∈ ar)) c (fun s => decide (s ∈ g)) out))]

theorem c_fe_step (c : Core) (ih : ∀ x, csize x < csize c → FeSpec x) : FeSpec c := by
  intro ar g out har hsz
  obtain ⟨f, n, s, t, ks, bs, al⟩ := c
  obtain ⟨ihk, ihb, iha, hkl, hbl, hal⟩ := @size_in f n s t ks bs al
  have hA := c_has ar s (by unfold Fits; omega)
  have hg := c_has g s (by unfold Fits; omega)
  have ho := c_has out s (by unfold Fits; omega)
  have hgi := c_gives (.mk f n s t ks bs al) (by omega)
  have hwi := c_with g (gvs f s bs) (by
    have : (gvs f s bs).length ≤ 1 + bs.length := by
      unfold gvs; rw [List.length_append, List.length_map]; split <;> simp
    omega)
  have hsz2 := hsz
  rw [csize] at hsz2
  have hbl2 := bsizes_len bs
  refine impC (n := 102) tok Tryd.func54 rfl rfl rfl ?_
  refine awp_seq (ag [] rfl ?_)
  refine awp_seq (awp_seq (ag [] rfl ?_))
  generalize hAd : (fun s => decide (s ∈ ar)) = A at ih ⊢
  refine awp_cond rfl (fun hb => ?_) (fun hb => ?_)
  · have hf : f = 1 := of_decide_eq_true hb
    have hr : freeR A (.mk f n s t ks bs al) (fun s => decide (s ∈ g)) out = if A s && !decide (s ∈ g) && !decide (s ∈ out) then out ++ [s] else out := by rw [freeR, if_pos hf]
    rw [hr, show A s = decide (s ∈ ar) by rw [← hAd]]
    refine AWp.sub (Sub.freeze (id := 900) rfl) ?_
    refine awp_seq (awp_seq (agF 5 [(3, .pc (B (decide (s ∈ ar)))), (8, .pc (B (decide (s ∈ g)))), (15, .pc (B (decide (s ∈ out))))] rfl rfl rfl ?_))
    refine awp_cond rfl (fun hb => ?_) (fun hb => ?_)
    · have hm : (decide (s ∈ ar) && !decide (s ∈ g) && !decide (s ∈ out)) = true := by
        cases h0 : decide (s ∈ ar) <;> cases h1 : decide (s ∈ g) <;> cases h2 : decide (s ∈ out) <;> simp [h0, h1, h2] at hb ⊢
      rw [if_pos hm]
      refine ag [] rfl ?_
      refine awp_seq (ag [] rfl ?_)
      refine AWp.sub (st2 := mk [(8, outV (out ++ [s]))] [(900, outO (out ++ [s]))]) sl ?_
      exact awp_ret rtT
    · have hm : ¬ (decide (s ∈ ar) && !decide (s ∈ g) && !decide (s ∈ out)) = true := by
        cases h0 : decide (s ∈ ar) <;> cases h1 : decide (s ∈ g) <;> cases h2 : decide (s ∈ out) <;> simp [h0, h1, h2] at hb ⊢
      rw [if_neg hm]
      refine awp_skip ?_
      refine awp_seq (ag [] rfl ?_)
      exact awp_ret rtT
  · have hf : ¬ f = 1 := of_decide_eq_false hb
    rw [show freeR A (.mk f n s t ks bs al) (fun s => decide (s ∈ g)) out = freeAs A al (fun x => decide (x ∈ g ++ gvs f s bs)) (freeCs A ks (fun x => decide (x ∈ g ++ gvs f s bs)) (freeBs A bs (fun x => decide (x ∈ g ++ gvs f s bs)) out)) by rw [freeR, if_neg hf, memG]]
    refine awp_skip ?_
    refine awp_seq (ag [(2, .pc (strsV (gvs f s bs))), (3, .pc (strsV (g ++ gvs f s bs)))] rfl ?_)
    have hil : (g ++ gvs f s bs).length ≤ g.length + 1 + bs.length := by
      have : (gvs f s bs).length ≤ 1 + bs.length := by
        unfold gvs; rw [List.length_append, List.length_map]; split <;> simp
      rw [List.length_append]; omega
    have hkB : (encBinds bs).length = bs.length := by rw [encBinds_map, List.length_map]
    have hkK : (encCores ks).length = ks.length := by rw [encCores_map, List.length_map]
    have hkA : (encAlts al).length = al.length := by rw [encAlts_map, List.length_map]
    generalize g ++ gvs f s bs = ins at hil ⊢
    refine awp_seq (awp_seq (ag [] rfl ?_))
    refine awp_block ?_
    have hfl := fun (l : List Bind) => freeBs_len A l (fun x => decide (x ∈ ins)) out
    refine awp_loop (fun i : Nat => mk [(1, strsV ar), (3, outV (freeBs A (bs.take i) (fun x => decide (x ∈ ins)) out)), (4, .one (.vp 4 0)), (9, strsV ins), (10, I .i64 i)] [(4, .var 38 (cellsC (.mk f n s t ks bs al))), (900, outO (freeBs A (bs.take i) (fun x => decide (x ∈ ins)) out))]) (fun i => i ≤ bs.length) (fun i => bs.length - i) 0 (Nat.zero_le _) (by rw [List.take_zero, freeBs]; exact sl) ?_
    intro i hi
    refine awp_seq (awp_seq (ag [] rfl ?_))
    refine awp_cond rfl (fun hb => ?_) (fun hb => ?_)
    · have hlt := ltD hb hkB
      obtain ⟨b, hbi⟩ := get_of_lt hlt
      have hbi' := encBinds_at hbi
      have hst : freeBs A (bs.take (i + 1)) (fun x => decide (x ∈ ins)) out = freeR A b.body (fun x => decide (x ∈ ins)) (freeBs A (bs.take i) (fun x => decide (x ∈ ins)) out) := by
        rw [freeBs_fold, freeBs_fold, fold_step _ _ hbi]
      have h1 := bsizes_take_mem hbi
      have h2 := hfl (bs.take i)
      have h3 : csize b.body ≤ bsize b := by obtain ⟨s', t', c'⟩ := b; rw [bsize]; show csize c' ≤ _; omega
      have hbl3 := bsizes_len (bs.take i)
      rw [List.length_take] at hbl3
      have hc := ih b.body (ihb b (List.mem_of_getElem? hbi)) ar ins (freeBs A (bs.take i) (fun x => decide (x ∈ ins)) out) har (by omega)
      rw [hAd] at hc
      refine awp_skip ?_
      refine awp_seq (awp_block ?_)
      refine awp_rg mixed ?_
      refine ak 9 [(3, .row i (encBind b))] rfl ?_
      refine kc hc ?_
      refine ak 1 [] rfl ?_
      refine az ?_
      refine ag [] rfl ?_
      refine ⟨i + 1, hlt, by dsimp only; omega, ?_⟩
      dsimp only
      rw [hst]
      exact sl
    have hge := geD hb hkB hi
    subst hge
    refine awp_exit ?_
    rw [List.take_length]
    have hb1 := hfl bs
    generalize freeBs A bs (fun x => decide (x ∈ ins)) out = oB at hb1
    refine awp_seq (awp_seq (ag [] rfl ?_))
    refine awp_block ?_
    have hfl := fun (l : List Core) => freeCs_len A l (fun x => decide (x ∈ ins)) oB
    refine awp_loop (fun i : Nat => mk [(1, strsV ar), (3, outV (freeCs A (ks.take i) (fun x => decide (x ∈ ins)) oB)), (4, .one (.vp 4 0)), (9, strsV ins), (11, I .i64 i)] [(4, .var 38 (cellsC (.mk f n s t ks bs al))), (900, outO (freeCs A (ks.take i) (fun x => decide (x ∈ ins)) oB))]) (fun i => i ≤ ks.length) (fun i => ks.length - i) 0 (Nat.zero_le _) (by rw [List.take_zero, freeCs]; exact sl) ?_
    intro i hi
    refine awp_seq (awp_seq (ag [] rfl ?_))
    refine awp_cond rfl (fun hb => ?_) (fun hb => ?_)
    · have hlt := ltD hb hkK
      obtain ⟨k, hki⟩ := get_of_lt hlt
      have hki' := encCores_at hki
      have hst : freeCs A (ks.take (i + 1)) (fun x => decide (x ∈ ins)) oB = freeR A k (fun x => decide (x ∈ ins)) (freeCs A (ks.take i) (fun x => decide (x ∈ ins)) oB) := by
        rw [freeCs_fold, freeCs_fold, fold_step _ _ hki]
      have h1 := csizes_take_mem hki
      have h2 := hfl (ks.take i)
      have hc := ih k (ihk k (List.mem_of_getElem? hki)) ar ins (freeCs A (ks.take i) (fun x => decide (x ∈ ins)) oB) har (by omega)
      rw [hAd] at hc
      refine awp_skip ?_
      refine awp_seq (awp_block ?_)
      refine awp_rg mixed ?_
      refine ak 8 [(3, .row i (encCore k))] rfl ?_
      refine kc hc ?_
      refine ak 1 [] rfl ?_
      refine az ?_
      refine ag [] rfl ?_
      refine ⟨i + 1, hlt, by dsimp only; omega, ?_⟩
      dsimp only
      rw [hst]
      exact sl
    have hge := geD hb hkK hi
    subst hge
    refine awp_exit ?_
    rw [List.take_length]
    have hk1 := hfl ks
    generalize freeCs A ks (fun x => decide (x ∈ ins)) oB = oK at hk1
    refine awp_seq (awp_seq (ag [] rfl ?_))
    refine awp_block ?_
    have hfl := fun (l : List Alt) => freeAs_len A l (fun x => decide (x ∈ ins)) oK
    refine awp_loop (fun i : Nat => mk [(1, strsV ar), (3, outV (freeAs A (al.take i) (fun x => decide (x ∈ ins)) oK)), (4, .one (.vp 4 0)), (9, strsV ins), (12, I .i64 i)] [(4, .var 38 (cellsC (.mk f n s t ks bs al))), (900, outO (freeAs A (al.take i) (fun x => decide (x ∈ ins)) oK))]) (fun i => i ≤ al.length) (fun i => al.length - i) 0 (Nat.zero_le _) (by rw [List.take_zero, freeAs]; exact sl) ?_
    intro i hi
    refine awp_seq (awp_seq (ag [] rfl ?_))
    refine awp_cond rfl (fun hb => ?_) (fun hb => ?_)
    · have hlt := ltD hb hkA
      obtain ⟨a, hai⟩ := get_of_lt hlt
      have hai' := encAlts_at hai
      have hst : freeAs A (al.take (i + 1)) (fun x => decide (x ∈ ins)) oK = freeR A a.body (fun x => decide (x ∈ ins ++ a.vars)) (freeAs A (al.take i) (fun x => decide (x ∈ ins)) oK) := by
        rw [freeAs_fold, freeAs_fold, fold_step _ _ hai, memG]
      have h1 := asizes_take_mem hai
      have h2 := hfl (al.take i)
      have h3 : csize a.body + a.vars.length ≤ asize a := by obtain ⟨f', n', s', v', c'⟩ := a; rw [asize]; show csize c' + v'.length ≤ _; have := vsum_len v'; omega
      have hc := ih a.body (iha a (List.mem_of_getElem? hai)) ar (ins ++ a.vars) (freeAs A (al.take i) (fun x => decide (x ∈ ins)) oK) har (by rw [List.length_append]; omega)
      have hw := c_with ins a.vars (by omega)
      rw [hAd] at hc
      refine awp_skip ?_
      refine awp_seq (awp_block ?_)
      refine awp_rg mixed ?_
      refine ak 16 [(3, .row i (encAlt a)), (11, .row i (encAlt a)), (14, .pc (strsV (ins ++ a.vars)))] rfl ?_
      refine kc hc ?_
      refine ak 1 [] rfl ?_
      refine az ?_
      refine ag [] rfl ?_
      refine ⟨i + 1, hlt, by dsimp only; omega, ?_⟩
      dsimp only
      rw [hst]
      exact sl
    have hge := geD hb hkA hi
    subst hge
    refine awp_exit ?_
    rw [List.take_length]
    refine awp_seq (ag [] rfl ?_)
    exact awp_ret rtT
theorem c_fe : ∀ (n : Nat) (c : Core), csize c ≤ n → FeSpec c
  | 0, c, h => by have := csize_pos c; omega
  | n + 1, c, h => c_fe_step c fun x hx => c_fe n x (by omega)
theorem c_Free25 (c : Core) (ar : List Str) (ha : ar.length ≤ 1000000) (h : csize c ≤ 400000) : ImpC Tryd.prog 54 [.pa (encCore c), strsV ar, strsV [], .one (.c .nl)] [] (strsV (freeR (fun s => decide (s ∈ ar)) c (fun _ => false) [])) [] := by
  have h0 := c_fe _ c (Nat.le_refl _) ar [] [] ha (by simp; omega)
  exact (ImpC.nilArg (pre := [.pa (encCore c), strsV ar, strsV []]) (post := []) (hin := []) h0 rfl).plain (by simp)

theorem paramsTo_snoc (l : List Str) : ∀ (i k : Nat) (s : Str), l[i]? = some s → (paramsTo k l)[i]? = some (if s ∈ l.drop (i + 1) then s ++ [64, 112] ++ dec (k + i) else s) := by
  induction l with
  | nil => intro i k s h; simp at h
  | cons x l ih =>
    intro i k s h
    cases i with
    | zero =>
      simp only [List.getElem?_cons_zero, Option.some.injEq] at h
      subst h
      simp [paramsTo]
    | succ i =>
      have h' : l[i]? = some s := by simpa using h
      have := ih i (k + 1) s h'
      rw [paramsTo, List.getElem?_cons_succ, this]
      rw [show k + 1 + i = k + (i + 1) by omega]
      rfl
theorem paramsTo_len : ∀ (l : List Str) (k : Nat), (paramsTo k l).length = l.length
  | [], _ => rfl
  | _ :: l, k => by rw [paramsTo, List.length_cons, List.length_cons, paramsTo_len l]
theorem c_params25 (l : List Str) (hl : l.length ≤ 1000000) (hs : ∀ s ∈ l, s.length ≤ 1000000) : ImpC Tryd.prog 25 [strsV l] [] (strsV (paramsR l)) [] := by
  have hM : 1000000000 ≤ maxLen := by decide
  refine impC (n := 32) tok Tryd.func25 rfl rfl rfl ?_
  refine awp_seq (ag [] rfl ?_)
  refine awp_seq (ag [] rfl ?_)
  refine awp_seq (awp_seq (ag [] rfl ?_))
  refine AWp.sub (Sub.own (t := 3) (id := 500) 9 1 rfl rfl) ?_
  have hka : (l.map encS).length = l.length := List.length_map _
  refine awp_block ?_
  refine awp_loop (fun i : Nat => mk [(0, strsV l), (3, .one (.hs 500 0 i i)), (4, I .i64 i)] [(500, .arr 9 1 (((paramsR l).take i).map encS) 0)]) (fun i => i ≤ l.length) (fun i => l.length - i) 0 (Nat.zero_le _) sl ?_
  intro i hi
  have hpl : (paramsR l).length = l.length := paramsTo_len l 0
  have hrl : (((paramsR l).take i).map encS).length = i := by rw [List.length_map, List.length_take]; omega
  refine awp_seq (awp_seq (ag [] rfl ?_))
  refine awp_cond rfl (fun hb => ?_) (fun hb => ?_)
  · have hlt := ltD hb hka
    obtain ⟨s, hs'⟩ := get_of_lt hlt
    have hsr := getEnc encS hs'
    have hsl := hs s (List.mem_of_getElem? hs')
    have hp := paramsTo_snoc l i 0 s hs'
    rw [Nat.zero_add] at hp
    have hh := c_has (l.drop (i + 1)) s (by unfold Fits; rw [List.length_drop]; omega)
    have hd := c_dec i (by omega)
    have hdl := dec_len i
    have hrows := take_map1 encS hp
    have hh' : ImpC Tryd.prog 27 [.one (.c (.sl 1 ((l.map encS).drop (i + 1)))), Go.AM.T s] [] (B (decide (s ∈ l.drop (i + 1)))) [] := by rw [← List.map_drop]; exact hh
    refine awp_skip ?_
    refine awp_seq (awp_block ?_)
    refine awp_seq (ag [(2, .row i (encS s))] rfl ?_)
    refine awp_seq (AWp.cut (mk [(0, strsV l), (3, .one (.hs 500 0 i i)), (4, I .i64 i), (5, Go.AM.T (if s ∈ l.drop (i + 1) then s ++ [64, 112] ++ dec i else s))] [(500, .arr 9 1 (((paramsR l).take i).map encS) 0)]) ?_ ?_)
    · refine awp_seq (agN [(5, .pc (B (decide (s ∈ l.drop (i + 1)))))] rfl ?_)
      refine awp_cond rfl (fun hb => ?_) (fun hb => ?_)
      · have hm : s ∈ l.drop (i + 1) := of_decide_eq_true hb
        rw [if_pos hm]
        refine ag [(3, .pc (Go.AM.T (dec i)))] rfl ?_
        exact sl
      · have hm : ¬ s ∈ l.drop (i + 1) := of_decide_eq_false hb
        rw [if_neg hm]
        exact awp_skip sl
    refine ag [] rfl ?_
    refine ag [] rfl ?_
    exact ⟨i + 1, hlt, by dsimp only; omega, sl⟩
  have hge := geD hb hka hi
  subst hge
  refine awp_exit ?_
  rw [show (paramsR l).take l.length = paramsR l by rw [← hpl]; exact List.take_length]
  refine awp_seq (ag [] rfl ?_)
  refine AWp.sub (Sub.freeze (id := 500) rfl) ?_
  exact awp_ret (rtT (hc := hs_all rfl rfl (by rw [List.length_map]; exact hpl.symm) rfl))
end Go.Proofs.YtojcjjjpniimiaaDoor
