/-
  Texts Lp1, Lp2, Lp3, Lp4, Lp5 in one.
-/
import Derived.Test.YtojcjjjpniimiaaDoorM13
/- COMBINATORS, as the document says it: what is meant by the names that core gives, the free ones, a chain, what fits, what is lifted. -/
namespace Go.Proofs.YtojcjjjpniimiaaDoor
open Go Go.AM
set_option maxRecDepth 20000

/-- Names that are given, and some more. -/
def ext (G : Str → Bool) (l : List Str) : Str → Bool := fun s => G s || decide (s ∈ l)
theorem ext_nil (G : Str → Bool) : ext G [] = G := by funext s; simp [ext]
theorem ext_ext (G : Str → Bool) (a b : List Str) : ext (ext G a) b = ext G (a ++ b) := by funext s; simp [ext, Bool.or_assoc]
def gvs (f : Int) (s : Str) (bs : List Bind) : List Str := (if f = 5 then [s] else []) ++ bs.map Bind.name
mutual
/-- The names of those around that core leaves free, behind those that were met. -/
def freeR (A : Str → Bool) : Core → (Str → Bool) → List Str → List Str
  | .mk f _ s _ ks bs al, G, out =>
    if f = 1 then (if A s && !G s && !decide (s ∈ out) then out ++ [s] else out)
    else freeAs A al (ext G (gvs f s bs)) (freeCs A ks (ext G (gvs f s bs)) (freeBs A bs (ext G (gvs f s bs)) out))
def freeCs (A : Str → Bool) : List Core → (Str → Bool) → List Str → List Str
  | [], _, out => out
  | c :: l, G, out => freeCs A l G (freeR A c G out)
def freeBs (A : Str → Bool) : List Bind → (Str → Bool) → List Str → List Str
  | [], _, out => out
  | .mk _ _ c :: l, G, out => freeBs A l G (freeR A c G out)
def freeAs (A : Str → Bool) : List Alt → (Str → Bool) → List Str → List Str
  | [], _, out => out
  | .mk _ _ _ vs c :: l, G, out => freeAs A l G (freeR A c (ext G vs) out)
end
theorem freeCs_fold (A : Str → Bool) : ∀ (l : List Core) (G : Str → Bool) (out : List Str), freeCs A l G out = l.foldl (fun o c => freeR A c G o) out
  | [], _, _ => by rw [freeCs]; rfl
  | c :: l, G, out => by rw [freeCs, freeCs_fold A l]; rfl
theorem freeBs_fold (A : Str → Bool) : ∀ (l : List Bind) (G : Str → Bool) (out : List Str), freeBs A l G out = l.foldl (fun o c => freeR A c.body G o) out
  | [], _, _ => by rw [freeBs]; rfl
  | .mk _ _ c :: l, G, out => by rw [freeBs, freeBs_fold A l]; rfl
theorem freeAs_fold (A : Str → Bool) : ∀ (l : List Alt) (G : Str → Bool) (out : List Str), freeAs A l G out = l.foldl (fun o c => freeR A c.body (ext G c.vars) o) out
  | [], _, _ => by rw [freeAs]; rfl
  | .mk _ _ _ _ c :: l, G, out => by rw [freeAs, freeAs_fold A l]; rfl
theorem freeR_eq (A : Str → Bool) (c : Core) (G : Str → Bool) (out : List Str) : freeR A c G out = if c.form = 1 then (if A c.name && !G c.name && !decide (c.name ∈ out) then out ++ [c.name] else out)
    else freeAs A c.alts (ext G (gvs c.form c.name c.binds)) (freeCs A c.kids (ext G (gvs c.form c.name c.binds)) (freeBs A c.binds (ext G (gvs c.form c.name c.binds)) out)) := by
  cases c; rw [freeR]; rfl

mutual
/-- No lambda, no types, and no names but some. -/
def fitsR : Core → (Str → Bool) → Bool
  | .mk f _ s t ks bs al, G =>
    if f = 5 ∨ f = 7 ∨ f = 6 ∨ t.form ≠ 0 then false
    else if f = 1 then G s
    else fitsBs bs (ext G (gvs f s bs)) && (fitsCs ks (ext G (gvs f s bs)) && fitsAs al (ext G (gvs f s bs)))
def fitsCs : List Core → (Str → Bool) → Bool
  | [], _ => true
  | c :: l, G => fitsR c G && fitsCs l G
def fitsBs : List Bind → (Str → Bool) → Bool
  | [], _ => true
  | .mk _ t c :: l, G => (fitsR c G && decide (t.form = 0)) && fitsBs l G
def fitsAs : List Alt → (Str → Bool) → Bool
  | [], _ => true
  | .mk _ _ _ vs c :: l, G => fitsR c (ext G vs) && fitsAs l G
end
theorem fitsCs_all : ∀ (l : List Core) (G : Str → Bool), fitsCs l G = l.all fun c => fitsR c G
  | [], _ => by rw [fitsCs]; rfl
  | c :: l, G => by rw [fitsCs, fitsCs_all l]; rfl
theorem fitsBs_all : ∀ (l : List Bind) (G : Str → Bool), fitsBs l G = l.all fun c => fitsR c.body G && decide (c.ty.form = 0)
  | [], _ => by rw [fitsBs]; rfl
  | .mk _ _ c :: l, G => by rw [fitsBs, fitsBs_all l]; rfl
theorem fitsAs_all : ∀ (l : List Alt) (G : Str → Bool), fitsAs l G = l.all fun c => fitsR c.body (ext G c.vars)
  | [], _ => by rw [fitsAs]; rfl
  | .mk _ _ _ _ c :: l, G => by rw [fitsAs, fitsAs_all l]; rfl
theorem fitsR_eq (c : Core) (G : Str → Bool) : fitsR c G = if c.form = 5 ∨ c.form = 7 ∨ c.form = 6 ∨ c.ty.form ≠ 0 then false
    else if c.form = 1 then G c.name
    else fitsBs c.binds (ext G (gvs c.form c.name c.binds)) && (fitsCs c.kids (ext G (gvs c.form c.name c.binds)) && fitsAs c.alts (ext G (gvs c.form c.name c.binds))) := by
  cases c; rw [fitsR]; rfl

/-- Digits of a number. -/
def digits : Nat → Nat → Str
  | 0, _ => []
  | f + 1, n => if n < 10 then [UInt8.ofNat (48 + n)] else digits f (n / 10) ++ [UInt8.ofNat (48 + n % 10)]
def dec (n : Nat) : Str := digits 20 n

/-- Names, of which those that come again behind are called otherwise. -/
def paramsTo : Nat → List Str → List Str
  | _, [] => []
  | i, s :: l => (if s ∈ l then s ++ [64, 112] ++ dec i else s) :: paramsTo (i + 1) l
def paramsR (l : List Str) : List Str := paramsTo 0 l

structure Sup where
  name : Str
  params : List Str
  body : Core
def encSup (x : Sup) : List C := [.str x.name, .sl 1 (x.params.map encS)] ++ encCore x.body
def setBody : List Sup → Nat → Core → List Sup
  | [], _, _ => []
  | x :: l, 0, c => { x with body := c } :: l
  | x :: l, k + 1, c => x :: setBody l k c
def varC (s : Str) : Core := .mk 1 0 s zTy [] [] []
def appC (f a : Core) : Core := .mk 4 0 [] zTy [f, a] [] []
def appVars (c : Core) : List Str → Core
  | [] => c
  | s :: l => appVars (appC c (varC s)) l
def fname (of : Str) (k : Nat) : Str := of ++ [64, 102] ++ dec (k + 1)

mutual
/-- A chain's names. -/
def chainN : Core → List Str
  | .mk f _ s _ ks _ _ => if f = 5 then s :: chainNs ks else []
def chainNs : List Core → List Str
  | [] => []
  | c :: _ => chainN c
end
mutual
/-- Core without lambdas ('true': what stands behind a chain); the combinators that were made, behind those that there were. -/
def partR (of : Str) : Bool → Core → (Str → Bool) → List Sup → Core × List Sup
  | ch, .mk f n s t ks bs al, A, made =>
    if f = 5 then
      if ch then partK of ks A made
      else
        let free := freeR A (.mk f n s t ks bs al) (fun _ => false) []
        let all := free ++ (s :: chainNs ks)
        let r := partK of ks (fun x => decide (x ∈ all)) (made ++ [⟨fname of made.length, paramsR all, zCore⟩])
        (appVars (varC (fname of made.length)) free, setBody r.2 made.length r.1)
    else
      let rb := partBs of bs (ext A (gvs f s bs)) made
      let rk := partCs of ks (ext A (gvs f s bs)) rb.2
      let ra := partAs of al (ext A (gvs f s bs)) rk.2
      (.mk f n s t rk.1 rb.1 ra.1, ra.2)
def partK (of : Str) : List Core → (Str → Bool) → List Sup → Core × List Sup
  | [], _, made => (zCore, made)
  | c :: _, A, made => partR of true c A made
def partCs (of : Str) : List Core → (Str → Bool) → List Sup → List Core × List Sup
  | [], _, made => ([], made)
  | c :: l, A, made =>
    let r := partR of false c A made
    let q := partCs of l A r.2
    (r.1 :: q.1, q.2)
def partBs (of : Str) : List Bind → (Str → Bool) → List Sup → List Bind × List Sup
  | [], _, made => ([], made)
  | .mk s t c :: l, A, made =>
    let r := partR of false c A made
    let q := partBs of l A r.2
    (.mk s t r.1 :: q.1, q.2)
def partAs (of : Str) : List Alt → (Str → Bool) → List Sup → List Alt × List Sup
  | [], _, made => ([], made)
  | .mk f n s vs c :: l, A, made =>
    let r := partR of false c (ext A vs) made
    let q := partAs of l A r.2
    (.mk f n s vs r.1 :: q.1, q.2)
end
/-- A bind as combinators. -/
def liftB (b : Bind) : List Sup :=
  let r := partR b.name true b.body (fun x => decide (x ∈ chainN b.body)) []
  ⟨b.name, paramsR (chainN b.body), r.1⟩ :: r.2
def liftR (l : List Bind) : List Sup := l.flatMap liftB
/-- Names, no two the same. -/
def onceR : List Str → Bool
  | [] => true
  | s :: l => !decide (s ∈ l) && onceR l
def checkR (l : List Sup) : Bool := onceR (l.map (·.name)) && l.all fun x => onceR x.params && fitsR x.body (ext (fun s => decide (s ∈ l.map (·.name))) x.params)
def lamsR (c : Core) : List Str → Core
  | [] => c
  | s :: l => .mk 5 0 s zTy [lamsR c l] [] []
def bindsR (l : List Sup) : List Bind := l.map fun x => .mk x.name zTy (lamsR x.body x.params)
end Go.Proofs.YtojcjjjpniimiaaDoor

/- COMBINATORS (2): what is closed, what is free. -/
namespace Go.Proofs.YtojcjjjpniimiaaDoor
open Go Go.AM
set_option maxRecDepth 20000
mutual
/-- Erased core of names that are as they are made: lambdas have a body, no type is there, no name has a 'p'. -/
def okR : Core → Bool
  | .mk f _ s t ks bs al => decide (f ≠ 6) && (decide (f ≠ 7) && (decide (t.form = 0) && ((if f = 5 then !decide ((112 : UInt8) ∈ s) && (!ks.isEmpty && bs.isEmpty) else if f = 1 then ks.isEmpty && (bs.isEmpty && al.isEmpty) else true) && (okBs bs && (okCs ks && okAs al)))))
def okCs : List Core → Bool
  | [] => true
  | c :: l => okR c && okCs l
def okBs : List Bind → Bool
  | [] => true
  | .mk s t c :: l => decide (t.form = 0) && (!decide ((112 : UInt8) ∈ s) && (okR c && okBs l))
def okAs : List Alt → Bool
  | [] => true
  | .mk _ _ _ vs c :: l => vs.all (fun s => !decide ((112 : UInt8) ∈ s)) && (okR c && okAs l)
end
mutual
/-- No name is free, but some. -/
def clR : Core → (Str → Bool) → Bool
  | .mk f _ s _ ks bs al, G => if f = 1 then G s else clBs bs (ext G (gvs f s bs)) && (clCs ks (ext G (gvs f s bs)) && clAs al (ext G (gvs f s bs)))
def clCs : List Core → (Str → Bool) → Bool
  | [], _ => true
  | c :: l, G => clR c G && clCs l G
def clBs : List Bind → (Str → Bool) → Bool
  | [], _ => true
  | .mk _ _ c :: l, G => clR c G && clBs l G
def clAs : List Alt → (Str → Bool) → Bool
  | [], _ => true
  | .mk _ _ _ vs c :: l, G => clR c (ext G vs) && clAs l G
end
def Le (G H : Str → Bool) : Prop := ∀ s, G s = true → H s = true
theorem Le.ext {G H : Str → Bool} (h : Le G H) (l : List Str) : Le (ext G l) (ext H l) := by
  intro s hs
  simp only [YtojcjjjpniimiaaDoor.ext, Bool.or_eq_true] at hs ⊢
  exact hs.imp (h s) id
mutual
theorem clR_mono : ∀ (c : Core) {G H : Str → Bool}, Le G H → clR c G = true → clR c H = true
  | .mk f _ s _ ks bs al, G, H, h, k => by
    rw [clR] at k ⊢
    split at k
    · rename_i hf; rw [if_pos hf]; exact h _ k
    · rename_i hf
      rw [if_neg hf]
      simp only [Bool.and_eq_true] at k ⊢
      exact ⟨clBs_mono bs (h.ext _) k.1, clCs_mono ks (h.ext _) k.2.1, clAs_mono al (h.ext _) k.2.2⟩
theorem clCs_mono : ∀ (l : List Core) {G H : Str → Bool}, Le G H → clCs l G = true → clCs l H = true
  | [], _, _, _, _ => by rw [clCs]
  | c :: l, G, H, h, k => by
    rw [clCs, Bool.and_eq_true] at k ⊢
    exact ⟨clR_mono c h k.1, clCs_mono l h k.2⟩
theorem clBs_mono : ∀ (l : List Bind) {G H : Str → Bool}, Le G H → clBs l G = true → clBs l H = true
  | [], _, _, _, _ => by rw [clBs]
  | .mk _ _ c :: l, G, H, h, k => by
    rw [clBs, Bool.and_eq_true] at k ⊢
    exact ⟨clR_mono c h k.1, clBs_mono l h k.2⟩
theorem clAs_mono : ∀ (l : List Alt) {G H : Str → Bool}, Le G H → clAs l G = true → clAs l H = true
  | [], _, _, _, _ => by rw [clAs]
  | .mk _ _ _ vs c :: l, G, H, h, k => by
    rw [clAs, Bool.and_eq_true] at k ⊢
    exact ⟨clR_mono c (h.ext vs) k.1, clAs_mono l h k.2⟩
end
mutual
theorem fitsR_mono : ∀ (c : Core) {G H : Str → Bool}, Le G H → fitsR c G = true → fitsR c H = true
  | .mk f _ s t ks bs al, G, H, h, k => by
    rw [fitsR] at k ⊢
    split at k
    · cases k
    · rename_i h0
      rw [if_neg h0]
      split at k
      · rename_i hf; rw [if_pos hf]; exact h _ k
      · rename_i hf
        rw [if_neg hf]
        simp only [Bool.and_eq_true] at k ⊢
        exact ⟨fitsBs_mono bs (h.ext _) k.1, fitsCs_mono ks (h.ext _) k.2.1, fitsAs_mono al (h.ext _) k.2.2⟩
theorem fitsCs_mono : ∀ (l : List Core) {G H : Str → Bool}, Le G H → fitsCs l G = true → fitsCs l H = true
  | [], _, _, _, _ => by rw [fitsCs]
  | c :: l, G, H, h, k => by
    rw [fitsCs, Bool.and_eq_true] at k ⊢
    exact ⟨fitsR_mono c h k.1, fitsCs_mono l h k.2⟩
theorem fitsBs_mono : ∀ (l : List Bind) {G H : Str → Bool}, Le G H → fitsBs l G = true → fitsBs l H = true
  | [], _, _, _, _ => by rw [fitsBs]
  | .mk _ t c :: l, G, H, h, k => by
    simp only [fitsBs, Bool.and_eq_true] at k ⊢
    exact ⟨⟨fitsR_mono c h k.1.1, k.1.2⟩, fitsBs_mono l h k.2⟩
theorem fitsAs_mono : ∀ (l : List Alt) {G H : Str → Bool}, Le G H → fitsAs l G = true → fitsAs l H = true
  | [], _, _, _, _ => by rw [fitsAs]
  | .mk _ _ _ vs c :: l, G, H, h, k => by
    rw [fitsAs, Bool.and_eq_true] at k ⊢
    exact ⟨fitsR_mono c (h.ext vs) k.1, fitsAs_mono l h k.2⟩
end
/-! ### What is free -/
mutual
theorem freeR_sub (A : Str → Bool) : ∀ (c : Core) (G : Str → Bool) (out : List Str), ∀ s ∈ out, s ∈ freeR A c G out
  | .mk f _ x _ ks bs al, G, out, s, h => by
    rw [freeR]
    split
    · split
      · exact List.mem_append_left _ h
      · exact h
    · exact freeAs_sub A al _ _ s (freeCs_sub A ks _ _ s (freeBs_sub A bs _ _ s h))
theorem freeCs_sub (A : Str → Bool) : ∀ (l : List Core) (G : Str → Bool) (out : List Str), ∀ s ∈ out, s ∈ freeCs A l G out
  | [], _, _, s, h => by rw [freeCs]; exact h
  | c :: l, G, out, s, h => by rw [freeCs]; exact freeCs_sub A l _ _ s (freeR_sub A c _ _ s h)
theorem freeBs_sub (A : Str → Bool) : ∀ (l : List Bind) (G : Str → Bool) (out : List Str), ∀ s ∈ out, s ∈ freeBs A l G out
  | [], _, _, s, h => by rw [freeBs]; exact h
  | .mk _ _ c :: l, G, out, s, h => by rw [freeBs]; exact freeBs_sub A l _ _ s (freeR_sub A c _ _ s h)
theorem freeAs_sub (A : Str → Bool) : ∀ (l : List Alt) (G : Str → Bool) (out : List Str), ∀ s ∈ out, s ∈ freeAs A l G out
  | [], _, _, s, h => by rw [freeAs]; exact h
  | .mk _ _ _ vs c :: l, G, out, s, h => by rw [freeAs]; exact freeAs_sub A l _ _ s (freeR_sub A c _ _ s h)
end
def InA (A : Str → Bool) (out : List Str) : Prop := ∀ s ∈ out, A s = true
mutual
theorem freeR_in (A : Str → Bool) : ∀ (c : Core) (G : Str → Bool) (out : List Str), InA A out → InA A (freeR A c G out)
  | .mk f _ x _ ks bs al, G, out, h => by
    rw [freeR]
    split
    · split
      · rename_i hc
        intro s hs
        rcases List.mem_append.1 hs with hs | hs
        · exact h s hs
        · simp only [List.mem_singleton] at hs
          subst hs
          simp only [Bool.and_eq_true] at hc
          exact hc.1.1
      · exact h
    · exact freeAs_in A al _ _ (freeCs_in A ks _ _ (freeBs_in A bs _ _ h))
theorem freeCs_in (A : Str → Bool) : ∀ (l : List Core) (G : Str → Bool) (out : List Str), InA A out → InA A (freeCs A l G out)
  | [], _, _, h => by rw [freeCs]; exact h
  | c :: l, G, out, h => by rw [freeCs]; exact freeCs_in A l _ _ (freeR_in A c _ _ h)
theorem freeBs_in (A : Str → Bool) : ∀ (l : List Bind) (G : Str → Bool) (out : List Str), InA A out → InA A (freeBs A l G out)
  | [], _, _, h => by rw [freeBs]; exact h
  | .mk _ _ c :: l, G, out, h => by rw [freeBs]; exact freeBs_in A l _ _ (freeR_in A c _ _ h)
theorem freeAs_in (A : Str → Bool) : ∀ (l : List Alt) (G : Str → Bool) (out : List Str), InA A out → InA A (freeAs A l G out)
  | [], _, _, h => by rw [freeAs]; exact h
  | .mk _ _ _ vs c :: l, G, out, h => by rw [freeAs]; exact freeAs_in A l _ _ (freeR_in A c _ _ h)
end
/-- Names from outside, those that are met, those that are given. -/
def out3 (N G : Str → Bool) (out : List Str) : Str → Bool := fun s => (N s || G s) || decide (s ∈ out)
theorem out3_ext (N G : Str → Bool) (out l : List Str) : Le (ext (out3 N G out) l) (out3 N (ext G l) out) := by
  intro s hs
  simp only [ext, out3, Bool.or_eq_true] at hs ⊢
  rcases hs with (h | h) | h
  · exact .inl (h.imp id .inl)
  · exact .inr h
  · exact .inl (.inr (.inr h))
theorem out3_ext' (N G : Str → Bool) (out l : List Str) : Le (out3 N (ext G l) out) (ext (out3 N G out) l) := by
  intro s hs
  simp only [ext, out3, Bool.or_eq_true] at hs ⊢
  rcases hs with (h | h | h) | h
  · exact .inl (.inl (.inl h))
  · exact .inl (.inl (.inr h))
  · exact .inr h
  · exact .inl (.inr h)
theorem out3_le {N G : Str → Bool} {a b : List Str} (h : ∀ s ∈ a, s ∈ b) : Le (out3 N G a) (out3 N G b) := by
  intro s hs
  simp only [out3, Bool.or_eq_true, decide_eq_true_eq] at hs ⊢
  exact hs.imp id (h s)
def three (N A G : Str → Bool) : Str → Bool := fun s => (N s || A s) || G s
theorem three_ext (N A G : Str → Bool) (l : List Str) : ext (three N A G) l = three N A (ext G l) := by
  funext s
  simp [ext, three, Bool.or_assoc]
mutual
theorem free_cl (N A : Str → Bool) : ∀ (c : Core) (G : Str → Bool) (out : List Str), clR c (three N A G) = true → clR c (out3 N G (freeR A c G out)) = true
  | .mk f _ x _ ks bs al, G, out, h => by
    rw [clR] at h ⊢
    rw [freeR]
    split
    · rename_i hf
      rw [if_pos hf] at h
      simp only [three, out3, Bool.or_eq_true] at h ⊢
      by_cases hg : G x = true
      · exact .inl (.inr hg)
      by_cases hn : N x = true
      · exact .inl (.inl hn)
      have ha : A x = true := by
        rcases h with (h | h) | h
        · exact absurd h hn
        · exact h
        · exact absurd h hg
      refine .inr ?_
      simp only [Bool.not_eq_true] at hg
      by_cases ho : x ∈ out
      · simp [ho]
      · simp [ha, hg, ho]
    · rename_i hf
      rw [if_neg hf] at h
      rw [three_ext] at h
      simp only [Bool.and_eq_true] at h ⊢
      have h1 := freeBs_cl N A bs (ext G (gvs f x bs)) out h.1
      have h2 := freeCs_cl N A ks (ext G (gvs f x bs)) (freeBs A bs (ext G (gvs f x bs)) out) h.2.1
      have h3 := freeAs_cl N A al (ext G (gvs f x bs)) (freeCs A ks (ext G (gvs f x bs)) (freeBs A bs (ext G (gvs f x bs)) out)) h.2.2
      refine ⟨clBs_mono bs ?_ h1, clCs_mono ks ?_ h2, clAs_mono al (out3_ext' _ _ _ _) h3⟩
      · intro s hs
        refine out3_ext' _ _ _ _ s (out3_le ?_ s hs)
        intro s hs
        exact freeAs_sub A al _ _ s (freeCs_sub A ks _ _ s hs)
      · intro s hs
        refine out3_ext' _ _ _ _ s (out3_le ?_ s hs)
        intro s hs
        exact freeAs_sub A al _ _ s hs
theorem freeCs_cl (N A : Str → Bool) : ∀ (l : List Core) (G : Str → Bool) (out : List Str), clCs l (three N A G) = true → clCs l (out3 N G (freeCs A l G out)) = true
  | [], _, _, _ => by rw [clCs]
  | c :: l, G, out, h => by
    rw [clCs, Bool.and_eq_true] at h ⊢
    rw [freeCs]
    exact ⟨clR_mono c (out3_le fun s hs => freeCs_sub A l _ _ s hs) (free_cl N A c G out h.1), freeCs_cl N A l G _ h.2⟩
theorem freeBs_cl (N A : Str → Bool) : ∀ (l : List Bind) (G : Str → Bool) (out : List Str), clBs l (three N A G) = true → clBs l (out3 N G (freeBs A l G out)) = true
  | [], _, _, _ => by rw [clBs]
  | .mk _ _ c :: l, G, out, h => by
    rw [clBs, Bool.and_eq_true] at h ⊢
    rw [freeBs]
    exact ⟨clR_mono c (out3_le fun s hs => freeBs_sub A l _ _ s hs) (free_cl N A c G out h.1), freeBs_cl N A l G _ h.2⟩
theorem freeAs_cl (N A : Str → Bool) : ∀ (l : List Alt) (G : Str → Bool) (out : List Str), clAs l (three N A G) = true → clAs l (out3 N G (freeAs A l G out)) = true
  | [], _, _, _ => by rw [clAs]
  | .mk _ _ _ vs c :: l, G, out, h => by
    rw [clAs, Bool.and_eq_true, three_ext] at h
    rw [clAs, Bool.and_eq_true]
    rw [freeAs]
    refine ⟨clR_mono c ?_ (free_cl N A c (ext G vs) out h.1), freeAs_cl N A l G _ h.2⟩
    intro s hs
    exact out3_ext' _ _ _ _ s (out3_le (fun s hs => freeAs_sub A l _ _ s hs) s hs)
end
end Go.Proofs.YtojcjjjpniimiaaDoor

/- COMBINATORS (3): digits, what params are called. -/
namespace Go.Proofs.YtojcjjjpniimiaaDoor
open Go Go.AM
set_option maxRecDepth 20000
mutual
/-- A chain's body. -/
def chainB : Core → Core
  | .mk f n s t ks bs al => if f = 5 then chainBs ks else .mk f n s t ks bs al
def chainBs : List Core → Core
  | [] => zCore
  | c :: _ => chainB c
end
theorem setBody_at (x : Sup) (c : Core) (new : List Sup) : ∀ made : List Sup, setBody (made ++ [x] ++ new) made.length c = made ++ [{ x with body := c }] ++ new
  | [] => rfl
  | y :: made => by
    have := setBody_at x c new made
    simp only [List.cons_append, List.length_cons, setBody] at this ⊢
    rw [this]
/-- What is asked of a combinator that was made. -/
def SupOk (of : Str) (N : Str → Bool) (lo : Nat) (new : List Sup) : Prop :=
  ∀ i x, new[i]? = some x → x.name = fname of (lo + i) ∧ onceR x.params = true ∧ fitsR x.body (ext N x.params) = true
theorem SupOk.nil {of : Str} {N : Str → Bool} {lo : Nat} : SupOk of N lo [] := fun i x h => by simp at h
theorem SupOk.app {of : Str} {N : Str → Bool} {lo : Nat} {a b : List Sup} (h : SupOk of N lo a) (k : SupOk of N (lo + a.length) b) : SupOk of N lo (a ++ b) := by
  intro i x hx
  rw [List.getElem?_append] at hx
  split at hx
  · exact h i x hx
  · rename_i hi
    have := k _ x hx
    rwa [show lo + a.length + (i - a.length) = lo + i by omega] at this
/-- The names of those that are made from a place to another one. -/
def Has (of : Str) (N : Str → Bool) (a b : Nat) : Prop := ∀ k, a ≤ k → k < b → N (fname of k) = true
theorem Has.sub {of : Str} {N : Str → Bool} {a b a' b' : Nat} (h : Has of N a b) (ha : a ≤ a') (hb : b' ≤ b) : Has of N a' b' := fun k h1 h2 => h k (by omega) (by omega)

theorem onceR_iff : ∀ l : List Str, onceR l = true ↔ l.Nodup
  | [] => by simp [onceR]
  | s :: l => by simp [onceR, onceR_iff l]
/-! ### Digits -/
theorem digits_ne : ∀ (f n : Nat) (b : UInt8), b ∈ digits (f + 1) n → 48 ≤ b.toNat ∧ b.toNat ≤ 57
  | 0, n, b, h => by
    simp only [digits] at h
    split at h
    · simp only [List.mem_singleton] at h; subst h
      simp only [UInt8.toNat_ofNat']; omega
    · simp only [List.nil_append, List.mem_singleton] at h; subst h
      simp only [UInt8.toNat_ofNat']; omega
  | f + 1, n, b, h => by
    rw [digits] at h
    split at h
    · simp only [List.mem_singleton] at h; subst h
      simp only [UInt8.toNat_ofNat']; omega
    · rcases List.mem_append.1 h with h | h
      · exact digits_ne f (n / 10) b h
      · simp only [List.mem_singleton] at h; subst h
        simp only [UInt8.toNat_ofNat']; omega
theorem ofNat_inj {a b : Nat} (ha : a < 58) (hb : b < 58) (h : UInt8.ofNat a = UInt8.ofNat b) : a = b := by
  have := congrArg UInt8.toNat h
  simp only [UInt8.toNat_ofNat'] at this
  omega
theorem digits_pos (f n : Nat) : 1 ≤ (digits (f + 1) n).length := by
  rw [digits]; split <;> simp
theorem digits_succ (f n : Nat) : digits (f + 1) n = if n < 10 then [UInt8.ofNat (48 + n)] else digits f (n / 10) ++ [UInt8.ofNat (48 + n % 10)] := rfl
theorem digits_inj : ∀ (f : Nat) (n m : Nat), n < 10 ^ (f + 1) → m < 10 ^ (f + 1) → digits (f + 1) n = digits (f + 1) m → n = m
  | 0, n, m, hn, hm, h => by
    simp only [digits] at h
    rw [if_pos (by simpa using hn), if_pos (by simpa using hm)] at h
    simp only [List.cons.injEq, and_true] at h
    have h1 : n < 10 := by simpa using hn
    have h2 : m < 10 := by simpa using hm
    have := ofNat_inj (by omega) (by omega) h
    omega
  | f + 1, n, m, hn, hm, h => by
    rw [digits_succ (f + 1) n, digits_succ (f + 1) m] at h
    have e : (10 : Nat) ^ (f + 1 + 1) = 10 ^ (f + 1) * 10 := Nat.pow_succ ..
    split at h <;> split at h
    · simp only [List.cons.injEq, and_true] at h
      have := ofNat_inj (by omega) (by omega) h
      omega
    · have := congrArg List.length h
      have hp := digits_pos f (m / 10)
      simp only [List.length_append, List.length_cons, List.length_nil] at this
      omega
    · have := congrArg List.length h
      have hp := digits_pos f (n / 10)
      simp only [List.length_append, List.length_cons, List.length_nil] at this
      omega
    · have h1 := List.append_inj' h rfl
      have h2 := digits_inj f (n / 10) (m / 10) (by omega) (by omega) h1.1
      have h3 := h1.2
      simp only [List.cons.injEq, and_true] at h3
      have := ofNat_inj (by omega) (by omega) h3
      omega
theorem dec_inj {n m : Nat} (hn : n < 1000000000) (hm : m < 1000000000) (h : dec n = dec m) : n = m :=
  digits_inj 19 n m (Nat.lt_trans hn (by decide)) (Nat.lt_trans hm (by decide)) h
theorem dec_p (n : Nat) : (112 : UInt8) ∉ dec n := fun h => by
  have := digits_ne 19 n 112 h
  have e : (112 : UInt8).toNat = 112 := rfl
  omega
def plain (s : Str) : Prop := (112 : UInt8) ∉ s
/-! ### Params -/
theorem paramsTo_mem : ∀ (l : List Str) (i : Nat) (s : Str), s ∈ l → s ∈ paramsTo i l
  | x :: l, i, s, h => by
    rw [paramsTo]
    by_cases hx : s ∈ l
    · exact List.mem_cons_of_mem _ (paramsTo_mem l (i + 1) s hx)
    · rcases List.mem_cons.1 h with rfl | h
      · rw [if_neg hx]; exact List.mem_cons_self
      · exact absurd h hx
theorem split_p {a b c d : Str} (hb : plain b) (hd : plain d) (h : a ++ 112 :: b = c ++ 112 :: d) : b = d := by
  have key : ∀ {x y u v : Str}, plain x → plain y → x ++ 112 :: u = y ++ 112 :: v → x = y := by
    intro x
    induction x with
    | nil =>
      intro y u v _ hy e
      cases y with
      | nil => rfl
      | cons p y => simp only [List.nil_append, List.cons_append, List.cons.injEq] at e; exact absurd (by rw [e.1]; exact List.mem_cons_self) hy
    | cons p x ih =>
      intro y u v hx hy e
      cases y with
      | nil => simp only [List.nil_append, List.cons_append, List.cons.injEq] at e; exact absurd (by rw [e.1]; exact List.mem_cons_self) hx
      | cons q y =>
        simp only [List.cons_append, List.cons.injEq] at e
        rw [e.1, ih (fun h => hx (List.mem_cons_of_mem _ h)) (fun h => hy (List.mem_cons_of_mem _ h)) e.2]
  have := congrArg List.reverse h
  simp only [List.reverse_append, List.reverse_cons, List.append_assoc, List.singleton_append] at this
  have := key (by simpa [plain] using hb) (by simpa [plain] using hd) this
  exact List.reverse_inj.1 this
theorem paramsTo_what : ∀ (l : List Str) (i : Nat) (s : Str), (∀ x ∈ l, plain x) → s ∈ paramsTo i l → (plain s ∧ s ∈ l) ∨ ∃ x k, i ≤ k ∧ k < i + l.length ∧ s = x ++ [64, 112] ++ dec k
  | x :: l, i, s, hl, h => by
    rw [paramsTo] at h
    rcases List.mem_cons.1 h with h | h
    · split at h
      · exact .inr ⟨x, i, Nat.le_refl _, by simp, h⟩
      · subst h; exact .inl ⟨hl _ List.mem_cons_self, List.mem_cons_self⟩
    · rcases paramsTo_what l (i + 1) s (fun y hy => hl y (List.mem_cons_of_mem _ hy)) h with ⟨h1, h2⟩ | ⟨y, k, h1, h2, h3⟩
      · exact .inl ⟨h1, List.mem_cons_of_mem _ h2⟩
      · exact .inr ⟨y, k, by omega, by simp; omega, h3⟩
theorem not_plain_p (x : Str) (k : Nat) : ¬ plain (x ++ [64, 112] ++ dec k) := fun h => h (by simp)
theorem paramsTo_once : ∀ (l : List Str) (i : Nat), (∀ x ∈ l, plain x) → i + l.length < 1000000000 → (paramsTo i l).Nodup
  | [], _, _, _ => by simp [paramsTo]
  | x :: l, i, hl, hi => by
    rw [paramsTo, List.nodup_cons]
    have hi' : i + (l.length + 1) < 1000000000 := by simpa using hi
    refine ⟨fun h => ?_, paramsTo_once l (i + 1) (fun y hy => hl y (List.mem_cons_of_mem _ hy)) (by omega)⟩
    rcases paramsTo_what l (i + 1) _ (fun y hy => hl y (List.mem_cons_of_mem _ hy)) h with ⟨h1, h2⟩ | ⟨y, k, h1, h2, h3⟩
    · split at h1
      · exact not_plain_p _ _ h1
      · rename_i hx
        rw [if_neg hx] at h2
        exact hx h2
    · split at h3
      · have e1 : x ++ [64] ++ 112 :: dec i = y ++ [64] ++ 112 :: dec k := by simpa using h3
        have := dec_inj (by omega) (by omega) (split_p (dec_p i) (dec_p k) e1)
        omega
      · exact not_plain_p y k (by rw [← h3]; exact hl x List.mem_cons_self)
theorem paramsTo_same : ∀ (l : List Str) (i : Nat), l.Nodup → paramsTo i l = l
  | [], _, _ => rfl
  | x :: l, i, h => by
    rw [List.nodup_cons] at h
    rw [paramsTo, if_neg h.1, paramsTo_same l (i + 1) h.2]
theorem fits_appVars (G : Str → Bool) : ∀ (l : List Str) (c : Core), fitsR c G = true → (∀ s ∈ l, G s = true) → fitsR (appVars c l) G = true
  | [], _, h, _ => h
  | s :: l, c, h, hl => by
    rw [appVars]
    refine fits_appVars G l _ ?_ fun x hx => hl x (List.mem_cons_of_mem _ hx)
    have e : ext G (gvs 4 [] []) = G := by rw [show gvs 4 [] [] = [] from rfl, ext_nil]
    have hs : G s = true := hl s List.mem_cons_self
    simp [appC, fitsR, fitsBs, fitsCs, fitsAs, e, varC, zTy, Ty.form, hs, h]
end Go.Proofs.YtojcjjjpniimiaaDoor

/- COMBINATORS (4): what is made of core fits. -/
namespace Go.Proofs.YtojcjjjpniimiaaDoor
open Go Go.AM
set_option maxRecDepth 20000
theorem partBs_names (of : Str) : ∀ (l : List Bind) (A : Str → Bool) (made : List Sup), (partBs of l A made).1.map Bind.name = l.map Bind.name
  | [], _, _ => by rw [partBs]
  | .mk s t c :: l, A, made => by
    rw [partBs]
    simp only [List.map_cons, partBs_names of l]
    rfl
/-- Core, a part of other core. -/
structure OkC (f : Int) (s : Str) (t : Ty) (ks : List Core) (bs : List Bind) (al : List Alt) : Prop where
  f6 : f ≠ 6
  f7 : f ≠ 7
  ty : t.form = 0
  lam : f = 5 → plain s ∧ ks ≠ [] ∧ bs = []
  var : f = 1 → ks = [] ∧ bs = [] ∧ al = []
  bs : okBs bs = true
  ks : okCs ks = true
  al : okAs al = true
theorem okR_iff {f n : Int} {s : Str} {t : Ty} {ks : List Core} {bs : List Bind} {al : List Alt} : okR (.mk f n s t ks bs al) = true ↔ OkC f s t ks bs al := by
  rw [okR]
  simp only [Bool.and_eq_true, decide_eq_true_eq]
  constructor
  · rintro ⟨h1, h2, h3, h4, h5, h6, h7⟩
    refine ⟨h1, h2, h3, fun h => ?_, fun h => ?_, h5, h6, h7⟩
    · rw [if_pos h] at h4
      simpa [plain] using h4
    · rw [if_neg (by omega), if_pos h] at h4
      simpa using h4
  · rintro ⟨h1, h2, h3, h4, h4', h5, h6, h7⟩
    refine ⟨h1, h2, h3, ?_, h5, h6, h7⟩
    split
    · rename_i h; simpa [plain] using h4 h
    · split
      · rename_i h; simpa using h4' h
      · rfl
theorem chain_mem : ∀ (m : Nat) (c : Core), csize c ≤ m → okR c = true → (∀ s ∈ chainN c, plain s) ∧ (chainN c).length ≤ csize c ∧ okR (chainB c) = true ∧ ∀ G, clR c G = true → clR (chainB c) (ext G (chainN c)) = true := by
  intro m
  induction m with
  | zero => intro c hc; have := csize_pos c; omega
  | succ m ih =>
    intro c hc h
    obtain ⟨f, n', x, t, ks, bs, al⟩ := c
    by_cases hf : f = 5
    · have ho := okR_iff.1 h
      obtain ⟨h1, h2, h3⟩ := ho.lam hf
      cases ks with
      | nil => exact absurd rfl h2
      | cons k ks =>
        have hk := ho.ks
        rw [okCs, Bool.and_eq_true] at hk
        rw [csize, csizes] at hc
        obtain ⟨g1, g2, g3, g4⟩ := ih k (by omega) hk.1
        rw [chainN, chainB, if_pos hf, if_pos hf, chainNs, chainBs]
        refine ⟨?_, ?_, g3, ?_⟩
        · intro s hs
          rcases List.mem_cons.1 hs with rfl | hs
          · exact h1
          · exact g1 s hs
        · rw [csize, csizes, List.length_cons]; omega
        · intro G hG
          rw [clR, if_neg (by omega)] at hG
          simp only [Bool.and_eq_true] at hG
          have := hG.2.1
          rw [clCs, Bool.and_eq_true] at this
          have := g4 _ this.1
          rw [ext_ext] at this
          rw [show x :: chainN k = gvs f x bs ++ chainN k by rw [h3, gvs, if_pos hf]; rfl]
          exact this
    · rw [chainN, chainB, if_neg hf, if_neg hf]
      refine ⟨by simp, by simp, h, fun G hG => ?_⟩
      rw [ext_nil]; exact hG
mutual
theorem freeR_len (A : Str → Bool) : ∀ (c : Core) (G : Str → Bool) (out : List Str), (freeR A c G out).length ≤ out.length + csize c
  | .mk f _ x _ ks bs al, G, out => by
    rw [freeR, csize]
    split
    · split
      · simp; omega
      · omega
    · have h1 := freeBs_len A bs (ext G (gvs f x bs)) out
      have h2 := freeCs_len A ks (ext G (gvs f x bs)) (freeBs A bs (ext G (gvs f x bs)) out)
      have h3 := freeAs_len A al (ext G (gvs f x bs)) (freeCs A ks (ext G (gvs f x bs)) (freeBs A bs (ext G (gvs f x bs)) out))
      omega
theorem freeCs_len (A : Str → Bool) : ∀ (l : List Core) (G : Str → Bool) (out : List Str), (freeCs A l G out).length ≤ out.length + csizes l
  | [], _, out => by rw [freeCs]; omega
  | c :: l, G, out => by rw [freeCs, csizes]; have := freeCs_len A l G (freeR A c G out); have := freeR_len A c G out; omega
theorem freeBs_len (A : Str → Bool) : ∀ (l : List Bind) (G : Str → Bool) (out : List Str), (freeBs A l G out).length ≤ out.length + bsizes l
  | [], _, out => by rw [freeBs]; omega
  | .mk _ _ c :: l, G, out => by rw [freeBs, bsizes, bsize]; have := freeBs_len A l G (freeR A c G out); have := freeR_len A c G out; omega
theorem freeAs_len (A : Str → Bool) : ∀ (l : List Alt) (G : Str → Bool) (out : List Str), (freeAs A l G out).length ≤ out.length + asizes l
  | [], _, out => by rw [freeAs]; omega
  | .mk _ _ _ vs c :: l, G, out => by rw [freeAs, asizes, asize]; have := freeAs_len A l G (freeR A c (ext G vs) out); have := freeR_len A c (ext G vs) out; omega
end
theorem okBs_plain : ∀ (l : List Bind), okBs l = true → ∀ x ∈ l.map Bind.name, plain x
  | [], _, x, hx => by simp at hx
  | .mk s t c :: l, h, x, hx => by
    simp only [okBs, Bool.and_eq_true] at h
    rcases List.mem_cons.1 hx with rfl | hx
    · have := h.2.1; simpa [plain, Bind.name] using this
    · exact okBs_plain l h.2.2.2 x hx
def GoodP (of : Str) (N0 : Str → Bool) (p : (Str → Bool) → Prop) (made out : List Sup) : Prop :=
  ∃ new, out = made ++ new ∧ ∀ N, Le N0 N → Has of N made.length (made.length + new.length) → p N ∧ SupOk of N made.length new
def orB (N A : Str → Bool) : Str → Bool := fun s => N s || A s
theorem orB_ext (N A : Str → Bool) (l : List Str) : orB N (ext A l) = ext (orB N A) l := by
  funext s; simp [ext, orB, Bool.or_assoc]
theorem orB_mem (N : Str → Bool) (l : List Str) : orB N (fun s => decide (s ∈ l)) = ext N l := rfl
theorem GoodP.trans {of : Str} {N0 : Str → Bool} {p q r : (Str → Bool) → Prop} {a b c : List Sup} (h : GoodP of N0 p a b) (k : GoodP of N0 q b c) (hr : ∀ N, p N → q N → r N) : GoodP of N0 r a c := by
  obtain ⟨n1, rfl, h2⟩ := h
  obtain ⟨n2, rfl, k2⟩ := k
  refine ⟨n1 ++ n2, by rw [List.append_assoc], fun N hN hH => ?_⟩
  rw [List.length_append] at hH
  obtain ⟨g1, g2⟩ := h2 N hN (hH.sub (Nat.le_refl _) (by omega))
  obtain ⟨g3, g4⟩ := k2 N hN (hH.sub (by simp) (by simp; omega))
  exact ⟨hr N g1 g3, g2.app (by simpa using g4)⟩
theorem GoodP.nil {of : Str} {N0 : Str → Bool} {p : (Str → Bool) → Prop} {a : List Sup} (h : ∀ N, Le N0 N → p N) : GoodP of N0 p a a := ⟨[], by simp, fun N hN _ => ⟨h N hN, .nil⟩⟩
theorem GoodP.imp {of : Str} {N0 : Str → Bool} {p q : (Str → Bool) → Prop} {a b : List Sup} (h : GoodP of N0 p a b) (hq : ∀ N, p N → q N) : GoodP of N0 q a b := by
  obtain ⟨n1, h1, h2⟩ := h
  exact ⟨n1, h1, fun N hN hH => ⟨hq N (h2 N hN hH).1, (h2 N hN hH).2⟩⟩
mutual
theorem part_ok (of : Str) (N0 : Str → Bool) : ∀ (c : Core) (ch : Bool) (A : Str → Bool) (made : List Sup), okR c = true → csize c < 1000000 →
    clR (if ch then chainB c else c) (orB N0 A) = true → (∀ s, A s = true → plain s) → GoodP of N0 (fun N => fitsR (partR of ch c A made).1 (orB N A) = true) made (partR of ch c A made).2
  | .mk f n s t ks bs al, ch, A, made, h, hsz, hcl, hA => by
    have ho := okR_iff.1 h
    have hsz' := hsz
    rw [csize] at hsz'
    by_cases hf : f = 5
    · cases ks with
      | nil => exact absurd rfl (ho.lam hf).2.1
      | cons k ks =>
        have hk := ho.ks
        rw [okCs, Bool.and_eq_true] at hk
        rw [csizes] at hsz'
        cases ch with
        | true =>
          rw [partR, if_pos hf, if_pos rfl, partK]
          have hcl' : clR (chainB k) (orB N0 A) = true := by
            simp only [if_true, chainB, hf, chainBs] at hcl
            exact hcl
          exact part_ok of N0 k true A made hk.1 (by omega) (by simpa using hcl') hA
        | false =>
          rw [partR, if_pos hf]
          rw [if_neg Bool.false_ne_true] at hcl ⊢
          dsimp only [partK, chainNs]
          have hcl3 : clR (.mk f n s t (k :: ks) bs al) (three N0 A (fun _ => false)) = true := by
            rw [show three N0 A (fun _ => false) = orB N0 A by funext s; simp [three, orB]]; exact hcl
          have hfr := free_cl N0 A _ (fun _ => false) [] hcl3
          have hfl := freeR_len A (.mk f n s t (k :: ks) bs al) (fun _ => false) []
          have hin := freeR_in A (.mk f n s t (k :: ks) bs al) (fun _ => false) [] (fun s hs => by simp at hs)
          generalize freeR A (.mk f n s t (k :: ks) bs al) (fun _ => false) [] = free at hfr hfl hin ⊢
          obtain ⟨c1, c2, c3, c4⟩ := chain_mem _ (.mk f n s t (k :: ks) bs al) (Nat.le_refl _) h
          have hch := c4 _ hfr
          have hN : chainN (.mk f n s t (k :: ks) bs al) = s :: chainN k := by rw [chainN, if_pos hf, chainNs]
          have hB : chainB (.mk f n s t (k :: ks) bs al) = chainB k := by rw [chainB, if_pos hf, chainBs]
          rw [hN] at c1 c2 hch
          rw [hB] at hch
          have hpl : ∀ x ∈ free ++ s :: chainN k, plain x := by
            intro x hx
            rcases List.mem_append.1 hx with hx | hx
            · exact hA x (hin x hx)
            · exact c1 x hx
          have hch' : clR (chainB k) (orB N0 fun x => decide (x ∈ free ++ s :: chainN k)) = true := by
            refine clR_mono _ (fun x hx => ?_) hch
            simp only [ext, out3, orB, Bool.or_eq_true, decide_eq_true_eq, List.mem_append] at hx ⊢
            rcases hx with ((hx | hx) | hx) | hx
            · exact .inl hx
            · cases hx
            · exact .inr (.inl hx)
            · exact .inr (.inr hx)
          obtain ⟨new, h1, h2⟩ := part_ok of N0 k true (fun x => decide (x ∈ free ++ s :: chainN k)) (made ++ [⟨fname of made.length, paramsR (free ++ s :: chainN k), zCore⟩]) hk.1 (by omega) (by simpa using hch') (fun x hx => hpl x (of_decide_eq_true hx))
          rw [h1, setBody_at]
          refine ⟨[⟨fname of made.length, paramsR (free ++ s :: chainN k), _⟩] ++ new, by rw [List.append_assoc], fun N hN hH => ?_⟩
          rw [List.length_append, List.length_singleton] at hH
          obtain ⟨g1, g2⟩ := h2 N hN (hH.sub (by simp) (by simp; omega))
          refine ⟨fits_appVars _ _ _ ?_ fun x hx => ?_, SupOk.app ?_ (by simpa using g2)⟩
          · have := hH made.length (Nat.le_refl _) (by omega)
            simp [varC, fitsR, zTy, Ty.form, orB, this]
          · simp [orB, hin x hx]
          · intro i x hx
            cases i with
            | succ i => simp at hx
            | zero =>
              simp only [List.getElem?_cons_zero, Option.some.injEq] at hx
              subst hx
              refine ⟨rfl, (onceR_iff _).2 (paramsTo_once _ 0 hpl ?_), fitsR_mono _ (fun x hx => ?_) g1⟩
              · rw [List.length_append]; simp only [List.length_nil] at hfl; omega
              · simp only [orB, ext, Bool.or_eq_true, decide_eq_true_eq] at hx ⊢
                exact hx.imp id (paramsTo_mem _ 0 x)
    · have hcl0 : clR (.mk f n s t ks bs al) (orB N0 A) = true := by
        cases ch with
        | false => simpa using hcl
        | true => simpa [chainB, hf] using hcl
      rw [partR, if_neg hf]
      by_cases hf1 : f = 1
      · obtain ⟨rfl, rfl, rfl⟩ := ho.var hf1
        simp only [partCs, partBs, partAs]
        refine GoodP.nil fun N hN => ?_
        rw [clR, if_pos hf1] at hcl0
        rw [fitsR, if_neg (by simp [hf, ho.f6, ho.f7, ho.ty]), if_pos hf1]
        simp only [orB, Bool.or_eq_true] at hcl0 ⊢
        exact hcl0.imp (hN s) id
      · rw [clR, if_neg hf1, ← orB_ext] at hcl0
        simp only [Bool.and_eq_true] at hcl0
        have hA' : ∀ x, ext A (gvs f s bs) x = true → plain x := by
          intro x hx
          simp only [ext, Bool.or_eq_true, decide_eq_true_eq] at hx
          rcases hx with hx | hx
          · exact hA x hx
          · rw [gvs, if_neg hf, List.nil_append] at hx
            exact okBs_plain bs ho.bs x hx
        have h1 := partBs_ok of N0 bs (ext A (gvs f s bs)) made ho.bs (by omega) hcl0.1 hA'
        have h2 := partCs_ok of N0 ks (ext A (gvs f s bs)) (partBs of bs (ext A (gvs f s bs)) made).2 ho.ks (by omega) hcl0.2.1 hA'
        have h3 := partAs_ok of N0 al (ext A (gvs f s bs)) (partCs of ks (ext A (gvs f s bs)) (partBs of bs (ext A (gvs f s bs)) made).2).2 ho.al (by omega) hcl0.2.2 hA'
        refine GoodP.trans h1 (GoodP.trans h2 h3 (r := fun N => _ ∧ _) fun N a b => ⟨a, b⟩) fun N a b => ?_
        rw [fitsR, if_neg (by simp [hf, ho.f6, ho.f7, ho.ty]), if_neg hf1]
        rw [show gvs f s (partBs of bs (ext A (gvs f s bs)) made).1 = gvs f s bs by simp only [gvs, partBs_names]]
        rw [← orB_ext, a, b.1, b.2]
        rfl
theorem partCs_ok (of : Str) (N0 : Str → Bool) : ∀ (l : List Core) (A : Str → Bool) (made : List Sup), okCs l = true → csizes l < 1000000 → clCs l (orB N0 A) = true → (∀ s, A s = true → plain s) →
    GoodP of N0 (fun N => fitsCs (partCs of l A made).1 (orB N A) = true) made (partCs of l A made).2
  | [], A, made, _, _, _, _ => by
    rw [partCs]
    exact GoodP.nil fun N _ => by rw [fitsCs]
  | c :: l, A, made, h, hsz, hcl, hA => by
    rw [okCs, Bool.and_eq_true] at h
    rw [clCs, Bool.and_eq_true] at hcl
    rw [csizes] at hsz
    rw [partCs]
    refine GoodP.trans (part_ok of N0 c false A made h.1 (by omega) (by simpa using hcl.1) hA) (partCs_ok of N0 l A _ h.2 (by omega) hcl.2 hA) fun N a b => ?_
    rw [fitsCs, a, b]
    rfl
theorem partBs_ok (of : Str) (N0 : Str → Bool) : ∀ (l : List Bind) (A : Str → Bool) (made : List Sup), okBs l = true → bsizes l < 1000000 → clBs l (orB N0 A) = true → (∀ s, A s = true → plain s) →
    GoodP of N0 (fun N => fitsBs (partBs of l A made).1 (orB N A) = true) made (partBs of l A made).2
  | [], A, made, _, _, _, _ => by
    rw [partBs]
    exact GoodP.nil fun N _ => by rw [fitsBs]
  | .mk s t c :: l, A, made, h, hsz, hcl, hA => by
    simp only [okBs, Bool.and_eq_true, decide_eq_true_eq] at h
    rw [clBs, Bool.and_eq_true] at hcl
    rw [bsizes, bsize] at hsz
    rw [partBs]
    refine GoodP.trans (part_ok of N0 c false A made h.2.2.1 (by omega) (by simpa using hcl.1) hA) (partBs_ok of N0 l A _ h.2.2.2 (by omega) hcl.2 hA) fun N a b => ?_
    simp only [fitsBs, a, b, h.1, decide_true, Bool.and_self]
theorem partAs_ok (of : Str) (N0 : Str → Bool) : ∀ (l : List Alt) (A : Str → Bool) (made : List Sup), okAs l = true → asizes l < 1000000 → clAs l (orB N0 A) = true → (∀ s, A s = true → plain s) →
    GoodP of N0 (fun N => fitsAs (partAs of l A made).1 (orB N A) = true) made (partAs of l A made).2
  | [], A, made, _, _, _, _ => by
    rw [partAs]
    exact GoodP.nil fun N _ => by rw [fitsAs]
  | .mk f n s vs c :: l, A, made, h, hsz, hcl, hA => by
    simp only [okAs, Bool.and_eq_true] at h
    rw [clAs, Bool.and_eq_true, ← orB_ext] at hcl
    rw [asizes, asize] at hsz
    rw [partAs]
    have hA' : ∀ x, ext A vs x = true → plain x := by
      intro x hx
      simp only [ext, Bool.or_eq_true, decide_eq_true_eq] at hx
      rcases hx with hx | hx
      · exact hA x hx
      · have := List.all_eq_true.1 h.1 x hx
        simpa [plain] using this
    refine GoodP.trans (part_ok of N0 c false (ext A vs) made h.2.1 (by omega) (by simpa using hcl.1) hA') (partAs_ok of N0 l A _ h.2.2 (by omega) hcl.2 hA) fun N a b => ?_
    rw [fitsAs, ← orB_ext, a, b]
    rfl
end
end Go.Proofs.YtojcjjjpniimiaaDoor

/- COMBINATORS (5): what is lifted is checked; lifted again it is the same. -/
namespace Go.Proofs.YtojcjjjpniimiaaDoor
open Go Go.AM
set_option maxRecDepth 20000
mutual
/-- No lambda, nowhere. -/
def ll : Core → Bool
  | .mk f _ _ _ ks bs al => !decide (f = 5) && (llCs ks && (llBs bs && llAs al))
def llCs : List Core → Bool
  | [] => true
  | c :: l => ll c && llCs l
def llBs : List Bind → Bool
  | [] => true
  | .mk _ _ c :: l => ll c && llBs l
def llAs : List Alt → Bool
  | [] => true
  | .mk _ _ _ _ c :: l => ll c && llAs l
end
mutual
theorem part_ll_same (of : Str) : ∀ (c : Core) (ch : Bool) (A : Str → Bool) (made : List Sup), ll c = true → partR of ch c A made = (c, made)
  | .mk f n s t ks bs al, ch, A, made, h => by
    simp only [ll, Bool.and_eq_true] at h
    have hf : ¬ f = 5 := by simpa using h.1
    rw [partR, if_neg hf]
    simp only [partBs_ll_same of bs _ _ h.2.2.1, partCs_ll_same of ks _ _ h.2.1, partAs_ll_same of al _ _ h.2.2.2]
theorem partCs_ll_same (of : Str) : ∀ (l : List Core) (A : Str → Bool) (made : List Sup), llCs l = true → partCs of l A made = (l, made)
  | [], _, _, _ => by rw [partCs]
  | c :: l, A, made, h => by
    rw [llCs, Bool.and_eq_true] at h
    rw [partCs]
    simp only [part_ll_same of c false A made h.1, partCs_ll_same of l A made h.2]
theorem partBs_ll_same (of : Str) : ∀ (l : List Bind) (A : Str → Bool) (made : List Sup), llBs l = true → partBs of l A made = (l, made)
  | [], _, _, _ => by rw [partBs]
  | .mk s t c :: l, A, made, h => by
    rw [llBs, Bool.and_eq_true] at h
    rw [partBs]
    simp only [part_ll_same of c false A made h.1, partBs_ll_same of l A made h.2]
theorem partAs_ll_same (of : Str) : ∀ (l : List Alt) (A : Str → Bool) (made : List Sup), llAs l = true → partAs of l A made = (l, made)
  | [], _, _, _ => by rw [partAs]
  | .mk f n s vs c :: l, A, made, h => by
    rw [llAs, Bool.and_eq_true] at h
    rw [partAs]
    simp only [part_ll_same of c false (ext A vs) made h.1, partAs_ll_same of l A made h.2]
end
theorem ll_appVars : ∀ (l : List Str) (c : Core), ll c = true → ll (appVars c l) = true
  | [], _, h => h
  | s :: l, c, h => by
    rw [appVars]
    exact ll_appVars l _ (by simp [appC, varC, ll, llCs, llBs, llAs, h])
theorem setBody_mem {p : Sup → Prop} {c : Core} : ∀ {l : List Sup} {k : Nat}, (∀ x ∈ l, p x) → (∀ x ∈ l, p { x with body := c }) → ∀ x ∈ setBody l k c, p x
  | [], _, _, _, x, hx => by simp [setBody] at hx
  | y :: l, 0, h, hc, x, hx => by
    rcases List.mem_cons.1 hx with rfl | hx
    · exact hc _ List.mem_cons_self
    · exact h x (List.mem_cons_of_mem _ hx)
  | y :: l, k + 1, h, hc, x, hx => by
    rcases List.mem_cons.1 hx with rfl | hx
    · exact h _ List.mem_cons_self
    · exact setBody_mem (fun x hx => h x (List.mem_cons_of_mem _ hx)) (fun x hx => hc x (List.mem_cons_of_mem _ hx)) x hx
theorem setBody_len (c : Core) : ∀ (l : List Sup) (k : Nat), (setBody l k c).length = l.length
  | [], _ => rfl
  | _ :: _, 0 => rfl
  | _ :: l, k + 1 => by simp [setBody, setBody_len c l k]
def AllLl (l : List Sup) : Prop := ∀ x ∈ l, ll x.body = true
mutual
theorem part_ll (of : Str) : ∀ (c : Core) (ch : Bool) (A : Str → Bool) (made : List Sup), AllLl made → ll (partR of ch c A made).1 = true ∧ AllLl (partR of ch c A made).2 ∧ (partR of ch c A made).2.length ≤ made.length + csize c
  | .mk f n s t ks bs al, ch, A, made, h => by
    rw [partR, csize]
    split
    · split
      · have := partK_ll of ks A made h
        exact ⟨this.1, this.2.1, by omega⟩
      · have hp := partK_ll of ks (fun x => decide (x ∈ freeR A (.mk f n s t ks bs al) (fun _ => false) [] ++ (s :: chainNs ks))) (made ++ [⟨fname of made.length, paramsR (freeR A (.mk f n s t ks bs al) (fun _ => false) [] ++ (s :: chainNs ks)), zCore⟩]) (by
          intro x hx
          rcases List.mem_append.1 hx with hx | hx
          · exact h x hx
          · simp only [List.mem_singleton] at hx; subst hx; simp [zCore, ll, llCs, llBs, llAs])
        refine ⟨ll_appVars _ _ (by simp [varC, ll, llCs, llBs, llAs]), setBody_mem hp.2.1 fun x _ => hp.1, ?_⟩
        rw [setBody_len]
        have := hp.2.2
        rw [List.length_append, List.length_singleton] at this
        omega
    · rename_i hf
      have h1 := partBs_ll of bs (ext A (gvs f s bs)) made h
      have h2 := partCs_ll of ks (ext A (gvs f s bs)) _ h1.2.1
      have h3 := partAs_ll of al (ext A (gvs f s bs)) _ h2.2.1
      refine ⟨?_, h3.2.1, by have := h1.2.2; have := h2.2.2; have := h3.2.2; dsimp only; omega⟩
      simp [ll, hf, h1.1, h2.1, h3.1]
theorem partK_ll (of : Str) : ∀ (l : List Core) (A : Str → Bool) (made : List Sup), AllLl made → ll (partK of l A made).1 = true ∧ AllLl (partK of l A made).2 ∧ (partK of l A made).2.length ≤ made.length + csizes l
  | [], _, made, h => by rw [partK]; exact ⟨by simp [zCore, ll, llCs, llBs, llAs], h, by simp⟩
  | c :: l, A, made, h => by
    rw [partK, csizes]
    have := part_ll of c true A made h
    exact ⟨this.1, this.2.1, by omega⟩
theorem partCs_ll (of : Str) : ∀ (l : List Core) (A : Str → Bool) (made : List Sup), AllLl made → llCs (partCs of l A made).1 = true ∧ AllLl (partCs of l A made).2 ∧ (partCs of l A made).2.length ≤ made.length + csizes l
  | [], _, made, h => by rw [partCs]; exact ⟨by rw [llCs], h, by simp⟩
  | c :: l, A, made, h => by
    rw [partCs, csizes]
    have h1 := part_ll of c false A made h
    have h2 := partCs_ll of l A _ h1.2.1
    exact ⟨by rw [llCs, h1.1, h2.1]; rfl, h2.2.1, by have := h1.2.2; have := h2.2.2; dsimp only; omega⟩
theorem partBs_ll (of : Str) : ∀ (l : List Bind) (A : Str → Bool) (made : List Sup), AllLl made → llBs (partBs of l A made).1 = true ∧ AllLl (partBs of l A made).2 ∧ (partBs of l A made).2.length ≤ made.length + bsizes l
  | [], _, made, h => by rw [partBs]; exact ⟨by rw [llBs], h, by simp⟩
  | .mk s t c :: l, A, made, h => by
    rw [partBs, bsizes, bsize]
    have h1 := part_ll of c false A made h
    have h2 := partBs_ll of l A _ h1.2.1
    exact ⟨by rw [llBs, h1.1, h2.1]; rfl, h2.2.1, by have := h1.2.2; have := h2.2.2; dsimp only; omega⟩
theorem partAs_ll (of : Str) : ∀ (l : List Alt) (A : Str → Bool) (made : List Sup), AllLl made → llAs (partAs of l A made).1 = true ∧ AllLl (partAs of l A made).2 ∧ (partAs of l A made).2.length ≤ made.length + asizes l
  | [], _, made, h => by rw [partAs]; exact ⟨by rw [llAs], h, by simp⟩
  | .mk f n s vs c :: l, A, made, h => by
    rw [partAs, asizes, asize]
    have h1 := part_ll of c false (ext A vs) made h
    have h2 := partAs_ll of l A _ h1.2.1
    exact ⟨by rw [llAs, h1.1, h2.1]; rfl, h2.2.1, by have := h1.2.2; have := h2.2.2; dsimp only; omega⟩
end
theorem chainN_lams : ∀ (l : List Str) (c : Core), ll c = true → chainN (lamsR c l) = l
  | [], .mk f n s t ks bs al, h => by
    simp only [ll, Bool.and_eq_true] at h
    rw [lamsR, chainN, if_neg (by simpa using h.1)]
  | s :: l, c, h => by rw [lamsR, chainN, if_pos rfl, chainNs, chainN_lams l c h]
theorem part_lams (of : Str) (A : Str → Bool) (made : List Sup) : ∀ (l : List Str) (c : Core), ll c = true → partR of true (lamsR c l) A made = (c, made)
  | [], c, h => by rw [lamsR]; exact part_ll_same of c true A made h
  | s :: l, c, h => by rw [lamsR, partR, if_pos rfl, if_pos rfl, partK, part_lams of A made l c h]
/-- Combinators are lifted once more: they are the same. -/
theorem lift_again : ∀ (l : List Sup), (∀ x ∈ l, ll x.body = true ∧ onceR x.params = true) → liftR (bindsR l) = l
  | [], _ => rfl
  | x :: l, h => by
    have ih := lift_again l fun y hy => h y (List.mem_cons_of_mem _ hy)
    obtain ⟨h1, h2⟩ := h x List.mem_cons_self
    simp only [liftR, bindsR, List.map_cons, List.flatMap_cons] at ih ⊢
    rw [ih]
    simp only [liftB, Bind.name, Bind.body, part_lams _ _ _ _ _ h1, chainN_lams _ _ h1, paramsR, paramsTo_same _ 0 ((onceR_iff _).1 h2)]
    rfl
/-- Binds as they are lifted here: erased, of names that begin with letters of their own, closed. -/
structure LOk (N0 : Str → Bool) (b : Bind) : Prop where
  ok : okR b.body = true
  sz : csize b.body < 1000000
  cl : clR b.body N0 = true
  ne : b.name ≠ []
theorem liftB_ok {N0 : Str → Bool} {b : Bind} (h : LOk N0 b) : ∃ r new, liftB b = ⟨b.name, paramsR (chainN b.body), r⟩ :: new ∧ new.length < 1000000 ∧ ll r = true ∧ AllLl new ∧ onceR (paramsR (chainN b.body)) = true ∧
    (∀ i x, new[i]? = some x → x.name = fname b.name i) ∧ ∀ N, Le N0 N → Has b.name N 0 new.length → fitsR r (ext N (paramsR (chainN b.body))) = true ∧ SupOk b.name N 0 new := by
  obtain ⟨c1, c2, c3, c4⟩ := chain_mem _ b.body (Nat.le_refl _) h.ok
  have hcl : clR (chainB b.body) (orB N0 fun x => decide (x ∈ chainN b.body)) = true := c4 _ h.cl
  obtain ⟨new, h1, h2⟩ := part_ok b.name N0 b.body true (fun x => decide (x ∈ chainN b.body)) [] h.ok h.sz (by simpa using hcl) (fun x hx => c1 x (of_decide_eq_true hx))
  have hl := part_ll b.name b.body true (fun x => decide (x ∈ chainN b.body)) [] (fun x hx => by simp at hx)
  rw [List.nil_append] at h1
  have hsz := h.sz
  refine ⟨(partR b.name true b.body (fun x => decide (x ∈ chainN b.body)) []).1, new, by rw [liftB, h1], ?_, hl.1, by rw [← h1]; exact hl.2.1, (onceR_iff _).2 (paramsTo_once _ 0 c1 (by omega)), ?_, ?_⟩
  · rw [← h1]; have := hl.2.2; simp only [List.length_nil] at this; omega
  · intro i x hx
    have := (h2 (fun _ => true) (fun _ _ => rfl) (fun _ _ _ => rfl)).2 i x hx
    simpa using this.1
  · intro N hN hH
    obtain ⟨g1, g2⟩ := h2 N hN (by simpa using hH)
    exact ⟨fitsR_mono _ (fun x hx => by
      simp only [orB, ext, Bool.or_eq_true, decide_eq_true_eq] at hx ⊢
      exact hx.imp id (paramsTo_mem _ 0 x)) g1, g2⟩
theorem fname_inj {of : Str} {i j : Nat} (hi : i < 1000000) (hj : j < 1000000) (h : fname of i = fname of j) : i = j := by
  unfold fname at h
  have := dec_inj (by omega) (by omega) (List.append_cancel_left h)
  omega
theorem fname_ne (of : Str) (i : Nat) : of ≠ fname of i := fun h => by
  have := congrArg List.length h
  simp [fname] at this
theorem fname_head {of : Str} (h : of ≠ []) (i : Nat) : (fname of i).head? = of.head? := by
  cases of with
  | nil => exact absurd rfl h
  | cons a of => rfl
theorem liftB_heads {N0 : Str → Bool} {b : Bind} (h : LOk N0 b) : ∀ x ∈ liftB b, x.name.head? = b.name.head? := by
  obtain ⟨r, new, h1, _, _, _, _, h2, _⟩ := liftB_ok h
  rw [h1]
  intro x hx
  rcases List.mem_cons.1 hx with rfl | hx
  · rfl
  · obtain ⟨i, hi⟩ := List.getElem?_of_mem hx
    rw [h2 i x hi, fname_head h.ne]
theorem liftB_once {N0 : Str → Bool} {b : Bind} (h : LOk N0 b) : ((liftB b).map (·.name)).Nodup := by
  obtain ⟨r, new, h1, hlen, _, _, _, h2, _⟩ := liftB_ok h
  rw [h1, List.map_cons, List.nodup_cons]
  constructor
  · intro hm
    obtain ⟨x, hx, he⟩ := List.mem_map.1 hm
    obtain ⟨i, hi⟩ := List.getElem?_of_mem hx
    exact fname_ne b.name i (he.symm.trans (h2 i x hi))
  · refine List.pairwise_iff_getElem.2 fun i j hi hj hij e => ?_
    rw [List.length_map] at hi hj
    have hx : new[i]? = some new[i] := List.getElem?_eq_getElem hi
    have hy : new[j]? = some new[j] := List.getElem?_eq_getElem hj
    rw [List.getElem_map, List.getElem_map, h2 i _ hx, h2 j _ hy] at e
    have := fname_inj (by omega) (by omega) e
    omega
theorem liftR_once {N0 : Str → Bool} : ∀ {l : List Bind}, (∀ b ∈ l, LOk N0 b) → (l.map fun b => b.name.head?).Nodup → ((liftR l).map (·.name)).Nodup
  | [], _, _ => by simp [liftR]
  | b :: l, h, hn => by
    rw [List.map_cons, List.nodup_cons] at hn
    have ih := liftR_once (fun x hx => h x (List.mem_cons_of_mem _ hx)) hn.2
    rw [liftR, List.flatMap_cons, List.map_append, List.nodup_append]
    refine ⟨liftB_once (h b List.mem_cons_self), ih, fun x hx y hy e => ?_⟩
    subst e
    obtain ⟨u, hu, e1⟩ := List.mem_map.1 hx
    obtain ⟨v, hv, e2⟩ := List.mem_map.1 hy
    obtain ⟨c, hc, hv'⟩ := List.mem_flatMap.1 hv
    have h1 := liftB_heads (h b List.mem_cons_self) u hu
    have h2 := liftB_heads (h c (List.mem_cons_of_mem _ hc)) v hv'
    exact hn.1 (List.mem_map.2 ⟨c, hc, by rw [← h2, ← h1, e1, e2]⟩)
/-- What is lifted is checked. -/
theorem lift_check {l : List Bind} (h : ∀ b ∈ l, LOk (fun s => decide (s ∈ l.map Bind.name)) b) (hn : (l.map fun b => b.name.head?).Nodup) : checkR (liftR l) = true ∧ ∀ x ∈ liftR l, ll x.body = true ∧ onceR x.params = true := by
  have key : ∀ x ∈ liftR l, (ll x.body = true ∧ onceR x.params = true) ∧ fitsR x.body (ext (fun s => decide (s ∈ (liftR l).map (·.name))) x.params) = true := by
    intro x hx
    obtain ⟨b, hb, hx'⟩ := List.mem_flatMap.1 hx
    obtain ⟨r, new, h1, hlen, l1, l2, l3, h2, h3⟩ := liftB_ok (h b hb)
    have hsub : ∀ y ∈ liftB b, y.name ∈ (liftR l).map (·.name) := fun y hy => List.mem_map.2 ⟨y, List.mem_flatMap.2 ⟨b, hb, hy⟩, rfl⟩
    have hN : Le (fun s => decide (s ∈ l.map Bind.name)) (fun s => decide (s ∈ (liftR l).map (·.name))) := by
      intro s hs
      simp only [decide_eq_true_eq] at hs ⊢
      obtain ⟨c, hc, rfl⟩ := List.mem_map.1 hs
      obtain ⟨r', new', h1', _⟩ := liftB_ok (h c hc)
      exact List.mem_map.2 ⟨_, List.mem_flatMap.2 ⟨c, hc, by rw [h1']; exact List.mem_cons_self⟩, rfl⟩
    have hH : Has b.name (fun s => decide (s ∈ (liftR l).map (·.name))) 0 new.length := by
      intro k _ hk
      obtain ⟨y, hy⟩ := get_of_lt hk
      have := hsub y (by rw [h1]; exact List.mem_cons_of_mem _ (List.mem_of_getElem? hy))
      rw [h2 k y hy] at this
      simpa using this
    obtain ⟨g1, g2⟩ := h3 _ hN hH
    rw [h1] at hx'
    rcases List.mem_cons.1 hx' with rfl | hx'
    · exact ⟨⟨l1, l3⟩, g1⟩
    · obtain ⟨i, hi⟩ := List.getElem?_of_mem hx'
      obtain ⟨k1, k2, k3⟩ := g2 i x hi
      exact ⟨⟨l2 x hx', k2⟩, k3⟩
  refine ⟨?_, fun x hx => (key x hx).1⟩
  rw [checkR, Bool.and_eq_true]
  refine ⟨(onceR_iff _).2 (liftR_once h hn), List.all_eq_true.2 fun x hx => ?_⟩
  rw [Bool.and_eq_true]
  exact ⟨(key x hx).1.2, (key x hx).2⟩
end Go.Proofs.YtojcjjjpniimiaaDoor
