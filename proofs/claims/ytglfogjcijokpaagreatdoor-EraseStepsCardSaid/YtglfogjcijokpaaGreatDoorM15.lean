/-
  Texts Lw4 to Lf9 in one.
-/
import Derived.Test.YtglfogjcijokpaaGreatDoorM14
open List (append_nil cons_append filter_cons length_append length_cons length_eq_zero_iff length_map length_nil map_congr_left map_cons map_map map_nil map_set mem_append mem_cons mem_cons_of_mem mem_cons_self mem_map mem_of_mem_drop mem_or_eq_of_mem_set mem_singleton nil_append nodup_cons nodup_nil not_mem_nil of_mem_zip set_cons_succ sum_nil zip_cons_cons)
open Nat (le_refl mul_le_mul)
namespace Go.Proofs.YtglfogjcijokpaaGreatDoor
open Go Go.AM
set_option maxRecDepth 20000
set_option maxHeartbeats 4000000
section
variable {a:Str}{u:Ty}
theorem aAf (x y:Ty):fL (.mk 4 0 [] [x,y]) [(a,u)]=.mk 4 0 [] [fL x [(a,u)],fL y [(a,u)]]:=by rw[fL,ψ (by decide),ξ rfl,fW,fW,fW]
theorem aAe (s:Str):fL (.mk 3 0 s []) [(a,u)]=.mk 3 0 s []:=by rw[fL,ψ (by decide),ψ (by decide),ψ (by decide)]
theorem oG (x y:Ty):fL (eE x y) [(a,u)]=eE (fL x [(a,u)]) (fL y [(a,u)]):=by
 unfold eE tapp;rw[aAf,aAf,aAe]
theorem qQ (x:Ty):fL (tLs x) [(a,u)]=tLs (fL x [(a,u)]):=by unfold tLs;rw[aAf,aAe]
theorem aRc (x y:Ty):fL (tPr x y) [(a,u)]=tPr (fL x [(a,u)]) (fL y [(a,u)]):=by unfold tPr;rw[aAf,aAf,aAe]
theorem vJ:fL iZ [(a,u)]=iZ:=aAe _
theorem sK:fL iE [(a,u)]=iE:=aAe _
theorem vI (s:Str):fL (vT s) [(a,u)]=if a=s then u else vT s:=by
 unfold vT;rw[fL,ξ rfl,List.find?_cons];by_cases h:a=s
 ·rw[ξ h,Af h]
 ·rw[ψ h,Ae h];rfl
def rmV (V:List Str) (a:Str):List Str:=V.filter fun x=>decide (¬x=a)
theorem pY {V:List Str}{x:Str}:x∈rmV V a↔x∈V∧¬x=a:=by unfold rmV;simp
theorem TW.sub0 {V:List Str}(hu:TW [] u):∀{t:Ty},TW V t→TW (rmV V a) (fL t [(a,u)]):=by
 intro t h
 induction h with
 | @var s h=>
  show TW (rmV V a) (fL (vT s) [(a,u)]);rw[vI];by_cases e:a=s
  ·rw[ξ e];exact hu.weak fun x hx=>by cases hx
  ·rw[ψ e];exact .var (pY.2 ⟨h,fun e'=>e e'.symm⟩)
 | int=>rw[vJ];exact .int
 | bool=>rw[sK];exact .bool
 | lst _ J=>rw[qQ];exact .lst J
 | pr _ _ q I=>rw[aRc];exact .pr q I
 | fn _ _ q I=>rw[oG];exact .fn q I
theorem TW.sub {V:List Str}{t:Ty}(h:TW V t) (hu:TW [] u):TW (rmV V a) (fL t [(a,u)]):=TW.sub0 hu h
theorem TW.id {V:List Str}(ha:¬a∈V):∀{t:Ty},TW V t→fL t [(a,u)]=t:=by
 intro t h
 induction h with
 | @var s h=>show fL (vT s) [(a,u)]=vT s;rw[vI,ψ fun e=>ha (by rw[e];exact h)]
 | int=>exact vJ
 | bool=>exact sK
 | lst _ J=>rw[qQ,J]
 | pr _ _ q I=>rw[aRc,q,I]
 | fn _ _ q I=>rw[oG,q,I]
theorem aAm {x y:Ty}{z:Str}:z∈tfR (.mk 4 0 [] [x,y])→z∈tfR x∨z∈tfR y:=fun h=>by
 obtain⟨w,hw,q,_⟩:=sL (by decide) h;rcases Ah.1 hw with rfl | hw
 ·exact .inl q
 ·rw[κ.1 hw] at q;exact .inr q
theorem aAl {s z:Str}:¬z∈tfR (.mk 3 0 s []):=fun h=>by
 obtain⟨w,hw,_⟩:=sL (by decide) h;cases hw
theorem TW.tf {V:List Str}:∀{t:Ty},TW V t→∀x∈tfR t,x∈V:=by
 intro t h
 induction h with
 | @var s h=>intro x hx;have hx:x∈tfR (vT s):=hx;rw[aAk,κ] at hx;rw[hx];exact h
 | int=>exact fun x hx=>absurd hx aAl
 | bool=>exact fun x hx=>absurd hx aAl
 | lst _ J=>exact fun x hx=>(aAm hx).elim (fun h=>absurd h aAl) (J x)
 | pr _ _ q I=>exact fun x hx=>(aAm hx).elim (fun h=>(aAm h).elim (fun h=>absurd h aAl) (q x)) (I x)
 | fn _ _ q I=>exact fun x hx=>(aAm hx).elim (fun h=>(aAm h).elim (fun h=>absurd h aAl) (q x)) (I x)
theorem aHc {l:List Str}(h:∀x∈l,x∈([]:List Str)):l=[]:=by
 cases l with
 | nil=>rfl
 | cons x l=>exact absurd (h x φ) (by simp)
theorem TW.closed {t:Ty}(h:TW [] t):tfR t=[]:=aHc h.tf
end
abbrev Env:Type:=Str→Option Ty
def upd (Γ:Env) (s:Str) (u:Ty):Env:=fun y=>if y=s then some u else Γ y
def rmE (Γ:Env) (x:Str):Env:=fun y=>if y=x then none else Γ y
noncomputable def tsE (Γ:Env) (a:Str) (u:Ty):Env:=fun y=>(Γ y).map fun t=>fL t [(a,u)]
def e0:Env:=fun _=>none
def opI:List Str:=[aVc,aU9,aVb,aKk]
def opB:List Str:=[nEq,nLt]
inductive WT:List Str→Env→Core→Ty→Prop
 | var {V:List Str} {Γ:Env} {s:Str} {t:Ty} (h:Γ s=some t):WT V Γ (vC s) t
 | int {V:List Str} {Γ:Env} {n:Int}:WT V Γ (iQ n) iZ
 | bool {V:List Str} {Γ:Env} {b:Bool}:WT V Γ (qR b) iE
 | nil {V:List Str} {Γ:Env} {u:Ty} (h:TW V u):WT V Γ (.mk 6 0 [] u [aCc [78]] [] []) (tLs u)
 | cons {V:List Str} {Γ:Env} {u:Ty} (h:TW V u):WT V Γ (.mk 6 0 [] u [aCc [67]] [] []) (eE u (eE (tLs u) (tLs u)))
 | pair {V:List Str} {Γ:Env} {u w:Ty} (h1:TW V u) (h2:TW V w):WT V Γ (.mk 6 0 [] w [.mk 6 0 [] u [aCc [80]] [] []] [] []) (eE u (eE w (tPr u w)))
 | app {V:List Str} {Γ:Env} {f a:Core} {u t:Ty} (hf:WT V Γ f (eE u t)) (ha:WT V Γ a u):WT V Γ (.mk 4 0 [] zTy [f,a] [] []) t
 | lam {V:List Str} {Γ:Env} {s:Str} {b:Core} {u t:Ty} (hu:TW V u) (hb:WT V (upd Γ s u) b t):WT V Γ (.mk 5 0 s u [b] [] []) (eE u t)
 | tt {V W:List Str} {Γ Δ:Env} {s p:Str} {b:Core} {u t:Ty} (hV:∀x∈W,x∈V) (hΓ:∀x w,Δ x=some w→Γ x=some w∧TW W w) (hs:¬s∈W) (ht:TW W t) (hu:TW V u)
   (hb:WT (s::W) (upd Δ p (vT s)) b t):WT V Γ (.mk 6 0 [] u [.mk 7 0 s zTy [.mk 5 0 p (vT s) [b] [] []] [] []] [] []) (eE u t)
 | lt {V:List Str} {Γ:Env} {s:Str} {b c:Core} {u t:Ty} (hu:TW V u) (hb:WT V (upd Γ s u) b u) (hc:WT V (upd Γ s u) c t):WT V Γ (.mk 8 0 [] zTy [c] [.mk s u b] []) t
 | cbool {V:List Str} {Γ:Env} {c a b:Core} {t:Ty} (ht:TW V t) (hc:WT V Γ c iE) (ha:WT V Γ a t) (hb:WT V Γ b t):WT V Γ (.mk 9 0 [] t [c] [] [.mk 1 0 [84,114,117,101] [] a,.mk 1 0 [70,97,108,115,101] [] b]) t
 | cint {V:List Str} {Γ:Env} {n:Int} {c a b:Core} {t:Ty} (ht:TW V t) (hc:WT V Γ c iZ) (ha:WT V Γ a t) (hb:WT V Γ b t):WT V Γ (.mk 9 0 [] t [c] [] [.mk 2 n [] [] a,.mk 3 0 [] [] b]) t
 | cl1 {V:List Str} {Γ:Env} {x y:Str} {c a:Core} {u t:Ty} (hxy:¬x=y) (ht:TW V t) (hc:WT V Γ c (tLs u)) (ha:WT V (upd (upd Γ x u) y (tLs u)) a t):WT V Γ (.mk 9 0 [] t [c] [] [.mk 1 0 [67] [x,y] a]) t
 | cl2 {V:List Str} {Γ:Env} {x y:Str} {c a b:Core} {u t:Ty} (hxy:¬x=y) (ht:TW V t) (hc:WT V Γ c (tLs u)) (ha:WT V (upd (upd Γ x u) y (tLs u)) a t) (hb:WT V Γ b t):WT V Γ (.mk 9 0 [] t [c] [] [.mk 1 0 [67] [x,y] a,.mk 1 0 [78] [] b]) t
 | cp {V:List Str} {Γ:Env} {x y:Str} {c a:Core} {u w t:Ty} (hxy:¬x=y) (ht:TW V t) (hc:WT V Γ c (tPr u w)) (ha:WT V (upd (upd Γ x u) y w) a t):WT V Γ (.mk 9 0 [] t [c] [] [.mk 1 0 [80] [x,y] a]) t
 | pint {V:List Str} {Γ:Env} {s:Str} {a b:Core} (hs:s∈opI) (ha:WT V Γ a iZ) (hb:WT V Γ b iZ):WT V Γ (.mk 10 0 s zTy [a,b] [] []) iZ
 | pbool {V:List Str} {Γ:Env} {s:Str} {a b:Core} (hs:s∈opB) (ha:WT V Γ a iZ) (hb:WT V Γ b iZ):WT V Γ (.mk 10 0 s zTy [a,b] [] []) iE
 | fail {V:List Str} {Γ:Env} {t:Ty} (ht:TW V t):WT V Γ (.mk 11 0 [] t [] [] []) t
theorem j2 {Γ Δ:Env}(h:∀x w,Γ x=some w→Δ x=some w) (s:Str) (u:Ty):∀x w,upd Γ s u x=some w→upd Δ s u x=some w:=fun x w hx=>by
 unfold upd at hx ⊢;split at hx
 ·rename_i e;rw[ξ e];exact hx
 ·rename_i e;rw[ψ e];exact h x w hx
theorem WT.weak {V:List Str}{Γ:Env}{c:Core}{t:Ty}(h:WT V Γ c t):∀{V':List Str}{Γ':Env},(∀x∈V,x∈V')→(∀x w,Γ x=some w→Γ' x=some w)→WT V' Γ' c t:=by
 induction h with
 | var h=>exact fun _ I=>.var (I _ _ h)
 | int=>exact fun _ _=>.int
 | bool=>exact fun _ _=>.bool
 | nil h=>exact fun q _=>.nil (h.weak q)
 | cons h=>exact fun q _=>.cons (h.weak q)
 | pair h1 h2=>exact fun q _=>.pair (h1.weak q) (h2.weak q)
 | app _ _ J O=>exact fun q I=>.app (J q I) (O q I)
 | lam hu _ Y=>exact fun q I=>.lam (hu.weak q) (Y q (j2 I _ _))
 | tt h1 h2 h3 h4 h5 Z _=>exact fun q I=>.tt (fun x hx=>q x (h1 x hx)) (fun x w hx=>⟨I x w (h2 x w hx).1,(h2 x w hx).2⟩) h3 h4 (h5.weak q) Z
 | lt hu _ _ J O=>exact fun q I=>.lt (hu.weak q) (J q (j2 I _ _)) (O q (j2 I _ _))
 | cbool ht _ _ _ J O W=>exact fun q I=>.cbool (ht.weak q) (J q I) (O q I) (W q I)
 | cint ht _ _ _ J O W=>exact fun q I=>.cint (ht.weak q) (J q I) (O q I) (W q I)
 | cl1 hxy ht _ _ J O=>exact fun q I=>.cl1 hxy (ht.weak q) (J q I) (O q (j2 (j2 I _ _) _ _))
 | cl2 hxy ht _ _ _ J O W=>exact fun q I=>.cl2 hxy (ht.weak q) (J q I) (O q (j2 (j2 I _ _) _ _)) (W q I)
 | cp hxy ht _ _ J O=>exact fun q I=>.cp hxy (ht.weak q) (J q I) (O q (j2 (j2 I _ _) _ _))
 | pint hs _ _ J O=>exact fun q I=>.pint hs (J q I) (O q I)
 | pbool hs _ _ J O=>exact fun q I=>.pbool hs (J q I) (O q I)
 | fail ht=>exact fun q _=>.fail (ht.weak q)
theorem WT.closed {c:Core}{t:Ty}(h:WT [] e0 c t) {V:List Str}{Γ:Env}:WT V Γ c t:=h.weak (fun x hx=>by cases hx) fun x w hx=>by cases hx
theorem aS {Γ:Env}{s x:Str}{u:Ty}(h:¬x=s):upd Γ s u x=Γ x:=by unfold upd;rw[ψ h]
theorem WT.free {V:List Str}{Γ:Env}{c:Core}{t:Ty}(h:WT V Γ c t):∀x∈pfR c,¬Γ x=none:=by
 induction h with
 | @var V Γ s t h=>intro x hx;rw[aXi,κ] at hx;rw[hx,h];simp
 | int=>intro x hx;cases hx
 | bool=>intro x hx;cases hx
 | nil h=>intro x hx;cases hx
 | cons h=>intro x hx;cases hx
 | pair h1 h2=>intro x hx;cases hx
 | app _ _ J O=>
  intro x hx;rcases(dC (by decide)).1 hx with⟨p,hp,I,_⟩ | ⟨a,ha,_⟩
  ·rcases χ.1 hp with hp | hp
   ·rcases Ah.1 hp with rfl | hp
    ·exact J x I
    ·rw[κ.1 hp] at I;exact O x I
   ·cases hp
  ·cases ha
 | lam hu _ ih=>
  intro x hx;rcases(dC (by decide)).1 hx with⟨p,hp,I,hg⟩ | ⟨a,ha,_⟩
  ·rcases χ.1 hp with hp | hp
   ·rw[κ.1 hp] at I;have:=ih x I;rwa [aS (fun e=>hg (by rw[e];simp[gvN]))] at this
   ·cases hp
  ·cases ha
 | @tt V W Γ Δ s p b u t h1 h2 h3 h4 h5 h6 ih=>
  intro x hx;rcases(dC (by decide)).1 hx with⟨q,hp,I,_⟩ | ⟨a,ha,_⟩
  ·rcases χ.1 hp with hp | hp
   ·rw[κ.1 hp] at I;rcases(dC (by decide)).1 I with⟨q,hp,I,_⟩ | ⟨a,ha,_⟩
    ·rcases χ.1 hp with hp | hp
     ·rw[κ.1 hp] at I;rcases(dC (by decide)).1 I with⟨q,hp,I,hg⟩ | ⟨a,ha,_⟩
      ·rcases χ.1 hp with hp | hp
       ·rw[κ.1 hp] at I;have:=ih x I;rw[aS (fun e=>hg (by rw[e];simp[gvN]))] at this;intro e;cases hd:Δ x with
        | none=>exact this hd
        | some w=>rw[(h2 x w hd).1] at e;cases e
       ·cases hp
      ·cases ha
     ·cases hp
    ·cases ha
   ·cases hp
  ·cases ha
 | @lt V Γ s b c u t hu _ _ J O=>
  intro x hx;rcases(dC (by decide)).1 hx with⟨p,hp,I,hg⟩ | ⟨a,ha,_⟩
  ·have hne:¬x=s:=fun e=>hg (by rw[e];simp[gvN,Bind.name])
   rcases χ.1 hp with hp | hp
   ·rw[κ.1 hp] at I;have:=O x I;rwa [aS hne] at this
   ·rw[κ.1 hp] at I;have:=J x I;rwa [aS hne] at this
  ·cases ha
 | cbool ht _ _ _ J O aa=>
  intro x hx;rcases(dC (by decide)).1 hx with⟨p,hp,I,_⟩ | ⟨a,ha,Y,_⟩
  ·rcases χ.1 hp with hp | hp
   ·rw[κ.1 hp] at I;exact J x I
   ·cases hp
  ·rcases Ah.1 ha with rfl | ha
   ·exact O x Y
   ·rw[κ.1 ha] at Y;exact aa x Y
 | cint ht _ _ _ J O aa=>
  intro x hx;rcases(dC (by decide)).1 hx with⟨p,hp,I,_⟩ | ⟨a,ha,Y,_⟩
  ·rcases χ.1 hp with hp | hp
   ·rw[κ.1 hp] at I;exact J x I
   ·cases hp
  ·rcases Ah.1 ha with rfl | ha
   ·exact O x Y
   ·rw[κ.1 ha] at Y;exact aa x Y
 | cl1 hxy ht _ _ J O=>
  intro x hx;rcases(dC (by decide)).1 hx with⟨p,hp,I,_⟩ | ⟨a,ha,Y,Z⟩
  ·rcases χ.1 hp with hp | hp
   ·rw[κ.1 hp] at I;exact J x I
   ·cases hp
  ·rw[κ.1 ha] at Y Z;have:=O x Y;rwa [aS (fun e=>Z (by rw[e];simp[Alt.vars])),aS (fun e=>Z (by rw[e];simp[Alt.vars]))] at this
 | cl2 hxy ht _ _ _ J O aa=>
  intro x hx;rcases(dC (by decide)).1 hx with⟨p,hp,I,_⟩ | ⟨a,ha,Y,Z⟩
  ·rcases χ.1 hp with hp | hp
   ·rw[κ.1 hp] at I;exact J x I
   ·cases hp
  ·rcases Ah.1 ha with rfl | ha
   ·have:=O x Y;rwa [aS (fun e=>Z (by rw[e];simp[Alt.vars])),aS (fun e=>Z (by rw[e];simp[Alt.vars]))] at this
   ·rw[κ.1 ha] at Y;exact aa x Y
 | cp hxy ht _ _ J O=>
  intro x hx;rcases(dC (by decide)).1 hx with⟨p,hp,I,_⟩ | ⟨a,ha,Y,Z⟩
  ·rcases χ.1 hp with hp | hp
   ·rw[κ.1 hp] at I;exact J x I
   ·cases hp
  ·rw[κ.1 ha] at Y Z;have:=O x Y;rwa [aS (fun e=>Z (by rw[e];simp[Alt.vars])),aS (fun e=>Z (by rw[e];simp[Alt.vars]))] at this
 | pint hs _ _ J O=>
  intro x hx;rcases(dC (by decide)).1 hx with⟨p,hp,I,_⟩ | ⟨a,ha,_⟩
  ·rcases χ.1 hp with hp | hp
   ·rcases Ah.1 hp with rfl | hp
    ·exact J x I
    ·rw[κ.1 hp] at I;exact O x I
   ·cases hp
  ·cases ha
 | pbool hs _ _ J O=>
  intro x hx;rcases(dC (by decide)).1 hx with⟨p,hp,I,_⟩ | ⟨a,ha,_⟩
  ·rcases χ.1 hp with hp | hp
   ·rcases Ah.1 hp with rfl | hp
    ·exact J x I
    ·rw[κ.1 hp] at I;exact O x I
   ·cases hp
  ·cases ha
 | fail ht=>intro x hx;cases hx
theorem WT.pf {c:Core}{t:Ty}(h:WT [] e0 c t):pfR c=[]:=aHc fun x hx=>absurd rfl (h.free x hx)
theorem a7c:tfR zTy=[]:=rfl
theorem WT.types {V:List Str}{Γ:Env}{c:Core}{t:Ty}(h:WT V Γ c t):∀x∈tyR c,x∈V:=by
 have z:∀{x:Str},¬x∈tfR zTy:=fun h=>by rw[a7c] at h;cases h
 induction h with
 | var h=>intro x hx;cases hx
 | int=>intro x hx;cases hx
 | bool=>intro x hx;cases hx
 | nil h=>
  intro x hx;rcases bF.1 hx with q | ⟨k,hk,q,_⟩ | ⟨k,hk,_⟩ | ⟨k,hk,_⟩
  ·exact h.tf x q
  ·rw[κ.1 hk] at q;cases q
  ·cases hk
  ·cases hk
 | cons h=>
  intro x hx;rcases bF.1 hx with q | ⟨k,hk,q,_⟩ | ⟨k,hk,_⟩ | ⟨k,hk,_⟩
  ·exact h.tf x q
  ·rw[κ.1 hk] at q;cases q
  ·cases hk
  ·cases hk
 | pair h1 h2=>
  intro x hx;rcases bF.1 hx with q | ⟨k,hk,q,_⟩ | ⟨k,hk,_⟩ | ⟨k,hk,_⟩
  ·exact h2.tf x q
  ·rw[κ.1 hk] at q;rcases bF.1 q with q | ⟨k,hk,q,_⟩ | ⟨k,hk,_⟩ | ⟨k,hk,_⟩
   ·exact h1.tf x q
   ·rw[κ.1 hk] at q;cases q
   ·cases hk
   ·cases hk
  ·cases hk
  ·cases hk
 | app _ _ I J=>
  intro x hx;rcases bF.1 hx with q | ⟨k,hk,q,_⟩ | ⟨k,hk,_⟩ | ⟨k,hk,_⟩
  ·exact absurd q z
  ·rcases Ah.1 hk with rfl | hk
   ·exact I x q
   ·rw[κ.1 hk] at q;exact J x q
  ·cases hk
  ·cases hk
 | lam hu _ Y=>
  intro x hx;rcases bF.1 hx with q | ⟨k,hk,q,_⟩ | ⟨k,hk,_⟩ | ⟨k,hk,_⟩
  ·exact hu.tf x q
  ·rw[κ.1 hk] at q;exact Y x q
  ·cases hk
  ·cases hk
 | @tt V W Γ Δ s p b u t h1 h2 h3 h4 h5 Z Y=>
  intro x hx;rcases bF.1 hx with q | ⟨k,hk,q,_⟩ | ⟨k,hk,_⟩ | ⟨k,hk,_⟩
  ·exact h5.tf x q
  ·rw[κ.1 hk] at q;rcases bF.1 q with q | ⟨k,hk,q,hs⟩ | ⟨k,hk,_⟩ | ⟨k,hk,_⟩
   ·exact absurd q z
   ·have hs:=hs.resolve_left (fun e=>e rfl);rw[κ.1 hk] at q;rcases bF.1 q with q | ⟨k,hk,q,_⟩ | ⟨k,hk,_⟩ | ⟨k,hk,_⟩
    ·rw[aAk,κ] at q;exact absurd q hs
    ·rw[κ.1 hk] at q;exact h1 x ((Ah.1 (Y x q)).resolve_left hs)
    ·cases hk
    ·cases hk
   ·cases hk
   ·cases hk
  ·cases hk
  ·cases hk
 | lt hu _ _ I J=>
  intro x hx;rcases bF.1 hx with q | ⟨k,hk,q,_⟩ | ⟨k,hk,q | q⟩ | ⟨k,hk,_⟩
  ·exact absurd q z
  ·rw[κ.1 hk] at q;exact J x q
  ·rw[κ.1 hk] at q;exact hu.tf x q
  ·rw[κ.1 hk] at q;exact I x q
  ·cases hk
 | cbool ht _ _ _ I J O=>
  intro x hx;rcases bF.1 hx with q | ⟨k,hk,q,_⟩ | ⟨k,hk,_⟩ | ⟨k,hk,q⟩
  ·exact ht.tf x q
  ·rw[κ.1 hk] at q;exact I x q
  ·cases hk
  ·rcases Ah.1 hk with rfl | hk
   ·exact J x q
   ·rw[κ.1 hk] at q;exact O x q
 | cint ht _ _ _ I J O=>
  intro x hx;rcases bF.1 hx with q | ⟨k,hk,q,_⟩ | ⟨k,hk,_⟩ | ⟨k,hk,q⟩
  ·exact ht.tf x q
  ·rw[κ.1 hk] at q;exact I x q
  ·cases hk
  ·rcases Ah.1 hk with rfl | hk
   ·exact J x q
   ·rw[κ.1 hk] at q;exact O x q
 | cl1 hxy ht _ _ I J=>
  intro x hx;rcases bF.1 hx with q | ⟨k,hk,q,_⟩ | ⟨k,hk,_⟩ | ⟨k,hk,q⟩
  ·exact ht.tf x q
  ·rw[κ.1 hk] at q;exact I x q
  ·cases hk
  ·rw[κ.1 hk] at q;exact J x q
 | cl2 hxy ht _ _ _ I J O=>
  intro x hx;rcases bF.1 hx with q | ⟨k,hk,q,_⟩ | ⟨k,hk,_⟩ | ⟨k,hk,q⟩
  ·exact ht.tf x q
  ·rw[κ.1 hk] at q;exact I x q
  ·cases hk
  ·rcases Ah.1 hk with rfl | hk
   ·exact J x q
   ·rw[κ.1 hk] at q;exact O x q
 | cp hxy ht _ _ I J=>
  intro x hx;rcases bF.1 hx with q | ⟨k,hk,q,_⟩ | ⟨k,hk,_⟩ | ⟨k,hk,q⟩
  ·exact ht.tf x q
  ·rw[κ.1 hk] at q;exact I x q
  ·cases hk
  ·rw[κ.1 hk] at q;exact J x q
 | pint hs _ _ I J=>
  intro x hx;rcases bF.1 hx with q | ⟨k,hk,q,_⟩ | ⟨k,hk,_⟩ | ⟨k,hk,_⟩
  ·exact absurd q z
  ·rcases Ah.1 hk with rfl | hk
   ·exact I x q
   ·rw[κ.1 hk] at q;exact J x q
  ·cases hk
  ·cases hk
 | pbool hs _ _ I J=>
  intro x hx;rcases bF.1 hx with q | ⟨k,hk,q,_⟩ | ⟨k,hk,_⟩ | ⟨k,hk,_⟩
  ·exact absurd q z
  ·rcases Ah.1 hk with rfl | hk
   ·exact I x q
   ·rw[κ.1 hk] at q;exact J x q
  ·cases hk
  ·cases hk
 | fail ht=>
  intro x hx;rcases bF.1 hx with q | ⟨k,hk,q,_⟩ | ⟨k,hk,_⟩ | ⟨k,hk,_⟩
  ·exact ht.tf x q
  ·cases hk
  ·cases hk
  ·cases hk
theorem WT.ty {c:Core}{t:Ty}(h:WT [] e0 c t):tyR c=[]:=aHc h.types
section
variable {Γ:Env}{x s y:Str}{u w:Ty}
theorem sW (h:¬x=s):rmE (upd Γ s u) x=upd (rmE Γ x) s u:=by
 funext z;simp only[rmE,upd];by_cases e:z=x
 ·rw[ξ e,ψ (fun e'=>h (e.symm.trans e')),ξ e]
 ·rw[ψ e,ψ e]
theorem aFt:upd (rmE Γ s) s u=upd Γ s u:=by
 funext z;simp only[rmE,upd];by_cases e:z=s
 ·rw[ξ e,ξ e]
 ·rw[ψ e,ψ e,ψ e]
theorem aDk (h:x=s∨x=y):upd (upd (rmE Γ x) s u) y w=upd (upd Γ s u) y w:=by
 funext z;simp only[rmE,upd];by_cases e:z=y
 ·rw[ξ e,ξ e]
 ·rw[ψ e,ψ e];by_cases q:z=s
  ·rw[ξ q,ξ q]
  ·rw[ψ q,ψ q,ψ];rcases h with h | h
   ·rw[h];exact q
   ·rw[h];exact e
theorem aD7 (h1:¬x=s) (h2:¬x=y):rmE (upd (upd Γ s u) y w) x=upd (upd (rmE Γ x) s u) y w:=by rw[sW h2,sW h1]
theorem aDl (h1:¬x=s) (h2:¬x=y):upd (upd Γ s u) y w x=Γ x:=by rw[aS h2,aS h1]
end
section
variable {x:Str}{b:Core}
theorem aXu (n:Int):nS (iQ n) x b=iQ n:=by unfold iQ;rw[gV (by decide)];simp[gvN]
theorem yI (s:Str):nS (aCc s) x b=aCc s:=by unfold aCc;rw[gV (by decide)];simp[gvN]
theorem wF {f n:Int}{s:Str}{t:Ty}{k:Core}(h1:¬f=1) (h5:¬f=5):nS (.mk f n s t [k] [] []) x b=.mk f n s t [nS k x b] [] []:=by rw[gV h1];simp[gvN,h5]
theorem aNl {f n:Int}{s:Str}{t:Ty}{k l:Core}(h1:¬f=1) (h5:¬f=5):nS (.mk f n s t [k,l] [] []) x b=.mk f n s t [nS k x b,nS l x b] [] []:=by rw[gV h1];simp[gvN,h5]
theorem aVa {n:Int}{s:Str}{t:Ty}{k:Core}:nS (.mk 5 n s t [k] [] []) x b=.mk 5 n s t [if x=s then k else nS k x b] [] []:=by
 rw[gV (by decide)];by_cases e:x=s
 ·simp[gvN,e]
 ·simp[gvN,e]
theorem a17 {n:Int}{s z:Str}{t u:Ty}{k l:Core}:nS (.mk 8 n s t [k] [.mk z u l] []) x b=.mk 8 n s t [if x=z then k else nS k x b] [.mk z u (if x=z then l else nS l x b)] []:=by
 rw[gV (by decide)];by_cases e:x=z
 ·simp[gvN,e,Bind.name]
 ·simp[gvN,e,Bind.name,nSB,Bind.ty,Bind.body]
theorem tU {n:Int}{s:Str}{t:Ty}{k:Core}{al:List Alt}:nS (.mk 9 n s t [k] [] al) x b=.mk 9 n s t [nS k x b] [] (al.map (nSA x b)):=by
 rw[gV (by decide)];simp[gvN]
theorem qW {f n:Int}{s:Str}{v:List Str}{c:Core}:nSA x b (.mk f n s v c)=.mk f n s v (if x∈v then c else nS c x b):=rfl
end
theorem WT.put {V:List Str}{Γ:Env}{c:Core}{t:Ty}(h:WT V Γ c t):∀{x:Str}{b:Core},(∀u,Γ x=some u→WT [] e0 b u)→WT V (rmE Γ x) (nS c x b) t:=by
 induction h with
 | @var V Γ s t h=>
  intro x b hb;unfold vC;rw[nS,ξ rfl];by_cases e:s=x
  ·rw[ξ e];exact(hb t (by rw[←e];exact h)).closed
  ·rw[ψ e];exact .var (by unfold rmE;rw[ψ e];exact h)
 | int=>intro x b hb;rw[aXu];exact .int
 | bool=>intro x b hb;unfold qR;rw[yI];exact .bool
 | nil h=>intro x b hb;rw[wF (by decide) (by decide),yI];exact .nil h
 | cons h=>intro x b hb;rw[wF (by decide) (by decide),yI];exact .cons h
 | pair h1 h2=>intro x b hb;rw[wF (by decide) (by decide),wF (by decide) (by decide),yI];exact .pair h1 h2
 | app _ _ q I=>intro x b hb;rw[aNl (by decide) (by decide)];exact .app (q hb) (I hb)
 | @lam V Γ s c u t hu h ih=>
  intro x b hb;rw[aVa];by_cases e:x=s
  ·subst e;rw[ξ rfl];exact .lam hu (by rw[aFt];exact h)
  ·rw[ψ e];refine .lam hu ?_;rw[←sW e];exact ih fun O J=>hb O (by rw[aS e] at J;exact J)
 | @tt V W Γ Δ s p c u t h1 h2 h3 h4 h5 h6 ih=>
  intro x b hb;rw[wF (by decide) (by decide),wF (by decide) (by decide),aVa];have hΔ:∀z w,rmE Δ x z=some w→rmE Γ x z=some w∧TW W w:=fun z w hz=>by
   unfold rmE at hz ⊢;by_cases e:z=x
   ·rw[ξ e] at hz;cases hz
   ·rw[ψ e] at hz ⊢;exact h2 z w hz
  by_cases e:x=p
  ·subst e;rw[ξ rfl];exact .tt h1 hΔ h3 h4 h5 (by rw[aFt];exact h6)
  ·rw[ψ e];refine .tt h1 hΔ h3 h4 h5 ?_;rw[←sW e];exact ih fun O J=>hb O (by rw[aS e] at J;exact(h2 x O J).1)
 | @lt V Γ s c d u t hu h1 h2 q I=>
  intro x b hb;rw[a17];by_cases e:x=s
  ·subst e;rw[ξ rfl,ξ rfl];exact .lt hu (by rw[aFt];exact h1) (by rw[aFt];exact h2)
  ·rw[ψ e,ψ e];have hb':∀O,upd Γ s u x=some O→WT [] e0 b O:=fun O J=>hb O (by rw[aS e] at J;exact J)
   refine .lt hu ?_ ?_
   ·rw[←sW e];exact q hb'
   ·rw[←sW e];exact I hb'
 | cbool ht _ _ _ q I Z=>
  intro x b hb;rw[tU,Al,Al,Bj,qW,qW,ψ (by simp),ψ (by simp)];exact .cbool ht (q hb) (I hb) (Z hb)
 | cint ht _ _ _ q I Z=>
  intro x b hb;rw[tU,Al,Al,Bj,qW,qW,ψ (by simp),ψ (by simp)];exact .cint ht (q hb) (I hb) (Z hb)
 | @cl1 V Γ y z c a u t Y ht h1 h2 q I=>
  intro x b hb;rw[tU,Al,Bj,qW];by_cases e:x∈[y,z]
  ·rw[ξ e];exact .cl1 Y ht (q hb) (by rw[aDk (by simpa using e)];exact h2)
  ·rw[ψ e];have e1:¬x=y:=fun h=>e (by rw[h];simp)
   have e2:¬x=z:=fun h=>e (by rw[h];simp)
   refine .cl1 Y ht (q hb) ?_;rw[←aD7 e1 e2];exact I fun O J=>hb O (by rw[aDl e1 e2] at J;exact J)
 | @cl2 V Γ y z c a d u t Y ht h1 h2 h3 q I Z=>
  intro x b hb;rw[tU,Al,Al,Bj,qW,qW,ψ (show ¬x∈([]:List Str) by simp)];by_cases e:x∈[y,z]
  ·rw[ξ e];exact .cl2 Y ht (q hb) (by rw[aDk (by simpa using e)];exact h2) (Z hb)
  ·rw[ψ e];have e1:¬x=y:=fun h=>e (by rw[h];simp)
   have e2:¬x=z:=fun h=>e (by rw[h];simp)
   refine .cl2 Y ht (q hb) ?_ (Z hb);rw[←aD7 e1 e2];exact I fun O J=>hb O (by rw[aDl e1 e2] at J;exact J)
 | @cp V Γ y z c a u w t Y ht h1 h2 q I=>
  intro x b hb;rw[tU,Al,Bj,qW];by_cases e:x∈[y,z]
  ·rw[ξ e];exact .cp Y ht (q hb) (by rw[aDk (by simpa using e)];exact h2)
  ·rw[ψ e];have e1:¬x=y:=fun h=>e (by rw[h];simp)
   have e2:¬x=z:=fun h=>e (by rw[h];simp)
   refine .cp Y ht (q hb) ?_;rw[←aD7 e1 e2];exact I fun O J=>hb O (by rw[aDl e1 e2] at J;exact J)
 | pint hs _ _ q I=>intro x b hb;rw[aNl (by decide) (by decide)];exact .pint hs (q hb) (I hb)
 | pbool hs _ _ q I=>intro x b hb;rw[aNl (by decide) (by decide)];exact .pbool hs (q hb) (I hb)
 | fail ht=>
  intro x b hb;rw[gV (by decide)];simp only[gvN,Bj,A8,ite_self];exact .fail ht
section
variable {a:Str}{u0:Ty}
theorem nL {Γ:Env}{s:Str}{u:Ty}:tsE (upd Γ s u) a u0=upd (tsE Γ a u0) s (fL u [(a,u0)]):=by
 funext z;unfold tsE upd;by_cases e:z=s
 ·rw[ξ e,ξ e];rfl
 ·rw[ψ e,ψ e]
theorem kF {f n:Int}{s:Str}{t:Ty}{ks:List Core}{al:List Alt}(q:¬f=7):nT (.mk f n s t ks [] al) a u0=.mk f n s (fL t [(a,u0)]) (ks.map fun x=>nT x a u0) [] (al.map fun b=>.mk b.form b.n b.name b.vars (nT b.body a u0)):=by
 rw[aJq fun e=>q e.1,gH];rfl
theorem a16 {n:Int}{s:Str}{t:Ty}{ks:List Core}(q:¬s=a):nT (.mk 7 n s t ks [] []) a u0=.mk 7 n s (fL t [(a,u0)]) (ks.map fun x=>nT x a u0) [] []:=by
 rw[aJq fun e=>q e.2,gH];rfl
theorem yG (s:Str):nT (aCc s) a u0=aCc s:=by unfold aCc;rw[kF (by decide),jP];rfl
theorem aXt (n:Int):nT (iQ n) a u0=iQ n:=by unfold iQ;rw[kF (by decide),jP];rfl
theorem WT.tput {V:List Str}{Γ:Env}{c:Core}{t:Ty}(h:WT V Γ c t) (J:TW [] u0):WT (rmV V a) (tsE Γ a u0) (nT c a u0) (fL t [(a,u0)]):=by
 induction h with
 | @var V Γ s t h=>
  unfold vC;rw[kF (by decide),jP];exact .var (by unfold tsE;rw[h];rfl)
 | int=>rw[aXt,vJ];exact .int
 | bool=>unfold qR;rw[yG,sK];exact .bool
 | nil h=>rw[kF (by decide),Al,Bj,yG,qQ];exact .nil (h.sub J)
 | cons h=>rw[kF (by decide),Al,Bj,yG,oG,oG,qQ];exact .cons (h.sub J)
 | pair h1 h2=>
  rw[kF (by decide),Al,Bj,kF (by decide),Al,Bj,yG,oG,oG,aRc];exact .pair (h1.sub J) (h2.sub J)
 | app _ _ q I=>
  rw[oG] at q;rw[kF (by decide),jP];exact .app q I
 | lam hu _ Y=>
  rw[nL] at Y;rw[kF (by decide),oG];exact .lam (hu.sub J) Y
 | @tt V W Γ Δ s p c u t h1 h2 h3 h4 h5 Z Y=>
  rw[kF (by decide),oG,Al,Bj];by_cases e:s=a
  ·subst e;rw[nT,ξ ⟨rfl,rfl⟩,h4.id h3];refine .tt (fun x hx=>pY.2 ⟨h1 x hx,fun e=>h3 (by rw[←e];exact hx)⟩) (fun x w hx=>⟨?_,(h2 x w hx).2⟩) h3 h4 (h5.sub J) Z;unfold tsE;rw[(h2 x w hx).1];show some (fL w [(s,u0)])=some w;rw[(h2 x w hx).2.id h3]
  ·have e':¬a=s:=fun h=>e h.symm
   rw[a16 e,jP,Al,Bj,kF (by decide),vI,ψ e',Al,Bj];rw[nL,vI,ψ e',show rmV (s::W) a=s::rmV W a by unfold rmV;rw[Cu,ξ (by simpa using e)]] at Y;refine .tt (fun x hx=>pY.2 ⟨h1 x (pY.1 hx).1,(pY.1 hx).2⟩) (fun x w hx=>?_) (fun hs=>h3 (pY.1 hs).1) (h4.sub J) (h5.sub J) Y;unfold tsE at hx ⊢;cases hd:Δ x with
   | none=>rw[hd] at hx;cases hx
   | some w0=>
    rw[hd] at hx;cases hx;rw[(h2 x w0 hd).1];exact⟨rfl,(h2 x w0 hd).2.sub J⟩
 | lt hu _ _ q I=>
  rw[nL] at q I;rw[aJq (fun e=>absurd e.1 (by decide)),gH,jP];exact .lt (hu.sub J) q I
 | cbool ht _ _ _ q I O=>rw[sK] at q;rw[kF (by decide)];exact .cbool (ht.sub J) q I O
 | cint ht _ _ _ q I O=>rw[vJ] at q;rw[kF (by decide)];exact .cint (ht.sub J) q I O
 | cl1 hxy ht _ _ q I=>rw[qQ] at q;rw[nL,nL,qQ] at I;rw[kF (by decide)];exact .cl1 hxy (ht.sub J) q I
 | cl2 hxy ht _ _ _ q I O=>rw[qQ] at q;rw[nL,nL,qQ] at I;rw[kF (by decide)];exact .cl2 hxy (ht.sub J) q I O
 | cp hxy ht _ _ q I=>rw[aRc] at q;rw[nL,nL] at I;rw[kF (by decide)];exact .cp hxy (ht.sub J) q I
 | pint hs _ _ q I=>rw[vJ] at q I ⊢;rw[kF (by decide),jP];exact .pint hs q I
 | pbool hs _ _ q I=>rw[vJ] at q I;rw[sK,kF (by decide),jP];exact .pbool hs q I
 | fail ht=>rw[kF (by decide)];exact .fail (ht.sub J)
end
theorem mX {a b c d:Ty}(h:eE a b=eE c d):a=c∧b=d:=by
 simpa [eE,tapp] using h
theorem aLm {a b:Ty}(h:tLs a=tLs b):a=b:=by simpa [tLs] using h
theorem aWt {a b c d:Ty}(h:tPr a b=tPr c d):a=c∧b=d:=by simpa [tPr] using h
theorem jU {a b:Ty}:¬eE a b=iE:=by simp[eE,tapp,iE]
theorem gC {a b:Ty}:¬eE a b=iZ:=by simp[eE,tapp,iZ]
theorem fZ {a b c:Ty}:¬eE a b=tLs c:=by simp[eE,tapp,tLs]
theorem qZ {a b c d:Ty}:¬eE a b=tPr c d:=by simp[eE,tapp,tPr,arrow]
theorem aHs {a c d:Ty}:¬tLs a=tPr c d:=by simp[tLs,tPr]
theorem rY {a:Ty}:¬tLs a=iE:=by simp[tLs,iE]
theorem qA {a:Ty}:¬tLs a=iZ:=by simp[tLs,iZ]
theorem aMo {a b:Ty}:¬tPr a b=iE:=by simp[tPr,iE]
theorem aMn {a b:Ty}:¬tPr a b=iZ:=by simp[tPr,iZ]
theorem zR:¬iE=iZ:=by simp[iE,iZ]
inductive CN (V:List Str) (Γ:Env) (s:Str) (l:List Core) (t:Ty):Prop
 | b (v:Bool) (hs:s=(qR v).name) (hl:l=[]) (ht:t=iE)
 | n (u:Ty) (hs:s=[78]) (hl:l=[]) (ht:t=tLs u)
 | c0 (u:Ty) (hs:s=[67]) (hl:l=[]) (ht:t=eE u (eE (tLs u) (tLs u)))
 | c1 (u:Ty) (a:Core) (hs:s=[67]) (hl:l=[a]) (ht:t=eE (tLs u) (tLs u)) (ha:WT V Γ a u)
 | c2 (u:Ty) (a b:Core) (hs:s=[67]) (hl:l=[a,b]) (ht:t=tLs u) (ha:WT V Γ a u) (hb:WT V Γ b (tLs u))
 | p0 (u w:Ty) (hs:s=[80]) (hl:l=[]) (ht:t=eE u (eE w (tPr u w)))
 | p1 (u w:Ty) (a:Core) (hs:s=[80]) (hl:l=[a]) (ht:t=eE w (tPr u w)) (ha:WT V Γ a u)
 | p2 (u w:Ty) (a b:Core) (hs:s=[80]) (hl:l=[a,b]) (ht:t=tPr u w) (ha:WT V Γ a u) (hb:WT V Γ b w)
theorem lM (s:Str):gvC (aCc s)=some (s,[]):=by unfold aCc;rw[gvC,ξ rfl]
theorem aHx {f a:Core}:gvC (.mk 4 0 [] zTy [f,a] [] [])=(gvC f).map fun p=>(p.1,p.2++[a]):=by rw[gvC,ψ (by decide),ξ rfl,gvH];rfl
theorem iF {n:Int}{s:Str}{t:Ty}{k:Core}{bs:List Bind}{al:List Alt}:gvC (.mk 6 n s t [k] bs al)=gvC k:=by rw[gvC,ψ (by decide),ψ (by decide),ξ rfl,gvH]
theorem fO {f n:Int}{s:Str}{t:Ty}{ks:List Core}{bs:List Bind}{al:List Alt}(h2:¬f=2) (h4:¬f=4) (q:¬f=6):gvC (.mk f n s t ks bs al)=none:=by rw[gvC,ψ h2,ψ h4,ψ q]
theorem WT.cn {V:List Str}{Γ:Env}{c:Core}{t:Ty}(h:WT V Γ c t):∀{s:Str}{l:List Core},gvC c=some (s,l)→CN V Γ s l t:=by
 induction h with
 | var h=>intro s l q;unfold vC at q;rw[fO (by decide) (by decide) (by decide)] at q;cases q
 | int=>intro s l q;unfold iQ at q;rw[fO (by decide) (by decide) (by decide)] at q;cases q
 | @bool V Γ v=>intro s l q;unfold qR at q;rw[lM] at q;cases q;exact .b v rfl rfl rfl
 | nil h=>intro s l q;rw[iF,lM] at q;cases q;exact .n _ rfl rfl rfl
 | cons h=>intro s l q;rw[iF,lM] at q;cases q;exact .c0 _ rfl rfl rfl
 | pair h1 h2=>intro s l q;rw[iF,iF,lM] at q;cases q;exact .p0 _ _ rfl rfl rfl
 | @app V Γ f a u t hf ha W _=>
  intro s l q;rw[aHx] at q;obtain⟨⟨s',l'⟩,Z,e2⟩:=Bp.1 q;cases e2;cases W Z with
  | b v hs hl ht=>exact absurd ht jU
  | n u hs hl ht=>exact absurd ht fZ
  | c0 J hs hl ht=>
   obtain⟨rfl,rfl⟩:=mX ht;exact .c1 _ a hs (by rw[show l'=[] from hl];rfl) rfl ha
  | c1 J O hs hl ht I=>
   obtain⟨rfl,rfl⟩:=mX ht;exact .c2 J O a hs (by rw[show l'=[O] from hl];rfl) rfl I ha
  | c2 J O b' hs hl ht I Y=>exact absurd ht fZ
  | p0 J w' hs hl ht=>
   obtain⟨rfl,rfl⟩:=mX ht;exact .p1 _ w' a hs (by rw[show l'=[] from hl];rfl) rfl ha
  | p1 J w' O hs hl ht I=>
   obtain⟨rfl,rfl⟩:=mX ht;exact .p2 J _ O a hs (by rw[show l'=[O] from hl];rfl) rfl I ha
  | p2 J w' O b' hs hl ht I Y=>exact absurd ht qZ
 | lam hu _ _=>intro s l q;rw[fO (by decide) (by decide) (by decide)] at q;cases q
 | tt h1 h2 h3 h4 h5 h6 _=>intro s l q;rw[iF,fO (by decide) (by decide) (by decide)] at q;cases q
 | lt hu _ _ _ _=>intro s l q;rw[fO (by decide) (by decide) (by decide)] at q;cases q
 | cbool ht _ _ _ _ _ _=>intro s l q;rw[fO (by decide) (by decide) (by decide)] at q;cases q
 | cint ht _ _ _ _ _ _=>intro s l q;rw[fO (by decide) (by decide) (by decide)] at q;cases q
 | cl1 hxy ht _ _ _ _=>intro s l q;rw[fO (by decide) (by decide) (by decide)] at q;cases q
 | cl2 hxy ht _ _ _ _ _ _=>intro s l q;rw[fO (by decide) (by decide) (by decide)] at q;cases q
 | cp hxy ht _ _ _ _=>intro s l q;rw[fO (by decide) (by decide) (by decide)] at q;cases q
 | pint hs _ _ _ _=>intro s l q;rw[fO (by decide) (by decide) (by decide)] at q;cases q
 | pbool hs _ _ _ _=>intro s l q;rw[fO (by decide) (by decide) (by decide)] at q;cases q
 | fail ht=>intro s l q;rw[fO (by decide) (by decide) (by decide)] at q;cases q
theorem aGs {c:Core}:shC c=true↔c.form=5∨c.form=7∨c.form=3∨∃s l,gvC c=some (s,l):=by
 unfold shC;simp only[Bool.or_eq_true,Bu,Option.isSome_iff_exists,Prod.exists]
theorem aD1 {c:Core}:shC c=false↔¬c.form=5∧¬c.form=7∧¬c.form=3∧gvC c=none:=by
 rw[←Bool.not_eq_true,aGs];cases q:gvC c with
 | none=>simp
 | some p=>obtain⟨s,l⟩:=p;simp
theorem WT.form5 {V:List Str}{Γ:Env}{c:Core}{t:Ty}(h:WT V Γ c t) (h5:c.form=5):∃s b u t',c=.mk 5 0 s u [b] [] []∧TW V u∧WT V (upd Γ s u) b t'∧t=eE u t':=by
 cases h with
 | lam hu hb=>exact⟨_,_,_,_,rfl,hu,hb,rfl⟩
 | _=>exact absurd h5 (by simp[vC,iQ,qR,aCc,Core.form])
theorem WT.form7 {V:List Str}{Γ:Env}{c:Core}{t:Ty}(h:WT V Γ c t):¬c.form=7:=by
 intro q;cases h with
 | _=>exact absurd q (by simp[vC,iQ,qR,aCc,Core.form])
theorem WT.form3 {V:List Str}{Γ:Env}{c:Core}{t:Ty}(h:WT V Γ c t) (h3:c.form=3):∃n,c=iQ n∧t=iZ:=by
 cases h with
 | int=>exact⟨_,rfl,rfl⟩
 | _=>exact absurd h3 (by simp[vC,qR,aCc,Core.form])
theorem WT.shown {V:List Str}{Γ:Env}{c:Core}{t:Ty}(h:WT V Γ c t) (hs:shC c=true):(∃a b,t=eE a b)∨(t=iZ∧∃n,c=iQ n)∨∃s l,gvC c=some (s,l)∧CN V Γ s l t:=by
 rcases aGs.1 hs with h5 | I | h3 | ⟨s,l,q⟩
 ·obtain⟨_,_,u,t',_,_,_,e⟩:=h.form5 h5;exact .inl ⟨u,t',e⟩
 ·exact absurd I h.form7
 ·obtain⟨n,J,O⟩:=h.form3 h3;exact .inr (.inl ⟨O,n,J⟩)
 ·exact .inr (.inr ⟨s,l,q,h.cn q⟩)
mutual
theorem a4u {q:Loc}:∀c:Core,bE q c→∀(s:Str) (l:List Core),gvC c=some (s,l)→∀x∈l,bE q x
 | .mk f n s t ks bs al,O,nm,l,I=>by
  obtain⟨_,g1,_,_⟩:=aJ.1 O;rw[gvC] at I;by_cases h2:f=2
  ·rw[ξ h2] at I;cases I;exact fun x hx=>by cases hx
  rw[ψ h2] at I;by_cases h4:f=4
  ·rw[ξ h4] at I;obtain⟨⟨Z,l'⟩,W,Y⟩:=Bp.1 I;cases Y;intro x hx;rcases χ.1 hx with hx | hx
   ·exact a2i ks g1 _ _ W x hx
   ·exact g1 x (Cl hx)
  rw[ψ h4] at I;by_cases J:f=6
  ·rw[ξ J] at I;exact a2i ks g1 _ _ I
  ·rw[ψ J] at I;cases I
theorem a2i {q:Loc}:∀l:List Core,(∀x∈l,bE q x)→∀(s:Str) (m:List Core),gvH l=some (s,m)→∀x∈m,bE q x
 | [],_,_,_,I=>by rw[gvH] at I;cases I
 | c::l,h,s,m,I=>by rw[gvH] at I;exact a4u c (h c φ) s m I
end
theorem aVk {i:Int}{s:Str}{t:Ty}{ks:List Core}{bs:List Bind}{al:List Alt}(h:bE (QL 403) (.mk 8 i s t ks bs al)) {b:Bind}(hb:b∈bs):bE (QL 403) (fK bs b):=by
 obtain⟨⟨g1,g2,g3,g4,g5,g6,g7,g8⟩,_,q,_⟩:=aJ.1 h;have I:w30 ([]:Str)=30:=rfl;unfold fK;refine aJ.2 ⟨⟨by simp[okF],fun e=>absurd e (by decide),rfl,g4,?_,fun e=>absurd e (by decide),g7,by simp⟩,by simpa using q b hb,q,by simp⟩;unfold lw at g5 ⊢;rw[I];have:=fR s;simp only[Bj,sum_nil];omega
def tA:Nat→Core→Bool
 | 0,_=>false
 | k+1,c=>
  if c.form=4 then(if(c.kids.headD zC).form=5 then false else tA k (c.kids.headD zC))
  else if c.form=6 then(if(c.kids.headD zC).form=7 then true else tA k (c.kids.headD zC))
  else if c.form=9 then(if shC (c.kids.headD zC)=true then false else tA k (c.kids.headD zC))
  else if c.form=10 then(if ¬shC (c.kids.headD zC)=true then tA k (c.kids.headD zC) else if ¬shC (c.kids.getD 1 zC)=true then tA k (c.kids.getD 1 zC) else false)
  else false
theorem aRj {k:Nat}{f n:Int}{s:Str}{t:Ty}{ks:List Core}{bs:List Bind}{al:List Alt}:tA (k+1) (.mk f n s t ks bs al)=
  if f=4 then(if(ks.headD zC).form=5 then false else tA k (ks.headD zC))
  else if f=6 then(if(ks.headD zC).form=7 then true else tA k (ks.headD zC))
  else if f=9 then(if shC (ks.headD zC)=true then false else tA k (ks.headD zC))
  else if f=10 then(if ¬shC (ks.headD zC)=true then tA k (ks.headD zC) else if ¬shC (ks.getD 1 zC)=true then tA k (ks.getD 1 zC) else false)
  else false:=by rw[tA];rfl
theorem aLn {f n:Int}{s:Str}{t:Ty}{ks:List Core}{bs:List Bind}{al:List Alt}(h4:¬f=4) (I:¬f=6) (J:¬f=9) (q:¬f=10):∀k,tA k (.mk f n s t ks bs al)=false
 | 0=>by rw[tA]
 | k+1=>by rw[aRj,ψ h4,ψ I,ψ J,ψ q]
theorem aLo {f a:Core}{k:Nat}:tA (k+1) (.mk 4 0 [] zTy [f,a] [] [])=if f.form=5 then false else tA k f:=by rw[aRj,ξ rfl];rfl
theorem aDy {t:Ty}{c:Core}{al:List Alt}{k:Nat}:tA (k+1) (.mk 9 0 [] t [c] [] al)=if shC c=true then false else tA k c:=by
 rw[aRj,ψ (show ¬((9:Int)=4) by decide),ψ (show ¬((9:Int)=6) by decide),ξ rfl];rfl
theorem sQ {s:Str}{a b:Core}{k:Nat}:tA (k+1) (.mk 10 0 s zTy [a,b] [] [])=if ¬shC a=true then tA k a else if ¬shC b=true then tA k b else false:=by
 rw[aRj,ψ (show ¬((10:Int)=4) by decide),ψ (show ¬((10:Int)=6) by decide),ψ (show ¬((10:Int)=9) by decide),ξ rfl];rfl
theorem aWz {f n:Int}{s:Str}{t:Ty}{ks:List Core}{bs:List Bind}{al:List Alt}(h5:¬f=5) (q:¬f=7) (h3:¬f=3) (I:gvC (.mk f n s t ks bs al)=none):shC (.mk f n s t ks bs al)=false:=aD1.2 ⟨h5,q,h3,I⟩
def aKg (t:Ty) (k:Nat) (c:Core) (p:CE):Prop:=
 (p.2=0∧WT [] e0 p.1 t∧(tA k c=true→(p.1.form=5∨shC p.1=false)∧∀k',tA k' p.1=false))∨p.2=52∨p.2=53
theorem aKg.kid {t u:Ty}{k:Nat}{c x:Core}{p:CE}{j:Nat}(hx:c.kids[j]?=some x) (hs:shC x=false) (hp:aKg u k x p) (st:Core→CE) (q:st x=p)
  (hw:∀r,WT [] e0 r u→WT [] e0 (j4 c j r) t) (ht:∀k',tA k' c=true→tA (k'-1) x=true∧0<k')
  (hn:∀r,WT [] e0 r u→r.form=5∨shC r=false→(∀k',tA k' r=false)→((j4 c j r).form=5∨shC (j4 c j r)=false)∧∀k',tA k' (j4 c j r)=false):aKg t (k+1) c (qY st c j):=by
 unfold qY;rw[hx];dsimp only;unfold jT;rw[hs,ψ Ao,q];rcases hp with⟨h1,h2,h3⟩ | h
 ·rw[ξ h1];refine .inl ⟨rfl,hw _ h2,fun h=>?_⟩;obtain⟨g1,g2⟩:=h3 (ht _ h).1;exact hn _ h2 g1 g2
 ·have h0:¬p.2=0:=by omega
  rw[ψ h0];exact .inr h
theorem aL1 {s:Str}{u:Ty}:rmE (upd e0 s u) s=e0:=by
 funext z;simp only[rmE,upd,e0];split<;>rfl
theorem a5q {s:Str}{u t:Ty}{b a:Core}(hb:WT [] (upd e0 s u) b t) (ha:WT [] e0 a u):WT [] e0 (nS b s a) t:=by
 have h:=hb.put (x:=s) (b:=a) fun I q=>by
  unfold upd at q;rw[ξ rfl] at q;cases q;exact ha
 rwa [aL1] at h
theorem a7e {x y:Str}{u w t:Ty}{d a b:Core}(hxy:¬x=y) (hd:WT [] (upd (upd e0 x u) y w) d t) (ha:WT [] e0 a u) (hb:WT [] e0 b w):WT [] e0 (fS d ([x,y].zip [a,b])) t:=by
 have h:=hd.put (x:=x) (b:=a) fun I q=>by
  rw[aS hxy] at q;unfold upd at q;rw[ξ rfl] at q;cases q;exact ha
 rw[sW hxy,aL1] at h;exact a5q h hb
theorem aOs {V:List Str}{Γ:Env}{c:Core}{t:Ty}(h:WT V Γ c t) (q:∀x,¬Γ x=none→nh x):∀x∈pfR c,nh x:=fun x hx=>q x (h.free x hx)
theorem a4o {c:Core}{t:Ty}(h:WT [] e0 c t) (q:bE (QL 403) c):bE (QL 403) c∧pfR c=[]∧tyR c=[]:=⟨q,h.pf,h.ty⟩
theorem aXf (c:Core):uV c [] []=c:=by
 unfold uV;have:oR (i7 c []) ([]:List Str).length=[]:=Bi.1 (oQ _ _);rw[this];rfl
theorem aAp {c:Core}(h:WT [] e0 c iZ) (hs:shC c=true):∃n,c=iQ n:=by
 rcases h.shown hs with⟨_,_,e⟩ | ⟨_,h⟩ | ⟨s,l,I,q⟩
 ·exact absurd e.symm gC
 ·exact h
 ·cases q with
  | b v _ _ e=>exact absurd e.symm zR
  | n u _ _ e=>exact absurd e.symm qA
  | c0 u _ _ e=>exact absurd e.symm gC
  | c1 u a _ _ e _=>exact absurd e.symm gC
  | c2 u a b _ _ e _ _=>exact absurd e.symm qA
  | p0 u w _ _ e=>exact absurd e.symm gC
  | p1 u w a _ _ e _=>exact absurd e.symm gC
  | p2 u w a b _ _ e _ _=>exact absurd e.symm aMn
theorem aBb {t:Ty}{k:Nat}(bd:List Bind) (Z:∀(c:Core) (t:Ty),m30 c≤k→WT [] e0 c t→bE (QL 403) c→shC c=false→aKg t k c (dT bd k c)) {s:Str}{a b:Core}(ha:WT [] e0 a iZ) (hb:WT [] e0 b iZ)
  (aa:m30 a≤k) (ab:m30 b≤k) (ac:bE (QL 403) a) (ad:bE (QL 403) b) (hw:∀x y,WT [] e0 x iZ→WT [] e0 y iZ→WT [] e0 (.mk 10 0 s zTy [x,y] [] []) t)
  (hp:∀m n,((dM s m n).2=0∧WT [] e0 (dM s m n).1 t)∨(dM s m n).2=53):aKg t (k+1) (.mk 10 0 s zTy [a,b] [] []) (dT bd (k+1) (.mk 10 0 s zTy [a,b] [] [])):=by
 have nf:∀{r:Core},WT [] e0 r iZ→r.form=5∨shC r=false→shC r=false:=fun O g=>g.resolve_left fun h5=>by
  obtain⟨_,_,_,_,_,_,_,e⟩:=O.form5 h5;exact gC e.symm
 have Y:∀x y:Core,shC (.mk 10 0 s zTy [x,y] [] [])=false:=fun x y=>aWz (by decide) (by decide) (by decide) (fO (by decide) (by decide) (by decide))
 rw[eM,ψ (by decide),ψ (by decide),ψ (by decide),ψ (by decide),ξ rfl];show aKg t (k+1) _ (if ¬shC a=true then _ else if ¬shC b=true then _ else if a.form=3∧b.form=3 then dM s a.n b.n else _);cases I:shC a with
 | false=>
  rw[ξ (by decide)];refine aKg.kid (u:=iZ) (x:=a) rfl I (Z a iZ aa ha ac I) _ rfl (fun r O=>hw r b O hb) (fun k' q=>?_) (fun r W g1 g2=>⟨.inr (Y r b),fun k'=>?_⟩)
  ·cases k' with
   | zero=>rw[tA] at q;cases q
   | succ k'=>rw[sQ,I,ξ (by decide)] at q;exact⟨q,by omega⟩
  ·cases k' with
   | zero=>rw[tA]
   | succ k'=>show tA (k'+1) (.mk 10 0 s zTy [r,b] [] [])=false;rw[sQ,nf W g1,ξ (by decide)];exact g2 k'
 | true=>
  rw[ψ (by decide)];cases J:shC b with
  | false=>
   rw[ξ (by decide)];refine aKg.kid (u:=iZ) (x:=b) rfl J (Z b iZ ab hb ad J) _ rfl (fun r O=>hw a r ha O) (fun k' q=>?_) (fun r W g1 g2=>⟨.inr (Y a r),fun k'=>?_⟩)
   ·cases k' with
    | zero=>rw[tA] at q;cases q
    | succ k'=>rw[sQ,I,ψ (by decide),J,ξ (by decide)] at q;exact⟨q,by omega⟩
   ·cases k' with
    | zero=>rw[tA]
    | succ k'=>show tA (k'+1) (.mk 10 0 s zTy [a,r] [] [])=false;rw[sQ,I,ψ (by decide),nf W g1,ξ (by decide)];exact g2 k'
  | true=>
   rw[ψ (by decide)];obtain⟨m,rfl⟩:=aAp ha I;obtain⟨n,rfl⟩:=aAp hb J;rw[ξ ⟨rfl,rfl⟩];rcases hp m n with⟨h1,h2⟩ | h
   ·refine .inl ⟨h1,h2,fun h=>?_⟩;rw[sQ,I,J,ψ (by decide),ψ (by decide)] at h;cases h
   ·exact .inr (.inr h)
theorem aR7 {s:Str}(hs:s∈opI) (m n:Int):((dM s m n).2=0∧WT [] e0 (dM s m n).1 iZ)∨(dM s m n).2=53:=by
 unfold dM;have h:s=aVc∨s=aU9∨s=aVb∨s=aKk:=by simpa [opI] using hs
 rcases h with rfl | rfl | rfl | rfl
 ·exact .inl ⟨rfl,.int⟩
 ·exact .inl ⟨rfl,.int⟩
 ·exact .inl ⟨rfl,.int⟩
 ·rw[ψ (by decide),ψ (by decide),ψ (by decide),ξ rfl];by_cases h:n=0
  ·rw[ξ h];exact .inr rfl
  ·rw[ψ h];exact .inl ⟨rfl,.int⟩
theorem aMl {s:Str}(hs:s∈opB) (m n:Int):((dM s m n).2=0∧WT [] e0 (dM s m n).1 iE)∨(dM s m n).2=53:=by
 unfold dM;have h:s=nEq∨s=nLt:=by simpa [opB] using hs
 rcases h with rfl | rfl
 ·exact .inl ⟨rfl,.bool⟩
 ·exact .inl ⟨rfl,.bool⟩
theorem aWw (bd:List Bind):∀(k:Nat) (c:Core) (t:Ty),m30 c≤k→WT [] e0 c t→bE (QL 403) c→shC c=false→aKg t k c (dT bd k c):=by
 intro k
 induction k with
 | zero=>intro c t h;have:=dB c;omega
 | succ k ih=>
 intro c t h hw hq hs;obtain⟨q2,q4⟩:(∀x∈c.kids,bE (QL 403) x)∧∀x∈c.alts,bE (QL 403) x.body:=by cases c;exact⟨(aJ.1 hq).2.1,(aJ.1 hq).2.2.2⟩
 have hm:∀x∈c.kids,m30 x≤k:=fun x hx=>by
  obtain⟨f,n,s,t,ks,bs,al⟩:=c;have:=dQ (l:=ks) hx;rw[m30] at h;omega
 obtain⟨n5,n7,n3,ng⟩:=aD1.1 hs;have ab:∀(u:Ty) (x:Core) (al:List Alt),c=.mk 9 0 [] t [x] [] al→WT [] e0 x u→(∀a b,¬u=eE a b)→(∀r,WT [] e0 r u→WT [] e0 (.mk 9 0 [] t [r] [] al) t)→shC x=false→aKg t (k+1) c (dT bd (k+1) c):=fun u x al hc hx hnf hr q=>by
  subst hc;rw[eM,ψ (by decide),ψ (by decide),ψ (by decide),ξ rfl];show aKg t (k+1) _ (if shC x=true then _ else _);rw[ψ (by rw[q];decide)];refine aKg.kid (u:=u) (x:=x) rfl q (ih x u (hm x φ) hx (q2 x φ) q) _ rfl hr (fun k' O=>?_) (fun r hwr g1 g2=>?_)
  ·cases k' with
   | zero=>rw[tA] at O;cases O
   | succ k'=>rw[aDy,ψ (by rw[q];decide)] at O;exact⟨O,by omega⟩
  ·have hsr:shC r=false:=g1.resolve_left fun h5=>by
    obtain⟨_,_,_,_,_,_,_,e⟩:=hwr.form5 h5;exact hnf _ _ e
   refine⟨.inr (aWz (by decide) (by decide) (by decide) (fO (by decide) (by decide) (by decide))),fun k'=>?_⟩;cases k' with
   | zero=>rw[tA]
   | succ k'=>show tA (k'+1) (.mk 9 0 [] t [r] [] al)=false;rw[aDy,ψ (by rw[hsr];decide)];exact g2 k'
 have hnA:∀(x:Core) (al:List Alt),c=.mk 9 0 [] t [x] [] al→shC x=true→∀k',¬tA k' c=true:=fun x al hc q k' O=>by
  subst hc;cases k' with
  | zero=>rw[tA] at O;cases O
  | succ k'=>rw[aDy,ξ q] at O;cases O
 have hsh:∀(x:Core) (al:List Alt),c=.mk 9 0 [] t [x] [] al→shC x=true→dT bd (k+1) c=match al.findSome? fun a=>eV a x with | some r=>(r,0) | none=>(zC,52):=fun x al hc q=>by
  subst hc;rw[eM,ψ (by decide),ψ (by decide),ψ (by decide),ξ rfl];show(if shC x=true then _ else _)=_;rw[ξ q];rfl
 have tk1:∀(n:Int) (s:Str) (v:List Str) (d x:Core) (s1:Str) (l1:List Core),gvC x=some (s1,l1)→eV (.mk 1 n s v d) x=if s1=s∧l1.length=v.length then some (uV d v l1) else none:=fun n s v d x s1 l1 Y=>by
  show(if(1:Int)=3 then some d else if(1:Int)=2 then(if x.form=3∧x.n=n then some d else none) else match gvC x with | some (s',l)=>if s'=s∧l.length=v.length then some (uV d v l) else none | none=>none)=_;rw[ψ (show ¬((1:Int)=3) by decide),ψ (show ¬((1:Int)=2) by decide),Y]
 have hput:∀(x y:Str) (u w:Ty) (d a b I:Core) (s:Str),¬x=y→WT [] (upd (upd e0 x u) y w) d t→bE (QL 403) d→nh x→nh y→bE (QL 403) I→gvC I=some (s,[a,b])→WT [] e0 a u→WT [] e0 b w→WT [] e0 (uV d [x,y] [a,b]) t:=fun x y u w d a b I s hxy hd hdq hnx hny hsq Y ha hb=>by
  have hl:=a4u I hsq _ _ Y
  rw[y4 (X:=403) (by decide) d [x,y] [a,b] rfl (by simp) (fun z Z=>by
   rcases Ah.1 Z with rfl | Z
   ·exact hnx
   ·rw[κ.1 Z];exact hny) hdq (aOs hd fun z Z=>by
    by_cases e1:z=y
    ·rw[e1];exact hny
    ·by_cases e2:z=x
     ·rw[e2];exact hnx
     ·rw[aS e1,aS e2] at Z;exact absurd rfl Z) fun z Z=>by
    rcases Ah.1 Z with rfl | Z
    ·exact a4o ha (hl _ φ)
    ·rw[κ.1 Z];exact a4o hb (hl _ (η _ φ))]
  exact a7e hxy hd ha hb
 cases hw with
 | var h=>cases h
 | int=>exact absurd rfl n3
 | bool=>unfold qR at ng;rw[lM] at ng;cases ng
 | nil h=>rw[iF,lM] at ng;cases ng
 | cons h=>rw[iF,lM] at ng;cases ng
 | pair h1 h2=>rw[iF,iF,lM] at ng;cases ng
 | lam hu hb=>exact absurd rfl n5
 | fail ht=>
  rw[eM,ψ (by decide),ψ (by decide),ψ (by decide),ψ (by decide),ψ (by decide),ξ rfl];exact .inr (.inl rfl)
 | @app _ _ f a u _ hf ha=>
  rw[eM,ψ (by decide),ξ (.inl rfl)];by_cases h5:f.form=5
  ·obtain⟨s,b,u',t',rfl,hu,hb,e⟩:=hf.form5 h5;obtain⟨rfl,rfl⟩:=mX e;rw[ξ ⟨rfl,rfl⟩];refine .inl ⟨rfl,?_,fun h=>?_⟩
   ·show WT [] e0 (bW (m30 b) b s a) t;have hqb:bE (QL 403) b:=(aJ.1 (q2 _ φ)).2.1 b φ;rw[sS (X:=403) (by rw[ha.pf];simp) ha.ty (m30 b) b (le_refl _) hqb];exact a5q hb ha
   ·rw[aLo,ξ (show(Core.mk 5 0 s u [b] [] []).form=5 from rfl)] at h;cases h
  ·rw[ψ fun h=>h5 h.2,ψ fun h=>absurd h.1 (by decide)]
   have hsf:shC f=false:=aD1.2 ⟨h5,hf.form7,fun h3=>(by obtain⟨_,_,e⟩:=hf.form3 h3;exact gC e),by
    rw[aHx] at ng;cases Y:gvC f with
    | none=>rfl
    | some p=>rw[Y] at ng;cases ng⟩
   refine aKg.kid (u:=eE u t) (x:=f) rfl hsf (ih f _ (hm f φ) hf (q2 f φ) hsf) _ rfl (fun r hr=>WT.app hr ha) (fun k' O=>?_) (fun r hwr g1 g2=>?_)
   ·cases k' with
    | zero=>rw[tA] at O;cases O
    | succ k'=>rw[aLo,ψ h5] at O;exact⟨O,by omega⟩
   ·have hgr:gvC r=none:=by
     rcases g1 with h | h
     ·obtain⟨_,_,_,_,rfl,_⟩:=hwr.form5 h;exact fO (by decide) (by decide) (by decide)
     ·exact(aD1.1 h).2.2.2
    refine⟨.inr (aWz (by decide) (by decide) (by decide) ?_),fun k'=>?_⟩
    ·show gvC (.mk 4 0 [] zTy [r,a] [] [])=none;rw[aHx,hgr];rfl
    ·cases k' with
     | zero=>rw[tA]
     | succ k'=>
      show tA (k'+1) (.mk 4 0 [] zTy [r,a] [] [])=false;rw[aLo];split
      ·rfl
      ·exact g2 k'
 | @tt _ W _ Δ s p b u t' h1 h2 h3 h4 h5 h6=>
  have hW:W=[]:=aHc h1;subst hW;have hΔ:Δ=e0:=by
   funext z;cases hd:Δ z with
   | none=>rfl
   | some w=>have:=(h2 z w hd).1;cases this
  subst hΔ;rw[eM,ψ (by decide),ξ (.inr rfl),ψ (fun h=>absurd h.1 (by decide)),ξ ⟨rfl,rfl⟩];have hql:bE (QL 403) (.mk 5 0 p (vT s) [b] [] []):=(aJ.1 (q2 _ φ)).2.1 _ φ;have e1:sTR (m30 (.mk 5 0 p (vT s) [b] [] [])) (.mk 5 0 p (vT s) [b] [] []) s u=.mk 5 0 p u [nT b s u] [] []:=by
   rw[aUp (X:=403) h5.closed _ _ (le_refl _) hql,kF (by decide),vI,ξ rfl];rfl
  refine .inl ⟨rfl,?_,fun _=>?_⟩
  ·show WT [] e0 (sTR (m30 (.mk 5 0 p (vT s) [b] [] [])) (.mk 5 0 p (vT s) [b] [] []) s u) (eE u t');rw[e1];have h7:=h6.tput (a:=s) (u0:=u) h5;rw[nL,vI,ξ rfl,h4.id h3,show rmV [s] s=[] by simp[rmV],show tsE e0 s u=e0 from rfl] at h7;exact .lam h5 h7
  ·show((sTR (m30 (.mk 5 0 p (vT s) [b] [] [])) (.mk 5 0 p (vT s) [b] [] []) s u).form=5∨_)∧∀k',tA k' (sTR (m30 (.mk 5 0 p (vT s) [b] [] [])) (.mk 5 0 p (vT s) [b] [] []) s u)=false;rw[e1];exact⟨.inl rfl,aLn (by decide) (by decide) (by decide) (by decide)⟩
 | @lt _ _ s b d u _ hu hb hc=>
  rw[eM,ψ (by decide),ψ (by decide),ξ rfl];refine .inl ⟨rfl,?_,fun h=>by rw[aLn (by decide) (by decide) (by decide) (by decide)] at h;cases h⟩;show WT [] e0 (uV d [s] [fK [.mk s u b] (.mk s u b)]) t;have hl:WT [] e0 (fK [.mk s u b] (.mk s u b)) u:=.lt hu hb hb;have hns:nh s:=(aDh hq).1 s (by simp[gvN,Bind.name])
  rw[y4 (X:=403) (by decide) d [s] [fK [.mk s u b] (.mk s u b)] rfl (by simp) (fun z Z=>by rw[κ.1 Z];exact hns) (q2 d φ) (aOs hc fun z Z=>by
   by_cases e:z=s
   ·rw[e];exact hns
   ·rw[aS e] at Z;exact absurd rfl Z) fun z Z=>by rw[κ.1 Z];exact a4o hl (aVk hq φ)]
  exact a5q hc hl
 | @cbool _ _ x a b _ ht hx ha hb=>
  cases q:shC x with
  | false=>exact ab iE x _ rfl hx (fun _ _ e=>jU e.symm) (fun r hr=>.cbool ht hr ha hb) q
  | true=>
   rw[hsh x _ rfl q];rcases hx.shown q with⟨_,_,e⟩ | ⟨e,_⟩ | ⟨s,l,Y,ac⟩
   ·exact absurd e.symm jU
   ·exact absurd e zR
   ·cases ac with
    | b v J aa _=>
     subst J aa;rw[Bf,tk1 _ _ _ _ _ _ _ Y,Bf,tk1 _ _ _ _ _ _ _ Y];cases v with
     | true=>exact .inl ⟨rfl,by rw[ξ ⟨rfl,rfl⟩];rw[aXf];exact ha,fun h=>absurd h (hnA x _ rfl q _)⟩
     | false=>exact .inl ⟨rfl,by rw[ψ (by decide),ξ ⟨rfl,rfl⟩];rw[aXf];exact hb,fun h=>absurd h (hnA x _ rfl q _)⟩
    | n u _ _ e=>exact absurd e.symm rY
    | c0 u _ _ e=>exact absurd e.symm jU
    | c1 u a _ _ e _=>exact absurd e.symm jU
    | c2 u a b _ _ e _ _=>exact absurd e.symm rY
    | p0 u w _ _ e=>exact absurd e.symm jU
    | p1 u w a _ _ e _=>exact absurd e.symm jU
    | p2 u w a b _ _ e _ _=>exact absurd e.symm aMo
 | @cint _ _ m x a b _ ht hx ha hb=>
  cases q:shC x with
  | false=>exact ab iZ x _ rfl hx (fun _ _ e=>gC e.symm) (fun r hr=>.cint ht hr ha hb) q
  | true=>
   rw[hsh x _ rfl q];rcases hx.shown q with⟨_,_,e⟩ | ⟨_,n,rfl⟩ | ⟨s,l,Y,ac⟩
   ·exact absurd e.symm gC
   ·have e1:eV (.mk 2 m [] [] a) (iQ n)=if n=m then some a else none:=by
     show(if(2:Int)=3 then some a else if(2:Int)=2 then(if(3:Int)=3∧n=m then some a else none) else _)=_;rw[ψ (show ¬((2:Int)=3) by decide),ξ rfl];by_cases e:n=m
     ·rw[ξ e,ξ ⟨rfl,e⟩]
     ·rw[ψ e,ψ fun h=>e h.2]
    have e2:eV (.mk 3 0 [] [] b) (iQ n)=some b:=by show(if(3:Int)=3 then some b else _)=_;rw[ξ rfl]
    rw[Bf,e1,Bf,e2];by_cases e:n=m
    ·rw[ξ e];exact .inl ⟨rfl,ha,fun h=>absurd h (hnA _ _ rfl q _)⟩
    ·rw[ψ e];exact .inl ⟨rfl,hb,fun h=>absurd h (hnA _ _ rfl q _)⟩
   ·cases ac with
    | b v _ _ e=>exact absurd e.symm zR
    | n u _ _ e=>exact absurd e.symm qA
    | c0 u _ _ e=>exact absurd e.symm gC
    | c1 u a _ _ e _=>exact absurd e.symm gC
    | c2 u a b _ _ e _ _=>exact absurd e.symm qA
    | p0 u w _ _ e=>exact absurd e.symm gC
    | p1 u w a _ _ e _=>exact absurd e.symm gC
    | p2 u w a b _ _ e _ _=>exact absurd e.symm aMn
 | @cl1 _ _ x y I d u _ hxy ht hx hd=>
  have hv:=(aDh hq).2 _ φ;cases q:shC I with
  | false=>exact ab (tLs u) I _ rfl hx (fun _ _ e=>fZ e.symm) (fun r hr=>.cl1 hxy ht hr hd) q
  | true=>
   rw[hsh I _ rfl q];rcases hx.shown q with⟨_,_,e⟩ | ⟨e,_⟩ | ⟨s,l,Y,ac⟩
   ·exact absurd e.symm fZ
   ·exact absurd e qA
   ·cases ac with
    | b v _ _ e=>exact absurd e rY
    | n u J aa e=>
     subst J aa;rw[Bf,tk1 _ _ _ _ _ _ _ Y,ψ (fun h=>by cases h.2)];exact .inr (.inl rfl)
    | c0 u _ _ e=>exact absurd e.symm fZ
    | c1 u a _ _ e _=>exact absurd e.symm fZ
    | c2 u' a b J aa e ha hb=>
     subst J aa;have e:=aLm e;subst e;rw[Bf,tk1 _ _ _ _ _ _ _ Y,ξ ⟨rfl,rfl⟩];exact .inl ⟨rfl,hput x y _ _ d a b I _ hxy hd (q4 _ φ) (hv x (by simp[Alt.vars])) (hv y (by simp[Alt.vars])) (q2 I φ) Y ha hb,fun h=>absurd h (hnA I _ rfl q _)⟩
    | p0 u w _ _ e=>exact absurd e.symm fZ
    | p1 u w a _ _ e _=>exact absurd e.symm fZ
    | p2 u w a b _ _ e _ _=>exact absurd e aHs
 | @cl2 _ _ x y I d d2 u _ hxy ht hx hd hd2=>
  have hv:=(aDh hq).2 _ φ;cases q:shC I with
  | false=>exact ab (tLs u) I _ rfl hx (fun _ _ e=>fZ e.symm) (fun r hr=>.cl2 hxy ht hr hd hd2) q
  | true=>
   rw[hsh I _ rfl q];rcases hx.shown q with⟨_,_,e⟩ | ⟨e,_⟩ | ⟨s,l,Y,ac⟩
   ·exact absurd e.symm fZ
   ·exact absurd e qA
   ·cases ac with
    | b v _ _ e=>exact absurd e rY
    | n u J aa e=>
     subst J aa;rw[Bf,tk1 _ _ _ _ _ _ _ Y,ψ (fun h=>by cases h.2),Bf,tk1 _ _ _ _ _ _ _ Y,ξ ⟨rfl,rfl⟩];exact .inl ⟨rfl,by rw[aXf];exact hd2,fun h=>absurd h (hnA I _ rfl q _)⟩
    | c0 u _ _ e=>exact absurd e.symm fZ
    | c1 u a _ _ e _=>exact absurd e.symm fZ
    | c2 u' a b J aa e ha hb=>
     subst J aa;have e:=aLm e;subst e;rw[Bf,tk1 _ _ _ _ _ _ _ Y,ξ ⟨rfl,rfl⟩];exact .inl ⟨rfl,hput x y _ _ d a b I _ hxy hd (q4 _ φ) (hv x (by simp[Alt.vars])) (hv y (by simp[Alt.vars])) (q2 I φ) Y ha hb,fun h=>absurd h (hnA I _ rfl q _)⟩
    | p0 u w _ _ e=>exact absurd e.symm fZ
    | p1 u w a _ _ e _=>exact absurd e.symm fZ
    | p2 u w a b _ _ e _ _=>exact absurd e aHs
 | @cp _ _ x y I d u w _ hxy ht hx hd=>
  have hv:=(aDh hq).2 _ φ;cases q:shC I with
  | false=>exact ab (tPr u w) I _ rfl hx (fun _ _ e=>qZ e.symm) (fun r hr=>.cp hxy ht hr hd) q
  | true=>
   rw[hsh I _ rfl q];rcases hx.shown q with⟨_,_,e⟩ | ⟨e,_⟩ | ⟨s,l,Y,ac⟩
   ·exact absurd e.symm qZ
   ·exact absurd e aMn
   ·cases ac with
    | b v _ _ e=>exact absurd e aMo
    | n u _ _ e=>exact absurd e.symm aHs
    | c0 u _ _ e=>exact absurd e.symm qZ
    | c1 u a _ _ e _=>exact absurd e.symm qZ
    | c2 u a b _ _ e _ _=>exact absurd e.symm aHs
    | p0 u w _ _ e=>exact absurd e.symm qZ
    | p1 u w a _ _ e _=>exact absurd e.symm qZ
    | p2 u' w' a b J aa e ha hb=>
     subst J aa;obtain⟨e1,e2⟩:=aWt e;subst e1 e2;rw[Bf,tk1 _ _ _ _ _ _ _ Y,ξ ⟨rfl,rfl⟩];exact .inl ⟨rfl,hput x y _ _ d a b I _ hxy hd (q4 _ φ) (hv x (by simp[Alt.vars])) (hv y (by simp[Alt.vars])) (q2 I φ) Y ha hb,fun h=>absurd h (hnA I _ rfl q _)⟩
 | @pint _ _ s a b J ha hb=>exact aBb bd ih ha hb (hm a φ) (hm b (η _ φ)) (q2 a φ) (q2 b (η _ φ)) (fun _ _ h1 h2=>.pint J h1 h2) (aR7 J)
 | @pbool _ _ s a b J ha hb=>exact aBb bd ih ha hb (hm a φ) (hm b (η _ φ)) (q2 a φ) (q2 b (η _ φ)) (fun _ _ h1 h2=>.pbool J h1 h2) (aMl J)
section
variable {f n:Int}{s:Str}{t:Ty}{ks:List Core}{bs:List Bind}{al:List Alt}{X:Nat}
theorem k8 (q:¬f=6) (I:¬f=7):aK (.mk f n s t ks bs al)=.mk f n s zTy (ks.map aK) (bs.map lQ) (al.map eC):=by
 rw[aK,ψ (fun h=>h.1.elim q I),l9,lC,lD]
theorem aEw {k:Core}(h:f=6∨f=7):aK (.mk f n s t [k] bs al)=aK k:=by
 rw[aK,ξ ⟨h,by simp⟩,cQ];rfl
theorem a6a:gvN f s (bs.map lQ)=gvN f s bs:=by
 unfold gvN;rw[Az];congr 1;exact Aw fun b _=>by cases b;rfl
end
theorem aJ0 {X:Nat}{x:Str}{b:Core}:∀(k:Nat) (c:Core),aV c≤k→bE (QL X) c→aK (nS c x b)=nS (aK c) x (aK b)
 | 0,c,h,_=>by have:=bG c;omega
 | k+1,.mk f n s t ks bs al,h,Y=>by
  obtain⟨z1,z2,z3,_⟩:= @c6 f n s t ks bs al;obtain⟨_,k1,k2,k3⟩:=aJ.1 Y;by_cases h1:f=1
  ·subst h1;obtain⟨rfl,rfl,rfl⟩:=lS Y rfl;rw[nS,ξ rfl,k8 (by decide) (by decide),Bj,Bj,Bj,nS,ξ rfl];split
   ·rfl
   ·rw[k8 (by decide) (by decide)];rfl
  ·rw[gV h1];by_cases q:f=6∨f=7
   ·obtain⟨⟨y,rfl⟩,rfl,rfl⟩:=dG Y (.inr q);have hg:gvN f s []=[]:=by unfold gvN;rw[ψ (by omega)];rfl
    rw[hg,ψ (by simp),ψ (by simp),Al,Bj,aEw q,aEw q];exact aJ0 k y (by have:=z1 y φ;omega) (k1 y φ)
   ·have h6:¬f=6:=fun e=>q (.inl e)
    have h7:¬f=7:=fun e=>q (.inr e)
    rw[k8 h6 h7,k8 h6 h7,gV h1,a6a];congr 1
    ·split
     ·rfl
     ·rw[Az,Az];exact Aw fun y I=>aJ0 k y (by have:=z1 y I;omega) (k1 y I)
    ·split
     ·rfl
     ·rw[Az,Az];refine Aw fun y I=>?_
      have:=aJ0 (x:=x) (b:=b) k y.body (by have:=z2 y I;omega) (k2 y I);obtain⟨Z,bt,bb⟩:=y;show Bind.mk Z zTy (aK (nS bb x b))=Bind.mk Z zTy (nS (aK bb) x (aK b));exact congrArg (Bind.mk Z zTy) this
    ·rw[Az,Az];refine Aw fun y I=>?_
     have:=aJ0 (x:=x) (b:=b) k y.body (by have:=z3 y I;omega) (k3 y I);obtain⟨af,an,J,O,W⟩:=y;show Alt.mk af an J O (aK (if x∈O then W else nS W x b))=Alt.mk af an J O (if x∈O then aK W else nS (aK W) x (aK b));split
     ·rfl
     ·exact congrArg (Alt.mk af an J O) this
theorem aYf {X:Nat}:∀(l:List (Str×Core)) (c:Core),bE (QL X) c→(∀p∈l,bE (QL X) p.2)→aK (fS c l)=fS (aK c) (l.map fun p=>(p.1,aK p.2))
 | [],c,_,_=>rfl
 | p::l,c,hc,hl=>by
  have:=aYf l (nS c p.1 p.2) (hY (hl p φ) _ c (le_refl _) hc) fun q I=>hl q (η _ I)
  rw[aJ0 _ c (le_refl _) hc] at this;exact this
theorem aT6:∀(ns:List Str) (l:List Core),ns.zip (l.map aK)=(ns.zip l).map fun p=>(p.1,aK p.2)
 | [],_=>rfl
 | _::_,[]=>rfl
 | n::ns,c::l=>by rw[Al,zip_cons_cons,zip_cons_cons,Al,aT6 ns l]
theorem aSr {X:Nat}:∀(k:Nat) (c:Core),aV c≤k→bE (QL X) c→∀s l,gvC c=some (s,l)→(spH (aK c)).form=2∧(spH (aK c)).name=s∧spA (aK c)=l.map aK
 | 0,c,h,_=>by have:=bG c;omega
 | k+1,.mk f n nm t ks bs al,h,O=>by
  intro s l q;obtain⟨W,z2,z3,_⟩:= @c6 f n nm t ks bs al;obtain⟨_,Y,Z,k3⟩:=aJ.1 O;rw[gvC] at q;by_cases h2:f=2
  ·subst h2;rw[ξ rfl] at q;cases q;rw[k8 (by decide) (by decide),spH,spA,ψ (by decide),ψ (by decide)];exact⟨rfl,rfl,rfl⟩
  rw[ψ h2] at q;by_cases h4:f=4
  ·subst h4;obtain⟨⟨a,b,rfl⟩,rfl,rfl⟩:=lT O (.inl rfl);rw[ξ rfl,gvH] at q;cases I:gvC a with
   | none=>rw[I] at q;cases q
   | some p=>
    rw[I] at q;have q:(p.1,p.2++[b])=(s,l):=Option.some.inj q;cases q;obtain⟨g1,g2,g3⟩:=aSr k a (by have:=W a φ;omega) (Y a φ) p.1 p.2 I;rw[k8 (by decide) (by decide),spH,spA,ξ rfl,ξ rfl,Al,a03,a4r,g3];exact⟨g1,g2,by simp⟩
  rw[ψ h4] at q;by_cases J:f=6
  ·obtain⟨⟨a,rfl⟩,rfl,rfl⟩:=dG O (.inr (.inl J));rw[ξ J,gvH] at q;rw[aEw (.inl J)];exact aSr k a (by have:=W a φ;omega) (Y a φ) s l q
  ·rw[ψ J] at q;cases q
theorem a05 {c:Core}(h:(spH c).form=2):shE c=true:=by unfold shE;rw[Af h];simp
theorem aLs {X:Nat}{c:Core}(J:bE (QL X) c) (hs:shC c=true) (q:¬c.form=7):shE (aK c)=true∧((aK c).form=3↔c.form=3)∧(c.form=3→(aK c).n=c.n):=by
 obtain⟨f,n,s,t,ks,bs,al⟩:=c;have q:¬f=7:=q;rcases aGs.1 hs with h | h | h | ⟨s1,Z,I⟩
 ·have h:f=5:=h;subst h;rw[k8 (by decide) (by decide)];exact⟨rfl,⟨fun e=>absurd (show(5:Int)=3 from e) (by decide),fun e=>absurd (show(5:Int)=3 from e) (by decide)⟩,fun _=>rfl⟩
 ·exact absurd h q
 ·have h:f=3:=h;subst h;rw[k8 (by decide) (by decide)];exact⟨rfl,⟨fun _=>rfl,fun _=>rfl⟩,fun _=>rfl⟩
 ·obtain⟨g1,g2,g3⟩:=aSr _ _ (le_refl _) J _ _ I;have h3:¬f=3:=by
   rintro rfl;rw[gvC,ψ (by decide),ψ (by decide),ψ (by decide)] at I;cases I
  refine⟨a05 g1,⟨fun e=>?_,fun e=>absurd e h3⟩,fun e=>absurd e h3⟩;generalize aK (.mk f n s t ks bs al)=d at *;obtain⟨f',n',s',t',O,W,Y⟩:=d;have e:f'=3:=e;subst e;rw[spH,ψ (by decide)] at g1;exact absurd (show(3:Int)=2 from g1) (by decide)
def N6 (s:Str):Prop:=s∈nm6
theorem a5s {s:Str}(hs:N6 s) (n:Nat):¬N6 (otN s n):=fun h=>by
 have h1:s=[120]∨s=[121]∨s=[97]∨s=[98]∨s=[122,64,49]∨s=[112]:=by
  have:s∈nm6:=hs;simp only[nm6,nmL,A9,A4,Ah,Ca,C8] at this;exact this
 have h2:otN s n=[120]∨otN s n=[121]∨otN s n=[97]∨otN s n=[98]∨otN s n=[122,64,49]∨otN s n=[112]:=by
  have:otN s n∈nm6:=h;simp only[nm6,nmL,A9,A4,Ah,Ca,C8] at this;exact this
 unfold otN at h2;rcases h1 with rfl | rfl | rfl | rfl | rfl | rfl<;>simp at h2
theorem aM8 (tk:List Str):∀(l:List Str) (m:Nat),∀z∈n6 tk l m,∃s n,s∈l∧m≤n∧z=otN s n
 | [],_,z,h=>by cases h
 | s::l,m,z,h=>by
  have hn:=(j6 tk s m).1
  rw[n6] at h;rcases Ah.1 h with rfl | h
  ·exact⟨s,_,φ,hn,rfl⟩
  ·obtain⟨s',q,h1,h2,h3⟩:=aM8 tk l _ z h;exact⟨s',q,η _ h1,by omega,h3⟩
theorem aM7 (tk:List Str):∀(l:List Str) (m:Nat),(n6 tk l m).Nodup
 | [],_=>nodup_nil
 | s::l,m=>by
  rw[n6];refine Bt.2 ⟨fun h=>?_,aM7 tk l _⟩;obtain⟨s',q,_,h2,h3⟩:=aM8 tk l _ _ h;have:=(aM9 h3).2
  omega
theorem a15:∀s∈nm6,s.length≤3:=aXs
theorem aMj {c:Core}{names:List Str}{l:List Core}(h1:names.length=l.length) (h2:names.length≤12) (hn:∀x∈names,N6 x) (hc:bE (QN N6 403) c) (hp:(pfR c).length≤10000000000)
  (hl:∀b∈l,bE (QN N6 403) b∧pfR b=[]∧tyR b=[]):aAb c names l=fS c (names.zip l):=by
 have ht:dA c names l=pfR c++names:=by
  unfold dA;rw[show l.flatMap pfR=[] from List.flatMap_eq_nil_iff.2 fun b hb=>(hl b hb).2.1,A8]
 have hok:=aEi (dA c names l) names;have W:names.length*((dA c names l).length+1)≤12*10000000013:=Ce h2 (by rw[ht,Ab];omega);unfold aAb;refine aM2 (N:=N6) (X:=403) (by decide) names _ l c h1 (by rw[hok.len];exact h1) (aM7 _ _ _) (fun z I=>?_) hn hc hl;obtain⟨i,hi⟩:=List.mem_iff_getElem?.1 I;have J:i<names.length:=by
  have:=(τ.1 hi).1
  rwa [hok.len] at this
 obtain⟨s,hs⟩:=aL J;obtain⟨n,O,e⟩:=hok.at_ i s z hs hi;have q:=δ hs;have h3:=a15 s (hn s q);have h4:=aEj (s:=s) (n:=n) (by omega);refine⟨by rw[e];exact a5s (hn s q) n,by rw[e];omega,fun h=>hok.out z I ?_⟩;rw[ht];exact χ.2 (.inl h)
def BN (N:Str→Prop):Loc:=fun f s _ _ bh ah=>(f=5→N s)∧(∀p∈bh,N p.1)∧∀p∈ah,∀v∈p.2,N v
theorem aKf {N:Str→Prop}{X:Nat}:∀(k:Nat) (c:Core),aV c≤k→bE (QL X) c→bE (BN N) c→bE (QN N X) c
 | 0,c,hk,_,_=>by have:=bG c;omega
 | k+1,.mk f n s t ks bs al,hk,q,hb=>by
  obtain⟨I,z2,z3,_⟩:= @c6 f n s t ks bs al;obtain⟨J,O,W,Y⟩:=aJ.1 q;obtain⟨p1,Z,l2,l3⟩:=aJ.1 hb;exact aJ.2 ⟨⟨J,p1⟩,fun x hx=>aKf k x (by have:=I x hx;omega) (O x hx) (Z x hx),fun x hx=>aKf k x.body (by have:=z2 x hx;omega) (W x hx) (l2 x hx),fun x hx=>aKf k x.body (by have:=z3 x hx;omega) (Y x hx) (l3 x hx)⟩
theorem oC {N:Str→Prop}{f n:Int}{s:Str}{t:Ty}(h:¬f=5):bE (BN N) (.mk f n s t [] [] []):=aJ.2 ⟨⟨fun e=>absurd e h,by simp,by simp⟩,by simp,by simp,by simp⟩
theorem aT5 {N:Str→Prop}{a:Str}{u:Ty}:∀(k:Nat) (c:Core),aV c≤k→bE (BN N) c→bE (BN N) (nT c a u)
 | 0,c,hk,_=>by have:=bG c;omega
 | k+1,.mk f n s t ks bs al,hk,hb=>by
  obtain⟨J,z2,z3,_⟩:= @c6 f n s t ks bs al;obtain⟨⟨p1,p2,O⟩,W,Y,Z⟩:=aJ.1 hb;by_cases I:f=7∧s=a
  ·rw[nT,ξ I];exact hb
  ·rw[aJq I];refine aJ.2 ⟨⟨p1,fun p hp=>?_,fun p hp=>?_⟩,fun x hx=>?_,fun x hx=>?_,fun x hx=>?_⟩
   ·obtain⟨x,hx,rfl⟩:=Ad.1 hp;obtain⟨y,q,rfl⟩:=Ad.1 hx;exact p2 (bhd y) (Ad.2 ⟨y,q,rfl⟩)
   ·obtain⟨x,hx,rfl⟩:=Ad.1 hp;obtain⟨y,q,rfl⟩:=Ad.1 hx;exact O (ahd y) (Ad.2 ⟨y,q,rfl⟩)
   ·obtain⟨y,q,rfl⟩:=Ad.1 hx;exact aT5 k y (by have:=J y q;omega) (W y q)
   ·obtain⟨y,q,rfl⟩:=Ad.1 hx;exact aT5 k y.body (by have:=z2 y q;omega) (Y y q)
   ·obtain⟨y,q,rfl⟩:=Ad.1 hx;exact aT5 k y.body (by have:=z3 y q;omega) (Z y q)
theorem aFh {N:Str→Prop}{X:Nat}:∀(k:Nat) (c:Core),aV c≤k→bE (QL X) c→bE (BN N) c→bE (BN N) (aK c)
 | 0,c,hk,_,_=>by have:=bG c;omega
 | k+1,.mk f n s t ks bs al,hk,J,hb=>by
  obtain⟨O,z2,z3,_⟩:= @c6 f n s t ks bs al;obtain⟨⟨p1,p2,Z⟩,W,l2,l3⟩:=aJ.1 hb;obtain⟨_,Y,k2,k3⟩:=aJ.1 J;by_cases I:f=6∨f=7
  ·obtain⟨⟨y,rfl⟩,rfl,rfl⟩:=dG J (.inr I);rw[aEw I];exact aFh k y (by have:=O y φ;omega) (Y y φ) (W y φ)
  ·rw[k8 (fun e=>I (.inl e)) (fun e=>I (.inr e))];refine aJ.2 ⟨⟨p1,fun p hp=>?_,fun p hp=>?_⟩,fun x hx=>?_,fun x hx=>?_,fun x hx=>?_⟩
   ·obtain⟨x,hx,rfl⟩:=Ad.1 hp;obtain⟨y,q,rfl⟩:=Ad.1 hx;have:=p2 (bhd y) (Ad.2 ⟨y,q,rfl⟩);cases y;exact this
   ·obtain⟨x,hx,rfl⟩:=Ad.1 hp;obtain⟨y,q,rfl⟩:=Ad.1 hx;have:=Z (ahd y) (Ad.2 ⟨y,q,rfl⟩);cases y;exact this
   ·obtain⟨y,q,rfl⟩:=Ad.1 hx;exact aFh k y (by have:=O y q;omega) (Y y q) (W y q)
   ·obtain⟨y,q,rfl⟩:=Ad.1 hx;have:=aFh k y.body (by have:=z2 y q;omega) (k2 y q) (l2 y q);cases y;exact this
   ·obtain⟨y,q,rfl⟩:=Ad.1 hx;have:=aFh k y.body (by have:=z3 y q;omega) (k3 y q) (l3 y q);cases y;exact this
theorem aEn {X:Nat}:∀(k:Nat) (c:Core),aV c≤k→bE (QL X) c→∀s l,gvC c=some (s,l)→∀y∈l,(∀z∈pfR y,z∈pfR c)∧∀z∈tyR y,z∈tyR c
 | 0,c,h,_=>by have:=bG c;omega
 | k+1,.mk f n nm t ks bs al,h,Y=>by
  intro s l q y J;obtain⟨z1,z2,z3,_⟩:= @c6 f n nm t ks bs al;obtain⟨_,k1,k2,k3⟩:=aJ.1 Y;rw[gvC] at q;by_cases h2:f=2
  ·rw[ξ h2] at q;cases q;cases J
  rw[ψ h2] at q;by_cases h4:f=4
  ·subst h4;obtain⟨⟨a,b,rfl⟩,rfl,rfl⟩:=lT Y (.inl rfl);have O:∀z,¬z∈gvN 4 nm []:=fun z=>by unfold gvN;rw[ψ (by decide)];simp
   have hin:∀x∈[a,b],(∀z∈pfR x,z∈pfR (.mk 4 n nm t [a,b] [] []))∧∀z∈tyR x,z∈tyR (.mk 4 n nm t [a,b] [] []):=fun x hx=>⟨fun z I=>(dC (by decide)).2 (.inl ⟨x,by simpa using hx,I,O z⟩),fun z I=>bF.2 (.inr (.inl ⟨x,hx,I,.inl (by decide)⟩))⟩
   rw[ξ rfl,gvH] at q;cases W:gvC a with
   | none=>rw[W] at q;cases q
   | some p=>
    rw[W] at q;have q:(p.1,p.2++[b])=(s,l):=Option.some.inj q;cases q;rcases χ.1 J with J | J
    ·obtain⟨g1,g2⟩:=aEn k a (by have:=z1 a φ;omega) (k1 a φ) p.1 p.2 W y J;obtain⟨i1,i2⟩:=hin a φ;exact⟨fun z I=>i1 z (g1 z I),fun z I=>i2 z (g2 z I)⟩
    ·rw[κ.1 J];exact hin b (η _ φ)
  rw[ψ h4] at q;by_cases Z:f=6
  ·obtain⟨⟨a,rfl⟩,rfl,rfl⟩:=dG Y (.inr (.inl Z));rw[ξ Z,gvH] at q;obtain⟨g1,g2⟩:=aEn k a (by have:=z1 a φ;omega) (k1 a φ) s l q y J;have O:∀z,¬z∈gvN f nm []:=fun z=>by unfold gvN;rw[ψ (by omega)];simp
   exact⟨fun z I=>(dC (by omega)).2 (.inl ⟨a,by simp,g1 z I,O z⟩),fun z I=>bF.2 (.inr (.inl ⟨a,φ,g2 z I,.inl (by omega)⟩))⟩
  ·rw[ψ Z] at q;cases q
theorem tT {l m:List Str}(h:∀z∈l,z∈m) (hm:m=[]):l=[]:=List.eq_nil_iff_forall_not_mem.2 fun z q=>by have:=h z q;rw[hm] at this;cases this
theorem uC {c:Core}(I:bE (QL 403) c) (hb:bE (BN N6) c) (hp:pfR c=[]):bE (QN N6 403) (aK c)∧pfR (aK c)=[]∧tyR (aK c)=[]:=by
 have h1:=(uZ c I).1
 exact⟨aKf _ _ (le_refl _) h1.q (aFh _ c (le_refl _) I hb),by rw[aXk (lR c I)];exact hp,tT (m:=[]) (fun z J=>h1.v z J) rfl⟩
theorem aYk (a:Alt):(eC a).form=a.form∧(eC a).n=a.n∧(eC a).name=a.name∧(eC a).vars=a.vars∧(eC a).body=aK a.body:=by cases a;exact⟨rfl,rfl,rfl,rfl,rfl⟩
theorem a45 {x:Core}(hq:bE (QL 403) x) (hb:bE (BN N6) x) (hpx:pfR x=[]) (htx:tyR x=[]) (hs:shC x=true) (h7:¬x.form=7) {a:Alt}(hf:a.form=1∨a.form=2∨a.form=3) (J:bE (QL 403) a.body) (W:bE (BN N6) a.body)
  (Y:∀v∈a.vars,N6 v∧nh v) (hap:∀z∈pfR a.body,z∈a.vars) (hal:a.vars.length≤12):tkE aAb (eC a) (aK x)=(eV a x).map aK∧∀r,eV a x=some r→bE (BN N6) r:=by
 obtain⟨e1,e2,e3,e4,e5⟩:=aYk a;obtain⟨s1,s2,s3⟩:=aLs hq hs h7;unfold tkE tkS tkC eV;rw[e1,e2,e3,e4,e5];rcases hf with h | h | h
 ·rw[h,ψ (show ¬((1:Int)=3) by decide),ψ (show ¬((1:Int)=2) by decide),ψ (by simp)];cases Z:gvC x with
  | none=>
   have h35:x.form=5∨x.form=3:=by
    rcases aGs.1 hs with h | h | h | ⟨s,l,h⟩
    ·exact .inl h
    ·exact absurd h h7
    ·exact .inr h
    ·rw[Z] at h;cases h
   have hsp:¬(spH (aK x)).form=2:=by
    obtain⟨f,n,s,t,ks,bs,al⟩:=x;have h35:f=5∨f=3:=h35;rw[k8 (by omega) (by omega),spH,ψ (by omega)];show ¬f=2;omega
   rw[ψ (by simp[hsp])];exact⟨rfl,fun r I=>by cases I⟩
  | some p=>
   obtain⟨s,l⟩:=p;obtain⟨g1,g2,g3⟩:=aSr _ _ (le_refl _) hq _ _ Z;have hgf:=aEn _ _ (le_refl _) hq _ _ Z;have aa:=a4u x hq _ _ Z;have hgb:=a4u x hb _ _ Z;rw[g1,g2,g3,ζ];dsimp only;by_cases hc:s=a.name∧l.length=a.vars.length
   ·rw[ξ hc,ξ (by simp[hc.1,hc.2])];have hcl:∀b∈l,bE (QL 403) b∧pfR b=[]∧tyR b=[]:=fun b O=>⟨aa b O,tT (hgf b O).1 hpx,tT (hgf b O).2 htx⟩
    have hpl:(pfR (aK a.body)).length≤10000000000:=by
     rw[aXk (lR _ J)];have:=eO _ _ (y5 a.body) hap;omega
    rw[y4 (X:=403) (by decide) a.body a.vars l hc.2.symm (by omega) (fun v hv=>(Y v hv).2) J (fun z hz=>(Y z (hap z hz)).2) hcl,
     aMj (c:=aK a.body) (names:=a.vars) (l:=l.map aK) (by rw[ζ];exact hc.2.symm) hal (fun v hv=>(Y v hv).1) (aKf _ _ (le_refl _) (uZ _ J).1.q (aFh _ _ (le_refl _) J W)) hpl (fun b O=>by
      obtain⟨y,hy,rfl⟩:=Ad.1 O
      exact uC (aa y hy) (hgb y hy) (hcl y hy).2.1)]
    refine⟨?_,fun r I=>?_⟩
    ·show some _=some (aK (fS a.body (a.vars.zip l)));rw[aYf (X:=403) _ _ J fun p hp=>aa p.2 (of_mem_zip (a:=p.1) (b:=p.2) hp).2,aT6]
    ·cases I;exact uP W fun p hp=>hgb p.2 (of_mem_zip (a:=p.1) (b:=p.2) hp).2
   ·rw[ψ hc,ψ (by simpa using hc)];exact⟨rfl,fun r I=>by cases I⟩
 ·rw[h,ψ (show ¬((2:Int)=3) by decide),ξ rfl];by_cases hc:x.form=3∧x.n=a.n
  ·rw[ξ hc,ξ (by simp[s2.2 hc.1,s3 hc.1,hc.2])];exact⟨rfl,fun r I=>by cases I;exact W⟩
  ·rw[ψ hc,ψ (by
    intro h';simp only[Bool.or_eq_true,ε,Bu] at h';rcases h' with h' | ⟨_,h1,h2⟩
    ·exact absurd h' (by decide)
    ·have h3:=s2.1 h1
     exact hc ⟨h3,by rw[←s3 h3];exact h2⟩),ψ (by simp)]
   exact⟨rfl,fun r I=>by cases I⟩
 ·rw[h,ξ rfl,ξ (by simp)];exact⟨rfl,fun r I=>by cases I;exact W⟩
theorem aOy {x:Core}:∀(al:List Alt),(∀a∈al,tkE aAb (eC a) (aK x)=(eV a x).map aK)→(al.map eC).findSome? (fun a=>tkE aAb a (aK x))=(al.findSome? fun a=>eV a x).map aK
 | [],_=>rfl
 | a::l,h=>by
  rw[Al,Bf,Bf,h a φ];cases eV a x with
  | some r=>rfl
  | none=>exact aOy l fun b hb=>h b (η _ hb)
structure Sim (c:Core) (p:CE):Prop where
 ok:p.2=0→bE (BN N6) p.1∧(aK p.1=aK c∨(shE (aK c)=false∧∀j,m30 (aK c)≤j→fX [] j (aK c)=(aK p.1,0)))
 er:¬p.2=0→shE (aK c)=false∧∀j,m30 (aK c)≤j→fX [] j (aK c)=(zC,p.2)
theorem aBv {c:Core}{j:Nat}(h:m30 c≤j):∃i,j=i+1:=⟨j-1,by have:=dB c;omega⟩
theorem aAq {f n:Int}{s:Str}{t:Ty}{ks:List Core}{bs:List Bind}{al:List Alt}(h5:¬f=5) (h3:¬f=3) (h4:¬f=4) (h2:¬f=2):shE (.mk f n s t ks bs al)=false:=by
 unfold shE;rw[spH,ψ h4];show(decide (f=5) || (decide (f=3) || decide (f=2)))=false;rw[Ae h5,Ae h3,Ae h2];rfl
theorem aW0 {n:Int}{s:Str}{t:Ty}{a b:Core}{bs:List Bind}{al:List Alt}(h:shE a=false):shE (.mk 4 n s t [a,b] bs al)=false:=by
 unfold shE at h ⊢;rw[spH,ξ rfl,a03];simp only[Cw,B7] at h ⊢;exact⟨by show ¬(4:Int)=5;decide,by show ¬(4:Int)=3;decide,h.2.2⟩
theorem aRq {a:Core}(h:shE a=false):¬a.form=5:=by
 unfold shE at h;simp only[Cw,B7] at h;exact h.1
theorem a4n {f n:Int}{s:Str}{t:Ty}{ks:List Core}{bs:List Bind}{al:List Alt}{j:Nat}{r:Core}(h:bE (BN N6) (.mk f n s t ks bs al)) (q:bE (BN N6) r):bE (BN N6) (j4 (.mk f n s t ks bs al) j r):=by
 obtain⟨p1,I,J,O⟩:=aJ.1 h;unfold j4;refine aJ.2 ⟨p1,fun x hx=>?_,J,O⟩;rcases Cv hx with hx | rfl
 ·exact I x hx
 ·exact q
theorem aAr {α:Type}:∀{l:List α}{j:Nat}{y:α},l[j]?=some y→l.set j y=l
 | [],_,_,h=>by cases h
 | x::l,0,y,h=>by
  have e:x=y:=by simpa using h
  rw[e];rfl
 | x::l,j+1,y,h=>by
  have q:l[j]?=some y:=by simpa using h
  rw[Cp,aAr q]
theorem Sim.kid {f n:Int}{s:Str}{t:Ty}{ks:List Core}{al:List Alt}{j:Nat}{x:Core}{p:CE}(Y:¬f=6) (Z:¬f=7) (hb:bE (BN N6) (.mk f n s t ks [] al)) (hx:ks[j]?=some x) (h:Sim x p)
  (hs:shE (aK x)=false→shE (.mk f n s zTy (ks.map aK) [] (al.map eC))=false∧∀i,m30 (aK x)≤i→fX [] (i+1) (.mk f n s zTy (ks.map aK) [] (al.map eC))=jT false (fX [] i (aK x)) (j4 (.mk f n s zTy (ks.map aK) [] (al.map eC)) j)):
  Sim (.mk f n s t ks [] al) (jT false p (j4 (.mk f n s t ks [] al) j)):=by
 have aa:m30 (aK x)<m30 (.mk f n s zTy (ks.map aK) [] (al.map eC)):=by
  have:=dQ (Ad.2 ⟨x,δ hx,rfl⟩:aK x∈ks.map aK);rw[m30];omega
 have I:∀r,aK (j4 (.mk f n s t ks [] al) j r)=j4 (.mk f n s zTy (ks.map aK) [] (al.map eC)) j (aK r):=fun r=>by
  unfold j4;show aK (.mk f n s t (ks.set j r) [] al)=.mk f n s zTy ((ks.map aK).set j (aK r)) [] (al.map eC);rw[k8 Y Z,map_set];rfl
 have e0:aK (.mk f n s t ks [] al)=.mk f n s zTy (ks.map aK) [] (al.map eC):=by rw[k8 Y Z];rfl
 by_cases hp:p.2=0
 ·have J:jT false p (j4 (.mk f n s t ks [] al) j)=(j4 (.mk f n s t ks [] al) j p.1,0):=by unfold jT;rw[ψ Ao,ξ hp]
  rw[J];obtain⟨g1,g2⟩:=h.ok hp;refine⟨fun _=>⟨a4n hb g1,?_⟩,fun e=>absurd rfl e⟩;rw[e0,I];rcases g2 with g2 | ⟨g2,g3⟩
  ·refine .inl ?_;rw[g2];unfold j4;have q:(ks.map aK)[j]?=some (aK x):=by rw[Bo,hx];rfl
   have hj:j<(ks.map aK).length:=(τ.1 q).1
   show Core.mk f n s zTy ((ks.map aK).set j (aK x)) [] (al.map eC)=_;rw[aAr q]
  ·obtain⟨O,W⟩:=hs g2;refine .inr ⟨O,fun i hi=>?_⟩;obtain⟨i,rfl⟩:=aBv hi;rw[W i (by omega),g3 i (by omega)];unfold jT;rw[ψ Ao,ξ rfl]
 ·have J:jT false p (j4 (.mk f n s t ks [] al) j)=(zC,p.2):=by unfold jT;rw[ψ Ao,ψ hp]
  rw[J];obtain⟨g1,g2⟩:=h.er hp;refine⟨fun e=>absurd e hp,fun _=>?_⟩;rw[e0];obtain⟨O,W⟩:=hs g1;refine⟨O,fun i hi=>?_⟩;obtain⟨i,rfl⟩:=aBv hi;rw[W i (by omega),g2 i (by omega)];unfold jT;rw[ψ Ao,ψ hp]
theorem WT.alts {V:List Str}{Γ:Env}{n:Int}{s:Str}{t t0:Ty}{ks:List Core}{bs:List Bind}{al:List Alt}(h:WT V Γ (.mk 9 n s t0 ks bs al) t):∀a∈al,a.form=1∨a.form=2∨a.form=3:=by
 cases h with
 | cbool | cint | cl2=>
  intro a ha;simp only[Ah,Ca,C8] at ha;rcases ha with rfl | rfl<;>simp[Alt.form]
 | cl1 | cp=>
  intro a ha;simp only[Ah,Ca,C8] at ha;subst ha;simp[Alt.form]
theorem oK {bd:List Bind}{k:Nat}{n:Int}{s:Str}{t0:Ty}{x:Core}{al:List Alt}(Z:bE (QL 403) (.mk 9 n s t0 [x] [] al)) (hb:bE (BN N6) (.mk 9 n s t0 [x] [] al)) (hp:pfR (.mk 9 n s t0 [x] [] al)=[]) (ht:tyR (.mk 9 n s t0 [x] [] al)=[])
  (hf:∀a∈al,a.form=1∨a.form=2∨a.form=3) (h7:¬x.form=7) (ih:shC x=false→Sim x (dT bd k x)):Sim (.mk 9 n s t0 [x] [] al) (dT bd (k+1) (.mk 9 n s t0 [x] [] al)):=by
 rw[eM,ψ (by decide),ψ (by decide),ψ (by decide),ξ rfl];show Sim _ (if shC x=true then _ else _);have e0:aK (.mk 9 n s t0 [x] [] al)=.mk 9 n s zTy [aK x] [] (al.map eC):=by rw[k8 (by decide) (by decide)];rfl
 obtain⟨⟨_,_,b3⟩,l1,l2,l3⟩:=aJ.1 hb;obtain⟨_,k1,k2,k3⟩:=aJ.1 Z;cases hs:shC x with
 | false=>
  rw[ψ (by decide)];have ek:qY (dT bd k) (.mk 9 n s t0 [x] [] al) 0=jT false (dT bd k x) (j4 (.mk 9 n s t0 [x] [] al) 0):=by
   unfold qY;show jT (shC x) (dT bd k x) _=_;rw[hs]
  rw[ek];refine Sim.kid (x:=x) (by decide) (by decide) hb rfl (ih hs) fun I=>⟨aAq (by decide) (by decide) (by decide) (by decide),fun i hi=>?_⟩
  rw[fX,ψ (by decide),ψ (by decide),ψ (by decide),ξ rfl];show(if ¬shE (aK x)=true then _ else _)=_;rw[ξ (by rw[I];decide)];rfl
 | true=>
  rw[ξ rfl];have hin:∀z,¬z∈pfR (.mk 9 n s t0 [x] [] al):=fun z q=>by rw[hp] at q;cases q
  have hpx:pfR x=[]:=tT (fun z q=>(dC (by decide)).2 (.inl ⟨x,by simp,q,by unfold gvN;rw[ψ (by decide)];simp⟩)) hp;have htx:tyR x=[]:=tT (fun z q=>bF.2 (.inr (.inl ⟨x,φ,q,.inl (by decide)⟩))) ht;have hv:=(aDh Z).2
  obtain⟨_,_,_,aa⟩:=zY Z;have O:∀a∈al,tkE aAb (eC a) (aK x)=(eV a x).map aK∧∀r,eV a x=some r→bE (BN N6) r:=fun a ha=>
   a45 (k1 x φ) (l1 x φ) hpx htx hs h7 (hf a ha) (k3 a ha) (l3 a ha) (fun v W=>⟨b3 (ahd a) (Ad.2 ⟨a,ha,rfl⟩) v W,hv a ha v W⟩)
    (fun z q=>Classical.byContradiction fun hzn=>hin z ((dC (by decide)).2 (.inr ⟨a,ha,q,hzn⟩))) (aa a ha)
  have hfe:=aOy (x:=x) al fun a ha=>(O a ha).1
  have hsx:=(aLs (k1 x φ) hs h7).1
  have Y:∀o,(al.findSome? fun a=>eV a x)=o→∀j,m30 (aK (.mk 9 n s t0 [x] [] al))≤j→fX [] j (aK (.mk 9 n s t0 [x] [] al))=(o.map aK).elim (zC,52) fun r=>(r,0):=fun o ho j hj=>by
   obtain⟨j,rfl⟩:=aBv hj;rw[e0,fX,ψ (by decide),ψ (by decide),ψ (by decide),ξ rfl,show([aK x]:List Core).headD zC=aK x from rfl,ψ (by rw[hsx];decide),hfe,ho];cases o<;>rfl
  have I:shE (aK (.mk 9 n s t0 [x] [] al))=false:=by rw[e0];exact aAq (by decide) (by decide) (by decide) (by decide)
  show Sim _ (match al.findSome? fun a=>eV a x with | some r=>(r,0) | none=>(zC,52));cases J:al.findSome? fun a=>eV a x with
  | none=>
   exact⟨fun h=>(by cases h),fun _=>⟨I,Y _ J⟩⟩
  | some r=>
   obtain⟨a,ha,har⟩:=List.exists_of_findSome?_eq_some J;exact⟨fun _=>⟨(O a ha).2 r har,.inr ⟨I,Y _ J⟩⟩,fun h=>absurd rfl h⟩
theorem aXh (s:Str) (a b:Int):bE (BN N6) (dM s a b).1∧aK (dM s a b).1=(dM s a b).1∧(¬(dM s a b).2=0→dM s a b=(zC,(dM s a b).2)):=by
 have hi:∀m,bE (BN N6) (iQ m)∧aK (iQ m)=iQ m∧(¬((iQ m,(0:Int)):CE).2=0→(iQ m,(0:Int))=(zC,((iQ m,(0:Int)):CE).2)):=fun m=>⟨oC (by decide),rfl,fun h=>absurd rfl h⟩
 have ht:∀c,bE (BN N6) (qR c)∧aK (qR c)=qR c∧(¬((qR c,(0:Int)):CE).2=0→(qR c,(0:Int))=(zC,((qR c,(0:Int)):CE).2)):=fun c=>⟨by cases c<;>exact oC (by decide),by cases c<;>rfl,fun h=>absurd rfl h⟩
 have q:∀e:Int,bE (BN N6) zC∧aK zC=zC∧(¬((zC,e):CE).2=0→(zC,e)=(zC,((zC,e):CE).2)):=fun e=>⟨oC (by decide),rfl,fun _=>rfl⟩
 unfold dM
 repeat' split
 all_goals first | exact hi _ | exact ht _ | exact q _
theorem aGr {bd:List Bind}{k:Nat}{n:Int}{s:Str}{t0:Ty}{a b:Core}(hq:bE (QL 403) (.mk 10 n s t0 [a,b] [] [])) (hb:bE (BN N6) (.mk 10 n s t0 [a,b] [] [])) (h7a:¬a.form=7) (h7b:¬b.form=7)
  (iha:shC a=false→Sim a (dT bd k a)) (ihb:shC b=false→Sim b (dT bd k b)):Sim (.mk 10 n s t0 [a,b] [] []) (dT bd (k+1) (.mk 10 n s t0 [a,b] [] [])):=by
 rw[eM,ψ (by decide),ψ (by decide),ψ (by decide),ψ (by decide),ξ rfl];show Sim _ (if ¬shC a=true then _ else if ¬shC b=true then _ else if a.form=3∧b.form=3 then dM s a.n b.n else(zC,51));have e0:aK (.mk 10 n s t0 [a,b] [] [])=.mk 10 n s zTy [aK a,aK b] [] []:=by rw[k8 (by decide) (by decide)];rfl
 obtain⟨_,k1,_⟩:=aJ.1 hq;have q:shE (.mk 10 n s zTy [aK a,aK b] [] [])=false:=aAq (by decide) (by decide) (by decide) (by decide);have I:∀i,fX [] (i+1) (.mk 10 n s zTy [aK a,aK b] [] [])=if ¬shE (aK a)=true then jT false (fX [] i (aK a)) (j4 (.mk 10 n s zTy [aK a,aK b] [] []) 0) else if ¬shE (aK b)=true then jT false (fX [] i (aK b)) (j4 (.mk 10 n s zTy [aK a,aK b] [] []) 1) else if(aK a).form=3∧(aK b).form=3 then dM s (aK a).n (aK b).n else(zC,51):=fun i=>by
  rw[fX,ψ (by decide),ψ (by decide),ψ (by decide),ψ (by decide),ξ rfl];rfl
 cases J:shC a with
 | false=>
  rw[ξ (by decide)];have Z:qY (dT bd k) (.mk 10 n s t0 [a,b] [] []) 0=jT false (dT bd k a) (j4 (.mk 10 n s t0 [a,b] [] []) 0):=by
   unfold qY;show jT (shC a) (dT bd k a) _=_;rw[J]
  rw[Z];refine Sim.kid (x:=a) (by decide) (by decide) hb rfl (iha J) fun h=>⟨q,fun i hi=>?_⟩
  show fX [] (i+1) (.mk 10 n s zTy [aK a,aK b] [] [])=_;rw[I,ξ (by rw[h];decide)];rfl
 | true=>
  rw[ψ (by decide)];obtain⟨a1,a2,a3⟩:=aLs (k1 a φ) J h7a;cases O:shC b with
  | false=>
   rw[ξ (by decide)];have Z:qY (dT bd k) (.mk 10 n s t0 [a,b] [] []) 1=jT false (dT bd k b) (j4 (.mk 10 n s t0 [a,b] [] []) 1):=by
    unfold qY;show jT (shC b) (dT bd k b) _=_;rw[O]
   rw[Z];refine Sim.kid (x:=b) (by decide) (by decide) hb rfl (ihb O) fun h=>⟨q,fun i hi=>?_⟩
   show fX [] (i+1) (.mk 10 n s zTy [aK a,aK b] [] [])=_;rw[I,ψ (by rw[a1];decide),ξ (by rw[h];decide)];rfl
  | true=>
   rw[ψ (by decide)];obtain⟨b1,b2,b3⟩:=aLs (k1 b (η _ φ)) O h7b;by_cases h3:a.form=3∧b.form=3
   ·rw[ξ h3];obtain⟨p1,p2,p3⟩:=aXh s a.n b.n;have Y:∀j,m30 (aK (.mk 10 n s t0 [a,b] [] []))≤j→fX [] j (aK (.mk 10 n s t0 [a,b] [] []))=dM s a.n b.n:=fun j Y=>by
     obtain⟨j,rfl⟩:=aBv Y;rw[e0,I,ψ (by rw[a1];decide),ψ (by rw[b1];decide),ξ ⟨a2.2 h3.1,b2.2 h3.2⟩,a3 h3.1,b3 h3.2]
    refine⟨fun h=>⟨p1,.inr ⟨by rw[e0];exact q,fun j W=>?_⟩⟩,fun h=>⟨by rw[e0];exact q,fun j W=>?_⟩⟩
    ·rw[Y j W,p2,←h]
    ·rw[Y j W];exact p3 h
   ·rw[ψ h3];refine⟨fun h=>(by cases h),fun _=>⟨by rw[e0];exact q,fun j W=>?_⟩⟩;obtain⟨j,rfl⟩:=aBv W;rw[e0,I,ψ (by rw[a1];decide),ψ (by rw[b1];decide),ψ fun h=>h3 ⟨a2.1 h.1,b2.1 h.2⟩]
theorem a04 (bd:List Bind):∀(k:Nat) (c:Core) (t:Ty),m30 c≤k→WT [] e0 c t→bE (QL 403) c→bE (BN N6) c→shC c=false→Sim c (dT bd k c):=by
 intro k
 induction k with
 | zero=>intro c t h;have:=dB c;omega
 | succ k ih=>
 intro c t h hw Z hb hs;have hpf:=hw.pf;have hty:=hw.ty;have hal:=fun(n:Int) (s:Str) (t0:Ty) (ks:List Core) (bs:List Bind) (al:List Alt) (e:c=.mk 9 n s t0 ks bs al)=>WT.alts (by rw[e] at hw;exact hw)
 obtain⟨q2,l2⟩:(∀x∈c.kids,bE (QL 403) x)∧∀x∈c.kids,bE (BN N6) x:=by cases c;exact⟨(aJ.1 Z).2.1,(aJ.1 hb).2.1⟩
 have hm:∀x∈c.kids,m30 x≤k:=fun x hx=>by
  obtain⟨f,n,s,t,ks,bs,al⟩:=c;have:=dQ (l:=ks) hx;rw[m30] at h;omega
 have I:∀(x:Core) (u:Ty),x∈c.kids→WT [] e0 x u→shC x=false→Sim x (dT bd k x):=fun x u hx hwx hsx=>ih x u (hm x hx) hwx (q2 x hx) (l2 x hx) hsx
 obtain⟨n5,n7,n3,O⟩:=aD1.1 hs;cases hw with
 | var h=>cases h
 | int=>exact absurd rfl n3
 | bool=>unfold qR at O;rw[lM] at O;cases O
 | nil h=>rw[iF,lM] at O;cases O
 | cons h=>rw[iF,lM] at O;cases O
 | pair h1 h2=>rw[iF,iF,lM] at O;cases O
 | lam hu hb=>exact absurd rfl n5
 | fail ht=>
  rw[eM,ψ (by decide),ψ (by decide),ψ (by decide),ψ (by decide),ψ (by decide),ξ rfl];refine⟨fun h=>(by cases h),fun _=>⟨?_,fun j hj=>?_⟩⟩
  ·rw[k8 (by decide) (by decide)];exact aAq (by decide) (by decide) (by decide) (by decide)
  ·obtain⟨j,rfl⟩:=aBv hj;rw[k8 (by decide) (by decide),fX,ψ (by decide),ψ (by decide),ψ (by decide),ψ (by decide),ψ (by decide),ξ rfl]
 | @app _ _ f a u _ hf ha=>
  rw[eM,ψ (by decide),ξ (.inl rfl)];have e0:aK (.mk 4 0 [] zTy [f,a] [] [])=.mk 4 0 [] zTy [aK f,aK a] [] []:=by rw[k8 (by decide) (by decide)];rfl
  by_cases h5:f.form=5
  ·obtain⟨s,b,u',t',rfl,hu,hwb,e⟩:=hf.form5 h5;rw[ξ ⟨rfl,rfl⟩];have hqf:bE (QL 403) (.mk 5 0 s u' [b] [] []):=q2 _ φ;have hqb:bE (QL 403) b:=(aJ.1 hqf).2.1 b φ;have hbb:bE (BN N6) b:=(aJ.1 (l2 _ φ)).2.1 b φ;have hqa:bE (QL 403) a:=q2 a (η _ φ);have hba:bE (BN N6) a:=l2 a (η _ φ);have e1:bW (m30 b) b s a=nS b s a:=sS (X:=403) (by rw[ha.pf];simp) ha.ty (m30 b) b (le_refl _) hqb;have ef:aK (.mk 5 0 s u' [b] [] [])=.mk 5 0 s zTy [aK b] [] []:=by rw[k8 (by decide) (by decide)];rfl
   obtain⟨c1,c2,c3⟩:=uC hqa hba ha.pf;show Sim _ (bW (m30 b) b s a,0);rw[e1];refine⟨fun _=>⟨hY hba _ b (le_refl _) hbb,.inr ⟨?_,fun j hj=>?_⟩⟩,fun h=>absurd rfl h⟩
   ·rw[e0,ef];unfold shE;rw[spH,ξ rfl,a03,spH,ψ (by decide)];rfl
   ·obtain⟨j,rfl⟩:=aBv hj;rw[e0,ef,fX,ψ (by decide),ξ rfl];show(if(5:Int)=5 then(bW (m30 (aK b)) (aK b) s (aK a),(0:Int)) else _)=_;rw[ξ rfl,sS (X:=403) (by rw[c2];simp) c3 _ _ (le_refl _) (uZ b hqb).1.q,aJ0 _ b (le_refl _) hqb]
  ·rw[ψ fun h=>h5 h.2,ψ fun h=>absurd h.1 (by decide)]
   have hsf:shC f=false:=aD1.2 ⟨h5,hf.form7,fun h3=>(by obtain⟨_,_,e⟩:=hf.form3 h3;exact gC e),by
    rw[aHx] at O;cases hg:gvC f with
    | none=>rfl
    | some p=>rw[hg] at O;cases O⟩
   have ek:qY (dT bd k) (.mk 4 0 [] zTy [f,a] [] []) 0=jT false (dT bd k f) (j4 (.mk 4 0 [] zTy [f,a] [] []) 0):=by
    unfold qY;show jT (shC f) (dT bd k f) _=_;rw[hsf]
   rw[ek];refine Sim.kid (x:=f) (by decide) (by decide) hb rfl (I f _ φ hf hsf) fun hse=>⟨aW0 hse,fun i hi=>?_⟩
   show fX [] (i+1) (.mk 4 0 [] zTy [aK f,aK a] [] [])=_;rw[fX,ψ (by decide),ξ rfl];show(if(aK f).form=5 then _ else if ¬shE (aK f)=true then _ else _)=_;rw[ψ (aRq hse),ξ (by rw[hse];decide)];rfl
 | @tt _ W _ Δ s p b u t' h1 h2 h3 h4 h5 h6=>
  rw[eM,ψ (by decide),ξ (.inr rfl),ψ (fun h=>absurd h.1 (by decide)),ξ ⟨rfl,rfl⟩];have hql:bE (QL 403) (.mk 5 0 p (vT s) [b] [] []):=(aJ.1 (q2 _ φ)).2.1 _ φ;have hbl:bE (BN N6) (.mk 5 0 p (vT s) [b] [] []):=(aJ.1 (l2 _ φ)).2.1 _ φ;have e1:sTR (m30 (.mk 5 0 p (vT s) [b] [] [])) (.mk 5 0 p (vT s) [b] [] []) s u=nT (.mk 5 0 p (vT s) [b] [] []) s u:=aUp (X:=403) h5.closed _ _ (le_refl _) hql;have e2:aK (sTR (m30 (.mk 5 0 p (vT s) [b] [] [])) (.mk 5 0 p (vT s) [b] [] []) s u)=aK (.mk 5 0 p (vT s) [b] [] []):=by
   have hsk:=kS (m30 (.mk 5 0 p (vT s) [b] [] [])) (.mk 5 0 p (vT s) [b] [] []) s u;have g1:=pB _ (lR _ hql);rw[←hsk,e1] at g1;have hqn:wfC (nT (.mk 5 0 p (vT s) [b] [] []) s u)=true:=by
    have:=aKo (nT (.mk 5 0 p (vT s) [b] [] []) s u);rw[←e1,hsk,aKo] at this;rw[←e1,←this];exact lR _ hql
   rw[e1,←pB _ hqn,g1]
  refine⟨fun _=>⟨?_,.inl ?_⟩,fun h=>absurd rfl h⟩
  ·show bE (BN N6) (sTR (m30 (.mk 5 0 p (vT s) [b] [] [])) (.mk 5 0 p (vT s) [b] [] []) s u);rw[e1];exact aT5 _ _ (le_refl _) hbl
  ·show aK (sTR (m30 (.mk 5 0 p (vT s) [b] [] [])) (.mk 5 0 p (vT s) [b] [] []) s u)=_;rw[e2,aEw (.inl rfl),aEw (.inr rfl)]
 | @lt _ _ s b d u _ hu hwb hc=>
  rw[eM,ψ (by decide),ψ (by decide),ξ rfl];have hl:WT [] e0 (fK [.mk s u b] (.mk s u b)) u:=.lt hu hwb hwb;have hns:nh s:=(aDh Z).1 s (by simp[gvN,Bind.name]);have hNs:N6 s:=(aJ.1 hb).1.2.1 (bhd (.mk s u b)) (by simp)
  have hqd:=q2 d φ;have hbd:=l2 d φ;have hqL:bE (QL 403) (fK [.mk s u b] (.mk s u b)):=aVk Z φ;have hbL:bE (BN N6) (fK [.mk s u b] (.mk s u b)):=by
   obtain⟨⟨_,p2,_⟩,_,p5,_⟩:=aJ.1 hb;exact aJ.2 ⟨⟨fun e=>absurd e (by decide),p2,by simp⟩,by simpa using p5 _ φ,p5,by simp⟩
  have hfd:∀z∈pfR d,z=s:=fun z J=>Classical.byContradiction fun e=>absurd (hc.free z J) (by rw[aS e];exact fun h=>h rfl)
  have e1:uV d [s] [fK [.mk s u b] (.mk s u b)]=fS d [(s,fK [.mk s u b] (.mk s u b))]:=y4 (X:=403) (by decide) d [s] [fK [.mk s u b] (.mk s u b)] rfl (by simp) (fun z J=>by rw[κ.1 J];exact hns) hqd (fun z J=>by rw[hfd z J];exact hns) fun z J=>by rw[κ.1 J];exact a4o hl hqL
  have e0:aK (.mk 8 0 [] zTy [d] [.mk s u b] [])=.mk 8 0 [] zTy [aK d] [.mk s zTy (aK b)] []:=by rw[k8 (by decide) (by decide)];rfl
  have eL:aK (fK [.mk s u b] (.mk s u b))=fK [.mk s zTy (aK b)] (.mk s zTy (aK b)):=by unfold fK;rw[k8 (by decide) (by decide)];rfl
  show Sim _ (uV d [s] [fK [.mk s u b] (.mk s u b)],0);rw[e1];refine⟨fun _=>⟨uP hbd fun p hp=>by rw[κ.1 hp];exact hbL,.inr ⟨by rw[e0];exact aAq (by decide) (by decide) (by decide) (by decide),fun j hj=>?_⟩⟩,fun h=>absurd rfl h⟩;obtain⟨j,rfl⟩:=aBv hj;rw[e0,fX,ψ (by decide),ψ (by decide),ξ rfl];show(aAb (aK d) [s] [fK [.mk s zTy (aK b)] (.mk s zTy (aK b))],(0:Int))=_
  rw[←eL,aMj (c:=aK d) (names:=[s]) (l:=[aK (fK [.mk s u b] (.mk s u b))]) rfl (by simp) (fun z J=>by rw[κ.1 J];exact hNs) (aKf _ _ (le_refl _) (uZ _ hqd).1.q (aFh _ _ (le_refl _) hqd hbd)) (by
   rw[aXk (lR _ hqd)];have:=eO (pfR d) [s] (y5 d) fun z J=>κ.2 (hfd z J)
   simp only[Bl,List.length_nil] at this
   omega) (fun z J=>by rw[κ.1 J];exact uC hqL hbL hl.pf)]
  rw[aYf (X:=403) _ _ hqd fun p hp=>by rw[κ.1 hp];exact hqL];rfl
 | @cbool _ _ x a b _ ht hx ha Y=>exact oK Z hb hpf hty (hal _ _ _ _ _ _ rfl) hx.form7 (I x _ φ hx)
 | @cint _ _ m x a b _ ht hx ha Y=>exact oK Z hb hpf hty (hal _ _ _ _ _ _ rfl) hx.form7 (I x _ φ hx)
 | @cl1 _ _ x y s0 d u _ hxy ht hx hd=>exact oK Z hb hpf hty (hal _ _ _ _ _ _ rfl) hx.form7 (I s0 _ φ hx)
 | @cl2 _ _ x y s0 d d2 u _ hxy ht hx hd hd2=>exact oK Z hb hpf hty (hal _ _ _ _ _ _ rfl) hx.form7 (I s0 _ φ hx)
 | @cp _ _ x y s0 d u w _ hxy ht hx hd=>exact oK Z hb hpf hty (hal _ _ _ _ _ _ rfl) hx.form7 (I s0 _ φ hx)
 | @pint _ _ s a b hs' ha Y=>exact aGr Z hb ha.form7 Y.form7 (I a _ φ ha) (I b _ (η _ φ) Y)
 | @pbool _ _ s a b hs' ha Y=>exact aGr Z hb ha.form7 Y.form7 (I a _ φ ha) (I b _ (η _ φ) Y)
end Go.Proofs.YtglfogjcijokpaaGreatDoor
