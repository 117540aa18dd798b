/-
  The law EraseSteps: its row and its card.
-/
import Derived.Test.YtglfogjcijokpaaGreatDoorM16
import Derived.Test.YtglfogjcijokpaaGreatDoorCards
import Derived.Test.YtglfogjcijokpaaGreatDoorTie
import Derived.ProofKit
import Derived.Lib.LaidTab
import Derived.Stop.LaidErr
import Derived.OpenShut
import Derived.LaidMore
import Derived.Lay
import Derived.SevenTiedAt
import Derived.Stop.Joined
open List (all_eq_true append_nil mem_cons mem_cons_of_mem mem_cons_self mem_map mem_singleton not_mem_nil)
open Nat (le_refl le_trans mul_le_mul mul_le_mul_left not_lt zero_le)
namespace Go.Proofs.YtglfogjcijokpaaGreatDoor
open Go Go.AM
set_option maxRecDepth 20000
set_option maxHeartbeats 4000000
def fA:Ty:=.mk 2 0 [97] []
def fB:Ty:=.mk 2 0 [98] []
def tcn (s:Str):Ty:=.mk 3 0 s []
def tap (f a:Ty):Ty:=.mk 4 0 [] [f,a]
def tal (s:Str) (t:Ty):Ty:=.mk 5 0 s [t]
def mM:Ty:=tap (tcn [76]) fA
def z8:Ty:=tap (tap (tcn [80]) fA) fB
def fId:Ty:=tal [98] (eE fB fB)
def aYd:Ty:=tap (tcn [75,64]) fA
def aNm:Str:=[66,111,111,108]
def FL:List Fld:=[⟨[78],0,2,0,tal [97] mM⟩,⟨[67],1,2,2,tal [97] (eE fA (eE mM mM))⟩,⟨[80],0,1,2,tal [97] (tal [98] (eE fA (eE fB z8)))⟩,
 ⟨[70,97,108,115,101],0,2,0,tcn aNm⟩,⟨[84,114,117,101],1,2,0,tcn aNm⟩,⟨[75,64],0,1,2,tal [97] (eE fA (eE fId aYd))⟩]
theorem aTh:aU Tryz.prog 5 [] [] (.one (.c (.sl 8 (FL.map aCa)))) []:=by
 have h1:=iK [76];have h2:=iK [80];have h3:=iK [75,64];have h4:=iK aNm;have h5:=v7 fB fB;have h6:=qI [97] mM;have h7:=v7 mM mM;have h8:=v7 fA (eE mM mM);have h9:=qI [97] (eE fA (eE mM mM));have q:=v7 fB z8;have I:=v7 fA (eE fB z8);have J:=qI [98] (eE fA (eE fB z8));have O:=qI [97] (tal [98] (eE fA (eE fB z8)));have W:=v7 fId aYd;have Y:=v7 fA (eE fId aYd);have Z:=qI [97] (eE fA (eE fId aYd));refine bL (n:=59) tok Tryz.func5 rfl rfl rfl ?_;refine sg rfl (sg rfl (AWp.sub (vp 1 (bH fA)) ?_));refine sg rfl (AWp.sub (vp 2 (bH fB)) ?_);exact sgh [(0,.pc (tyV (tcn [76]))),(2,.all)] rfl (sgh [(0,.pc (tyV (tcn [80]))),(2,.all),(5,.all)] rfl (sgh [(2,.pc (tyV (eE fB fB))),(3,.all)] rfl (sgh [(0,.pc (tyV (tcn [75,64]))),(2,.all)] rfl (sgh [(1,.pc (tyV (tal [97] mM))),(6,.pc (tyV (eE mM mM))),(7,.pc (tyV (eE fA (eE mM mM)))),(8,.pc (tyV (tal [97] (eE fA (eE mM mM))))),(13,.pc (tyV (eE fB z8))),(14,.pc (tyV (eE fA (eE fB z8)))),(15,.pc (tyV (tal [98] (eE fA (eE fB z8))))),(16,.pc (tyV (tal [97] (tal [98] (eE fA (eE fB z8)))))),(18,.pc (tyV (tcn aNm))),(20,.pc (tyV (tcn aNm))),(25,.pc (tyV (eE fId aYd))),(26,.pc (tyV (eE fA (eE fId aYd)))),(27,.pc (tyV (tal [97] (eE fA (eE fId aYd))))),(29,.all)] rfl (aF rtT)))))
theorem aKd (x:Int) (k:Nat) (hk:1≤k):∃d:Nat,d<k∧r5 x k=(d:Int):=by
 obtain⟨h1,h2⟩:=aC5 x (k:=k) (by omega);exact⟨(r5 x k).toNat,by omega,by omega⟩
def aRe (s:Str) (c:Core):Core:=.mk 7 0 s zTy [c] [] []
def aRh (c:Core) (t:Ty):Core:=.mk 6 0 [] t [c] [] []
theorem aTi (s:Str) (c:Core) (h2:aU Tryz.prog 74 [.pa (aB c)] [] (.pa (aB c)) []):aU Tryz.prog 47 [.pa (aB c),bK [s]] [] (.pa (aB (aRe s c))) []:=by
 refine bL (n:=27) tok Tryz.func47 rfl rfl rfl ?_;refine sg rfl (sgh [(1,.pc (.pa (aB c)))] rfl (a8 (sg rfl (aC (aO (fun i:Nat=>mk [(1,bK [s]),(4,.one (.vp 4 0)),(5,.one (.vp 5 0)),(10,I .i64 1),(11,I .i64 i)] [(4,.var 34 bI),(5,.var 34 (b7 (if i=0 then c else aRe s c)))]) (fun i=>i≤1) (fun i=>1-i) 0 (Ak _) sl ?_)))));intro i hi;refine sg rfl (a8 (aA rfl (fun hb=>?_) (fun hb=>?_)))
 ·have q:i=0:=by
   have:(i:Int)<1:=θ hb;omega
  subst q;rw[ξ rfl];exact aD (a8 (aC (sg rfl (ag [(6,.row 0 (bC s)),(9,.all)] rfl (ag [] rfl ⟨1,le_refl _,by dsimp only;omega,Sub.trans sl (vp 5 (aB (aRe s c)))⟩)))))
 have J:i=1:=by
  have:¬(i:Int)<1:=Aa hb;omega
 subst J;rw[ψ (by omega)];exact aM (sg rfl (aF (rtC trw)))
theorem aTj (c:Core) (t:Ty) (h1:aU Tryz.prog 80 [tyV t] [] (tyV t) []) (h2:aU Tryz.prog 74 [.pa (aB c)] [] (.pa (aB c)) []):aU Tryz.prog 49 [.pa (aB c),.one (.c (.sl 4 [bH t]))] [] (.pa (aB (aRh c t))) []:=by
 refine bL (n:=23) tok Tryz.func49 rfl rfl rfl ?_;refine sg rfl (sgh [(1,.pc (.pa (aB c)))] rfl (a8 (sg rfl (aC (aO (fun i:Nat=>mk [(4,.one (.vp 4 0)),(5,.one (.vp 5 0)),(10,.one (.c (.sl 4 [bH t]))),(11,I .i64 1),(12,I .i64 i)] [(4,.var 34 bI),(5,.var 34 (b7 (if i=0 then c else aRh c t)))]) (fun i=>i≤1) (fun i=>1-i) 0 (Ak _) sl ?_)))));intro i hi;refine sg rfl (a8 (aA rfl (fun hb=>?_) (fun hb=>?_)))
 ·have q:i=0:=by
   have:(i:Int)<1:=θ hb;omega
  subst q;rw[ξ rfl];exact aD (a8 (aC (sgh [(0,.row 0 (bH t))] rfl (ag [(1,.pc (tyV t)),(3,.all)] rfl (ag [] rfl ⟨1,le_refl _,by dsimp only;omega,Sub.trans sl (vp 5 (aB (aRh c t)))⟩)))))
 have J:i=1:=by
  have:¬(i:Int)<1:=Aa hb;omega
 subst J;rw[ψ (by omega)];exact aM (sg rfl (aF (rtC trw)))
theorem sF (q:Core→CE) (k n:Nat) (c:Core):whE q (k+1) n c=if shE c=true then(c,n,0) else if(q c).2=0 then(if 6000<eZ (q c).1 then(zC,0,2) else whE q k (n+1) (q c).1) else(zC,0,(q c).2):=by rw[whE]
def aB2:Ty:=.mk 2 0 [97] []
def a2v:Core:=aRe [97] (aKl [120] aB2 xVC)
def a2u:Core:=aRh a2v iZ
def aYe:Core:=aJ3 a2u (iQ 3)
def aVs:Core:=aJ3 (aKl [120] zTy xVC) (iQ 3)
theorem a2t:CB aVs:=by
 have q:bE (QL 403) xVC:=aFf rfl (by decide) (by decide) (by decide);have I:bE (QL 403) (iQ 3):=aFf rfl (by decide) (by decide) (by decide);have J:bE (QL 403) (aKl [120] zTy xVC):=aJ.2 ⟨⟨rfl,fun h=>(by cases h),rfl,by simp,by decide,fun _=>(by unfold nh;decide),by simp,by simp⟩,fun x hx=>by rw[κ.1 hx];exact q,by simp,by simp⟩;have O:bE ZL (aKl [120] zTy xVC):=aJ.2 ⟨⟨by decide,rfl,by simp⟩,fun x hx=>by rw[κ.1 hx];exact uQ (by decide),by simp,by simp⟩;refine⟨aJ.2 ⟨⟨rfl,fun h=>(by cases h),rfl,by simp,by decide,fun h=>(by cases h),by simp,by simp⟩,fun x hx=>?_,by simp,by simp⟩,aJ.2 ⟨⟨by decide,rfl,by simp⟩,fun x hx=>?_,by simp,by simp⟩,by decide⟩
 ·have:x=aKl [120] zTy xVC∨x=iQ 3:=by simpa using hx
  rcases this with rfl | rfl
  ·exact J
  ·exact I
 ·have:x=aKl [120] zTy xVC∨x=iQ 3:=by simpa using hx
  rcases this with rfl | rfl
  ·exact O
  ·exact uQ (by decide)
theorem a2s:whE (sfE []) 9 0 aVs=(iQ 3,1,0):=by
 have hs:sfE [] aVs=(iQ 3,0):=by
  unfold sfE;rw[show m30 aVs=123+1 by decide];unfold aVs aJ3 aKl;rw[fX,ψ (by decide),ξ rfl];show(bW (m30 xVC) xVC [120] (iQ 3),(0:Int))=_;rw[show m30 xVC=30+1 by decide];unfold xVC;rw[bW,ξ ⟨rfl,rfl⟩]
 rw[sF,ψ (by decide),hs,ξ rfl,ψ (by decide),sF];show(if shE (iQ 3)=true then(iQ 3,0+1,(0:Int)) else _)=_;rw[ξ (show shE (iQ 3)=true from rfl)]
theorem aTe:aU Tryz.prog 17 [] [] (B true) []:=by
 have Z:cE 540000000000:=fun k hk=>aPi k (by omega)
 have J:TyG aB2:=aPm aB2 rfl;have O:TyG iZ:=aPm iZ rfl;have q:TyG zTy:=aPm zTy rfl;have own:∀(c:Core),aV c≤1000→allT TyG c→aU Tryz.prog 74 [.pa (aB c)] [] (.pa (aB c)) []:=fun c h1 h2=>aPf _ c h1 (by decide) h2
 have W:allT TyG xVC:=⟨q,trivial,trivial,trivial⟩
 have tl:allT TyG (aKl [120] aB2 xVC):=⟨J,⟨W,trivial⟩,trivial,trivial⟩
 have tA:allT TyG a2v:=⟨q,⟨tl,trivial⟩,trivial,trivial⟩
 have tB:allT TyG a2u:=⟨O,⟨tA,trivial⟩,trivial,trivial⟩
 have h1:=aYv [97];have h2:=a3x [120];have h3:=aY7 [120] aB2 xVC J (own xVC (by decide) W);have h4:=aTi [97] (aKl [120] aB2 xVC) (own _ (by decide) tl);have h5:=aYw [73,110,116];have h6:=aTj a2v iZ O (own a2v (by decide) tA);have h7:=aV5 3;have h8:=aY9 a2u (iQ 3) (own a2u (by decide) tB) (own (iQ 3) (by decide) ⟨q,trivial,trivial,trivial⟩);have h9:aU Tryz.prog 15 [.pa (aB aYe)] [] (.pa (aB aVs)) []:=zL _ aYe (le_refl _) (by decide) rfl;have Y:=aYu Z 9 (by decide) aVs a2t;rw[a2s] at Y;refine bL (n:=60) tok Tryz.func17 rfl rfl rfl ?_;exact sg rfl (sgh [(0,.pc (tyV aB2)),(1,.pc (.pa (aB xVC))),(2,.pc (.pa (aB (aKl [120] aB2 xVC)))),(3,.all),(4,.pc (.pa (aB a2v)))] rfl (sgh [(1,.pc (tyV iZ)),(2,.all),(3,.pc (.pa (aB a2u))),(4,.pc (.pa (aB (iQ 3)))),(5,.all),(6,.pc (.pa (aB aYe))),(7,.pc (.pa (aB aVs)))] rfl (sgh [(1,.pc (.tup [.pa (aB (iQ 3)),I .i64 1,I .i64 0]))] rfl (sgh [(3,.bv true),(8,.bv true),(9,.bv true),(12,.row 0 (aB (aKl [120] zTy xVC))),(16,.bv true),(17,.bv true),(21,.bv true),(22,.bv true),(26,.bv true),(27,.bv true),(30,.bv true),(31,.bv true),(34,.bv true)] rfl (aF rtT)))))
theorem aQg {X:Nat}:∀(k:Nat) (c:Core),aV c≤k→bE (QL X) c→bE ZL (aK c)
 | 0,c,hk,_=>by have:=bG c;omega
 | k+1,.mk f n s t ks bs al,hk,J=>by
  obtain⟨O,z2,z3,_⟩:= @c6 f n s t ks bs al;obtain⟨_,W,Y,Z⟩:=aJ.1 J;by_cases I:f=6∨f=7
  ·obtain⟨⟨y,rfl⟩,rfl,rfl⟩:=dG J (.inr I);rw[aEw I];exact aQg k y (by have:=O y φ;omega) (W y φ)
  ·rw[k8 (fun e=>I (.inl e)) (fun e=>I (.inr e))];refine aJ.2 ⟨⟨fun e=>I (.inr e),rfl,fun p hp=>?_⟩,fun x hx=>?_,fun x hx=>?_,fun x hx=>?_⟩
   ·obtain⟨x,hx,rfl⟩:=Ad.1 hp;obtain⟨y,q,rfl⟩:=Ad.1 hx;cases y;rfl
   ·obtain⟨y,q,rfl⟩:=Ad.1 hx;exact aQg k y (by have:=O y q;omega) (W y q)
   ·obtain⟨y,q,rfl⟩:=Ad.1 hx;have:=aQg k y.body (by have:=z2 y q;omega) (Y y q);cases y;exact this
   ·obtain⟨y,q,rfl⟩:=Ad.1 hx;have:=aQg k y.body (by have:=z3 y q;omega) (Z y q);cases y;exact this
theorem aT3 {X:Nat}:∀(k:Nat) (c:Core),aV c≤k→bE (QL X) c→tkR c=true
 | 0,c,hk,_=>by have:=bG c;omega
 | k+1,.mk f n s t ks bs al,hk,O=>by
  obtain⟨W,z2,z3,_⟩:= @c6 f n s t ks bs al;obtain⟨_,Y,Z,k3⟩:=aJ.1 O;have c1:∀l:List Core,(∀x∈l,tkR x=true)→aZx l=true:=fun l=>by
   induction l with
   | nil=>intro _;rfl
   | cons x l q=>intro h;rw[aZx,h x φ,q fun y I=>h y (η _ I)];rfl
  have c2:∀l:List Bind,(∀x∈l,tkR x.body=true)→aZy l=true:=fun l=>by
   induction l with
   | nil=>intro _;rfl
   | cons x l q=>
    intro h;have h0:=h x φ;have h1:=q fun y I=>h y (η _ I)
    obtain⟨a,b,c⟩:=x;have h0:tkR c=true:=h0;rw[aZy,h0,h1];rfl
  have c3:∀l:List Alt,(∀x∈l,tkR x.body=true)→aZz l=true:=fun l=>by
   induction l with
   | nil=>intro _;rfl
   | cons x l q=>
    intro h;have h0:=h x φ;have h1:=q fun y I=>h y (η _ I)
    obtain⟨a,b,c,d,e⟩:=x;have h0:tkR e=true:=h0;rw[aZz,h0,h1];rfl
  rw[tkR,c1 ks fun x hx=>aT3 k x (by have:=W x hx;omega) (Y x hx),c2 bs fun x hx=>aT3 k x.body (by have:=z2 x hx;omega) (Z x hx),c3 al fun x hx=>aT3 k x.body (by have:=z3 x hx;omega) (k3 x hx)];by_cases J:f=6∨f=7
  ·obtain⟨⟨y,rfl⟩,_,_⟩:=dG O (.inr J);rw[ξ J];rfl
  ·rw[ψ J];rfl
theorem a2w {c:Core}(I:bE (QL 403) c) (hm:m30 c≤500000000):CB (aK c):=⟨(uZ c I).1.q,aQg _ c (le_refl _) I,le_trans (uZ c I).2 hm⟩
theorem aIl {c:Core}(q:bE (QL 403) c) (hm:m30 c≤500000000):aU Tryz.prog 15 [.pa (aB c)] [] (.pa (aB (aK c))) []:=zL _ c (le_refl _) (by have:=bU c;omega) (aT3 _ c (le_refl _) q)
theorem aFk (q:Core→CE):∀(k n:Nat) (c:Core),¬(whE q k n c).2.2=3→whE q (k+1) n c=whE q k n c
 | 0,n,c,h=>by
  rw[whE] at h;by_cases h1:shE c=true
  ·rw[whE,whE,ξ h1,ξ h1]
  ·rw[ψ h1] at h;exact absurd rfl h
 | k+1,n,c,h=>by
  rw[sF q k n c] at h ⊢;rw[sF q (k+1) n c];by_cases h1:shE c=true
  ·rw[ξ h1,ξ h1]
  ·rw[ψ h1] at h ⊢;rw[ψ h1];by_cases h2:(q c).2=0
   ·rw[ξ h2] at h ⊢;rw[ξ h2];by_cases h3:6000<eZ (q c).1
    ·rw[ξ h3,ξ h3]
    ·rw[ψ h3] at h ⊢;rw[ψ h3];exact aFk q k (n+1) _ h
   ·rw[ψ h2,ψ h2]
theorem aZ9 {E E':Core}{k:Nat}(h:E'=E∨(shE E=false∧sfE [] E=(E',0))):
  ((whE (sfE []) k 0 E).2.2=0→(whE (sfE []) k 0 E').2.2=0∧(whE (sfE []) k 0 E').1=(whE (sfE []) k 0 E).1∧((whE (sfE []) k 0 E').2.1=(whE (sfE []) k 0 E).2.1∨(whE (sfE []) k 0 E').2.1+1=(whE (sfE []) k 0 E).2.1))∧
   ((whE (sfE []) k 0 E).2.2=52∨(whE (sfE []) k 0 E).2.2=53→(whE (sfE []) k 0 E').2.2=(whE (sfE []) k 0 E).2.2):=by
 rcases h with rfl | ⟨h1,h2⟩
 ·exact⟨fun h=>⟨h,rfl,.inl rfl⟩,fun _=>rfl⟩
 have hn:¬shE E=true:=by rw[h1];exact Ao
 cases k with
 | zero=>
  have e:whE (sfE []) 0 0 E=(zC,0,3):=by rw[whE,ψ hn]
  rw[e];exact⟨fun h=>absurd (show(3:Int)=0 from h) (by decide),fun h=>h.elim (fun h=>absurd (show(3:Int)=52 from h) (by decide)) fun h=>absurd (show(3:Int)=53 from h) (by decide)⟩
 | succ k=>
  by_cases hb:6000<eZ E'
  ·have e:whE (sfE []) (k+1) 0 E=(zC,0,2):=by rw[whE,ψ hn,h2,ξ rfl,ξ hb]
   rw[e];exact⟨fun h=>absurd (show(2:Int)=0 from h) (by decide),fun h=>h.elim (fun h=>absurd (show(2:Int)=52 from h) (by decide)) fun h=>absurd (show(2:Int)=53 from h) (by decide)⟩
  ·have e:=aQ3 (sfE []) (k:=k) h1 h2 (not_lt.1 hb);have hf:=aFk (sfE []) k 0 E';rw[e];generalize whE (sfE []) k 0 E'=Y at *;obtain⟨v,i,f⟩:=Y;unfold laE;dsimp only at hf ⊢;refine⟨fun h=>?_,fun h=>?_⟩
   ·rw[hf (by omega)];exact⟨h,rfl,.inr (by rw[ξ h])⟩
   ·rw[hf (by omega)]
theorem a57:∀{m:Nat}{c:Core},GC m c→bE (BN N6) c:=by
 intro m c h
 induction h with
 | var h=>exact oC (by decide)
 | con h=>exact oC (by decide)
 | int h=>exact oC (by decide)
 | app ha hb q I=>exact aJ.2 ⟨⟨fun e=>absurd e (by decide),by simp,by simp⟩,fun x hx=>by simp only[Ah,Ca,C8] at hx;rcases hx with rfl | rfl<;>assumption,by simp,by simp⟩
 | lam h ht hk ha q=>exact aJ.2 ⟨⟨fun _=>h,by simp,by simp⟩,fun x hx=>by rw[κ.1 hx];exact q,by simp,by simp⟩
 | tapp ht hk ha q=>exact aJ.2 ⟨⟨fun e=>absurd e (by decide),by simp,by simp⟩,fun x hx=>by rw[κ.1 hx];exact q,by simp,by simp⟩
 | tlam h ha q=>exact aJ.2 ⟨⟨fun e=>absurd e (by decide),by simp,by simp⟩,fun x hx=>by rw[κ.1 hx];exact q,by simp,by simp⟩
 | lt h ht hk ha hb q I=>exact aJ.2 ⟨⟨fun e=>absurd e (by decide),fun p hp=>by rw[κ.1 hp];exact h,by simp⟩,fun x hx=>by rw[κ.1 hx];exact q,fun x hx=>by rw[κ.1 hx];exact I,by simp⟩
 | case1 ht hk ha hb h1 h2 h3 h4 h5 q I=>exact aJ.2 ⟨⟨fun e=>absurd e (by decide),by simp,fun p hp v J=>by rw[κ.1 hp] at J;exact h4 v J⟩,fun x hx=>by rw[κ.1 hx];exact q,by simp,fun x hx=>by rw[κ.1 hx];exact I⟩
 | @case2 m n o k t a b c f i s vs f' i' s' vs' ht hk ha hb hc h1 h2 h3 h4 h5 h1' h2' h3' h4' h5' q I O=>
  refine aJ.2 ⟨⟨fun e=>absurd e (by decide),by simp,fun p hp v J=>?_⟩,fun x hx=>by rw[κ.1 hx];exact q,by simp,fun x hx=>?_⟩
  ·have:p=(s,vs)∨p=(s',vs'):=by simpa [ahd,Alt.name,Alt.vars] using hp
   rcases this with rfl | rfl
   ·exact h4 v J
   ·exact h4' v J
  ·have:x=.mk f i s vs b∨x=.mk f' i' s' vs' c:=by simpa using hx
   rcases this with rfl | rfl
   ·exact I
   ·exact O
 | prim h ha hb q I=>exact aJ.2 ⟨⟨fun e=>absurd e (by decide),by simp,by simp⟩,fun x hx=>by simp only[Ah,Ca,C8] at hx;rcases hx with rfl | rfl<;>assumption,by simp,by simp⟩
 | fail ht hk=>exact oC (by decide)
structure EI (n:Nat) (x:Core):Prop where
 q:bE (QL 403) x
 s:aV x≤570000000000
 b:bE (BN N6) x
 w:x.form=7∨∃t,WT [] e0 x t
 st:eZ x≤6000→ST n V0 x
def mFl:Mod:=⟨FL,[]⟩
theorem aYj (hI:cE 540000000000) {n:Nat}{x:Core}(hn:n≤20) (h:EI n x) (hs:eZ x<400) (k:Nat):
  ((nI [] x).2=0→EI (n+1) (nI [] x).1∧m30 (nI [] x).1≤500000000∧(aK (nI [] x).1=aK x∨(shE (aK x)=false∧sfE [] (aK x)=(aK (nI [] x).1,0))))∧
   (¬(nI [] x).2=0→((nI [] x).2=21∧(¬x.form=7→whE (sfE []) (k+1) 0 (aK x)=(aK x,0,0)))∨(((nI [] x).2=52∨(nI [] x).2=53)∧whE (sfE []) (k+1) 0 (aK x)=(zC,0,(nI [] x).2))):=by
 have hV:V0.length≤480000:=by have:=aWi;omega
 have hB:BI V0 ([]:List Bind):=⟨by show 0≤1000;omega,fun b hb=>by cases hb⟩
 have aa:=h.st (by omega);unfold nI;cases I:shC x with
 | true=>
  rw[ξ rfl];refine⟨fun e=>absurd (show(21:Int)=0 from e) (by decide),fun _=>.inl ⟨rfl,fun h7=>?_⟩⟩;rw[whE,ξ (aLs h.q I h7).1]
 | false=>
  rw[ψ Ao];obtain⟨t,hw⟩:=h.w.resolve_left (aD1.1 I).2.1;have J:=a04 [] (m30 x) x t (le_refl _) hw h.q h.b I;have W:=aWw [] (m30 x) x t (le_refl _) hw h.q I;have hok:=aGn hI (n:=n) (by omega) hV hB (m30 x) x (le_refl _) aa;generalize dT [] (m30 x) x=p at *;obtain⟨r,e⟩:=p;by_cases he:e=0
  ·subst he;rw[ξ rfl];have Z:=hok rfl;obtain⟨g1,g2⟩:=J.ok rfl;have ab:WT [] e0 r t:=by
    rcases W with⟨_,h2,_⟩ | h | h
    ·exact h2
    ·exact absurd (show(0:Int)=52 from h) (by decide)
    ·exact absurd (show(0:Int)=53 from h) (by decide)
   have hm1:=jD x h.q;have Y:m30 x≤160797:=by have:403*eZ x≤403*399:=B9 _ (by omega);omega
   have hm3:m30 x*m30 x≤160797*160797:=Ce Y Y;have ac:=Z.sz;have ad:m30 r≤500000000:=by show m30 r≤_;dsimp only at ac;omega
   refine⟨fun _=>⟨⟨Z.q,by have:=bU r;show aV r≤_;omega,g1,.inr ⟨t,ab⟩,Z.st⟩,ad,g2.imp id fun g=>⟨g.1,g.2 _ (le_refl _)⟩⟩,fun e=>absurd rfl e⟩
  ·have O:¬((r,e):CE).2=0:=he;rw[ψ O];obtain⟨g1,g2⟩:=J.er O;refine⟨fun e'=>absurd e' he,fun _=>.inr ⟨W.resolve_left fun h=>he h.1,?_⟩⟩;have g3:sfE [] (aK x)=(zC,e):=g2 _ (le_refl _);rw[whE,ψ (by rw[g1];exact Ao),g3,ψ O]
theorem aT7 (J:cE 540000000000):∀(k n:Nat) (c:Core),CB c→m30 c≤3500000→(whE (sfE []) k n c).2.2=0→CB (whE (sfE []) k n c).1∧m30 (whE (sfE []) k n c).1≤3500000
 | 0,n,c,h,hm,he=>by
  rw[whE] at he ⊢;by_cases h1:shE c=true
  ·rw[ξ h1] at he ⊢;exact⟨h,hm⟩
  ·rw[ψ h1] at he;cases he
 | k+1,n,c,h,hm,he=>by
  rw[sF] at he ⊢;by_cases h1:shE c=true
  ·rw[ξ h1] at he ⊢;exact⟨h,hm⟩
  rw[ψ h1] at he ⊢;by_cases h2:(sfE [] c).2=0
  ·rw[ξ h2] at he ⊢;by_cases h3:6000<eZ (sfE [] c).1
   ·rw[ξ h3] at he;cases he
   ·rw[ψ h3] at he ⊢;have I:=(a3f J (m30 c) c (le_refl _) h).2 h2;have O:=jD (sfE [] c).1 I.q;have:403*eZ (sfE [] c).1≤403*6000:=B9 _ (by omega);exact aT7 J k (n+1) _ (I.cb (not_lt.1 h3)) (by omega) he
  ·rw[ψ h2] at he;exact absurd he h2
theorem aCq (l:List Int) (x2:Int) (hl:aZs l) (hf:Fits l) (h2:i64 x2):aU Tryz.prog 4 [a5x l,I .i64 x2] [] (B true) []:=by
 have hI:cE 540000000000:=fun k hk=>aPi k (by omega)
 have hV:V0.length≤480000:=by have:=aWi;omega
 have hBI:BI V0 mFl.binds:=⟨by show 0≤1000;omega,fun b hb=>by cases hb⟩
 obtain⟨c,tc,mc,gc,hmc,hwt,htc⟩:=aYl l hl hf;have hcM:=a56 gc hmc
 have hE0:EI 0 c:=⟨hcM.m.q,by have:=bU c;have:=hcM.s;omega,a57 gc,by
  rcases hwt with⟨n,_,_,_,hw⟩ | ⟨n,u,c0,_,_,_,_,rfl,_⟩
  ·exact .inr ⟨_,hw⟩
  ·exact .inl rfl,fun _=>hcM.st 0⟩
 obtain⟨d,hd,hde⟩:=aKd x2 40 (by omega);have har:=aIp x2 40 h2 (by omega);rw[show((40:Int))=((40:Nat):Int) from rfl,hde] at har;have hfl:=aTh;have O:=aTe;refine bL (n:=129) tok Tryz.func4 rfl rfl rfl ?_;refine sg rfl (sgh [(1,.pc (.tup [.pa (aB c),tyV tc]))] rfl (a8 (aE mixed (kc hfl ?_))));refine kz 3 rfl (sgh [(1,.pc (I .i64 (d:Int)))] rfl (a8 (sg rfl (aC (aO (fun p:Nat×Core=>mk [(5,.one (.vp 5 0)),(7,.one (.vp 7 0)),(8,I .i64 (1+(d:Int))),(9,I .i64 p.1)] [(5,.var 34 (b7 p.2)),(7,.var 27 [.c (.sl 8 (FL.map aCa)),.c .nl])]) (fun p=>p.1≤12∧EI p.1 p.2) (fun p=>12-p.1) (0,c) ⟨Ak _,hE0⟩ sl ?_)))));rintro⟨i,x⟩ ⟨hi,hx⟩;dsimp only at hi hx ⊢;by_cases hlt:i<12
 case neg=>
  have e1:decide ((i:Int)<12)=false:=Ae (by omega);refine a8 (sgh [(2,.bv false),(6,.bv false)] rfl (aA rfl nofun (fun _=>aM (a8 (aE mixed (kc O ?_))))));exact kz 1 rfl (aF rtT)
 have e1:decide ((i:Int)<12)=true:=Af (by omega);have hsize:=a3h (aV x) x (le_refl _) hx.s;refine a8 (skh 4 [(2,.bv true)] rfl (kcG hsize ?_));refine ak 2 [(2,.bv true),(6,.bv true)] rfl (az (aA rfl (fun hb=>?_) (fun hb=>?_)))
 case refine_2=>
  refine aM (a8 (aE mixed (kc O ?_)));exact kz 1 rfl (aF rtT)
 have hs400:eZ x<400:=by have:=θ hb;omega
 have hst:=hx.st (by omega);have J:=a35 hI (n:=i) (by omega) hV a6w (m:=mFl) hBI hst;rw[show nI mFl.binds x=nI [] x from rfl] at J;have hmx:m30 x≤500000000:=by have:=hst.sz;omega
 have Z:=aIl hx.q hmx;have hCB:=a2w hx.q hmx;have hk1:(1+(d:Int))=((d+1:Nat):Int):=by omega
 have hW:=aYu hI (d+1) (by omega) _ hCB;rw[←hk1] at hW;have hend:=aT7 hI (d+1) 0 _ hCB (le_trans (uZ x hx.q).2 hst.sz);have hWn:=a0a (sfE []) (d+1) 0 (aK x);obtain⟨hok,Y⟩:=aYj hI (by omega) hx hs400 d;refine aD ?_;generalize nI [] x=sf at J hok Y;obtain⟨nx,en⟩:=sf;dsimp only at hok Y;by_cases he:en=0
 case neg=>
  have Y:=Y he;rcases Y with⟨rfl,hwE⟩ | ⟨e5,hwE⟩
  ·by_cases h7:x.form=7
   ·generalize whE (sfE []) (d+1) 0 (aK x)=W at *;obtain⟨v,iN,fE⟩:=W;obtain⟨f,xn,xs,xt,xk,xb,xa⟩:=x;have h7:f=7:=h7;subst h7;refine a8 (aC (sk 2 rfl (kc J ?_)));refine kz 6 rfl (sk 1 rfl (kc Z ?_));refine ak 1 [] rfl (kc hW ?_);refine kz 8 rfl (a8 (sg rfl (aA rfl (fun _=>a8 (sgh [(2,.bv false),(5,.bv false),(8,.bv false),(9,.bv false),(13,.bv false),(14,.bv false),(15,.bv false),(18,.bv true),(22,.bv true),(23,.bv false),(30,.bv false),(31,.bv false)] rfl (aA rfl nofun (fun _=>aD (aM (a8 (aE mixed (kc O ?_)))))))) nofun)));exact kz 1 rfl (aF rtT)
   ·rw[hwE h7] at hW;have h7d:decide (x.form=7)=false:=Ae h7;refine a8 (aC (sk 2 rfl (kc J ?_)));refine kz 6 rfl (sk 1 rfl (kc Z ?_));refine ak 1 [] rfl (kc hW ?_);refine kz 8 rfl (a8 (sg rfl (aA rfl (fun _=>a8 (sgh [(2,.bv false),(5,.bv false),(8,.bv false),(9,.bv false),(13,.bv false),(14,.bv false),(15,.bv false),(18,.bv true),(22,.bv true),(23,.bv true),(26,.bv false),(29,.bv false),(30,.bv true),(31,.bv false)] rfl (aA rfl nofun (fun _=>aD (aM (a8 (aE mixed (kc O ?_)))))))) nofun)));exact kz 1 rfl (aF rtT)
  ·rw[hwE] at hW;rcases e5 with rfl | rfl
   ·refine a8 (aC (sk 2 rfl (kc J ?_)));refine kz 6 rfl (sk 1 rfl (kc Z ?_));refine ak 1 [] rfl (kc hW ?_);refine kz 8 rfl (a8 (sg rfl (aA rfl (fun _=>a8 (sgh [(2,.bv false),(5,.bv true),(8,.bv true),(9,.bv true),(13,.bv true),(14,.bv false),(15,.bv false),(18,.bv false),(22,.bv false),(23,.bv false),(30,.bv false),(31,.bv false)] rfl (aA rfl nofun (fun _=>aD (aM (a8 (aE mixed (kc O ?_)))))))) nofun)));exact kz 1 rfl (aF rtT)
   ·refine a8 (aC (sk 2 rfl (kc J ?_)));refine kz 6 rfl (sk 1 rfl (kc Z ?_));refine ak 1 [] rfl (kc hW ?_);refine kz 8 rfl (a8 (sg rfl (aA rfl (fun _=>a8 (sgh [(2,.bv false),(5,.bv false),(8,.bv false),(9,.bv true),(13,.bv true),(14,.bv false),(15,.bv false),(18,.bv false),(22,.bv false),(23,.bv false),(30,.bv false),(31,.bv false)] rfl (aA rfl nofun (fun _=>aD (aM (a8 (aE mixed (kc O ?_)))))))) nofun)));exact kz 1 rfl (aF rtT)
 subst he;obtain⟨hE',hm',hrl⟩:=hok rfl;have hrel:=aZ9 (k:=d+1) hrl;have hEr':=aIl hE'.q hm';have hW':=aYu hI (d+1) (by omega) _ (a2w hE'.q hm');rw[←hk1] at hW';generalize whE (sfE []) (d+1) 0 (aK nx)=W' at *;have hsm:(whE (sfE []) (d+1) 0 (aK x)).2.2=0→aU Tryz.prog 16 [.pa (aB (whE (sfE []) (d+1) 0 (aK x)).1),.pa (aB (whE (sfE []) (d+1) 0 (aK x)).1)] [] (B true) []:=fun he=>by
  obtain⟨h1,h2⟩:=hend he;obtain⟨z1,z2⟩:=aTy _ h1.z h1.q;exact a36 _ z1 z2 (by have:=bU (whE (sfE []) (d+1) 0 (aK x)).1;omega)
 clear hend Y hok;generalize whE (sfE []) (d+1) 0 (aK x)=W at *;obtain⟨v,iN,fE⟩:=W;obtain⟨w,jN,gE⟩:=W';obtain⟨hr0,hr5⟩:=hrel;dsimp only at hr0 hr5 hsm hWn;refine a8 (aC (sk 2 rfl (kc J ?_)));refine kz 6 rfl (sk 1 rfl (kc Z ?_));refine ak 1 [] rfl (kc hW ?_);refine kz 8 rfl (a8 (sg rfl (aA rfl nofun (fun _=>aD (sk 1 rfl (kc hEr' ?_))))));refine ak 1 [] rfl (kc hW' ?_);refine kz 8 rfl (a8 (AWp.cut (mk [(5,.one (.vp 5 0)),(7,.one (.vp 7 0)),(8,I .i64 (1+(d:Int))),(9,I .i64 i),(10,.one (.vp 10 0)),(14,I .i64 fE),(17,I .i64 gE)] [(5,.var 34 (b7 x)),(7,.var 27 [.c (.sl 8 (FL.map aCa)),.c .nl]),(10,.var 34 (b7 nx))]) ?_ ?_))
 ·by_cases hf0:fE=0
  ·subst hf0;obtain⟨rfl,rfl,hj⟩:=hr0 rfl;have hsm:=hsm rfl;by_cases hji:jN=iN
   ·subst hji;have e3:(!decide ((jN:Int)=(jN:Int)))=false:=by simp
    exact sgh [(2,.bv true),(5,.bv false),(8,.pc (B true)),(10,.bv false),(11,.bv false),(15,.bv false),(20,.bv false),(21,.bv false),(22,.bv true)] rfl (aA rfl nofun (fun _=>aD sl))
   ·have hj1:jN+1=iN:=hj.resolve_left hji;subst hj1;have e3:decide ((jN:Int)=((jN+1:Nat):Int))=false:=Ae (by omega);have e4:decide ((jN:Int)=((jN+1:Nat):Int)-1)=true:=Af (by omega);exact sgh [(2,.bv true),(5,.bv false),(8,.pc (B true)),(10,.bv false),(11,.bv false),(15,.bv true),(20,.bv true),(21,.bv false),(22,.bv true)] rfl (aA rfl (fun hb=>by first | cases hb | exact absurd hb (by simp)) (fun _=>aD sl))
  ·have e3:decide (fE=0)=false:=Ae hf0;exact sgh [(2,.bv false),(22,.bv false)] rfl (aA rfl nofun (fun _=>aD sl))
 refine a8 (AWp.cut (mk [(5,.one (.vp 5 0)),(7,.one (.vp 7 0)),(8,I .i64 (1+(d:Int))),(9,I .i64 i),(10,.one (.vp 10 0))] [(5,.var 34 (b7 x)),(7,.var 27 [.c (.sl 8 (FL.map aCa)),.c .nl]),(10,.var 34 (b7 nx))]) ?_ ?_)
 ·by_cases h52:fE=52
  ·subst h52;have:=hr5 (.inl rfl);subst this;exact sgh [(2,.bv true),(5,.bv true),(6,.bv true),(10,.bv true)] rfl (aA rfl nofun (fun _=>aD sl))
  ·have e52:decide (fE=52)=false:=Ae h52;by_cases h53:fE=53
   ·subst h53;have:=hr5 (.inr rfl);subst this;exact sgh [(2,.bv false),(5,.bv false),(6,.bv true),(10,.bv true)] rfl (aA rfl nofun (fun _=>aD sl))
   ·have e53:decide (fE=53)=false:=Ae h53;exact sgh [(2,.bv false),(5,.bv false),(6,.bv false),(10,.bv false)] rfl (aA rfl nofun (fun _=>aD sl))
 exact ag [] rfl (ag [] rfl ⟨(i+1,nx),⟨by dsimp only;omega,hE'⟩,by dsimp only;omega,sl⟩)
end Go.Proofs.YtglfogjcijokpaaGreatDoor
namespace Go.Proofs.YtglfogjcijokpaaGreatDoor
open Go Go.ChangeShapes Go.WideShapes Go.ChangeAt Go.RowKit Go.AM
theorem Tryz.own:ownKnob Tryz.prog.godebug=none:=by kernel_rfl
theorem Tryz.laidOut:laidOutB Tryz.prog=true:=by kernel_rfl
theorem aRi:Rows.laid_internal_strconv_uint64pow10 (H:=Unit)=Lib.tabData .u64 Lib.pow10Tab:=by kernel_rfl
theorem a0v {W:World}(h:laidMetH Tryz.prog Rows.eraseStepsRow.laid W):aTz W:=by
 rw [MakeChecks.laidMetH_plain _ _ _ (by kernel_rfl)] at h;have h3 := laidMet.tail (laidMet.tail h);rw [aRi] at h3;have ht := Lib.tabIs_of_head (g := 0) (t := 211) (e := 205) (n := 20) (by kernel_rfl) (by kernel_rfl) (by kernel_rfl) (by kernel_rfl) (by kernel_rfl) (by kernel_rfl) h3;intro g I;cases I;unfold Lib.TabIs World.var? at ht;rw [show Tryz.prog.globalNamed "internal/strconv.uint64pow10" = some 0 by kernel_rfl] at ht;simp only [Cq] at ht;split at ht
 ·rename_i cs t fr q;simp only[Option.some.injEq] at ht;subst ht;exact⟨dV q,t,fr,q⟩
 ·cases ht
theorem a2g {n:Int}(h:(Lit.int .i64 n).wf=true):i64 n:=by
 simp only[Lit.wf,ε,Bu] at h;exact h
set_option maxRecDepth 100000 in
theorem qF (os:Os) (started:os.Started) (H:Type) (enc:TypeId×Value→H):
  ReturnsInHanded {} Tryz.checked os 4 .any (fun w args=>(Rows.eraseStepsSpec.pre enc Tryz.prog Tryz.f4 Rows.eraseStepsRow.domain false w args∧laidMetH Tryz.prog Rows.eraseStepsRow.laid w)∧sizedMet enc Tryz.prog Tryz.f4 (OpenSpec.ofChange Rows.eraseStepsSpec) false w args)
   (Rows.eraseStepsSpec.post enc Tryz.prog Tryz.f4 false true false false):=by
 refine returnsInHanded_of_change_and (C:=Tryz.checked) (X:=fun w _=>laidMetH Tryz.prog Rows.eraseStepsRow.laid w) (fun _ _ _ hh h=>h.of_heap hh) Tryz.own started (by kernel_rfl) Tryz.func4
  (ChangeSpec.witness_shaped (enc:=enc) (C:=Tryz.checked) (os:=os) (X:=fun w _=>laidMetH Tryz.prog Rows.eraseStepsRow.laid w) false (World.laidAll Tryz.prog os Rows.eraseStepsRow.laid) #[.slice none 0 0,.int .i64 0] 8 (World.laidAll_os _ _ _)
   (World.shaped_of_ZipB (by kernel_rfl) (by kernel_rfl)) (by kernel_rfl) (by kernel_rfl) (by kernel_rfl)
   (by rw[MakeChecks.laidMetH_plain _ _ _ (by kernel_rfl)];exact laidMet_laidAll _ (by kernel_rfl) (by kernel_rfl))) ?_
 intro W base args ds gs before J hW hcnd hwt hL _
 have I:∀(j:Nat) t v,Tryz.f4.params[j]?=some t→args[j]?=some v→Value.okWide Tryz.prog W .any base t v:=J
 have O:=hW
 obtain⟨p,q,Z,hV,rfl,hfz,hnd⟩:=hW
 have hA:DataW.TrodAll enc Tryz.prog W 0 (fun _=>true) true Tryz.f4.params.toList args.toList ds p:=Z
 rw[Tryz.params4] at hA I
 obtain⟨v0,v1,d0,d1,p0,p1,rfl,rfl,rfl,h0,h1⟩:=trodAll_two hA
 obtain⟨rfl,rfl⟩:=trodVars_none hV
 obtain⟨l0,Y,hr0,xl0,yl0,hd0⟩:=aJm Tryz.underlying22 Tryz.underlying3 (by kernel_rfl) (I 0 22 v0 rfl rfl) h0
 obtain⟨n1,rfl,rfl,rfl,w1⟩:=open_int Tryz.underlying3 (I 1 3 v1 rfl rfl) h1
 clear Z J
 simp only[A8] at O
 have hlt0:∀x∈p0,x.block<W.heap.size:=fun x hx=>by simpa using O.lt x (hx)
 have hwt':(DataW.weightsEach Tryz.prog (Tryz.f4.params.toList++Rows.eraseStepsSpec.plain.varTypes Tryz.prog) ([d0,.lit (.int .i64 n1)]++[])).all (· ≤reachBytes)=true:=hwt
 have hf0:Fits l0:=by
  unfold Fits
  rcases hd0 with⟨_,hd⟩ | ⟨rfl,hd⟩
  ·rw[hd];simp
  ·have:=sized_slice hwt' (j:=0) (t:=22) (e:=3) rfl rfl Tryz.underlying22
   rw[show Tryz.prog.bytesOf 3=8 by kernel_rfl] at this
   have hb:=reachBytes_lt
   omega
 refine(aN9 (aCq l0 n1 hr0 hf0 (a2g w1)) W (vals:=[v0,.int .i64 n1]) ⟨_,_,rfl,Y,⟨_,_,rfl,rfl,rfl⟩⟩ (ht:=a0v hL)).mono fun e W' ⟨v,S,μ,he,aa,hv⟩=>?_
 subst he
 rw[aZd hv]
 have hp0:=Below.trod Tryz.laidOut (by kernel_rfl) (θ (by kernel_rfl)) h0 aa hlt0
 exact⟨_,rfl,⟨_,_,_,[],_,[],O,trodAll_mk1 (shut_bool Tryz.underlying4 true),trodAll_mk2 hp0 (shut_int Tryz.underlying3 w1),rfl,aa.frame _,fun h=>by cases h⟩⟩
theorem rC:Rows.EraseStepsSaid:=
 OpenClaim.holds_of_wide 4 Tryz.f4 rfl rfl rfl rfl rfl rfl rfl ⟨rfl,rfl,rfl,rfl,rfl⟩ rfl rfl rfl rfl rfl (by kernel_rfl) Tryz.func4 (by kernel_rfl)
  (θ (by kernel_rfl)) (by unfold Func.isWrapper;first | (rw[ξ (by decide+kernel)];kernel_rfl) | (rw[ψ (by decide+kernel)];exact⟨rfl,rfl⟩))
  (fun os started H enc _=>qF os started H enc)
theorem eraseSteps_card_holds:Rows.EraseStepsCardSaid:=
 Claim7.holds_tied_plain_at .later [] [.data, .data, .data] true (true, "6ebf21afe3b7e687cb628f0191eafcd7ce56dd9308fd046576f7914058221a01") true rC (fun _ h => by cases h) (by kernel_rfl) (fun _ h => by cases h) eraseSteps_row_tie rfl ⟨rfl, rfl⟩ (by kernel_rfl) rfl
  (fun f fn hf I=>by
   obtain rfl : f = 4 := Option.some.inj ((show Tryz.prog.funcNamed "fugue/fuguelaw24.EraseSteps" = some 4 by kernel_rfl).symm.trans hf) |>.symm;obtain rfl : fn = Tryz.f4 := (Option.some.inj (Tryz.func4.symm.trans I)).symm
   exact⟨by kernel_rfl,fun j t ht=>by
    rw[Tryz.params4] at ht;have hm:t∈[22,3]:=by
     have:=Array.mem_of_getElem? ht;simp at this;simp
     first | omega | (rcases this with h | h | h<;>simp[h])
    have q:([22,3].all fun u=>!Tryz.prog.wantsStandIn u)=true:=by kernel_rfl
    exact(show Tryz.prog.wantsStandIn t=false by simpa using A5.1 q t hm)⟩)
  (by kernel_rfl)
end Go.Proofs.YtglfogjcijokpaaGreatDoor
