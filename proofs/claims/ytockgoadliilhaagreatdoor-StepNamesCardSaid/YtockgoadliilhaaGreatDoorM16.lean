/-
  The law StepNames: its row and its card.
-/
import Derived.Test.YtockgoadliilhaaGreatDoorM15
import Derived.Test.YtockgoadliilhaaGreatDoorCards
import Derived.Test.YtockgoadliilhaaGreatDoorTie
import Derived.ProofKit
import Derived.Lib.LaidTab
import Derived.Stop.LaidErr
import Derived.OpenShut
import Derived.LaidMore
import Derived.Lay
import Derived.SevenTiedAt
import Derived.Stop.Joined
open List (all_eq_true append_nil length_append length_cons length_map mem_append mem_cons mem_cons_self mem_map mem_singleton not_mem_nil)
open Nat (le_refl le_trans zero_le)
namespace Go.Proofs.YtockgoadliilhaaGreatDoor
open Go Go.AM
set_option maxRecDepth 20000
set_option maxHeartbeats 4000000
def a1c (s:Str) (t:Ty) (c:Core):Core:=.mk 5 0 s t [c] [] []
def aP3 (f a:Core):Core:=.mk 4 0 [] zTy [f,a] [] []
def xVC:Core:=.mk 1 0 [120] zTy [] [] []
theorem aVe (s:Str) (t:Ty) (c:Core) (h1:aU Tryz.prog 48 [tyV t] [] (tyV t) []) (h2:aU Tryz.prog 47 [.pa (aB c)] [] (.pa (aB c)) []):aU Tryz.prog 20 [Go.AM.T s,tyV t,.pa (aB c)] [] (.pa (aB (a1c s t c))) []:=by
 refine bO (n:=14) tok Tryz.func20 rfl rfl rfl ?_;exact sg rfl (sgh [(2,.pc (tyV t)),(4,.pc (.pa (aB c))),(5,.all)] rfl (aI (rtC trw)))
theorem aVg (c a:Core) (h2:aU Tryz.prog 47 [.pa (aB c)] [] (.pa (aB c)) []) (h1:aU Tryz.prog 47 [.pa (aB a)] [] (.pa (aB a)) []):aU Tryz.prog 19 [.pa (aB c),.one (.c (.sl 10 [aB a]))] [] (.pa (aB (aP3 c a))) []:=by
 refine bO (n:=23) tok Tryz.func19 rfl rfl rfl ?_;refine sg rfl (sgh [(1,.pc (.pa (aB c)))] rfl (a8 (sg rfl (aC (aL (fun i:Nat=>mk [(4,.one (.vp 4 0)),(5,.one (.vp 5 0)),(10,.one (.c (.sl 10 [aB a]))),(11,I .i64 1),(12,I .i64 i)] [(4,.var 37 bL),(5,.var 37 (bA (if i=0 then c else aP3 c a)))]) (fun i=>i≤1) (fun i=>1-i) 0 (Aj _) sl ?_)))));intro i hi;refine sg rfl (a8 (aA rfl (fun hb=>?_) (fun hb=>?_)))
 ·have q:i=0:=by
   have:(i:Int)<1:=ψ hb;omega
  subst q;rw[ξ rfl];exact aD (a8 (aC (sgh [(0,.row 0 (aB a))] rfl (ag [(2,.pc (.pa (aB a))),(3,.all)] rfl (ag [] rfl ⟨1,le_refl _,by dsimp only;omega,Sub.trans sl (vp 5 (aB (aP3 c a)))⟩)))))
 have J:i=1:=by
  have:¬(i:Int)<1:=δ hb;omega
 subst J;rw[φ (by omega)];exact aO (sg rfl (aI (rtC trw)))
def wJ:Core:=.mk 10 0 aVz zTy [jS 2,jS 3] [] []
def yG (x:Core):Core:=.mk 10 0 aCj zTy [x,x] [] []
def aV1:Core:=a1c [120] aH4 (yG xVC)
def aLf:Core:=aP3 aV1 wJ
theorem aOi (k:Nat) (b:Core):cB (k+2) (yG xVC) [120] b=yG b:=by
 have hx:cB (k+1) xVC [120] b=b:=by rw[cB];exact ξ ⟨rfl,rfl⟩
 have hp:bX (cB (k+1)) [120] b [] [xVC,xVC]=([],[b,b]):=by
  unfold bX;rw[ξ ⟨by simp[xVC,pfR],by simp⟩];simp[jN,hx]
 rw[cB,φ (by rintro⟨h,_⟩;cases h),φ (by rintro⟨h,_⟩;cases h),yG,oM];have h0:gvN 10 aCj []=[]:=rfl;simp[zNm,zKs,zBs,h0,hp];rfl
def m0:Mod:=⟨[],[]⟩
theorem aRw (n:Nat):ST n [] aLf:=by
 have q:cE (QL 403) xVC:=aDd rfl (by decide) (by decide) (by decide);have I:∀i,cE (QL 403) (jS i):=fun i=>aDd rfl (by decide) (by decide) (by decide)
 have J:cE (QL 403) (yG xVC):=aT.2 ⟨⟨rfl,fun h=>(by cases h),rfl,by simp,by decide,fun h=>(by cases h),by simp,by simp⟩,fun x hx=>by
  have:x=xVC:=by simpa using hx
  rw[this];exact q,by simp,by simp⟩
 have N:cE (QL 403) wJ:=aT.2 ⟨⟨rfl,fun h=>(by cases h),rfl,by simp,by decide,fun h=>(by cases h),by simp,by simp⟩,fun x hx=>by
  have:x=jS 2∨x=jS 3:=by simpa using hx
  rcases this with rfl | rfl<;>exact I _,by simp,by simp⟩
 have O:cE (QL 403) aV1:=aT.2 ⟨⟨rfl,fun h=>(by cases h),rfl,by simp,by decide,fun _=>(by unfold nh;decide),by simp,by simp⟩,fun x hx=>by
  have:x=yG xVC:=by simpa using hx
  rw[this];exact J,by simp,by simp⟩
 refine⟨aT.2 ⟨⟨rfl,fun h=>(by cases h),rfl,by simp,by decide,fun h=>(by cases h),by simp,by simp⟩,fun x hx=>?_,by simp,by simp⟩,fun E _=>?_,fun x hx=>?_,by decide,by decide⟩
 ·have:x=aV1∨x=wJ:=by simpa using hx
  rcases this with rfl | rfl
  ·exact O
  ·exact N
 ·have e:cw fD E aLf r0=0:=by rfl
  rw[e];omega
 ·have e:tyR aLf=[]:=by rfl
  rw[e] at hx;cases hx
theorem aUa:m30 aLf=248:=by decide
theorem aFn:dC [] (m30 aLf) aLf=(yG wJ,0):=by
 rw[aUa];show dC [] (247+1) (.mk 4 0 [] zTy [aV1,wJ] [] [])=_;rw[nQ,φ (by decide),ξ (by decide),ξ ⟨rfl,rfl⟩];show(cB (m30 (yG xVC)) (yG xVC) [120] wJ,(0:Int))=_;rw[show m30 (yG xVC)=91+2 by decide,aOi]
theorem aLe:aJb [] aLf=(yG wJ,0):=by
 unfold aJb;rw[aFn];rfl
theorem aXz:dC [] (m30 (yG wJ)) (yG wJ)=(.mk 10 0 aCj zTy [jS 6,wJ] [] [],0):=by kernel_rfl
theorem aXy:dC [] (m30 (.mk 10 0 aCj zTy [jS 6,wJ] [] [])) (.mk 10 0 aCj zTy [jS 6,wJ] [] [])=(.mk 10 0 aCj zTy [jS 6,jS 6] [] [],0):=by kernel_rfl
theorem aXx:dC [] (m30 (.mk 10 0 aCj zTy [jS 6,jS 6] [] [])) (.mk 10 0 aCj zTy [jS 6,jS 6] [] [])=(jS 12,0):=by kernel_rfl
theorem aPn:bN [] 10 0 aLf=(jS 12,4,0):=by
 show bN [] (9+1) 0 aLf=_;rw[bN,φ (by decide),aFn,ξ rfl,φ (by decide)];show bN [] (8+1) 1 (yG wJ)=_;rw[bN,φ (by decide),aXz,ξ rfl,φ (by decide)];show bN [] (7+1) 2 (.mk 10 0 aCj zTy [jS 6,wJ] [] [])=_;rw[bN,φ (by decide),aXy,ξ rfl,φ (by decide)];show bN [] (6+1) 3 (.mk 10 0 aCj zTy [jS 6,jS 6] [] [])=_;rw[bN,φ (by decide),aXx,ξ rfl,φ (by decide)];show bN [] (5+1) 4 (jS 12)=_;rw[bN,ξ (by decide)]
theorem aX0:KC (yG wJ):=by
 have hi:∀i,i64 i→KC (jS i):=fun i h=>.mk (by decide) (by decide) (by decide) (by unfold i64;omega) h (by simp)
 have hs:KC wJ:=.mk (by decide) (by decide) (by decide) (by unfold i64;omega) (by unfold i64;omega) (fun x hx=>by
  have:x=jS 2∨x=jS 3:=by simpa using hx
  rcases this with rfl | rfl<;>exact hi _ (by unfold i64;omega))
 exact .mk (by decide) (by decide) (by decide) (by unfold i64;omega) (by unfold i64;omega) (fun x hx=>by
  have:x=wJ:=by simpa using hx
  rw[this];exact hs)
theorem aMn:aU Tryz.prog 13 [] [] (B true) []:=by
 have I:cQ 540000000000:=fun k hk=>aMo k (by omega)
 have N:BI [] m0.binds:=⟨by decide,fun b hb=>by cases hb⟩
 have h1:=aU0 [73,110,116];have h2:=sV [120];have h3:=aMs 2;have h4:=aMs 3;have J:aU Tryz.prog 48 [tyV aH4] [] (tyV aH4) []:=aMh I aH4 rfl (by decide);have q:aU Tryz.prog 48 [tyV zTy] [] (tyV zTy) []:=aMh I zTy rfl (by decide);have O:allT TyG aLf:=by
  have v:TyG zTy∧True∧True∧True:=⟨q,trivial,trivial,trivial⟩
  exact⟨q,⟨⟨J,⟨⟨q,⟨v,v,trivial⟩,trivial,trivial⟩,trivial⟩,trivial,trivial⟩,⟨q,⟨v,v,trivial⟩,trivial,trivial⟩,trivial⟩,trivial,trivial⟩
 have h5:=aVe [120] aH4 (yG xVC) J (sT _ _ (le_refl _) (by decide) O.2.1.1.2.1.1);have h6:=aVg aV1 wJ (sT _ _ (le_refl _) (by decide) O.2.1.1) (sT _ _ (le_refl _) (by decide) O.2.1.2.1);have h7:=aSq I (n:=0) (U:=[]) (by omega) (by decide) (by simp) N (m:=m0) (aRw 0);rw[show m0.binds=[] from rfl,aLe] at h7;have Y:=aSp I (n:=0) (U:=[]) (by decide) (by simp) N (m:=m0) 10 (by omega) (aRw 0);rw[show m0.binds=[] from rfl,aPn] at Y;have W:ST 0 [] (jS 3):=(aDc (n:=0) (U:=[]) (w:=0) rfl (by decide) (by decide) (by decide)).st (by decide);have Z:=aSq I (n:=0) (U:=[]) (by omega) (by decide) (by simp) N (m:=m0) W;rw[show aJb m0.binds (jS 3)=(zC,21) from rfl] at Z;have aa:=aP7 aX0 (by decide);refine bO (n:=75) tok Tryz.func13 rfl rfl rfl ?_;exact sg rfl (sgh [(0,.pc (tyV aH4))] rfl (sgh [(0,.pc (.pa (aB xVC)))] rfl (sgh [(2,.all)] rfl (sgh [(0,.pc (.pa (aB (jS 2)))),(1,.pc (.pa (aB (jS 3)))),(2,.all)] rfl (sgh [(2,.pc (.pa (aB aV1))),(4,.all),(5,.pc (.pa (aB aLf)))] rfl (sgh [(2,.pc (fK (yG wJ,0)))] rfl (sgh [(2,.pc (whV (jS 12,4,0)))] rfl (sgh [(1,.pc (.pa (aB (jS 3)))),(2,.pc (fK (zC,21)))] rfl (sgh [(2,.bv true),(6,.all),(8,.pc (B true)),(9,.bv true),(10,.bv true),(13,.bv true),(14,.bv true),(17,.bv true),(18,.bv true),(22,.bv true),(23,.bv true),(26,.bv true)] rfl (aI rtT))))))))))
def fA:Ty:=.mk 2 0 [97] []
def fB:Ty:=.mk 2 0 [98] []
def tcn (s:Str):Ty:=.mk 3 0 s []
def tap (f a:Ty):Ty:=.mk 4 0 [] [f,a]
def tal (s:Str) (t:Ty):Ty:=.mk 5 0 s [t]
def lT:Ty:=tap (tcn [76]) fA
def xP:Ty:=tap (tap (tcn [80]) fA) fB
def fId:Ty:=tal [98] (jA fB fB)
def aUn:Ty:=tap (tcn [75,64]) fA
def aKr:Str:=[66,111,111,108]
def FL:List Fld:=[⟨[78],0,2,0,tal [97] lT⟩,⟨[67],1,2,2,tal [97] (jA fA (jA lT lT))⟩,⟨[80],0,1,2,tal [97] (tal [98] (jA fA (jA fB xP)))⟩,
 ⟨[70,97,108,115,101],0,2,0,tcn aKr⟩,⟨[84,114,117,101],1,2,0,tcn aKr⟩,⟨[75,64],0,1,2,tal [97] (jA fA (jA fId aUn))⟩]
theorem aQc:aU Tryz.prog 14 [] [] (.one (.c (.sl 8 (FL.map j8)))) []:=by
 have h1:=hJ [76];have h2:=hJ [80];have h3:=hJ [75,64];have h4:=hJ aKr;have h5:=tS fB fB;have h6:=pH [97] lT;have h7:=tS lT lT;have Z:=tS fA (jA lT lT);have h9:=pH [97] (jA fA (jA lT lT));have q:=tS fB xP;have I:=tS fA (jA fB xP);have J:=pH [98] (jA fA (jA fB xP));have N:=pH [97] (tal [98] (jA fA (jA fB xP)));have O:=tS fId aUn;have W:=tS fA (jA fId aUn);have Y:=pH [97] (jA fA (jA fId aUn));refine bO (n:=59) tok Tryz.func14 rfl rfl rfl ?_;refine sg rfl (sg rfl (AWp.sub (vp 1 (b8 fA)) ?_));refine sg rfl (AWp.sub (vp 2 (b8 fB)) ?_);exact sgh [(0,.pc (tyV (tcn [76]))),(2,.all)] rfl (sgh [(0,.pc (tyV (tcn [80]))),(2,.all),(5,.all)] rfl (sgh [(2,.pc (tyV (jA fB fB))),(3,.all)] rfl (sgh [(0,.pc (tyV (tcn [75,64]))),(2,.all)] rfl (sgh [(1,.pc (tyV (tal [97] lT))),(6,.pc (tyV (jA lT lT))),(7,.pc (tyV (jA fA (jA lT lT)))),(8,.pc (tyV (tal [97] (jA fA (jA lT lT))))),(13,.pc (tyV (jA fB xP))),(14,.pc (tyV (jA fA (jA fB xP)))),(15,.pc (tyV (tal [98] (jA fA (jA fB xP))))),(16,.pc (tyV (tal [97] (tal [98] (jA fA (jA fB xP)))))),(18,.pc (tyV (tcn aKr))),(20,.pc (tyV (tcn aKr))),(25,.pc (tyV (jA fId aUn))),(26,.pc (tyV (jA fA (jA fId aUn)))),(27,.pc (tyV (tal [97] (jA fA (jA fId aUn))))),(29,.all)] rfl (aI rtT)))))
theorem aMu (q:cQ 540000000000) {m:Mod}(hf:m.fields.length≤1000) (g d n F:Nat) (U:List Str) (c:Core) (hd:d≤100) (hv:VG m n U F c) (hg:F*MZ+m30 c+d<g):
  aU Tryz.prog 17 [.pa (mQ m),.pa (aB c),I .i64 d,I .i64 F] [] (veV (eO m g d F c)) []:=by
 have hk:=aUy q hf g d n F U c hd hv hg;unfold tO at hk;refine bO (n:=19) tok Tryz.func17 rfl rfl rfl ?_;refine sg rfl (skh 6 [(3,.id 900)] rfl (kc hk ?_));exact kz 4 rfl (aI (iT trw))
mutual
def vsz:Val→Nat
 | .mk _ _ _ l=>1+aZm l
def aZm:List Val→Nat
 | []=>0
 | v::l=>vsz v+aZm l
end
mutual
def aS5 (K:Nat):Val→Prop
 | .mk _ _ _ l=>l.length≤K∧aId K l
def aId (K:Nat):List Val→Prop
 | []=>True
 | v::l=>aS5 K v∧aId K l
end
theorem r6 {K:Nat}:∀{l:List Val},aId K l↔∀v∈l,aS5 K v
 | []=>by simp[aId]
 | v::l=>by rw[aId,r6 (l:=l)];simp
theorem aDj:∀{l:List Val}{v:Val},v∈l→vsz v≤aZm l
 | x::l,v,h=>by
  rw[aZm];rcases Ao.1 h with rfl | h
  ·omega
  ·have:=aDj h;omega
theorem aS4 (v:Val):1≤vsz v:=by cases v;rw[vsz];omega
theorem yN {K:Nat}{f:Nat→Core→VE}(hf:∀F c,aS5 K (f F c).1):∀(l:List Core) (F:Nat),∀v∈(dB f F l).1,aS5 K v
 | [],F,v,h=>by cases h
 | c::l,F,v,h=>by
  rw[dB] at h;by_cases h1:(f F c).2.2=0
  ·rw[ξ h1] at h;by_cases h2:(dB f (f F c).2.1 l).2.2=0
   ·rw[ξ h2] at h;rcases Ao.1 h with rfl | h
    ·exact hf _ _
    ·exact yN hf l _ v h
   ·rw[φ h2] at h;cases h
  ·rw[φ h1] at h;cases h
theorem aAh {K:Nat}{f n:Int}{s:Str}:aS5 K (.mk f n s []):=⟨Aj _,trivial⟩
theorem w6 {m:Mod}{K:Nat}(q:∀x∈m.fields,x.arity≤K):∀(g d F:Nat) (c:Core),aS5 K (eO m g d F c).1
 | 0,d,F,c=>aAh
 | g+1,d,F,c=>by
  rw[eO];by_cases hd:d=0
  ·rw[ξ hd];exact aAh
  rw[φ hd];by_cases h0:¬(bN m.binds F 0 c).2.2=0
  ·rw[ξ h0];exact aAh
  rw[φ h0];by_cases h3:(bN m.binds F 0 c).1.form=3
  ·rw[ξ h3];exact aAh
  rw[φ h3];by_cases h7:(bN m.binds F 0 c).1.form=7
  ·rw[ξ h7];exact w6 q g d _ _
  rw[φ h7];generalize F-(bN m.binds F 0 c).2.1=G;cases gvC (bN m.binds F 0 c).1 with
  | none=>exact aAh
  | some p=>
   obtain⟨s,l⟩:=p;unfold aBy;dsimp only;cases hx:m.fields.find? fun x=>decide (x.name=s) with
   | none=>exact aAh
   | some x=>
    dsimp only;by_cases ha:¬(l.length:Int)=x.arity
    ·rw[ξ ha];exact aAh
    rw[φ ha];have I:=q x (Cn hx);by_cases e:(dB (fun F c=>eO m g (d-1) F c) G l).2.2=0
    ·rw[ξ e];have hl:=r9 l G e;refine⟨by rw[hl];omega,r6.2 (yN (fun F c=>w6 q g (d-1) F c) l G)⟩
    ·rw[φ e];exact aAh
theorem aU4 {K:Nat}(Z:K≤1000000000):∀(k:Nat) (v:Val),vsz v≤k→aS5 K v→aU Tryz.prog 18 [.pa (kP v),.pa (kP v)] [] (B true) []:=by
 intro k
 induction k with
 | zero=>intro v h;have:=aS4 v;omega
 | succ k O=>
 intro v h hv;obtain⟨f,n,s,ks⟩:=v;have N:(lU ks).length=ks.length:=by rw[j7,θ]
 rw[vsz] at h;have W:=hv.1;refine bO (n:=55) tok Tryz.func18 rfl rfl rfl ?_;refine sg rfl (a8 (sgh [(5,.bv false),(11,.bv false),(12,.bv false),(18,.bv false),(19,.bv false),(27,.bv false)] rfl (aA rfl (fun hb=>by simp at hb) (fun _=>aD (a8 (sg rfl (aC (aL (fun i:Nat=>mk [(2,.one (.vp 2 0)),(3,.one (.vp 3 0)),(5,I .i64 i)] [(2,.var 54 ((kP (.mk f n s ks)).map .c)),(3,.var 54 ((kP (.mk f n s ks)).map .c))]) (fun i=>i≤ks.length) (fun i=>ks.length-i) 0 (Aj _) sl ?_))))))));intro i hi;refine a8 (sg rfl (aA rfl (fun hb=>?_) (fun hb=>?_)))
 ·have q:i<ks.length:=ltD hb N;obtain⟨x,hx⟩:=aJ q;have J:=η hx;have Y:(lU ks)[i]?=some (kP x):=by rw[j7];exact bM kP hx
  have hc:=O x (by have:=aDj J;omega) (r6.1 hv.2 x J);exact aD (a8 (aC (sgh [(3,.row i (kP x)),(8,.row i (kP x)),(10,.pc (B true))] rfl (sg rfl (aA rfl nofun (fun _=>aD (ag [] rfl ⟨i+1,q,by dsimp only;omega,sl⟩)))))))
 exact aO (sg rfl (aI rtT))
theorem aWt (k:Nat):UO (iG k):=fun s _ h=>by
 have q:∀x∈nm6,¬(39:UInt8)∈x:=by decide
 exact q _ h (χ.2 (.inr ζ))
theorem aWs (k:Nat):∀s∈nm6,nh (s++iG k):=fun s hs=>by
 have h:∀x∈nm6,∃a l,x=a::l∧a≠37∧a≠35:=by
  intro x hx;simp only[nm6,nmL,χ,Ao,not_mem_nil,or_false] at hx;rcases hx with(rfl | rfl | rfl | rfl | rfl) | rfl<;>exact⟨_,_,rfl,by decide,by decide⟩
 obtain⟨a,l,rfl,h1,h2⟩:=h s hs;exact⟨fun e=>h1 (Option.some.inj e),fun e=>h2 (Option.some.inj e)⟩
theorem aWu {k:Nat}(hk:k≤100) (s:Str) (hs:s.length≤8):(s++iG k).length≤30:=by
 have:=nI k (by omega);unfold iG;rw[ω,Ag];omega
theorem a05 (k:Nat):¬([]:Str)∈V1 k:=fun h=>by
 rcases χ.1 h with h | h
 ·exact absurd h (by decide)
 ·obtain⟨s,_,e⟩:=Ad.1 h;have:=(List.append_eq_nil_iff.1 e).2
  cases this
theorem aZh (k:Nat):(V1 k).length=8:=by unfold V1;rw[ω,θ];rfl
theorem HOK.none {bd:List Bind}:HOK (fun _ _=>False) bd:=⟨fun _ _ h=>h.elim,fun _ _ h=>h.elim,fun _ _ _ h=>h.elim⟩
theorem aC2 (l O:List Int) (N:Int) (hl:aS2 l) (hf:Fits l) (aj:aS2 O) (am:Fits O) (h2:i64 N):aU Tryz.prog 4 [aX1 l,aX1 O,I .i64 N] [] (B true) []:=by
 have W:cQ 540000000000:=fun k hk=>aMo k (by omega)
 obtain⟨c,t,m,gc,hm,_,ht⟩:=aL7 l hl hf;obtain⟨d,t2,m2,gd,hm2,_,ht2⟩:=aL7 O aj am;have q:=aYd gc hm;have Z:=aYd gd hm2;obtain⟨k,hk,hke⟩:∃k:Nat,k<3∧pW N 3=(k:Int):=by
  obtain⟨h1,h2⟩:=aA8 N (k:=3) (by omega);exact⟨(pW N 3).toNat,by omega,by omega⟩
 have aa:=aGf N 3 h2 (by omega);rw[hke] at aa;obtain⟨r,J⟩:=a0q W (k:=k) (by omega) (aWt k) (aWs k) (aWu (by omega)) gc hm;have hfl:=aQc;have hlv:=aMn;have hU:(V1 k).length=8:=aZh k;have hsr:ST 0 (V1 k) r:=ST.of J.mw (le_trans J.tl q.t) (le_trans J.sz q.s) 0;have hsd:ST 0 (V1 k) d:=ST.of ((aYc gd).1.mono fun x hx=>χ.2 (.inl hx)) Z.t Z.s 0;have hB1:BI V0 (⟨FL,[]⟩:Mod).binds:=⟨by decide,fun b hb=>by cases hb⟩
 have hB2:BI (V1 k) (⟨FL,[.mk [110,111,110,101] zTy d]⟩:Mod).binds:=⟨by show 1≤1000;omega,fun b hb=>by rw[Aa.1 hb];exact hsd⟩
 have htr:=J.tl;have htc:=q.t;have ab:VG ⟨FL,[]⟩ 0 V0 50 c:=⟨by omega,q.st 0,a06,hB1,by have:=aZi;omega⟩
 have ac:VG ⟨FL,[.mk [110,111,110,101] zTy d]⟩ 0 (V1 k) 50 r:=⟨by omega,hsr,a05 k,hB2,by omega⟩
 obtain⟨G,hG⟩:∃G,400000000≤G:=⟨_,le_refl _⟩
 have ad:∀x:Core,m30 x≤3500000→50*MZ+m30 x+3<G:=fun x hx=>by
  have h2:MZ=3500001:=rfl;omega
 have hA:=aMu W (m:=⟨FL,[]⟩) (by show FL.length≤1000;decide) G 3 0 50 V0 c (by omega) ab (ad c q.s);have ah:=aMu W (m:=⟨FL,[.mk [110,111,110,101] zTy d]⟩) (by show FL.length≤1000;decide) G 3 0 50 (V1 k) r (by omega) ac (ad r (le_trans J.sz q.s));have hre:RA (fun _ _=>False) [] (tE c) (tE r):=(J.rv [] (fun s h=>by cases h) (fun s _ h=>by cases h)).ra;have Y:=rA W (m:=⟨FL,[]⟩) (m':=⟨FL,[.mk [110,111,110,101] zTy d]⟩) HOK.none (fun _ _ h=>h) rfl G 3 50 c r ⟨_,_,ab⟩ ⟨_,_,ac⟩ hre;rw[←Y] at ah;have FLa:∀x∈FL,x.arity≤((10:Nat):Int):=by
  intro x hx;simp only[FL,Ao,not_mem_nil,or_false] at hx;rcases hx with rfl | rfl | rfl | rfl | rfl | rfl<;>decide
 have fA:=w6 (m:=⟨FL,[]⟩) (K:=10) FLa G 3 50 c;generalize eO ⟨FL,[]⟩ G 3 50 c=A at *;have hsA:=aU4 (K:=10) (by omega) _ A.1 (le_refl _) fA;have ai:=J.imp;obtain⟨av,aF,ae⟩:=A;dsimp only at hsA;refine bO (n:=60) tok Tryz.func4 rfl rfl rfl ?_;refine sg rfl (sgh [(1,.pc (.tup [.pa (aB c),tyV t]))] rfl (sgh [(1,.pc (.tup [.pa (aB d),tyV t2]))] rfl (a8 (aE mixed (kc hfl ?_)))));refine kz 1 rfl (sk 2 rfl (kc aa ?_));refine kc ai ?_;refine kz 2 rfl (sk 3 rfl (kc hA ?_));refine kz 6 rfl (skh 6 [(3,.all)] rfl (kc ah ?_));exact kz 6 rfl (sgh [(3,.bv true),(6,.pc (B true)),(7,.bv true),(8,.bv true),(9,.pc (B true)),(10,.bv true)] rfl (aI rtT))
end Go.Proofs.YtockgoadliilhaaGreatDoor
namespace Go.Proofs.YtockgoadliilhaaGreatDoor
open Go Go.ChangeShapes Go.WideShapes Go.ChangeAt Go.RowKit Go.AM
theorem Tryz.own:ownKnob Tryz.prog.godebug=none:=by kernel_rfl
theorem Tryz.laidOut:laidOutB Tryz.prog=true:=by kernel_rfl
theorem aOe:Rows.laid_internal_strconv_uint64pow10 (H:=Unit)=Lib.tabData .u64 Lib.pow10Tab:=by kernel_rfl
theorem aWj {W:World}(h:laidMetH Tryz.prog Rows.stepNamesRow.laid W):aQp W:=by
 rw [MakeChecks.laidMetH_plain _ _ _ (by kernel_rfl)] at h;have h3 := laidMet.tail (laidMet.tail h);rw [aOe] at h3;have ht := Lib.tabIs_of_head (g := 0) (t := 178) (e := 172) (n := 20) (by kernel_rfl) (by kernel_rfl) (by kernel_rfl) (by kernel_rfl) (by kernel_rfl) (by kernel_rfl) h3;intro g hg;cases hg;unfold Lib.TabIs World.var? at ht;rw [show Tryz.prog.globalNamed "internal/strconv.uint64pow10" = some 0 by kernel_rfl] at ht;simp only [Ck] at ht;split at ht
 ·rename_i cs t fr q;simp only[Option.some.injEq] at ht;subst ht;exact⟨eD q,t,fr,q⟩
 ·cases ht
theorem aX2 {n:Int}(h:(Lit.int .i64 n).wf=true):i64 n:=by
 simp only[Lit.wf,Ai,decide_eq_true_eq] at h;exact h
set_option maxRecDepth 100000 in
theorem qB (os:Os) (started:os.Started) (H:Type) (enc:TypeId×Value→H):
  ReturnsInHanded {} Tryz.checked os 4 .any (fun w args=>(Rows.stepNamesSpec.pre enc Tryz.prog Tryz.f4 Rows.stepNamesRow.domain false w args∧laidMetH Tryz.prog Rows.stepNamesRow.laid w)∧sizedMet enc Tryz.prog Tryz.f4 (OpenSpec.ofChange Rows.stepNamesSpec) false w args)
   (Rows.stepNamesSpec.post enc Tryz.prog Tryz.f4 false true false false):=by
 refine returnsInHanded_of_change_and (C:=Tryz.checked) (X:=fun w _=>laidMetH Tryz.prog Rows.stepNamesRow.laid w) (fun _ _ _ hh h=>h.of_heap hh) Tryz.own started (by kernel_rfl) Tryz.func4
  (ChangeSpec.witness_shaped (enc:=enc) (C:=Tryz.checked) (os:=os) (X:=fun w _=>laidMetH Tryz.prog Rows.stepNamesRow.laid w) false (World.laidAll Tryz.prog os Rows.stepNamesRow.laid) #[.slice none 0 0,.slice none 0 0,.int .i64 0] 8 (World.laidAll_os _ _ _)
   (World.shaped_of_ZipB (by kernel_rfl) (by kernel_rfl)) (by kernel_rfl) (by kernel_rfl) (by kernel_rfl)
   (by rw[MakeChecks.laidMetH_plain _ _ _ (by kernel_rfl)];exact laidMet_laidAll _ (by kernel_rfl) (by kernel_rfl))) ?_
 intro W base args ds gs before J hW hcnd hwt hL _
 have I:∀(j:Nat) t v,Tryz.f4.params[j]?=some t→args[j]?=some v→Value.okWide Tryz.prog W .any base t v:=J
 have N:=hW
 obtain⟨p,q,ab,hV,rfl,hfz,hnd⟩:=hW
 have hA:DataW.TrodAll enc Tryz.prog W 0 (fun _=>true) true Tryz.f4.params.toList args.toList ds p:=ab
 rw[Tryz.params4] at hA I
 obtain⟨v0,v1,v2,d0,d1,d2,p0,p1,p2,rfl,rfl,rfl,h0,h1,h2⟩:=trodAll_three hA
 obtain⟨rfl,rfl⟩:=trodVars_none hV
 obtain⟨l0,Z,hr0,xl0,yl0,hd0⟩:=uO Tryz.underlying22 Tryz.underlying3 (by kernel_rfl) (I 0 22 v0 rfl rfl) h0
 obtain⟨l1,aa,hr1,xl1,yl1,hd1⟩:=uO Tryz.underlying22 Tryz.underlying3 (by kernel_rfl) (I 1 22 v1 rfl rfl) h1
 obtain⟨n2,rfl,rfl,rfl,w2⟩:=open_int Tryz.underlying3 (I 2 3 v2 rfl rfl) h2
 clear ab J
 simp only[A0] at N
 have hlt0:∀x∈p0,x.block<W.heap.size:=fun x hx=>by simpa using N.lt x (χ.2 (.inl hx))
 have hlt1:∀x∈p1,x.block<W.heap.size:=fun x hx=>by simpa using N.lt x (χ.2 (.inr (hx)))
 have O:(DataW.weightsEach Tryz.prog (Tryz.f4.params.toList++Rows.stepNamesSpec.plain.varTypes Tryz.prog) ([d0,d1,.lit (.int .i64 n2)]++[])).all (· ≤reachBytes)=true:=hwt
 have hf0:Fits l0:=by
  unfold Fits
  rcases hd0 with⟨_,hd⟩ | ⟨rfl,hd⟩
  ·rw[hd];simp
  ·have:=sized_slice O (j:=0) (t:=22) (e:=3) rfl rfl Tryz.underlying22
   rw[show Tryz.prog.bytesOf 3=8 by kernel_rfl] at this
   have hb:=reachBytes_lt
   omega
 have hf1:Fits l1:=by
  unfold Fits
  rcases hd1 with⟨_,hd⟩ | ⟨rfl,hd⟩
  ·rw[hd];simp
  ·have:=sized_slice O (j:=1) (t:=22) (e:=3) rfl rfl Tryz.underlying22
   rw[show Tryz.prog.bytesOf 3=8 by kernel_rfl] at this
   have hb:=reachBytes_lt
   omega
 refine(aLl (aC2 l0 l1 n2 hr0 hf0 hr1 hf1 (aX2 w2)) W (vals:=[v0,v1,.int .i64 n2]) ⟨_,_,rfl,Z,⟨_,_,rfl,aa,⟨_,_,rfl,rfl,rfl⟩⟩⟩ (ht:=aWj hL)).mono fun e W' ⟨v,S,μ,he,Y,hv⟩=>?_
 subst he
 rw[aVi hv]
 have hp0:=Below.trod Tryz.laidOut (by kernel_rfl) (ψ (by kernel_rfl)) h0 Y hlt0
 have hp1:=Below.trod Tryz.laidOut (by kernel_rfl) (ψ (by kernel_rfl)) h1 Y hlt1
 exact⟨_,rfl,⟨_,_,_,[],_,[],N,trodAll_mk1 (shut_bool Tryz.underlying4 true),trodAll_mk3 hp0 hp1 (shut_int Tryz.underlying3 w2),rfl,Y.frame _,fun h=>by cases h⟩⟩
theorem rI:Rows.StepNamesSaid:=
 OpenClaim.holds_of_wide 4 Tryz.f4 rfl rfl rfl rfl rfl rfl rfl ⟨rfl,rfl,rfl,rfl,rfl⟩ rfl rfl rfl rfl rfl (by kernel_rfl) Tryz.func4 (by kernel_rfl)
  (ψ (by kernel_rfl)) (by unfold Func.isWrapper;first | (rw[ξ (by decide+kernel)];kernel_rfl) | (rw[φ (by decide+kernel)];exact⟨rfl,rfl⟩))
  (fun os started H enc _=>qB os started H enc)
theorem stepNames_card_holds:Rows.StepNamesCardSaid:=
 Claim7.holds_tied_plain_at .later [] [.data, .data, .data] true (true, "9d411a38d5235b230fa7c5b33de9c5d12e9a836355931af45be828b1ad023e12") false rI (fun _ h => by cases h) (by kernel_rfl) (fun _ h => by cases h) stepNames_row_tie rfl ⟨rfl, rfl⟩ (by kernel_rfl) rfl
  (fun f fn hf I=>by
   obtain rfl : f = 4 := Option.some.inj ((show Tryz.prog.funcNamed "fugue/fuguelaw22.StepNames" = some 4 by kernel_rfl).symm.trans hf) |>.symm;obtain rfl : fn = Tryz.f4 := (Option.some.inj (Tryz.func4.symm.trans I)).symm
   exact⟨by kernel_rfl,fun j t ht=>by
    rw[Tryz.params4] at ht;have hm:t∈[22,3]:=by
     have:=Array.mem_of_getElem? ht;simp at this;simp
     first | omega | (rcases this with h | h | h<;>simp[h])
    have q:([22,3].all fun u=>!Tryz.prog.wantsStandIn u)=true:=by kernel_rfl
    exact(show Tryz.prog.wantsStandIn t=false by simpa using A7.1 q t hm)⟩)
  (by kernel_rfl)
end Go.Proofs.YtockgoadliilhaaGreatDoor
