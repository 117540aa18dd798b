/-
  The law StepPart: its row and its card.
-/
import Derived.Test.YtockgoadliilhaaGreatDoorM14
import Derived.Test.YtockgoadliilhaaGreatDoorCards
import Derived.Test.YtockgoadliilhaaGreatDoorTie
import Derived.ProofKit
import Derived.Lib.LaidTab
import Derived.Stop.LaidErr
import Derived.OpenShut
import Derived.LaidMore
import Derived.Lay
import Derived.SevenTiedAt
import Derived.Stop.Joined
open List (all_eq_true append_nil length_cons length_map mem_append mem_cons mem_cons_self not_mem_nil)
open Nat (le_refl le_trans zero_le)
namespace Go.Proofs.YtockgoadliilhaaGreatDoor
open Go Go.AM
set_option maxRecDepth 20000
set_option maxHeartbeats 4000000
def mFL:Mod:=⟨FL,[]⟩
theorem aQ1:∀b∈mFL.binds,N0 b.body:=fun b hb=>by cases hb
theorem rN (V:List Str):BI V mFL.binds:=⟨by show 0≤1000;omega,fun b hb=>by cases hb⟩
structure TP (s:Str) (c0 x:Core):Prop where
 sg:SG mFL 1 V0 x
 sh:shC x=false
 st:bK mFL.binds (m30 x) x=(.mk 7 0 s zTy [c0] [] [],0)
section
variable {s:Str}{c0 x:Core}
theorem TP.wh (h:TP s c0 x):b7 mFL.binds 200 0 x=if 6000<eX (Core.mk 7 0 s zTy [c0] [] []) then(zC,0,2) else(.mk 7 0 s zTy [c0] [] [],1,0):=by
 show b7 mFL.binds (199+1) 0 x=_;rw[b7,ψ (nsh h.sh),h.st,θ rfl];split
 ·rfl
 ·show b7 mFL.binds (198+1) (0+1) _=_;rw[b7,θ (show shC (Core.mk 7 0 s zTy [c0] [] [])=true from rfl)]
theorem TP.vc (O:cK 540000000000) {a b:Core}(ha:TP s c0 a) (hb:TP s c0 b) (h0:N0 c0) (J:ST 0 V0 (.mk 7 0 s zTy [c0] [] [])):VC mFL fun F x=>NH mFL F x∨(F=200∧(x=a∨x=b)):=by
 have hn:=NH.vc O (m:=mFL) aQ1;have N:∀{F x},(F=200∧(x=a∨x=b))→F=200∧TP s c0 x:=fun h=>⟨h.1,h.2.elim (fun e=>by rw[e];exact ha) fun e=>by rw[e];exact hb⟩
 refine⟨fun F x h=>?_,fun F x h I h7=>?_,fun F x h I nm l hg y hy G W=>?_⟩
 ·rcases h with h | h
  ·exact hn.base F x h
  ·obtain⟨rfl,ht⟩:=N h;exact⟨1,V0,by omega,ht.sg,by have:=aAm;omega,aPw,rN _⟩
 ·rcases h with h | h
  ·exact .inl (hn.k7 F x h I h7)
  ·obtain⟨rfl,ht⟩:=N h;rw[ht.wh] at I h7 ⊢;by_cases hz:6000<eX (Core.mk 7 0 s zTy [c0] [] [])
   ·rw[θ hz] at I;cases I
   rw[ψ hz];left;obtain⟨t1,_,_⟩:=J.tkid (x:=c0) ζ;have hs:¬s=[]:=((aS.1 J.q).1.2.1 rfl).2
   have hl:=aAm;show NH mFL 199 c0;refine⟨0,s::V0,by omega,SG.of O (by omega) (by rw[Aj];omega) (rN _) t1,fun hm=>?_,rN _,h0,?_⟩
   ·rcases Ao.1 hm with e | hm
    ·exact hs e.symm
    ·exact aPw hm
   ·rw[Aj];split<;>omega
 ·rcases h with h | h
  ·exact .inl (hn.kk F x h I nm l hg y hy G W)
  ·obtain⟨rfl,ht⟩:=N h;rw[ht.wh] at I hg;by_cases hz:6000<eX (Core.mk 7 0 s zTy [c0] [] [])
   ·rw[θ hz] at I;cases I
   rw[ψ hz] at hg;rw[rQ (.inr (.inl rfl))] at hg;cases hg
theorem TP.same {a b:Core}(ha:TP s c0 a) (hb:TP s c0 b) (g d:Nat):cZ mFL g d 200 a=cZ mFL g d 200 b:=by
 cases g with
 | zero=>rfl
 | succ g=>rw[cZ,cZ,ha.wh,hb.wh]
end
theorem aU3:([121]:Str).length≤30:=by decide
theorem aZ4:nh [121]:=⟨by decide,by decide⟩
structure PT (c b next u:Core) (tb:Ty):Prop where
 vc:∃P:Nat→Core→Prop,VC mFL P∧P 200 (lJ [121] tb u b)∧P 200 (lJ [121] tb u next)
 eq:∀g d,nt (cZ mFL g d 200 (lJ [121] tb u b)).2.2→nt (cZ mFL g d 200 (lJ [121] tb u next)).2.2→
  (cZ mFL g d 200 (lJ [121] tb u b)).1=(cZ mFL g d 200 (lJ [121] tb u next)).1∧(cZ mFL g d 200 (lJ [121] tb u b)).2.2=(cZ mFL g d 200 (lJ [121] tb u next)).2.2
theorem a0n (W:cK 540000000000) {c b next:Core}{tb:Ty}{mc mb n:Nat}(hmc:mc≤110000) (hmb:mb≤110000) (gc:GC false [] mc c∨∃s c0 m0,c=.mk 7 0 s zTy [c0] [] []∧s∈tvN∧mc=m0+20∧GC false [] m0 c0)
  (gb:GC false [] mb b) (ht:GT n tb) (hs:shC b=false) (I:bK [] (m30 b) b=(next,0)):PT c b next (unR [121] b (aU c) c) tb:=by
 have Y:V0.length≤480000:=by have:=aAm;omega
 have gc':GC true [] mc c:=by
  rcases gc with h | ⟨s,c0,m0,rfl,hs,rfl,h⟩
  ·exact h.up
  ·exact .tlam rfl hs h.up
 have J:=aKn gc' hmc;have hbM:=aKn gb hmb;have N:=hbM.st 0;have Z:=nB W (n:=0) (by omega) Y (rN V0) (m30 b) b (le_refl _) N (by show(bK [] (m30 b) b).2=0;rw[I]);have Z:SR (0+1) V0 (m30 b) next:=by
  have:SR (0+1) V0 (m30 b) (bK [] (m30 b) b).1:=Z;rwa [I] at this
 obtain⟨lu1,lu2,lu3⟩:=aAs (y:=[121]) (b:=b) aU3 (aU c) c J.m;have hu:ST 0 V0 (unR [121] b (aU c) c):=ST.of lu1 (le_trans lu3 J.t) (le_trans lu2 J.s) 0;have hb1:BG V0 b:=BG.of Y (by omega) N;have hb2:BG V0 next:=BG.of_SR Y hbM.s Z
 have hwf:wfS tb=true:=(aGl ht).wf;have s1:=aMg W Y (m:=mFL) (t:=tb) aU3 aZ4 hwf hu hb1;have s2:=aMg W Y (m:=mFL) (t:=tb) aU3 aZ4 hwf hu hb2;have aa:RA HN [] (tE b) (tE b):=(GC.refl (u:=[]) gb (L':=[]) (fun s _ h=>h)).ra;have hnr:RA HN [] (tE next) (tE next):=by
  rcases vN (bd:=[]) (bd':=[]) HN.ok (m30 b) b b (m30 b) (le_refl _) (le_refl _) N.q N.q aa hs with⟨_,_,h⟩ | ⟨⟨_,_,h⟩,_⟩
  ·rw[I] at h;exact h rfl
  ·exact h.elim
 obtain⟨pb,_⟩:=aa.closed fun _ _ h=>h.elim
 obtain⟨pn,_⟩:=hnr.closed fun _ _ h=>h.elim
 rcases gc with gc | ⟨s,c0,m0,rfl,hs7,rfl,gc0⟩
 ·--both tell the same,part by part
  have hN:N0 (unR [121] b (aU c) c):=aP4 _ _ (aTi gc);have ab:N0 b:=aTi gb;have hNn:N0 next:=by
   have:=aDi (bd:=[]) (fun b hb=>by cases hb) (m30 b) b ab (by rw[I]);rwa [I] at this
  have O:∀z,N0 z→SG mFL 1 V0 (lJ [121] tb (unR [121] b (aU c) c) z)→NH mFL 200 (lJ [121] tb (unR [121] b (aU c) c) z):=fun z hz hg=>by
   refine⟨1,V0,by omega,hg,aPw,rN _,.mk (fun e=>by cases e) (qN (.mk (fun e=>by cases e) (fV hN) bH bH) hz) bH bH,?_⟩;have:=aAm;split<;>omega
  have hur:RA HN (dg [[121]]) (tE (unR [121] b (aU c) c)) (tE (unR [121] b (aU c) c)):=aP3 _ _ J.m.q (GC.refl (u:=[]) gc (L':=[[121]]) (fun s _ h=>by cases h)).ra
  let H:Core→Core→Prop:=fun p q=>p=tE b∧q=tE next
  have hH:HOK H mFL.binds:=by
   refine⟨fun p q h=>?_,fun p q h=>?_,fun p q k h hq hk=>?_⟩
   ·rw[h.1,h.2,mU,mU,pb,pn];exact⟨rfl,rfl⟩
   ·rw[h.1,aA8];exact hs
   ·obtain⟨h1,h2⟩:=h;have hsp:shC p=false:=by rw[←aA8,h1,aA8];exact hs
    rcases vN (bd:=[]) (bd':=[]) HN.ok k p b (m30 b) hk (le_refl _) hq N.q (by rw[h1];exact aa) hsp with⟨_,g2,g3⟩ | ⟨⟨_,_,h⟩,_⟩
    ·rw[I] at g2 g3;have g2:(bK [] k p).2=0:=g2;refine⟨g2,?_⟩;rw[h2];exact(g3 g2).mono fun _ _ h=>h.elim
    ·exact h.elim
  have hrel:RA H [] (tE (lJ [121] tb (unR [121] b (aU c) c) b)) (tE (lJ [121] tb (unR [121] b (aU c) c) next)):=by
   refine ND.ra (by decide) ⟨rfl,rfl,.inr (.inr rfl),rfl,rfl,rfl,uX ?_ (.hole ⟨rfl,rfl⟩),fun i p q hp=>(by cases hp),fun i p q hp=>(by cases hp)⟩;exact ND.ra (by decide) ⟨rfl,rfl,.inr (.inr rfl),rfl,rfl,rfl,iH (hur.mono fun _ _ h=>h.elim),fun i p q hp=>(by cases hp),fun i p q hp=>(by cases hp)⟩
  have ac:=NH.vc W (m:=mFL) aQ1;refine⟨⟨_,ac,O b ab s1,O next hNn s2⟩,fun g d h1 h2=>?_⟩;exact uZ W ac ac hH rfl g g d 200 200 _ _ (O b ab s1) (O next hNn s2) hrel h1 h2
 ·--both go to the lambda of types
  have hue:unR [121] b (aU (.mk 7 0 s zTy [c0] [] [])) (.mk 7 0 s zTy [c0] [] [])=.mk 7 0 s zTy [c0] [] []:=by
   obtain⟨k,hk⟩:∃k,aU (Core.mk 7 0 s zTy [c0] [] [])=k+1:=⟨aU (.mk 7 0 s zTy [c0] [] [])-1,by have:=bR (.mk 7 0 s zTy [c0] [] []);omega⟩
   rw[hk,unR,aK7 (fun e=>by rw[←e] at hs;cases hs),ψ Ar,ψ (by decide)]
  rw[hue] at s1 s2 ⊢;have hcl:pfR (.mk 7 0 s zTy [c0] [] [])=[]:=((GC.refl (u:=[]) gc' (L':=[]) (fun s _ h=>h)).ra (H:=HN)).closed (fun _ _ h=>h.elim) |>.1
  have ad:∀z,bK mFL.binds (m30 (lJ [121] tb (.mk 7 0 s zTy [c0] [] []) z)) (lJ [121] tb (.mk 7 0 s zTy [c0] [] []) z)=(.mk 7 0 s zTy [c0] [] [],0):=fun z=>by
   rw[sA,aNq (X:=403) (le_refl _) J.m.q (by rw[hcl];simp)]
  have t1:TP s c0 (lJ [121] tb (.mk 7 0 s zTy [c0] [] []) b):=⟨s1,rfl,ad b⟩
  have t2:TP s c0 (lJ [121] tb (.mk 7 0 s zTy [c0] [] []) next):=⟨s2,rfl,ad next⟩
  refine⟨⟨_,TP.vc W t1 t2 (aTi gc0) (J.st 0),.inr ⟨rfl,.inl rfl⟩,.inr ⟨rfl,.inr rfl⟩⟩,fun g d _ _=>?_⟩;rw[TP.same t1 t2];exact⟨rfl,rfl⟩
theorem aFf (J:cK 540000000000) {m:Mod}(hf:m.fields.length≤1000) {P:Nat→Core→Prop}(N:VC m P) (g d F:Nat) (c:Core) (hd:d≤100) (hv:P F c) (hg:F*MZ+m30 c+d<g):
  aW Tryz.prog 17 [.pa (kD m),.pa (aB c),I .i64 d,I .i64 F] [] (veV (cZ m g d F c)) []:=by
 have hk:=aTy J hf N g d F c hd hv hg;unfold tO at hk;refine bT (n:=19) tok Tryz.func17 rfl rfl rfl ?_;refine sg rfl (skh 6 [(3,.id 900)] rfl (kc hk ?_));exact kz 4 rfl (aI (iB trw))
mutual
def vsz:Val→Nat
 | .mk _ _ _ l=>1+aYe l
def aYe:List Val→Nat
 | []=>0
 | v::l=>vsz v+aYe l
end
mutual
def aR9 (K:Nat):Val→Prop
 | .mk _ _ _ l=>l.length≤K∧aHd K l
def aHd (K:Nat):List Val→Prop
 | []=>True
 | v::l=>aR9 K v∧aHd K l
end
theorem qM {K:Nat}:∀{l:List Val},aHd K l↔∀v∈l,aR9 K v
 | []=>by simp[aHd]
 | v::l=>by rw[aHd,qM (l:=l)];simp
theorem aCp:∀{l:List Val}{v:Val},v∈l→vsz v≤aYe l
 | x::l,v,h=>by
  rw[aYe];rcases Ao.1 h with rfl | h
  ·omega
  ·have:=aCp h;omega
theorem aR8 (v:Val):1≤vsz v:=by cases v;rw[vsz];omega
theorem y2 {K:Nat}{f:Nat→Core→VE}(hf:∀F c,aR9 K (f F c).1):∀(l:List Core) (F:Nat),∀v∈(bV f F l).1,aR9 K v
 | [],F,v,h=>by cases h
 | c::l,F,v,h=>by
  rw[bV] at h;by_cases h1:(f F c).2.2=0
  ·rw[θ h1] at h;by_cases h2:(bV f (f F c).2.1 l).2.2=0
   ·rw[θ h2] at h;rcases Ao.1 h with rfl | h
    ·exact hf _ _
    ·exact y2 hf l _ v h
   ·rw[ψ h2] at h;cases h
  ·rw[ψ h1] at h;cases h
theorem zD {K:Nat}{f n:Int}{s:Str}:aR9 K (.mk f n s []):=⟨Ak _,trivial⟩
theorem v7 {m:Mod}{K:Nat}(I:∀x∈m.fields,x.arity≤K):∀(g d F:Nat) (c:Core),aR9 K (cZ m g d F c).1
 | 0,d,F,c=>zD
 | g+1,d,F,c=>by
  rw[cZ];by_cases hd:d=0
  ·rw[θ hd];exact zD
  rw[ψ hd];by_cases h0:¬(b7 m.binds F 0 c).2.2=0
  ·rw[θ h0];exact zD
  rw[ψ h0];by_cases h3:(b7 m.binds F 0 c).1.form=3
  ·rw[θ h3];exact zD
  rw[ψ h3];by_cases h7:(b7 m.binds F 0 c).1.form=7
  ·rw[θ h7];exact v7 I g d _ _
  rw[ψ h7];generalize F-(b7 m.binds F 0 c).2.1=G;cases gvC (b7 m.binds F 0 c).1 with
  | none=>exact zD
  | some p=>
   obtain⟨s,l⟩:=p;unfold aA2;dsimp only;cases hx:m.fields.find? fun x=>decide (x.name=s) with
   | none=>exact zD
   | some x=>
    dsimp only;by_cases ha:¬(l.length:Int)=x.arity
    ·rw[θ ha];exact zD
    rw[ψ ha];have J:=I x (B3 hx);by_cases e:(bV (fun F c=>cZ m g (d-1) F c) G l).2.2=0
    ·rw[θ e];have hl:=qQ l G e;refine⟨by rw[hl];omega,qM.2 (y2 (fun F c=>v7 I g (d-1) F c) l G)⟩
    ·rw[ψ e];exact zD
theorem aT2 {K:Nat}(hK:K≤1000000000):∀(k:Nat) (v:Val),vsz v≤k→aR9 K v→aW Tryz.prog 18 [.pa (k8 v),.pa (k8 v)] [] (B true) []:=by
 intro k
 induction k with
 | zero=>intro v h;have:=aR8 v;omega
 | succ k W=>
 intro v h hv;obtain⟨f,n,s,ks⟩:=v;have O:(l8 ks).length=ks.length:=by rw[iN,ξ]
 rw[vsz] at h;have Y:=hv.1;refine bT (n:=55) tok Tryz.func18 rfl rfl rfl ?_;refine sg rfl (a8 (sgh [(5,.bv false),(11,.bv false),(12,.bv false),(18,.bv false),(19,.bv false),(27,.bv false)] rfl (aA rfl (fun hb=>by simp at hb) (fun _=>aD (a8 (sg rfl (aC (aL (fun i:Nat=>mk [(2,.one (.vp 2 0)),(3,.one (.vp 3 0)),(5,I .i64 i)] [(2,.var 54 ((k8 (.mk f n s ks)).map .c)),(3,.var 54 ((k8 (.mk f n s ks)).map .c))]) (fun i=>i≤ks.length) (fun i=>ks.length-i) 0 (Ak _) sl ?_))))))));intro i hi;refine a8 (sg rfl (aA rfl (fun hb=>?_) (fun hb=>?_)))
 ·have J:i<ks.length:=ltD hb O;obtain⟨x,hx⟩:=aK J;have N:=η hx;have Z:(l8 ks)[i]?=some (k8 x):=by rw[iN];exact bJ k8 hx
  have hc:=W x (by have:=aCp N;omega) (qM.1 hv.2 x N);exact aD (a8 (aC (sgh [(3,.row i (k8 x)),(8,.row i (k8 x)),(10,.pc (B true))] rfl (sg rfl (aA rfl nofun (fun _=>aD (ag [] rfl ⟨i+1,J,by dsimp only;omega,sl⟩)))))))
 exact aM (sg rfl (aI rtT))
theorem aGr (l l2:List Int) (x2:Int) (hl:aR5 l) (hf:Fits l) (hl2:aR5 l2) (hf2:Fits l2) (h2:i64 x2):aW Tryz.prog 5 [aWy l,aWy l2,I .i64 x2] [] (B true) []:=by
 have hI:cK 540000000000:=fun k hk=>aLp k (by omega)
 have hV:V0.length≤480000:=by have:=aAm;omega
 obtain⟨b,tb,mb,hmb,gb,htb⟩:=aE2 l2 hl2 hf2;obtain⟨c,tc,mc,hmc,gc,htc⟩:=aE2 l hl hf;have gcc:GC false [] mc c∨∃s c0 m0,c=.mk 7 0 s zTy [c0] [] []∧s∈tvN∧mc=m0+20∧GC false [] m0 c0:=gc.imp (·.1) (·.1);have gc':GC true [] mc c:=by
  rcases gcc with h | ⟨s,c0,m0,rfl,hs,rfl,h⟩
  ·exact h.up
  ·exact .tlam rfl hs h.up
 have gb':GC true [] mb b:=by
  rcases gb with h | ⟨⟨s,c0,m0,rfl,hs,rfl,h⟩,_⟩
  ·exact h.1.up
  ·exact .tlam rfl hs h.up
 have Z:=aKn gc' hmc;have O:=aKn gb' hmb;obtain⟨d,hd,hde⟩:∃d:Nat,d<4∧pD x2 4=(d:Int):=by
  obtain⟨h1,h2⟩:=aAd x2 (k:=4) (by omega);exact⟨(pD x2 4).toNat,by omega,by omega⟩
 have har:=aFe x2 4 h2 (by omega);rw[hde] at har;have hfl:=aPj;have hlv:=aLo;have J:=aLy hI (n:=0) (by omega) hV aPw (m:=mFL) (rN V0) (O.st 0);have hsF:oB mFL.binds b=oB [] b:=rfl;rw[hsF] at J;by_cases he:(oB [] b).2=0
 case neg=>
  generalize oB [] b=sf at J he;obtain⟨nx,en⟩:=sf;dsimp only at he;refine bT (n:=100) tok Tryz.func5 rfl rfl rfl ?_;refine sg rfl (sgh [(1,.pc (.tup [.pa (aB b),tyV tb]))] rfl (sgh [(1,.pc (.tup [.pa (aB c),tyV tc]))] rfl (a8 (aE mixed (kc hfl ?_)))));refine kz 3 rfl (sk 2 rfl (kc J ?_));refine kz 6 rfl (a8 (sg rfl (aA rfl (fun _=>a8 (aE mixed (kc hlv ?_))) (fun hb=>absurd hb (by simp[he])))));exact kz 1 rfl (aI rtT)
 have aa:shC b=false:=by
  cases e:shC b with
  | false=>rfl
  | true=>unfold oB at he;rw[θ e] at he;cases he
 have W:(bK [] (m30 b) b).2=0:=by
  unfold oB at he;rw[ψ (nsh aa)] at he;by_cases e:(bK [] (m30 b) b).2=0
  ·exact e
  ·rw[ψ e] at he;exact absurd he e
 have hsf:oB [] b=((bK [] (m30 b) b).1,0):=by
  unfold oB;rw[ψ (nsh aa),θ W]
 rw[hsf] at J;obtain⟨next,N⟩:∃next,bK [] (m30 b) b=(next,0):=⟨(bK [] (m30 b) b).1,by rw[←W]⟩
 rw[N] at J;obtain⟨gb,n,ht,hn⟩:GC false [] mb b∧∃n,GT n tb∧n≤29:=by
  rcases gb with h | ⟨⟨s,c0,m0,rfl,_⟩,_⟩
  ·exact h
  ·cases aa
 have hPT:=a0n hI hmc hmb gcc gb ht aa N;have hsr:=nB hI (n:=0) (by omega) hV (rN V0) (m30 b) b (le_refl _) (O.st 0) W;have hsr:SR (0+1) V0 (m30 b) next:=by
  have:SR (0+1) V0 (m30 b) (bK [] (m30 b) b).1:=hsr;rwa [N] at this
 have hb2:BG V0 next:=BG.of_SR hV O.s hsr
 have Y:=aLx [121] b (aU c) c (le_refl _) (by have:=bZ c;have:=Z.s;omega) (aZk gc');obtain⟨lu1,lu2,lu3⟩:=aAs (y:=[121]) (b:=b) aU3 (aU c) c Z.m;have hu:ST 0 V0 (unR [121] b (aU c) c):=ST.of lu1 (le_trans lu3 Z.t) (le_trans lu2 Z.s) 0;obtain⟨⟨P,hvc,hP1,hP2⟩,heq⟩:=hPT;generalize unR [121] b (aU c) c=u at Y hu hP1 hP2 heq;have tg:∀{x:Core},CG 1000 650000 403 x→allT TyG x:=fun h=>h.tyG hI (by decide)
 have hBig:Big=250000000000:=rfl;have own:∀{x:Core},m30 x≤300000000000→allT TyG x→OwP x:=fun {x} h1 h2=>pB (aU x) x (le_refl _) (by have:=bZ x;omega) h2
 have hcu:=hu.cg (by omega) hV;have hcb:=(O.st 0).cg (by omega) hV;have htT:TyG tb:=(tg (((aKn (GC.fail (z:=true) (L:=[]) ht (by omega)) (by omega)).st 0).cg (by omega) hV)).1
 have hTu:=tg hcu;have hlam:=aLt [121] tb u htT (own (by have:=hu.sz;omega) hTu);have hTl:allT TyG (aOv [121] tb u):=⟨htT,⟨hTu,trivial⟩,trivial,trivial⟩
 have hml:m30 (aOv [121] tb u)≤300000000000:=by
  have:=hu.sz;have hw:=aG4 aU3;unfold aOv;rw[m30,cE,cE,fF,gP];omega
 have hk0:=aB7 (aOv [121] tb u) b (own hml hTl) (own (by have:=O.s;omega) (tg hcb));have hon:=aB7 (aOv [121] tb u) next (own hml hTl) (own (by have:=hb2.cg.sz;omega) (tg hb2.cg))
 obtain⟨G,hG1,hG2⟩:∃G,200*MZ+m30 (lJ [121] tb u b)+d<G∧200*MZ+m30 (lJ [121] tb u next)+d<G:=⟨200*MZ+m30 (lJ [121] tb u b)+m30 (lJ [121] tb u next)+d+1,by omega,by omega⟩
 have hA:=aFf hI (m:=mFL) (by show FL.length≤1000;decide) hvc G d 200 (lJ [121] tb u b) (by omega) hP1 hG1;have hBv:=aFf hI (m:=mFL) (by show FL.length≤1000;decide) hvc G d 200 (lJ [121] tb u next) (by omega) hP2 hG2;have FLa:∀x∈FL,x.arity≤((10:Nat):Int):=by
  intro x hx;simp only[FL,Ao,not_mem_nil,or_false] at hx;rcases hx with rfl | rfl | rfl | rfl | rfl | rfl<;>decide
 have fA:=v7 (m:=mFL) (K:=10) FLa G d 200 (lJ [121] tb u b);have ab:=heq G d;have ek:aGq (aOv [121] tb u) b=lJ [121] tb u b:=rfl;have eo:aGq (aOv [121] tb u) next=lJ [121] tb u next:=rfl
 rw[ek] at hk0;rw[eo] at hon;generalize cZ mFL G d 200 (lJ [121] tb u b)=A at *;generalize cZ mFL G d 200 (lJ [121] tb u next)=Bv at *;have hsA:=aT2 (K:=10) (by omega) _ A.1 (le_refl _) fA;obtain⟨av,aF,ae⟩:=A;obtain⟨bv,bF,be⟩:=Bv;dsimp only at hsA ab;refine bT (n:=100) tok Tryz.func5 rfl rfl rfl ?_;refine sg rfl (sgh [(1,.pc (.tup [.pa (aB b),tyV tb]))] rfl (sgh [(1,.pc (.tup [.pa (aB c),tyV tc]))] rfl (a8 (aE mixed (kc hfl ?_)))));refine kz 3 rfl (sk 2 rfl (kc J ?_));refine kz 6 rfl (a8 (sg rfl (aA rfl nofun (fun _=>aD (sk 3 rfl (kc Y ?_))))));refine kc hlam ?_;refine ak 2 [(6,.all)] rfl (kc hk0 ?_);refine kz 2 rfl (sk 3 rfl (kc Y ?_));refine kc hlam ?_;refine ak 2 [(6,.all)] rfl (kc hon ?_);refine kz 2 rfl (sgh [(1,.pc (I .i64 (d:Int)))] rfl (sk 3 rfl (kc hA ?_)));refine kz 6 rfl (sk 3 rfl (kc hBv ?_));refine kz 6 rfl (a8 (a8 (agF 3 [] rfl rfl rfl (aA rfl (fun hb=>?_) (fun hb=>?_)))))
 ·refine a8 (aE mixed (kc hlv ?_));exact kz 1 rfl (aI rtT)
 have hnn:nt ae∧nt be:=by
  unfold nt;simp at hb;obtain⟨b1,b2,b3,b4⟩:=hb;exact⟨⟨b3,b1⟩,b4,b2⟩
 obtain⟨m1,m2⟩:=ab hnn.1 hnn.2;subst m1 m2;exact aD (sgh [(3,.bv true),(6,.pc (B true)),(7,.bv true),(8,.bv true),(9,.pc (B true)),(10,.bv true)] rfl (aI rtT))
end Go.Proofs.YtockgoadliilhaaGreatDoor
namespace Go.Proofs.YtockgoadliilhaaGreatDoor
open Go Go.ChangeShapes Go.WideShapes Go.ChangeAt Go.RowKit Go.AM
theorem Tryz.own:ownKnob Tryz.prog.godebug=none:=by kernel_rfl
theorem Tryz.laidOut:laidOutB Tryz.prog=true:=by kernel_rfl
theorem aNl:Rows.laid_internal_strconv_uint64pow10 (H:=Unit)=Lib.tabData .u64 Lib.pow10Tab:=by kernel_rfl
theorem aVe {W:World}(h:laidMetH Tryz.prog Rows.stepPartRow.laid W):aPx W:=by
 rw [MakeChecks.laidMetH_plain _ _ _ (by kernel_rfl)] at h;have h3 := laidMet.tail (laidMet.tail h);rw [aNl] at h3;have ht := Lib.tabIs_of_head (g := 0) (t := 178) (e := 172) (n := 20) (by kernel_rfl) (by kernel_rfl) (by kernel_rfl) (by kernel_rfl) (by kernel_rfl) (by kernel_rfl) h3;intro g hg;cases hg;unfold Lib.TabIs World.var? at ht;rw [show Tryz.prog.globalNamed "internal/strconv.uint64pow10" = some 0 by kernel_rfl] at ht;simp only [Cl] at ht;split at ht
 ·rename_i cs t fr I;simp only[Option.some.injEq] at ht;subst ht;exact⟨dY I,t,fr,I⟩
 ·cases ht
theorem aWz {n:Int}(h:(Lit.int .i64 n).wf=true):i64 n:=by
 simp only[Lit.wf,Ah,decide_eq_true_eq] at h;exact h
set_option maxRecDepth 100000 in
theorem qY (os:Os) (started:os.Started) (H:Type) (enc:TypeId×Value→H):
  ReturnsInHanded {} Tryz.checked os 5 .any (fun w args=>(Rows.stepPartSpec.pre enc Tryz.prog Tryz.f5 Rows.stepPartRow.domain false w args∧laidMetH Tryz.prog Rows.stepPartRow.laid w)∧sizedMet enc Tryz.prog Tryz.f5 (OpenSpec.ofChange Rows.stepPartSpec) false w args)
   (Rows.stepPartSpec.post enc Tryz.prog Tryz.f5 false true false false):=by
 refine returnsInHanded_of_change_and (C:=Tryz.checked) (X:=fun w _=>laidMetH Tryz.prog Rows.stepPartRow.laid w) (fun _ _ _ hh h=>h.of_heap hh) Tryz.own started (by kernel_rfl) Tryz.func5
  (ChangeSpec.witness_shaped (enc:=enc) (C:=Tryz.checked) (os:=os) (X:=fun w _=>laidMetH Tryz.prog Rows.stepPartRow.laid w) false (World.laidAll Tryz.prog os Rows.stepPartRow.laid) #[.slice none 0 0,.slice none 0 0,.int .i64 0] 8 (World.laidAll_os _ _ _)
   (World.shaped_of_ZipB (by kernel_rfl) (by kernel_rfl)) (by kernel_rfl) (by kernel_rfl) (by kernel_rfl)
   (by rw[MakeChecks.laidMetH_plain _ _ _ (by kernel_rfl)];exact laidMet_laidAll _ (by kernel_rfl) (by kernel_rfl))) ?_
 intro W base args ds gs before J hW hcnd hwt hL _
 have I:∀(j:Nat) t v,Tryz.f5.params[j]?=some t→args[j]?=some v→Value.okWide Tryz.prog W .any base t v:=J
 have N:=hW
 obtain⟨p,q,ab,hV,rfl,hfz,hnd⟩:=hW
 have hA:DataW.TrodAll enc Tryz.prog W 0 (fun _=>true) true Tryz.f5.params.toList args.toList ds p:=ab
 rw[Tryz.params5] at hA I
 obtain⟨v0,v1,v2,d0,d1,d2,p0,p1,p2,rfl,rfl,rfl,h0,h1,h2⟩:=trodAll_three hA
 obtain⟨rfl,rfl⟩:=trodVars_none hV
 obtain⟨l0,Z,hr0,xl0,yl0,hd0⟩:=tX Tryz.underlying22 Tryz.underlying3 (by kernel_rfl) (I 0 22 v0 rfl rfl) h0
 obtain⟨l1,aa,hr1,xl1,yl1,hd1⟩:=tX Tryz.underlying22 Tryz.underlying3 (by kernel_rfl) (I 1 22 v1 rfl rfl) h1
 obtain⟨n2,rfl,rfl,rfl,w2⟩:=open_int Tryz.underlying3 (I 2 3 v2 rfl rfl) h2
 clear ab J
 simp only[A8] at N
 have hlt0:∀x∈p0,x.block<W.heap.size:=fun x hx=>by simpa using N.lt x (ω.2 (.inl hx))
 have hlt1:∀x∈p1,x.block<W.heap.size:=fun x hx=>by simpa using N.lt x (ω.2 (.inr (hx)))
 have O:(DataW.weightsEach Tryz.prog (Tryz.f5.params.toList++Rows.stepPartSpec.plain.varTypes Tryz.prog) ([d0,d1,.lit (.int .i64 n2)]++[])).all (· ≤reachBytes)=true:=hwt
 have hf0:Fits l0:=by
  unfold Fits
  rcases hd0 with⟨_,hd⟩ | ⟨rfl,hd⟩
  ·rw[hd];simp
  ·have:=sized_slice O (j:=0) (t:=22) (e:=3) rfl rfl Tryz.underlying22
   rw[show Tryz.prog.bytesOf 3=8 by kernel_rfl] at this
   have hb:=reachBytes_lt
   omega
 have hf1:Fits l1:=by
  unfold Fits
  rcases hd1 with⟨_,hd⟩ | ⟨rfl,hd⟩
  ·rw[hd];simp
  ·have:=sized_slice O (j:=1) (t:=22) (e:=3) rfl rfl Tryz.underlying22
   rw[show Tryz.prog.bytesOf 3=8 by kernel_rfl] at this
   have hb:=reachBytes_lt
   omega
 refine(aKf (aGr l0 l1 n2 hr0 hf0 hr1 hf1 (aWz w2)) W (vals:=[v0,v1,.int .i64 n2]) ⟨_,_,rfl,Z,⟨_,_,rfl,aa,⟨_,_,rfl,rfl,rfl⟩⟩⟩ (ht:=aVe hL)).mono fun e W' ⟨v,S,μ,he,Y,hv⟩=>?_
 subst he
 rw[aT8 hv]
 have hp0:=Below.trod Tryz.laidOut (by kernel_rfl) (φ (by kernel_rfl)) h0 Y hlt0
 have hp1:=Below.trod Tryz.laidOut (by kernel_rfl) (φ (by kernel_rfl)) h1 Y hlt1
 exact⟨_,rfl,⟨_,_,_,[],_,[],N,trodAll_mk1 (shut_bool Tryz.underlying4 true),trodAll_mk3 hp0 hp1 (shut_int Tryz.underlying3 w2),rfl,Y.frame _,fun h=>by cases h⟩⟩
theorem sL:Rows.StepPartSaid:=
 OpenClaim.holds_of_wide 5 Tryz.f5 rfl rfl rfl rfl rfl rfl rfl ⟨rfl,rfl,rfl,rfl,rfl⟩ rfl rfl rfl rfl rfl (by kernel_rfl) Tryz.func5 (by kernel_rfl)
  (φ (by kernel_rfl)) (by unfold Func.isWrapper;first | (rw[θ (by decide+kernel)];kernel_rfl) | (rw[ψ (by decide+kernel)];exact⟨rfl,rfl⟩))
  (fun os started H enc _=>qY os started H enc)
theorem stepPart_card_holds:Rows.StepPartCardSaid:=
 Claim7.holds_tied_plain_at .later [] [.data, .data, .data] true (true, "9d411a38d5235b230fa7c5b33de9c5d12e9a836355931af45be828b1ad023e12") false sL (fun _ h => by cases h) (by kernel_rfl) (fun _ h => by cases h) stepPart_row_tie rfl ⟨rfl, rfl⟩ (by kernel_rfl) rfl
  (fun f fn hf J=>by
   obtain rfl : f = 5 := Option.some.inj ((show Tryz.prog.funcNamed "fugue/fuguelaw22.StepPart" = some 5 by kernel_rfl).symm.trans hf) |>.symm;obtain rfl : fn = Tryz.f5 := (Option.some.inj (Tryz.func5.symm.trans J)).symm
   exact⟨by kernel_rfl,fun j t ht=>by
    rw[Tryz.params5] at ht;have hm:t∈[22,3]:=by
     have:=Array.mem_of_getElem? ht;simp at this;simp
     first | omega | (rcases this with h | h | h<;>simp[h])
    have I:([22,3].all fun u=>!Tryz.prog.wantsStandIn u)=true:=by kernel_rfl
    exact(show Tryz.prog.wantsStandIn t=false by simpa using A3.1 I t hm)⟩)
  (by kernel_rfl)
end Go.Proofs.YtockgoadliilhaaGreatDoor
