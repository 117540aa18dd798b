/-
  The law ReadTyped: its row and its card.
-/
import Derived.Test.YtpmheldmadendaaGreatDoorM15
import Derived.Test.YtpmheldmadendaaGreatDoorCards
import Derived.Test.YtpmheldmadendaaGreatDoorTie
import Derived.ProofKit
import Derived.Lib.LaidTab
import Derived.Stop.LaidErr
import Derived.OpenShut
import Derived.LaidMore
import Derived.Lay
import Derived.SevenTiedAt
import Derived.Stop.Joined
open List (all_eq_true append_assoc append_nil cons_append length_append length_cons length_map length_nil length_take map_append map_cons map_map map_nil mem_cons nil_append sum_cons take_length take_of_length_le take_succ_cons take_zero)
open Nat (le_refl zero_le)
namespace Go.Proofs.YtpmheldmadendaaGreatDoor
open Go Go.AM
set_option maxRecDepth 20000
set_option maxHeartbeats 4000000
theorem xY (a b:List Str) (h:a.length≤600000000000):b9 Tryz.prog 42 [cJ a,cJ b] [] (B (decide (a=b))) []:=by
 refine bP (n:=26) tok Tryz.func42 rfl rfl rfl ?_;refine sg rfl (aA (sg rfl (aB rfl (fun hb=>?_) (fun hb=>?_))))
 ·have q:¬a=b:=by
   rintro rfl;simp at hb
  refine sg rfl ?_;rw[ψ q];exact aE rtT
 ·have hlen:a.length=b.length:=by
   have:(a.length:Int)=(b.length:Int):=by simpa using hb
   omega
  refine aD (aA (sg rfl (aF ?_)));have u:(a.map b7).length=a.length:=η _;refine aK (fun i:Nat=>mk [(0,cJ a),(1,cJ b),(5,I .i64 i)] []) (fun i=>i≤a.length∧a.take i=b.take i) (fun i=>a.length-i) 0 ⟨ε _,by simp⟩ sl ?_;intro i ⟨hi,he⟩;refine aA (sg rfl (aB rfl (fun hb=>?_) (fun hb=>?_)))
  ·have E:=ltD hb u;obtain⟨x,hx⟩:=aL E;obtain⟨y,hy⟩:=aL (show i<b.length by omega);have O:=aT b7 hx;have U:=aT b7 hy;refine aD (aA (aF (sgh [(2,.row i (b7 x)),(6,.row i (b7 y))] rfl (aB rfl (fun hb=>?_) (fun hb=>?_)))))
   ·have r:¬x=y:=by simpa using hb
    have q:¬a=b:=by
     rintro rfl;rw[hx] at hy;exact r (Option.some.inj hy)
    rw[ψ q];exact sg rfl (aE rtT)
   ·have r:x=y:=by simpa using hb
    refine aD (ag [] rfl ⟨i+1,⟨E,?_⟩,by dsimp only;omega,sl⟩);rw[dH hx,dH hy,he,r]
  ·have J:=geD hb u hi;have M:a=b:=by
    have:=he;rw[J,Ax,Az (by omega)] at this;exact this
   refine aH ?_;rw[φ M];exact sg rfl (aE (rtT (hc:=.refl)))
noncomputable def aTu {α:Type}(a b:α):Bool:= @decide (a=b) (Classical.propDecidable _)
theorem aPk {α:Type}{a b:α}(h:a=b):aTu a b=true:= @decide_eq_true _ (Classical.propDecidable _) h
theorem aPl {α:Type}{a b:α}(h:¬a=b):aTu a b=false:= @decide_eq_false _ (Classical.propDecidable _) h
theorem aHw {α:Type}{a b:α}(h:aTu a b=true):a=b:= @of_decide_eq_true _ (Classical.propDecidable _) h
theorem aHx {α:Type}{a b:α}(h:aTu a b=false):¬a=b:= @of_decide_eq_false _ (Classical.propDecidable _) h
theorem aMk {α:Type}{l m:List α}(h:l.length=m.length) (he:∀j,j<l.length→l[j]?=m[j]?):l=m:=
 Ce fun j=>by
  by_cases hj:j<l.length
  ·exact he j hj
  ·rw[List.getElem?_eq_none (by omega),List.getElem?_eq_none (by omega)]
theorem aWi:∀(k:Nat) (t u:Ty),tn t≤k→tn t≤1000000000→b9 Tryz.prog 43 [tyV t,tyV u] [] (B (aTu t u)) []:=by
 intro k
 induction k with
 | zero=>intro t u h;have:=qR t;omega
 | succ k Y=>
 intro t u h M;obtain⟨f,n,s,a⟩:=t;rw[tn] at h M;have hal:=yY a;obtain⟨f',n',s',q⟩:=u;have E:(cV a).length=a.length:=by rw[dB,η]
 have aa:(cV q).length=q.length:=by rw[dB,η]
 refine bP (n:=55) tok Tryz.func43 rfl rfl rfl ?_;refine sg rfl (aA (aA (agF 6 [] rfl rfl rfl (aB rfl (fun hb=>?_) (fun hb=>?_)))))
 ·rw[aPl (fun e=>by cases e;simp at hb)];exact sg rfl (aE rtT)
 simp[Ty.form,Ty.n,Ty.name,dC] at hb;obtain⟨d1,d2,d3,d4⟩:=hb;obtain rfl:=κ d1;obtain rfl:=κ d2;obtain rfl:=κ d3;have e4:a.length=q.length:=by have:=κ d4;omega
 refine aD (aA (sg rfl (aF (aK (fun i:Nat=>mk [(2,.one (.vp 2 0)),(3,.one (.vp 3 0)),(5,I .i64 i)] [(2,.var 47 ((bR (.mk f n s a)).map .c)),(3,.var 47 ((bR (.mk f n s q)).map .c))]) (fun i=>i≤a.length∧∀j,j<i→a[j]?=q[j]?) (fun i=>a.length-i) 0 ⟨ε _,fun j hj=>by omega⟩ sl ?_))));intro i ⟨hi,r⟩;refine aA (sg rfl (aB rfl (fun hb=>?_) (fun hb=>?_)))
 ·have J:i<a.length:=ltD hb E;obtain⟨x,hx⟩:=aL J;obtain⟨y,hy⟩:=aL (l:=q) (k:=i) (by omega);have hx':(cV a)[i]?=some (bR x):=by rw[dB];exact aT bR hx
  have hy':(cV q)[i]?=some (bR y):=by rw[dB];exact aT bR hy
  have hc:=Y x y (by have:=kS (τ hx);omega) (by have:=kS (τ hx);omega);refine aD (aA (aF (skh 10 [(3,.row i (bR x)),(8,.row i (bR y))] rfl (kc hc ?_))));refine kz 1 rfl ?_;cases he:aTu x y with
  | false=>
   have O:=aHx he;refine sg rfl (aB rfl (fun _=>?_) nofun)
   rw[aPl (fun e=>by
    injection e with _ _ _ e;rw[e,hy] at hx
    exact O (Option.some.inj hx).symm)]
   exact sg rfl (aE rtT)
  | true=>
   have heq:=aHw he;refine sg rfl (aB rfl nofun (fun _=>aD (ag [] rfl ⟨i+1,⟨J,fun j hj=>?_⟩,by dsimp only;omega,sl⟩)));by_cases e:j=i
   ·rw[e,hx,hy,heq]
   ·exact r j (by omega)
 have U:=geD hb E hi;subst U;rw[aPk (by rw[aMk e4 r])];exact aH (sg rfl (aE rtT))
theorem aDa (t:Ty) (h:tn t≤1000000000):b9 Tryz.prog 43 [tyV t,tyV t] [] (B true) []:=by
 have:=aWi (tn t) t t (le_refl _) h;rwa [aPk rfl] at this
theorem qJ (l:List Str) (h:l.length≤600000000000):b9 Tryz.prog 42 [cJ l,cJ l] [] (B true) []:=by
 have:=xY l l h;rwa [φ rfl] at this
theorem aDd (l:List Prd) (hl:l.length≤100000) (h:∀p∈l,tn p.ty≤30000):b9 Tryz.prog 45 [.one (.c (.sl 5 (l.map aN))),.one (.c (.sl 5 (l.map aN)))] [] (B true) []:=by
 have r:(l.map aN).length=l.length:=η _;have d0:(!decide (((l.map aN).length:Int)=((l.map aN).length:Int)))=false:=by rw[φ rfl];rfl
 refine bP (n:=42) tok Tryz.func45 rfl rfl rfl ?_;refine sg rfl (aA (sg rfl (aB rfl (fun hb=>absurd (hb.symm.trans d0) Bool.noConfusion) (fun _=>aD (aA (sg rfl (aF (aK (fun i:Nat=>mk [(0,.one (.c (.sl 5 (l.map aN)))),(1,.one (.c (.sl 5 (l.map aN)))),(5,I .i64 (i:Nat))] []) (fun i=>i≤l.length) (fun i=>l.length-i) 0 (ε _) sl ?_))))))));intro i hi;refine aA (sg rfl (aB rfl (fun hb=>?_) (fun hb=>?_)))
 ·have q:=ltD hb r;obtain⟨p,hp⟩:=aL q;have u:=aT aN hp;have ht:=aDa p.ty (by have:=h p (τ hp);omega);have d1:(!decide (p.cls=p.cls))=false:=by rw[φ rfl];rfl
  refine aD (aA (aF (skh 22 [(11,.bv false),(2,.row i (aN p)),(7,.row i (aN p)),(14,.row i (aN p)),(19,.row i (aN p))] rfl (kcG ht ?_))));exact ak 2 [(11,.bv false),(24,.bv false)] rfl (az (aB rfl (fun hb=>Bool.noConfusion hb) (fun _=>aD (agN [] rfl ⟨i+1,q,by dsimp only;omega,sl⟩))))
 ·exact aH (sg rfl (aE rtT))
theorem aJk (s:Sch) (h:tn s.ty≤30000) (hp:∀p∈s.preds,tn p.ty≤30000) (hl:s.preds.length≤100000) (hv:s.vars.length≤600000000000):b9 Tryz.prog 102 [.pa (fH s),.pa (fH s)] [] (B true) []:=by
 have h1:=qJ s.vars hv;have h2:=aDd s.preds hl hp;have q:=aDa s.ty (by omega);refine bP (n:=30) tok Tryz.func102 rfl rfl rfl ?_;refine sg rfl (sk 4 rfl (kc h1 ?_));refine kz 1 rfl (sk 4 rfl (kc h2 ?_));refine kz 1 rfl (sk 4 rfl (kc q ?_));exact kz 1 rfl (sgh [(1,.bv true),(3,.bv true),(4,.bv true),(6,.bv true)] rfl (aE rtT))
theorem aPp (s:Sch) (h:tn s.ty≤30000) (hp:∀p∈s.preds,tn p.ty≤30000) (hl:s.preds.length≤100000) (hv:s.vars.length≤600000000000):b9 Tryz.prog 44 [.pa (fH s),.pa (fH s)] [] (B true) []:=by
 have h1:=aJk s h hp hl hv;refine bP (n:=17) tok Tryz.func44 rfl rfl rfl ?_;refine sg rfl (sk 2 rfl (kc h1 ?_));exact ak 10 [(3,.bv true),(11,.bv true)] rfl (az (aE rtT))
theorem kO {α:Type} [DecidableEq α] (a:α):(!decide (a=a))=false:=by rw[φ rfl];rfl
mutual
def psz:Pt→Nat
 | .mk _ _ _ _ l=>aXu l+1
def aXu:List Pt→Nat
 | []=>0
 | p::l=>psz p+aXu l
end
theorem zL:∀{l:List Pt}{p:Pt},p∈l→psz p≤aXu l
 | [],p,h=>by cases h
 | a::l,p,h=>by
  rw[aXu];rcases Au.1 h with rfl | h
  ·omega
  ·have:=zL h;omega
theorem lZ:∀{l:List Pt},wJ l→∀p∈l,ptB p
 | a::l,h,p,hp=>by
  rcases Au.1 hp with rfl | hp
  ·exact h.1
  ·exact lZ h.2 p hp
theorem xZ:∀(k:Nat) (p:Pt),psz p≤k→ptB p→b9 Tryz.prog 21 [.pa (bL p),.pa (bL p)] [] (B true) []
 | 0,p,h,_=>by cases p;rw[psz] at h;omega
 | k+1,p,h,hB=>by
  obtain⟨f,pl,n,s,l⟩:=p;rw[psz] at h;have hq:=aDa zTy (by unfold zTy;rw[tn,tns];decide);have u:=hB.1;have r:(kP (.mk f pl n s l)).length=l.length:=by rw[j6,η];rfl
  have d1:=kO f;have d2:=kO pl;have d3:=kO n;have d4:=kO s;have d5:=kO ((kP (.mk f pl n s l)).length:Int);have d6:=kO ((([]:List (List C)).length:Nat):Int);refine bP (n:=97) tok Tryz.func21 rfl rfl rfl ?_;refine sg rfl (aA (skh 49 [(5,.bv false),(11,.bv false),(12,.bv false),(18,.bv false),(19,.bv false),(25,.bv false),(26,.bv false),(34,.bv false),(35,.bv false),(43,.bv false),(44,.bv false),(51,.bv false)] rfl (kcG hq ?_)));refine ak 2 [(5,.bv false),(11,.bv false),(12,.bv false),(18,.bv false),(19,.bv false),(25,.bv false),(26,.bv false),(34,.bv false),(35,.bv false),(43,.bv false),(44,.bv false),(51,.bv false)] rfl (az (aB rfl (fun hb=>Bool.noConfusion hb) (fun _=>aD (aA (sg rfl (aF (aK (fun _:Nat=>mk [(2,.one (.vp 2 0)),(3,.one (.vp 3 0)),(5,I .i64 0)] [(2,.var 49 ((bL (.mk f pl n s l)).map .c)),(3,.var 49 ((bL (.mk f pl n s l)).map .c))]) (fun _=>True) (fun _=>0) 0 trivial sl ?_)))))));intro i _;refine aA (sg rfl (aB rfl (fun hb=>absurd hb (by decide)) (fun _=>aH (aA (sg rfl (aF (aK (fun i:Nat=>mk [(2,.one (.vp 2 0)),(3,.one (.vp 3 0)),(6,I .i64 (i:Nat))] [(2,.var 49 ((bL (.mk f pl n s l)).map .c)),(3,.var 49 ((bL (.mk f pl n s l)).map .c))]) (fun i=>i≤l.length) (fun i=>l.length-i) 0 (ε _) sl ?_)))))));intro i hi;refine aA (sg rfl (aB rfl (fun hb=>?_) (fun hb=>?_)))
  ·have q:=ltD hb r;obtain⟨x,hx⟩:=aL q;have y:(kP (.mk f pl n s l))[i]?=some (bL x):=by rw[j6];exact aT bL hx
   have hm:=τ hx;have hc:=xZ k x (by have:=zL hm;omega) (lZ hB.2 x hm);refine aD (aA (aF (skh 10 [(3,.row i (bL x)),(8,.row i (bL x))] rfl (kc hc ?_))));exact kz 1 rfl (aB rfl (fun hb=>Bool.noConfusion hb) (fun _=>aD (agN [] rfl ⟨i+1,q,by dsimp only;omega,sl⟩)))
  ·exact aH (sg rfl (aE rtT))
def aX5 (n:Int):Str:=Lib.decDigits n.toNat
def aEp (n:Int):Prop:=0≤n∧n≤2147483647
theorem aC0 {n:Int}(h:aEp n):(aX5 n).length≤20:=aRu _ (by have:=h.2;omega)
theorem aJr {n:Int}(h:aEp n):b9 Tryz.prog 68 [I .i64 n] [] (Go.AM.T (aX5 n)) []:=by
 have:=aSf n.toNat (by have:=h.2;omega);rwa [Int.toNat_of_nonneg h.1] at this
mutual
def ptW:Pt→Nat
 | .mk _ _ _ s l=>s.length+24+wI l
def wI:List Pt→Nat
 | []=>0
 | p::l=>ptW p+wI l
end
mutual
def prP:Pt→Str
 | .mk f _ n s l=>if f=1 then [95] else if f=3 then aX5 n else s++yS l
def yS:List Pt→Str
 | []=>[]
 | p::l=>[32]++brk (decide (0<p.kids.length)) (prP p)++yS l
end
mutual
def aXw:Pt→Prop
 | .mk _ _ n _ l=>aEp n∧sC l
def sC:List Pt→Prop
 | []=>True
 | p::l=>aXw p∧sC l
end
theorem iD:∀{l:List Pt},sC l→∀p∈l,aXw p
 | a::l,h,p,hp=>by
  rcases Au.1 hp with rfl | hp
  ·exact h.1
  ·exact iD h.2 p hp
theorem qB:∀{l:List Pt}{p:Pt},p∈l→ptW p≤wI l
 | a::l,p,h=>by
  rw[wI];rcases Au.1 h with rfl | h
  ·omega
  ·have:=qB h;omega
theorem r4:∀(l:List Pt) (i:Nat),wI (l.take i)≤wI l
 | [],i=>by rw[List.take_nil];exact le_refl _
 | p::l,0=>ε _
 | p::l,i+1=>by
  rw[A5,wI,wI];have:=r4 l i;omega
theorem oU:∀(l:List Pt) (i:Nat),sC l→sC (l.take i)
 | [],i,_=>by rw[List.take_nil];trivial
 | p::l,0,_=>trivial
 | p::l,i+1,h=>⟨h.1,oU l i h.2⟩
mutual
theorem wM:∀p:Pt,aXw p→(prP p).length+3≤ptW p
 | .mk f pl n s l,h=>by
  have h1:=u5 l h.2;have h2:=aC0 h.1;rw[prP,ptW];split
  ·show 1+3≤_;omega
  split
  ·omega
  ·rw[θ];omega
theorem u5:∀l:List Pt,sC l→(yS l).length≤wI l
 | [],_=>le_refl _
 | p::l,h=>by
  have h1:=wM p h.1;have h2:=u5 l h.2;have q:=eJ (decide (0<p.kids.length)) (prP p);rw[yS,wI,θ,θ,χ,length_nil];omega
end
theorem aBy:∀(l m:List Pt),yS (l++m)=yS l++yS m
 | [],m=>rfl
 | p::l,m=>by rw[Ad,yS,yS,aBy l m];simp
theorem nD:∀(k:Nat) (p:Pt),psz p≤k→aXw p→ptB p→ptW p≤1000000000→b9 Tryz.prog 30 [.pa (bL p)] [] (Go.AM.T (prP p)) []
 | 0,p,h,_,_,_=>by cases p;rw[psz] at h;omega
 | k+1,p,h,q,hB,hW=>by
  obtain⟨f,pl,n,s,l⟩:=p;rw[psz] at h;have hM:3000000000≤maxLen:=by decide
  have hll:=hB.1;have u:(kP (.mk f pl n s l)).length=l.length:=by rw[j6,η];rfl
  have hi:=aJr q.1;rw[ptW] at hW;rw[prP];refine bP (n:=36) tok Tryz.func30 rfl rfl rfl ?_;refine sg rfl (aA (sg rfl (aF (sg rfl ?_))));by_cases h1:f=1
  ·have d1:decide (f=1)=true:=φ h1;rw[ζ h1];exact aB rfl (fun _=>sg rfl (aE rtT)) (fun hb=>Bool.noConfusion (hb.symm.trans d1))
  have d1:decide (f=1)=false:=ψ h1;rw[ξ h1];refine aB rfl (fun hb=>Bool.noConfusion (hb.symm.trans d1)) (fun _=>sg rfl ?_);by_cases r:f=3
  ·have d3:decide (f=3)=true:=φ r;rw[ζ r];refine aB rfl (fun _=>sk 2 rfl (kc hi ?_)) (fun hb=>Bool.noConfusion (hb.symm.trans d3));exact kz 1 rfl (aE rtT)
  have d3:decide (f=3)=false:=ψ r;rw[ξ r];refine aB rfl (fun hb=>Bool.noConfusion (hb.symm.trans d3)) (fun _=>aD (sg rfl (aA (sg rfl (aF (aK (fun i:Nat=>mk [(3,Go.AM.T (s++yS (l.take i))),(18,.one (.c (.sl 10 (kP (.mk f pl n s l))))),(19,I .i64 ((kP (.mk f pl n s l)).length:Nat)),(20,I .i64 (i:Nat))] []) (fun i=>i≤l.length) (fun i=>l.length-i) 0 (ε _) (sl (he:=⟨by rw[take_zero,yS,A3];rfl,rfl,rfl,rfl,trivial⟩)) ?_))))));intro i E;have hpt:=r4 l i;have hpl:=u5 (l.take i) (oU l i q.2);refine sg rfl (aA (aB rfl (fun hb=>?_) (fun hb=>?_)))
  ·have y:=ltD hb u;obtain⟨x,hx⟩:=aL y;have hx':(kP (.mk f pl n s l))[i]?=some (bL x):=by rw[j6];exact aT bL hx
   have hm:=τ hx;have hwm:=qB hm;have hc:=nD k x (by have:=zL hm;omega) (iD q.2 x hm) (lZ hB.2 x hm) (by omega);have hlx:=wM x (iD q.2 x hm);have J:(kP x).length=x.kids.length:=by rw[j6,η]
   have M:=fQ (prP x) (decide ((0:Int)<((kP x).length:Nat))) (by omega);have hbl:=eJ (decide ((0:Int)<((kP x).length:Nat))) (prP x);have O:decide (0<x.kids.length)=decide ((0:Int)<((kP x).length:Nat)):=by
    rw[J];by_cases h0:0<x.kids.length
    ·rw[φ h0,φ (by omega)]
    ·rw[ψ h0,ψ (by omega)]
   have U:l.take (i+1)=l.take i++[x]:=dH hx;have B:s++yS (l.take i)++([32]++brk (decide ((0:Int)<((kP x).length:Nat))) (prP x))=s++yS (l.take (i+1)):=by
    rw[U,aBy,yS,yS,O];simp
   have hpt2:=r4 l (i+1);have hpl2:=u5 (l.take (i+1)) (oU l (i+1) q.2);have hlen:(s++yS (l.take i)++([32]++brk (decide ((0:Int)<((kP x).length:Nat))) (prP x))).length≤2000000000:=by rw[B,θ];omega
   clear hlen O;generalize brk (decide ((0:Int)<((kP x).length:Nat))) (prP x)=B0 at *;refine aD (aA (aF (sgh [(0,.row i (bL x))] rfl (aC mixed (ak 2 [] rfl (kc hc ?_))))));refine ak 4 [] rfl (kc M ?_);exact kz 3 rfl (agN [] rfl ⟨i+1,y,by dsimp only;omega,sl (he:=⟨by rw[←B];rfl,rfl,rfl,rfl,trivial⟩)⟩)
  ·have Y:=geD hb u E;subst Y;rw[Ax];exact aH (sg rfl (aE rtT))
mutual
def esz:Ex→Nat
 | .mk _ _ _ _ ks _ bs _=>aCu ks+aN3 bs+1
def aCu:List Ex→Nat
 | []=>0
 | e::l=>esz e+aCu l
def bsz:Bd→Nat
 | .mk _ _ _ _ e=>esz e+1
def aN3:List Bd→Nat
 | []=>0
 | b::l=>bsz b+aN3 l
end
theorem aAi:∀{l:List Ex}{p:Ex},p∈l→esz p≤aCu l
 | [],p,h=>by cases h
 | a::l,p,h=>by
  rw[aCu];rcases Au.1 h with rfl | h
  ·omega
  ·have:=aAi h;omega
theorem aAu:∀{l:List Bd}{p:Bd},p∈l→bsz p≤aN3 l
 | [],p,h=>by cases h
 | a::l,p,h=>by
  rw[aN3];rcases Au.1 h with rfl | h
  ·omega
  ·have:=aAu h;omega
theorem rQ:∀{l:List Ex},pT l→∀p∈l,oJ p
 | a::l,h,p,hp=>by
  rcases Au.1 hp with rfl | hp
  ·exact h.1
  ·exact rQ h.2 p hp
theorem aAn {s:Sch}(h:SchOk s):b9 Tryz.prog 44 [.pa (fH s),.pa (fH s)] [] (B true) []:=
 aPp s h.t.2 (fun p hp=>(h.p p hp).2) (by have:=h.l;omega) (by have:=h.v;omega)
def aDx (k:Nat):Prop:=∀e:Ex,esz e≤k→oJ e→b9 Tryz.prog 103 [.pa (bU e),.pa (bU e)] [] (B true) []
def aKw (k:Nat):Prop:=∀l:List Bd,l.length≤100000→aN3 l≤k→eV l→b9 Tryz.prog 46 [.one (.c (.sl 33 (fB l))),.one (.c (.sl 33 (fB l)))] [] (B true) []
theorem rW {k:Nat}(E:aDx k):aKw (k+1):=by
 intro l hl O hB;have B:(fB l).length=l.length:=by rw[fN,η]
 have d0:=kO ((fB l).length:Int);refine bP (n:=107) tok Tryz.func46 rfl rfl rfl ?_;refine sg rfl (aA (sg rfl (aB rfl (fun hb=>absurd (hb.symm.trans d0) Bool.noConfusion) (fun _=>aD (aA (sg rfl (aF (aK (fun i:Nat=>mk [(0,.one (.c (.sl 33 (fB l)))),(1,.one (.c (.sl 33 (fB l)))),(5,I .i64 (i:Nat))] []) (fun i=>i≤l.length) (fun i=>l.length-i) 0 (ε _) sl ?_))))))));intro i hi;refine aA (sg rfl (aB rfl (fun hb=>?_) (fun hb=>?_)))
 ·have r:=ltD hb B;obtain⟨b,u⟩:=aL r;have M:(fB l)[i]?=some (b8 b):=by rw[fN];exact aT b8 u
  have hm:=τ u;have y:=iP.1 hB b hm;have hsz:=aAu hm;obtain⟨nm,pl,has,q,e⟩:=b;rw[bsz] at hsz;have hs:=aAn y.1;have J:=aAn SchOk.z;have he:=E e (by omega) y.2;have d1:=kO nm;have d2:=kO pl;have d3:=kO has;have d4:=kO (0:Int);refine aD (aA (aF (aA (sgh [(11,.bv false),(23,.bv false),(24,.bv false),(36,.bv false),(37,.bv false),(49,.bv false),(2,.row i (b8 (.mk nm pl has q e))),(7,.row i (b8 (.mk nm pl has q e))),(14,.row i (b8 (.mk nm pl has q e))),(19,.row i (b8 (.mk nm pl has q e))),(27,.row i (b8 (.mk nm pl has q e))),(32,.row i (b8 (.mk nm pl has q e))),(40,.row i (b8 (.mk nm pl has q e))),(45,.row i (b8 (.mk nm pl has q e)))] rfl (aB rfl (fun hb=>Bool.noConfusion hb) (fun _=>aD (skh 10 [(12,.bv false),(25,.bv false),(26,.bv false),(39,.bv false),(2,.row i (b8 (.mk nm pl has q e))),(7,.row i (b8 (.mk nm pl has q e)))] rfl (kc hs ?_))))))));refine ak 12 [(12,.bv false),(25,.bv false),(26,.bv false),(39,.bv false),(15,.row i (b8 (.mk nm pl has q e))),(20,.row i (b8 (.mk nm pl has q e)))] rfl (kcG J ?_);refine ak 13 [(12,.bv false),(25,.bv false),(26,.bv false),(39,.bv false),(29,.row i (b8 (.mk nm pl has q e))),(34,.row i (b8 (.mk nm pl has q e)))] rfl (kcG he ?_);exact ak 2 [(12,.bv false),(25,.bv false),(26,.bv false),(39,.bv false)] rfl (az (aB rfl (fun hb=>Bool.noConfusion hb) (fun _=>aD (agN [] rfl ⟨i+1,r,by dsimp only;omega,sl⟩))))
 ·exact aH (sg rfl (aE rtT))
theorem aJl {k:Nat}(hE:aDx k) (u:aKw k):aDx (k+1):=by
 intro x hk hB;have B:∃y,y=x:=⟨x,rfl⟩
 obtain⟨f,pl,n,s,ks,ps,bs,q⟩:=x;obtain⟨y,hy⟩:=B;rw[esz] at hk;obtain⟨⟨hl1,hl2,hl3⟩,E,_,J,M,O⟩:=hB;have hs:=aAn E;have U:=u bs (by omega) (by omega) O;have Y:(pU (.mk f pl n s ks ps bs q)).length=ks.length:=by rw[mG,η];rfl
 have aa:(ps.map bL).length=ps.length:=η _;have d1:=kO f;have d2:=kO pl;have d3:=kO n;have d4:=kO s;have d5:=kO ((pU (.mk f pl n s ks ps bs q)).length:Int);have d6:=kO ((ps.map bL).length:Int);have d7:=kO ((([]:List (List C)).length:Nat):Int);refine bP (n:=130) tok Tryz.func103 rfl rfl rfl ?_;refine sg rfl (aA (sgh [(5,.bv false),(11,.bv false),(12,.bv false),(18,.bv false),(19,.bv false),(25,.bv false),(26,.bv false),(34,.bv false),(35,.bv false),(43,.bv false),(44,.bv false),(52,.bv false)] rfl (aB rfl (fun hb=>Bool.noConfusion (hb.symm.trans d7)) (fun _=>aD (aA (sg rfl (aF (aK (fun _:Nat=>mk [(2,.one (.vp 2 0)),(3,.one (.vp 3 0)),(5,I .i64 0)] [(2,.var 61 ((bU (.mk f pl n s ks ps bs q)).map .c)),(3,.var 61 ((bU (.mk f pl n s ks ps bs q)).map .c))]) (fun _=>True) (fun _=>0) 0 trivial sl ?_))))))))
 ·intro i _;refine aA (sg rfl (aB rfl (fun hb=>absurd hb (by decide)) (fun _=>aH (aA (sg rfl (aF (aK (fun i:Nat=>mk [(2,.one (.vp 2 0)),(3,.one (.vp 3 0)),(6,I .i64 (i:Nat))] [(2,.var 61 ((bU (.mk f pl n s ks ps bs q)).map .c)),(3,.var 61 ((bU (.mk f pl n s ks ps bs q)).map .c))]) (fun i=>i≤ks.length) (fun i=>ks.length-i) 0 (ε _) sl ?_)))))));intro i hi;refine aA (sg rfl (aB rfl (fun hb=>?_) (fun hb=>?_)))
  ·have r:=ltD hb Y;obtain⟨x,hx⟩:=aL r;have ab:(pU (.mk f pl n s ks ps bs q))[i]?=some (bU x):=by rw[mG];exact aT bU hx
   have hm:=τ hx;have hc:=hE x (by have:=aAi hm;omega) (rQ M x hm);refine aD (aA (aF (skh 10 [(3,.row i (bU x)),(8,.row i (bU x))] rfl (kc hc ?_))));exact kz 1 rfl (aB rfl (fun hb=>Bool.noConfusion hb) (fun _=>aD (agN [] rfl ⟨i+1,r,by dsimp only;omega,sl⟩)))
  refine aH (aA (sg rfl (aF (aK (fun i:Nat=>mk [(2,.one (.vp 2 0)),(3,.one (.vp 3 0)),(7,I .i64 (i:Nat))] [(2,.var 61 ((bU (.mk f pl n s ks ps bs q)).map .c)),(3,.var 61 ((bU (.mk f pl n s ks ps bs q)).map .c))]) (fun i=>i≤ps.length) (fun i=>ps.length-i) 0 (ε _) sl ?_))));intro i hi;refine aA (sg rfl (aB rfl (fun hb=>?_) (fun hb=>?_)))
  ·have r:=ltD hb aa;obtain⟨x,hx⟩:=aL r;have ab:=aT bL hx;have hm:=τ hx;have hc:=xZ (psz x) x (le_refl _) (lZ J x hm);refine aD (aA (aF (skh 10 [(3,.row i (bL x)),(8,.row i (bL x))] rfl (kc hc ?_))));exact kz 1 rfl (aB rfl (fun hb=>Bool.noConfusion hb) (fun _=>aD (agN [] rfl ⟨i+1,r,by dsimp only;omega,sl⟩)))
  refine aH (sk 4 rfl (kc U ?_));refine ak 5 [(5,.bv true),(11,.bv true)] rfl (kcG hs ?_);exact ak 2 [(5,.bv true),(11,.bv true)] rfl (az (aE rtT))
theorem pZ:∀k,aDx k∧aKw k
 | 0=>⟨fun e h=>by cases e;rw[esz] at h;omega,fun l hl h hB=>by
   cases l with
   | nil=>exact rW (k:=0) (fun e h=>by cases e;rw[esz] at h;omega) [] hl (ε _) hB
   | cons b l=>cases b;rw[aN3,bsz] at h;omega⟩
 | k+1=>⟨aJl (pZ k).1 (pZ k).2,rW (pZ k).1⟩
theorem pM (l:List Bd) (hl:l.length≤100000) (hB:eV l):b9 Tryz.prog 46 [.one (.c (.sl 33 (l.map b8))),.one (.c (.sl 33 (l.map b8)))] [] (B true) []:=by
 rw[←fN];exact(pZ (aN3 l)).2 l hl (le_refl _) hB
def vM:Str:=[32,58,32]
def eqP:Str:=[32,61,32]
def aXz:Str:=[108,101,116,32]
def inP:Str:=[32,105,110,32]
def aX8:Str:=[99,97,115,101,32]
def ofP:Str:=[32,111,102,32]
def aX0:Str:=[92,32]
def opn (f:Int):Bool:=decide (f=5) || (decide (f=6) || (decide (f=7) || decide (f=8)))
def aIl:List (Int×Str)→Str
 | []=>[]
 | x::_=>x.2
def a0g:List (Int×Str)→Str
 | a::b::_=>brk (opn a.1) a.2++[32]++brk (opn b.1 || decide (b.1=4)) b.2
 | _=>[]
def aZz:List (Int×Str)→Str
 | []=>[]
 | a::_=>brk (opn a.1) a.2
def mQ:List Pt→List (Int×Str)→List Str
 | p::ps,x::xs=>(prP p++arrS++x.2)::mQ ps xs
 | _,_=>[]
mutual
def prE:Ex→Str
 | .mk f _ n s ks ps bs g=>
  if f=3 then aX5 n
  else if f=4 then a0g (gR ks)
  else if f=5 then aX0++Lib.join (ps.map prP) [32]++arrS++aIl (gR ks)
  else if f=6 then aXz++aN5 (mU bs)++inP++aIl (gR ks)
  else if f=7 then aX8++aIl (gR ks)++ofP++aN5 (mQ ps (gR ks).tail)
  else if f=8 then aZz (gR ks)++vM++vW g
  else s
def gR:List Ex→List (Int×Str)
 | []=>[]
 | e::l=>(e.form,prE e)::gR l
def prB:Bd→List Str
 | .mk s _ h g e=>(if h=true then [s++vM++vW g] else [])++[s++eqP++prE e]
def mU:List Bd→List Str
 | []=>[]
 | b::l=>prB b++mU l
end
mutual
def exP:Ex→Prop
 | .mk _ _ n _ ks ps bs g=>aEp n∧sC ps∧SchP g∧aX3 ks∧aXc bs
def aX3:List Ex→Prop
 | []=>True
 | e::l=>exP e∧aX3 l
def bdP:Bd→Prop
 | .mk _ _ _ g e=>SchP g∧exP e
def aXc:List Bd→Prop
 | []=>True
 | b::l=>bdP b∧aXc l
end
mutual
def exW:Ex→Nat
 | .mk _ _ _ s ks ps bs g=>s.length+64+wI ps+yU ks+aS1 bs+2*aTk g
def yU:List Ex→Nat
 | []=>0
 | e::l=>exW e+yU l
def bdW:Bd→Nat
 | .mk s _ _ g e=>2*s.length+32+2*aTk g+exW e
def aS1:List Bd→Nat
 | []=>0
 | b::l=>bdW b+aS1 l
end
theorem uQ:∀{l:List Ex},aX3 l→∀p∈l,exP p
 | a::l,h,p,hp=>by
  rcases Au.1 hp with rfl | hp
  ·exact h.1
  ·exact uQ h.2 p hp
theorem aDn:∀{l:List Bd},aXc l→∀p∈l,bdP p
 | a::l,h,p,hp=>by
  rcases Au.1 hp with rfl | hp
  ·exact h.1
  ·exact aDn h.2 p hp
theorem aCt:∀{l:List Ex}{p:Ex},p∈l→exW p≤yU l
 | a::l,p,h=>by
  rw[yU];rcases Au.1 h with rfl | h
  ·omega
  ·have:=aCt h;omega
theorem aDm:∀{l:List Bd}{p:Bd},p∈l→bdW p≤aS1 l
 | a::l,p,h=>by
  rw[aS1];rcases Au.1 h with rfl | h
  ·omega
  ·have:=aDm h;omega
theorem aBt:∀l:List Pt,wI l=(l.map ptW).sum
 | []=>rfl
 | p::l=>by rw[wI,Ar,Cd,aBt l]
theorem u7 {l:List Pt}(h:sC l):(Lib.join (l.map prP) [32]).length≤wI l:=by
 have h1:=join_le [32] (l.map prP);rw[map_map,η,show([32]:Str).length=1 from rfl] at h1;have h2:=aGc (fun p=>(prP p).length+3) ptW l fun p hp=>wM p (iD h p hp)
 have r:(l.map fun p=>(prP p).length+3).sum=(l.map ((fun s:Str=>s.length)∘prP)).sum+3*l.length:=by
  clear h h1 h2
  induction l with
  | nil=>rfl
  | cons p l q=>
   rw[Ar,Ar,Cd,Cd,q,χ];show(prP p).length+3+_=(prP p).length+_+_;omega
 rw[aBt];omega
theorem aDj (l:List Str):(aN5 l).length≤(l.map (fun s:Str=>s.length)).sum+3*l.length+4:=by
 have h:=join_le [32,59,32] l;rw[show([32,59,32]:Str).length=3 from rfl] at h;unfold aN5;split
 ·show 3≤_;omega
 ·rw[θ,θ,show([123,32]:Str).length=2 from rfl,show([32,125]:Str).length=2 from rfl];omega
def kW (l:List (Int×Str)):Nat:=(l.map fun x=>x.2.length+8).sum
theorem aRn (l:List (Int×Str)):(aIl l).length≤kW l:=by
 cases l with
 | nil=>exact ε _
 | cons x l=>unfold kW;rw[Ar,Cd];show x.2.length≤_;omega
theorem aKs:∀(ps:List Pt) (xs:List (Int×Str)),sC ps→((mQ ps xs).map (fun s:Str=>s.length)).sum+3*(mQ ps xs).length≤wI ps+kW xs
 | [],xs,_=>by cases xs<;>exact ε _
 | p::ps,[],_=>ε _
 | p::ps,x::xs,h=>by
  have h1:=aKs ps xs h.2;have h2:=wM p h.1;rw[mQ,Ar,Cd,χ,wI];unfold kW at h1 ⊢;rw[Ar,Cd,θ,θ,show arrS.length=4 from rfl];omega
mutual
theorem lE:∀e:Ex,exP e→(prE e).length+8≤exW e
 | .mk f pl n s ks ps bs g,h=>by
  obtain⟨hn,hp,q,r,hb⟩:=h;have h1:=zN ks r;have h2:=zP bs hb;have u:=u7 hp;have y:=aBj q;have B:=aC0 hn;have E:=aDj (mU bs);have I:=aDj (mQ ps (gR ks).tail);have J:=aKs ps (gR ks).tail hp;have M:=aRn (gR ks);rw[prE,exW];split
  ·omega
  split
  ·clear h2 u y B E I J M;generalize gR ks=l at h1;unfold kW at h1
   match l,h1 with
   | [],_=>show 0+8≤_;omega
   | [_],_=>show 0+8≤_;omega
   | a::b::l,h1=>
    have O:=eJ (opn a.1) a.2;have U:=eJ (opn b.1 || decide (b.1=4)) b.2;rw[Ar,Ar,Cd,Cd] at h1;rw[a0g,θ,θ,χ,length_nil];omega
  split
  ·rw[θ,θ,θ,show aX0.length=2 from rfl,show arrS.length=4 from rfl];omega
  split
  ·rw[θ,θ,θ,show aXz.length=4 from rfl,show inP.length=4 from rfl];omega
  split
  ·have ht:kW (gR ks).tail+(aIl (gR ks)).length≤kW (gR ks):=by
    cases gR ks with
    | nil=>exact le_refl _
    | cons x l=>unfold kW;rw[Ar,Cd];show _+x.2.length≤_;rw[List.tail_cons];omega
   rw[θ,θ,θ,show aX8.length=5 from rfl,show ofP.length=4 from rfl];omega
  split
  ·have ha:(aZz (gR ks)).length≤kW (gR ks)+2:=by
    cases gR ks with
    | nil=>exact ε _
    | cons x l=>
     have:=eJ (opn x.1) x.2;unfold kW;rw[Ar,Cd,aZz];omega
   rw[θ,θ,show vM.length=3 from rfl];omega
  ·omega
theorem zN:∀l:List Ex,aX3 l→kW (gR l)≤yU l
 | [],_=>le_refl _
 | e::l,h=>by
  have h1:=lE e h.1;have h2:=zN l h.2;rw[gR,yU];unfold kW at h2 ⊢;rw[Ar,Cd];dsimp only;omega
theorem aU8:∀b:Bd,bdP b→((prB b).map (fun s:Str=>s.length)).sum+3*(prB b).length≤bdW b
 | .mk s pl h g e,hb=>by
  have h1:=lE e hb.2;have h2:=aBj hb.1;rw[prB,bdW];cases h with
  | true=>
   rw[ζ rfl];simp only[Ad,Ak,Ar,Ch,Cd,List.sum_nil,χ,length_nil,θ,show vM.length=3 from rfl,show eqP.length=3 from rfl];omega
  | false=>
   rw[ξ ω];simp only[Ak,Ar,Ch,Cd,List.sum_nil,χ,length_nil,θ,show eqP.length=3 from rfl];omega
theorem zP:∀l:List Bd,aXc l→((mU l).map (fun s:Str=>s.length)).sum+3*(mU l).length≤aS1 l
 | [],_=>le_refl _
 | b::l,h=>by
  have h1:=aU8 b h.1;have h2:=zP l h.2;rw[mU,aS1,Al,List.sum_append,θ];omega
end
theorem aB1:∀(l m:List Bd),mU (l++m)=mU l++mU m
 | [],m=>by rw[mU];rfl
 | b::l,m=>by rw[Ad,mU,mU,aB1 l m,Ae]
theorem aAq (e:Ex):b9 Tryz.prog 70 [.pa (bU e)] [] (B (opn e.form)) []:=by
 unfold opn;refine bP (n:=21) tok Tryz.func70 rfl rfl rfl ?_;refine sg rfl ?_;by_cases q:e.form=5
 ·have d5:decide (e.form=5)=true:=φ q;rw[d5,B4];exact sgh [(3,.bv true),(7,.bv true),(8,.bv true),(12,.bv true),(13,.bv true),(17,.bv true)] rfl (aE rtT)
 have d5:decide (e.form=5)=false:=ψ q;by_cases r:e.form=6
 ·have d6:decide (e.form=6)=true:=φ r;rw[d5,d6,A9,B4];exact sgh [(3,.bv false),(7,.bv false),(8,.bv true),(12,.bv true),(13,.bv true),(17,.bv true)] rfl (aE rtT)
 have d6:decide (e.form=6)=false:=ψ r;by_cases u:e.form=7
 ·have d7:decide (e.form=7)=true:=φ u;rw[d5,d6,d7,A9,A9,B4];exact sgh [(3,.bv false),(7,.bv false),(8,.bv false),(12,.bv false),(13,.bv true),(17,.bv true)] rfl (aE rtT)
 have d7:decide (e.form=7)=false:=ψ u;rw[d5,d6,d7,A9,A9,A9];exact sgh [(3,.bv false),(7,.bv false),(8,.bv false),(12,.bv false),(13,.bv false),(17,.bv false)] rfl (aE rtT)
theorem aAp (l:List Pt) (E:sC l) (hB:wJ l) (hl:l.length≤4002) (hW:wI l≤400000000):b9 Tryz.prog 71 [.one (.c (.sl 10 (l.map bL)))] [] (Go.AM.T (Lib.join (l.map prP) [32])) []:=by
 have hM:3000000000≤maxLen:=by decide
 have J:(l.map bL).length=l.length:=η _;refine bP (n:=20) tok Tryz.func71 rfl rfl rfl ?_;refine sg rfl (sg rfl (AWp.sub (Sub.own (t:=3) (id:=500) 9 1 rfl rfl) ?_));refine aA (sg rfl (aF (aK (fun i:Nat=>mk [(3,.one (.hs 500 0 (l.take i).length (l.take i).length)),(6,.one (.c (.sl 10 (l.map bL)))),(7,I .i64 ((l.map bL).length:Nat)),(8,I .i64 (i:Nat))] [(500,.arr 9 1 (((l.take i).map prP).map b7) 0)]) (fun i=>i≤l.length) (fun i=>l.length-i) 0 (ε _) sl ?_)));intro i hi;have O:(l.take i).length=i:=by rw[An];omega
 refine sg rfl (aA (aB rfl (fun hb=>?_) (fun hb=>?_)))
 ·have q:=ltD hb J;obtain⟨p,hp⟩:=aL q;have U:=aT bL hp;have hm:=τ hp;have Y:=qB hm;have hc:=nD (psz p) p (le_refl _) (iD E p hm) (lZ hB p hm) (by omega);have r:(((l.take i).map prP).map b7).length=(l.take i).length:=by rw[η,η]
  have u:l.take (i+1)=l.take i++[p]:=dH hp;have y:(l.take (i+1)).length=(l.take i).length+1:=by rw[u,θ];rfl
  have B:(((l.take i).map prP).map b7)++[[.str (prP p)]]=((l.take (i+1)).map prP).map b7:=by rw[u,Al,Al];rfl
  refine aD (aA (aF (sgh [(0,.row i (bL p))] rfl (aC mixed (ak 2 [] rfl (kc hc ?_))))));exact ak 3 [(3,.all)] rfl (az (agN [] rfl ⟨i+1,q,by dsimp only;omega,sl (he:=⟨Go.AM.hs_ren (by rw[y,←r];rfl) (by rw[y,←r];rfl),rfl,rfl,rfl,trivial⟩) (hh:=⟨⟨_,rfl,.arrS B⟩,trivial⟩)⟩))
 ·have M:=geD hb J hi;subst M;refine aH ?_;rw[Ax];have aa:=u7 E;have hj:=aJq (l.map prP) [32] (by rw[η];omega) (by omega);have ab:((l.map prP).map b7).length=l.length:=by rw[η,η]
  refine AWp.sub (Sub.freeze (id:=500) rfl) ?_;refine AWp.sub (st2:=mk [(3,cJ (l.map prP))] []) ?_ ?_
  ·refine Sub.trans ?_ (cv 3 ((l.map prP).map b7));exact sl
  refine sk 1 rfl (kc hj ?_);exact kz 1 rfl (aE rtT)
def PES (k:Nat):Prop:=∀e:Ex,esz e≤k→exP e→oJ e→exW e≤400000000→b9 Tryz.prog 28 [.pa (bU e)] [] (Go.AM.T (prE e)) []
def PBS (k:Nat):Prop:=∀l:List Bd,l.length≤4002→aN3 l≤k→aXc l→eV l→aS1 l≤400000000→b9 Tryz.prog 59 [.one (.c (.sl 33 (fB l)))] [] (cJ (mU l)) []
theorem u6:∀l:List Bd,(mU l).length≤2*l.length
 | []=>le_refl _
 | .mk s pl h g e::l=>by
  have:=u6 l;rw[mU,prB,θ,θ,χ,χ,length_nil];split
  ·rw[χ,length_nil];omega
  ·rw[length_nil];omega
theorem aDg {k:Nat}(hE:PES k):PBS (k+1):=by
 intro l hl hk hP hB hW;have hM:3000000000≤maxLen:=by decide
 have Y:(fB l).length=l.length:=by rw[fN,η]
 refine bP (n:=36) tok Tryz.func59 rfl rfl rfl ?_;refine sg rfl (sg rfl (AWp.sub (Sub.own (t:=3) (id:=500) 9 1 rfl rfl) ?_));refine aA (sg rfl (aF (aK (fun i:Nat=>mk [(3,.one (.hs 500 0 (mU (l.take i)).length (mU (l.take i)).length)),(6,.one (.c (.sl 33 (fB l)))),(7,I .i64 ((fB l).length:Nat)),(8,I .i64 (i:Nat))] [(500,.arr 9 1 ((mU (l.take i)).map b7) 0)]) (fun i=>i≤l.length) (fun i=>l.length-i) 0 (ε _) sl ?_)));intro i hi;have hti:(l.take i).length=i:=by rw[An];omega
 have aa:=u6 (l.take i);refine sg rfl (aA (aB rfl (fun hb=>?_) (fun hb=>?_)))
 ·have E:=ltD hb Y;obtain⟨b,J⟩:=aL E;have hx':(fB l)[i]?=some (b8 b):=by rw[fN];exact aT b8 J
  have hm:=τ J;have ab:=iP.1 hB b hm;have y:=aDn hP b hm;have hsz:=aAu hm;have ac:=aDm hm;have ad:l.take (i+1)=l.take i++[b]:=dH J;obtain⟨nm,pl,has,q,e⟩:=b;have hnm:List.length (Bd.name (.mk nm pl has q e))=nm.length:=rfl;rw[bsz] at hsz;rw[bdW] at ac;have hs:=tD y.1 (by omega);have hsl:=aBj y.1;have he:=hE e (by omega) y.2 ab.2 (by omega);have hel:=lE e y.2;have r:mU (l.take (i+1))=mU (l.take i)++prB (.mk nm pl has q e):=by rw[ad,aB1,mU,mU,A3]
  have hc3:vM.length=3:=rfl;have hq3:eqP.length=3:=rfl;generalize mU (l.take i)=P at aa r;have B:(P.map b7).length=P.length:=η _;refine aD (aA (aF (sgh [(0,.row i (b8 (.mk nm pl has q e)))] rfl (aA (sg rfl ?_)))));cases has with
  | true=>
   refine aB rfl (fun _=>aC mixed (ak 6 [] rfl (kc hs ?_))) nofun;refine ak 4 [(8,.all)] rfl (az ?_);have u:(P.map b7)++[[.str (nm++vM++vW q)]]=(P++[nm++vM++vW q]).map b7:=by rw[Al];rfl
   have hle:(P++[nm++vM++vW q]).length=P.length+1:=by rw[θ];rfl
   have U:((P++[nm++vM++vW q]).map b7)++[[.str (nm++eqP++prE e)]]=(mU (l.take (i+1))).map b7:=by rw[r,prB,ζ rfl,←Ae];simp[b7]
   have M:(mU (l.take (i+1))).length=(P++[nm++vM++vW q]).length+1:=by rw[r,prB,ζ rfl,←Ae];simp
   have O:((P++[nm++vM++vW q]).map b7).length=(P++[nm++vM++vW q]).length:=η _;refine AWp.sub (st2:=mk [(3,.one (.hs 500 0 (P++[nm++vM++vW q]).length (P++[nm++vM++vW q]).length)),(5,.one (.vp 5 0)),(6,.one (.c (.sl 33 (fB l)))),(7,I .i64 ((fB l).length:Nat)),(8,I .i64 (i:Nat))] [(500,.arr 9 1 ((P++[nm++vM++vW q]).map b7) 0),(5,.var 99 ((b8 (.mk nm pl true q e)).map .c))]) (sl (he:=⟨Go.AM.hs_ren (by rw[hle,←B];rfl) (by rw[hle,←B];rfl),rfl,rfl,rfl,rfl,trivial⟩) (hh:=⟨⟨_,rfl,.arrS u⟩,⟨_,rfl,.var rfl⟩,trivial⟩)) ?_;generalize P++[nm++vM++vW q]=P2 at *;refine aC mixed (ak 6 [] rfl (kc he ?_));exact ak 4 [(8,.all)] rfl (az (agN [] rfl ⟨i+1,E,by dsimp only;omega,sl (he:=⟨Go.AM.hs_ren (by rw[M,←O];rfl) (by rw[M,←O];rfl),rfl,rfl,rfl,trivial⟩) (hh:=⟨⟨_,rfl,.arrS U⟩,trivial⟩)⟩))
  | false=>
   refine aB rfl nofun (fun _=>aD (aC mixed (ak 6 [] rfl (kc he ?_))));refine ak 4 [(8,.all)] rfl (az ?_);have u:(P.map b7)++[[.str (nm++eqP++prE e)]]=(mU (l.take (i+1))).map b7:=by rw[r,prB,ξ ω,Ak,Al];rfl
   have hle:(mU (l.take (i+1))).length=P.length+1:=by rw[r,prB,ξ ω,Ak,θ];rfl
   exact agN [] rfl ⟨i+1,E,by dsimp only;omega,sl (he:=⟨Go.AM.hs_ren (by rw[hle,←B];rfl) (by rw[hle,←B];rfl),rfl,rfl,rfl,trivial⟩) (hh:=⟨⟨_,rfl,.arrS u⟩,trivial⟩)⟩
 ·have ae:=geD hb Y hi;subst ae;refine aH ?_;rw[Ax];refine sg rfl (AWp.sub (Sub.freeze (id:=500) rfl) ?_);exact aE (rtH (hsz:=(η _).symm) (hlen:=(η _).symm))
theorem yO:∀(ps:List Pt) (xs:List (Int×Str)) (i:Nat) (p:Pt) (x:Int×Str),ps[i]?=some p→xs[i]?=some x→mQ (ps.take (i+1)) xs=mQ (ps.take i) xs++[prP p++arrS++x.2]
 | [],_,i,_,_,h,_=>by cases h
 | _::_,[],i,_,_,_,h=>by cases h
 | p::ps,x::xs,0,q,r,h,h'=>by
  injection h with h;injection h' with h';subst h;subst h';rw[A5,take_zero,mQ,take_zero];cases xs<;>(simp[mQ])
 | p::ps,x::xs,i+1,q,r,h,h'=>by
  rw[A5,A5,mQ,mQ,yO ps xs i q r h h'];rfl
theorem aB0:∀{l:List Ex}{i:Nat}{e:Ex},l[i]?=some e→(gR l)[i]?=some (e.form,prE e)
 | _::_,0,_,h=>by injection h with h;subst h;rw[gR];rfl
 | _::l,i+1,e,h=>by rw[gR];exact aB0 (l:=l) (i:=i) h
theorem vD:∀(ps:List Pt) (xs:List (Int×Str)),ps.length≤xs.length→(mQ ps xs).length=ps.length
 | [],xs,_=>by cases xs<;>simp[mQ]
 | p::ps,[],h=>by rw[χ,length_nil] at h;omega
 | p::ps,x::xs,h=>by rw[mQ,χ,χ,vD ps xs (by rw[χ,χ] at h;omega)]
theorem aBz:∀l:List Ex,(gR l).length=l.length
 | []=>rfl
 | _::l=>by rw[gR,χ,χ,aBz l]
theorem aNh {k:Nat}(E:PES k) (hBS:PBS k):PES (k+1):=by
 intro x hk hP hO hW;obtain⟨f,pl,n,s,ks,ps,bs,g⟩:=x;have hM:3000000000≤maxLen:=by decide
 have q:=lE _ hP;have hx0:∃X,X=Ex.mk f pl n s ks ps bs g:=⟨_,rfl⟩
 obtain⟨X,hX⟩:=hx0;rw[esz] at hk;rw[exW] at hW q;obtain⟨hn,y,hg,r,hbp⟩:=hP;obtain⟨⟨hl1,hl2,hl3⟩,hsg,⟨ar1,ar2,ar3⟩,hps,u,hbs⟩:=hO;refine bP (n:=124) tok Tryz.func28 rfl rfl rfl ?_;refine sg rfl (aA (sg rfl (aF (sg rfl ?_))));rw[prE] at q ⊢;by_cases h3:f=3
 ·have d3:decide (f=3)=true:=φ h3;rw[ζ h3];have hi:=aJr hn;refine aB rfl (fun _=>sk 2 rfl (kc hi ?_)) (fun hb=>Bool.noConfusion (hb.symm.trans d3));exact kz 1 rfl (aE rtT)
 have d3:decide (f=3)=false:=ψ h3;rw[ξ h3] at q ⊢;refine aB rfl (fun hb=>Bool.noConfusion (hb.symm.trans d3)) (fun _=>sg rfl ?_);by_cases h4:f=4
 ·have d4:decide (f=4)=true:=φ h4;rw[ζ h4] at q ⊢;have h2:=ar1 h4
  match ks,h2 with
  | [a,b],_=>
   rw[aCu,aCu,aCu] at hk;rw[yU,yU,yU] at hW q;have ha:=E a (by omega) r.1 u.1 (by omega);have hb:=E b (by omega) r.2.1 u.2.1 (by omega);have la:=lE a r.1;have lb:=lE b r.2.1;have M:=aAq a;have O:=aAq b;have U:=fQ (prE a) (opn a.form) (by omega);have lba:=eJ (opn a.form) (prE a);show AWp _ _ _ _ _ _ (nG _ (aT0 _ _ _ _ _ fun ex st=>(ex=.normal∨ex=.ret)∧Fin _ _ st _ (Go.AM.T (brk (opn a.form) (prE a)++[32]++brk (opn b.form || decide (b.form=4)) (prE b))) _));refine aB rfl (fun _=>sgh [(2,.row 0 (bU a)),(6,.row 1 (bU b))] rfl ?_) (fun hb=>Bool.noConfusion (hb.symm.trans d4));cases hop:opn b.form with
   | true=>
    rw[hop] at O;rw[B4];have hbb:=fQ (prE b) true (by omega);have lbb:=eJ true (prE b);generalize brk (opn a.form) (prE a)=A at *;generalize brk true (prE b)=B0 at *;refine sk 1 rfl (kc ha ?_);refine ak 1 [] rfl (kc M ?_);refine kc U ?_;refine ak 2 [] rfl (kc hb ?_);refine ak 1 [] rfl (kc O ?_);refine ak 5 [(10,.bv true),(14,.bv true)] rfl (kc hbb ?_);exact kz 2 rfl (aE rtT)
   | false=>
    rw[hop] at O;rw[A9];have hbb:=fQ (prE b) (decide (b.form=4)) (by omega);have lbb:=eJ (decide (b.form=4)) (prE b);generalize brk (opn a.form) (prE a)=A at *;generalize brk (decide (b.form=4)) (prE b)=B0 at *;refine sk 1 rfl (kc ha ?_);refine ak 1 [] rfl (kc M ?_);refine kc U ?_;refine ak 2 [] rfl (kc hb ?_);refine ak 1 [] rfl (kc O ?_);refine ak 5 [(10,.bv false),(14,.bv false)] rfl (kc hbb ?_);exact kz 2 rfl (aE rtT)
 have d4:decide (f=4)=false:=ψ h4;rw[ξ h4] at q ⊢;refine aB rfl (fun hb=>Bool.noConfusion (hb.symm.trans d4)) (fun _=>sg rfl ?_);by_cases h5:f=5
 ·have d5:decide (f=5)=true:=φ h5;rw[ζ h5] at q ⊢;have h2:=ar2 (.inl h5)
  match ks,h2 with
  | [a],_=>
   rw[aCu,aCu] at hk;rw[yU,yU] at hW q;have ha:=E a (by omega) r.1 u.1 (by omega);have la:=lE a r.1;have hpt:=aAp ps y hps hl2 (by omega);have lpt:=u7 y;have l2:aX0.length=2:=rfl;have l4:arrS.length=4:=rfl;show AWp _ _ _ _ _ _ (nG _ (aT0 _ _ _ _ _ fun ex st=>(ex=.normal∨ex=.ret)∧Fin _ _ st _ (Go.AM.T (aX0++Lib.join (ps.map prP) [32]++arrS++prE a)) _));generalize Lib.join (ps.map prP) [32]=J at *;refine aB rfl (fun _=>sk 2 rfl (kc hpt ?_)) (fun hb=>Bool.noConfusion (hb.symm.trans d5));refine ak 6 [(7,.row 0 (bU a))] rfl (kc ha ?_);exact kz 2 rfl (aE rtT)
 have d5:decide (f=5)=false:=ψ h5;rw[ξ h5] at q ⊢;refine aB rfl (fun hb=>Bool.noConfusion (hb.symm.trans d5)) (fun _=>sg rfl ?_);by_cases h6:f=6
 ·have d6:decide (f=6)=true:=φ h6;rw[ζ h6] at q ⊢;have h2:=ar2 (.inr (.inl h6))
  match ks,h2 with
  | [a],_=>
   rw[aCu,aCu] at hk;rw[yU,yU] at hW q;have ha:=E a (by omega) r.1 u.1 (by omega);have la:=lE a r.1;have hbd:=hBS bs hl3 (by omega) hbp hbs (by omega);have lbn:=u6 bs;have lbw:=zP bs hbp;have lbj:=join_le [32,59,32] (mU bs);rw[show([32,59,32]:Str).length=3 from rfl] at lbj;have hbk:=aDf (mU bs) (by omega) (by omega);have lbk:=aDj (mU bs);have l2:aXz.length=4:=rfl;have l4:inP.length=4:=rfl;show AWp _ _ _ _ _ _ (nG _ (aT0 _ _ _ _ _ fun ex st=>(ex=.normal∨ex=.ret)∧Fin _ _ st _ (Go.AM.T (aXz++aN5 (mU bs)++inP++prE a)) _));generalize aN5 (mU bs)=J at *;refine aB rfl (fun _=>sk 2 rfl (kc hbd ?_)) (fun hb=>Bool.noConfusion (hb.symm.trans d6));refine kc hbk ?_;refine ak 6 [(8,.row 0 (bU a))] rfl (kc ha ?_);exact kz 2 rfl (aE rtT)
 have d6:decide (f=6)=false:=ψ h6;rw[ξ h6] at q ⊢;refine aB rfl (fun hb=>Bool.noConfusion (hb.symm.trans d6)) (fun _=>sg rfl ?_);by_cases h7:f=7
 ·have d7:decide (f=7)=true:=φ h7;rw[ζ h7] at q ⊢;have h2:=ar3 h7;have hkA:(pU (.mk f pl n s ks ps bs g)).length=ks.length:=by rw[mG,η];rfl
  have hkP:(ps.map bL).length=ps.length:=η _
  match ks,h2 with
  | [],h2=>rw[length_nil] at h2;omega
  | a::ks,h2=>
   have h2:ks.length=ps.length:=by rw[χ] at h2;omega
   rw[aCu] at hk;rw[yU] at hW q;have ha:=E a (by omega) r.1 u.1 (by omega);have la:=lE a r.1;have hxl:(gR ks).length=ks.length:=aBz ks;have lalt:=aKs ps (gR ks) y;have lkw:=zN ks r.2;have l5:aX8.length=5:=rfl;have l4:ofP.length=4:=rfl;have l4':arrS.length=4:=rfl;show AWp _ _ _ _ _ _ (nG _ (aT0 _ _ _ _ _ fun ex st=>(ex=.normal∨ex=.ret)∧Fin _ _ st _ (Go.AM.T (aX8++prE a++ofP++aN5 (mQ ps (gR ks)))) _));refine aB rfl (fun _=>sg rfl (AWp.sub (Sub.own (t:=5) (id:=500) 9 1 rfl rfl) ?_)) (fun hb=>Bool.noConfusion (hb.symm.trans d7));refine aA (sg rfl (aF (aK (fun i:Nat=>mk [(1,.one (.vp 1 0)),(5,.one (.hs 500 0 (mQ (ps.take i) (gR ks)).length (mQ (ps.take i) (gR ks)).length)),(72,.one (.c (.sl 10 (ps.map bL)))),(73,I .i64 ((ps.map bL).length:Nat)),(74,I .i64 (i:Nat))] [(1,.var 61 ((bU (.mk f pl n s (a::ks) ps bs g)).map .c)),(500,.arr 9 1 ((mQ (ps.take i) (gR ks)).map b7) 0)]) (fun i=>i≤ps.length) (fun i=>ps.length-i) 0 (ε _) (sl (he:=⟨rfl,by rw[take_zero];cases gR ks<;>rfl,rfl,rfl,rfl,trivial⟩) (hh:=⟨⟨_,rfl,.var rfl⟩,⟨_,rfl,.arrS (by rw[take_zero];cases gR ks<;>rfl)⟩,trivial⟩)) ?_)));intro i hi;have hti:(ps.take i).length=i:=by rw[An];omega
   have hal:(mQ (ps.take i) (gR ks)).length=i:=by rw[vD _ _ (by omega),hti]
   refine sg rfl (aA (aB rfl (fun hb=>?_) (fun hb=>?_)))
   ·have hlt:=ltD hb hkP;obtain⟨p,hp⟩:=aL hlt;obtain⟨e,he⟩:=aL (l:=ks) (k:=i) (by omega);have hp':=aT bL hp;have he':(pU (.mk f pl n s (a::ks) ps bs g))[i+1]?=some (bU e):=by rw[mG];exact aT bU (show(a::ks)[i+1]?=some e from he)
    have Y:=τ hp;have B:=τ he;have wp:=qB Y;have we:=aCt B;have ze:=aAi B;have hcp:=nD (psz p) p (le_refl _) (iD y p Y) (lZ hps p Y) (by omega);have hce:=E e (by omega) (uQ r.2 e B) (rQ u.2 e B) (by omega);have lp:=wM p (iD y p Y);have le:=lE e (uQ r.2 e B);have hsn:=yO ps (gR ks) i p (e.form,prE e) hp (aB0 he);have hrow:((mQ (ps.take i) (gR ks)).map b7)++[[.str (prP p++arrS++prE e)]]=(mQ (ps.take (i+1)) (gR ks)).map b7:=by rw[hsn,Al];rfl
    have hle:(mQ (ps.take (i+1)) (gR ks)).length=(mQ (ps.take i) (gR ks)).length+1:=by rw[hsn,θ];rfl
    have hln:((mQ (ps.take i) (gR ks)).map b7).length=(mQ (ps.take i) (gR ks)).length:=η _;have hkA1:(pU (.mk f pl n s (a::ks) ps bs g)).length=ks.length+1:=hkA;refine aD (aA (aF (sgh [(1,.row i (bL p))] rfl (aC mixed (ak 2 [] rfl (kc hcp ?_))))));refine akN 7 [(8,.row (i+1) (bU e))] rfl (kc hce ?_);exact ak 4 [(12,.all)] rfl (az (agN [] rfl ⟨i+1,hlt,by dsimp only;omega,sl (he:=⟨rfl,Go.AM.hs_ren (by rw[hle,←hln];rfl) (by rw[hle,←hln];rfl),rfl,rfl,rfl,trivial⟩) (hh:=⟨⟨_,rfl,.var rfl⟩,⟨_,rfl,.arrS hrow⟩,trivial⟩)⟩))
   ·have hge:=geD hb hkP hi;subst hge;refine aH ?_;rw[Ax];have laj:=join_le [32,59,32] (mQ ps (gR ks));rw[show([32,59,32]:Str).length=3 from rfl] at laj;have hal2:(mQ ps (gR ks)).length=ps.length:=vD ps (gR ks) (by omega);have hbk:=aDf (mQ ps (gR ks)) (by omega) (by omega);have lbk:=aDj (mQ ps (gR ks));refine AWp.sub (Sub.freeze (id:=500) rfl) ?_;refine AWp.sub (st2:=mk [(1,.one (.vp 1 0)),(5,cJ (mQ ps (gR ks)))] [(1,.var 61 ((bU (.mk f pl n s (a::ks) ps bs g)).map .c))]) ?_ ?_
    ·refine Sub.trans ?_ (cv 5 ((mQ ps (gR ks)).map b7));exact sl
    generalize mQ ps (gR ks)=J at *;refine skh 4 [(2,.row 0 (bU a))] rfl (kc ha ?_);refine ak 3 [] rfl (kc hbk ?_);exact kz 2 rfl (aE rtT)
 have d7:decide (f=7)=false:=ψ h7;rw[ξ h7] at q ⊢;refine aB rfl (fun hb=>Bool.noConfusion (hb.symm.trans d7)) (fun _=>sg rfl ?_);by_cases h8:f=8
 ·have d8:decide (f=8)=true:=φ h8;rw[ζ h8] at q ⊢;have h2:=ar2 (.inr (.inr h8))
  match ks,h2 with
  | [a],_=>
   rw[aCu,aCu] at hk;rw[yU,yU] at hW q;have ha:=E a (by omega) r.1 u.1 (by omega);have la:=lE a r.1;have M:=aAq a;have U:=fQ (prE a) (opn a.form) (by omega);have lba:=eJ (opn a.form) (prE a);have hsc:=tD hg (by omega);have lsc:=aBj hg;have l3:vM.length=3:=rfl;show AWp _ _ _ _ _ _ (nG _ (aT0 _ _ _ _ _ fun ex st=>(ex=.normal∨ex=.ret)∧Fin _ _ st _ (Go.AM.T (brk (opn a.form) (prE a)++vM++vW g)) _));generalize brk (opn a.form) (prE a)=A at *;refine aB rfl (fun _=>skh 4 [(2,.row 0 (bU a))] rfl (kc ha ?_)) (fun hb=>Bool.noConfusion (hb.symm.trans d8));refine ak 4 [(7,.row 0 (bU a))] rfl (kc M ?_);refine kc U ?_;refine ak 3 [] rfl (kc hsc ?_);exact kz 2 rfl (aE rtT)
 have d8:decide (f=8)=false:=ψ h8;rw[ξ h8] at q ⊢;exact aB rfl (fun hb=>Bool.noConfusion (hb.symm.trans d8)) (fun _=>aD (sg rfl (aE rtT)))
theorem nQ:∀k,PES k∧PBS k
 | 0=>⟨fun e h=>by cases e;rw[esz] at h;omega,fun l hl h q hB r=>by
   cases l with
   | nil=>exact aDg (k:=0) (fun e h=>by cases e;rw[esz] at h;omega) [] hl (ε _) q hB r
   | cons b l=>cases b;rw[aN3,bsz] at h;omega⟩
 | k+1=>⟨aNh (nQ k).1 (nQ k).2,aDg (nQ k).1⟩
theorem aAt (e:Ex) (q:exP e) (hO:oJ e) (r:exW e≤400000000):b9 Tryz.prog 28 [.pa (bU e)] [] (Go.AM.T (prE e)) []:=(nQ (esz e)).1 e (le_refl _) q hO r
def pgV (p:Pg):AObj:=.var 29 ((nV p).map .c)
theorem aNf (p:Pg) (hp:PgOk 60 p):b9 Tryz.prog 10 [.pa (nV p),.pa (nV p)] [] (B true) []:=by
 have hkD:(p.datas.map gV).length=p.datas.length:=η _;have hkC:(p.classes.map gW).length=p.classes.length:=η _;have hkI:(p.insts.map jK).length=p.insts.length:=η _;have hlD:=hp.d.1;have hlC:=hp.c.1;have hlI:=hp.i.1;have d1:=kO ((p.datas.map gV).length:Int);have d2:=kO ((p.classes.map gW).length:Int);have d3:=kO ((p.insts.map jK).length:Int);have d0:=kO (0:Int);refine bP (n:=353) tok Tryz.func10 rfl rfl rfl ?_;refine sg rfl (aA (sgh [(7,.bv false),(15,.bv false),(16,.bv false),(24,.bv false)] rfl (aB rfl (fun hb=>Bool.noConfusion (hb.symm.trans d3)) (fun _=>aD ?_))));clear d1 d2 d3;refine aA (sg rfl (aF (aK (fun i:Nat=>mk [(2,.one (.vp 2 0)),(3,.one (.vp 3 0)),(5,I .i64 (i:Nat))] [(2,pgV p),(3,pgV p)]) (fun i=>i≤p.datas.length) (fun i=>p.datas.length-i) 0 (ε _) sl ?_)));intro i hi;refine aA (sg rfl (aB rfl (fun hb=>?_) (fun hb=>?_)))
 ·have y:=ltD hb hkD;obtain⟨x,hx⟩:=aL y;have ab:=aT gV hx;have hm:=τ hx;have hok:=hp.d.2 x hm;clear hb;obtain⟨nm,pl,vars,cons⟩:=x;have hv:=qJ vars (by have:=hok.v;dsimp only at this;omega);have O:(cons.map gI).length=cons.length:=η _;have U:=hok.c.1;have J:=hok.c.2;dsimp only at U J;have d1:=kO nm;have d2:=kO pl;have d3:=kO ((cons.map gI).length:Int);refine aD (aA (aF (sgh [(3,.row i (gV ⟨nm,pl,vars,cons⟩))] rfl (sgh [(3,.row i (gV ⟨nm,pl,vars,cons⟩))] rfl (aA (skh 17 [(5,.bv false),(11,.bv false),(12,.bv false),(19,.bv false),(20,.bv false),(25,.bv false),(26,.bv false),(34,.bv false)] rfl (kcG hv ?_)))))));refine ak 17 [(5,.bv false),(11,.bv false),(12,.bv false),(19,.bv false),(20,.bv false),(25,.bv false),(26,.bv false),(34,.bv false)] rfl (az (aB rfl (fun hb=>Bool.noConfusion (hb.symm.trans d3)) (fun _=>aD ?_)));clear d1 d2 d3 hv;refine sg rfl (aF (aK (fun k:Nat=>mk [(2,.one (.vp 2 0)),(3,.one (.vp 3 0)),(5,I .i64 (i:Nat)),(6,.one (.vp 6 0)),(7,.one (.vp 7 0)),(8,I .i64 (k:Nat))] [(2,pgV p),(3,pgV p),(6,.var 81 ((gV ⟨nm,pl,vars,cons⟩).map .c)),(7,.var 81 ((gV ⟨nm,pl,vars,cons⟩).map .c))]) (fun k=>k≤cons.length) (fun k=>cons.length-k) 0 (ε _) sl ?_));intro k hk;refine aA (sg rfl (aB rfl (fun hb=>?_) (fun hb=>?_)))
  ·have M:=ltD hb O;obtain⟨c,hc⟩:=aL M;have hc':=aT gI hc;have E:=J c (τ hc);clear hb;obtain⟨r,u,fs⟩:=c;have hkF:(fs.map bR).length=fs.length:=η _;obtain⟨hlF,ac⟩:=E;dsimp only at hlF ac;have d1:=kO r;have d2:=kO u;have d3:=kO ((fs.map bR).length:Int);refine aD (aA (aF (aA (sgh [(13,.bv false),(27,.bv false),(28,.bv false),(44,.bv false),(3,.row k (gI ⟨r,u,fs⟩)),(9,.row k (gI ⟨r,u,fs⟩)),(17,.row k (gI ⟨r,u,fs⟩)),(23,.row k (gI ⟨r,u,fs⟩)),(32,.row k (gI ⟨r,u,fs⟩)),(39,.row k (gI ⟨r,u,fs⟩))] rfl (aB rfl (fun hb=>Bool.noConfusion (hb.symm.trans d3)) (fun _=>aD ?_))))));clear d1 d2 d3;refine sg rfl (aF (aK (fun q:Nat=>mk [(2,.one (.vp 2 0)),(3,.one (.vp 3 0)),(5,I .i64 (i:Nat)),(6,.one (.vp 6 0)),(7,.one (.vp 7 0)),(8,I .i64 (k:Nat)),(9,I .i64 (q:Nat))] [(2,pgV p),(3,pgV p),(6,.var 81 ((gV ⟨nm,pl,vars,cons⟩).map .c)),(7,.var 81 ((gV ⟨nm,pl,vars,cons⟩).map .c))]) (fun q=>q≤fs.length) (fun q=>fs.length-q) 0 (ε _) sl ?_));intro q hq;refine aA (sgh [(4,.row k (gI ⟨r,u,fs⟩))] rfl (aB rfl (fun hb=>?_) (fun hb=>?_)))
   ·have ad:=ltD hb hkF;obtain⟨t,ht⟩:=aL ad;have ht':=aT bR ht;have hte:=aDa t (by have:=(ac t (τ ht)).2;omega);clear hb;refine aD (aA (aF (skh 18 [(3,.row k (gI ⟨r,u,fs⟩)),(7,.row q (bR t)),(12,.row k (gI ⟨r,u,fs⟩)),(16,.row q (bR t))] rfl (kc hte ?_))));exact kz 1 rfl (aB rfl (fun hb=>Bool.noConfusion hb) (fun _=>aD (agN [] rfl ⟨q+1,ad,by dsimp only;omega,sl⟩)))
   ·exact aH (agN [] rfl ⟨k+1,M,by dsimp only;omega,sl⟩)
  ·exact aH (agN [] rfl ⟨i+1,y,by dsimp only;omega,sl⟩)
 refine aH (aA (sg rfl (aF (aK (fun i:Nat=>mk [(2,.one (.vp 2 0)),(3,.one (.vp 3 0)),(10,I .i64 (i:Nat))] [(2,pgV p),(3,pgV p)]) (fun i=>i≤p.classes.length) (fun i=>p.classes.length-i) 0 (ε _) sl ?_))));intro i hi;refine aA (sg rfl (aB rfl (fun hb=>?_) (fun hb=>?_)))
 ·have y:=ltD hb hkC;obtain⟨x,hx⟩:=aL y;have ab:=aT gW hx;have hm:=τ hx;have hok:=hp.c.2 x hm;clear hb;obtain⟨nm,pl,Y,sup,ms⟩:=x;have hv:=qJ sup (by have:=hok.s;dsimp only at this;omega);have O:(ms.map cI).length=ms.length:=η _;have U:=hok.m.1;have J:=hok.m.2;dsimp only at U J;have d1:=kO nm;have d2:=kO pl;have d4:=kO Y;have d3:=kO ((ms.map cI).length:Int);refine aD (aA (aF (sgh [(3,.row i (gW ⟨nm,pl,Y,sup,ms⟩))] rfl (sgh [(3,.row i (gW ⟨nm,pl,Y,sup,ms⟩))] rfl (aA (skh 24 [(5,.bv false),(11,.bv false),(12,.bv false),(18,.bv false),(19,.bv false),(26,.bv false),(27,.bv false),(33,.bv false),(34,.bv false),(42,.bv false)] rfl (kcG hv ?_)))))));refine ak 18 [(5,.bv false),(11,.bv false),(12,.bv false),(18,.bv false),(19,.bv false),(26,.bv false),(27,.bv false),(33,.bv false),(34,.bv false),(42,.bv false)] rfl (az (aB rfl (fun hb=>Bool.noConfusion (hb.symm.trans d3)) (fun _=>aD ?_)));clear d1 d2 d3 d4 hv;refine sg rfl (aF (aK (fun k:Nat=>mk [(2,.one (.vp 2 0)),(3,.one (.vp 3 0)),(10,I .i64 (i:Nat)),(11,.one (.vp 11 0)),(12,.one (.vp 12 0)),(13,I .i64 (k:Nat))] [(2,pgV p),(3,pgV p),(11,.var 90 ((gW ⟨nm,pl,Y,sup,ms⟩).map .c)),(12,.var 90 ((gW ⟨nm,pl,Y,sup,ms⟩).map .c))]) (fun k=>k≤ms.length) (fun k=>ms.length-k) 0 (ε _) sl ?_));intro k hk;refine aA (sg rfl (aB rfl (fun hb=>?_) (fun hb=>?_)))
  ·have M:=ltD hb O;obtain⟨c,hc⟩:=aL M;have hc':=aT cI hc;have E:=J c (τ hc);clear hb;obtain⟨r,u,s⟩:=c;have hs:=aPp s E.2.1 (fun p hp=>(E.2.2.1 p hp).2) (by have:=E.2.2.2.1;dsimp only at this;omega) (by have:=E.2.2.2.2;dsimp only at this;omega);have d1:=kO r;have d2:=kO u;refine aD (aA (aF (skh 41 [(13,.bv false),(27,.bv false),(28,.bv false),(43,.bv false),(3,.row k (cI ⟨r,u,s⟩)),(9,.row k (cI ⟨r,u,s⟩)),(17,.row k (cI ⟨r,u,s⟩)),(23,.row k (cI ⟨r,u,s⟩)),(32,.row k (cI ⟨r,u,s⟩)),(38,.row k (cI ⟨r,u,s⟩))] rfl (kcG hs ?_))));exact ak 2 [(13,.bv false),(27,.bv false),(28,.bv false),(43,.bv false)] rfl (az (aB rfl (fun hb=>Bool.noConfusion hb) (fun _=>aD (agN [] rfl ⟨k+1,M,by dsimp only;omega,sl⟩))))
  ·exact aH (agN [] rfl ⟨i+1,y,by dsimp only;omega,sl⟩)
 refine aH (aA (sg rfl (aF (aK (fun i:Nat=>mk [(2,.one (.vp 2 0)),(3,.one (.vp 3 0)),(14,I .i64 (i:Nat))] [(2,pgV p),(3,pgV p)]) (fun i=>i≤p.insts.length) (fun i=>p.insts.length-i) 0 (ε _) sl ?_))));intro i hi;refine aA (sg rfl (aB rfl (fun hb=>?_) (fun hb=>?_)))
 ·have y:=ltD hb hkI;obtain⟨x,hx⟩:=aL y;have ab:=aT jK hx;have hm:=τ hx;have hok:=hp.i.2 x hm;clear hb;obtain⟨cl,pl,r,vars,preds,binds⟩:=x;have hv:=qJ vars (by have:=hok.v;dsimp only at this;omega);have hpr:=aDd preds (by have:=hok.p.1;dsimp only at this;omega) (fun p hp=>(hok.p.2 p hp).2);have aa:=pM binds (by have:=hok.b.1;dsimp only at this;omega) hok.b.2;have d1:=kO cl;have d2:=kO pl;have d3:=kO r;refine aD (aA (aF (sgh [(3,.row i (jK ⟨cl,pl,r,vars,preds,binds⟩))] rfl (sgh [(3,.row i (jK ⟨cl,pl,r,vars,preds,binds⟩))] rfl (skh 24 [(5,.bv false),(11,.bv false),(12,.bv false),(18,.bv false),(19,.bv false),(26,.bv false),(27,.bv false),(34,.bv false),(35,.bv false),(42,.bv false)] rfl (kcG hv ?_))))));refine ak 7 [(5,.bv false),(11,.bv false),(12,.bv false),(18,.bv false),(19,.bv false),(26,.bv false),(27,.bv false),(34,.bv false),(35,.bv false),(42,.bv false)] rfl (kcG hpr ?_);refine ak 7 [(5,.bv false),(11,.bv false),(12,.bv false),(18,.bv false),(19,.bv false),(26,.bv false),(27,.bv false),(34,.bv false),(35,.bv false),(42,.bv false)] rfl (kcG aa ?_);exact ak 2 [(5,.bv false),(11,.bv false),(12,.bv false),(18,.bv false),(19,.bv false),(26,.bv false),(27,.bv false),(34,.bv false),(35,.bv false),(42,.bv false)] rfl (az (aB rfl (fun hb=>Bool.noConfusion hb) (fun _=>aD (agN [] rfl ⟨i+1,y,by dsimp only;omega,sl⟩))))
 refine aH ?_;have aa:=pM p.binds (by have:=hp.b.1;omega) hp.b.2;refine sk 4 rfl (kc aa ?_);exact kz 1 rfl (aE rtT)
end Go.Proofs.YtpmheldmadendaaGreatDoor
namespace Go.AM
open Go
section
variable {P:Program}{T:TT}{n:Nat}{o:Oper}{st:St}{d:Nat}
theorem aQt {q ty:TypeId}{i:TI}{fs:List (Nat×TypeId)}{x y:Operand}{r u:List C}(M:Tok P T) (hq:aFy P q) (ho:o.op=.binOp .neq q x y ty) (hd:o.dst=some d) (O:d<n) (hi:T[q]?=some (some i)) (U:i.k=.st fs)
  (hx:opv st x=some (.pa r)) (hy:opv st y=some (.pa u)) (hs:scalars T 0 fs r u=true):Step P n o st ⟨opr x++opr y,[]⟩ ⟨some (d,some (B (!aK1 r u))),[]⟩:=by
 refine Step.value hd O fun _ ha _ S μ ac w E=>?_
 have h1:=aM E hx (dA ha).1;have h2:=aM E hy (dA ha).2;simp only[aO] at h1 h2;obtain⟨us,h1,Y⟩:=h1;obtain⟨vs,h2,h4⟩:=h2;obtain⟨fields,hu,J⟩:=(M.get hi).struct U;unfold aFy aFy.check at hq;simp only[hu,π,Bm] at hq;obtain⟨⟨q1,q2⟩,q3⟩:=hq;have I:P.fieldsOf q=fields:=by simp[Program.fieldsOf,hu]
 have hn : ∀ f ∈ fields.toList, f.name ≠ "_" := fun f J => by
  have:=(Av.1 q1) f J;simpa using this
 refine⟨.bool (!aK1 r u),zF ho h1 h2 ?_ rfl ?_,by simp[aO,aZ,Rep]⟩
 ·have hp:(program:Sem Program).run P w=.ok P w:=rfl;simp only[eqGuard];simp[hp,q3]
 ·rw[run_equalIn_struct w 9999 q _ _ (by rw[I,hu]) q2,I];exact pE M ⟨us⟩ ⟨vs⟩ 9998 w fields.toList 0 r u (by rw[←J];exact hs) hn (by simpa using Y) (by simpa using h4)
end
end Go.AM
namespace Go.Proofs.YtpmheldmadendaaGreatDoor
open Go Go.AM
set_option maxRecDepth 20000
set_option maxHeartbeats 4000000
def aZf:Str:=[102,32,120,32,61,32,103,32,40,120,32,58,32,73,110,116,41]
def a2t:Str:=[92,32,120,32,45,62,32,103,32,40,120,32,58,32,73,110,116,41]
def aTt:Ex:=.mk 5 2 0 [] [.mk 4 6 0 [] [.mk 1 6 0 [103] [] [] [] lX,.mk 8 9 0 [] [.mk 1 9 0 [120] [] [] [] lX] [] [] ⟨[],[],.mk 3 0 [73,110,116] []⟩] [] [] lX] [.mk 2 2 0 [120] []] [] lX
def a0c:Bd:=.mk [102] 0 false lX aTt
theorem aVq:eD aZf=(⟨[],[],[],[a0c]⟩,0,0):=by kernel_rfl
theorem aVp:prE aTt=a2t:=by kernel_rfl
theorem aTs (n:Int) (h:n=0):aEp n:=by unfold aEp;omega
theorem SchP.z:SchP lX:=⟨.leaf 0 [] (.inl rfl),fun p hp=>(by cases hp),ε _⟩
theorem aVr:exP aTt∧oJ aTt∧exW aTt≤400000000:=by
 have hs:SchP ⟨[],[],.mk 3 0 [73,110,116] []⟩:=⟨.leaf 3 _ (.inr (.inr rfl)),fun p hp=>(by cases hp),ε _⟩
 have ho:SchOk ⟨[],[],.mk 3 0 [73,110,116] []⟩:=⟨⟨⟨rfl,rfl⟩,by rw[tn,tns];decide⟩,fun p hp=>(by cases hp),ε _,ε _⟩
 refine⟨⟨aTs _ rfl,⟨⟨aTs _ rfl,trivial⟩,trivial⟩,.z,⟨⟨aTs _ rfl,trivial,.z,⟨⟨aTs _ rfl,trivial,.z,trivial,trivial⟩,⟨aTs _ rfl,trivial,hs,⟨⟨aTs _ rfl,trivial,.z,trivial,trivial⟩,trivial⟩,trivial⟩,trivial⟩,trivial⟩,trivial⟩,trivial⟩,?_,by decide⟩;have ar:∀(f:Int) (a b:Nat),(f=1)→(f=4→a=2)∧(f=5∨f=6∨f=8→a=1)∧(f=7→a=b):=fun f a b h=>⟨fun k=>by omega,fun k=>by omega,fun k=>by omega⟩
 exact⟨⟨by decide,by decide,by decide⟩,.z,⟨fun h=>by omega,fun _=>rfl,fun h=>by omega⟩,⟨⟨ε _,trivial⟩,trivial⟩,⟨⟨⟨by decide,by decide,by decide⟩,.z,⟨fun _=>rfl,fun h=>by omega,fun h=>by omega⟩,trivial,⟨⟨⟨ε _,ε _,ε _⟩,.z,ar 1 _ _ rfl,trivial,trivial,trivial⟩,⟨⟨by decide,by decide,by decide⟩,ho,⟨fun h=>by omega,fun _=>rfl,fun h=>by omega⟩,trivial,⟨⟨⟨ε _,ε _,ε _⟩,.z,ar 1 _ _ rfl,trivial,trivial,trivial⟩,trivial⟩,trivial⟩,trivial⟩,trivial⟩,trivial⟩,trivial⟩
theorem aR7:b9 Tryz.prog 11 [] [] (B true) []:=by
 have hp:=n2 aZf (aPt aZf);rw[aVq] at hp;obtain⟨q,r,u⟩:=aVr;have he:=aAt aTt q r u;rw[aVp] at he;refine bP (n:=36) tok Tryz.func11 rfl rfl rfl ?_;refine sg rfl (aA (aC mixed (kc hp ?_)));refine kz 7 rfl (aA (sk 2 rfl (k_ (g_ rfl rfl (aQt tok (by unfold aFy;kernel_rfl) rfl rfl (by decide) (tg rfl) rfl rfl rfl rfl)) ?_)));refine ak 6 [(3,.bv false),(8,.bv false)] rfl (az (aB rfl nofun (fun _=>aD (sgh [(2,.row 0 (b8 a0c))] rfl (skh 11 [(3,.bv true),(8,.bv true),(9,.bv true)] rfl (kcG he ?_))))));exact ak 3 [(9,.bv true),(13,.bv true)] rfl (az (aE rtT))
theorem aL7 (s:Str):PgOk 60 (eD s).1:=by
 obtain⟨q,hwt,_,_⟩:=oA s;obtain⟨_,h2⟩:=n8 (lM hwt (cW s).2.R.length) hwt q;unfold eD gQ;split
 ·split
  ·exact h2
  ·exact .z 60
 ·split
  ·exact .z 60
  ·exact .z 60
theorem aAs (l:List Int) (hl:aP8 l) (u:Fits l):b9 Tryz.prog 3 [.one (.c (.sl 1 (l.map kQ)))] [] (B true) []:=by
 obtain⟨s,h0,y⟩:=aRt l hl u;have hp:=n2 s (aPt s);have q:=aFd s;have r:=aNf (eD s).1 (aL7 s);have h1:=aHi s h0;have hv:=aR7;rw[h0,h1] at hp q;generalize (eD s).1=E at *;refine bP (n:=36) tok Tryz.func3 rfl rfl rfl ?_;refine sg rfl (sk 1 rfl (kc y ?_));refine kz 1 rfl (sk 1 rfl (kc hp ?_));refine kz 7 rfl (sk 1 rfl (kc q ?_));refine kz 7 rfl (sk 2 rfl (k_ (g_ rfl rfl (zH tok (by unfold aFy;kernel_rfl) rfl rfl (by decide) (tg rfl) rfl rfl rfl rfl)) ?_));refine ak 3 [(3,.bv true)] rfl (k_ (GStep.yes rfl rfl rfl rfl rfl (zH tok (by unfold aFy;kernel_rfl) rfl rfl (by decide) (tg rfl) rfl rfl rfl rfl)) ?_);refine ak 4 [(3,.bv true),(7,.bv true),(8,.bv true)] rfl (kcG r ?_);refine ak 2 [(8,.bv true),(12,.bv true),(13,.bv true)] rfl (kcG hv ?_);exact ak 2 [(13,.bv true),(15,.bv true)] rfl (az (aE rtT))
end Go.Proofs.YtpmheldmadendaaGreatDoor
namespace Go.Proofs.YtpmheldmadendaaGreatDoor
open Go Go.ChangeShapes Go.WideShapes Go.ChangeAt Go.RowKit Go.AM
theorem Tryz.own:ownKnob Tryz.prog.godebug=none:=by kernel_rfl
theorem Tryz.laidOut:laidOutB Tryz.prog=true:=by kernel_rfl
theorem aLe:Rows.laid_internal_strconv_uint64pow10 (H:=Unit)=Lib.tabData .u64 Lib.pow10Tab:=by kernel_rfl
theorem aUe {W:World}(h:laidMetH Tryz.prog Rows.readTypedRow.laid W):aOm W:=by
 rw [MakeChecks.laidMetH_plain _ _ _ (by kernel_rfl)] at h;have q := laidMet.tail (laidMet.tail h);rw [aLe] at q;have ht := Lib.tabIs_of_head (g := 1) (t := 260) (e := 239) (n := 20) (by kernel_rfl) (by kernel_rfl) (by kernel_rfl) (by kernel_rfl) (by kernel_rfl) (by kernel_rfl) q;intro g r;cases r;unfold Lib.TabIs World.var? at ht;rw [show Tryz.prog.globalNamed "internal/strconv.uint64pow10" = some 1 by kernel_rfl] at ht;simp only [Ck] at ht;split at ht
 ·rename_i cs t u hq;simp only[Option.some.injEq] at ht;subst ht;exact⟨cA hq,t,u,hq⟩
 ·cases ht
set_option maxRecDepth 100000 in
theorem pQ (os:Os) (started:os.Started) (H:Type) (enc:TypeId×Value→H):
  ReturnsInHanded {} Tryz.checked os 3 .any (fun w args=>(Rows.readTypedSpec.pre enc Tryz.prog Tryz.f3 Rows.readTypedRow.domain false w args∧laidMetH Tryz.prog Rows.readTypedRow.laid w)∧sizedMet enc Tryz.prog Tryz.f3 (OpenSpec.ofChange Rows.readTypedSpec) false w args)
   (Rows.readTypedSpec.post enc Tryz.prog Tryz.f3 false true false false):=by
 refine returnsInHanded_of_change_and (C:=Tryz.checked) (X:=fun w _=>laidMetH Tryz.prog Rows.readTypedRow.laid w) (fun _ _ _ hh h=>h.of_heap hh) Tryz.own started (by kernel_rfl) Tryz.func3
  (ChangeSpec.witness_shaped (enc:=enc) (C:=Tryz.checked) (os:=os) (X:=fun w _=>laidMetH Tryz.prog Rows.readTypedRow.laid w) false (World.laidAll Tryz.prog os Rows.readTypedRow.laid) #[.slice none 0 0] 8 (World.laidAll_os _ _ _)
   (World.shaped_of_ZipB (by kernel_rfl) (by kernel_rfl)) (by kernel_rfl) (by kernel_rfl) (by kernel_rfl)
   (by rw[MakeChecks.laidMetH_plain _ _ _ (by kernel_rfl)];exact laidMet_laidAll _ (by kernel_rfl) (by kernel_rfl))) ?_
 intro W base args ds gs before r O hcnd hwt hL _
 have u:∀(j:Nat) t v,Tryz.f3.params[j]?=some t→args[j]?=some v→Value.okWide Tryz.prog W .any base t v:=r
 have y:=O
 obtain⟨p,q,E,hV,rfl,hfz,hnd⟩:=O
 have U:DataW.TrodAll enc Tryz.prog W 0 (fun _=>true) true Tryz.f3.params.toList args.toList ds p:=E
 rw[Tryz.params3] at U u
 obtain⟨v0,d0,rfl,rfl,h0⟩:=trodAll_one U
 obtain⟨rfl,rfl⟩:=trodVars_none hV
 obtain⟨Y,B,aa,xl0,yl0,ab⟩:=aEn Tryz.underlying22 Tryz.underlying3 (by kernel_rfl) (u 0 22 v0 rfl rfl) h0
 clear E r
 simp only[A3] at y
 have J:∀x∈p,x.block<W.heap.size:=fun x hx=>by simpa using y.lt x (hx)
 have M:(DataW.weightsEach Tryz.prog (Tryz.f3.params.toList++Rows.readTypedSpec.plain.varTypes Tryz.prog) ([d0]++[])).all (· ≤reachBytes)=true:=hwt
 have ac:Fits Y:=by
  unfold Fits
  rcases ab with⟨_,hd⟩ | ⟨rfl,hd⟩
  ·rw[hd];simp
  ·have:=sized_slice M (j:=0) (t:=22) (e:=3) rfl rfl Tryz.underlying22
   rw[show Tryz.prog.bytesOf 3=8 by kernel_rfl] at this
   have hb:=reachBytes_lt
   omega
 refine(aIj (aAs Y aa ac) W (vals:=[v0]) ⟨_,_,rfl,B,rfl⟩ (ht:=aUe hL)).mono fun e W' ⟨v,S,μ,he,I,hv⟩=>?_
 subst he
 rw[aS0 hv]
 have ad:=Below.trod Tryz.laidOut (by kernel_rfl) (κ (by kernel_rfl)) h0 I J
 exact⟨_,rfl,⟨_,_,_,[],_,[],y,trodAll_mk1 (shut_bool Tryz.underlying4 true),trodAll_mk1 ad,rfl,I.frame _,fun h=>by cases h⟩⟩
theorem r1:Rows.ReadTypedSaid:=
 OpenClaim.holds_of_wide 3 Tryz.f3 rfl rfl rfl rfl rfl rfl rfl ⟨rfl,rfl,rfl,rfl,rfl⟩ rfl rfl rfl rfl rfl (by kernel_rfl) Tryz.func3 (by kernel_rfl)
  (κ (by kernel_rfl)) (by unfold Func.isWrapper;first | (rw[ζ (by decide+kernel)];kernel_rfl) | (rw[ξ (by decide+kernel)];exact⟨rfl,rfl⟩))
  (fun os started H enc _=>pQ os started H enc)
theorem readTyped_card_holds:Rows.ReadTypedCardSaid:=
 Claim7.holds_tied_plain_at .later [] [.data, .data, .data] true (true, "b08ef535e29a9b6e90379598c943ca8c3713ad18c93c0347aef6146b5595303c") true r1 (fun _ h => by cases h) (by kernel_rfl) (fun _ h => by cases h) readTyped_row_tie rfl ⟨rfl, rfl⟩ (by kernel_rfl) rfl
  (fun f fn y r=>by
   obtain rfl : f = 3 := Option.some.inj ((show Tryz.prog.funcNamed "fugue/fuguelaw06.ReadTyped" = some 3 by kernel_rfl).symm.trans y) |>.symm;obtain rfl : fn = Tryz.f3 := (Option.some.inj (Tryz.func3.symm.trans r)).symm
   exact⟨by kernel_rfl,fun j t ht=>by
    rw[Tryz.params3] at ht;have hm:t∈[22]:=by
     have:=Array.mem_of_getElem? ht;simp at this;simp
     first | omega | (rcases this with h | h | h<;>simp[h])
    have q:([22].all fun u=>!Tryz.prog.wantsStandIn u)=true:=by kernel_rfl
    exact(show Tryz.prog.wantsStandIn t=false by simpa using Av.1 q t hm)⟩)
  (by kernel_rfl)
end Go.Proofs.YtpmheldmadendaaGreatDoor
