/-
  Texts Rd73 to Sd9 in one.
-/
import Derived.Test.YtkhgpgihmphfdaaGreatM12
import Derived.LoopNIn
open List (append_assoc append_nil drop_drop drop_of_length_le drop_take foldl_append foldl_cons length_append length_cons length_drop length_map length_nil length_take map_append mem_cons take_length take_succ_cons take_zero)
open Nat (add_mul le_refl le_trans zero_add zero_le)
namespace Go.Proofs.YtkhgpgihmphfdaaGreat
open Go Go.AM
set_option maxRecDepth 20000
theorem Kq.tl (z:Z):Kq z (tlZ z):=fun h=>⟨h,rfl⟩
theorem xY:∀f:Nat,(∀o z,Kq z (b7 f o z).2)∧(∀o z,Kq z (gF f o z).2)∧(∀o out z,Kq z (dW f o out z).2)
 | 0=>⟨fun o z=>by rw[b7];exact Kq.refl z,fun o z=>by rw[gF];exact Kq.fail (by decide) z,fun o out z=>by rw[dW];exact Kq.refl z⟩
 | f+1=>by
  obtain⟨h1,h2,g⟩:=xY f;refine⟨fun o z=>?_,fun o z=>?_,fun o out z=>?_⟩
  ·rw[b7];split
   ·exact Kq.refl z
   split
   ·exact Kq.tl z
   split
   ·exact Kq.may _ z
   split
   ·exact Kq.refl z
   split
   ·exact Kq.fail (by decide) z
   ·exact((Kq.need _ z).trans (h2 _ _)).trans (Kq.need _ _)
  ·rw[gF];split
   ·exact(h1 _ _).trans (Kq.fail (by decide) _)
   split
   ·exact(Kq.tl z).trans (g _ _ _)
   ·exact h1 _ _
  ·rw[dW];split
   ·split
    ·exact h1 _ _
    ·exact(h1 _ _).trans (g _ _ _)
   ·exact Kq.refl z
theorem Kq.pair:∀(l:List Sg) (b:List Bd) (z:Z),Kq z (cO l b z).2:=fun l b z h=>by
 have h1:=jV h;rw[h1] at h ⊢;exact⟨h,rfl⟩
def aL7 (ex:Nat→Z→Ex×Z):Prop:=∀deep z,Kq z (ex deep z).2
section
variable {ex:Nat→Z→Ex×Z}(hx:aL7 ex)
include hx
theorem Kq.one (deep:Nat) (z:Z):Kq z (gS ex deep z).2:=by
 unfold gS;split
 ·exact Kq.refl z
 split
 ·exact Kq.tl z
 split
 ·exact Kq.refl z
 ·exact((Kq.may _ z).trans (hx _ _)).trans (Kq.need _ _)
theorem Kq.apps (deep:Nat) (a:Int):∀(f:Nat) (e:Ex) (z:Z),Kq z (eZ ex deep a f e z).2
 | 0,_,z=>Kq.refl z
 | f+1,e,z=>by
  rw[eZ];split
  ·split
   ·exact Kq.one hx deep z
   ·exact(Kq.one hx deep z).trans (Kq.apps deep a f _ _)
  ·exact Kq.refl z
theorem Kq.lam (a:Int) (deep:Nat) (z:Z):Kq z (r2 ex a deep z).2:=by
 have h0:Kq z (if(aZ z).1=[] then bR 12 (b4 (aZ z).2).pl (aZ z).2 else(aZ z).2):=by
  split
  ·exact(Kq.words z).trans (Kq.fail (by decide) _)
  ·exact Kq.words z
 exact((h0.trans (Kq.long _ _ _ _)).trans (Kq.need _ _)).trans (hx _ _)
theorem Kq.bind (g:Tk) (deep:Nat) (z:Z):Kq z (dP ex g deep z).2:=(((Kq.words z).trans (Kq.long _ _ _ _)).trans (Kq.need _ _)).trans (hx _ _)
theorem Kq.either (sigs:List Sg) (binds:List Bd) (deep:Nat) (z:Z):Kq z (aS ex sigs binds deep z).2:=by
 unfold aS;split
 ·exact((Kq.word _ z).trans (Kq.may _ _)).trans (Kq.scheme _)
 ·exact((Kq.word _ z).trans (Kq.may _ _)).trans (Kq.bind hx _ _ _)
theorem Kq.lets (deep:Nat):∀(f n:Nat) (sigs:List Sg) (binds:List Bd) (z:Z),Kq z (eO ex deep f n sigs binds z).2
 | 0,_,_,_,z=>Kq.refl z
 | f+1,n,sigs,binds,z=>by
  rw[eO];split
  ·exact((Kq.more _ _ z).trans (Kq.either hx _ _ _ _)).trans (Kq.lets deep f _ _ _ _)
  ·exact Kq.more _ _ z
theorem Kq.let' (a:Int) (deep:Nat) (z:Z):Kq z (r1 ex a deep z).2:=
 (((((Kq.need _ z).trans (Kq.lets hx _ _ _ _ _ _)).trans (Kq.need _ _)).trans (Kq.pair _ _ _)).trans (Kq.need _ _)).trans (hx _ _)
theorem Kq.alts (deep:Nat):∀(f n:Nat) (ps:List Pt) (ks:List Ex) (z:Z),Kq z (eN ex deep f n ps ks z).2
 | 0,_,_,_,z=>Kq.refl z
 | f+1,n,ps,ks,z=>by
  rw[eN];split
  ·exact((((Kq.more _ _ z).trans ((xY _).2.1 _ _)).trans (Kq.need _ _)).trans (hx _ _)).trans (Kq.alts deep f _ _ _ _)
  ·exact Kq.more _ _ z
theorem Kq.case' (a:Int) (deep:Nat) (z:Z):Kq z (gM ex a deep z).2:=by
 have h1:Kq z (fM ex deep (cP ex deep z)).2:=(((hx _ z).trans (Kq.need _ _)).trans (Kq.need _ _)).trans (Kq.alts hx _ _ _ _ _ _);unfold gM;dsimp only;split
 ·exact(h1.trans (Kq.need _ _)).trans (Kq.fail (by decide) _)
 ·exact h1.trans (Kq.need _ _)
omit hx in
theorem Kq.ann (a:Int) (y:Ex×Z):Kq y.2 (pZ a y).2:=by
 unfold pZ;split
 ·exact(Kq.may _ _).trans (Kq.scheme _)
 ·exact Kq.may _ _
theorem Kq.plain (deep:Nat) (z:Z):Kq z (fE ex deep z).2:=by
 unfold fE;refine Kq.trans ?_ (Kq.apps hx _ _ _ _ _);split
 ·exact(Kq.one hx deep z).trans (Kq.fail (by decide) _)
 ·exact Kq.one hx deep z
theorem aO5:aL7 (vJ ex):=fun deep z=>by
 unfold vJ;split
 ·exact Kq.refl z
 split
 ·exact Kq.fail (by decide) z
 split
 ·exact(Kq.may _ z).trans (Kq.lam hx _ _ _)
 split
 ·exact(Kq.may _ z).trans (Kq.let' hx _ _ _)
 split
 ·exact(Kq.may _ z).trans (Kq.case' hx _ _ _)
 ·exact(Kq.plain hx deep z).trans (Kq.ann _ _)
end
theorem xZ:∀f,aL7 (aCw f)
 | 0=>fun _ z=>Kq.fail (by decide) z
 | f+1=>aO5 (xZ f)
theorem Kq.supers (v:Str) (a:Int):∀(l:List Prd) (out:List Str) (z:Z),Kq z (dG v a l out z).2
 | [],_,z=>Kq.refl z
 | p::l,out,z=>by
  rw[dG];split
  ·refine Kq.trans ?_ (Kq.supers v a l _ _);split
   ·exact Kq.refl z
   ·exact Kq.fail (by decide) z
  ·exact Kq.refl z
theorem Kq.meths (c v:Str) (a:Int):∀(f n:Nat) (out:List Sg) (z:Z),Kq z (jC c v a f n out z).2
 | 0,_,_,z=>Kq.refl z
 | f+1,n,out,z=>by
  rw[jC];split
  ·exact(((((Kq.more _ _ z).trans (Kq.word _ _)).trans (Kq.need _ _)).trans (Kq.scheme _)).trans (Kq.long _ _ _ _)).trans (Kq.meths c v a f _ _ _)
  ·exact Kq.more _ _ z
theorem Kq.cls (z:Z):Kq z (iD z).2:=
 ((((((Kq.preds z).trans (Kq.word _ _)).trans (Kq.word _ _)).trans (Kq.supers _ _ _ _ _)).trans (Kq.need _ _)).trans (Kq.meths _ _ _ _ _ _ _)).trans (Kq.need _ _)
theorem Kq.forms (a:Int):∀(l:List Prd) (z:Z),Kq z (hD a l z)
 | [],z=>Kq.refl z
 | p::l,z=>by
  rw[hD];refine Kq.trans ?_ (Kq.forms a l _);split
  ·exact Kq.fail (by decide) z
  ·exact Kq.refl z
theorem Kq.ibinds {ex:Nat→Z→Ex×Z}(hx:aL7 ex):∀(f n:Nat) (out:List Bd) (z:Z),Kq z (fL ex f n out z).2
 | 0,_,_,z=>Kq.refl z
 | f+1,n,out,z=>by
  rw[fL];split
  ·exact(((Kq.more _ _ z).trans (Kq.word _ _)).trans (Kq.bind hx _ _ _)).trans (Kq.ibinds hx f _ _ _)
  ·exact Kq.more _ _ z
theorem Kq.instV (b:Bool) (z:Z):Kq z (instV b z).2:=by
 cases b with
 | true=>exact(Kq.words z).trans (Kq.need _ _)
 | false=>exact Kq.refl z
theorem Kq.inst {ex:Nat→Z→Ex×Z}(hx:aL7 ex) (z:Z):Kq z (pJ ex z).2:=by
 have h1:Kq z (gW z).2.2.2.2:=(((Kq.preds z).trans (Kq.word _ _)).trans (Kq.may _ _)).trans (Kq.word _ _);have h2:=h1.trans (Kq.instV (gW z).2.2.1 _);refine Kq.trans ?_ (Kq.need _ _);refine Kq.trans ?_ (Kq.ibinds hx _ _ _ _);refine Kq.trans ?_ (Kq.need _ _);refine Kq.trans ?_ (Kq.forms _ _ _);split
 ·exact h2.trans (Kq.long _ _ _ _)
 ·exact h2
theorem Kq.decl {ex:Nat→Z→Ex×Z}(hx:aL7 ex) (p:Pg) (sigs:List Sg) (z:Z):Kq z (jH ex p sigs z).2:=by
 unfold jH;split
 ·exact(Kq.may _ z).trans (Kq.data _)
 split
 ·exact(Kq.may _ z).trans (Kq.cls _)
 split
 ·exact(Kq.may _ z).trans (Kq.inst hx _)
 ·exact Kq.either hx _ _ _ z
theorem Kq.prog {ex:Nat→Z→Ex×Z}(hx:aL7 ex):∀(f n:Nat) (p:Pg) (sigs:List Sg) (z:Z),Kq z (m6 ex f n p sigs z).2
 | 0,_,_,_,z=>Kq.refl z
 | f+1,n,p,sigs,z=>by
  rw[m6];split
  ·exact((Kq.more _ _ z).trans (Kq.decl hx _ _ _)).trans (Kq.prog hx f _ _ _ _)
  ·exact Kq.more _ _ z
theorem Kq.endz (z:Z):Kq z (lK z):=by
 unfold lK;split
 ·exact Kq.fail (by decide) z
 ·exact Kq.refl z
theorem aOj (s:Str) (h:(i6 s).2.1=0):(i6 s).2.2=0:=by
 have hb:(cA s).2.p=0∨¬(cA s).2.e=0:=by
  unfold cA;have g:= @sG s;generalize nA s=w at g ⊢;cases w with
  | ok l=>exact .inl rfl
  | error e=>obtain⟨e,p⟩:=e;exact .inr (g rfl)
 have q:Kq (cA s).2 (lK (i5 s).2):=by
  refine Kq.trans ?_ (Kq.endz _);unfold i5;split
  ·exact(Kq.prog (xZ _) _ _ _ _ _).trans (Kq.pair _ _ _)
  ·exact Kq.refl _
 have u:(i6 s).2.1=(lK (i5 s).2).e:=by unfold i6;split<;>rfl
 have y:(i6 s).2.2=(lK (i5 s).2).p:=by unfold i6;split<;>rfl
 rw[u] at h;obtain⟨A,B⟩:=q h;rw[y,B];rcases hb with hb | hb
 ·exact hb
 ·exact absurd A hb
theorem lB (s:Str) (g:aV Tryz.prog 86 [Go.AM.T s] [] (aDs (nA s)) []):aV Tryz.prog 31 [Go.AM.T s] [] (.tup [.pa (mF (i6 s).1),atV (i6 s).2.1 (i6 s).2.2]) []:=by
 have h:=qI s g;by_cases he:(i6 s).2.1=0
 ·rw[θ he] at h;rw[aOj s he];exact h
 ·rw[ξ he] at h;exact h
set_option maxHeartbeats 4000000
mutual
def psz:Pt→Nat
 | .mk _ _ _ _ l=>jT l+1
def jT:List Pt→Nat
 | []=>0
 | p::l=>psz p+jT l
end
theorem s6:∀{l:List Pt}{p:Pt},p∈l→psz p≤jT l
 | [],p,h=>by cases h
 | a::l,p,h=>by
  rw[jT];rcases Au.1 h with rfl | h
  ·omega
  ·have:=s6 h;omega
theorem s5:∀{l:List Pt},x5 l→∀p∈l,ptB p
 | a::l,h,p,hp=>by
  rcases Au.1 hp with rfl | hp
  ·exact h.1
  ·exact s5 h.2 p hp
def aFj (n:Int):Prop:=0≤n∧n≤2147483647
mutual
def ptW:Pt→Nat
 | .mk _ _ _ s l=>s.length+24+kW l
def kW:List Pt→Nat
 | []=>0
 | p::l=>ptW p+kW l
end
mutual
def aSe:Pt→Prop
 | .mk _ _ n _ l=>aFj n∧p9 l
def p9:List Pt→Prop
 | []=>True
 | p::l=>aSe p∧p9 l
end
theorem aLn {l:List Bd}{i:Nat}{b:Bd}(h:l[i]?=some b):bnR (l.take (i+1))=bnR (l.take i)++[b.name]:=by unfold bnR;rw[dF h,Ai];rfl
theorem iY (l:List Bd) (hl:l.length≤100000):aV Tryz.prog 49 [.one (.c (.sl 33 (cX l)))] [] (bJ (bnR l)) []:=by
 have q:(cX l).length=l.length:=by rw[eB,χ]
 refine bF (n:=19) tok Tryz.func49 rfl rfl rfl ?_;refine sg rfl (sg rfl (AWp.sub (Sub.own (t:=3) (id:=500) 9 1 rfl rfl) ?_));refine aA (sg rfl (aE (aL (fun i:Nat=>mk [(3,.one (.hs 500 0 ((bnR (l.take i)).map aX).length ((bnR (l.take i)).map aX).length)),(6,.one (.c (.sl 33 (cX l)))),(7,I .i64 ((cX l).length:Nat)),(8,I .i64 (i:Nat))] [(500,.arr 9 1 ((bnR (l.take i)).map aX) 0)]) (fun i=>i≤l.length) (fun i=>l.length-i) 0 (Ad _) sl ?_)));intro i hi;refine sg rfl (aA (aB rfl (fun hb=>?_) (fun hb=>?_)))
 ·have u:=ltD hb q;obtain⟨b,y⟩:=aM u;have U:(cX l)[i]?=some (b8 b):=by rw[eB];exact bB b8 y
  have E:=aLn y;have g:((bnR (l.take i)).map aX)++[[.str b.name]]=(bnR (l.take (i+1))).map aX:=by rw[E,Ai];rfl
  have hle:((bnR (l.take (i+1))).map aX).length=((bnR (l.take i)).map aX).length+1:=by rw[←g,η];rfl
  have J:((bnR (l.take i)).map aX).length≤100000:=by unfold bnR;rw[χ,χ,Aj];omega
  obtain⟨B,pl,has,A,e⟩:=b;have M:Bd.name (.mk B pl has A e)=B:=rfl;rw[M] at g;generalize (bnR (l.take i)).map aX=R at g hle J ⊢;exact aD (aA (aE (sgh [(0,.row i (b8 (.mk B pl has A e)))] rfl (ag [(3,.all)] rfl (agN [] rfl ⟨i+1,u,by dsimp only;omega,sl (he:=⟨Go.AM.hs_ren (by rw[hle];rfl) (by rw[hle];rfl),rfl,rfl,rfl,trivial⟩) (hh:=⟨⟨_,rfl,.arrS g⟩,trivial⟩)⟩)))))
 ·have O:=geD hb q hi;subst O;refine aG ?_;rw[Ao];refine AWp.sub (Sub.freeze (id:=500) rfl) ?_;refine AWp.sub (st2:=mk [(3,bJ (bnR l))] []) ?_ ?_
  ·refine Sub.trans ?_ (cv 3 ((bnR l).map aX));exact sl
  exact sg rfl (aF rtT)
theorem yX:∀(k:Nat) (p:Pt),psz p≤k→(vaR p).length≤psz p
 | 0,p,h=>by cases p;rw[psz] at h;omega
 | k+1,.mk f pl n s l,h=>by
  have:∀l:List Pt,jT l≤k→(lT l).length≤jT l:=fun l=>by
   induction l with
   | nil=>intro _;exact Ad _
   | cons a l g=>
    intro hl;rw[jT] at hl ⊢;have h1:=yX k a (by omega);have h2:=g (by omega);rw[lT,η];omega
  rw[psz] at h ⊢;have:=this l (by omega);rw[vaR,η];split
  ·show 1+_≤_;omega
  ·show 0+_≤_;omega
theorem tX (l:List Pt) (i:Nat):(lT (l.take i)).length≤jT l:=by
 have h1:∀l:List Pt,(lT l).length≤jT l:=fun l=>by
  induction l with
  | nil=>exact Ad _
  | cons a l g=>rw[lT,jT,η];have:=yX (psz a) a (le_refl _);omega
 have h2:∀(l:List Pt) (i:Nat),jT (l.take i)≤jT l:=fun l=>by
  induction l with
  | nil=>intro i;rw[List.take_nil];exact le_refl _
  | cons a l g=>
   intro i;cases i with
   | zero=>exact Ad _
   | succ i=>rw[Az,jT,jT];have:=g i;omega
 exact le_trans (h1 _) (h2 l i)
theorem aHk:∀(k:Nat) (p:Pt),psz p≤k→ptB p→psz p≤100000000→aV Tryz.prog 12 [.pa (bO p)] [] (bJ (vaR p)) []
 | 0,p,h,_,_=>by cases p;rw[psz] at h;omega
 | k+1,p,h,hB,Y=>by
  obtain⟨f,pl,n,s,l⟩:=p;rw[psz] at h Y;have ab:=hB.1;have y:(vO (.mk f pl n s l)).length=l.length:=by rw[mE,χ];rfl
  rw[vaR];obtain⟨A,q,E⟩:∃A:List Str,A=(if f=2 then [s] else [])∧A.length≤1:=⟨_,rfl,by split<;>first | exact le_refl _ | exact Ad _⟩
  rw[←q];have ac:(A.map aX).length≤1:=by rw[χ];exact E
  refine bF (n:=27) tok Tryz.func12 rfl rfl rfl ?_;refine sg rfl (sg rfl (AWp.sub (Sub.own (t:=3) (id:=500) 9 1 rfl rfl) ?_));refine aA (AWp.cut (mk [(1,.one (.vp 1 0)),(3,.one (.hs 500 0 (A.map aX).length (A.map aX).length))] [(1,.var 43 ((bO (.mk f pl n s l)).map .c)),(500,.arr 9 1 (A.map aX) 0)]) ?_ ?_)
  ·refine sg rfl ?_;by_cases u:f=2
   ·have d:decide (f=2)=true:=φ u;rw[θ u] at q;subst q;exact aB rfl (fun _=>ag [(3,.all)] rfl sl) (fun hb=>Bool.noConfusion (hb.symm.trans d))
   ·have d:decide (f=2)=false:=ψ u;rw[ξ u] at q;subst q;exact aB rfl (fun hb=>Bool.noConfusion (hb.symm.trans d)) (fun _=>aD sl)
  refine aA (sg rfl (aE (aL (fun i:Nat=>mk [(3,.one (.hs 500 0 ((A++lT (l.take i)).map aX).length ((A++lT (l.take i)).map aX).length)),(15,.one (.c (.sl 10 (vO (.mk f pl n s l))))),(16,I .i64 ((vO (.mk f pl n s l)).length:Nat)),(17,I .i64 (i:Nat))] [(500,.arr 9 1 ((A++lT (l.take i)).map aX) 0)]) (fun i=>i≤l.length) (fun i=>l.length-i) 0 (Ad _) (by rw[Cz,lT,A0];exact sl) ?_)));intro i hi;have ad:=tX l i;refine sg rfl (aA (aB rfl (fun hb=>?_) (fun hb=>?_)))
  ·have B:=ltD hb y;obtain⟨x,hx⟩:=aM B;have ae:(vO (.mk f pl n s l))[i]?=some (bO x):=by rw[mE];exact bB bO hx
   have hm:=Ag hx;have aa:=s6 hm;have hc:=aHk k x (by omega) (s5 hB.2 x hm) (by omega);have af:=yX (psz x) x (le_refl _);have J:A++lT (l.take (i+1))=(A++lT (l.take i))++vaR x:=by rw[dF hx,yY,An]
   have g:((A++lT (l.take i)).map aX)++(vaR x).map aX=(A++lT (l.take (i+1))).map aX:=by rw[J,Ai (l₁:=A++lT (l.take i))]
   have hle:((A++lT (l.take (i+1))).map aX).length=((A++lT (l.take i)).map aX).length+((vaR x).map aX).length:=by rw[←g,η]
   have M:((A++lT (l.take i)).map aX).length≤100000001:=by rw[χ,η];omega
   have O:((vaR x).map aX).length≤100000000:=by rw[χ];omega
   generalize (A++lT (l.take i)).map aX=R at g hle M ⊢;generalize vaR x=V at hc g hle O;refine aD (aA (aE (sgh [(0,.row i (bO x))] rfl (aC mixed (ak 2 [] rfl (kc hc ?_))))));exact kz 2 rfl (agN [] rfl ⟨i+1,B,by dsimp only;omega,sl (he:=⟨Go.AM.hs_ren (by rw[hle]) (by rw[hle]),rfl,rfl,rfl,trivial⟩) (hh:=⟨⟨_,rfl,.arrS g⟩,trivial⟩)⟩)
  ·have U:=geD hb y hi;subst U;refine aG ?_;rw[Ao];refine AWp.sub (Sub.freeze (id:=500) rfl) ?_;refine AWp.sub (st2:=mk [(3,bJ (A++lT l))] []) ?_ ?_
   ·refine Sub.trans ?_ (cv 3 ((A++lT l).map aX));exact sl
   exact sg rfl (aF rtT)
theorem aJu {l:List Pt}{p:Pt}(h:p∈l):psz p≤jT l:=s6 h
theorem tC (e:Ex) (i:Nat) (hO:iX e) (hz:jT e.pats≤100000000) (hi:i<e.kids.length):aV Tryz.prog 50 [.pa (bC e),I .i64 (i:Nat)] [] (bJ (gvR e.form e.pats (bnR e.binds) i)) []:=by
 obtain⟨f,pl,n,s,ks,ps,U,g⟩:=e;obtain⟨⟨J,hl2,hl3⟩,hsg,⟨ar1,ar2,ar3⟩,hps,hks,hbs⟩:=hO;have hz:jT ps≤100000000:=hz;have hi:i<ks.length:=hi;show aV _ _ _ _ (bJ (gvR f ps (bnR U) i)) _;have hnm:=iY U (by omega);have M:(ps.map bO).length=ps.length:=χ _;unfold gvR;refine bF (n:=48) tok Tryz.func50 rfl rfl rfl ?_;refine sg rfl (aA (aE (sg rfl ?_)));by_cases A:f=6
 ·have d:decide (f=6)=true:=φ A;rw[θ A];refine aB rfl (fun _=>sk 2 rfl (kc hnm ?_)) (fun hb=>Bool.noConfusion (hb.symm.trans d));exact kz 1 rfl (aF rtT)
 have d6:decide (f=6)=false:=ψ A;rw[ξ A];refine aB rfl (fun hb=>Bool.noConfusion (hb.symm.trans d6)) (fun _=>?_);by_cases y:f=7∧0<i
 ·obtain⟨y,h0⟩:=y;subst y;obtain⟨q,rfl⟩:∃q,i=q+1:=⟨i-1,by omega⟩
  have hq:q<ps.length:=by have:=ar3 rfl;omega
  obtain⟨p,hp⟩:=aM hq;have hp':=bB bO hp;have hm:=Ag hp;have hszm:=aJu hm;have hv:=aHk _ p (le_refl _) (s5 hps p hm) (by omega);rw[θ ⟨rfl,h0⟩,show q+1-1=q from rfl,hp];have d:decide ((0:Int)<((q+1:Nat):Int))=true:=φ (by omega);refine sgh [(3,.bv true),(6,.bv true)] rfl (aB rfl (fun _=>aA (aC mixed (akN 6 [(4,.row q (bO p)),(5,.row q (bO p))] rfl (kc hv ?_)))) (fun hb=>Bool.noConfusion (hb.symm.trans d)));exact kz 1 rfl (aF rtT)
 rw[ξ y];have key:∃t:Bool,t=false∧(f=7→decide ((0:Int)<(i:Int))=t):=⟨false,rfl,fun h=>ψ (fun k=>y ⟨h,by omega⟩)⟩
 obtain⟨t,ht,Y⟩:=key;refine aA (AWp.cut (mk [(2,.one (.vp 2 0)),(15,B false)] [(2,.var 35 ((bC (.mk f pl n s ks ps U g)).map .c))]) ?_ ?_)
 ·by_cases h:f=7
  ·have d7:decide (f=7)=true:=φ h;have dk:=(Y h).trans ht;exact ag [(3,.bv true),(6,.bv true)] rfl (sl (he:=⟨rfl,by rw[←dk];rfl,trivial⟩))
  ·have d7:decide (f=7)=false:=ψ h;exact ag [(3,.bv false),(6,.bv false)] rfl sl
 refine aB rfl (fun hb=>Bool.noConfusion hb) (fun _=>sg rfl ?_);by_cases E:f=5
 case neg=>
  have d:(!decide (f=5))=true:=by rw[ψ E];rfl
  rw[ξ E];exact aB rfl (fun _=>sg rfl (aF ⟨.inr rfl,⟨_,_,.tmp rfl .nil,.cons (.one (.c .nl .nil)) .nil,rfl⟩,trivial,rfl⟩)) (fun hb=>Bool.noConfusion (hb.symm.trans d))
 have d:(!decide (f=5))=false:=by rw[φ E];rfl
 rw[θ E];refine aB rfl (fun hb=>Bool.noConfusion (hb.symm.trans d)) (fun _=>aD (sg rfl (AWp.sub (Sub.own (t:=5) (id:=500) 9 1 rfl rfl) ?_)));refine aA (sg rfl (aE (aL (fun k:Nat=>mk [(5,.one (.hs 500 0 (((ps.take k).map Pt.name).map aX).length (((ps.take k).map Pt.name).map aX).length)),(35,.one (.c (.sl 10 (ps.map bO)))),(36,I .i64 ((ps.map bO).length:Nat)),(37,I .i64 (k:Nat))] [(500,.arr 9 1 (((ps.take k).map Pt.name).map aX) 0)]) (fun k=>k≤ps.length) (fun k=>ps.length-k) 0 (Ad _) sl ?_)));intro k Y;refine sg rfl (aA (aB rfl (fun hb=>?_) (fun hb=>?_)))
 ·have O:=ltD hb M;obtain⟨x,hx⟩:=aM O;have hx':=bB bO hx;have hst:(ps.take (k+1)).map Pt.name=(ps.take k).map Pt.name++[x.name]:=by rw[dF hx,Ai];rfl
  have u:(((ps.take k).map Pt.name).map aX)++[[.str x.name]]=((ps.take (k+1)).map Pt.name).map aX:=by rw[hst,Ai];rfl
  have hle:(((ps.take (k+1)).map Pt.name).map aX).length=(((ps.take k).map Pt.name).map aX).length+1:=by rw[←u,η];rfl
  have J:(((ps.take k).map Pt.name).map aX).length≤5000:=by rw[χ,χ,Aj];omega
  generalize ((ps.take k).map Pt.name).map aX=R at u hle J ⊢;exact aD (aA (aE (sgh [(0,.row k (bO x))] rfl (ag [(3,.all)] rfl (agN [] rfl ⟨k+1,O,by dsimp only;omega,sl (he:=⟨Go.AM.hs_ren (by rw[hle];rfl) (by rw[hle];rfl),rfl,rfl,rfl,trivial⟩) (hh:=⟨⟨_,rfl,.arrS u⟩,trivial⟩)⟩)))))
 ·have hge:=geD hb M Y;subst hge;refine aG ?_;rw[Ao];refine AWp.sub (Sub.freeze (id:=500) rfl) ?_;refine AWp.sub (st2:=mk [(5,bJ (ps.map Pt.name))] []) ?_ ?_
  ·refine Sub.trans ?_ (cv 5 ((ps.map Pt.name).map aX));exact sl
  exact sg rfl (aF rtT)
mutual
def exM:Ex→Nat
 | .mk _ _ _ _ ks ps bs _=>1+bs.length+jT ps+vK ks+aBk bs
def vK:List Ex→Nat
 | []=>0
 | e::l=>exM e+vK l
def aBk:List Bd→Nat
 | []=>0
 | .mk _ _ _ _ e::l=>exM e+aBk l
end
theorem pO:∀{l:List Ex}{i:Nat}{e:Ex},l[i]?=some e→vK (l.take i)+exM e≤vK l
 | a::l,0,e,h=>by cases h;rw[Cz,vK,vK];omega
 | a::l,i+1,e,h=>by
  have:=pO (l:=l) (i:=i) h;rw[Az,vK,vK];omega
theorem pW:∀{l:List Bd}{i:Nat}{b:Bd},l[i]?=some b→aBk (l.take i)+exM b.body≤aBk l
 | .mk _ _ _ _ e::l,0,b,h=>by cases h;rw[Cz,aBk,aBk];show 0+exM e≤_;omega
 | .mk _ _ _ _ e::l,i+1,b,h=>by
  have:=pW (l:=l) (i:=i) h;rw[Az,aBk,aBk];omega
theorem zU:∀l:List Pt,l.length≤jT l
 | []=>Ad _
 | p::l=>by
  have:=zU l;have:1≤psz p:=by cases p;rw[psz];omega
  rw[jT,Aa];omega
theorem aMz (f:Int) (ps:List Pt) (g:List Bd) (i:Nat):(gvR f ps (bnR g) i).length≤g.length+jT ps:=by
 unfold gvR;split
 ·unfold bnR;rw[χ];omega
 split
 ·cases h:ps[i-1]? with
  | none=>exact Ad _
  | some p=>
   have h1:=yX (psz p) p (le_refl _);have h2:=s6 (Ag h);show(vaR p).length≤_;omega
 split
 ·rw[χ];have:=zU ps;omega
 ·exact Ad _
mutual
theorem aD9:∀(e:Ex) (q:List Str),(tdE e q).length≤exM e
 | .mk f pl n s ks ps u g,q=>by
  have h1:=mZ u (q++bnR u);have h2:=rL f ps (bnR u) ks 0 q;rw[tdE,exM,η,η];split
  ·show 1+_+_≤_;omega
  ·show 0+_+_≤_;omega
theorem mZ:∀(l:List Bd) (q:List Str),(tdB l q).length≤aBk l
 | [],_=>Ad _
 | .mk _ _ _ _ e::l,q=>by
  have h1:=aD9 e q;have h2:=mZ l q;rw[tdB,aBk,η];omega
theorem rL (f:Int) (ps:List Pt) (y:List Str):∀(l:List Ex) (i:Nat) (q:List Str),(tdK f ps y i l q).length≤vK l
 | [],_,_=>Ad _
 | k::l,i,q=>by
  have h1:=aD9 k (q++gvR f ps y i);have h2:=rL f ps y l (i+1) q;rw[tdK,vK,η];omega
end
def ddE (out:List Str) (l:List Ex):List Str:=(l.map Ex.name).foldl ddS out
theorem sW (out:List Str) (l m:List Ex):ddE out (l++m)=ddE (ddE out l) m:=by unfold ddE;rw[Ai,foldl_append]
theorem aGi:∀(l out:List Str),(l.foldl ddS out).length≤out.length+l.length
 | [],out=>le_refl _
 | a::l,out=>by
  have h1:=aGi l (ddS out a);have h2:(ddS out a).length≤out.length+1:=by
   unfold ddS;split
   ·omega
   ·rw[η];exact le_refl _
  rw[Cw,Aa];omega
theorem sV (out:List Str) (l:List Ex):(ddE out l).length≤out.length+l.length:=by
 have:=aGi (l.map Ex.name) out;rw[χ] at this;exact this
def otO (n:Nat):AObj:=.var 26 [.hs 901 0 n n]
def arO (l:List Str):AObj:=.arr 9 1 (l.map aX) 0
theorem tD (l:List Str) (s:Str) (h:l.length≤600000000000):aV Tryz.prog 29 [.one (.hs 901 0 l.length l.length),Go.AM.T s] [(901,arO l)] (B (decide (s∈l))) [(901,arO l)]:=(pU l s h).swap 710 901
theorem aQi (e:Ex) (L:List Str) (y:L.length≤100000000):aV Tryz.prog 28 ([.pa (bC e)]++[R.vp 900 0].map V.one) [(900,otO L.length),(901,arO L)] (.tup []) [(900,otO (ddS L e.name).length),(901,arO (ddS L e.name))]:=by
 have hc:=tD L e.name (by omega);have hl:(L.map aX).length=L.length:=χ _;obtain⟨f,pl,n,s,ks,ps,u,g⟩:=e;rw[show(Ex.mk f pl n s ks ps u g).name=s from rfl] at hc ⊢;refine bF (n:=13) tok Tryz.func28 rfl rfl rfl ?_;refine sg rfl (sk 3 rfl (kc hc ?_));refine kz 1 rfl ?_;by_cases h:s∈L
 ·have d:(!decide (s∈L))=false:=by rw[φ h];rfl
  rw[show ddS L s=L from θ h];exact aB rfl (fun hb=>Bool.noConfusion (hb.symm.trans d)) (fun _=>aD rtN)
 ·have d:(!decide (s∈L))=true:=by rw[ψ h];rfl
  have q:(L.map aX)++[[.str s]]=(L++[s]).map aX:=by rw[Ai];rfl
  have hle:(L++[s]).length=L.length+1:=η;rw[show ddS L s=L++[s] from ξ h];exact aB rfl (fun _=>ag [(3,.all)] rfl (rtN (ho:=⟨⟨_,rfl,Go.AM.Ole.var (by rw[hle,←hl];rfl)⟩,⟨_,rfl,.arrS q⟩,trivial⟩))) (fun hb=>Bool.noConfusion (hb.symm.trans d))
theorem sQ:∀{l:List Ex},o8 l→∀p∈l,iX p
 | a::l,h,p,hp=>by
  rcases Au.1 hp with rfl | hp
  ·exact h.1
  ·exact sQ h.2 p hp
def frO (L:List Str):List (Nat×AObj):=[(900,otO L.length),(901,arO L)]
theorem yE:∀(k:Nat) (e:Ex) (q L:List Str),exM e≤k→iX e→q.length+exM e≤90000000→L.length+exM e≤90000000→aV Tryz.prog 27 [.pa (bC e),bJ q,.one (.clo 28 [R.vp 900 0])] (frO L) (.tup []) (frO (ddE L (tdE e q)))
 | 0,e,q,L,hk,_,_,_=>by cases e;rw[exM] at hk;omega
 | k+1,e,q,L,hk,hO,hi,hL=>by
  have Y:=eX q e.name (by omega);have hcn:=lD (q.map aX) (by rw[χ];omega);have hO':=hO;have hgz:jT e.pats≤100000000:=by cases e with | mk f pl n s ks ps u g=>rw[exM] at hk hi;show jT ps≤_;omega
  have aa:=fun i hi=>tC e i hO hgz hi
  have E:=aQi e L (by omega);have ab:=fun i=>aMz e.form e.pats e.binds i
  obtain⟨f,pl,n,s,ks,ps,u,g⟩:=e;rw[exM] at hk hi hL;obtain⟨⟨hl1,hl2,hl3⟩,hsg,⟨ar1,ar2,ar3⟩,hps,hks,hbs⟩:=hO';rw[show(Ex.mk f pl n s ks ps u g).name=s from rfl] at Y E;have aa:∀i,i<ks.length→aV Tryz.prog 50 [.pa (bC (.mk f pl n s ks ps u g)),I .i64 (i:Nat)] [] (bJ (gvR f ps (bnR u) i)) []:=aa;have ab:∀i,(gvR f ps (bnR u) i).length≤u.length+jT ps:=ab;have hnm:=iY u (by omega);have hkB:(cX u).length=u.length:=by rw[eB,χ]
  have hkK:(kA (.mk f pl n s ks ps u g)).length=ks.length:=by rw[kQ,χ];rfl
  have hinl:(q.map aX).length=q.length:=χ _;obtain⟨T0,y⟩:∃T,T=(if f=1∧¬s∈q then [Ex.mk f pl n s ks ps u g] else []):=⟨_,rfl⟩
  have hT0l:T0.length≤1:=by rw[y];split<;>first | exact le_refl _ | exact Ad _
  rw[tdE,←y,sW,sW];have hdl:=sV L T0;obtain⟨L1,M⟩:∃l,l=ddE L T0:=⟨_,rfl⟩
  rw[←M] at hdl ⊢;refine bF (n:=61) tok Tryz.func27 rfl rfl rfl ?_;refine sg rfl (aA (AWp.cut (mk [(1,bJ q),(2,.one (.clo 28 [R.vp 900 0])),(3,.one (.vp 3 0))] ((3,.var 35 ((bC (.mk f pl n s ks ps u g)).map .c))::frO L1)) ?_ ?_))
  ·by_cases hf:f=1
   ·have df:decide (f=1)=true:=φ hf;refine skh 7 [(3,.bv true)] rfl (kcG Y ?_);refine ak 2 [(3,.bv true),(9,.bv true)] rfl (az ?_);by_cases hs:s∈q
    ·have ds:(!decide (s∈q))=false:=by rw[φ hs];rfl
     rw[ξ (fun k=>k.2 hs)] at y;subst y;have:L1=L:=M;subst this;exact aB rfl (fun hb=>Bool.noConfusion (hb.symm.trans ds)) (fun _=>aD sl)
    ·have ds:(!decide (s∈q))=true:=by rw[ψ hs];rfl
     rw[θ ⟨hf,hs⟩] at y;subst y;have:L1=ddS L s:=M;subst this;refine aB rfl (fun _=>aC mixed (ak 2 [] rfl (kv E ?_))) (fun hb=>Bool.noConfusion (hb.symm.trans ds));exact az sl
   ·have df:decide (f=1)=false:=ψ hf;rw[ξ (fun k=>hf k.1)] at y;subst y;have:L1=L:=M;subst this;exact sgh [(3,.bv false),(9,.bv false)] rfl (aB rfl (fun hb=>Bool.noConfusion hb) (fun _=>aD sl))
  clear y E Y;have hbl:(bnR u).length=u.length:=by unfold bnR;rw[χ]
  have O:q.map aX++(bnR u).map aX=(q++bnR u).map aX:=(Ai).symm;have hr2:(q.map aX).length+((bnR u).map aX).length=((q++bnR u).map aX).length:=by rw[←O,η]
  have hr3:((bnR u).map aX).length≤90000000:=by rw[χ,hbl];omega
  refine sk 1 rfl (kc hcn ?_);refine ak 2 [] rfl (kc hnm ?_);refine kz 2 rfl (AWp.sub (Sub.freeze (id:=710) rfl) ?_);refine AWp.sub (st2:=mk [(1,bJ q),(2,.one (.clo 28 [R.vp 900 0])),(3,.one (.vp 3 0)),(6,bJ (q++bnR u))] ((3,.var 35 ((bC (.mk f pl n s ks ps u g)).map .c))::frO L1)) ?_ ?_
  ·refine Sub.trans ?_ (cv 6 ((q++bnR u).map aX));exact sl
  have hol:(q++bnR u).length≤q.length+u.length:=by rw[η,hbl];exact le_refl _
  generalize hOw:q++bnR u=own at O hr2 hol ⊢;refine aA (sg rfl (aE (aL (fun i:Nat=>mk [(1,bJ q),(2,.one (.clo 28 [R.vp 900 0])),(3,.one (.vp 3 0)),(6,bJ own),(31,.one (.c (.sl 33 (cX u)))),(32,I .i64 ((cX u).length:Nat)),(33,I .i64 (i:Nat))] ((3,.var 35 ((bC (.mk f pl n s ks ps u g)).map .c))::frO (ddE L1 (tdB (u.take i) own)))) (fun i=>i≤u.length) (fun i=>u.length-i) 0 (Ad _) sl ?_)));intro i hib;refine sg rfl (aA (aB rfl (fun hb=>?_) (fun hb=>?_)))
  ·have B:=ltD hb hkB;obtain⟨b,U⟩:=aM B;have hx':(cX u)[i]?=some (b8 b):=by rw[eB];exact bB b8 U
   have hm:=Ag U;have hbo:=gO.1 hbs b hm;have hsz:=pW U;have E:=mZ (u.take i) own;have J:=sV L1 (tdB (u.take i) own);have A:ddE L1 (tdB (u.take (i+1)) own)=ddE (ddE L1 (tdB (u.take i) own)) (tdE b.body own):=by rw[dF U,xG,sW]
   have hbo2:iX b.body:=by cases b;exact hbo.2
   have ac:=yE k b.body own (ddE L1 (tdB (u.take i) own)) (by omega) hbo2 (by omega) (by omega);obtain⟨nm,bpl,has,sgn,be⟩:=b;rw[show(Bd.mk nm bpl has sgn be).body=be from rfl] at ac A;generalize ddE L1 (tdB (u.take i) own)=Li at ac A J ⊢;refine aD (aA (aE (sgh [(0,.row i (b8 (.mk nm bpl has sgn be)))] rfl (aC mixed (ak 4 [] rfl (kc ac ?_))))));exact az (agN [] rfl ⟨i+1,B,by dsimp only;omega,by dsimp only;rw[A];exact sl⟩)
  have ad:=geD hb hkB hib;subst ad;clear hb hib;refine aG ?_;rw[Ao];have E:=mZ u own;have J:=sV L1 (tdB u own);generalize ddE L1 (tdB u own)=L2 at J ⊢;refine sg rfl (aE (aL (fun i:Nat=>mk [(1,bJ q),(2,.one (.clo 28 [R.vp 900 0])),(3,.one (.vp 3 0)),(44,.one (.c (.sl 15 (kA (.mk f pl n s ks ps u g))))),(45,I .i64 ((kA (.mk f pl n s ks ps u g)).length:Nat)),(46,I .i64 (i:Nat))] ((3,.var 35 ((bC (.mk f pl n s ks ps u g)).map .c))::frO (ddE L2 (tdK f ps (bnR u) 0 (ks.take i) q)))) (fun i=>i≤ks.length) (fun i=>ks.length-i) 0 (Ad _) sl ?_));intro i hik;refine sg rfl (aA (aB rfl (fun hb=>?_) (fun hb=>?_)))
  ·have B:=ltD hb hkK;obtain⟨x,hx⟩:=aM B;have hx':(kA (.mk f pl n s ks ps u g))[i]?=some (bC x):=by rw[kQ];exact bB bC hx
   have hm:=Ag hx;have hxo:=sQ hks x hm;have hsz:=pO hx;have htl2:=rL f ps (bnR u) (ks.take i) 0 q;have hdl3:=sV L2 (tdK f ps (bnR u) 0 (ks.take i) q);have hit:(ks.take i).length=i:=by rw[Aj];omega
   have A:ddE L2 (tdK f ps (bnR u) 0 (ks.take (i+1)) q)=ddE (ddE L2 (tdK f ps (bnR u) 0 (ks.take i) q)) (tdE x (q++gvR f ps (bnR u) i)):=by rw[dF hx,xF,sW,hit,Ba]
   have hg:=aa i B;have hgl':=ab i;generalize gvR f ps (bnR u) i=G at hg hgl' A;have hil:(q++G).length≤q.length+(u.length+jT ps):=by rw[η];omega
   have ihx:=yE k x (q++G) (ddE L2 (tdK f ps (bnR u) 0 (ks.take i) q)) (by omega) hxo (by omega) (by omega);have O:q.map aX++G.map aX=(q++G).map aX:=(Ai).symm;have hr2:(q.map aX).length+(G.map aX).length=((q++G).map aX).length:=by rw[←O,η]
   have hr3:(G.map aX).length≤90000000:=by rw[χ];omega
   generalize ddE L2 (tdK f ps (bnR u) 0 (ks.take i) q)=Li at ihx A hdl3 ⊢;refine aD (aA (aE (sgh [(1,.row i (bC x))] rfl (aC mixed (ak 2 [] rfl (kc hcn ?_))))));refine ak 2 [] rfl (kc hg ?_);refine ak 2 [(6,.fz)] rfl (kc ihx ?_);exact az (agN [] rfl ⟨i+1,B,by dsimp only;omega,by dsimp only;rw[A];exact sl⟩)
  have ad:=geD hb hkK hik;subst ad;refine aG ?_;rw[Ao];exact rtN
theorem nI (e:Ex) (hO:iX e) (q:exM e≤80000000):aV Tryz.prog 10 [.pa (bC e)] [] (bJ (frR e)) []:=by
 have hw:aV Tryz.prog 27 [.pa (bC e),bJ [],.one (.clo 28 [R.vp 900 0])] [(900,otO 0),(901,arO [])] (.tup []) [(900,otO (frR e).length),(901,arO (frR e))]:=yE _ e [] [] (le_refl _) hO (by rw[length_nil];omega) (by rw[length_nil];omega);generalize frR e=R at hw ⊢;have g:(R.map aX).length=R.length:=χ _;refine bF (n:=8) tok Tryz.func10 rfl rfl rfl ?_;refine sg rfl (sgh [(0,.id 900)] rfl (AWp.sub (Sub.ownCell (x:=900) (k:=0) (id:=901) 9 1 rfl rfl rfl) ?_));refine sk 2 rfl (kc hw ?_);refine az (AWp.sub (st2:=mk [(3,.one (.vp 900 0))] [(900,.var 26 [.hs 901 0 (R.map aX).length (R.map aX).length]),(901,.arr 9 1 (R.map aX) 0)]) (sl (hh:=⟨⟨_,rfl,Go.AM.Ole.var (by rw[g];rfl)⟩,⟨_,rfl,.arr⟩,trivial⟩)) ?_);refine AWp.sub (Sub.freeze (id:=901) rfl) ?_;refine sg rfl (AWp.sub (st2:=mk [(2,bJ R)] []) ?_ ?_)
 ·refine Sub.trans ?_ (cv 2 (R.map aX));exact sl
 exact aF rtT
def aIo:List Str:=[[97,100,100],[115,117,98],[109,117,108],[100,105,118],[101,113],[108,116]]
theorem aLh:aV Tryz.prog 14 [] [] (bJ aIo) []:=by
 refine bF (n:=2) tok Tryz.func14 rfl rfl rfl ?_;exact sg rfl (sgh [(0,.all)] rfl (aF rtT))
end Go.Proofs.YtkhgpgihmphfdaaGreat
namespace Go.AM
open Go
set_option autoImplicit false
section
variable {ro:Option Nat}{P:Program}{n:Nat}{kf:List Nat}
def aUo (ro:Option Nat) (P:Program) (n:Nat) (kf:List Nat) (c:Code) (Q:Exit→St→Prop):Nat→St→Prop
 | 0,_=>False
 | m+1,st=>AWp ro P n kf c st fun ex st'=>match ex with
  | .normal=>aUo ro P n kf c Q m st'
  | ex=>Q ex st'
theorem rnd {c:Code}{Q:Exit→St→Prop}{m:Nat}{st:St}(h:AWp ro P n kf c st fun ex st'=>match ex with
  | .normal=>aUo ro P n kf c Q m st'
  | ex=>Q ex st'):aUo ro P n kf c Q (m+1) st:=h
theorem aO {c:Code}{Q:Exit→St→Prop}{st:St}(m:Nat) (h:aUo ro P n kf c Q m st):AWp ro P n kf (.loop c) st Q:=fun G S μ a w Q' y hs A=>by
 have key:∀(m:Nat) (st:St),aUo ro P n kf c Q m st→∀S μ a w,Sim G n S μ st a w→Code.roundsIn (Wd ro) 0 P c Q' m a w:=by
  intro m
  induction m with
  | zero=>intro st h;exact h.elim
  | succ m B=>
   intro st h S μ a w hs;refine h G S μ a w _ y hs fun ex st' S1 g u w' q s=>?_
   cases ex with
   | normal=>exact B st' q S1 g u w' s
   | _=>exact A _ st' S1 g u w' q s
 exact wpIn_loop_rounds m (key m st h S μ a w hs)
end
end Go.AM
namespace Go.Proofs.YtkhgpgihmphfdaaGreat
open Go Go.AM
set_option maxRecDepth 20000
set_option maxHeartbeats 4000000
def aOx:Str:=[102,32,120,32,61,32,103,32,120]
def aOw:Str:=[102,32,61,32,103,32,59,32,103,32,61,32,102]
def vX (pl:Int) (s:Str):Ex:=.mk 1 pl 0 s [] [] [] iJ
def lvE:Ex:=.mk 5 2 0 [] [.mk 4 6 0 [] [vX 6 [103],vX 8 [120]] [] [] iJ] [.mk 2 2 0 [120] []] [] iJ
def lvB:Bd:=.mk [102] 0 false iJ lvE
def lvP:Pg:=⟨[],[],[],[lvB]⟩
theorem aSk:i6 aOx=(lvP,0,0):=by kernel_rfl
theorem aSj:i6 aOw=(⟨[],[],[],[.mk [102] 0 false iJ (vX 4 [103]),.mk [103] 8 false iJ (vX 12 [102])]⟩,0,0):=by kernel_rfl
theorem aLg:aV Tryz.prog 14 [] [] (.one (.hs 720 0 6 6)) [(720,.arr 9 1 (aIo.map aX) 0)]:=by
 refine bF (n:=2) tok Tryz.func14 rfl rfl rfl ?_;exact sg rfl (sgh [(0,.id 720)] rfl (aF ⟨.inr rfl,⟨_,_,.tmp rfl .nil,.cons .refl .nil,rfl⟩,⟨⟨_,rfl,.arr⟩,trivial⟩,rfl⟩))
def bkD:AObj:=.var 71 [.c (.sl 5 [])]
def bkC:AObj:=.var 72 [.c (.sl 6 [])]
theorem aWl:aV Tryz.prog 99 [.one (.c (.sl 5 []))] [] (.one (.clo 153 [.vp 771 0])) [(771,bkD)]:=by
 refine bF (n:=4) tok Tryz.func99 rfl rfl rfl ?_;exact sgh [(0,.id 771)] rfl (sg rfl (aF ⟨.inr rfl,⟨_,_,.tmp rfl .nil,.cons .refl .nil,rfl⟩,⟨⟨_,rfl,.var rfl⟩,trivial⟩,rfl⟩))
theorem aWm:aV Tryz.prog 101 [.one (.c (.sl 6 []))] [] (.one (.clo 155 [.vp 771 0])) [(771,bkC)]:=by
 refine bF (n:=4) tok Tryz.func101 rfl rfl rfl ?_;exact sgh [(0,.id 771)] rfl (sg rfl (aF ⟨.inr rfl,⟨_,_,.tmp rfl .nil,.cons .refl .nil,rfl⟩,⟨⟨_,rfl,.var rfl⟩,trivial⟩,rfl⟩))
theorem aT7 (i:LI):aV Tryz.prog 153 [.one (.yl 990),.one (.vp 771 0)] [(990,.lp .ready none i []),(771,bkD)] (.tup []) [(990,.lp .ready none i []),(771,bkD)]:=by
 refine bF (n:=19) tok Tryz.func153 rfl rfl rfl ?_;refine sg rfl (aE (aO 1 (rnd ?_)));exact aA (sg rfl (aB rfl (fun hb=>Bool.noConfusion hb) (fun _=>aG (rtN (ho:=⟨⟨_,rfl,Go.AM.Ole.lp rfl⟩,⟨_,rfl,Go.AM.Ole.var rfl⟩,trivial⟩)))))
theorem aT8 (i:LI):aV Tryz.prog 155 [.one (.yl 990),.one (.vp 771 0)] [(990,.lp .ready none i []),(771,bkC)] (.tup []) [(990,.lp .ready none i []),(771,bkC)]:=by
 refine bF (n:=19) tok Tryz.func155 rfl rfl rfl ?_;refine sg rfl (aE (aO 1 (rnd ?_)));exact aA (sg rfl (aB rfl (fun hb=>Bool.noConfusion hb) (fun _=>aG (rtN (ho:=⟨⟨_,rfl,Go.AM.Ole.lp rfl⟩,⟨_,rfl,Go.AM.Ole.var rfl⟩,trivial⟩)))))
def wZ:List Str:=aIo++[[102]]
def fdP:V:=.one (.vp 800 0)
def fdO (v:List Str) (F:List (Int×Int)):AObj:=.var 136 [.c .any,.c .any,.c .any,.c (.sl 1 (v.map aX)),.hs 801 0 F.length F.length]
def aKf (a:Int×Int):List C:=[.int .i64 a.1,.int .i64 a.2]
def fdA (F:List (Int×Int)):AObj:=.arr 38 2 (F.map aKf) 0
def mpA:List (List C):=sA [66,111,111,108] (aE8 [R.c (C.bool true)]) (sA [73,110,116] (aE8 [R.c (C.bool true)]) [])
def mpB:List (List C):=sA [70,97,108,115,101] (aE8 [R.c (C.int .i64 0)]) (sA [84,114,117,101] (aE8 [R.c (C.int .i64 0)]) [])
theorem aLb:aV Tryz.prog 55 [.pa (mF lvP)] [] fdP [(800,fdO wZ []),(801,fdA [])]:=by
 have hp:=aLg;have g:=aWl;have hc:=aWm;have hn:aV Tryz.prog 49 [.one (.c (.sl 33 [b8 lvB]))] [] (bJ [[102]]) []:=iY [lvB] (by decide);have q:jB []:=trivial;have f1:((List.map aX aIo).length+(List.map aX [[102]]).length)*16≤140737488355328:=by decide
 have f2:(0:Nat)=0∧(6:Nat)=6:=⟨rfl,rfl⟩
 have f3:6=(List.map aX aIo).length:=rfl;have u:jB (sA [84,114,117,101] (aE8 [R.c (C.int IntKind.i64 0)]) []):=(m9 _).1 rfl;have y:jB (sA [73,110,116] (aE8 [R.c (C.bool true)]) []):=(m9 _).1 rfl;refine bF (n:=92) tok Tryz.func55 rfl rfl rfl ?_;refine sg rfl (sk 9 rfl (kc hp ?_));refine ak 4 [(11,.id 800)] rfl (az (aA (sk 2 rfl (kc g ?_))));refine az (aE ?_);refine wT (st':=.ready) (j:=none) (hin:=[(771,bkD)]) (hout:=[(771,bkD)]) 990 991 []
  (mkd [(1,.one (.vp 1 0)),(3,.one (.vp 3 0))] [(1,.var 75 ((mF lvP).map .c)),(3,.var 110 [.vp 800 0]),(720,.arr 9 1 (aIo.map aX) 0),(800,.var 136 [.mr 13,.mr 15,.mr 17,.hs 720 0 6 6,.c .nl]),(13,.map false mpA),(15,.map false mpB),(17,.map false []),(991,.dfr)] [991])
  (aC8 (by kernel_rfl)) rfl trivial ⟨rfl,trivial⟩ ⟨.inl (by decide),trivial⟩ rfl rfl (aT7 _) rfl (fun h=>by cases h) ?_ ?_
 ·exact .listD (fun i=>i) ⟨rfl,rfl,trivial⟩ ⟨⟨_,rfl,.var rfl⟩,⟨_,rfl,.var rfl⟩,⟨_,rfl,.arr⟩,⟨_,rfl,.var rfl⟩,⟨_,rfl,.map⟩,⟨_,rfl,.map⟩,⟨_,rfl,.map⟩,⟨_,rfl,.dfr⟩,trivial⟩ rfl
 refine aA (sk 2 rfl (kc hc ?_));refine az (aE ?_);refine wT (st':=.ready) (j:=none) (hin:=[(771,bkC)]) (hout:=[(771,bkC)]) 990 992 []
  (mkd [(1,.one (.vp 1 0)),(3,.one (.vp 3 0))] [(1,.var 75 ((mF lvP).map .c)),(3,.var 110 [.vp 800 0]),(720,.arr 9 1 (aIo.map aX) 0),(800,.var 136 [.mr 13,.mr 15,.mr 17,.hs 720 0 6 6,.c .nl]),(13,.map false mpA),(15,.map false mpB),(17,.map false []),(991,.dfr),(992,.dfr)] [992,991])
  (aC8 (by kernel_rfl)) rfl trivial ⟨rfl,trivial⟩ ⟨.inl (by decide),trivial⟩ rfl rfl (aT8 _) rfl (fun h=>by cases h) ?_ ?_
 ·exact .listD (fun i=>i) ⟨rfl,rfl,trivial⟩ ⟨⟨_,rfl,.var rfl⟩,⟨_,rfl,.var rfl⟩,⟨_,rfl,.arr⟩,⟨_,rfl,.var rfl⟩,⟨_,rfl,.map⟩,⟨_,rfl,.map⟩,⟨_,rfl,.map⟩,⟨_,rfl,.dfr⟩,⟨_,rfl,.dfr⟩,trivial⟩ rfl
 refine sk 7 rfl (kc hn ?_);refine kz 4 rfl (sg rfl (AWp.sub (Sub.freeze (id:=720) rfl) ?_));refine AWp.sub (Sub.varPure (x:=800) (cs:=[.any,.any,.any,.sl 1 (wZ.map aX),.nl]) rfl (.any (.any (.any (.hs rfl rfl rfl (.c .refl .nil)))))) ?_;refine AWp.sub (Sub.ownCell (x:=800) (k:=4) (id:=801) 38 2 rfl rfl rfl) ?_;exact aF ⟨.inr rfl,⟨_,_,.tmp rfl .nil,.cons .refl .nil,rfl⟩,⟨⟨_,rfl,.var rfl⟩,⟨_,rfl,.arr⟩,trivial⟩,rfl⟩
theorem oI (v:List Str) (F:List (Int×Int)) (e a:Int):aV Tryz.prog 64 [fdP,B false,I .i64 e,I .i64 a] [(800,fdO v F),(801,fdA F)] (.tup []) [(800,fdO v F),(801,fdA F)]:=by
 refine bF (n:=21) tok Tryz.func64 rfl rfl rfl ?_;exact sg rfl (aB rfl (fun hb=>Bool.noConfusion hb) (fun _=>aD rtN))
theorem aKn (v:List Str) (F:List (Int×Int)) (e a:Int) (q:F.length≤100000000):aV Tryz.prog 64 [fdP,B true,I .i64 e,I .i64 a] [(800,fdO v F),(801,fdA F)] (.tup []) [(800,fdO v (F++[(e,a)])),(801,fdA (F++[(e,a)]))]:=by
 have hl:(F.map aKf).length=F.length:=χ _;have g:(F.map aKf)++[[.int .i64 e,.int .i64 a]]=(F++[(e,a)]).map aKf:=by rw[Ai];rfl
 have hle:(F++[(e,a)]).length=F.length+1:=η;refine bF (n:=21) tok Tryz.func64 rfl rfl rfl ?_;exact sg rfl (aB rfl (fun _=>ag [(8,.all)] rfl (rtN (ho:=⟨⟨_,rfl,Go.AM.Ole.var (by rw[hle,←hl];rfl)⟩,⟨_,rfl,.arrS g⟩,trivial⟩))) (fun hb=>Bool.noConfusion hb))
theorem lP (s:Str):aV Tryz.prog 29 [bJ [],Go.AM.T s] [] (B false) []:=eX [] s (by decide)
theorem aC2 (v:List Str) (F:List (Int×Int)):aV Tryz.prog 59 [fdP,bJ [],.one (.clo 104 [.vp 3 0])] [(800,fdO v F),(801,fdA F),(3,.var 71 [.c (.sl 5 [])])] (.tup []) [(800,fdO v F),(801,fdA F),(3,.var 71 [.c (.sl 5 [])])]:=by
 refine bF (n:=26) tok Tryz.func59 rfl rfl rfl ?_;refine sg rfl (aE (aO 1 (rnd ?_)));exact sg rfl (aA (aB rfl (fun hb=>Bool.noConfusion hb) (fun _=>aG rtN)))
theorem aC1 (v:List Str) (F:List (Int×Int)):aV Tryz.prog 59 [fdP,bJ [],.one (.clo 105 [.vp 6 0])] [(800,fdO v F),(801,fdA F),(6,.var 22 [.c .nl])] (.tup []) [(800,fdO v F),(801,fdA F),(6,.var 22 [.c .nl])]:=by
 refine bF (n:=26) tok Tryz.func59 rfl rfl rfl ?_;refine sg rfl (aE (aO 1 (rnd ?_)));exact sg rfl (aA (aB rfl (fun hb=>Bool.noConfusion hb) (fun _=>aG rtN)))
theorem aGw (v:List Str) (F:List (Int×Int)):aV Tryz.prog 59 [fdP,bJ [],.one (.clo 60 [.vp 1 0])] [(800,fdO v F),(801,fdA F),(1,.var 75 ((mF lvP).map .c))] (.tup []) [(800,fdO v F),(801,fdA F),(1,.var 75 ((mF lvP).map .c))]:=by
 refine bF (n:=26) tok Tryz.func59 rfl rfl rfl ?_;refine sg rfl (aE (aO 1 (rnd ?_)));exact sg rfl (aA (aB rfl (fun hb=>Bool.noConfusion hb) (fun _=>aG rtN)))
theorem aGy (v:List Str) (F:List (Int×Int)):aV Tryz.prog 59 [fdP,bJ [],.one (.clo 109 [.vp 3 0])] [(800,fdO v F),(801,fdA F),(3,.var 25 [.c (.sl 33 [])])] (.tup []) [(800,fdO v F),(801,fdA F),(3,.var 25 [.c (.sl 33 [])])]:=by
 refine bF (n:=26) tok Tryz.func59 rfl rfl rfl ?_;refine sg rfl (aE (aO 1 (rnd ?_)));exact sg rfl (aA (aB rfl (fun hb=>Bool.noConfusion hb) (fun _=>aG rtN)))
theorem aHg:aV Tryz.prog 109 ([I .i64 ((0:Nat):Int)]++[R.vp 3 0].map V.one) [(3,.var 25 [.c (.sl 33 [b8 lvB])])] (I .i64 0) [(3,.var 25 [.c (.sl 33 [b8 lvB])])]:=by
 refine bF (n:=9) tok Tryz.func109 rfl rfl rfl ?_;exact sg rfl (sgh [(2,.row 0 (b8 lvB))] rfl (aF rtT))
theorem aGx (v:List Str) (F:List (Int×Int)):aV Tryz.prog 59 [fdP,bJ [[102]],.one (.clo 109 [.vp 3 0])] [(800,fdO v F),(801,fdA F),(3,.var 25 [.c (.sl 33 [b8 lvB])])] (.tup []) [(800,fdO v F),(801,fdA F),(3,.var 25 [.c (.sl 33 [b8 lvB])])]:=by
 have g:=lP [102];have q:=aHg;have hw:=oI v F 20 0;refine bF (n:=26) tok Tryz.func59 rfl rfl rfl ?_;refine sg rfl (aE (aO 2 (rnd ?_)));refine sg rfl (aA (aB rfl (fun _=>aD (aA (aE (sgh [(1,.row 0 (aX [102]))] rfl (aC mixed (ak 5 [] rfl (kc g ?_))))))) (fun hb=>Bool.noConfusion hb)));refine ak 2 [] rfl (kv q ?_);refine kc hw ?_;refine az (ag [] rfl (rnd ?_));exact sg rfl (aA (aB rfl (fun hb=>Bool.noConfusion hb) (fun _=>aG rtN)))
theorem aHe:aV Tryz.prog 166 ([I .i64 ((0:Nat):Int)]++[R.vp 3 0].map V.one) [(3,.var 35 ((bC lvE).map .c))] (I .i64 2) [(3,.var 35 ((bC lvE).map .c))]:=by
 refine bF (n:=10) tok Tryz.func166 rfl rfl rfl ?_;exact sg rfl (sgh [(3,.row 0 (bO (.mk 2 2 0 [120] [])))] rfl (aF rtT))
theorem aGu (v:List Str) (F:List (Int×Int)):aV Tryz.prog 59 [fdP,bJ [[120]],.one (.clo 166 [.vp 3 0])] [(800,fdO v F),(801,fdA F),(3,.var 35 ((bC lvE).map .c))] (.tup []) [(800,fdO v F),(801,fdA F),(3,.var 35 ((bC lvE).map .c))]:=by
 have g:=lP [120];have q:=aHe;have hw:=oI v F 20 2;refine bF (n:=26) tok Tryz.func59 rfl rfl rfl ?_;refine sg rfl (aE (aO 2 (rnd ?_)));refine sg rfl (aA (aB rfl (fun _=>aD (aA (aE (sgh [(1,.row 0 (aX [120]))] rfl (aC mixed (ak 5 [] rfl (kc g ?_))))))) (fun hb=>Bool.noConfusion hb)));refine ak 2 [] rfl (kv q ?_);refine kc hw ?_;refine az (ag [] rfl (rnd ?_));exact sg rfl (aA (aB rfl (fun hb=>Bool.noConfusion hb) (fun _=>aG rtN)))
theorem aHf:aV Tryz.prog 65 ([I .i64 ((0:Nat):Int)]++[R.vp 5 0].map V.one) [(5,.var 113 [.c (.sl 2 [[.str [102],.int .i64 0]])])] (I .i64 0) [(5,.var 113 [.c (.sl 2 [[.str [102],.int .i64 0]])])]:=by
 refine bF (n:=9) tok Tryz.func65 rfl rfl rfl ?_;exact sg rfl (sgh [(2,.row 0 [.str [102],.int .i64 0])] rfl (aF rtT))
theorem aGv (v:List Str) (F:List (Int×Int)):aV Tryz.prog 59 [fdP,bJ [[102]],.one (.clo 65 [.vp 5 0])] [(800,fdO v F),(801,fdA F),(5,.var 113 [.c (.sl 2 [[.str [102],.int .i64 0]])])] (.tup []) [(800,fdO v F),(801,fdA F),(5,.var 113 [.c (.sl 2 [[.str [102],.int .i64 0]])])]:=by
 have g:=lP [102];have q:=aHf;have hw:=oI v F 20 0;refine bF (n:=26) tok Tryz.func59 rfl rfl rfl ?_;refine sg rfl (aE (aO 2 (rnd ?_)));refine sg rfl (aA (aB rfl (fun _=>aD (aA (aE (sgh [(1,.row 0 (aX [102]))] rfl (aC mixed (ak 5 [] rfl (kc g ?_))))))) (fun hb=>Bool.noConfusion hb)));refine ak 2 [] rfl (kv q ?_);refine kc hw ?_;refine az (ag [] rfl (rnd ?_));exact sg rfl (aA (aB rfl (fun hb=>Bool.noConfusion hb) (fun _=>aG rtN)))
theorem aP5 (v:List Str) (F:List (Int×Int)):aV Tryz.prog 56 [fdP,.one (.c (.sl 5 []))] [(800,fdO v F),(801,fdA F)] (.tup []) [(800,fdO v F),(801,fdA F)]:=by
 have h2:=aC2 v F;have g:=aC1 v F;refine bF (n:=95) tok Tryz.func56 rfl rfl rfl ?_;refine sg rfl (sg rfl (sg rfl (aA (sg rfl (aE (aO 1 (rnd ?_)))))));refine sg rfl (aA (aB rfl (fun hb=>Bool.noConfusion hb) (fun _=>aG (sk 3 rfl (kc h2 ?_)))));refine az (aC mixed (ak 3 [] rfl (kc g ?_)));exact az rtN
theorem tE (v:List Str) (F:List (Int×Int)):aV Tryz.prog 66 [fdP,.one (.c (.sl 33 []))] [(800,fdO v F),(801,fdA F)] (.tup []) [(800,fdO v F),(801,fdA F)]:=by
 have hn:aV Tryz.prog 49 [.one (.c (.sl 33 []))] [] (bJ []) []:=iY [] (by decide);have h2:=aGy v F;refine bF (n:=30) tok Tryz.func66 rfl rfl rfl ?_;refine sg rfl (sk 2 rfl (kc hn ?_));refine ak 1 [] rfl (kc h2 ?_);refine az (sg rfl (aE (aO 1 (rnd ?_))));exact sg rfl (aA (aB rfl (fun hb=>Bool.noConfusion hb) (fun _=>aG rtN)))
theorem aT2 (v:List Str) (F:List (Int×Int)) (pl:Int) (s:Str):aV Tryz.prog 110 [fdP,.pa (bC (vX pl s))] [(800,fdO v F),(801,fdA F)] (.tup []) [(800,fdO v F),(801,fdA F)]:=by
 have g:=tE v F;refine bF (n:=80) tok Tryz.func110 rfl rfl rfl ?_;refine sg rfl (aA (sg rfl (aB rfl (fun hb=>Bool.noConfusion hb) (fun _=>aD (aA (sg rfl (aB rfl (fun hb=>Bool.noConfusion hb) (fun _=>aD (aA (sg rfl (aB rfl (fun hb=>Bool.noConfusion hb) (fun _=>sg rfl (aE (aO 1 (rnd ?_)))))))))))))));refine sg rfl (aA (aB rfl (fun hb=>Bool.noConfusion hb) (fun _=>aG (sk 3 rfl (kc g ?_)))));refine az (sg rfl (aE (aO 1 (rnd ?_))));exact sg rfl (aA (aB rfl (fun hb=>Bool.noConfusion hb) (fun _=>aG rtN)))
theorem aWk (v:List Str) (F:List (Int×Int)):aV Tryz.prog 110 [fdP,.pa (bC (.mk 4 6 0 [] [vX 6 [103],vX 8 [120]] [] [] iJ))] [(800,fdO v F),(801,fdA F)] (.tup []) [(800,fdO v F),(801,fdA F)]:=by
 have g:=tE v F;have h1:=aT2 v F 6 [103];have h2:=aT2 v F 8 [120];refine bF (n:=80) tok Tryz.func110 rfl rfl rfl ?_;refine sg rfl (aA (sg rfl (aB rfl (fun hb=>Bool.noConfusion hb) (fun _=>aD (aA (sg rfl (aB rfl (fun hb=>Bool.noConfusion hb) (fun _=>aD (aA (sg rfl (aB rfl (fun hb=>Bool.noConfusion hb) (fun _=>sg rfl (aE (aO 1 (rnd ?_)))))))))))))));refine sg rfl (aA (aB rfl (fun hb=>Bool.noConfusion hb) (fun _=>aG (sk 3 rfl (kc g ?_)))));refine az (sg rfl (aE (aO 3 (rnd ?_))));refine sg rfl (aA (aB rfl (fun _=>aD (aA (aE (sgh [(0,.row 0 (bC (vX 6 [103])))] rfl (aC mixed (ak 2 [] rfl (kc h1 ?_))))))) (fun hb=>Bool.noConfusion hb)));refine az (ag [] rfl (rnd ?_));refine AWp.sub (st2:=mk [(0,fdP),(70,.one (.c (.sl 15 (kA (.mk 4 6 0 [] [vX 6 [103],vX 8 [120]] [] [] iJ))))),(71,I .i64 2),(72,I .i64 1)] [(800,fdO v F),(801,fdA F)]) sl ?_;refine sg rfl (aA (aB rfl (fun _=>aD (aA (aE (sgh [(0,.row 1 (bC (vX 8 [120])))] rfl (aC mixed (ak 2 [] rfl (kc h2 ?_))))))) (fun hb=>Bool.noConfusion hb)));refine az (ag [] rfl (rnd ?_));refine AWp.sub (st2:=mk [(0,fdP),(70,.one (.c (.sl 15 (kA (.mk 4 6 0 [] [vX 6 [103],vX 8 [120]] [] [] iJ))))),(71,I .i64 2),(72,I .i64 2)] [(800,fdO v F),(801,fdA F)]) sl ?_;exact sg rfl (aA (aB rfl (fun hb=>Bool.noConfusion hb) (fun _=>aG rtN)))
theorem aMu:iX lvE:=⟨⟨by decide,by decide,by decide⟩,.z,⟨fun h=>by omega,fun _=>rfl,fun h=>by omega⟩,⟨⟨Ad _,trivial⟩,trivial⟩,⟨⟨⟨by decide,by decide,by decide⟩,.z,⟨fun _=>rfl,fun h=>by omega,fun h=>by omega⟩,trivial,⟨⟨⟨Ad _,Ad _,Ad _⟩,.z,⟨fun h=>by omega,fun h=>by omega,fun h=>by omega⟩,trivial,trivial,trivial⟩,⟨⟨Ad _,Ad _,Ad _⟩,.z,⟨fun h=>by omega,fun h=>by omega,fun h=>by omega⟩,trivial,trivial,trivial⟩,trivial⟩,trivial⟩,trivial⟩,trivial⟩
theorem aWj (v:List Str) (F:List (Int×Int)):aV Tryz.prog 110 [fdP,.pa (bC (lvE))] [(800,fdO v F),(801,fdA F)] (.tup []) [(800,fdO v F),(801,fdA F)]:=by
 have q:=tE v F;have h1:=aWk v F;have g:=aGu v F;have u:aV Tryz.prog 50 [.pa (bC lvE),I .i64 ((0:Nat):Int)] [] (bJ [[120]]) []:=tC lvE 0 aMu (by decide) (by decide);refine bF (n:=80) tok Tryz.func110 rfl rfl rfl ?_;refine sg rfl (aA (sg rfl (aB rfl (fun hb=>Bool.noConfusion hb) (fun _=>aD (aA (sg rfl (aB rfl (fun hb=>Bool.noConfusion hb) (fun _=>aD (aA (sg rfl (aB rfl (fun _=>aC mixed (ak 2 [] rfl (kc u ?_))) (fun hb=>Bool.noConfusion hb))))))))))));refine ak 1 [] rfl (kc g ?_);refine az (sk 3 rfl (kc q ?_));refine az (sg rfl (aE (aO 2 (rnd ?_))));refine sg rfl (aA (aB rfl (fun _=>aD (aA (aE (sgh [(0,.row 0 (bC (.mk 4 6 0 [] [vX 6 [103],vX 8 [120]] [] [] iJ)))] rfl (aC mixed (ak 2 [] rfl (kc h1 ?_))))))) (fun hb=>Bool.noConfusion hb)));refine az (ag [] rfl (rnd ?_));refine AWp.sub (st2:=mk [(0,fdP),(70,.one (.c (.sl 15 (kA (lvE))))),(71,I .i64 1),(72,I .i64 1)] [(800,fdO v F),(801,fdA F)]) sl ?_;exact sg rfl (aA (aB rfl (fun hb=>Bool.noConfusion hb) (fun _=>aG rtN)))
theorem aK9 (v:List Str) (F:List (Int×Int)):aV Tryz.prog 66 [fdP,.one (.c (.sl 33 [b8 lvB]))] [(800,fdO v F),(801,fdA F)] (.tup []) [(800,fdO v F),(801,fdA F)]:=by
 have hn:aV Tryz.prog 49 [.one (.c (.sl 33 [b8 lvB]))] [] (bJ [[102]]) []:=iY [lvB] (by decide);have h2:=aGx v F;have he:=aWj v F;refine bF (n:=30) tok Tryz.func66 rfl rfl rfl ?_;refine sg rfl (sk 2 rfl (kc hn ?_));refine ak 1 [] rfl (kc h2 ?_);refine az (sg rfl (aE (aO 2 (rnd ?_))));refine sg rfl (aA (aB rfl (fun _=>aD (aA (aE (sgh [(0,.row 0 (b8 lvB))] rfl (aA (sg rfl (aB rfl (fun hb=>Bool.noConfusion hb) (fun _=>aD (aC mixed (ak 3 [] rfl (kc he ?_))))))))))) (fun hb=>Bool.noConfusion hb)));refine az (ag [] rfl (rnd ?_));exact sg rfl (aA (aB rfl (fun hb=>Bool.noConfusion hb) (fun _=>aG rtN)))
theorem aKz (v:List Str) (F:List (Int×Int)):aV Tryz.prog 68 [fdP,.one (.c (.sl 6 []))] [(800,fdO v F),(801,fdA F)] (.tup []) [(800,fdO v F),(801,fdA F)]:=by
 refine bF (n:=102) tok Tryz.func68 rfl rfl rfl ?_;refine sg rfl (aE (aO 1 (rnd ?_)));exact sg rfl (aA (aB rfl (fun hb=>Bool.noConfusion hb) (fun _=>aG rtN)))
def atE (F:List (Int×Int)) (l:List Ex):List (Int×Int):=F++l.map fun e=>(21,e.pl)
theorem tM (F:List (Int×Int)) (l m:List Ex):atE F (l++m)=atE (atE F l) m:=by unfold atE;rw[Ai,An]
theorem tL (F:List (Int×Int)) (l:List Ex):(atE F l).length≤F.length+l.length:=by unfold atE;rw[η,χ];exact le_refl _
def fwO (v:List Str) (F:List (Int×Int)):List (Nat×AObj):=[(902,.var 110 [.vp 800 0]),(800,fdO v F),(801,fdA F)]
theorem aHi (v:List Str) (e:Ex) (F:List (Int×Int)) (q:F.length≤100000000):aV Tryz.prog 111 ([.pa (bC e)]++[R.vp 902 0].map V.one) (fwO v F) (.tup []) (fwO v (F++[(21,e.pl)])):=by
 have hw:=aKn v F 21 e.pl q;obtain⟨f,pl,n,s,ks,ps,u,g⟩:=e;rw[show(Ex.mk f pl n s ks ps u g).pl=pl from rfl] at hw ⊢;refine bF (n:=7) tok Tryz.func111 rfl rfl rfl ?_;refine sg rfl (aC mixed (ak 3 [] rfl (kc hw ?_)));exact az rtN
theorem yF (v:List Str):∀(k:Nat) (e:Ex) (q:List Str) (L:List (Int×Int)),exM e≤k→iX e→q.length+exM e≤90000000→L.length+exM e≤90000000→aV Tryz.prog 27 [.pa (bC e),bJ q,.one (.clo 111 [R.vp 902 0])] (fwO v L) (.tup []) (fwO v (atE L (tdE e q)))
 | 0,e,q,L,hk,_,_,_=>by cases e;rw[exM] at hk;omega
 | k+1,e,q,L,hk,hO,hi,hL=>by
  have Y:=eX q e.name (by omega);have hcn:=lD (q.map aX) (by rw[χ];omega);have hO':=hO;have hgz:jT e.pats≤100000000:=by cases e with | mk f pl n s ks ps u g=>rw[exM] at hk hi;show jT ps≤_;omega
  have aa:=fun i hi=>tC e i hO hgz hi
  have E:=aHi v e L (by omega);have ab:=fun i=>aMz e.form e.pats e.binds i
  obtain⟨f,pl,n,s,ks,ps,u,g⟩:=e;rw[exM] at hk hi hL;obtain⟨⟨hl1,hl2,hl3⟩,hsg,⟨ar1,ar2,ar3⟩,hps,hks,hbs⟩:=hO';rw[show(Ex.mk f pl n s ks ps u g).name=s from rfl] at Y;rw[show(Ex.mk f pl n s ks ps u g).pl=pl from rfl] at E;have aa:∀i,i<ks.length→aV Tryz.prog 50 [.pa (bC (.mk f pl n s ks ps u g)),I .i64 (i:Nat)] [] (bJ (gvR f ps (bnR u) i)) []:=aa;have ab:∀i,(gvR f ps (bnR u) i).length≤u.length+jT ps:=ab;have hnm:=iY u (by omega);have hkB:(cX u).length=u.length:=by rw[eB,χ]
  have hkK:(kA (.mk f pl n s ks ps u g)).length=ks.length:=by rw[kQ,χ];rfl
  have hinl:(q.map aX).length=q.length:=χ _;obtain⟨T0,y⟩:∃T,T=(if f=1∧¬s∈q then [Ex.mk f pl n s ks ps u g] else []):=⟨_,rfl⟩
  have hT0l:T0.length≤1:=by rw[y];split<;>first | exact le_refl _ | exact Ad _
  rw[tdE,←y,tM,tM];have hdl:=tL L T0;obtain⟨L1,M⟩:∃l,l=atE L T0:=⟨_,rfl⟩
  rw[←M] at hdl ⊢;refine bF (n:=61) tok Tryz.func27 rfl rfl rfl ?_;refine sg rfl (aA (AWp.cut (mk [(1,bJ q),(2,.one (.clo 111 [R.vp 902 0])),(3,.one (.vp 3 0))] ((3,.var 35 ((bC (.mk f pl n s ks ps u g)).map .c))::fwO v L1)) ?_ ?_))
  ·by_cases hf:f=1
   ·have df:decide (f=1)=true:=φ hf;refine skh 7 [(3,.bv true)] rfl (kcG Y ?_);refine ak 2 [(3,.bv true),(9,.bv true)] rfl (az ?_);by_cases hs:s∈q
    ·have ds:(!decide (s∈q))=false:=by rw[φ hs];rfl
     rw[ξ (fun k=>k.2 hs)] at y;subst y;have:L1=L:=M.trans (A0 _);subst this;exact aB rfl (fun hb=>Bool.noConfusion (hb.symm.trans ds)) (fun _=>aD sl)
    ·have ds:(!decide (s∈q))=true:=by rw[ψ hs];rfl
     rw[θ ⟨hf,hs⟩] at y;subst y;have:L1=L++[(21,pl)]:=M;subst this;refine aB rfl (fun _=>aC mixed (ak 2 [] rfl (kv E ?_))) (fun hb=>Bool.noConfusion (hb.symm.trans ds));exact az sl
   ·have df:decide (f=1)=false:=ψ hf;rw[ξ (fun k=>hf k.1)] at y;subst y;have:L1=L:=M.trans (A0 _);subst this;exact sgh [(3,.bv false),(9,.bv false)] rfl (aB rfl (fun hb=>Bool.noConfusion hb) (fun _=>aD sl))
  clear y E Y;have hbl:(bnR u).length=u.length:=by unfold bnR;rw[χ]
  have O:q.map aX++(bnR u).map aX=(q++bnR u).map aX:=(Ai).symm;have hr2:(q.map aX).length+((bnR u).map aX).length=((q++bnR u).map aX).length:=by rw[←O,η]
  have hr3:((bnR u).map aX).length≤90000000:=by rw[χ,hbl];omega
  refine sk 1 rfl (kc hcn ?_);refine ak 2 [] rfl (kc hnm ?_);refine kz 2 rfl (AWp.sub (Sub.freeze (id:=710) rfl) ?_);refine AWp.sub (st2:=mk [(1,bJ q),(2,.one (.clo 111 [R.vp 902 0])),(3,.one (.vp 3 0)),(6,bJ (q++bnR u))] ((3,.var 35 ((bC (.mk f pl n s ks ps u g)).map .c))::fwO v L1)) ?_ ?_
  ·refine Sub.trans ?_ (cv 6 ((q++bnR u).map aX));exact sl
  have hol:(q++bnR u).length≤q.length+u.length:=by rw[η,hbl];exact le_refl _
  generalize hOw:q++bnR u=own at O hr2 hol ⊢;refine aA (sg rfl (aE (aL (fun i:Nat=>mk [(1,bJ q),(2,.one (.clo 111 [R.vp 902 0])),(3,.one (.vp 3 0)),(6,bJ own),(31,.one (.c (.sl 33 (cX u)))),(32,I .i64 ((cX u).length:Nat)),(33,I .i64 (i:Nat))] ((3,.var 35 ((bC (.mk f pl n s ks ps u g)).map .c))::fwO v (atE L1 (tdB (u.take i) own)))) (fun i=>i≤u.length) (fun i=>u.length-i) 0 (Ad _) (by rw[Cz,tdB,show atE L1 []=L1 from A0 _];exact sl) ?_)));intro i hib;refine sg rfl (aA (aB rfl (fun hb=>?_) (fun hb=>?_)))
  ·have B:=ltD hb hkB;obtain⟨b,U⟩:=aM B;have hx':(cX u)[i]?=some (b8 b):=by rw[eB];exact bB b8 U
   have hm:=Ag U;have hbo:=gO.1 hbs b hm;have hsz:=pW U;have E:=mZ (u.take i) own;have J:=tL L1 (tdB (u.take i) own);have A:atE L1 (tdB (u.take (i+1)) own)=atE (atE L1 (tdB (u.take i) own)) (tdE b.body own):=by rw[dF U,xG,tM]
   have hbo2:iX b.body:=by cases b;exact hbo.2
   have ac:=yF v k b.body own (atE L1 (tdB (u.take i) own)) (by omega) hbo2 (by omega) (by omega);obtain⟨nm,bpl,has,sgn,be⟩:=b;rw[show(Bd.mk nm bpl has sgn be).body=be from rfl] at ac A;generalize atE L1 (tdB (u.take i) own)=Li at ac A J ⊢;refine aD (aA (aE (sgh [(0,.row i (b8 (.mk nm bpl has sgn be)))] rfl (aC mixed (ak 4 [] rfl (kc ac ?_))))));exact az (agN [] rfl ⟨i+1,B,by dsimp only;omega,by dsimp only;rw[A];exact sl⟩)
  have ad:=geD hb hkB hib;subst ad;clear hb hib;refine aG ?_;rw[Ao];have E:=mZ u own;have J:=tL L1 (tdB u own);generalize atE L1 (tdB u own)=L2 at J ⊢;refine sg rfl (aE (aL (fun i:Nat=>mk [(1,bJ q),(2,.one (.clo 111 [R.vp 902 0])),(3,.one (.vp 3 0)),(44,.one (.c (.sl 15 (kA (.mk f pl n s ks ps u g))))),(45,I .i64 ((kA (.mk f pl n s ks ps u g)).length:Nat)),(46,I .i64 (i:Nat))] ((3,.var 35 ((bC (.mk f pl n s ks ps u g)).map .c))::fwO v (atE L2 (tdK f ps (bnR u) 0 (ks.take i) q)))) (fun i=>i≤ks.length) (fun i=>ks.length-i) 0 (Ad _) (by rw[Cz,tdK,show atE L2 []=L2 from A0 _];exact sl) ?_));intro i hik;refine sg rfl (aA (aB rfl (fun hb=>?_) (fun hb=>?_)))
  ·have B:=ltD hb hkK;obtain⟨x,hx⟩:=aM B;have hx':(kA (.mk f pl n s ks ps u g))[i]?=some (bC x):=by rw[kQ];exact bB bC hx
   have hm:=Ag hx;have hxo:=sQ hks x hm;have hsz:=pO hx;have htl2:=rL f ps (bnR u) (ks.take i) 0 q;have hdl3:=tL L2 (tdK f ps (bnR u) 0 (ks.take i) q);have hit:(ks.take i).length=i:=by rw[Aj];omega
   have A:atE L2 (tdK f ps (bnR u) 0 (ks.take (i+1)) q)=atE (atE L2 (tdK f ps (bnR u) 0 (ks.take i) q)) (tdE x (q++gvR f ps (bnR u) i)):=by rw[dF hx,xF,tM,hit,Ba]
   have hg:=aa i B;have hgl':=ab i;generalize gvR f ps (bnR u) i=G at hg hgl' A;have hil:(q++G).length≤q.length+(u.length+jT ps):=by rw[η];omega
   have ihx:=yF v k x (q++G) (atE L2 (tdK f ps (bnR u) 0 (ks.take i) q)) (by omega) hxo (by omega) (by omega);have O:q.map aX++G.map aX=(q++G).map aX:=(Ai).symm;have hr2:(q.map aX).length+(G.map aX).length=((q++G).map aX).length:=by rw[←O,η]
   have hr3:(G.map aX).length≤90000000:=by rw[χ];omega
   generalize atE L2 (tdK f ps (bnR u) 0 (ks.take i) q)=Li at ihx A hdl3 ⊢;refine aD (aA (aE (sgh [(1,.row i (bC x))] rfl (aC mixed (ak 2 [] rfl (kc hcn ?_))))));refine ak 2 [] rfl (kc hg ?_);refine ak 2 [(6,.fz)] rfl (kc ihx ?_);exact az (agN [] rfl ⟨i+1,B,by dsimp only;omega,by dsimp only;rw[A];exact sl⟩)
  have ad:=geD hb hkK hik;subst ad;refine aG ?_;rw[Ao];exact rtN
theorem aOv:atE [] (tdE lvE wZ)=[(21,6)]:=by decide+kernel
theorem aHh:aV Tryz.prog 67 [fdP,.one (.c (.sl 33 [b8 lvB]))] [(800,fdO wZ []),(801,fdA [])] (.tup []) [(800,fdO wZ [(21,6)]),(801,fdA [(21,6)])]:=by
 have hw:=yF wZ _ lvE wZ [] (le_refl _) aMu (by decide) (by decide);rw[aOv] at hw;refine bF (n:=21) tok Tryz.func67 rfl rfl rfl ?_;refine sgh [(0,.id 902)] rfl (sg rfl (aE (aO 2 (rnd ?_))));refine sg rfl (aA (aB rfl (fun _=>aD (aA (aE (sgh [(0,.row 0 (b8 lvB))] rfl (aC mixed (ak 7 [] rfl (kc hw ?_))))))) (fun hb=>Bool.noConfusion hb)));refine az (ag [] rfl (rnd ?_));exact sg rfl (aA (aB rfl (fun hb=>Bool.noConfusion hb) (fun _=>aG rtN)))
def vlV:V:=.one (.c (.sl 2 [[.str [102],.int .i64 0]]))
theorem aG8:aV Tryz.prog 156 [vlV,I .i64 0,I .i64 1,.one (.clo 62 [])] [] (.tup []) []:=by
 refine bF (n:=53) tok Tryz.func156 rfl rfl rfl ?_;refine sg rfl (aE (aO 1 (rnd ?_)));exact aA (sg rfl (aB rfl (fun hb=>Bool.noConfusion hb) (fun _=>aG rtN)))
theorem aWd:aV Tryz.prog 106 [vlV,I .i64 0,I .i64 1,I .i64 1,.one (.clo 62 [])] [] (.tup []) []:=by
 have hi:=aG8;refine bF (n:=148) tok Tryz.func106 rfl rfl rfl ?_;refine sg rfl (sg rfl (aE (aO 1 (rnd ?_))));refine aE (sg rfl (aA (sg rfl (aB rfl (fun _=>sk 4 rfl (kc hi ?_)) (fun hb=>Bool.noConfusion hb)))));exact az (aF rtN)
theorem aPz:aV Tryz.prog 165 [I .u64 1] [] (I .i64 1) []:=by
 refine bF (n:=25) tok Tryz.func165 rfl rfl rfl ?_;exact sg rfl (aA (sg rfl (aB rfl (fun hb=>Bool.noConfusion hb) (fun _=>aD (aA (sg rfl (aB rfl (fun hb=>Bool.noConfusion hb) (fun _=>aD (aA (sg rfl (aB rfl (fun hb=>Bool.noConfusion hb) (fun _=>aD (sgh [(3,.byte 1 1)] rfl (aF rtT) (hc:=⟨by decide,⟨by decide,rfl⟩,trivial⟩))))))))))))))
theorem aWf:aV Tryz.prog 107 [I .u64 1] [] (I .i64 1) []:=by
 have h:=aPz;refine bF (n:=8) tok Tryz.func107 rfl rfl rfl ?_;refine sg rfl (aA (aB rfl (fun hb=>Bool.noConfusion hb) (fun _=>aD (sk 1 rfl (kc h ?_)))));exact kz 1 rfl (aF rtT)
theorem aPq:aV Tryz.prog 61 [vlV,.one (.clo 62 [])] [] (.tup []) []:=by
 have hl:=aWf;have hp:=aWd;refine bF (n:=14) tok Tryz.func61 rfl rfl rfl ?_;refine sg rfl (aC mixed (ak 4 [] rfl (kc hl ?_)));refine ak 1 [] rfl (kc hp ?_);exact az rtN
theorem aTp:aV Tryz.prog 69 [.one (.c (.sl 2 [[.int .i64 21,.int .i64 6]])),.one (.clo 70 [])] [] (atV 21 6) []:=by
 refine bF (n:=33) tok Tryz.func69 rfl rfl rfl ?_;refine sg rfl (aA (sg rfl (aB rfl (fun hb=>Bool.noConfusion hb) (fun _=>aD (sgh [(1,.row 0 [.int .i64 21,.int .i64 6])] rfl (aA (sg rfl (aE (aO 1 (rnd ?_))))))))));exact aA (sg rfl (aB rfl (fun hb=>Bool.noConfusion hb) (fun _=>aG (sg rfl (aF (rtC trw))))))
def lvO:AObj:=.var 75 ((mF lvP).map .c)
theorem aLl:aV Tryz.prog 32 [.pa (mF lvP)] [] (atV 21 6) []:=by
 have g:=aLb;have q:=aP5 wZ [];have u:=aGw wZ [];have y:=aPq;have A:=aLh;have E:aV Tryz.prog 29 [bJ aIo,Go.AM.T [102]] [] (B false) []:=by
  have:=eX aIo [102] (by decide);rwa [show decide (([102]:Str)∈aIo)=false by decide] at this
 have I:=oI wZ [] 22 0;have J:=aGv wZ [];have M:=aK9 wZ [];have O:=aHh;have hin:=aKz wZ [(21,6)];have U:=aTp;refine bF (n:=151) tok Tryz.func32 rfl rfl rfl ?_;refine sg rfl (sk 1 rfl (kc g ?_));refine kz 1 rfl (sk 3 rfl (kc q ?_));refine az (sg rfl (sg rfl (aA (sg rfl (aE (aO 1 (rnd ?_)))))));refine sg rfl (aA (aB rfl (fun hb=>Bool.noConfusion hb) (fun _=>aG (sk 3 rfl (kc u ?_)))));refine az (AWp.sub (Sub.ownCell (x:=5) (k:=0) (id:=803) 123 2 rfl rfl rfl) ?_);refine aA (sg rfl (aE (aO 2 (rnd ?_))));refine sg rfl (aA (aB rfl (fun _=>aD (aA (aE (sgh [(0,.row 0 (b8 lvB))] rfl (ag [(6,.all)] rfl (ag [] rfl (rnd ?_))))))) (fun hb=>Bool.noConfusion hb)));refine sg rfl (aA (aB rfl (fun hb=>Bool.noConfusion hb) (fun _=>aG (AWp.sub (Sub.freeze (id:=803) rfl) ?_))));refine AWp.sub (Sub.varPure (x:=5) (cs:=[.sl 2 [[.str [102],.int .i64 0]]]) rfl (.hs rfl rfl rfl .nil)) ?_;refine AWp.sub (st2:=mk [(1,.one (.vp 1 0)),(2,.one (.vp 2 0)),(3,fdP),(5,.one (.vp 5 0))] [(1,lvO),(2,.var 38 [.c (.int .i64 0),.c (.int .i64 0)]),(5,.var 113 [.c (.sl 2 [[.str [102],.int .i64 0]])]),(800,fdO wZ []),(801,fdA [])]) sl ?_;refine sk 1 rfl (kc y ?_);refine az (sg rfl (AWp.sub (Sub.own (t:=14) (id:=804) 9 1 rfl rfl) ?_));refine aA (sg rfl (aE (aO 2 (rnd ?_))));refine sg rfl (aA (aB rfl (fun _=>aD (aA (aE (sgh [(0,.row 0 [.str [102],.int .i64 0])] rfl (sgh [(3,.all)] rfl (aC mixed (ak 1 [] rfl (kc A ?_)))))))) (fun hb=>Bool.noConfusion hb)));refine ak 2 [] rfl (kc E ?_);refine ak 2 [] rfl (kc I ?_);refine az (ag [] rfl (rnd ?_));refine sg rfl (aA (aB rfl (fun hb=>Bool.noConfusion hb) (fun _=>aG (AWp.sub (Sub.freeze (id:=804) rfl) ?_))));refine AWp.sub (st2:=mk [(1,.one (.vp 1 0)),(2,.one (.vp 2 0)),(3,fdP),(5,.one (.vp 5 0)),(14,bJ [[102]])] [(1,lvO),(2,.var 38 [.c (.int .i64 0),.c (.int .i64 0)]),(5,.var 113 [.c (.sl 2 [[.str [102],.int .i64 0]])]),(800,fdO wZ []),(801,fdA [])]) ?_ ?_
 ·refine Sub.trans ?_ (cv 14 (([[102]]:List Str).map aX));exact sl
 refine sk 3 rfl (kc J ?_);refine az (aA (sg rfl (aE (aO 2 (rnd ?_)))));refine sg rfl (aA (aB rfl (fun _=>aD (aA (aE (sgh [(0,.row 0 (b8 lvB))] rfl (aC mixed (ak 3 [(2,.all)] rfl (kc M ?_))))))) (fun hb=>Bool.noConfusion hb)));refine az (ag [] rfl (rnd ?_));refine sg rfl (aA (aB rfl (fun hb=>Bool.noConfusion hb) (fun _=>aG (AWp.sub (st2:=mk [(1,.one (.vp 1 0)),(2,.one (.vp 2 0)),(3,fdP)] [(1,lvO),(2,.var 38 [.c (.int .i64 0),.c (.int .i64 0)]),(800,fdO wZ []),(801,fdA [])]) sl ?_))));refine sk 3 rfl (kc O ?_);refine az (sk 3 rfl (kc hin ?_));refine az (aA (sg rfl (aB rfl (fun hb=>Bool.noConfusion hb) (fun _=>aD (AWp.sub (Sub.freeze (id:=801) rfl) ?_)))));refine sk 4 rfl (kc U ?_);exact kz 1 rfl (aF (rtC trw))
end Go.Proofs.YtkhgpgihmphfdaaGreat
namespace Go
section
variable {F:Fence}{n:Nat}{P:Program}{a:Act}{w:World}{Q:Exit→Act→World→Prop}
def aSu (l:Nat) (J:Act→World→Prop) (Q:Exit→Act→World→Prop):Exit→Act→World→Prop
 | .goto l',a,w=>l'=l∧J a w
 | e,a,w=>Q e a w
def sL (F:Fence) (n:Nat) (P:Program) (rest:Code) (l:Nat) (Q:Exit→Act→World→Prop):Nat→Act→World→Prop
 | 0,_,_=>False
 | m+1,a,w=>rest.wpIn F n P (aSu l (sL F n P rest l Q m) Q) a w
theorem mW {c rest:Code}(l m:Nat) (hf:findLabel c l=some rest) (first:c.wpIn F n P (aSu l (sL F n P rest l Q m) Q) a w):(Code.scope c).wpIn F n P Q a w:=by
 intro b k cs J hb B;have h0:(lone (b.atR a (.code (.scope c)::k)) cs w).fenced P F:=fenced_calm hb B rfl;have Y:gotoIn l (.inScope c::k)=some (.code rest:: .inScope c::k):=by simp[gotoIn,hf]
 have hx:∀id,exitTo id (.inScope c::k)=exitTo id k:=fun id=>by simp[exitTo]
 have key:∀m a w,sL F n P rest l Q m a w→∃e a' w',Q e a' w'∧ArrivesIn (Machine.fenced P F) P (lone (b.atR a (.code rest:: .inScope c::k)) cs w) b k cs e a' w':=by
  intro m
  induction m with
  | zero=>intro a w h;exact h.elim
  | succ m ih=>
   intro a w h;obtain⟨e,q,u,hq,g⟩:=h b (.inScope c::k) cs J hb B;cases e with
   | normal=>exact⟨.normal,q,u,hq,StepsIn.trans g (.one (fenced_calm hb B rfl) iM)⟩
   | exit id=>exact⟨.exit id,q,u,hq,fun k' A=>g.1 k' (by rw[hx];exact A),fun E A=>g.2 E (by rw[hx];exact A)⟩
   | goto l'=>
    obtain⟨rfl,M⟩:=hq;obtain⟨O,a₂,U,I,y⟩:=ih q u M;exact⟨O,a₂,U,I,.of_steps (g.1 _ Y) y⟩
   | ret=>exact⟨_,q,u,hq,g⟩
   | panic ch=>exact⟨_,q,u,hq,g⟩
   | outgrown=>exact⟨_,q,u,hq,g⟩
 obtain⟨e,q,u,hq,g⟩:=first b (.inScope c::k) cs J hb B
 cases e with
 | normal=>exact⟨.normal,q,u,hq,.head h0 c6 (StepsIn.trans g (.one (fenced_calm hb B rfl) iM))⟩
 | exit id=>
  exact⟨.exit id,q,u,hq,fun k' A=>.head h0 c6 (g.1 k' (by rw[hx];exact A)),
   fun E A=>let ⟨k₁,h1,h2⟩:=g.2 E (by rw[hx];exact A);⟨k₁,h1,.head h0 c6 h2⟩⟩
 | goto l'=>
  obtain⟨rfl,M⟩:=hq;obtain⟨O,a₂,U,I,y⟩:=key m q u M;exact⟨O,a₂,U,I,.of_steps (.head h0 c6 (g.1 _ Y)) y⟩
 | ret=>exact⟨_,q,u,hq,.of_steps (.one h0 c6) g⟩
 | panic ch=>exact⟨_,q,u,hq,.of_steps (.one h0 c6) g⟩
 | outgrown=>exact⟨_,q,u,hq,.of_steps (.one h0 c6) g⟩
end
end Go
namespace Go.AM
open Go
section
variable {ro:Option Nat}{P:Program}{n:Nat}{kf:List Nat}{st:St}{Q:Exit→St→Prop}
def aWw (l:Nat) (J:St→Prop) (Q:Exit→St→Prop):Exit→St→Prop
 | .goto l',st=>l'=l∧J st
 | e,st=>Q e st
def aUt (ro:Option Nat) (P:Program) (n:Nat) (kf:List Nat) (rest:Code) (l:Nat) (Q:Exit→St→Prop):Nat→St→Prop
 | 0,_=>False
 | m+1,st=>AWp ro P n kf rest st (aWw l (aUt ro P n kf rest l Q m) Q)
theorem jmp {rest:Code}{l m:Nat}(h:AWp ro P n kf rest st (aWw l (aUt ro P n kf rest l Q m) Q)):aUt ro P n kf rest l Q (m+1) st:=h
theorem aLz {l:Nat}(h:Q (.goto l) st):AWp ro P n kf (.goto l) st Q:=fun _ S μ a w _ _ hs g=>wpIn_goto (g _ _ S μ a w h hs)
theorem aDj {c rest:Code}(l m:Nat) (B:findLabel c l=some rest) (h:AWp ro P n kf c st (aWw l (aUt ro P n kf rest l Q m) Q)):AWp ro P n kf (.scope c) st Q:=fun G S μ a w Q' y hs A=>by
 have key:∀(m:Nat) (st:St),aUt ro P n kf rest l Q m st→∀S μ a w,Sim G n S μ st a w→sL (Wd ro) 0 P rest l Q' m a w:=by
  intro m
  induction m with
  | zero=>intro st h;exact h.elim
  | succ m E=>
   intro st h S μ a w hs;refine h G S μ a w _ y hs fun ex st' S1 g u w' q s=>?_
   cases ex with
   | goto l'=>exact⟨q.1,E st' q.2 S1 g u w' s⟩
   | _=>exact A _ st' S1 g u w' q s
 refine mW l m B (h G S μ a w _ y hs fun ex st' S1 g u w' q s=>?_);cases ex with
 | goto l'=>exact⟨q.1,key m st' q.2 S1 g u w' s⟩
 | _=>exact A _ st' S1 g u w' q s
end
end Go.AM
namespace Go.Proofs.YtkhgpgihmphfdaaGreat
open Go Go.AM
set_option maxRecDepth 20000
set_option maxHeartbeats 4000000
def n2O:AObj:=.var 3 [.c (.int .i64 2)]
theorem aPo (k:Nat) (g:k<2):aV Tryz.prog 201 ([I .i64 (k:Nat)]++[R.vp 3 0].map V.one) [(3,n2O)] (B false) [(3,n2O)]:=by
 have d1:decide ((k:Int)<0)=false:=ψ (by omega);have d2:decide ((2:Int)≤(k:Int))=false:=ψ (by omega);refine bF (n:=11) tok Tryz.func201 rfl rfl rfl ?_;exact sg rfl (sgh [(2,.bv false),(6,.bv false)] rfl (aF ⟨.inr rfl,⟨_,_,.tmp rfl .nil,.cons (by rw[←d2];exact .refl) .nil,rfl⟩,⟨⟨_,rfl,.var rfl⟩,trivial⟩,rfl⟩))
theorem aK3 (l:List (List C)) (h:l.length≤600000000000):aV Tryz.prog 200 [.one (.c (.sl 1 l))] [] (.one (.hs 710 0 l.length l.length)) [(710,.arr 3 1 l 0)]:=by
 refine bF (n:=8) tok Tryz.func200 rfl rfl rfl ?_;refine sg rfl (aH7 0 rfl (fun hl=>?_) ?_)
 ·subst hl;refine aA (sg rfl (aB rfl (fun _=>sg rfl (AWp.sub (Sub.own (t:=2) (id:=710) 3 1 rfl rfl) ?_)) nofun));exact aF rtT
 ·refine aA (sg rfl (aB rfl nofun (fun _=>aD (sgh [(0,.id 710)] rfl (AWp.sub (st2:=mk [(2,.one (.hs 710 0 l.length l.length))] [(710,.arr 3 1 l 0)]) sl ?_)))));exact aF rtT
theorem aTx (k:Nat) (g:k<2):aV Tryz.prog 220 [.one (.hs 710 0 1 1),.one (.clo 201 [.vp 3 0])] [(710,.arr 3 1 [[.int .i64 (k:Nat)]] 0),(3,n2O)] (I .i64 (-1)) [(710,.arr 3 1 [[.int .i64 (k:Nat)]] 0),(3,n2O)]:=by
 have hc:=aPo k g;refine bF (n:=19) tok Tryz.func220 rfl rfl rfl ?_;refine sg rfl (aA (sg rfl (aE (aO 2 (rnd ?_)))));refine sg rfl (aA (aB rfl (fun _=>aD (aA (aE (sg rfl (skh 5 [(4,.row 0 [.int .i64 (k:Nat)])] rfl (kv hc ?_)))))) (fun hb=>Bool.noConfusion hb)));refine az (aB rfl (fun hb=>Bool.noConfusion hb) (fun _=>aD (ag [] rfl (rnd ?_))));exact sg rfl (aA (aB rfl (fun hb=>Bool.noConfusion hb) (fun _=>aG (sg rfl (aF rtT)))))
theorem aT5 (k:Nat) (g:k<2):aV Tryz.prog 199 [.one (.hs 710 0 1 1),.one (.clo 201 [.vp 3 0])] [(710,.arr 3 1 [[.int .i64 (k:Nat)]] 0),(3,n2O)] (.one (.hs 710 0 1 1)) [(710,.arr 3 1 [[.int .i64 (k:Nat)]] 0),(3,n2O)]:=by
 have hi:=aTx k g;refine bF (n:=42) tok Tryz.func199 rfl rfl rfl ?_;refine sg rfl (sk 2 rfl (kc hi ?_));exact kz 1 rfl (aA (sg rfl (aB rfl (fun _=>sg rfl (aF rtT)) (fun hb=>Bool.noConfusion hb))))
def usR:List (List C):=[[.sl 1 [[.int .i64 ((1:Nat):Int)]]],[.sl 1 [[.int .i64 ((0:Nat):Int)]]]]
def usV:V:=.one (.c (.sl 1 usR))
theorem sZ (i k:Nat) (hi:i<2) (h:usR[i]?=some [.sl 1 [[.int .i64 (k:Nat)]]]) (g:k<2):aV Tryz.prog 170 [I .i64 2,usV,I .i64 (i:Nat)] [] (.one (.c (.sl 1 [[.int .i64 (k:Nat)]]))) []:=by
 have hc:=aK3 [[.int .i64 (k:Nat)]] (show 1≤600000000000 by decide);have q:=aT5 k g;have d1:decide ((2:Int)≤(i:Int))=false:=ψ (by omega);have u:usR.length=2:=rfl;refine bF (n:=18) tok Tryz.func170 rfl rfl rfl ?_;refine sg rfl (aA (sg rfl (aB rfl (fun hb=>Bool.noConfusion (hb.symm.trans d1)) (fun _=>aD (skh 4 [(2,.row i [.sl 1 [[.int .i64 (k:Nat)]]])] rfl (kc hc ?_))))));refine ak 1 [] rfl (kc q ?_);refine kz 1 rfl (AWp.sub (Sub.freeze (id:=710) rfl) ?_);refine AWp.sub (st2:=mk [(6,.one (.c (.sl 1 [[.int .i64 (k:Nat)]])))] []) ?_ ?_
 ·refine Sub.trans ?_ (cv 6 [[.int .i64 (k:Nat)]]);exact sl
 exact aF rtT
end Go.Proofs.YtkhgpgihmphfdaaGreat
namespace Go.AM
open Go
theorem Sub.tailS {kf:List Nat}{st:St}{t id id' te es off len sz:Nat}{elems:List (List C)}(h:st.e t=some (.one (.tl id off len sz))) (ha:st.h id=some (.arr te es elems 0)) (hsz:sz=elems.length) (U:st.h id'=none):
  Sub kf ⟨upd st.e t (some (.one (.hs id' 0 len len))),upd (upd st.h id (some .dead)) id' (some (.arr te es (elems.drop off) 0)),st.d⟩ st:=by
 intro G n S μ a w _ hs;have ab:id≠id':=fun e=>by subst e;rw[ha] at U;cases U
 have J:=hs.env t _ h;simp only[aN,aY] at J;obtain⟨_,J | ⟨te',es',elems',fz',p1,p2,p3⟩⟩:=J
 ·rw[ha] at J;cases J
 rw[ha] at p1;cases p1;obtain⟨p4,b,base,cap,p5,p6,p7⟩:=p3 hsz;obtain⟨q0,vs,q1,q2,q3,q4,q5,q6,q7,q8⟩:=(hs.inv.obj id _ ha).arr p5;generalize u:(if cap=off then base else base+off*es)=g at p7;have hble:base≤g:=by rw[←u];split<;>omega
 have A:Evolve S μ st.h S (upd (upd μ id none) id' (some (b,g,cap-off))) (upd (upd st.h id (some .dead)) id' (some (.arr te es (elems.drop off) 0))):=⟨S.le_refl,fun j y q=>by
  by_cases h1:j=id'
  ·subst h1;rw[U] at q;cases q
  ·by_cases h2:j=id
   ·subst h2;rw[ha] at q;cases q;exact⟨.dead,by rw[aW _ _ _ h1];exact aH _ _ _,trivial⟩
   ·exact⟨y,by rw[aW _ _ _ h1,aW _ _ _ h2];exact q,y.succ_refl (by rw[aW _ _ _ h1,aW _ _ _ h2])⟩⟩
 generalize hμ:upd (upd μ id none) id' (some (b,g,cap-off))=μ' at A;generalize hH:upd (upd st.h id (some .dead)) id' (some (.arr te es (elems.drop off) 0))=H1 at A;have E:μ' id=none:=by rw[←hμ,aW _ _ _ ab];exact aH _ _ _
 have I:μ' id'=some (b,g,cap-off):=by rw[←hμ];exact aH _ _ _
 have ac:∀j,j≠id→j≠id'→μ' j=μ j:=fun j h1 h2=>by rw[←hμ,aW _ _ _ h2,aW _ _ _ h1]
 have hHid:H1 id=some .dead:=by rw[←hH,aW _ _ _ ab];exact aH _ _ _
 have O:H1 id'=some (.arr te es (elems.drop off) 0):=by rw[←hH];exact aH _ _ _
 have ad:∀j,j≠id→j≠id'→H1 j=st.h j:=fun j h1 h2=>by rw[←hH,aW _ _ _ h2,aW _ _ _ h1]
 have hdl:(elems.drop off).length=len:=by rw[Bf];omega
 have hold:∀j y,H1 j=some y→∀M c1,μ' j=some (M,c1)→∃Y y0 c0,st.h Y=some y0∧μ Y=some (M,c0)∧(Y=if j=id' then id else j):=by
  intro j y q M c1 hm;by_cases h1:j=id'
  ·subst h1;rw[I] at hm;cases hm;exact⟨id,_,_,ha,p5,by simp⟩
  ·by_cases h2:j=id
   ·subst h2;rw[E] at hm;cases hm
   ·rw[ac j h2 h1] at hm;rw[ad j h2 h1] at q;exact⟨j,y,c1,q,hm,by simp[h1]⟩
 refine⟨S,μ',⟨⟨hs.inv.holds,fun j y ae=>?_,fun i j y y' M c c' hi q hm aa=>?_,fun i y M c hi hm=>?_,hs.inv.frame,hs.inv.sle,hs.inv.sto,hs.inv.evo.trans A,hs.inv.fre⟩,hs.size,hs.defers.evolve A,fun s v e=>?_⟩⟩
 ·have B:H1 j=some y:=ae;clear ae;by_cases h1:j=id'
  ·subst h1;rw[O] at B;cases B;refine⟨fun r hr=>q0 r (List.mem_of_mem_drop hr),.inr ⟨b,g,cap-off,vs,I,q1,?_,by omega,⟨by omega,q4.2⟩,?_,fun _ o ho=>q6 rfl o (by omega),fun o ho=>q6 rfl o (by omega),fun e=>by cases e⟩⟩
   ·rw[←u];split
    ·rename_i hc;rw[hc];simp;omega
    ·have:cap*es=off*es+(cap-off)*es:=by rw[←A6];congr 1;omega
     omega
   ·rw[hdl];by_cases hc:cap=off
    ·have:len=0:=by omega
     have hd0:elems.drop off=[]:=drop_of_length_le (by omega);rw[hd0,this];simp[bS]
    ·rw[ξ hc] at u;have h1:=q5.drop (off*es);rw[←pL q0,drop_take,Co,u] at h1;rwa [show elems.length*es-off*es=len*es by rw[←Nat.sub_mul];congr 1;omega] at h1
  ·by_cases h2:j=id
   ·subst h2;rw[hHid] at B;cases B;exact E
   ·rw[ad j h2 h1] at B;exact(hs.inv.obj j y B).evolve A (ac j h2 h1) fun _ _ _=>⟨rfl,fun _=>rfl,rfl⟩
 ·have hi:H1 i=some y:=hi;have q:H1 j=some y':=q;obtain⟨i0,yi,ci,e1,e2,e3⟩:=hold _ _ hi _ _ hm;obtain⟨Y,yj,cj,f1,f2,f3⟩:=hold _ _ q _ _ aa;have:=hs.inv.inj i0 Y _ _ M ci cj e1 f1 e2 f2;rw[e3,f3] at this;by_cases h1:i=id'<;>by_cases h2:j=id'
  ·rw[h1,h2]
  ·simp[h1,h2] at this;subst this;rw[E] at aa;cases aa
  ·simp[h1,h2] at this;subst this;rw[E] at hm;cases hm
  ·simpa [h1,h2] using this
 ·obtain⟨i0,yi,ci,e1,e2,e3⟩:=hold _ _ hi _ _ hm;exact hs.inv.own i0 _ M ci e1 e2
 ·by_cases af:s=t
  ·subst af;have e':some (V.one (.hs id' 0 len len))=some v:=by rw[←e];exact(aH _ _ _).symm
   cases e';simp only[aN,aY];exact⟨⟨_,_,_,p7⟩,.inr ⟨te,es,elems.drop off,0,O,by omega,fun _=>⟨by omega,.inr ⟨b,g,cap-off,I,by rw[p7];simp⟩⟩⟩⟩
  ·have e':st.e s=some v:=by rw[←e];exact(aW _ _ _ af).symm
   exact aN.evolve A v _ (hs.env s v e')
end Go.AM
namespace Go.Proofs.YtkhgpgihmphfdaaGreat
open Go Go.AM
set_option maxRecDepth 20000
set_option maxHeartbeats 4000000
theorem aP4:aV Tryz.prog 114 [I .i64 2,usV,I .i64 ((0:Nat):Int)] [] (.one (.c (.sl 1 [[.bool true],[.bool true]]))) []:=by
 have g:=sZ 0 1 (by decide) rfl (by decide);have q:=sZ 1 0 (by decide) rfl (by decide);refine bF (n:=50) tok Tryz.func114 rfl rfl rfl ?_;refine sg rfl (sk 1 rfl (k_ (g_ rfl rfl (jS (m:=2) (c:=.bool false) (id:=600) tok rfl rfl (eC rfl) (tg rfl) rfl (tg rfl) rfl rfl rfl rfl (by decide) (by decide) rfl)) ?_));refine kz 1 rfl (sgh [(3,.row 0 [.bool false])] rfl (aA (sgh [(1,.id 610)] rfl (aE (aO 3 (rnd ?_))))));refine AWp.sub (st2:=mk [(0,I .i64 2),(1,usV),(7,.one (.hs 600 0 2 2)),(8,.one (.hs 610 0 1 1))] [(600,.arr 4 1 [[.bool true],[.bool false]] 0),(610,.arr 3 1 [[.int .i64 ((0:Nat):Int)]] 0)]) sl ?_;refine aA (sg rfl (aB rfl (fun _=>aD (aE (sgh [(2,.row 0 [.int .i64 ((0:Nat):Int)])] rfl (sk 1 rfl (k_ (g_ rfl rfl (uN 1 tok rfl rfl (eC rfl) (tg rfl) rfl (tg rfl) rfl rfl (hh:=rfl) (hsz:=rfl) (hlen:=rfl) (hy:=rfl) (hl:=⟨by decide,by decide⟩))) ?_))))) (fun hb=>Bool.noConfusion hb)));refine kz 1 rfl (AWp.sub (st2:=mk [(0,I .i64 2),(1,usV),(7,.one (.hs 600 0 2 2)),(8,.one (.tl 610 1 0 1)),(9,I .i64 ((0:Nat):Int))] [(600,.arr 4 1 [[.bool true],[.bool false]] 0),(610,.arr 3 1 [[.int .i64 ((0:Nat):Int)]] 0)]) sl ?_);refine AWp.sub (Sub.tailS (t:=8) (id':=611) rfl rfl rfl rfl) ?_;refine AWp.sub (st2:=mk [(0,I .i64 2),(1,usV),(7,.one (.hs 600 0 2 2)),(8,.one (.hs 611 0 0 0)),(9,I .i64 ((0:Nat):Int))] [(600,.arr 4 1 [[.bool true],[.bool false]] 0),(611,.arr 3 1 [] 0)]) sl ?_;refine sk 3 rfl (kc g ?_);refine kz 2 rfl (aE (aO 2 (rnd ?_)));refine sg rfl (aA (aB rfl (fun _=>aD (aA (aE (sgh [(0,.row 0 [.int .i64 ((1:Nat):Int)])] rfl (sgh [(3,.row 1 [.bool false])] rfl (aB rfl (fun _=>sgh [(3,.row 1 [.bool false])] rfl (ag [(2,.all)] rfl (ag [] rfl (rnd ?_)))) (fun hb=>Bool.noConfusion hb))))))) (fun hb=>Bool.noConfusion hb)));refine sg rfl (aA (aB rfl (fun hb=>Bool.noConfusion hb) (fun _=>aG (rnd ?_))));refine AWp.sub (st2:=mk [(0,I .i64 2),(1,usV),(7,.one (.hs 600 0 2 2)),(8,.one (.hs 611 0 1 1))] [(600,.arr 4 1 [[.bool true],[.bool true]] 0),(611,.arr 3 1 [[.int .i64 ((1:Nat):Int)]] 0)]) sl ?_;refine aA (sg rfl (aB rfl (fun _=>aD (aE (sgh [(2,.row 0 [.int .i64 ((1:Nat):Int)])] rfl (sk 1 rfl (k_ (g_ rfl rfl (uN 1 tok rfl rfl (eC rfl) (tg rfl) rfl (tg rfl) rfl rfl (hh:=rfl) (hsz:=rfl) (hlen:=rfl) (hy:=rfl) (hl:=⟨by decide,by decide⟩))) ?_))))) (fun hb=>Bool.noConfusion hb)));refine kz 1 rfl (AWp.sub (st2:=mk [(0,I .i64 2),(1,usV),(7,.one (.hs 600 0 2 2)),(8,.one (.tl 611 1 0 1)),(9,I .i64 ((1:Nat):Int))] [(600,.arr 4 1 [[.bool true],[.bool true]] 0),(611,.arr 3 1 [[.int .i64 ((1:Nat):Int)]] 0)]) sl ?_);refine AWp.sub (Sub.tailS (t:=8) (id':=612) rfl rfl rfl rfl) ?_;refine AWp.sub (st2:=mk [(0,I .i64 2),(1,usV),(7,.one (.hs 600 0 2 2)),(8,.one (.hs 612 0 0 0)),(9,I .i64 ((1:Nat):Int))] [(600,.arr 4 1 [[.bool true],[.bool true]] 0),(612,.arr 3 1 [] 0)]) sl ?_;refine sk 3 rfl (kc q ?_);refine kz 2 rfl (aE (aO 2 (rnd ?_)));refine sg rfl (aA (aB rfl (fun _=>aD (aA (aE (sgh [(0,.row 0 [.int .i64 ((0:Nat):Int)])] rfl (sgh [(3,.row 0 [.bool true])] rfl (aB rfl (fun hb=>Bool.noConfusion hb) (fun _=>aD (ag [] rfl (rnd ?_))))))))) (fun hb=>Bool.noConfusion hb)));refine sg rfl (aA (aB rfl (fun hb=>Bool.noConfusion hb) (fun _=>aG (rnd ?_))));refine aA (sg rfl (aB rfl (fun hb=>Bool.noConfusion hb) (fun _=>aG (AWp.sub (Sub.freeze (id:=600) rfl) ?_))));refine AWp.sub (st2:=mk [(7,.one (.c (.sl 1 [[.bool true],[.bool true]])))] []) ?_ ?_
 ·refine Sub.trans ?_ (cv 7 [[.bool true],[.bool true]]);exact sl
 exact sg rfl (aF rtT)
theorem aP3:aV Tryz.prog 114 [I .i64 2,usV,I .i64 ((1:Nat):Int)] [] (.one (.c (.sl 1 [[.bool true],[.bool true]]))) []:=by
 have g:=sZ 1 0 (by decide) rfl (by decide);have q:=sZ 0 1 (by decide) rfl (by decide);refine bF (n:=50) tok Tryz.func114 rfl rfl rfl ?_;refine sg rfl (sk 1 rfl (k_ (g_ rfl rfl (jS (m:=2) (c:=.bool false) (id:=600) tok rfl rfl (eC rfl) (tg rfl) rfl (tg rfl) rfl rfl rfl rfl (by decide) (by decide) rfl)) ?_));refine kz 1 rfl (sgh [(3,.row 1 [.bool false])] rfl (aA (sgh [(1,.id 610)] rfl (aE (aO 3 (rnd ?_))))));refine AWp.sub (st2:=mk [(0,I .i64 2),(1,usV),(7,.one (.hs 600 0 2 2)),(8,.one (.hs 610 0 1 1))] [(600,.arr 4 1 [[.bool false],[.bool true]] 0),(610,.arr 3 1 [[.int .i64 ((1:Nat):Int)]] 0)]) sl ?_;refine aA (sg rfl (aB rfl (fun _=>aD (aE (sgh [(2,.row 0 [.int .i64 ((1:Nat):Int)])] rfl (sk 1 rfl (k_ (g_ rfl rfl (uN 1 tok rfl rfl (eC rfl) (tg rfl) rfl (tg rfl) rfl rfl (hh:=rfl) (hsz:=rfl) (hlen:=rfl) (hy:=rfl) (hl:=⟨by decide,by decide⟩))) ?_))))) (fun hb=>Bool.noConfusion hb)));refine kz 1 rfl (AWp.sub (st2:=mk [(0,I .i64 2),(1,usV),(7,.one (.hs 600 0 2 2)),(8,.one (.tl 610 1 0 1)),(9,I .i64 ((1:Nat):Int))] [(600,.arr 4 1 [[.bool false],[.bool true]] 0),(610,.arr 3 1 [[.int .i64 ((1:Nat):Int)]] 0)]) sl ?_);refine AWp.sub (Sub.tailS (t:=8) (id':=611) rfl rfl rfl rfl) ?_;refine AWp.sub (st2:=mk [(0,I .i64 2),(1,usV),(7,.one (.hs 600 0 2 2)),(8,.one (.hs 611 0 0 0)),(9,I .i64 ((1:Nat):Int))] [(600,.arr 4 1 [[.bool false],[.bool true]] 0),(611,.arr 3 1 [] 0)]) sl ?_;refine sk 3 rfl (kc g ?_);refine kz 2 rfl (aE (aO 2 (rnd ?_)));refine sg rfl (aA (aB rfl (fun _=>aD (aA (aE (sgh [(0,.row 0 [.int .i64 ((0:Nat):Int)])] rfl (sgh [(3,.row 0 [.bool false])] rfl (aB rfl (fun _=>sgh [(3,.row 0 [.bool false])] rfl (ag [(2,.all)] rfl (ag [] rfl (rnd ?_)))) (fun hb=>Bool.noConfusion hb))))))) (fun hb=>Bool.noConfusion hb)));refine sg rfl (aA (aB rfl (fun hb=>Bool.noConfusion hb) (fun _=>aG (rnd ?_))));refine AWp.sub (st2:=mk [(0,I .i64 2),(1,usV),(7,.one (.hs 600 0 2 2)),(8,.one (.hs 611 0 1 1))] [(600,.arr 4 1 [[.bool true],[.bool true]] 0),(611,.arr 3 1 [[.int .i64 ((0:Nat):Int)]] 0)]) sl ?_;refine aA (sg rfl (aB rfl (fun _=>aD (aE (sgh [(2,.row 0 [.int .i64 ((0:Nat):Int)])] rfl (sk 1 rfl (k_ (g_ rfl rfl (uN 1 tok rfl rfl (eC rfl) (tg rfl) rfl (tg rfl) rfl rfl (hh:=rfl) (hsz:=rfl) (hlen:=rfl) (hy:=rfl) (hl:=⟨by decide,by decide⟩))) ?_))))) (fun hb=>Bool.noConfusion hb)));refine kz 1 rfl (AWp.sub (st2:=mk [(0,I .i64 2),(1,usV),(7,.one (.hs 600 0 2 2)),(8,.one (.tl 611 1 0 1)),(9,I .i64 ((0:Nat):Int))] [(600,.arr 4 1 [[.bool true],[.bool true]] 0),(611,.arr 3 1 [[.int .i64 ((0:Nat):Int)]] 0)]) sl ?_);refine AWp.sub (Sub.tailS (t:=8) (id':=612) rfl rfl rfl rfl) ?_;refine AWp.sub (st2:=mk [(0,I .i64 2),(1,usV),(7,.one (.hs 600 0 2 2)),(8,.one (.hs 612 0 0 0)),(9,I .i64 ((0:Nat):Int))] [(600,.arr 4 1 [[.bool true],[.bool true]] 0),(612,.arr 3 1 [] 0)]) sl ?_;refine sk 3 rfl (kc q ?_);refine kz 2 rfl (aE (aO 2 (rnd ?_)));refine sg rfl (aA (aB rfl (fun _=>aD (aA (aE (sgh [(0,.row 0 [.int .i64 ((1:Nat):Int)])] rfl (sgh [(3,.row 1 [.bool true])] rfl (aB rfl (fun hb=>Bool.noConfusion hb) (fun _=>aD (ag [] rfl (rnd ?_))))))))) (fun hb=>Bool.noConfusion hb)));refine sg rfl (aA (aB rfl (fun hb=>Bool.noConfusion hb) (fun _=>aG (rnd ?_))));refine aA (sg rfl (aB rfl (fun hb=>Bool.noConfusion hb) (fun _=>aG (AWp.sub (Sub.freeze (id:=600) rfl) ?_))));refine AWp.sub (st2:=mk [(7,.one (.c (.sl 1 [[.bool true],[.bool true]])))] []) ?_ ?_
 ·refine Sub.trans ?_ (cv 7 [[.bool true],[.bool true]]);exact sl
 exact sg rfl (aF rtT)
def ldR:List (List C):=[[.sl 1 [[.bool true],[.bool true]]],[.sl 1 [[.bool true],[.bool true]]]]
def ldO:AObj:=.var 202 [.c (.sl 1 ldR)]
def aEa:AObj:=.var 203 [.hs 620 0 2 2]
def tdA (a b:Bool):AObj:=.arr 4 1 [[.bool a],[.bool b]] 0
theorem aKt:aV Tryz.prog 115 ([I .i64 0]++[R.vp 5 0,R.vp 7 0].map V.one) [(5,ldO),(7,aEa),(620,tdA false false)] (B true) [(5,ldO),(7,aEa),(620,tdA false false)]:=by
 refine bF (n:=36) tok Tryz.func115 rfl rfl rfl ?_;refine sg rfl (aA (sgh [(2,.row 0 [.sl 1 [[.bool true],[.bool true]]])] rfl (aE (aO 3 (rnd ?_)))));refine sg rfl (aA (aB rfl (fun _=>aD (aA (aE (sgh [(1,.row 0 [.bool true])] rfl (sgh [(1,.bv true),(5,.row 0 [.bool false]),(7,.bv true),(8,.bv true),(11,.row 0 [.sl 1 [[.bool true],[.bool true]]]),(14,.row 0 [.bool true]),(17,.bv true)] rfl (aB rfl (fun hb=>Bool.noConfusion hb) (fun _=>aD (ag [] rfl (rnd ?_))))))))) (fun hb=>Bool.noConfusion hb)));refine AWp.sub (st2:=mk [(0,I .i64 0),(1,.one (.vp 5 0)),(2,.one (.vp 7 0)),(10,.one (.c (.sl 1 [[.bool true],[.bool true]]))),(11,I .i64 2),(12,I .i64 1)] [(5,ldO),(7,aEa),(620,tdA false false)]) sl ?_;refine sg rfl (aA (aB rfl (fun _=>aD (aA (aE (sgh [(1,.row 1 [.bool true])] rfl (sgh [(1,.bv true),(5,.row 1 [.bool false]),(7,.bv true),(8,.bv true),(11,.row 1 [.sl 1 [[.bool true],[.bool true]]]),(14,.row 0 [.bool true]),(17,.bv true)] rfl (aB rfl (fun hb=>Bool.noConfusion hb) (fun _=>aD (ag [] rfl (rnd ?_))))))))) (fun hb=>Bool.noConfusion hb)));refine AWp.sub (st2:=mk [(0,I .i64 0),(1,.one (.vp 5 0)),(2,.one (.vp 7 0)),(10,.one (.c (.sl 1 [[.bool true],[.bool true]]))),(11,I .i64 2),(12,I .i64 2)] [(5,ldO),(7,aEa),(620,tdA false false)]) sl ?_;exact sg rfl (aA (aB rfl (fun hb=>Bool.noConfusion hb) (fun _=>aG (sg rfl (aF rtT)))))
theorem aTy:aV Tryz.prog 73 [I .i64 2,usV] [] (.one (.c (.sl 1 [[.sl 1 [[.int .i64 0],[.int .i64 1]]]]))) []:=by
 have g:=aP4;have q:=aP3;have u:=aKt;refine bF (n:=77) tok Tryz.func73 rfl rfl rfl ?_;refine sg rfl (aDj 0 1 rfl ?_);refine sg rfl (AWp.sub (Sub.ownCell (x:=5) (k:=0) (id:=605) 203 1 rfl rfl rfl) ?_);refine aA (sg rfl (aE (aO 3 (rnd ?_))));refine sg rfl (aA (aB rfl (fun _=>aD (aA (aE (sg rfl (aC mixed (ak 4 [] rfl (kc g ?_))))))) (fun hb=>Bool.noConfusion hb)));refine ak 3 [(5,.all)] rfl (az (ag [] rfl (rnd ?_)));refine AWp.sub (st2:=mk [(0,I .i64 2),(1,usV),(5,.one (.vp 5 0)),(14,I .i64 2),(15,I .i64 1)] [(5,.var 202 [.hs 605 0 1 1]),(605,.arr 203 1 [[.sl 1 [[.bool true],[.bool true]]]] 0)]) sl ?_;refine sg rfl (aA (aB rfl (fun _=>aD (aA (aE (sg rfl (aC mixed (ak 4 [] rfl (kc q ?_))))))) (fun hb=>Bool.noConfusion hb)));refine ak 3 [(5,.all)] rfl (az (ag [] rfl (rnd ?_)));refine AWp.sub (st2:=mk [(0,I .i64 2),(1,usV),(5,.one (.vp 5 0)),(14,I .i64 2),(15,I .i64 2)] [(5,.var 202 [.hs 605 0 2 2]),(605,.arr 203 1 [[.sl 1 [[.bool true],[.bool true]]],[.sl 1 [[.bool true],[.bool true]]]] 0)]) sl ?_;refine sg rfl (aA (aB rfl (fun hb=>Bool.noConfusion hb) (fun _=>aG (AWp.sub (Sub.freeze (id:=605) rfl) ?_))));refine AWp.sub (Sub.varPure (x:=5) (cs:=[.sl 1 ldR]) rfl (.hs rfl rfl rfl .nil)) ?_;refine AWp.sub (st2:=mk [(0,I .i64 2),(1,usV),(5,.one (.vp 5 0))] [(5,ldO)]) sl ?_;refine sk 1 rfl (k_ (g_ rfl rfl (jS (m:=2) (c:=.bool false) (id:=620) tok rfl rfl (eC rfl) (tg rfl) rfl (tg rfl) rfl rfl rfl rfl (by decide) (by decide) rfl)) ?_);refine kz 2 rfl (sg rfl (sg rfl (AWp.sub (Sub.own (t:=9) (id:=630) 22 1 rfl rfl) ?_)));refine AWp.sub (st2:=mk [(0,I .i64 2),(5,.one (.vp 5 0)),(7,.one (.vp 7 0)),(8,.one (.clo 115 [.vp 5 0,.vp 7 0])),(9,.one (.hs 630 0 0 0))] [(5,ldO),(7,aEa),(620,tdA false false),(630,.arr 22 1 [] 0)]) sl ?_;refine aA (wU ?_);refine aA (sg rfl (aE (aO 1 (rnd ?_))));refine sg rfl (aA (aB rfl (fun _=>aD (aA (aE (sg rfl (aA (skh 7 [(3,.row 0 [.bool false]),(4,.bv false)] rfl (kvG u ?_))))))) (fun hb=>Bool.noConfusion hb)));refine ak 2 [(4,.bv false),(9,.bv false)] rfl (az (aB rfl (fun hb=>Bool.noConfusion hb) (fun _=>aD (sg rfl (AWp.sub (Sub.own (t:=11) (id:=640) 3 1 rfl rfl) ?_)))));refine aA (sgh [(2,.row 0 [.sl 1 [[.bool true],[.bool true]]])] rfl (aE (aO 3 (rnd ?_))));refine sg rfl (aA (aB rfl (fun _=>aD (aA (aE (sgh [(1,.row 0 [.bool true])] rfl (sgh [(1,.bv true),(4,.row 0 [.sl 1 [[.bool true],[.bool true]]]),(7,.row 0 [.bool true]),(9,.bv true)] rfl (aB rfl (fun _=>sgh [(2,.all)] rfl (ag [(3,.row 0 [.bool false])] rfl (ag [] rfl (rnd ?_)))) (fun hb=>Bool.noConfusion hb))))))) (fun hb=>Bool.noConfusion hb)));refine AWp.sub (st2:=mk [(0,I .i64 2),(5,.one (.vp 5 0)),(7,.one (.vp 7 0)),(8,.one (.clo 115 [.vp 5 0,.vp 7 0])),(9,.one (.hs 630 0 0 0)),(10,I .i64 0),(11,.one (.hs 640 0 1 1)),(46,.one (.c (.sl 1 [[.bool true],[.bool true]]))),(47,I .i64 2),(48,I .i64 1)] [(5,ldO),(7,aEa),(620,tdA true false),(630,.arr 22 1 [] 0),(640,.arr 3 1 [[.int .i64 0]] 0)]) sl ?_;refine sg rfl (aA (aB rfl (fun _=>aD (aA (aE (sgh [(1,.row 1 [.bool true])] rfl (sgh [(1,.bv true),(4,.row 1 [.sl 1 [[.bool true],[.bool true]]]),(7,.row 0 [.bool true]),(9,.bv true)] rfl (aB rfl (fun _=>sgh [(2,.all)] rfl (ag [(3,.row 1 [.bool false])] rfl (ag [] rfl (rnd ?_)))) (fun hb=>Bool.noConfusion hb))))))) (fun hb=>Bool.noConfusion hb)));refine AWp.sub (st2:=mk [(0,I .i64 2),(5,.one (.vp 5 0)),(7,.one (.vp 7 0)),(8,.one (.clo 115 [.vp 5 0,.vp 7 0])),(9,.one (.hs 630 0 0 0)),(10,I .i64 0),(11,.one (.hs 640 0 2 2)),(46,.one (.c (.sl 1 [[.bool true],[.bool true]]))),(47,I .i64 2),(48,I .i64 2)] [(5,ldO),(7,aEa),(620,tdA true true),(630,.arr 22 1 [] 0),(640,.arr 3 1 [[.int .i64 0],[.int .i64 1]] 0)]) sl ?_;refine sg rfl (aA (aB rfl (fun hb=>Bool.noConfusion hb) (fun _=>aG (AWp.sub (Sub.freeze (id:=640) rfl) ?_))));refine AWp.sub (st2:=mk [(0,I .i64 2),(5,.one (.vp 5 0)),(7,.one (.vp 7 0)),(8,.one (.clo 115 [.vp 5 0,.vp 7 0])),(9,.one (.hs 630 0 0 0)),(11,.one (.c (.sl 1 [[.int .i64 0],[.int .i64 1]])))] [(5,ldO),(7,aEa),(620,tdA true true),(630,.arr 22 1 [] 0)]) ?_ ?_
 ·refine Sub.trans ?_ (cv 11 [[.int .i64 0],[.int .i64 1]]);exact sl
 refine sgh [(2,.all)] rfl (aLz ⟨rfl,jmp ?_⟩);refine AWp.sub (st2:=mk [(0,I .i64 2),(7,.one (.vp 7 0)),(9,.one (.hs 630 0 1 1))] [(7,aEa),(620,tdA true true),(630,.arr 22 1 [[.sl 1 [[.int .i64 0],[.int .i64 1]]]] 0)]) sl ?_;refine aA (aD (aA (sg rfl (aE (aO 3 (rnd ?_))))));refine sg rfl (aA (aB rfl (fun _=>aD (aA (aE (sg rfl (aA (sgh [(3,.row 0 [.bool true]),(4,.bv true),(9,.bv true)] rfl (aB rfl (fun _=>aG (ag [] rfl (rnd ?_))) (fun hb=>Bool.noConfusion hb)))))))) (fun hb=>Bool.noConfusion hb)));refine AWp.sub (st2:=mk [(0,I .i64 2),(7,.one (.vp 7 0)),(9,.one (.hs 630 0 1 1)),(29,I .i64 2),(30,I .i64 1)] [(7,aEa),(620,tdA true true),(630,.arr 22 1 [[.sl 1 [[.int .i64 0],[.int .i64 1]]]] 0)]) sl ?_;refine sg rfl (aA (aB rfl (fun _=>aD (aA (aE (sg rfl (aA (sgh [(3,.row 1 [.bool true]),(4,.bv true),(9,.bv true)] rfl (aB rfl (fun _=>aG (ag [] rfl (rnd ?_))) (fun hb=>Bool.noConfusion hb)))))))) (fun hb=>Bool.noConfusion hb)));refine AWp.sub (st2:=mk [(0,I .i64 2),(7,.one (.vp 7 0)),(9,.one (.hs 630 0 1 1)),(29,I .i64 2),(30,I .i64 2)] [(7,aEa),(620,tdA true true),(630,.arr 22 1 [[.sl 1 [[.int .i64 0],[.int .i64 1]]]] 0)]) sl ?_;refine sg rfl (aA (aB rfl (fun hb=>Bool.noConfusion hb) (fun _=>aG (AWp.sub (Sub.freeze (id:=630) rfl) ?_))));refine AWp.sub (st2:=mk [(9,.one (.c (.sl 1 [[.sl 1 [[.int .i64 0],[.int .i64 1]]]])))] []) ?_ ?_
 ·refine Sub.trans ?_ (cv 9 [[.sl 1 [[.int .i64 0],[.int .i64 1]]]]);exact sl
 exact sg rfl (aF rtT)
end Go.Proofs.YtkhgpgihmphfdaaGreat
