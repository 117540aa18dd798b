/-
  Texts Sc7 to Sd9 in one.
-/
import Derived.Test.YtkhgpgihmphfdaaGreatM12
import Derived.LoopNIn
open List (append_assoc append_nil drop_drop drop_of_length_le drop_take length_append length_drop length_map length_nil length_take map_append map_nil take_add_one take_length take_zero)
open Nat (add_mul le_refl zero_add zero_le)
namespace Go.Proofs.YtkhgpgihmphfdaaGreat
open Go Go.AM
set_option maxRecDepth 20000
set_option maxHeartbeats 2000000
theorem yO (e:Ex) (hO:jL e) (q:exM e≤80000000):aU Tryz.prog 10 [.pa (bD e)] [] (bI (frR e)) []:=by
 have hw:aU Tryz.prog 27 [.pa (bD e),bI [],.one (.clo 28 [R.vp 900 0])] [(900,otO 0),(901,arO [])] (.tup []) [(900,otO (frR e).length),(901,arO (frR e))]:=yG _ e [] [] (le_refl _) hO (by rw[length_nil];omega) (by rw[length_nil];omega);generalize frR e=R at hw ⊢;have g:(R.map aR).length=R.length:=κ _;refine bC (n:=8) tok Tryz.func10 rfl rfl rfl ?_;refine sg rfl (sgh [(0,.id 900)] rfl (AWp.sub (Sub.ownCell (x:=900) (k:=0) (id:=901) 9 1 rfl rfl rfl) ?_));refine sk 2 rfl (kc hw ?_);refine az (AWp.sub (st2:=mk [(3,.one (.vp 900 0))] [(900,.var 26 [.hs 901 0 (R.map aR).length (R.map aR).length]),(901,.arr 9 1 (R.map aR) 0)]) (sl (hh:=⟨⟨_,rfl,Go.AM.Ole.var (by rw[g];rfl)⟩,⟨_,rfl,.arr⟩,trivial⟩)) ?_);refine AWp.sub (Sub.freeze (id:=901) rfl) ?_;refine sg rfl (AWp.sub (st2:=mk [(2,bI R)] []) ?_ ?_)
 ·refine Sub.trans ?_ (cv 2 (R.map aR));exact sl
 exact aF rtT
def aCo:List Str:=[[97,100,100],[115,117,98],[109,117,108],[100,105,118],[101,113],[108,116]]
theorem aBi:aU Tryz.prog 14 [] [] (bI aCo) []:=by
 refine bC (n:=2) tok Tryz.func14 rfl rfl rfl ?_;exact sg rfl (sgh [(0,.all)] rfl (aF rtT))
theorem aG6:aU Tryz.prog 15 [] [] (bI aCo) []:=by
 refine bC (n:=2) tok Tryz.func15 rfl rfl rfl ?_;exact sg rfl (sgh [(0,.all)] rfl (aF rtT))
theorem aTx (l:List Str) (s:Str) (hl:l.length≤600000000000):aU Tryz.prog 18 [.one (.hs 710 0 l.length l.length),Go.AM.T s] [(710,.arr 9 1 (l.map aR) 0)] (B (decide (s∈l))) [(710,.arr 9 1 (l.map aR) 0)]:=by
 refine bC (n:=18) tok Tryz.func18 rfl rfl rfl ?_;refine sg rfl (aA (sg rfl (aE (aL (fun k:Nat=>mk [(0,.one (.hs 710 0 l.length l.length)),(1,Go.AM.T s),(5,I .i64 k)] [(710,.arr 9 1 (l.map aR) 0)]) (fun k=>k≤l.length∧s∉l.take k) (fun k=>l.length-k) 0 ⟨Ac _,by simp⟩ sl ?_))));intro k ⟨J,hm⟩;refine aA (sg rfl (aB rfl (fun hb=>?_) (fun hb=>?_)))
 ·refine aD ?_;have q:k<l.length:=by have:=χ hb;omega
  obtain⟨x,hx⟩:=aM q;have A:=b9 aR hx;have E:(l.map aR).length=l.length:=κ _;refine aA (aE (sgh [(3,.row k (aR x))] rfl (aB rfl (fun hb=>?_) (fun hb=>?_))))
  ·refine sg rfl ?_;have g:x=s:=χ hb;have:s∈l:=by rw[←g];exact Af hx
   rw[φ this];exact aF rtT
  ·refine aD (ag [] rfl ⟨k+1,⟨q,?_⟩,by dsimp only;omega,sl⟩);rw[Be,hx];have g:¬x=s:=Ad hb;have u:¬s=x:=fun e=>g e.symm
   simp[hm,u]
 ·refine aG ?_;have y:k=l.length:=by
   have:¬((k:Int)<(l.length:Int)):=Ad hb;omega
  refine sg rfl ?_;rw[y,Ao] at hm;rw[ψ hm];exact aF rtT
theorem tK:∀(k:Nat) (p:Pt),psz p≤k→ptB p→psz p≤100000000→aU Tryz.prog 13 [.pa (bK p)] [] (bI (vaR p)) []
 | 0,p,h,_,_=>by cases p;rw[psz] at h;omega
 | k+1,p,h,hB,Y=>by
  obtain⟨f,pl,n,s,l⟩:=p;rw[psz] at h Y;have ab:=hB.1;have y:(qO (.mk f pl n s l)).length=l.length:=by rw[j4,κ];rfl
  rw[vaR];obtain⟨A,q,E⟩:∃A:List Str,A=(if f=2 then [s] else [])∧A.length≤1:=⟨_,rfl,by split<;>first | exact le_refl _ | exact Ac _⟩
  rw[←q];have ac:(A.map aR).length≤1:=by rw[κ];exact E
  refine bC (n:=29) tok Tryz.func13 rfl rfl rfl ?_;refine sg rfl (sg rfl (AWp.sub (Sub.own (t:=3) (id:=500) 9 1 rfl rfl) ?_));refine aA (AWp.cut (mk [(1,.one (.vp 1 0)),(3,.one (.hs 500 0 (A.map aR).length (A.map aR).length))] [(1,.var 43 ((bK (.mk f pl n s l)).map .c)),(500,.arr 9 1 (A.map aR) 0)]) ?_ ?_)
  ·refine sg rfl ?_;by_cases u:f=2
   ·have d:decide (f=2)=true:=φ u;rw[θ u] at q;subst q;exact aB rfl (fun _=>ag [(3,.all)] rfl sl) (fun hb=>Bool.noConfusion (hb.symm.trans d))
   ·have d:decide (f=2)=false:=ψ u;rw[ξ u] at q;subst q;exact aB rfl (fun hb=>Bool.noConfusion (hb.symm.trans d)) (fun _=>aD sl)
  refine aA (sg rfl (aE (aL (fun i:Nat=>mk [(1,.one (.vp 1 0)),(3,.one (.hs 500 0 ((A++hY (l.take i)).map aR).length ((A++hY (l.take i)).map aR).length)),(4,I .i64 (i:Nat))] [(1,.var 43 ((bK (.mk f pl n s l)).map .c)),(500,.arr 9 1 ((A++hY (l.take i)).map aR) 0)]) (fun i=>i≤l.length) (fun i=>l.length-i) 0 (Ac _) (by rw[B5,hY,Az];exact sl) ?_)));intro i hi;have ad:=nP l i;refine aA (sg rfl (aB rfl (fun hb=>?_) (fun hb=>?_)))
  ·have B:=ltD hb y;obtain⟨x,hx⟩:=aM B;have ae:(qO (.mk f pl n s l))[i]?=some (bK x):=by rw[j4];exact b9 bK hx
   have hm:=Af hx;have aa:=nC hm;have hc:=tK k x (by omega) (m8 hB.2 x hm) (by omega);have af:=oU (psz x) x (le_refl _);have J:A++hY (l.take (i+1))=(A++hY (l.take i))++vaR x:=by rw[cJ hx,rV,Am]
   have g:((A++hY (l.take i)).map aR)++(vaR x).map aR=(A++hY (l.take (i+1))).map aR:=by rw[J,Ai (l₁:=A++hY (l.take i))]
   have hle:((A++hY (l.take (i+1))).map aR).length=((A++hY (l.take i)).map aR).length+((vaR x).map aR).length:=by rw[←g,ζ]
   have M:((A++hY (l.take i)).map aR).length≤100000001:=by rw[κ,ζ];omega
   have O:((vaR x).map aR).length≤100000000:=by rw[κ];omega
   generalize (A++hY (l.take i)).map aR=R at g hle M ⊢;generalize vaR x=V at hc g hle O;refine aD (aA (aE (aC mixed (ak 6 [(4,.row i (bK x))] rfl (kc hc ?_)))));exact kz 2 rfl (agN [] rfl ⟨i+1,B,by dsimp only;omega,sl (he:=⟨rfl,Go.AM.hs_ren (by rw[hle]) (by rw[hle]),rfl,trivial⟩) (hh:=⟨⟨_,rfl,Go.AM.Ole.var rfl⟩,⟨_,rfl,.arrS g⟩,trivial⟩)⟩)
  ·have U:=geD hb y hi;subst U;refine aG ?_;rw[Ao];refine AWp.sub (Sub.freeze (id:=500) rfl) ?_;refine AWp.sub (st2:=mk [(3,bI (A++hY l))] []) ?_ ?_
   ·refine Sub.trans ?_ (cv 3 ((A++hY l).map aR));exact sl
   exact sg rfl (aF rtT)
def cG (e:Ex):List C:=[.str e.name,.int .i64 e.pl]
def opV (l:List Ex):V:=.one (.c (.sl 2 (l.map cG)))
def pt5 (f:Int) (ps:List Pt):List Pt:=if f=5 then ps else []
def va7 (f:Int) (ps:List Pt) (i:Nat):List Str:=if f=7∧0<i then((ps[i-1]?).map vaR).getD [] else []
theorem aOo {f:Int}{y:List Bd}(h:f=6∨y=[]) (ps:List Pt) (u:List Str) (i:Nat):u++bnR y++(pt5 f ps).map Pt.name++va7 f ps i=u++gvR f ps (bnR y) i:=by
 unfold pt5 va7 gvR;by_cases A:f=6
 ·rw[ξ (by omega),ξ (fun k=>by omega),θ A,map_nil,Az,Az]
 ·rcases h with h | h
  ·exact absurd h A
  ·subst h;rw[ξ A];by_cases g:f=7∧0<i
   ·rw[ξ (by omega),θ g,θ g];simp[bnR]
   ·rw[ξ g,ξ g];by_cases q:f=5
    ·rw[θ q,θ q];simp[bnR]
    ·rw[ξ q,ξ q];simp[bnR]
theorem aJv {f:Int}{g:List Bd}(h:f=6∨g=[]) (ps:List Pt) (q:List Str) (i:Nat):tdB (g.take i) (q++bnR g++(pt5 f ps).map Pt.name)=tdB (g.take i) (q++bnR g):=by
 rcases h with h | h
 ·unfold pt5;rw[ξ (by omega),map_nil,Az]
 ·subst h;rw[List.take_nil,tdB,tdB]
theorem aNw (f:Int) (ps:List Pt) (i:Nat):(va7 f ps i).length≤l8 ps:=by
 unfold va7;split
 ·cases h:ps[i-1]? with
  | none=>exact Ac _
  | some p=>
   have h1:=oU (psz p) p (le_refl _);have h2:=nC (Af h);show(vaR p).length≤_;omega
 ·exact Ac _
theorem yK:∀(k:Nat) (e:Ex) (u:List Str),exM e≤k→jL e→exB e→u.length+exM e≤90000000→aU Tryz.prog 30 [.pa (bD e),bI u] [] (opV (tdE e u)) []
 | 0,e,u,hk,_,_,_=>by cases e;rw[exM] at hk;omega
 | k+1,e,u,hk,hO,hB,hi=>by
  have hhs:=aHc u e.name (by unfold Fits;omega);obtain⟨f,pl,n,s,ks,ps,y,g⟩:=e;rw[exM] at hk hi;obtain⟨⟨M,aa,hl3⟩,hsg,⟨ar1,ar2,ar3⟩,hps,hks,hbs⟩:=hO;obtain⟨h6,hBk,hBb⟩:=hB;rw[show(Ex.mk f pl n s ks ps y g).name=s from rfl] at hhs;have hkB:(cN y).length=y.length:=by rw[cR,κ]
  have hkK:(j5 (.mk f pl n s ks ps y g)).length=ks.length:=by rw[i6,κ];rfl
  have hkP:(ps.map bK).length=ps.length:=κ _;have hinl:(u.map aR).length=u.length:=κ _;have hpl:=sH ps;obtain⟨T0,J⟩:∃T,T=(if f=1∧¬s∈u then [Ex.mk f pl n s ks ps y g] else []):=⟨_,rfl⟩
  have hT0l:T0.length≤1:=by rw[J];split<;>first | exact le_refl _ | exact Ac _
  rw[tdE,←J];have hT1:(T0.map cG).length≤1:=by rw[κ];exact hT0l
  refine bC (n:=123) tok Tryz.func30 rfl rfl rfl ?_;refine sg rfl (sg rfl (AWp.sub (Sub.own (t:=5) (id:=510) 70 2 rfl rfl) ?_));refine aA (AWp.cut (mk [(1,bI u),(2,.one (.vp 2 0)),(5,.one (.hs 510 0 (T0.map cG).length (T0.map cG).length))] [(2,.var 35 ((bD (.mk f pl n s ks ps y g)).map .c)),(510,.arr 70 2 (T0.map cG) 0)]) ?_ ?_)
  ·by_cases hf:f=1
   ·have df:decide (f=1)=true:=φ hf;refine skh 7 [(3,.bv true)] rfl (kcG hhs ?_);refine ak 2 [(3,.bv true),(9,.bv true)] rfl (az ?_);by_cases hs:s∈u
    ·have ds:(!decide (s∈u))=false:=by rw[φ hs];rfl
     rw[ξ (fun k=>k.2 hs)] at J;subst J;exact aB rfl (fun hb=>Bool.noConfusion (hb.symm.trans ds)) (fun _=>aD sl)
    ·have ds:(!decide (s∈u))=true:=by rw[ψ hs];rfl
     rw[θ ⟨hf,hs⟩] at J;subst J;exact aB rfl (fun _=>ag [(6,.all)] rfl sl) (fun hb=>Bool.noConfusion (hb.symm.trans ds))
   ·have df:decide (f=1)=false:=ψ hf;rw[ξ (fun k=>hf k.1)] at J;subst J;exact sgh [(3,.bv false),(9,.bv false)] rfl (aB rfl (fun hb=>Bool.noConfusion hb) (fun _=>aD sl))
  clear J hhs;refine sg rfl (AWp.sub (Sub.own (t:=6) (id:=511) 9 1 rfl rfl) ?_);refine sg rfl (AWp.sub (st2:=mk [(1,bI u),(2,.one (.vp 2 0)),(5,.one (.hs 510 0 (T0.map cG).length (T0.map cG).length)),(6,.one (.hs 511 0 (u.map aR).length (u.map aR).length))] [(2,.var 35 ((bD (.mk f pl n s ks ps y g)).map .c)),(510,.arr 70 2 (T0.map cG) 0),(511,.arr 9 1 (u.map aR) 0)]) (sl (he:=⟨rfl,rfl,rfl,Go.AM.hs_ren (by simp) (by simp),trivial⟩)) ?_);refine aA (sg rfl (aE (aL (fun i:Nat=>mk [(1,bI u),(2,.one (.vp 2 0)),(5,.one (.hs 510 0 (T0.map cG).length (T0.map cG).length)),(6,.one (.hs 511 0 ((u++bnR (y.take i)).map aR).length ((u++bnR (y.take i)).map aR).length)),(7,I .i64 (i:Nat))] [(2,.var 35 ((bD (.mk f pl n s ks ps y g)).map .c)),(510,.arr 70 2 (T0.map cG) 0),(511,.arr 9 1 ((u++bnR (y.take i)).map aR) 0)]) (fun i=>i≤y.length) (fun i=>y.length-i) 0 (Ac _) (by rw[B5,show bnR []=[] from rfl,Az];exact sl) ?_)));intro i hib;refine aA (sg rfl (aB rfl (fun hb=>?_) (fun hb=>?_)))
  ·have E:=ltD hb hkB;obtain⟨b,O⟩:=aM E;have hx':(cN y)[i]?=some (b6 b):=by rw[cR];exact b9 b6 O
   have U:u++bnR (y.take (i+1))=(u++bnR (y.take i))++[b.name]:=by rw[aBk O,Am]
   have B:((u++bnR (y.take i)).map aR)++[[.str b.name]]=(u++bnR (y.take (i+1))).map aR:=by rw[U,Ai (l₁:=u++bnR (y.take i))];rfl
   have hle:((u++bnR (y.take (i+1))).map aR).length=((u++bnR (y.take i)).map aR).length+1:=by rw[←B,ζ];rfl
   have M:((u++bnR (y.take i)).map aR).length≤90000000:=by unfold bnR;rw[κ,ζ,κ,Aj];omega
   obtain⟨nm,bpl,has,sgn,be⟩:=b;rw[show(Bd.mk nm bpl has sgn be).name=nm from rfl] at B;generalize (u++bnR (y.take i)).map aR=R at B hle M ⊢;exact aD (aA (aE (ag [(4,.row i (b6 (.mk nm bpl has sgn be))),(7,.all)] rfl (agN [] rfl ⟨i+1,E,by dsimp only;omega,sl (he:=⟨rfl,rfl,rfl,Go.AM.hs_ren (by rw[hle];rfl) (by rw[hle];rfl),rfl,trivial⟩) (hh:=⟨⟨_,rfl,Go.AM.Ole.var rfl⟩,⟨_,rfl,.arr⟩,⟨_,rfl,.arrS B⟩,trivial⟩)⟩))))
  have Y:=geD hb hkB hib;subst Y;clear hb hib;refine aG ?_;rw[Ao];have hbl:(bnR y).length=y.length:=by unfold bnR;rw[κ]
  have hol:(u++bnR y).length=u.length+y.length:=by rw[ζ,hbl]
  have hQl:(pt5 f ps).length≤ps.length:=by unfold pt5;split<;>first | exact le_refl _ | exact Ac _
  have hkid:=aOo h6 ps u;have ac:=aJv h6 ps u;generalize hA:u++bnR y=A at hol hkid ac ⊢;refine aA (sg rfl (aE (aL (fun i:Nat=>mk [(1,bI u),(2,.one (.vp 2 0)),(5,.one (.hs 510 0 (T0.map cG).length (T0.map cG).length)),(6,.one (.hs 511 0 ((A++((pt5 f ps).take i).map Pt.name).map aR).length ((A++((pt5 f ps).take i).map Pt.name).map aR).length)),(8,I .i64 (i:Nat))] [(2,.var 35 ((bD (.mk f pl n s ks ps y g)).map .c)),(510,.arr 70 2 (T0.map cG) 0),(511,.arr 9 1 ((A++((pt5 f ps).take i).map Pt.name).map aR) 0)]) (fun i=>i≤(pt5 f ps).length) (fun i=>(pt5 f ps).length-i) 0 (Ac _) (by rw[B5,map_nil,Az];exact sl) ?_)));intro i ab;refine aA (aA (agF 6 [] rfl rfl rfl (aB rfl (fun hb=>?_) (fun hb=>?_))))
  ·have hb2:i<ps.length∧f=5:=by have h:=hb;simp at h;exact h
   have h5:pt5 f ps=ps:=θ hb2.2;rw[h5] at ab ⊢;have E:i<ps.length:=hb2.1;obtain⟨p,hp⟩:=aM E;have hp':=b9 bK hp;have U:A++(ps.take (i+1)).map Pt.name=(A++(ps.take i).map Pt.name)++[p.name]:=by rw[cJ hp,Ai,Am];rfl
   have B:((A++(ps.take i).map Pt.name).map aR)++[[.str p.name]]=(A++(ps.take (i+1)).map Pt.name).map aR:=by rw[U,Ai (l₁:=A++(ps.take i).map Pt.name)];rfl
   have hle:((A++(ps.take (i+1)).map Pt.name).map aR).length=((A++(ps.take i).map Pt.name).map aR).length+1:=by rw[←B,ζ];rfl
   have M:((A++(ps.take i).map Pt.name).map aR).length≤90000000:=by rw[κ,ζ,κ,Aj];omega
   generalize (A++(ps.take i).map Pt.name).map aR=R at B hle M ⊢;exact aD (aA (aE (ag [(4,.row i (bK p)),(7,.all)] rfl (agN [] rfl ⟨i+1,E,by dsimp only;omega,sl (he:=⟨rfl,rfl,rfl,Go.AM.hs_ren (by rw[hle];rfl) (by rw[hle];rfl),rfl,trivial⟩) (hh:=⟨⟨_,rfl,Go.AM.Ole.var rfl⟩,⟨_,rfl,.arr⟩,⟨_,rfl,.arrS B⟩,trivial⟩)⟩))))
  have Y:i=(pt5 f ps).length:=by
   have hb2:i<ps.length→¬f=5:=by have h:=hb;simp at h;exact h
   unfold pt5 at ab ⊢;split
   ·rename_i h5;rw[θ h5] at ab;have:¬i<ps.length:=fun k=>hb2 k h5
    omega
   ·rename_i h5;rw[ξ h5] at ab;have:i≤0:=ab;show i=0;omega
  subst Y;clear hb ab;refine aG ?_;rw[Ao];have hol2:(A++(pt5 f ps).map Pt.name).length≤u.length+y.length+ps.length:=by rw[ζ,κ];omega
  generalize hO:A++(pt5 f ps).map Pt.name=own at hol2 hkid ac ⊢;have hown:(own.map aR).length=own.length:=κ _;refine AWp.sub (Sub.freeze (id:=511) rfl) ?_;refine AWp.sub (st2:=mk [(2,.one (.vp 2 0)),(5,.one (.hs 510 0 (T0.map cG).length (T0.map cG).length)),(6,bI own)] [(2,.var 35 ((bD (.mk f pl n s ks ps y g)).map .c)),(510,.arr 70 2 (T0.map cG) 0)]) ?_ ?_
  ·refine Sub.trans ?_ (cv 6 (own.map aR));exact sl
  refine aA (sg rfl (aE (aL (fun i:Nat=>mk [(2,.one (.vp 2 0)),(5,.one (.hs 510 0 ((T0++tdB (y.take i) own).map cG).length ((T0++tdB (y.take i) own).map cG).length)),(6,bI own),(9,I .i64 (i:Nat))] [(2,.var 35 ((bD (.mk f pl n s ks ps y g)).map .c)),(510,.arr 70 2 ((T0++tdB (y.take i) own).map cG) 0)]) (fun i=>i≤y.length) (fun i=>y.length-i) 0 (Ac _) (by rw[B5,tdB,Az];exact sl) ?_)));intro i hib;refine aA (sg rfl (aB rfl (fun hb=>?_) (fun hb=>?_)))
  ·have E:=ltD hb hkB;obtain⟨b,O⟩:=aM E;have hx':(cN y)[i]?=some (b6 b):=by rw[cR];exact b9 b6 O
   have hm:=Af O;have hbo:=fL.1 hbs b hm;have hbo2:jL b.body:=by cases b;exact hbo.2
   have hbb:exB b.body:=by have:=aBp hBb b hm;cases b;exact this
   have hsz:=mS O;have hQ0:own.length+exM b.body≤90000000:=by
    rcases h6 with h | h
    ·have:(pt5 f ps).length=0:=by unfold pt5;rw[ξ (by omega)];rfl
     rw[←hO,ζ,κ];omega
    ·subst h;cases E
   have ih:=yK k b.body own (by omega) hbo2 hbb hQ0;have htl:=jS (y.take i) own;have htb:=qW b.body own;have U:T0++tdB (y.take (i+1)) own=(T0++tdB (y.take i) own)++tdE b.body own:=by rw[cJ O,rY,Am]
   have B:((T0++tdB (y.take i) own).map cG)++(tdE b.body own).map cG=(T0++tdB (y.take (i+1)) own).map cG:=by rw[U,Ai (l₁:=T0++tdB (y.take i) own)]
   have hle:((T0++tdB (y.take (i+1)) own).map cG).length=((T0++tdB (y.take i) own).map cG).length+((tdE b.body own).map cG).length:=by rw[←B,ζ]
   have M:((T0++tdB (y.take i) own).map cG).length≤90000001:=by rw[κ,ζ];omega
   have aa:((tdE b.body own).map cG).length≤90000000:=by rw[κ];omega
   obtain⟨nm,bpl,has,sgn,be⟩:=b;rw[show(Bd.mk nm bpl has sgn be).body=be from rfl] at ih B hle aa;generalize (T0++tdB (y.take i) own).map cG=R at B hle M ⊢;generalize tdE be own=V at ih B hle aa;refine aD (aA (aE (aC mixed (ak 8 [(4,.row i (b6 (.mk nm bpl has sgn be)))] rfl (kc ih ?_)))));exact kz 2 rfl (agN [] rfl ⟨i+1,E,by dsimp only;omega,sl (he:=⟨rfl,Go.AM.hs_ren (by rw[hle]) (by rw[hle]),rfl,rfl,trivial⟩) (hh:=⟨⟨_,rfl,Go.AM.Ole.var rfl⟩,⟨_,rfl,.arrS B⟩,trivial⟩)⟩)
  have Y:=geD hb hkB hib;subst Y;clear hb hib;refine aG ?_;rw[Ao];have hbd:=ac y.length;rw[Ao] at hbd;rw[←hbd];have htl:=jS y own;have hT1l:(T0++tdB y own).length≤1+aDf y:=by rw[ζ];omega
  generalize T0++tdB y own=T1 at hT1l ⊢;refine aA (sg rfl (aE (aL (fun i:Nat=>mk [(2,.one (.vp 2 0)),(5,.one (.hs 510 0 ((T1++tdK f ps (bnR y) 0 (ks.take i) u).map cG).length ((T1++tdK f ps (bnR y) 0 (ks.take i) u).map cG).length)),(6,bI own),(10,I .i64 (i:Nat))] [(2,.var 35 ((bD (.mk f pl n s ks ps y g)).map .c)),(510,.arr 70 2 ((T1++tdK f ps (bnR y) 0 (ks.take i) u).map cG) 0)]) (fun i=>i≤ks.length) (fun i=>ks.length-i) 0 (Ac _) (by rw[B5,tdK,Az];exact sl) ?_)));intro i hik;refine aA (sg rfl (aB rfl (fun hb=>?_) (fun hb=>?_)))
  ·have E:=ltD hb hkK;obtain⟨x,hx⟩:=aM E;have hx':(j5 (.mk f pl n s ks ps y g))[i]?=some (bD x):=by rw[i6];exact b9 bD hx
   have hm:=Af hx;have hxo:=oM hks x hm;have hxb:=aA0 hBk x hm;have hsz:=mG hx;have hkd:=hkid i;have hvl:=aNw f ps i;have hgl:=aF2 f ps y i;have hOl:(own++va7 f ps i).length≤u.length+y.length+l8 ps:=by
    rw[hkd,ζ];omega
   have ih:=yK k x (own++va7 f ps i) (by omega) hxo hxb (by omega);rw[hkd] at ih;have htl2:=oY f ps (bnR y) (ks.take i) 0 u;have htx:=qW x (u++gvR f ps (bnR y) i);have hit:(ks.take i).length=i:=by rw[Aj];omega
   have U:T1++tdK f ps (bnR y) 0 (ks.take (i+1)) u=(T1++tdK f ps (bnR y) 0 (ks.take i) u)++tdE x (u++gvR f ps (bnR y) i):=by rw[cJ hx,rX,Am,hit,A4]
   have B:((T1++tdK f ps (bnR y) 0 (ks.take i) u).map cG)++(tdE x (u++gvR f ps (bnR y) i)).map cG=(T1++tdK f ps (bnR y) 0 (ks.take (i+1)) u).map cG:=by rw[U,Ai (l₁:=T1++tdK f ps (bnR y) 0 (ks.take i) u)]
   have hle:((T1++tdK f ps (bnR y) 0 (ks.take (i+1)) u).map cG).length=((T1++tdK f ps (bnR y) 0 (ks.take i) u).map cG).length+((tdE x (u++gvR f ps (bnR y) i)).map cG).length:=by rw[←B,ζ]
   have M:((T1++tdK f ps (bnR y) 0 (ks.take i) u).map cG).length≤90000001:=by rw[κ,ζ];omega
   have aa:((tdE x (u++gvR f ps (bnR y) i)).map cG).length≤90000000:=by rw[κ];omega
   rw[←hkd] at ih B hle aa;generalize (T1++tdK f ps (bnR y) 0 (ks.take i) u).map cG=R at B hle M ⊢;generalize tdE x (own++va7 f ps i)=V at ih B hle aa;refine aD (aA (aE (sg rfl (AWp.sub (Sub.own (t:=11) (id:=512) 9 1 rfl rfl) ?_))));refine sg rfl (AWp.sub (st2:=mk [(2,.one (.vp 2 0)),(5,.one (.hs 510 0 R.length R.length)),(6,bI own),(10,I .i64 (i:Nat)),(11,.one (.hs 512 0 (own.map aR).length (own.map aR).length))] [(2,.var 35 ((bD (.mk f pl n s ks ps y g)).map .c)),(510,.arr 70 2 R 0),(512,.arr 9 1 (own.map aR) 0)]) (sl (he:=⟨rfl,rfl,rfl,rfl,Go.AM.hs_ren (by simp) (by simp),trivial⟩)) ?_);refine aA (AWp.cut (mk [(2,.one (.vp 2 0)),(5,.one (.hs 510 0 R.length R.length)),(6,bI own),(10,I .i64 (i:Nat)),(11,.one (.hs 512 0 ((own++va7 f ps i).map aR).length ((own++va7 f ps i).map aR).length))] [(2,.var 35 ((bD (.mk f pl n s ks ps y g)).map .c)),(510,.arr 70 2 R 0),(512,.arr 9 1 ((own++va7 f ps i).map aR) 0)]) ?_ ?_)
   ·by_cases h7:f=7∧0<i
    ·obtain⟨h7,h0⟩:=h7;obtain⟨q,rfl⟩:∃q,i=q+1:=⟨i-1,by omega⟩
     have hq:q<ps.length:=by have:=ar3 h7;omega
     obtain⟨p,hp⟩:=aM hq;have hp':=b9 bK hp;have hpm:=Af hp;have hszm:=zW hpm;have hv:=tK _ p (le_refl _) (m8 hps p hpm) (by omega);have hva:va7 f ps (q+1)=vaR p:=by unfold va7;rw[θ ⟨h7,h0⟩,show q+1-1=q from rfl,hp];rfl
     rw[hva] at hvl ⊢;have d7:decide (f=7)=true:=φ h7;have d:decide ((0:Int)<((q+1:Nat):Int))=true:=φ (by omega);have hr1:own.map aR++(vaR p).map aR=(own++vaR p).map aR:=(Ai).symm;have hr2:((own++vaR p).map aR).length=(own.map aR).length+((vaR p).map aR).length:=by rw[←hr1,ζ]
     have hr3:((vaR p).map aR).length≤90000000:=by rw[κ];omega
     have hr4:(own.map aR).length≤90000000:=by omega
     generalize vaR p=W at hv hr1 hr2 hr3 ⊢;refine sgh [(3,.bv true),(6,.bv true)] rfl (aB rfl (fun _=>aC mixed (akN 7 [(5,.row q (bK p)),(6,.row q (bK p))] rfl (kc hv ?_))) (fun hb=>Bool.noConfusion (hb.symm.trans d)));exact kz 2 rfl (sl (he:=⟨rfl,rfl,rfl,rfl,Go.AM.hs_ren (by rw[hr2]) (by rw[hr2]),trivial⟩) (hh:=⟨⟨_,rfl,Go.AM.Ole.var rfl⟩,⟨_,rfl,.arr⟩,⟨_,rfl,.arrS hr1⟩,trivial⟩))
    ·have hva:va7 f ps i=[]:=ξ h7;rw[hva,Az];by_cases h:f=7
     ·have d7:decide (f=7)=true:=φ h;have dk:decide ((0:Int)<(i:Int))=false:=ψ (fun q=>h7 ⟨h,by omega⟩);exact sgh [(3,.bv true),(6,.bv true)] rfl (aB rfl (fun hb=>Bool.noConfusion (hb.symm.trans dk)) (fun _=>aD sl))
     ·have d7:decide (f=7)=false:=ψ h;exact sgh [(3,.bv false),(6,.bv false)] rfl (aB rfl (fun hb=>Bool.noConfusion hb) (fun _=>aD sl))
   generalize own++va7 f ps i=O2 at ih ⊢;refine AWp.sub (Sub.freeze (id:=512) rfl) ?_;refine AWp.sub (st2:=mk [(2,.one (.vp 2 0)),(5,.one (.hs 510 0 R.length R.length)),(6,bI own),(10,I .i64 (i:Nat)),(11,bI O2)] [(2,.var 35 ((bD (.mk f pl n s ks ps y g)).map .c)),(510,.arr 70 2 R 0)]) ?_ ?_
   ·refine Sub.trans ?_ (cv 11 (O2.map aR));exact sl
   refine aC mixed (ak 7 [(4,.row i (bD x))] rfl (kc ih ?_));exact kz 2 rfl (agN [] rfl ⟨i+1,E,by dsimp only;omega,sl (he:=⟨rfl,Go.AM.hs_ren (by rw[hle]) (by rw[hle]),rfl,rfl,trivial⟩) (hh:=⟨⟨_,rfl,Go.AM.Ole.var rfl⟩,⟨_,rfl,.arrS B⟩,trivial⟩)⟩)
  have Y:=geD hb hkK hik;subst Y;refine aG ?_;rw[Ao];generalize T1++tdK f ps (bnR y) 0 ks u=T2;refine AWp.sub (Sub.freeze (id:=510) rfl) ?_;refine AWp.sub (st2:=mk [(5,opV T2)] []) ?_ ?_
  ·refine Sub.trans ?_ (cv 5 (T2.map cG));exact sl
  exact sg rfl (aF rtT)
theorem aP3 (l:List Str) (s:Str) (hl:l.length≤600000000000):aU Tryz.prog 18 [.one (.hs 500 0 l.length l.length),Go.AM.T s] [(500,.arr 9 1 (l.map aR) 0)] (B (decide (s∈l))) [(500,.arr 9 1 (l.map aR) 0)]:=(aTx l s hl).swap 710 500
theorem aKw (e:Ex) (hO:jL e) (hB:exB e) (Y:exM e≤80000000):aU Tryz.prog 11 [.pa (bD e)] [] (bI (frR e)) []:=by
 have ho:aU Tryz.prog 30 [.pa (bD e),bI []] [] (opV (tdE e [])) []:=yK _ e [] (le_refl _) hO hB (by rw[length_nil];omega);have B:=qW e [];have E:frR e=ddE [] (tdE e []):=rfl;rw[E];generalize tdE e []=D at ho B ⊢;have u:(D.map cG).length=D.length:=κ _;refine bC (n:=31) tok Tryz.func11 rfl rfl rfl ?_;refine sg rfl (sk 1 rfl (kc ho ?_));refine kz 1 rfl (sg rfl (AWp.sub (Sub.own (t:=4) (id:=500) 9 1 rfl rfl) ?_));refine aA (sg rfl (aE (aL (fun i:Nat=>mk [(3,opV D),(4,.one (.hs 500 0 (ddE [] (D.take i)).length (ddE [] (D.take i)).length)),(5,I .i64 (i:Nat))] [(500,.arr 9 1 ((ddE [] (D.take i)).map aR) 0)]) (fun i=>i≤D.length) (fun i=>D.length-i) 0 (Ac _) sl ?_)));intro i hi;refine aA (sg rfl (aB rfl (fun hb=>?_) (fun hb=>?_)))
 ·have q:=ltD hb u;obtain⟨x,hx⟩:=aM q;have O:=b9 cG hx;have y:=pY [] (D.take i);have U:(D.take i).length≤D.length:=by rw[Aj];omega
  rw[length_nil] at y;have g:ddE [] (D.take (i+1))=ddS (ddE [] (D.take i)) x.name:=by rw[cJ hx,pZ];rfl
  generalize ddE [] (D.take i)=L at y g ⊢;have J:(L.map aR).length=L.length:=κ _;have hh:=aP3 L x.name (by omega);refine aD (aA (aE (skh 6 [(3,.row i (cG x))] rfl (kc hh ?_))));refine kz 1 rfl ?_;by_cases hm:x.name∈L
  ·have d:(!decide (x.name∈L))=false:=by rw[φ hm];rfl
   rw[show ddS L x.name=L from θ hm] at g;exact aB rfl (fun hb=>Bool.noConfusion (hb.symm.trans d)) (fun _=>aD (agN [] rfl ⟨i+1,q,by dsimp only;omega,by dsimp only;rw[g];exact sl⟩))
  ·have d:(!decide (x.name∈L))=true:=by rw[ψ hm];rfl
   rw[show ddS L x.name=L++[x.name] from ξ hm] at g;have A:(L.map aR)++[[.str x.name]]=(L++[x.name]).map aR:=by rw[Ai];rfl
   have hle:(L++[x.name]).length=(L.map aR).length+1:=by rw[J,ζ];rfl
   exact aB rfl (fun _=>ag [(3,.row i (cG x)),(6,.all)] rfl (agN [] rfl ⟨i+1,q,by dsimp only;omega,by dsimp only;rw[g];exact sl (he:=⟨rfl,Go.AM.hs_ren (by rw[hle];rfl) (by rw[hle];rfl),rfl,trivial⟩) (hh:=⟨⟨_,rfl,.arrS A⟩,trivial⟩)⟩)) (fun hb=>Bool.noConfusion (hb.symm.trans d))
 ·have M:=geD hb u hi;subst M;refine aG ?_;rw[Ao];generalize ddE [] D=R;refine AWp.sub (Sub.freeze (id:=500) rfl) ?_;refine AWp.sub (st2:=mk [(4,.one (.hs 500 0 (R.map aR).length (R.map aR).length))] [(500,.arr 9 1 (R.map aR) 2)]) (sl (he:=⟨Go.AM.hs_ren (by rw[κ]) (by rw[κ]),trivial⟩)) ?_;refine AWp.sub (st2:=mk [(4,bI R)] []) ?_ ?_
  ·refine Sub.trans ?_ (cv 4 (R.map aR));exact sl
  exact sg rfl (aF rtT)
end Go.Proofs.YtkhgpgihmphfdaaGreat
namespace Go.AM
open Go
set_option autoImplicit false
section
variable {ro:Option Nat}{P:Program}{n:Nat}{kf:List Nat}
def aUo (ro:Option Nat) (P:Program) (n:Nat) (kf:List Nat) (c:Code) (Q:Exit→St→Prop):Nat→St→Prop
 | 0,_=>False
 | m+1,st=>AWp ro P n kf c st fun ex st'=>match ex with
  | .normal=>aUo ro P n kf c Q m st'
  | ex=>Q ex st'
theorem rnd {c:Code}{Q:Exit→St→Prop}{m:Nat}{st:St}(h:AWp ro P n kf c st fun ex st'=>match ex with
  | .normal=>aUo ro P n kf c Q m st'
  | ex=>Q ex st'):aUo ro P n kf c Q (m+1) st:=h
theorem aO {c:Code}{Q:Exit→St→Prop}{st:St}(m:Nat) (h:aUo ro P n kf c Q m st):AWp ro P n kf (.loop c) st Q:=fun G S μ a w Q' y hs A=>by
 have key:∀(m:Nat) (st:St),aUo ro P n kf c Q m st→∀S μ a w,Sim G n S μ st a w→Code.roundsIn (Wd ro) 0 P c Q' m a w:=by
  intro m
  induction m with
  | zero=>intro st h;exact h.elim
  | succ m B=>
   intro st h S μ a w hs;refine h G S μ a w _ y hs fun ex st' S1 g u w' q s=>?_
   cases ex with
   | normal=>exact B st' q S1 g u w' s
   | _=>exact A _ st' S1 g u w' q s
 exact wpIn_loop_rounds m (key m st h S μ a w hs)
end
end Go.AM
namespace Go.Proofs.YtkhgpgihmphfdaaGreat
open Go Go.AM
set_option maxRecDepth 20000
set_option maxHeartbeats 4000000
def aOy:Str:=[102,32,120,32,61,32,103,32,120]
def aOx:Str:=[102,32,61,32,103,32,59,32,103,32,61,32,102]
def vX (pl:Int) (s:Str):Ex:=.mk 1 pl 0 s [] [] [] jP
def lvE:Ex:=.mk 5 2 0 [] [.mk 4 6 0 [] [vX 6 [103],vX 8 [120]] [] [] jP] [.mk 2 2 0 [120] []] [] jP
def lvB:Bd:=.mk [102] 0 false jP lvE
def lvP:Pg:=⟨[],[],[],[lvB]⟩
theorem aSm:iB aOy=(lvP,0,0):=by kernel_rfl
theorem aSl:iB aOx=(⟨[],[],[],[.mk [102] 0 false jP (vX 4 [103]),.mk [103] 8 false jP (vX 12 [102])]⟩,0,0):=by kernel_rfl
theorem aLj:aU Tryz.prog 14 [] [] (.one (.hs 720 0 6 6)) [(720,.arr 9 1 (aCo.map aR) 0)]:=by
 refine bC (n:=2) tok Tryz.func14 rfl rfl rfl ?_;exact sg rfl (sgh [(0,.id 720)] rfl (aF ⟨.inr rfl,⟨_,_,.tmp rfl .nil,.cons .refl .nil,rfl⟩,⟨⟨_,rfl,.arr⟩,trivial⟩,rfl⟩))
def bkD:AObj:=.var 71 [.c (.sl 5 [])]
def bkC:AObj:=.var 72 [.c (.sl 6 [])]
theorem aWj:aU Tryz.prog 99 [.one (.c (.sl 5 []))] [] (.one (.clo 153 [.vp 771 0])) [(771,bkD)]:=by
 refine bC (n:=4) tok Tryz.func99 rfl rfl rfl ?_;exact sgh [(0,.id 771)] rfl (sg rfl (aF ⟨.inr rfl,⟨_,_,.tmp rfl .nil,.cons .refl .nil,rfl⟩,⟨⟨_,rfl,.var rfl⟩,trivial⟩,rfl⟩))
theorem aWk:aU Tryz.prog 101 [.one (.c (.sl 6 []))] [] (.one (.clo 155 [.vp 771 0])) [(771,bkC)]:=by
 refine bC (n:=4) tok Tryz.func101 rfl rfl rfl ?_;exact sgh [(0,.id 771)] rfl (sg rfl (aF ⟨.inr rfl,⟨_,_,.tmp rfl .nil,.cons .refl .nil,rfl⟩,⟨⟨_,rfl,.var rfl⟩,trivial⟩,rfl⟩))
theorem aT6 (i:LI):aU Tryz.prog 153 [.one (.yl 990),.one (.vp 771 0)] [(990,.lp .ready none i []),(771,bkD)] (.tup []) [(990,.lp .ready none i []),(771,bkD)]:=by
 refine bC (n:=19) tok Tryz.func153 rfl rfl rfl ?_;refine sg rfl (aE (aO 1 (rnd ?_)));exact aA (sg rfl (aB rfl (fun hb=>Bool.noConfusion hb) (fun _=>aG (rtN (ho:=⟨⟨_,rfl,Go.AM.Ole.lp rfl⟩,⟨_,rfl,Go.AM.Ole.var rfl⟩,trivial⟩)))))
theorem aT7 (i:LI):aU Tryz.prog 155 [.one (.yl 990),.one (.vp 771 0)] [(990,.lp .ready none i []),(771,bkC)] (.tup []) [(990,.lp .ready none i []),(771,bkC)]:=by
 refine bC (n:=19) tok Tryz.func155 rfl rfl rfl ?_;refine sg rfl (aE (aO 1 (rnd ?_)));exact aA (sg rfl (aB rfl (fun hb=>Bool.noConfusion hb) (fun _=>aG (rtN (ho:=⟨⟨_,rfl,Go.AM.Ole.lp rfl⟩,⟨_,rfl,Go.AM.Ole.var rfl⟩,trivial⟩)))))
def x7:List Str:=aCo++[[102]]
def fdP:V:=.one (.vp 800 0)
def fdO (v:List Str) (F:List (Int×Int)):AObj:=.var 136 [.c .any,.c .any,.c .any,.c (.sl 1 (v.map aR)),.hs 801 0 F.length F.length]
def aKh (a:Int×Int):List C:=[.int .i64 a.1,.int .i64 a.2]
def fdA (F:List (Int×Int)):AObj:=.arr 38 2 (F.map aKh) 0
def mpA:List (List C):=sL [66,111,111,108] (aFa [R.c (C.bool true)]) (sL [73,110,116] (aFa [R.c (C.bool true)]) [])
def mpB:List (List C):=sL [70,97,108,115,101] (aFa [R.c (C.int .i64 0)]) (sL [84,114,117,101] (aFa [R.c (C.int .i64 0)]) [])
theorem aLd:aU Tryz.prog 55 [.pa (mI lvP)] [] fdP [(800,fdO x7 []),(801,fdA [])]:=by
 have hp:=aLj;have g:=aWj;have hc:=aWk;have hn:aU Tryz.prog 49 [.one (.c (.sl 33 [b6 lvB]))] [] (bI [[102]]) []:=j6 [lvB] (by decide);have q:jF []:=trivial;have f1:((List.map aR aCo).length+(List.map aR [[102]]).length)*16≤140737488355328:=by decide
 have f2:(0:Nat)=0∧(6:Nat)=6:=⟨rfl,rfl⟩
 have f3:6=(List.map aR aCo).length:=rfl;have u:jF (sL [84,114,117,101] (aFa [R.c (C.int IntKind.i64 0)]) []):=(mD _).1 rfl;have y:jF (sL [73,110,116] (aFa [R.c (C.bool true)]) []):=(mD _).1 rfl;refine bC (n:=92) tok Tryz.func55 rfl rfl rfl ?_;refine sg rfl (sk 9 rfl (kc hp ?_));refine ak 4 [(11,.id 800)] rfl (az (aA (sk 2 rfl (kc g ?_))));refine az (aE ?_);refine wX (st':=.ready) (j:=none) (hin:=[(771,bkD)]) (hout:=[(771,bkD)]) 990 991 []
  (mkd [(1,.one (.vp 1 0)),(3,.one (.vp 3 0))] [(1,.var 75 ((mI lvP).map .c)),(3,.var 110 [.vp 800 0]),(720,.arr 9 1 (aCo.map aR) 0),(800,.var 136 [.mr 13,.mr 15,.mr 17,.hs 720 0 6 6,.c .nl]),(13,.map false mpA),(15,.map false mpB),(17,.map false []),(991,.dfr)] [991])
  (aDe (by kernel_rfl)) rfl trivial ⟨rfl,trivial⟩ ⟨.inl (by decide),trivial⟩ rfl rfl (aT6 _) rfl (fun h=>by cases h) ?_ ?_
 ·exact .listD (fun i=>i) ⟨rfl,rfl,trivial⟩ ⟨⟨_,rfl,.var rfl⟩,⟨_,rfl,.var rfl⟩,⟨_,rfl,.arr⟩,⟨_,rfl,.var rfl⟩,⟨_,rfl,.map⟩,⟨_,rfl,.map⟩,⟨_,rfl,.map⟩,⟨_,rfl,.dfr⟩,trivial⟩ rfl
 refine aA (sk 2 rfl (kc hc ?_));refine az (aE ?_);refine wX (st':=.ready) (j:=none) (hin:=[(771,bkC)]) (hout:=[(771,bkC)]) 990 992 []
  (mkd [(1,.one (.vp 1 0)),(3,.one (.vp 3 0))] [(1,.var 75 ((mI lvP).map .c)),(3,.var 110 [.vp 800 0]),(720,.arr 9 1 (aCo.map aR) 0),(800,.var 136 [.mr 13,.mr 15,.mr 17,.hs 720 0 6 6,.c .nl]),(13,.map false mpA),(15,.map false mpB),(17,.map false []),(991,.dfr),(992,.dfr)] [992,991])
  (aDe (by kernel_rfl)) rfl trivial ⟨rfl,trivial⟩ ⟨.inl (by decide),trivial⟩ rfl rfl (aT7 _) rfl (fun h=>by cases h) ?_ ?_
 ·exact .listD (fun i=>i) ⟨rfl,rfl,trivial⟩ ⟨⟨_,rfl,.var rfl⟩,⟨_,rfl,.var rfl⟩,⟨_,rfl,.arr⟩,⟨_,rfl,.var rfl⟩,⟨_,rfl,.map⟩,⟨_,rfl,.map⟩,⟨_,rfl,.map⟩,⟨_,rfl,.dfr⟩,⟨_,rfl,.dfr⟩,trivial⟩ rfl
 refine sk 7 rfl (kc hn ?_);refine kz 4 rfl (sg rfl (AWp.sub (Sub.freeze (id:=720) rfl) ?_));refine AWp.sub (Sub.varPure (x:=800) (cs:=[.any,.any,.any,.sl 1 (x7.map aR),.nl]) rfl (.any (.any (.any (.hs rfl rfl rfl (.c .refl .nil)))))) ?_;refine AWp.sub (Sub.ownCell (x:=800) (k:=4) (id:=801) 38 2 rfl rfl rfl) ?_;exact aF ⟨.inr rfl,⟨_,_,.tmp rfl .nil,.cons .refl .nil,rfl⟩,⟨⟨_,rfl,.var rfl⟩,⟨_,rfl,.arr⟩,trivial⟩,rfl⟩
theorem oN (v:List Str) (F:List (Int×Int)) (e a:Int):aU Tryz.prog 64 [fdP,B false,I .i64 e,I .i64 a] [(800,fdO v F),(801,fdA F)] (.tup []) [(800,fdO v F),(801,fdA F)]:=by
 refine bC (n:=21) tok Tryz.func64 rfl rfl rfl ?_;exact sg rfl (aB rfl (fun hb=>Bool.noConfusion hb) (fun _=>aD rtN))
theorem aKp (v:List Str) (F:List (Int×Int)) (e a:Int) (q:F.length≤100000000):aU Tryz.prog 64 [fdP,B true,I .i64 e,I .i64 a] [(800,fdO v F),(801,fdA F)] (.tup []) [(800,fdO v (F++[(e,a)])),(801,fdA (F++[(e,a)]))]:=by
 have hl:(F.map aKh).length=F.length:=κ _;have g:(F.map aKh)++[[.int .i64 e,.int .i64 a]]=(F++[(e,a)]).map aKh:=by rw[Ai];rfl
 have hle:(F++[(e,a)]).length=F.length+1:=ζ;refine bC (n:=21) tok Tryz.func64 rfl rfl rfl ?_;exact sg rfl (aB rfl (fun _=>ag [(8,.all)] rfl (rtN (ho:=⟨⟨_,rfl,Go.AM.Ole.var (by rw[hle,←hl];rfl)⟩,⟨_,rfl,.arrS g⟩,trivial⟩))) (fun hb=>Bool.noConfusion hb))
theorem lS (s:Str):aU Tryz.prog 29 [bI [],Go.AM.T s] [] (B false) []:=eZ [] s (by decide)
theorem aC8 (v:List Str) (F:List (Int×Int)):aU Tryz.prog 59 [fdP,bI [],.one (.clo 104 [.vp 3 0])] [(800,fdO v F),(801,fdA F),(3,.var 71 [.c (.sl 5 [])])] (.tup []) [(800,fdO v F),(801,fdA F),(3,.var 71 [.c (.sl 5 [])])]:=by
 refine bC (n:=26) tok Tryz.func59 rfl rfl rfl ?_;refine sg rfl (aE (aO 1 (rnd ?_)));exact sg rfl (aA (aB rfl (fun hb=>Bool.noConfusion hb) (fun _=>aG rtN)))
theorem aC7 (v:List Str) (F:List (Int×Int)):aU Tryz.prog 59 [fdP,bI [],.one (.clo 105 [.vp 6 0])] [(800,fdO v F),(801,fdA F),(6,.var 22 [.c .nl])] (.tup []) [(800,fdO v F),(801,fdA F),(6,.var 22 [.c .nl])]:=by
 refine bC (n:=26) tok Tryz.func59 rfl rfl rfl ?_;refine sg rfl (aE (aO 1 (rnd ?_)));exact sg rfl (aA (aB rfl (fun hb=>Bool.noConfusion hb) (fun _=>aG rtN)))
theorem aGy (v:List Str) (F:List (Int×Int)):aU Tryz.prog 59 [fdP,bI [],.one (.clo 60 [.vp 1 0])] [(800,fdO v F),(801,fdA F),(1,.var 75 ((mI lvP).map .c))] (.tup []) [(800,fdO v F),(801,fdA F),(1,.var 75 ((mI lvP).map .c))]:=by
 refine bC (n:=26) tok Tryz.func59 rfl rfl rfl ?_;refine sg rfl (aE (aO 1 (rnd ?_)));exact sg rfl (aA (aB rfl (fun hb=>Bool.noConfusion hb) (fun _=>aG rtN)))
theorem aG0 (v:List Str) (F:List (Int×Int)):aU Tryz.prog 59 [fdP,bI [],.one (.clo 109 [.vp 3 0])] [(800,fdO v F),(801,fdA F),(3,.var 25 [.c (.sl 33 [])])] (.tup []) [(800,fdO v F),(801,fdA F),(3,.var 25 [.c (.sl 33 [])])]:=by
 refine bC (n:=26) tok Tryz.func59 rfl rfl rfl ?_;refine sg rfl (aE (aO 1 (rnd ?_)));exact sg rfl (aA (aB rfl (fun hb=>Bool.noConfusion hb) (fun _=>aG rtN)))
theorem aHj:aU Tryz.prog 109 ([I .i64 ((0:Nat):Int)]++[R.vp 3 0].map V.one) [(3,.var 25 [.c (.sl 33 [b6 lvB])])] (I .i64 0) [(3,.var 25 [.c (.sl 33 [b6 lvB])])]:=by
 refine bC (n:=9) tok Tryz.func109 rfl rfl rfl ?_;exact sg rfl (sgh [(2,.row 0 (b6 lvB))] rfl (aF rtT))
theorem aGz (v:List Str) (F:List (Int×Int)):aU Tryz.prog 59 [fdP,bI [[102]],.one (.clo 109 [.vp 3 0])] [(800,fdO v F),(801,fdA F),(3,.var 25 [.c (.sl 33 [b6 lvB])])] (.tup []) [(800,fdO v F),(801,fdA F),(3,.var 25 [.c (.sl 33 [b6 lvB])])]:=by
 have g:=lS [102];have q:=aHj;have hw:=oN v F 20 0;refine bC (n:=26) tok Tryz.func59 rfl rfl rfl ?_;refine sg rfl (aE (aO 2 (rnd ?_)));refine sg rfl (aA (aB rfl (fun _=>aD (aA (aE (sgh [(1,.row 0 (aR [102]))] rfl (aC mixed (ak 5 [] rfl (kc g ?_))))))) (fun hb=>Bool.noConfusion hb)));refine ak 2 [] rfl (kv q ?_);refine kc hw ?_;refine az (ag [] rfl (rnd ?_));exact sg rfl (aA (aB rfl (fun hb=>Bool.noConfusion hb) (fun _=>aG rtN)))
theorem aHh:aU Tryz.prog 166 ([I .i64 ((0:Nat):Int)]++[R.vp 3 0].map V.one) [(3,.var 35 ((bD lvE).map .c))] (I .i64 2) [(3,.var 35 ((bD lvE).map .c))]:=by
 refine bC (n:=10) tok Tryz.func166 rfl rfl rfl ?_;exact sg rfl (sgh [(3,.row 0 (bK (.mk 2 2 0 [120] [])))] rfl (aF rtT))
theorem aGw (v:List Str) (F:List (Int×Int)):aU Tryz.prog 59 [fdP,bI [[120]],.one (.clo 166 [.vp 3 0])] [(800,fdO v F),(801,fdA F),(3,.var 35 ((bD lvE).map .c))] (.tup []) [(800,fdO v F),(801,fdA F),(3,.var 35 ((bD lvE).map .c))]:=by
 have g:=lS [120];have q:=aHh;have hw:=oN v F 20 2;refine bC (n:=26) tok Tryz.func59 rfl rfl rfl ?_;refine sg rfl (aE (aO 2 (rnd ?_)));refine sg rfl (aA (aB rfl (fun _=>aD (aA (aE (sgh [(1,.row 0 (aR [120]))] rfl (aC mixed (ak 5 [] rfl (kc g ?_))))))) (fun hb=>Bool.noConfusion hb)));refine ak 2 [] rfl (kv q ?_);refine kc hw ?_;refine az (ag [] rfl (rnd ?_));exact sg rfl (aA (aB rfl (fun hb=>Bool.noConfusion hb) (fun _=>aG rtN)))
theorem aHi:aU Tryz.prog 65 ([I .i64 ((0:Nat):Int)]++[R.vp 5 0].map V.one) [(5,.var 113 [.c (.sl 2 [[.str [102],.int .i64 0]])])] (I .i64 0) [(5,.var 113 [.c (.sl 2 [[.str [102],.int .i64 0]])])]:=by
 refine bC (n:=9) tok Tryz.func65 rfl rfl rfl ?_;exact sg rfl (sgh [(2,.row 0 [.str [102],.int .i64 0])] rfl (aF rtT))
theorem aGx (v:List Str) (F:List (Int×Int)):aU Tryz.prog 59 [fdP,bI [[102]],.one (.clo 65 [.vp 5 0])] [(800,fdO v F),(801,fdA F),(5,.var 113 [.c (.sl 2 [[.str [102],.int .i64 0]])])] (.tup []) [(800,fdO v F),(801,fdA F),(5,.var 113 [.c (.sl 2 [[.str [102],.int .i64 0]])])]:=by
 have g:=lS [102];have q:=aHi;have hw:=oN v F 20 0;refine bC (n:=26) tok Tryz.func59 rfl rfl rfl ?_;refine sg rfl (aE (aO 2 (rnd ?_)));refine sg rfl (aA (aB rfl (fun _=>aD (aA (aE (sgh [(1,.row 0 (aR [102]))] rfl (aC mixed (ak 5 [] rfl (kc g ?_))))))) (fun hb=>Bool.noConfusion hb)));refine ak 2 [] rfl (kv q ?_);refine kc hw ?_;refine az (ag [] rfl (rnd ?_));exact sg rfl (aA (aB rfl (fun hb=>Bool.noConfusion hb) (fun _=>aG rtN)))
theorem aP6 (v:List Str) (F:List (Int×Int)):aU Tryz.prog 56 [fdP,.one (.c (.sl 5 []))] [(800,fdO v F),(801,fdA F)] (.tup []) [(800,fdO v F),(801,fdA F)]:=by
 have h2:=aC8 v F;have g:=aC7 v F;refine bC (n:=95) tok Tryz.func56 rfl rfl rfl ?_;refine sg rfl (sg rfl (sg rfl (aA (sg rfl (aE (aO 1 (rnd ?_)))))));refine sg rfl (aA (aB rfl (fun hb=>Bool.noConfusion hb) (fun _=>aG (sk 3 rfl (kc h2 ?_)))));refine az (aC mixed (ak 3 [] rfl (kc g ?_)));exact az rtN
theorem tN (v:List Str) (F:List (Int×Int)):aU Tryz.prog 66 [fdP,.one (.c (.sl 33 []))] [(800,fdO v F),(801,fdA F)] (.tup []) [(800,fdO v F),(801,fdA F)]:=by
 have hn:aU Tryz.prog 49 [.one (.c (.sl 33 []))] [] (bI []) []:=j6 [] (by decide);have h2:=aG0 v F;refine bC (n:=30) tok Tryz.func66 rfl rfl rfl ?_;refine sg rfl (sk 2 rfl (kc hn ?_));refine ak 1 [] rfl (kc h2 ?_);refine az (sg rfl (aE (aO 1 (rnd ?_))));exact sg rfl (aA (aB rfl (fun hb=>Bool.noConfusion hb) (fun _=>aG rtN)))
theorem aT2 (v:List Str) (F:List (Int×Int)) (pl:Int) (s:Str):aU Tryz.prog 110 [fdP,.pa (bD (vX pl s))] [(800,fdO v F),(801,fdA F)] (.tup []) [(800,fdO v F),(801,fdA F)]:=by
 have g:=tN v F;refine bC (n:=80) tok Tryz.func110 rfl rfl rfl ?_;refine sg rfl (aA (sg rfl (aB rfl (fun hb=>Bool.noConfusion hb) (fun _=>aD (aA (sg rfl (aB rfl (fun hb=>Bool.noConfusion hb) (fun _=>aD (aA (sg rfl (aB rfl (fun hb=>Bool.noConfusion hb) (fun _=>sg rfl (aE (aO 1 (rnd ?_)))))))))))))));refine sg rfl (aA (aB rfl (fun hb=>Bool.noConfusion hb) (fun _=>aG (sk 3 rfl (kc g ?_)))));refine az (sg rfl (aE (aO 1 (rnd ?_))));exact sg rfl (aA (aB rfl (fun hb=>Bool.noConfusion hb) (fun _=>aG rtN)))
theorem aWi (v:List Str) (F:List (Int×Int)):aU Tryz.prog 110 [fdP,.pa (bD (.mk 4 6 0 [] [vX 6 [103],vX 8 [120]] [] [] jP))] [(800,fdO v F),(801,fdA F)] (.tup []) [(800,fdO v F),(801,fdA F)]:=by
 have g:=tN v F;have h1:=aT2 v F 6 [103];have h2:=aT2 v F 8 [120];refine bC (n:=80) tok Tryz.func110 rfl rfl rfl ?_;refine sg rfl (aA (sg rfl (aB rfl (fun hb=>Bool.noConfusion hb) (fun _=>aD (aA (sg rfl (aB rfl (fun hb=>Bool.noConfusion hb) (fun _=>aD (aA (sg rfl (aB rfl (fun hb=>Bool.noConfusion hb) (fun _=>sg rfl (aE (aO 1 (rnd ?_)))))))))))))));refine sg rfl (aA (aB rfl (fun hb=>Bool.noConfusion hb) (fun _=>aG (sk 3 rfl (kc g ?_)))));refine az (sg rfl (aE (aO 3 (rnd ?_))));refine sg rfl (aA (aB rfl (fun _=>aD (aA (aE (sgh [(0,.row 0 (bD (vX 6 [103])))] rfl (aC mixed (ak 2 [] rfl (kc h1 ?_))))))) (fun hb=>Bool.noConfusion hb)));refine az (ag [] rfl (rnd ?_));refine AWp.sub (st2:=mk [(0,fdP),(70,.one (.c (.sl 15 (j5 (.mk 4 6 0 [] [vX 6 [103],vX 8 [120]] [] [] jP))))),(71,I .i64 2),(72,I .i64 1)] [(800,fdO v F),(801,fdA F)]) sl ?_;refine sg rfl (aA (aB rfl (fun _=>aD (aA (aE (sgh [(0,.row 1 (bD (vX 8 [120])))] rfl (aC mixed (ak 2 [] rfl (kc h2 ?_))))))) (fun hb=>Bool.noConfusion hb)));refine az (ag [] rfl (rnd ?_));refine AWp.sub (st2:=mk [(0,fdP),(70,.one (.c (.sl 15 (j5 (.mk 4 6 0 [] [vX 6 [103],vX 8 [120]] [] [] jP))))),(71,I .i64 2),(72,I .i64 2)] [(800,fdO v F),(801,fdA F)]) sl ?_;exact sg rfl (aA (aB rfl (fun hb=>Bool.noConfusion hb) (fun _=>aG rtN)))
theorem aMu:jL lvE:=⟨⟨by decide,by decide,by decide⟩,.z,⟨fun h=>by omega,fun _=>rfl,fun h=>by omega⟩,⟨⟨Ac _,trivial⟩,trivial⟩,⟨⟨⟨by decide,by decide,by decide⟩,.z,⟨fun _=>rfl,fun h=>by omega,fun h=>by omega⟩,trivial,⟨⟨⟨Ac _,Ac _,Ac _⟩,.z,⟨fun h=>by omega,fun h=>by omega,fun h=>by omega⟩,trivial,trivial,trivial⟩,⟨⟨Ac _,Ac _,Ac _⟩,.z,⟨fun h=>by omega,fun h=>by omega,fun h=>by omega⟩,trivial,trivial,trivial⟩,trivial⟩,trivial⟩,trivial⟩,trivial⟩
theorem aWh (v:List Str) (F:List (Int×Int)):aU Tryz.prog 110 [fdP,.pa (bD (lvE))] [(800,fdO v F),(801,fdA F)] (.tup []) [(800,fdO v F),(801,fdA F)]:=by
 have q:=tN v F;have h1:=aWi v F;have g:=aGw v F;have u:aU Tryz.prog 50 [.pa (bD lvE),I .i64 ((0:Nat):Int)] [] (bI [[120]]) []:=tL lvE 0 aMu (by decide) (by decide);refine bC (n:=80) tok Tryz.func110 rfl rfl rfl ?_;refine sg rfl (aA (sg rfl (aB rfl (fun hb=>Bool.noConfusion hb) (fun _=>aD (aA (sg rfl (aB rfl (fun hb=>Bool.noConfusion hb) (fun _=>aD (aA (sg rfl (aB rfl (fun _=>aC mixed (ak 2 [] rfl (kc u ?_))) (fun hb=>Bool.noConfusion hb))))))))))));refine ak 1 [] rfl (kc g ?_);refine az (sk 3 rfl (kc q ?_));refine az (sg rfl (aE (aO 2 (rnd ?_))));refine sg rfl (aA (aB rfl (fun _=>aD (aA (aE (sgh [(0,.row 0 (bD (.mk 4 6 0 [] [vX 6 [103],vX 8 [120]] [] [] jP)))] rfl (aC mixed (ak 2 [] rfl (kc h1 ?_))))))) (fun hb=>Bool.noConfusion hb)));refine az (ag [] rfl (rnd ?_));refine AWp.sub (st2:=mk [(0,fdP),(70,.one (.c (.sl 15 (j5 (lvE))))),(71,I .i64 1),(72,I .i64 1)] [(800,fdO v F),(801,fdA F)]) sl ?_;exact sg rfl (aA (aB rfl (fun hb=>Bool.noConfusion hb) (fun _=>aG rtN)))
theorem aLc (v:List Str) (F:List (Int×Int)):aU Tryz.prog 66 [fdP,.one (.c (.sl 33 [b6 lvB]))] [(800,fdO v F),(801,fdA F)] (.tup []) [(800,fdO v F),(801,fdA F)]:=by
 have hn:aU Tryz.prog 49 [.one (.c (.sl 33 [b6 lvB]))] [] (bI [[102]]) []:=j6 [lvB] (by decide);have h2:=aGz v F;have he:=aWh v F;refine bC (n:=30) tok Tryz.func66 rfl rfl rfl ?_;refine sg rfl (sk 2 rfl (kc hn ?_));refine ak 1 [] rfl (kc h2 ?_);refine az (sg rfl (aE (aO 2 (rnd ?_))));refine sg rfl (aA (aB rfl (fun _=>aD (aA (aE (sgh [(0,.row 0 (b6 lvB))] rfl (aA (sg rfl (aB rfl (fun hb=>Bool.noConfusion hb) (fun _=>aD (aC mixed (ak 3 [] rfl (kc he ?_))))))))))) (fun hb=>Bool.noConfusion hb)));refine az (ag [] rfl (rnd ?_));exact sg rfl (aA (aB rfl (fun hb=>Bool.noConfusion hb) (fun _=>aG rtN)))
theorem aK2 (v:List Str) (F:List (Int×Int)):aU Tryz.prog 68 [fdP,.one (.c (.sl 6 []))] [(800,fdO v F),(801,fdA F)] (.tup []) [(800,fdO v F),(801,fdA F)]:=by
 refine bC (n:=102) tok Tryz.func68 rfl rfl rfl ?_;refine sg rfl (aE (aO 1 (rnd ?_)));exact sg rfl (aA (aB rfl (fun hb=>Bool.noConfusion hb) (fun _=>aG rtN)))
def atE (F:List (Int×Int)) (l:List Ex):List (Int×Int):=F++l.map fun e=>(21,e.pl)
theorem tV (F:List (Int×Int)) (l m:List Ex):atE F (l++m)=atE (atE F l) m:=by unfold atE;rw[Ai,Am]
theorem tU (F:List (Int×Int)) (l:List Ex):(atE F l).length≤F.length+l.length:=by unfold atE;rw[ζ,κ];exact le_refl _
def fwO (v:List Str) (F:List (Int×Int)):List (Nat×AObj):=[(902,.var 110 [.vp 800 0]),(800,fdO v F),(801,fdA F)]
theorem aHl (v:List Str) (e:Ex) (F:List (Int×Int)) (q:F.length≤100000000):aU Tryz.prog 111 ([.pa (bD e)]++[R.vp 902 0].map V.one) (fwO v F) (.tup []) (fwO v (F++[(21,e.pl)])):=by
 have hw:=aKp v F 21 e.pl q;obtain⟨f,pl,n,s,ks,ps,u,g⟩:=e;rw[show(Ex.mk f pl n s ks ps u g).pl=pl from rfl] at hw ⊢;refine bC (n:=7) tok Tryz.func111 rfl rfl rfl ?_;refine sg rfl (aC mixed (ak 3 [] rfl (kc hw ?_)));exact az rtN
theorem yH (v:List Str):∀(k:Nat) (e:Ex) (q:List Str) (L:List (Int×Int)),exM e≤k→jL e→q.length+exM e≤90000000→L.length+exM e≤90000000→aU Tryz.prog 27 [.pa (bD e),bI q,.one (.clo 111 [R.vp 902 0])] (fwO v L) (.tup []) (fwO v (atE L (tdE e q)))
 | 0,e,q,L,hk,_,_,_=>by cases e;rw[exM] at hk;omega
 | k+1,e,q,L,hk,hO,hi,hL=>by
  have Y:=eZ q e.name (by omega);have hcn:=lH (q.map aR) (by rw[κ];omega);have hO':=hO;have hgz:l8 e.pats≤100000000:=by cases e with | mk f pl n s ks ps u g=>rw[exM] at hk hi;show l8 ps≤_;omega
  have aa:=fun i hi=>tL e i hO hgz hi
  have E:=aHl v e L (by omega);have ab:=fun i=>aF2 e.form e.pats e.binds i
  obtain⟨f,pl,n,s,ks,ps,u,g⟩:=e;rw[exM] at hk hi hL;obtain⟨⟨hl1,hl2,hl3⟩,hsg,⟨ar1,ar2,ar3⟩,hps,hks,hbs⟩:=hO';rw[show(Ex.mk f pl n s ks ps u g).name=s from rfl] at Y;rw[show(Ex.mk f pl n s ks ps u g).pl=pl from rfl] at E;have aa:∀i,i<ks.length→aU Tryz.prog 50 [.pa (bD (.mk f pl n s ks ps u g)),I .i64 (i:Nat)] [] (bI (gvR f ps (bnR u) i)) []:=aa;have ab:∀i,(gvR f ps (bnR u) i).length≤u.length+l8 ps:=ab;have hnm:=j6 u (by omega);have hkB:(cN u).length=u.length:=by rw[cR,κ]
  have hkK:(j5 (.mk f pl n s ks ps u g)).length=ks.length:=by rw[i6,κ];rfl
  have hinl:(q.map aR).length=q.length:=κ _;obtain⟨T0,y⟩:∃T,T=(if f=1∧¬s∈q then [Ex.mk f pl n s ks ps u g] else []):=⟨_,rfl⟩
  have hT0l:T0.length≤1:=by rw[y];split<;>first | exact le_refl _ | exact Ac _
  rw[tdE,←y,tV,tV];have hdl:=tU L T0;obtain⟨L1,M⟩:∃l,l=atE L T0:=⟨_,rfl⟩
  rw[←M] at hdl ⊢;refine bC (n:=61) tok Tryz.func27 rfl rfl rfl ?_;refine sg rfl (aA (AWp.cut (mk [(1,bI q),(2,.one (.clo 111 [R.vp 902 0])),(3,.one (.vp 3 0))] ((3,.var 35 ((bD (.mk f pl n s ks ps u g)).map .c))::fwO v L1)) ?_ ?_))
  ·by_cases hf:f=1
   ·have df:decide (f=1)=true:=φ hf;refine skh 7 [(3,.bv true)] rfl (kcG Y ?_);refine ak 2 [(3,.bv true),(9,.bv true)] rfl (az ?_);by_cases hs:s∈q
    ·have ds:(!decide (s∈q))=false:=by rw[φ hs];rfl
     rw[ξ (fun k=>k.2 hs)] at y;subst y;have:L1=L:=M.trans (Az _);subst this;exact aB rfl (fun hb=>Bool.noConfusion (hb.symm.trans ds)) (fun _=>aD sl)
    ·have ds:(!decide (s∈q))=true:=by rw[ψ hs];rfl
     rw[θ ⟨hf,hs⟩] at y;subst y;have:L1=L++[(21,pl)]:=M;subst this;refine aB rfl (fun _=>aC mixed (ak 2 [] rfl (kv E ?_))) (fun hb=>Bool.noConfusion (hb.symm.trans ds));exact az sl
   ·have df:decide (f=1)=false:=ψ hf;rw[ξ (fun k=>hf k.1)] at y;subst y;have:L1=L:=M.trans (Az _);subst this;exact sgh [(3,.bv false),(9,.bv false)] rfl (aB rfl (fun hb=>Bool.noConfusion hb) (fun _=>aD sl))
  clear y E Y;have hbl:(bnR u).length=u.length:=by unfold bnR;rw[κ]
  have O:q.map aR++(bnR u).map aR=(q++bnR u).map aR:=(Ai).symm;have hr2:(q.map aR).length+((bnR u).map aR).length=((q++bnR u).map aR).length:=by rw[←O,ζ]
  have hr3:((bnR u).map aR).length≤90000000:=by rw[κ,hbl];omega
  refine sk 1 rfl (kc hcn ?_);refine ak 2 [] rfl (kc hnm ?_);refine kz 2 rfl (AWp.sub (Sub.freeze (id:=710) rfl) ?_);refine AWp.sub (st2:=mk [(1,bI q),(2,.one (.clo 111 [R.vp 902 0])),(3,.one (.vp 3 0)),(6,bI (q++bnR u))] ((3,.var 35 ((bD (.mk f pl n s ks ps u g)).map .c))::fwO v L1)) ?_ ?_
  ·refine Sub.trans ?_ (cv 6 ((q++bnR u).map aR));exact sl
  have hol:(q++bnR u).length≤q.length+u.length:=by rw[ζ,hbl];exact le_refl _
  generalize hOw:q++bnR u=own at O hr2 hol ⊢;refine aA (sg rfl (aE (aL (fun i:Nat=>mk [(1,bI q),(2,.one (.clo 111 [R.vp 902 0])),(3,.one (.vp 3 0)),(6,bI own),(31,.one (.c (.sl 33 (cN u)))),(32,I .i64 ((cN u).length:Nat)),(33,I .i64 (i:Nat))] ((3,.var 35 ((bD (.mk f pl n s ks ps u g)).map .c))::fwO v (atE L1 (tdB (u.take i) own)))) (fun i=>i≤u.length) (fun i=>u.length-i) 0 (Ac _) (by rw[B5,tdB,show atE L1 []=L1 from Az _];exact sl) ?_)));intro i hib;refine sg rfl (aA (aB rfl (fun hb=>?_) (fun hb=>?_)))
  ·have B:=ltD hb hkB;obtain⟨b,U⟩:=aM B;have hx':(cN u)[i]?=some (b6 b):=by rw[cR];exact b9 b6 U
   have hm:=Af U;have hbo:=fL.1 hbs b hm;have hsz:=mS U;have E:=jS (u.take i) own;have J:=tU L1 (tdB (u.take i) own);have A:atE L1 (tdB (u.take (i+1)) own)=atE (atE L1 (tdB (u.take i) own)) (tdE b.body own):=by rw[cJ U,rY,tV]
   have hbo2:jL b.body:=by cases b;exact hbo.2
   have ac:=yH v k b.body own (atE L1 (tdB (u.take i) own)) (by omega) hbo2 (by omega) (by omega);obtain⟨nm,bpl,has,sgn,be⟩:=b;rw[show(Bd.mk nm bpl has sgn be).body=be from rfl] at ac A;generalize atE L1 (tdB (u.take i) own)=Li at ac A J ⊢;refine aD (aA (aE (sgh [(0,.row i (b6 (.mk nm bpl has sgn be)))] rfl (aC mixed (ak 4 [] rfl (kc ac ?_))))));exact az (agN [] rfl ⟨i+1,B,by dsimp only;omega,by dsimp only;rw[A];exact sl⟩)
  have ad:=geD hb hkB hib;subst ad;clear hb hib;refine aG ?_;rw[Ao];have E:=jS u own;have J:=tU L1 (tdB u own);generalize atE L1 (tdB u own)=L2 at J ⊢;refine sg rfl (aE (aL (fun i:Nat=>mk [(1,bI q),(2,.one (.clo 111 [R.vp 902 0])),(3,.one (.vp 3 0)),(44,.one (.c (.sl 15 (j5 (.mk f pl n s ks ps u g))))),(45,I .i64 ((j5 (.mk f pl n s ks ps u g)).length:Nat)),(46,I .i64 (i:Nat))] ((3,.var 35 ((bD (.mk f pl n s ks ps u g)).map .c))::fwO v (atE L2 (tdK f ps (bnR u) 0 (ks.take i) q)))) (fun i=>i≤ks.length) (fun i=>ks.length-i) 0 (Ac _) (by rw[B5,tdK,show atE L2 []=L2 from Az _];exact sl) ?_));intro i hik;refine sg rfl (aA (aB rfl (fun hb=>?_) (fun hb=>?_)))
  ·have B:=ltD hb hkK;obtain⟨x,hx⟩:=aM B;have hx':(j5 (.mk f pl n s ks ps u g))[i]?=some (bD x):=by rw[i6];exact b9 bD hx
   have hm:=Af hx;have hxo:=oM hks x hm;have hsz:=mG hx;have htl2:=oY f ps (bnR u) (ks.take i) 0 q;have hdl3:=tU L2 (tdK f ps (bnR u) 0 (ks.take i) q);have hit:(ks.take i).length=i:=by rw[Aj];omega
   have A:atE L2 (tdK f ps (bnR u) 0 (ks.take (i+1)) q)=atE (atE L2 (tdK f ps (bnR u) 0 (ks.take i) q)) (tdE x (q++gvR f ps (bnR u) i)):=by rw[cJ hx,rX,tV,hit,A4]
   have hg:=aa i B;have hgl':=ab i;generalize gvR f ps (bnR u) i=G at hg hgl' A;have hil:(q++G).length≤q.length+(u.length+l8 ps):=by rw[ζ];omega
   have ihx:=yH v k x (q++G) (atE L2 (tdK f ps (bnR u) 0 (ks.take i) q)) (by omega) hxo (by omega) (by omega);have O:q.map aR++G.map aR=(q++G).map aR:=(Ai).symm;have hr2:(q.map aR).length+(G.map aR).length=((q++G).map aR).length:=by rw[←O,ζ]
   have hr3:(G.map aR).length≤90000000:=by rw[κ];omega
   generalize atE L2 (tdK f ps (bnR u) 0 (ks.take i) q)=Li at ihx A hdl3 ⊢;refine aD (aA (aE (sgh [(1,.row i (bD x))] rfl (aC mixed (ak 2 [] rfl (kc hcn ?_))))));refine ak 2 [] rfl (kc hg ?_);refine ak 2 [(6,.fz)] rfl (kc ihx ?_);exact az (agN [] rfl ⟨i+1,B,by dsimp only;omega,by dsimp only;rw[A];exact sl⟩)
  have ad:=geD hb hkK hik;subst ad;refine aG ?_;rw[Ao];exact rtN
theorem aOw:atE [] (tdE lvE x7)=[(21,6)]:=by decide+kernel
theorem aHk:aU Tryz.prog 67 [fdP,.one (.c (.sl 33 [b6 lvB]))] [(800,fdO x7 []),(801,fdA [])] (.tup []) [(800,fdO x7 [(21,6)]),(801,fdA [(21,6)])]:=by
 have hw:=yH x7 _ lvE x7 [] (le_refl _) aMu (by decide) (by decide);rw[aOw] at hw;refine bC (n:=21) tok Tryz.func67 rfl rfl rfl ?_;refine sgh [(0,.id 902)] rfl (sg rfl (aE (aO 2 (rnd ?_))));refine sg rfl (aA (aB rfl (fun _=>aD (aA (aE (sgh [(0,.row 0 (b6 lvB))] rfl (aC mixed (ak 7 [] rfl (kc hw ?_))))))) (fun hb=>Bool.noConfusion hb)));refine az (ag [] rfl (rnd ?_));exact sg rfl (aA (aB rfl (fun hb=>Bool.noConfusion hb) (fun _=>aG rtN)))
def vlV:V:=.one (.c (.sl 2 [[.str [102],.int .i64 0]]))
theorem aHb:aU Tryz.prog 156 [vlV,I .i64 0,I .i64 1,.one (.clo 62 [])] [] (.tup []) []:=by
 refine bC (n:=53) tok Tryz.func156 rfl rfl rfl ?_;refine sg rfl (aE (aO 1 (rnd ?_)));exact aA (sg rfl (aB rfl (fun hb=>Bool.noConfusion hb) (fun _=>aG rtN)))
theorem aWb:aU Tryz.prog 106 [vlV,I .i64 0,I .i64 1,I .i64 1,.one (.clo 62 [])] [] (.tup []) []:=by
 have hi:=aHb;refine bC (n:=148) tok Tryz.func106 rfl rfl rfl ?_;refine sg rfl (sg rfl (aE (aO 1 (rnd ?_))));refine aE (sg rfl (aA (sg rfl (aB rfl (fun _=>sk 4 rfl (kc hi ?_)) (fun hb=>Bool.noConfusion hb)))));exact az (aF rtN)
theorem aPz:aU Tryz.prog 165 [I .u64 1] [] (I .i64 1) []:=by
 refine bC (n:=25) tok Tryz.func165 rfl rfl rfl ?_;exact sg rfl (aA (sg rfl (aB rfl (fun hb=>Bool.noConfusion hb) (fun _=>aD (aA (sg rfl (aB rfl (fun hb=>Bool.noConfusion hb) (fun _=>aD (aA (sg rfl (aB rfl (fun hb=>Bool.noConfusion hb) (fun _=>aD (sgh [(3,.byte 1 1)] rfl (aF rtT) (hc:=⟨by decide,⟨by decide,rfl⟩,trivial⟩))))))))))))))
theorem aWd:aU Tryz.prog 107 [I .u64 1] [] (I .i64 1) []:=by
 have h:=aPz;refine bC (n:=8) tok Tryz.func107 rfl rfl rfl ?_;refine sg rfl (aA (aB rfl (fun hb=>Bool.noConfusion hb) (fun _=>aD (sk 1 rfl (kc h ?_)))));exact kz 1 rfl (aF rtT)
theorem aPq:aU Tryz.prog 61 [vlV,.one (.clo 62 [])] [] (.tup []) []:=by
 have hl:=aWd;have hp:=aWb;refine bC (n:=14) tok Tryz.func61 rfl rfl rfl ?_;refine sg rfl (aC mixed (ak 4 [] rfl (kc hl ?_)));refine ak 1 [] rfl (kc hp ?_);exact az rtN
theorem aTo:aU Tryz.prog 69 [.one (.c (.sl 2 [[.int .i64 21,.int .i64 6]])),.one (.clo 70 [])] [] (atV 21 6) []:=by
 refine bC (n:=33) tok Tryz.func69 rfl rfl rfl ?_;refine sg rfl (aA (sg rfl (aB rfl (fun hb=>Bool.noConfusion hb) (fun _=>aD (sgh [(1,.row 0 [.int .i64 21,.int .i64 6])] rfl (aA (sg rfl (aE (aO 1 (rnd ?_))))))))));exact aA (sg rfl (aB rfl (fun hb=>Bool.noConfusion hb) (fun _=>aG (sg rfl (aF (rtC trw))))))
def lvO:AObj:=.var 75 ((mI lvP).map .c)
theorem aLn:aU Tryz.prog 32 [.pa (mI lvP)] [] (atV 21 6) []:=by
 have g:=aLd;have q:=aP6 x7 [];have u:=aGy x7 [];have y:=aPq;have A:=aBi;have E:aU Tryz.prog 29 [bI aCo,Go.AM.T [102]] [] (B false) []:=by
  have:=eZ aCo [102] (by decide);rwa [show decide (([102]:Str)∈aCo)=false by decide] at this
 have I:=oN x7 [] 22 0;have J:=aGx x7 [];have M:=aLc x7 [];have O:=aHk;have hin:=aK2 x7 [(21,6)];have U:=aTo;refine bC (n:=151) tok Tryz.func32 rfl rfl rfl ?_;refine sg rfl (sk 1 rfl (kc g ?_));refine kz 1 rfl (sk 3 rfl (kc q ?_));refine az (sg rfl (sg rfl (aA (sg rfl (aE (aO 1 (rnd ?_)))))));refine sg rfl (aA (aB rfl (fun hb=>Bool.noConfusion hb) (fun _=>aG (sk 3 rfl (kc u ?_)))));refine az (AWp.sub (Sub.ownCell (x:=5) (k:=0) (id:=803) 123 2 rfl rfl rfl) ?_);refine aA (sg rfl (aE (aO 2 (rnd ?_))));refine sg rfl (aA (aB rfl (fun _=>aD (aA (aE (sgh [(0,.row 0 (b6 lvB))] rfl (ag [(6,.all)] rfl (ag [] rfl (rnd ?_))))))) (fun hb=>Bool.noConfusion hb)));refine sg rfl (aA (aB rfl (fun hb=>Bool.noConfusion hb) (fun _=>aG (AWp.sub (Sub.freeze (id:=803) rfl) ?_))));refine AWp.sub (Sub.varPure (x:=5) (cs:=[.sl 2 [[.str [102],.int .i64 0]]]) rfl (.hs rfl rfl rfl .nil)) ?_;refine AWp.sub (st2:=mk [(1,.one (.vp 1 0)),(2,.one (.vp 2 0)),(3,fdP),(5,.one (.vp 5 0))] [(1,lvO),(2,.var 38 [.c (.int .i64 0),.c (.int .i64 0)]),(5,.var 113 [.c (.sl 2 [[.str [102],.int .i64 0]])]),(800,fdO x7 []),(801,fdA [])]) sl ?_;refine sk 1 rfl (kc y ?_);refine az (sg rfl (AWp.sub (Sub.own (t:=14) (id:=804) 9 1 rfl rfl) ?_));refine aA (sg rfl (aE (aO 2 (rnd ?_))));refine sg rfl (aA (aB rfl (fun _=>aD (aA (aE (sgh [(0,.row 0 [.str [102],.int .i64 0])] rfl (sgh [(3,.all)] rfl (aC mixed (ak 1 [] rfl (kc A ?_)))))))) (fun hb=>Bool.noConfusion hb)));refine ak 2 [] rfl (kc E ?_);refine ak 2 [] rfl (kc I ?_);refine az (ag [] rfl (rnd ?_));refine sg rfl (aA (aB rfl (fun hb=>Bool.noConfusion hb) (fun _=>aG (AWp.sub (Sub.freeze (id:=804) rfl) ?_))));refine AWp.sub (st2:=mk [(1,.one (.vp 1 0)),(2,.one (.vp 2 0)),(3,fdP),(5,.one (.vp 5 0)),(14,bI [[102]])] [(1,lvO),(2,.var 38 [.c (.int .i64 0),.c (.int .i64 0)]),(5,.var 113 [.c (.sl 2 [[.str [102],.int .i64 0]])]),(800,fdO x7 []),(801,fdA [])]) ?_ ?_
 ·refine Sub.trans ?_ (cv 14 (([[102]]:List Str).map aR));exact sl
 refine sk 3 rfl (kc J ?_);refine az (aA (sg rfl (aE (aO 2 (rnd ?_)))));refine sg rfl (aA (aB rfl (fun _=>aD (aA (aE (sgh [(0,.row 0 (b6 lvB))] rfl (aC mixed (ak 3 [(2,.all)] rfl (kc M ?_))))))) (fun hb=>Bool.noConfusion hb)));refine az (ag [] rfl (rnd ?_));refine sg rfl (aA (aB rfl (fun hb=>Bool.noConfusion hb) (fun _=>aG (AWp.sub (st2:=mk [(1,.one (.vp 1 0)),(2,.one (.vp 2 0)),(3,fdP)] [(1,lvO),(2,.var 38 [.c (.int .i64 0),.c (.int .i64 0)]),(800,fdO x7 []),(801,fdA [])]) sl ?_))));refine sk 3 rfl (kc O ?_);refine az (sk 3 rfl (kc hin ?_));refine az (aA (sg rfl (aB rfl (fun hb=>Bool.noConfusion hb) (fun _=>aD (AWp.sub (Sub.freeze (id:=801) rfl) ?_)))));refine sk 4 rfl (kc U ?_);exact kz 1 rfl (aF (rtC trw))
end Go.Proofs.YtkhgpgihmphfdaaGreat
namespace Go
section
variable {F:Fence}{n:Nat}{P:Program}{a:Act}{w:World}{Q:Exit→Act→World→Prop}
def aSv (l:Nat) (J:Act→World→Prop) (Q:Exit→Act→World→Prop):Exit→Act→World→Prop
 | .goto l',a,w=>l'=l∧J a w
 | e,a,w=>Q e a w
def sW (F:Fence) (n:Nat) (P:Program) (rest:Code) (l:Nat) (Q:Exit→Act→World→Prop):Nat→Act→World→Prop
 | 0,_,_=>False
 | m+1,a,w=>rest.wpIn F n P (aSv l (sW F n P rest l Q m) Q) a w
theorem n0 {c rest:Code}(l m:Nat) (hf:findLabel c l=some rest) (first:c.wpIn F n P (aSv l (sW F n P rest l Q m) Q) a w):(Code.scope c).wpIn F n P Q a w:=by
 intro b k cs J hb B;have h0:(lone (b.atR a (.code (.scope c)::k)) cs w).fenced P F:=fenced_calm hb B rfl;have Y:gotoIn l (.inScope c::k)=some (.code rest:: .inScope c::k):=by simp[gotoIn,hf]
 have hx:∀id,exitTo id (.inScope c::k)=exitTo id k:=fun id=>by simp[exitTo]
 have key:∀m a w,sW F n P rest l Q m a w→∃e a' w',Q e a' w'∧ArrivesIn (Machine.fenced P F) P (lone (b.atR a (.code rest:: .inScope c::k)) cs w) b k cs e a' w':=by
  intro m
  induction m with
  | zero=>intro a w h;exact h.elim
  | succ m ih=>
   intro a w h;obtain⟨e,q,u,hq,g⟩:=h b (.inScope c::k) cs J hb B;cases e with
   | normal=>exact⟨.normal,q,u,hq,StepsIn.trans g (.one (fenced_calm hb B rfl) iO)⟩
   | exit id=>exact⟨.exit id,q,u,hq,fun k' A=>g.1 k' (by rw[hx];exact A),fun E A=>g.2 E (by rw[hx];exact A)⟩
   | goto l'=>
    obtain⟨rfl,M⟩:=hq;obtain⟨O,a₂,U,I,y⟩:=ih q u M;exact⟨O,a₂,U,I,.of_steps (g.1 _ Y) y⟩
   | ret=>exact⟨_,q,u,hq,g⟩
   | panic ch=>exact⟨_,q,u,hq,g⟩
   | outgrown=>exact⟨_,q,u,hq,g⟩
 obtain⟨e,q,u,hq,g⟩:=first b (.inScope c::k) cs J hb B
 cases e with
 | normal=>exact⟨.normal,q,u,hq,.head h0 c7 (StepsIn.trans g (.one (fenced_calm hb B rfl) iO))⟩
 | exit id=>
  exact⟨.exit id,q,u,hq,fun k' A=>.head h0 c7 (g.1 k' (by rw[hx];exact A)),
   fun E A=>let ⟨k₁,h1,h2⟩:=g.2 E (by rw[hx];exact A);⟨k₁,h1,.head h0 c7 h2⟩⟩
 | goto l'=>
  obtain⟨rfl,M⟩:=hq;obtain⟨O,a₂,U,I,y⟩:=key m q u M;exact⟨O,a₂,U,I,.of_steps (.head h0 c7 (g.1 _ Y)) y⟩
 | ret=>exact⟨_,q,u,hq,.of_steps (.one h0 c7) g⟩
 | panic ch=>exact⟨_,q,u,hq,.of_steps (.one h0 c7) g⟩
 | outgrown=>exact⟨_,q,u,hq,.of_steps (.one h0 c7) g⟩
end
end Go
namespace Go.AM
open Go
section
variable {ro:Option Nat}{P:Program}{n:Nat}{kf:List Nat}{st:St}{Q:Exit→St→Prop}
def aWu (l:Nat) (J:St→Prop) (Q:Exit→St→Prop):Exit→St→Prop
 | .goto l',st=>l'=l∧J st
 | e,st=>Q e st
def aUt (ro:Option Nat) (P:Program) (n:Nat) (kf:List Nat) (rest:Code) (l:Nat) (Q:Exit→St→Prop):Nat→St→Prop
 | 0,_=>False
 | m+1,st=>AWp ro P n kf rest st (aWu l (aUt ro P n kf rest l Q m) Q)
theorem jmp {rest:Code}{l m:Nat}(h:AWp ro P n kf rest st (aWu l (aUt ro P n kf rest l Q m) Q)):aUt ro P n kf rest l Q (m+1) st:=h
theorem aL0 {l:Nat}(h:Q (.goto l) st):AWp ro P n kf (.goto l) st Q:=fun _ S μ a w _ _ hs g=>wpIn_goto (g _ _ S μ a w h hs)
theorem aDo {c rest:Code}(l m:Nat) (B:findLabel c l=some rest) (h:AWp ro P n kf c st (aWu l (aUt ro P n kf rest l Q m) Q)):AWp ro P n kf (.scope c) st Q:=fun G S μ a w Q' y hs A=>by
 have key:∀(m:Nat) (st:St),aUt ro P n kf rest l Q m st→∀S μ a w,Sim G n S μ st a w→sW (Wd ro) 0 P rest l Q' m a w:=by
  intro m
  induction m with
  | zero=>intro st h;exact h.elim
  | succ m E=>
   intro st h S μ a w hs;refine h G S μ a w _ y hs fun ex st' S1 g u w' q s=>?_
   cases ex with
   | goto I=>exact⟨q.1,E st' q.2 S1 g u w' s⟩
   | _=>exact A _ st' S1 g u w' q s
 refine n0 l m B (h G S μ a w _ y hs fun ex st' S1 g u w' q s=>?_);cases ex with
 | goto I=>exact⟨q.1,key m st' q.2 S1 g u w' s⟩
 | _=>exact A _ st' S1 g u w' q s
end
end Go.AM
namespace Go.Proofs.YtkhgpgihmphfdaaGreat
open Go Go.AM
set_option maxRecDepth 20000
set_option maxHeartbeats 4000000
def n2O:AObj:=.var 3 [.c (.int .i64 2)]
theorem aPo (k:Nat) (g:k<2):aU Tryz.prog 201 ([I .i64 (k:Nat)]++[R.vp 3 0].map V.one) [(3,n2O)] (B false) [(3,n2O)]:=by
 have d1:decide ((k:Int)<0)=false:=ψ (by omega);have d2:decide ((2:Int)≤(k:Int))=false:=ψ (by omega);refine bC (n:=11) tok Tryz.func201 rfl rfl rfl ?_;exact sg rfl (sgh [(2,.bv false),(6,.bv false)] rfl (aF ⟨.inr rfl,⟨_,_,.tmp rfl .nil,.cons (by rw[←d2];exact .refl) .nil,rfl⟩,⟨⟨_,rfl,.var rfl⟩,trivial⟩,rfl⟩))
theorem aK6 (l:List (List C)) (h:l.length≤600000000000):aU Tryz.prog 200 [.one (.c (.sl 1 l))] [] (.one (.hs 710 0 l.length l.length)) [(710,.arr 3 1 l 0)]:=by
 refine bC (n:=8) tok Tryz.func200 rfl rfl rfl ?_;refine sg rfl (aH8 0 rfl (fun hl=>?_) ?_)
 ·subst hl;refine aA (sg rfl (aB rfl (fun _=>sg rfl (AWp.sub (Sub.own (t:=2) (id:=710) 3 1 rfl rfl) ?_)) nofun));exact aF rtT
 ·refine aA (sg rfl (aB rfl nofun (fun _=>aD (sgh [(0,.id 710)] rfl (AWp.sub (st2:=mk [(2,.one (.hs 710 0 l.length l.length))] [(710,.arr 3 1 l 0)]) sl ?_)))));exact aF rtT
theorem aTw (k:Nat) (g:k<2):aU Tryz.prog 220 [.one (.hs 710 0 1 1),.one (.clo 201 [.vp 3 0])] [(710,.arr 3 1 [[.int .i64 (k:Nat)]] 0),(3,n2O)] (I .i64 (-1)) [(710,.arr 3 1 [[.int .i64 (k:Nat)]] 0),(3,n2O)]:=by
 have hc:=aPo k g;refine bC (n:=19) tok Tryz.func220 rfl rfl rfl ?_;refine sg rfl (aA (sg rfl (aE (aO 2 (rnd ?_)))));refine sg rfl (aA (aB rfl (fun _=>aD (aA (aE (sg rfl (skh 5 [(4,.row 0 [.int .i64 (k:Nat)])] rfl (kv hc ?_)))))) (fun hb=>Bool.noConfusion hb)));refine az (aB rfl (fun hb=>Bool.noConfusion hb) (fun _=>aD (ag [] rfl (rnd ?_))));exact sg rfl (aA (aB rfl (fun hb=>Bool.noConfusion hb) (fun _=>aG (sg rfl (aF rtT)))))
theorem aT4 (k:Nat) (g:k<2):aU Tryz.prog 199 [.one (.hs 710 0 1 1),.one (.clo 201 [.vp 3 0])] [(710,.arr 3 1 [[.int .i64 (k:Nat)]] 0),(3,n2O)] (.one (.hs 710 0 1 1)) [(710,.arr 3 1 [[.int .i64 (k:Nat)]] 0),(3,n2O)]:=by
 have hi:=aTw k g;refine bC (n:=42) tok Tryz.func199 rfl rfl rfl ?_;refine sg rfl (sk 2 rfl (kc hi ?_));exact kz 1 rfl (aA (sg rfl (aB rfl (fun _=>sg rfl (aF rtT)) (fun hb=>Bool.noConfusion hb))))
def usR:List (List C):=[[.sl 1 [[.int .i64 ((1:Nat):Int)]]],[.sl 1 [[.int .i64 ((0:Nat):Int)]]]]
def usV:V:=.one (.c (.sl 1 usR))
theorem tH (i k:Nat) (hi:i<2) (h:usR[i]?=some [.sl 1 [[.int .i64 (k:Nat)]]]) (g:k<2):aU Tryz.prog 170 [I .i64 2,usV,I .i64 (i:Nat)] [] (.one (.c (.sl 1 [[.int .i64 (k:Nat)]]))) []:=by
 have hc:=aK6 [[.int .i64 (k:Nat)]] (show 1≤600000000000 by decide);have q:=aT4 k g;have d1:decide ((2:Int)≤(i:Int))=false:=ψ (by omega);have u:usR.length=2:=rfl;refine bC (n:=18) tok Tryz.func170 rfl rfl rfl ?_;refine sg rfl (aA (sg rfl (aB rfl (fun hb=>Bool.noConfusion (hb.symm.trans d1)) (fun _=>aD (skh 4 [(2,.row i [.sl 1 [[.int .i64 (k:Nat)]]])] rfl (kc hc ?_))))));refine ak 1 [] rfl (kc q ?_);refine kz 1 rfl (AWp.sub (Sub.freeze (id:=710) rfl) ?_);refine AWp.sub (st2:=mk [(6,.one (.c (.sl 1 [[.int .i64 (k:Nat)]])))] []) ?_ ?_
 ·refine Sub.trans ?_ (cv 6 [[.int .i64 (k:Nat)]]);exact sl
 exact aF rtT
end Go.Proofs.YtkhgpgihmphfdaaGreat
namespace Go.AM
open Go
theorem Sub.tailS {kf:List Nat}{st:St}{t id id' te es off len sz:Nat}{elems:List (List C)}(h:st.e t=some (.one (.tl id off len sz))) (ha:st.h id=some (.arr te es elems 0)) (hsz:sz=elems.length) (U:st.h id'=none):
  Sub kf ⟨upd st.e t (some (.one (.hs id' 0 len len))),upd (upd st.h id (some .dead)) id' (some (.arr te es (elems.drop off) 0)),st.d⟩ st:=by
 intro G n S μ a w _ hs;have ab:id≠id':=fun e=>by subst e;rw[ha] at U;cases U
 have J:=hs.env t _ h;simp only[aN,aX] at J;obtain⟨_,J | ⟨te',es',elems',fz',p1,p2,p3⟩⟩:=J
 ·rw[ha] at J;cases J
 rw[ha] at p1;cases p1;obtain⟨p4,b,base,cap,p5,p6,p7⟩:=p3 hsz;obtain⟨q0,vs,q1,q2,q3,q4,q5,q6,q7,q8⟩:=(hs.inv.obj id _ ha).arr p5;generalize u:(if cap=off then base else base+off*es)=g at p7;have hble:base≤g:=by rw[←u];split<;>omega
 have A:Evolve S μ st.h S (upd (upd μ id none) id' (some (b,g,cap-off))) (upd (upd st.h id (some .dead)) id' (some (.arr te es (elems.drop off) 0))):=⟨S.le_refl,fun j y q=>by
  by_cases h1:j=id'
  ·subst h1;rw[U] at q;cases q
  ·by_cases h2:j=id
   ·subst h2;rw[ha] at q;cases q;exact⟨.dead,by rw[aY _ _ _ h1];exact aH _ _ _,trivial⟩
   ·exact⟨y,by rw[aY _ _ _ h1,aY _ _ _ h2];exact q,y.succ_refl (by rw[aY _ _ _ h1,aY _ _ _ h2])⟩⟩
 generalize hμ:upd (upd μ id none) id' (some (b,g,cap-off))=μ' at A;generalize hH:upd (upd st.h id (some .dead)) id' (some (.arr te es (elems.drop off) 0))=H1 at A;have E:μ' id=none:=by rw[←hμ,aY _ _ _ ab];exact aH _ _ _
 have I:μ' id'=some (b,g,cap-off):=by rw[←hμ];exact aH _ _ _
 have ac:∀j,j≠id→j≠id'→μ' j=μ j:=fun j h1 h2=>by rw[←hμ,aY _ _ _ h2,aY _ _ _ h1]
 have hHid:H1 id=some .dead:=by rw[←hH,aY _ _ _ ab];exact aH _ _ _
 have O:H1 id'=some (.arr te es (elems.drop off) 0):=by rw[←hH];exact aH _ _ _
 have ad:∀j,j≠id→j≠id'→H1 j=st.h j:=fun j h1 h2=>by rw[←hH,aY _ _ _ h2,aY _ _ _ h1]
 have hdl:(elems.drop off).length=len:=by rw[Bc];omega
 have hold:∀j y,H1 j=some y→∀M c1,μ' j=some (M,c1)→∃Y y0 c0,st.h Y=some y0∧μ Y=some (M,c0)∧(Y=if j=id' then id else j):=by
  intro j y q M c1 hm;by_cases h1:j=id'
  ·subst h1;rw[I] at hm;cases hm;exact⟨id,_,_,ha,p5,by simp⟩
  ·by_cases h2:j=id
   ·subst h2;rw[E] at hm;cases hm
   ·rw[ac j h2 h1] at hm;rw[ad j h2 h1] at q;exact⟨j,y,c1,q,hm,by simp[h1]⟩
 refine⟨S,μ',⟨⟨hs.inv.holds,fun j y ae=>?_,fun i j y y' M c c' hi q hm aa=>?_,fun i y M c hi hm=>?_,hs.inv.frame,hs.inv.sle,hs.inv.sto,hs.inv.evo.trans A,hs.inv.fre⟩,hs.size,hs.defers.evolve A,fun s v e=>?_⟩⟩
 ·have B:H1 j=some y:=ae;clear ae;by_cases h1:j=id'
  ·subst h1;rw[O] at B;cases B;refine⟨fun r hr=>q0 r (List.mem_of_mem_drop hr),.inr ⟨b,g,cap-off,vs,I,q1,?_,by omega,⟨by omega,q4.2⟩,?_,fun _ o ho=>q6 rfl o (by omega),fun o ho=>q6 rfl o (by omega),fun e=>by cases e⟩⟩
   ·rw[←u];split
    ·rename_i hc;rw[hc];simp;omega
    ·have:cap*es=off*es+(cap-off)*es:=by rw[←A3];congr 1;omega
     omega
   ·rw[hdl];by_cases hc:cap=off
    ·have:len=0:=by omega
     have hd0:elems.drop off=[]:=drop_of_length_le (by omega);rw[hd0,this];simp[bU]
    ·rw[ξ hc] at u;have h1:=q5.drop (off*es);rw[←pT q0,drop_take,Ci,u] at h1;rwa [show elems.length*es-off*es=len*es by rw[←Nat.sub_mul];congr 1;omega] at h1
  ·by_cases h2:j=id
   ·subst h2;rw[hHid] at B;cases B;exact E
   ·rw[ad j h2 h1] at B;exact(hs.inv.obj j y B).evolve A (ac j h2 h1) fun _ _ _=>⟨rfl,fun _=>rfl,rfl⟩
 ·have hi:H1 i=some y:=hi;have q:H1 j=some y':=q;obtain⟨i0,yi,ci,e1,e2,e3⟩:=hold _ _ hi _ _ hm;obtain⟨Y,yj,cj,f1,f2,f3⟩:=hold _ _ q _ _ aa;have:=hs.inv.inj i0 Y _ _ M ci cj e1 f1 e2 f2;rw[e3,f3] at this;by_cases h1:i=id'<;>by_cases h2:j=id'
  ·rw[h1,h2]
  ·simp[h1,h2] at this;subst this;rw[E] at aa;cases aa
  ·simp[h1,h2] at this;subst this;rw[E] at hm;cases hm
  ·simpa [h1,h2] using this
 ·obtain⟨i0,yi,ci,e1,e2,e3⟩:=hold _ _ hi _ _ hm;exact hs.inv.own i0 _ M ci e1 e2
 ·by_cases af:s=t
  ·subst af;have e':some (V.one (.hs id' 0 len len))=some v:=by rw[←e];exact(aH _ _ _).symm
   cases e';simp only[aN,aX];exact⟨⟨_,_,_,p7⟩,.inr ⟨te,es,elems.drop off,0,O,by omega,fun _=>⟨by omega,.inr ⟨b,g,cap-off,I,by rw[p7];simp⟩⟩⟩⟩
  ·have e':st.e s=some v:=by rw[←e];exact(aY _ _ _ af).symm
   exact aN.evolve A v _ (hs.env s v e')
end Go.AM
namespace Go.Proofs.YtkhgpgihmphfdaaGreat
open Go Go.AM
set_option maxRecDepth 20000
set_option maxHeartbeats 4000000
theorem aP5:aU Tryz.prog 114 [I .i64 2,usV,I .i64 ((0:Nat):Int)] [] (.one (.c (.sl 1 [[.bool true],[.bool true]]))) []:=by
 have g:=tH 0 1 (by decide) rfl (by decide);have q:=tH 1 0 (by decide) rfl (by decide);refine bC (n:=50) tok Tryz.func114 rfl rfl rfl ?_;refine sg rfl (sk 1 rfl (k_ (g_ rfl rfl (jZ (m:=2) (c:=.bool false) (id:=600) tok rfl rfl (eD rfl) (tg rfl) rfl (tg rfl) rfl rfl rfl rfl (by decide) (by decide) rfl)) ?_));refine kz 1 rfl (sgh [(3,.row 0 [.bool false])] rfl (aA (sgh [(1,.id 610)] rfl (aE (aO 3 (rnd ?_))))));refine AWp.sub (st2:=mk [(0,I .i64 2),(1,usV),(7,.one (.hs 600 0 2 2)),(8,.one (.hs 610 0 1 1))] [(600,.arr 4 1 [[.bool true],[.bool false]] 0),(610,.arr 3 1 [[.int .i64 ((0:Nat):Int)]] 0)]) sl ?_;refine aA (sg rfl (aB rfl (fun _=>aD (aE (sgh [(2,.row 0 [.int .i64 ((0:Nat):Int)])] rfl (sk 1 rfl (k_ (g_ rfl rfl (uV 1 tok rfl rfl (eD rfl) (tg rfl) rfl (tg rfl) rfl rfl (hh:=rfl) (hsz:=rfl) (hlen:=rfl) (hy:=rfl) (hl:=⟨by decide,by decide⟩))) ?_))))) (fun hb=>Bool.noConfusion hb)));refine kz 1 rfl (AWp.sub (st2:=mk [(0,I .i64 2),(1,usV),(7,.one (.hs 600 0 2 2)),(8,.one (.tl 610 1 0 1)),(9,I .i64 ((0:Nat):Int))] [(600,.arr 4 1 [[.bool true],[.bool false]] 0),(610,.arr 3 1 [[.int .i64 ((0:Nat):Int)]] 0)]) sl ?_);refine AWp.sub (Sub.tailS (t:=8) (id':=611) rfl rfl rfl rfl) ?_;refine AWp.sub (st2:=mk [(0,I .i64 2),(1,usV),(7,.one (.hs 600 0 2 2)),(8,.one (.hs 611 0 0 0)),(9,I .i64 ((0:Nat):Int))] [(600,.arr 4 1 [[.bool true],[.bool false]] 0),(611,.arr 3 1 [] 0)]) sl ?_;refine sk 3 rfl (kc g ?_);refine kz 2 rfl (aE (aO 2 (rnd ?_)));refine sg rfl (aA (aB rfl (fun _=>aD (aA (aE (sgh [(0,.row 0 [.int .i64 ((1:Nat):Int)])] rfl (sgh [(3,.row 1 [.bool false])] rfl (aB rfl (fun _=>sgh [(3,.row 1 [.bool false])] rfl (ag [(2,.all)] rfl (ag [] rfl (rnd ?_)))) (fun hb=>Bool.noConfusion hb))))))) (fun hb=>Bool.noConfusion hb)));refine sg rfl (aA (aB rfl (fun hb=>Bool.noConfusion hb) (fun _=>aG (rnd ?_))));refine AWp.sub (st2:=mk [(0,I .i64 2),(1,usV),(7,.one (.hs 600 0 2 2)),(8,.one (.hs 611 0 1 1))] [(600,.arr 4 1 [[.bool true],[.bool true]] 0),(611,.arr 3 1 [[.int .i64 ((1:Nat):Int)]] 0)]) sl ?_;refine aA (sg rfl (aB rfl (fun _=>aD (aE (sgh [(2,.row 0 [.int .i64 ((1:Nat):Int)])] rfl (sk 1 rfl (k_ (g_ rfl rfl (uV 1 tok rfl rfl (eD rfl) (tg rfl) rfl (tg rfl) rfl rfl (hh:=rfl) (hsz:=rfl) (hlen:=rfl) (hy:=rfl) (hl:=⟨by decide,by decide⟩))) ?_))))) (fun hb=>Bool.noConfusion hb)));refine kz 1 rfl (AWp.sub (st2:=mk [(0,I .i64 2),(1,usV),(7,.one (.hs 600 0 2 2)),(8,.one (.tl 611 1 0 1)),(9,I .i64 ((1:Nat):Int))] [(600,.arr 4 1 [[.bool true],[.bool true]] 0),(611,.arr 3 1 [[.int .i64 ((1:Nat):Int)]] 0)]) sl ?_);refine AWp.sub (Sub.tailS (t:=8) (id':=612) rfl rfl rfl rfl) ?_;refine AWp.sub (st2:=mk [(0,I .i64 2),(1,usV),(7,.one (.hs 600 0 2 2)),(8,.one (.hs 612 0 0 0)),(9,I .i64 ((1:Nat):Int))] [(600,.arr 4 1 [[.bool true],[.bool true]] 0),(612,.arr 3 1 [] 0)]) sl ?_;refine sk 3 rfl (kc q ?_);refine kz 2 rfl (aE (aO 2 (rnd ?_)));refine sg rfl (aA (aB rfl (fun _=>aD (aA (aE (sgh [(0,.row 0 [.int .i64 ((0:Nat):Int)])] rfl (sgh [(3,.row 0 [.bool true])] rfl (aB rfl (fun hb=>Bool.noConfusion hb) (fun _=>aD (ag [] rfl (rnd ?_))))))))) (fun hb=>Bool.noConfusion hb)));refine sg rfl (aA (aB rfl (fun hb=>Bool.noConfusion hb) (fun _=>aG (rnd ?_))));refine aA (sg rfl (aB rfl (fun hb=>Bool.noConfusion hb) (fun _=>aG (AWp.sub (Sub.freeze (id:=600) rfl) ?_))));refine AWp.sub (st2:=mk [(7,.one (.c (.sl 1 [[.bool true],[.bool true]])))] []) ?_ ?_
 ·refine Sub.trans ?_ (cv 7 [[.bool true],[.bool true]]);exact sl
 exact sg rfl (aF rtT)
theorem aP4:aU Tryz.prog 114 [I .i64 2,usV,I .i64 ((1:Nat):Int)] [] (.one (.c (.sl 1 [[.bool true],[.bool true]]))) []:=by
 have g:=tH 1 0 (by decide) rfl (by decide);have q:=tH 0 1 (by decide) rfl (by decide);refine bC (n:=50) tok Tryz.func114 rfl rfl rfl ?_;refine sg rfl (sk 1 rfl (k_ (g_ rfl rfl (jZ (m:=2) (c:=.bool false) (id:=600) tok rfl rfl (eD rfl) (tg rfl) rfl (tg rfl) rfl rfl rfl rfl (by decide) (by decide) rfl)) ?_));refine kz 1 rfl (sgh [(3,.row 1 [.bool false])] rfl (aA (sgh [(1,.id 610)] rfl (aE (aO 3 (rnd ?_))))));refine AWp.sub (st2:=mk [(0,I .i64 2),(1,usV),(7,.one (.hs 600 0 2 2)),(8,.one (.hs 610 0 1 1))] [(600,.arr 4 1 [[.bool false],[.bool true]] 0),(610,.arr 3 1 [[.int .i64 ((1:Nat):Int)]] 0)]) sl ?_;refine aA (sg rfl (aB rfl (fun _=>aD (aE (sgh [(2,.row 0 [.int .i64 ((1:Nat):Int)])] rfl (sk 1 rfl (k_ (g_ rfl rfl (uV 1 tok rfl rfl (eD rfl) (tg rfl) rfl (tg rfl) rfl rfl (hh:=rfl) (hsz:=rfl) (hlen:=rfl) (hy:=rfl) (hl:=⟨by decide,by decide⟩))) ?_))))) (fun hb=>Bool.noConfusion hb)));refine kz 1 rfl (AWp.sub (st2:=mk [(0,I .i64 2),(1,usV),(7,.one (.hs 600 0 2 2)),(8,.one (.tl 610 1 0 1)),(9,I .i64 ((1:Nat):Int))] [(600,.arr 4 1 [[.bool false],[.bool true]] 0),(610,.arr 3 1 [[.int .i64 ((1:Nat):Int)]] 0)]) sl ?_);refine AWp.sub (Sub.tailS (t:=8) (id':=611) rfl rfl rfl rfl) ?_;refine AWp.sub (st2:=mk [(0,I .i64 2),(1,usV),(7,.one (.hs 600 0 2 2)),(8,.one (.hs 611 0 0 0)),(9,I .i64 ((1:Nat):Int))] [(600,.arr 4 1 [[.bool false],[.bool true]] 0),(611,.arr 3 1 [] 0)]) sl ?_;refine sk 3 rfl (kc g ?_);refine kz 2 rfl (aE (aO 2 (rnd ?_)));refine sg rfl (aA (aB rfl (fun _=>aD (aA (aE (sgh [(0,.row 0 [.int .i64 ((0:Nat):Int)])] rfl (sgh [(3,.row 0 [.bool false])] rfl (aB rfl (fun _=>sgh [(3,.row 0 [.bool false])] rfl (ag [(2,.all)] rfl (ag [] rfl (rnd ?_)))) (fun hb=>Bool.noConfusion hb))))))) (fun hb=>Bool.noConfusion hb)));refine sg rfl (aA (aB rfl (fun hb=>Bool.noConfusion hb) (fun _=>aG (rnd ?_))));refine AWp.sub (st2:=mk [(0,I .i64 2),(1,usV),(7,.one (.hs 600 0 2 2)),(8,.one (.hs 611 0 1 1))] [(600,.arr 4 1 [[.bool true],[.bool true]] 0),(611,.arr 3 1 [[.int .i64 ((0:Nat):Int)]] 0)]) sl ?_;refine aA (sg rfl (aB rfl (fun _=>aD (aE (sgh [(2,.row 0 [.int .i64 ((0:Nat):Int)])] rfl (sk 1 rfl (k_ (g_ rfl rfl (uV 1 tok rfl rfl (eD rfl) (tg rfl) rfl (tg rfl) rfl rfl (hh:=rfl) (hsz:=rfl) (hlen:=rfl) (hy:=rfl) (hl:=⟨by decide,by decide⟩))) ?_))))) (fun hb=>Bool.noConfusion hb)));refine kz 1 rfl (AWp.sub (st2:=mk [(0,I .i64 2),(1,usV),(7,.one (.hs 600 0 2 2)),(8,.one (.tl 611 1 0 1)),(9,I .i64 ((0:Nat):Int))] [(600,.arr 4 1 [[.bool true],[.bool true]] 0),(611,.arr 3 1 [[.int .i64 ((0:Nat):Int)]] 0)]) sl ?_);refine AWp.sub (Sub.tailS (t:=8) (id':=612) rfl rfl rfl rfl) ?_;refine AWp.sub (st2:=mk [(0,I .i64 2),(1,usV),(7,.one (.hs 600 0 2 2)),(8,.one (.hs 612 0 0 0)),(9,I .i64 ((0:Nat):Int))] [(600,.arr 4 1 [[.bool true],[.bool true]] 0),(612,.arr 3 1 [] 0)]) sl ?_;refine sk 3 rfl (kc q ?_);refine kz 2 rfl (aE (aO 2 (rnd ?_)));refine sg rfl (aA (aB rfl (fun _=>aD (aA (aE (sgh [(0,.row 0 [.int .i64 ((1:Nat):Int)])] rfl (sgh [(3,.row 1 [.bool true])] rfl (aB rfl (fun hb=>Bool.noConfusion hb) (fun _=>aD (ag [] rfl (rnd ?_))))))))) (fun hb=>Bool.noConfusion hb)));refine sg rfl (aA (aB rfl (fun hb=>Bool.noConfusion hb) (fun _=>aG (rnd ?_))));refine aA (sg rfl (aB rfl (fun hb=>Bool.noConfusion hb) (fun _=>aG (AWp.sub (Sub.freeze (id:=600) rfl) ?_))));refine AWp.sub (st2:=mk [(7,.one (.c (.sl 1 [[.bool true],[.bool true]])))] []) ?_ ?_
 ·refine Sub.trans ?_ (cv 7 [[.bool true],[.bool true]]);exact sl
 exact sg rfl (aF rtT)
def ldR:List (List C):=[[.sl 1 [[.bool true],[.bool true]]],[.sl 1 [[.bool true],[.bool true]]]]
def ldO:AObj:=.var 202 [.c (.sl 1 ldR)]
def aEd:AObj:=.var 203 [.hs 620 0 2 2]
def tdA (a b:Bool):AObj:=.arr 4 1 [[.bool a],[.bool b]] 0
theorem aKv:aU Tryz.prog 115 ([I .i64 0]++[R.vp 5 0,R.vp 7 0].map V.one) [(5,ldO),(7,aEd),(620,tdA false false)] (B true) [(5,ldO),(7,aEd),(620,tdA false false)]:=by
 refine bC (n:=36) tok Tryz.func115 rfl rfl rfl ?_;refine sg rfl (aA (sgh [(2,.row 0 [.sl 1 [[.bool true],[.bool true]]])] rfl (aE (aO 3 (rnd ?_)))));refine sg rfl (aA (aB rfl (fun _=>aD (aA (aE (sgh [(1,.row 0 [.bool true])] rfl (sgh [(1,.bv true),(5,.row 0 [.bool false]),(7,.bv true),(8,.bv true),(11,.row 0 [.sl 1 [[.bool true],[.bool true]]]),(14,.row 0 [.bool true]),(17,.bv true)] rfl (aB rfl (fun hb=>Bool.noConfusion hb) (fun _=>aD (ag [] rfl (rnd ?_))))))))) (fun hb=>Bool.noConfusion hb)));refine AWp.sub (st2:=mk [(0,I .i64 0),(1,.one (.vp 5 0)),(2,.one (.vp 7 0)),(10,.one (.c (.sl 1 [[.bool true],[.bool true]]))),(11,I .i64 2),(12,I .i64 1)] [(5,ldO),(7,aEd),(620,tdA false false)]) sl ?_;refine sg rfl (aA (aB rfl (fun _=>aD (aA (aE (sgh [(1,.row 1 [.bool true])] rfl (sgh [(1,.bv true),(5,.row 1 [.bool false]),(7,.bv true),(8,.bv true),(11,.row 1 [.sl 1 [[.bool true],[.bool true]]]),(14,.row 0 [.bool true]),(17,.bv true)] rfl (aB rfl (fun hb=>Bool.noConfusion hb) (fun _=>aD (ag [] rfl (rnd ?_))))))))) (fun hb=>Bool.noConfusion hb)));refine AWp.sub (st2:=mk [(0,I .i64 0),(1,.one (.vp 5 0)),(2,.one (.vp 7 0)),(10,.one (.c (.sl 1 [[.bool true],[.bool true]]))),(11,I .i64 2),(12,I .i64 2)] [(5,ldO),(7,aEd),(620,tdA false false)]) sl ?_;exact sg rfl (aA (aB rfl (fun hb=>Bool.noConfusion hb) (fun _=>aG (sg rfl (aF rtT)))))
theorem aTy:aU Tryz.prog 73 [I .i64 2,usV] [] (.one (.c (.sl 1 [[.sl 1 [[.int .i64 0],[.int .i64 1]]]]))) []:=by
 have g:=aP5;have q:=aP4;have u:=aKv;refine bC (n:=77) tok Tryz.func73 rfl rfl rfl ?_;refine sg rfl (aDo 0 1 rfl ?_);refine sg rfl (AWp.sub (Sub.ownCell (x:=5) (k:=0) (id:=605) 203 1 rfl rfl rfl) ?_);refine aA (sg rfl (aE (aO 3 (rnd ?_))));refine sg rfl (aA (aB rfl (fun _=>aD (aA (aE (sg rfl (aC mixed (ak 4 [] rfl (kc g ?_))))))) (fun hb=>Bool.noConfusion hb)));refine ak 3 [(5,.all)] rfl (az (ag [] rfl (rnd ?_)));refine AWp.sub (st2:=mk [(0,I .i64 2),(1,usV),(5,.one (.vp 5 0)),(14,I .i64 2),(15,I .i64 1)] [(5,.var 202 [.hs 605 0 1 1]),(605,.arr 203 1 [[.sl 1 [[.bool true],[.bool true]]]] 0)]) sl ?_;refine sg rfl (aA (aB rfl (fun _=>aD (aA (aE (sg rfl (aC mixed (ak 4 [] rfl (kc q ?_))))))) (fun hb=>Bool.noConfusion hb)));refine ak 3 [(5,.all)] rfl (az (ag [] rfl (rnd ?_)));refine AWp.sub (st2:=mk [(0,I .i64 2),(1,usV),(5,.one (.vp 5 0)),(14,I .i64 2),(15,I .i64 2)] [(5,.var 202 [.hs 605 0 2 2]),(605,.arr 203 1 [[.sl 1 [[.bool true],[.bool true]]],[.sl 1 [[.bool true],[.bool true]]]] 0)]) sl ?_;refine sg rfl (aA (aB rfl (fun hb=>Bool.noConfusion hb) (fun _=>aG (AWp.sub (Sub.freeze (id:=605) rfl) ?_))));refine AWp.sub (Sub.varPure (x:=5) (cs:=[.sl 1 ldR]) rfl (.hs rfl rfl rfl .nil)) ?_;refine AWp.sub (st2:=mk [(0,I .i64 2),(1,usV),(5,.one (.vp 5 0))] [(5,ldO)]) sl ?_;refine sk 1 rfl (k_ (g_ rfl rfl (jZ (m:=2) (c:=.bool false) (id:=620) tok rfl rfl (eD rfl) (tg rfl) rfl (tg rfl) rfl rfl rfl rfl (by decide) (by decide) rfl)) ?_);refine kz 2 rfl (sg rfl (sg rfl (AWp.sub (Sub.own (t:=9) (id:=630) 22 1 rfl rfl) ?_)));refine AWp.sub (st2:=mk [(0,I .i64 2),(5,.one (.vp 5 0)),(7,.one (.vp 7 0)),(8,.one (.clo 115 [.vp 5 0,.vp 7 0])),(9,.one (.hs 630 0 0 0))] [(5,ldO),(7,aEd),(620,tdA false false),(630,.arr 22 1 [] 0)]) sl ?_;refine aA (wY ?_);refine aA (sg rfl (aE (aO 1 (rnd ?_))));refine sg rfl (aA (aB rfl (fun _=>aD (aA (aE (sg rfl (aA (skh 7 [(3,.row 0 [.bool false]),(4,.bv false)] rfl (kvG u ?_))))))) (fun hb=>Bool.noConfusion hb)));refine ak 2 [(4,.bv false),(9,.bv false)] rfl (az (aB rfl (fun hb=>Bool.noConfusion hb) (fun _=>aD (sg rfl (AWp.sub (Sub.own (t:=11) (id:=640) 3 1 rfl rfl) ?_)))));refine aA (sgh [(2,.row 0 [.sl 1 [[.bool true],[.bool true]]])] rfl (aE (aO 3 (rnd ?_))));refine sg rfl (aA (aB rfl (fun _=>aD (aA (aE (sgh [(1,.row 0 [.bool true])] rfl (sgh [(1,.bv true),(4,.row 0 [.sl 1 [[.bool true],[.bool true]]]),(7,.row 0 [.bool true]),(9,.bv true)] rfl (aB rfl (fun _=>sgh [(2,.all)] rfl (ag [(3,.row 0 [.bool false])] rfl (ag [] rfl (rnd ?_)))) (fun hb=>Bool.noConfusion hb))))))) (fun hb=>Bool.noConfusion hb)));refine AWp.sub (st2:=mk [(0,I .i64 2),(5,.one (.vp 5 0)),(7,.one (.vp 7 0)),(8,.one (.clo 115 [.vp 5 0,.vp 7 0])),(9,.one (.hs 630 0 0 0)),(10,I .i64 0),(11,.one (.hs 640 0 1 1)),(46,.one (.c (.sl 1 [[.bool true],[.bool true]]))),(47,I .i64 2),(48,I .i64 1)] [(5,ldO),(7,aEd),(620,tdA true false),(630,.arr 22 1 [] 0),(640,.arr 3 1 [[.int .i64 0]] 0)]) sl ?_;refine sg rfl (aA (aB rfl (fun _=>aD (aA (aE (sgh [(1,.row 1 [.bool true])] rfl (sgh [(1,.bv true),(4,.row 1 [.sl 1 [[.bool true],[.bool true]]]),(7,.row 0 [.bool true]),(9,.bv true)] rfl (aB rfl (fun _=>sgh [(2,.all)] rfl (ag [(3,.row 1 [.bool false])] rfl (ag [] rfl (rnd ?_)))) (fun hb=>Bool.noConfusion hb))))))) (fun hb=>Bool.noConfusion hb)));refine AWp.sub (st2:=mk [(0,I .i64 2),(5,.one (.vp 5 0)),(7,.one (.vp 7 0)),(8,.one (.clo 115 [.vp 5 0,.vp 7 0])),(9,.one (.hs 630 0 0 0)),(10,I .i64 0),(11,.one (.hs 640 0 2 2)),(46,.one (.c (.sl 1 [[.bool true],[.bool true]]))),(47,I .i64 2),(48,I .i64 2)] [(5,ldO),(7,aEd),(620,tdA true true),(630,.arr 22 1 [] 0),(640,.arr 3 1 [[.int .i64 0],[.int .i64 1]] 0)]) sl ?_;refine sg rfl (aA (aB rfl (fun hb=>Bool.noConfusion hb) (fun _=>aG (AWp.sub (Sub.freeze (id:=640) rfl) ?_))));refine AWp.sub (st2:=mk [(0,I .i64 2),(5,.one (.vp 5 0)),(7,.one (.vp 7 0)),(8,.one (.clo 115 [.vp 5 0,.vp 7 0])),(9,.one (.hs 630 0 0 0)),(11,.one (.c (.sl 1 [[.int .i64 0],[.int .i64 1]])))] [(5,ldO),(7,aEd),(620,tdA true true),(630,.arr 22 1 [] 0)]) ?_ ?_
 ·refine Sub.trans ?_ (cv 11 [[.int .i64 0],[.int .i64 1]]);exact sl
 refine sgh [(2,.all)] rfl (aL0 ⟨rfl,jmp ?_⟩);refine AWp.sub (st2:=mk [(0,I .i64 2),(7,.one (.vp 7 0)),(9,.one (.hs 630 0 1 1))] [(7,aEd),(620,tdA true true),(630,.arr 22 1 [[.sl 1 [[.int .i64 0],[.int .i64 1]]]] 0)]) sl ?_;refine aA (aD (aA (sg rfl (aE (aO 3 (rnd ?_))))));refine sg rfl (aA (aB rfl (fun _=>aD (aA (aE (sg rfl (aA (sgh [(3,.row 0 [.bool true]),(4,.bv true),(9,.bv true)] rfl (aB rfl (fun _=>aG (ag [] rfl (rnd ?_))) (fun hb=>Bool.noConfusion hb)))))))) (fun hb=>Bool.noConfusion hb)));refine AWp.sub (st2:=mk [(0,I .i64 2),(7,.one (.vp 7 0)),(9,.one (.hs 630 0 1 1)),(29,I .i64 2),(30,I .i64 1)] [(7,aEd),(620,tdA true true),(630,.arr 22 1 [[.sl 1 [[.int .i64 0],[.int .i64 1]]]] 0)]) sl ?_;refine sg rfl (aA (aB rfl (fun _=>aD (aA (aE (sg rfl (aA (sgh [(3,.row 1 [.bool true]),(4,.bv true),(9,.bv true)] rfl (aB rfl (fun _=>aG (ag [] rfl (rnd ?_))) (fun hb=>Bool.noConfusion hb)))))))) (fun hb=>Bool.noConfusion hb)));refine AWp.sub (st2:=mk [(0,I .i64 2),(7,.one (.vp 7 0)),(9,.one (.hs 630 0 1 1)),(29,I .i64 2),(30,I .i64 2)] [(7,aEd),(620,tdA true true),(630,.arr 22 1 [[.sl 1 [[.int .i64 0],[.int .i64 1]]]] 0)]) sl ?_;refine sg rfl (aA (aB rfl (fun hb=>Bool.noConfusion hb) (fun _=>aG (AWp.sub (Sub.freeze (id:=630) rfl) ?_))));refine AWp.sub (st2:=mk [(9,.one (.c (.sl 1 [[.sl 1 [[.int .i64 0],[.int .i64 1]]]])))] []) ?_ ?_
 ·refine Sub.trans ?_ (cv 9 [[.sl 1 [[.int .i64 0],[.int .i64 1]]]]);exact sl
 exact sg rfl (aF rtT)
end Go.Proofs.YtkhgpgihmphfdaaGreat
