/-
  Texts Pr7 to Wd0 in one.
-/
import Derived.Test.YtkhgpgihmphfdaaGreatDoorM14
open List (append_assoc append_nil cons_append drop_append_of_le_length flatMap_cons flatMap_nil length_append length_cons length_drop length_map length_nil length_take map_append map_cons map_nil map_take mem_cons mem_cons_of_mem mem_cons_self mem_of_mem_take nil_append not_mem_nil take_append_of_le_length take_length take_of_length_le take_succ_cons take_zero)
open Nat (le_of_lt le_refl le_trans lt_irrefl zero_le)
namespace Go.Proofs.YtkhgpgihmphfdaaGreatDoor
open Go Go.AM
set_option maxRecDepth 20000
set_option maxHeartbeats 4000000
theorem aPy {k:Nat}(O:PES k) (hBS:PBS k):PES (k+1):=by
 intro x hk hP hO hW;obtain⟨f,pl,n,s,ks,ps,y,g⟩:=x;have hM:3000000000≤maxLen:=by decide
 have q:=fH _ hP;have hx0:∃X,X=Ex.mk f pl n s ks ps y g:=⟨_,rfl⟩
 obtain⟨X,hX⟩:=hx0;rw[esz] at hk;rw[exW] at hW q;obtain⟨hn,E,hg,u,hbp⟩:=hP;obtain⟨⟨hl1,hl2,hl3⟩,hsg,⟨ar1,ar2,ar3⟩,hps,B,hbs⟩:=hO;refine b9 (n:=124) tok Tryz.func15 rfl rfl rfl ?_;refine sg rfl (aA (sg rfl (aF (sg rfl ?_))));rw[prE] at q ⊢;by_cases h3:f=3
 ·have d3:decide (f=3)=true:=θ h3;rw[ζ h3];have hi:=aMa hn;refine aB rfl (fun _=>sk 2 rfl (kc hi ?_)) (fun hb=>Bool.noConfusion (hb.symm.trans d3));exact kz 1 rfl (aE rtT)
 have d3:decide (f=3)=false:=φ h3;rw[η h3] at q ⊢;refine aB rfl (fun hb=>Bool.noConfusion (hb.symm.trans d3)) (fun _=>sg rfl ?_);by_cases h4:f=4
 ·have d4:decide (f=4)=true:=θ h4;rw[ζ h4] at q ⊢;have h2:=ar1 h4
  match ks,h2 with
  | [a,b],_=>
   rw[sL,sL,sL] at hk;rw[iR,iR,iR] at hW q;have ha:=O a (by omega) u.1 B.1 (by omega);have hb:=O b (by omega) u.2.1 B.2.1 (by omega);have la:=fH a u.1;have lb:=fH b u.2.1;have U:=aDd a;have Y:=aDd b;have aa:=fL (prE a) (opn a.form) (by omega);have lba:=bS (opn a.form) (prE a);show AWp _ _ _ _ _ _ (iJ _ (aNf _ _ _ _ _ fun ex st=>(ex=.normal∨ex=.ret)∧Fin _ _ st _ (Go.AM.T (brk (opn a.form) (prE a)++[32]++brk (opn b.form || decide (b.form=4)) (prE b))) _));refine aB rfl (fun _=>sgh [(2,.row 0 (bR a)),(6,.row 1 (bR b))] rfl ?_) (fun hb=>Bool.noConfusion (hb.symm.trans d4));cases hop:opn b.form with
   | true=>
    rw[hop] at Y;rw[B7];have hbb:=fL (prE b) true (by omega);have lbb:=bS true (prE b);generalize brk (opn a.form) (prE a)=A at *;generalize brk true (prE b)=B0 at *;refine sk 1 rfl (kc ha ?_);refine ak 1 [] rfl (kc U ?_);refine kc aa ?_;refine ak 2 [] rfl (kc hb ?_);refine ak 1 [] rfl (kc Y ?_);refine ak 5 [(10,.bv true),(14,.bv true)] rfl (kc hbb ?_);exact kz 2 rfl (aE rtT)
   | false=>
    rw[hop] at Y;rw[A9];have hbb:=fL (prE b) (decide (b.form=4)) (by omega);have lbb:=bS (decide (b.form=4)) (prE b);generalize brk (opn a.form) (prE a)=A at *;generalize brk (decide (b.form=4)) (prE b)=B0 at *;refine sk 1 rfl (kc ha ?_);refine ak 1 [] rfl (kc U ?_);refine kc aa ?_;refine ak 2 [] rfl (kc hb ?_);refine ak 1 [] rfl (kc Y ?_);refine ak 5 [(10,.bv false),(14,.bv false)] rfl (kc hbb ?_);exact kz 2 rfl (aE rtT)
 have d4:decide (f=4)=false:=φ h4;rw[η h4] at q ⊢;refine aB rfl (fun hb=>Bool.noConfusion (hb.symm.trans d4)) (fun _=>sg rfl ?_);by_cases h5:f=5
 ·have d5:decide (f=5)=true:=θ h5;rw[ζ h5] at q ⊢;have h2:=ar2 (.inl h5)
  match ks,h2 with
  | [a],_=>
   rw[sL,sL] at hk;rw[iR,iR] at hW q;have ha:=O a (by omega) u.1 B.1 (by omega);have la:=fH a u.1;have hpt:=aDc ps E hps hl2 (by omega);have lpt:=pD E;have l2:aO9.length=2:=rfl;have l4:arrS.length=4:=rfl;show AWp _ _ _ _ _ _ (iJ _ (aNf _ _ _ _ _ fun ex st=>(ex=.normal∨ex=.ret)∧Fin _ _ st _ (Go.AM.T (aO9++Lib.join (ps.map prP) [32]++arrS++prE a)) _));generalize Lib.join (ps.map prP) [32]=J at *;refine aB rfl (fun _=>sk 2 rfl (kc hpt ?_)) (fun hb=>Bool.noConfusion (hb.symm.trans d5));refine ak 6 [(7,.row 0 (bR a))] rfl (kc ha ?_);exact kz 2 rfl (aE rtT)
 have d5:decide (f=5)=false:=φ h5;rw[η h5] at q ⊢;refine aB rfl (fun hb=>Bool.noConfusion (hb.symm.trans d5)) (fun _=>sg rfl ?_);by_cases h6:f=6
 ·have d6:decide (f=6)=true:=θ h6;rw[ζ h6] at q ⊢;have h2:=ar2 (.inr (.inl h6))
  match ks,h2 with
  | [a],_=>
   rw[sL,sL] at hk;rw[iR,iR] at hW q;have ha:=O a (by omega) u.1 B.1 (by omega);have la:=fH a u.1;have hbd:=hBS y hl3 (by omega) hbp hbs (by omega);have lbn:=k9 y;have lbw:=tK y hbp;have lbj:=join_le [32,59,32] (dT y);rw[show([32,59,32]:Str).length=3 from rfl] at lbj;have hbk:=sO (dT y) (by omega) (by omega);have lbk:=uE (dT y);have l2:aWw.length=4:=rfl;have l4:inP.length=4:=rfl;show AWp _ _ _ _ _ _ (iJ _ (aNf _ _ _ _ _ fun ex st=>(ex=.normal∨ex=.ret)∧Fin _ _ st _ (Go.AM.T (aWw++s6 (dT y)++inP++prE a)) _));generalize s6 (dT y)=J at *;refine aB rfl (fun _=>sk 2 rfl (kc hbd ?_)) (fun hb=>Bool.noConfusion (hb.symm.trans d6));refine kc hbk ?_;refine ak 6 [(8,.row 0 (bR a))] rfl (kc ha ?_);exact kz 2 rfl (aE rtT)
 have d6:decide (f=6)=false:=φ h6;rw[η h6] at q ⊢;refine aB rfl (fun hb=>Bool.noConfusion (hb.symm.trans d6)) (fun _=>sg rfl ?_);by_cases h7:f=7
 ·have d7:decide (f=7)=true:=θ h7;rw[ζ h7] at q ⊢;have h2:=ar3 h7;have hkA:(rZ (.mk f pl n s ks ps y g)).length=ks.length:=by rw[nL,ξ];rfl
  have hkP:(ps.map bL).length=ps.length:=ξ _
  match ks,h2 with
  | [],h2=>rw[length_nil] at h2;omega
  | a::ks,h2=>
   have h2:ks.length=ps.length:=by rw[ω] at h2;omega
   rw[sL] at hk;rw[iR] at hW q;have ha:=O a (by omega) u.1 B.1 (by omega);have la:=fH a u.1;have hxl:(eC ks).length=ks.length:=wY ks;have lalt:=aGp ps (eC ks) E;have lkw:=wZ ks u.2;have l5:aWy.length=5:=rfl;have l4:ofP.length=4:=rfl;have l4':arrS.length=4:=rfl;show AWp _ _ _ _ _ _ (iJ _ (aNf _ _ _ _ _ fun ex st=>(ex=.normal∨ex=.ret)∧Fin _ _ st _ (Go.AM.T (aWy++prE a++ofP++s6 (iI ps (eC ks)))) _));refine aB rfl (fun _=>sg rfl (AWp.sub (Sub.own (t:=5) (id:=500) 9 1 rfl rfl) ?_)) (fun hb=>Bool.noConfusion (hb.symm.trans d7));refine aA (sg rfl (aF (aJ (fun i:Nat=>mk [(1,.one (.vp 1 0)),(5,.one (.hs 500 0 (iI (ps.take i) (eC ks)).length (iI (ps.take i) (eC ks)).length)),(72,.one (.c (.sl 10 (ps.map bL)))),(73,I .i64 ((ps.map bL).length:Nat)),(74,I .i64 (i:Nat))] [(1,.var 47 ((bR (.mk f pl n s (a::ks) ps y g)).map .c)),(500,.arr 9 1 ((iI (ps.take i) (eC ks)).map aK) 0)]) (fun i=>i≤ps.length) (fun i=>ps.length-i) 0 (Ab _) (sl (he:=⟨rfl,by rw[Bl];cases eC ks<;>rfl,rfl,rfl,rfl,trivial⟩) (hh:=⟨⟨_,rfl,.var rfl⟩,⟨_,rfl,.arrS (by rw[Bl];cases eC ks<;>rfl)⟩,trivial⟩)) ?_)));intro i hi;have hti:(ps.take i).length=i:=by rw[Ai];omega
   have hal:(iI (ps.take i) (eC ks)).length=i:=by rw[qC _ _ (by omega),hti]
   refine sg rfl (aA (aB rfl (fun hb=>?_) (fun hb=>?_)))
   ·have hlt:=ltD hb hkP;obtain⟨p,hp⟩:=aG hlt;obtain⟨e,he⟩:=aG (l:=ks) (k:=i) (by omega);have hp':=aP bL hp;have he':(rZ (.mk f pl n s (a::ks) ps y g))[i+1]?=some (bR e):=by rw[nL];exact aP bR (show(a::ks)[i+1]?=some e from he)
    have ab:=ε hp;have M:=ε he;have wp:=lH ab;have we:=xR M;have ze:=aC4 M;have hcp:=lR (psz p) p (le_refl _) (eF E p ab) (nG hps p ab) (by omega);have hce:=O e (by omega) (pM u.2 e M) (tX B.2 e M) (by omega);have lp:=tJ p (eF E p ab);have le:=fH e (pM u.2 e M);have hsn:=uI ps (eC ks) i p (e.form,prE e) hp (x5 he);have hrow:((iI (ps.take i) (eC ks)).map aK)++[[.str (prP p++arrS++prE e)]]=(iI (ps.take (i+1)) (eC ks)).map aK:=by rw[hsn,Af];rfl
    have hle:(iI (ps.take (i+1)) (eC ks)).length=(iI (ps.take i) (eC ks)).length+1:=by rw[hsn,ψ];rfl
    have hln:((iI (ps.take i) (eC ks)).map aK).length=(iI (ps.take i) (eC ks)).length:=ξ _;have hkA1:(rZ (.mk f pl n s (a::ks) ps y g)).length=ks.length+1:=hkA;refine aD (aA (aF (sgh [(1,.row i (bL p))] rfl (aC mixed (ak 2 [] rfl (kc hcp ?_))))));refine akN 7 [(8,.row (i+1) (bR e))] rfl (kc hce ?_);exact ak 4 [(12,.all)] rfl (az (agN [] rfl ⟨i+1,hlt,by dsimp only;omega,sl (he:=⟨rfl,Go.AM.hs_ren (by rw[hle,←hln];rfl) (by rw[hle,←hln];rfl),rfl,rfl,rfl,trivial⟩) (hh:=⟨⟨_,rfl,.var rfl⟩,⟨_,rfl,.arrS hrow⟩,trivial⟩)⟩))
   ·have hge:=geD hb hkP hi;subst hge;refine aH ?_;rw[Al];have laj:=join_le [32,59,32] (iI ps (eC ks));rw[show([32,59,32]:Str).length=3 from rfl] at laj;have hal2:(iI ps (eC ks)).length=ps.length:=qC ps (eC ks) (by omega);have hbk:=sO (iI ps (eC ks)) (by omega) (by omega);have lbk:=uE (iI ps (eC ks));refine AWp.sub (Sub.freeze (id:=500) rfl) ?_;refine AWp.sub (st2:=mk [(1,.one (.vp 1 0)),(5,bU (iI ps (eC ks)))] [(1,.var 47 ((bR (.mk f pl n s (a::ks) ps y g)).map .c))]) ?_ ?_
    ·refine Sub.trans ?_ (cv 5 ((iI ps (eC ks)).map aK));exact sl
    generalize iI ps (eC ks)=J at *;refine skh 4 [(2,.row 0 (bR a))] rfl (kc ha ?_);refine ak 3 [] rfl (kc hbk ?_);exact kz 2 rfl (aE rtT)
 have d7:decide (f=7)=false:=φ h7;rw[η h7] at q ⊢;refine aB rfl (fun hb=>Bool.noConfusion (hb.symm.trans d7)) (fun _=>sg rfl ?_);by_cases h8:f=8
 ·have d8:decide (f=8)=true:=θ h8;rw[ζ h8] at q ⊢;have h2:=ar2 (.inr (.inr h8))
  match ks,h2 with
  | [a],_=>
   rw[sL,sL] at hk;rw[iR,iR] at hW q;have ha:=O a (by omega) u.1 B.1 (by omega);have la:=fH a u.1;have U:=aDd a;have aa:=fL (prE a) (opn a.form) (by omega);have lba:=bS (opn a.form) (prE a);have hsc:=qZ hg (by omega);have lsc:=rA hg;have l3:nT.length=3:=rfl;show AWp _ _ _ _ _ _ (iJ _ (aNf _ _ _ _ _ fun ex st=>(ex=.normal∨ex=.ret)∧Fin _ _ st _ (Go.AM.T (brk (opn a.form) (prE a)++nT++nE g)) _));generalize brk (opn a.form) (prE a)=A at *;refine aB rfl (fun _=>skh 4 [(2,.row 0 (bR a))] rfl (kc ha ?_)) (fun hb=>Bool.noConfusion (hb.symm.trans d8));refine ak 4 [(7,.row 0 (bR a))] rfl (kc U ?_);refine kc aa ?_;refine ak 3 [] rfl (kc hsc ?_);exact kz 2 rfl (aE rtT)
 have d8:decide (f=8)=false:=φ h8;rw[η h8] at q ⊢;exact aB rfl (fun hb=>Bool.noConfusion (hb.symm.trans d8)) (fun _=>aD (sg rfl (aE rtT)))
theorem mP:∀k,PES k∧PBS k
 | 0=>⟨fun e h=>by cases e;rw[esz] at h;omega,fun l hl h hP hB q=>by
   cases l with
   | nil=>exact aGb (k:=0) (fun e h=>by cases e;rw[esz] at h;omega) [] hl (Ab _) hP hB q
   | cons b l=>cases b;rw[aNn,bsz] at h;omega⟩
 | k+1=>⟨aPy (mP k).1 (mP k).2,aGb (mP k).1⟩
theorem uB (e:Ex) (hP:exP e) (hO:oN e) (q:exW e≤400000000):aW Tryz.prog 15 [.pa (bR e)] [] (Go.AM.T (prE e)) []:=(mP (esz e)).1 e (le_refl _) hP hO q
def QES (k:Nat):Prop:=∀e:Ex,esz e≤k→exP e→oN e→exV e→exW e≤400000000→aW Tryz.prog 16 [.pa (bR e)] [] (Go.AM.T (prE e)) []
def QBS (k:Nat):Prop:=∀l:List Bd,l.length≤4002→aNn l≤k→qH l→eY l→vO l→jS l≤400000000→aW Tryz.prog 45 [.one (.c (.sl 33 (i6 l)))] [] (bU (dT l)) []
theorem aF8 {k:Nat}(hE:QES k):QBS (k+1):=by
 intro l hl hk hP hB hV hW;have hM:3000000000≤maxLen:=by decide
 have aa:(i6 l).length=l.length:=by rw[fJ,ξ]
 refine b9 (n:=49) tok Tryz.func45 rfl rfl rfl ?_;refine sg rfl (sg rfl (AWp.sub (Sub.own (t:=3) (id:=500) 9 1 rfl rfl) ?_));refine aA (sg rfl (aF (aJ (fun i:Nat=>mk [(0,.one (.c (.sl 33 (i6 l)))),(3,.one (.hs 500 0 (dT (l.take i)).length (dT (l.take i)).length)),(4,I .i64 (i:Nat))] [(500,.arr 9 1 ((dT (l.take i)).map aK) 0)]) (fun i=>i≤l.length) (fun i=>l.length-i) 0 (Ab _) sl ?_)));intro i hi;have hti:(l.take i).length=i:=by rw[Ai];omega
 have ab:=k9 (l.take i);refine aA (sg rfl (aB rfl (fun hb=>?_) (fun hb=>?_)))
 ·have J:=ltD hb aa;obtain⟨b,M⟩:=aG J;have hx':(i6 l)[i]?=some (aY b):=by rw[fJ];exact aP aY M
  have hm:=ε M;have ac:=jP.1 hB b hm;have B:=yB hP b hm;have ad:=aGh hV b hm;have hsz:=aDg hm;have ae:=y8 hm;have af:l.take (i+1)=l.take i++[b]:=bQ M;obtain⟨u,pl,has,q,e⟩:=b;have hnm:List.length (Bd.name (.mk u pl has q e))=u.length:=rfl;rw[bsz] at hsz;rw[bdW] at ae;have hs:=aBd B.1 (by omega);have hsl:=rA B.1;have he:=hE e (by omega) B.2 ac.2 ad (by omega);have hel:=fH e B.2;have y:dT (l.take (i+1))=dT (l.take i)++prB (.mk u pl has q e):=by rw[af,x6,dT,dT,Ay]
  have hc3:nT.length=3:=rfl;have hq3:eqP.length=3:=rfl;generalize dT (l.take i)=P at ab y;have E:(P.map aK).length=P.length:=ξ _;refine aD (aA (aF (aA (sgh [(2,.row i (aY (.mk u pl has q e)))] rfl ?_))));cases has with
  | true=>
   refine aB rfl (fun _=>aC mixed (ak 12 [(3,.row i (aY (.mk u pl true q e))),(9,.row i (aY (.mk u pl true q e)))] rfl (kc hs ?_))) nofun;refine ak 4 [(14,.all)] rfl (az ?_);have A:(P.map aK)++[[.str (u++nT++nE q)]]=(P++[u++nT++nE q]).map aK:=by rw[Af];rfl
   have hle:(P++[u++nT++nE q]).length=P.length+1:=by rw[ψ];rfl
   have Y:((P++[u++nT++nE q]).map aK)++[[.str (u++eqP++prE e)]]=(dT (l.take (i+1))).map aK:=by rw[y,prB,ζ rfl,←Aj];simp[aK]
   have O:(dT (l.take (i+1))).length=(P++[u++nT++nE q]).length+1:=by rw[y,prB,ζ rfl,←Aj];simp
   have U:((P++[u++nT++nE q]).map aK).length=(P++[u++nT++nE q]).length:=ξ _;refine AWp.sub (st2:=mk [(0,.one (.c (.sl 33 (i6 l)))),(3,.one (.hs 500 0 (P++[u++nT++nE q]).length (P++[u++nT++nE q]).length)),(4,I .i64 (i:Nat))] [(500,.arr 9 1 ((P++[u++nT++nE q]).map aK) 0)]) (sl (he:=⟨rfl,Go.AM.hs_ren (by rw[hle,←E];rfl) (by rw[hle,←E];rfl),rfl,trivial⟩) (hh:=⟨⟨_,rfl,.arrS A⟩,trivial⟩)) ?_;generalize P++[u++nT++nE q]=P2 at *;refine aC mixed (ak 12 [(3,.row i (aY (.mk u pl true q e))),(9,.row i (aY (.mk u pl true q e)))] rfl (kc he ?_));exact ak 4 [(14,.all)] rfl (az (agN [] rfl ⟨i+1,J,by dsimp only;omega,sl (he:=⟨rfl,Go.AM.hs_ren (by rw[O,←U];rfl) (by rw[O,←U];rfl),rfl,trivial⟩) (hh:=⟨⟨_,rfl,.arrS Y⟩,trivial⟩)⟩))
  | false=>
   refine aB rfl nofun (fun _=>aD (aC mixed (ak 12 [(3,.row i (aY (.mk u pl false q e))),(9,.row i (aY (.mk u pl false q e)))] rfl (kc he ?_))));refine ak 4 [(14,.all)] rfl (az ?_);have A:(P.map aK)++[[.str (u++eqP++prE e)]]=(dT (l.take (i+1))).map aK:=by rw[y,prB,η χ,Av,Af];rfl
   have hle:(dT (l.take (i+1))).length=P.length+1:=by rw[y,prB,η χ,Av,ψ];rfl
   exact agN [] rfl ⟨i+1,J,by dsimp only;omega,sl (he:=⟨rfl,Go.AM.hs_ren (by rw[hle,←E];rfl) (by rw[hle,←E];rfl),rfl,trivial⟩) (hh:=⟨⟨_,rfl,.arrS A⟩,trivial⟩)⟩
 ·have ah:=geD hb aa hi;subst ah;refine aH ?_;rw[Al];refine sg rfl (AWp.sub (Sub.freeze (id:=500) rfl) ?_);exact aE (rtH (hsz:=(ξ _).symm) (hlen:=(ξ _).symm))
theorem xS {e:Ex}(h:exV e):0≤e.form∧e.form≤8:=by cases e;exact h.1
theorem aRm {f:Int}(h:0≤f∧f≤8):opn f=decide (4<f):=by
 have:f=0∨f=1∨f=2∨f=3∨f=4∨f=5∨f=6∨f=7∨f=8:=by omega
 rcases this with rfl | rfl | rfl | rfl | rfl | rfl | rfl | rfl | rfl<;>rfl
theorem aTr {f:Int}(h:0≤f∧f≤8):(opn f || decide (f=4))=decide (3<f):=by
 have:f=0∨f=1∨f=2∨f=3∨f=4∨f=5∨f=6∨f=7∨f=8:=by omega
 rcases this with rfl | rfl | rfl | rfl | rfl | rfl | rfl | rfl | rfl<;>rfl
def aO8 (ps:List Pt) (i:Nat):Str:=if i=0 then [92] else aO9++Lib.join ((ps.map prP).take i) [32]
theorem aKs {ps:List Pt}{i:Nat}{p:Pt}(hp:ps[i]?=some p) (h:p.form=2∧p.kids=[]):aO8 ps (i+1)=aO8 ps i++[32]++p.name:=by
 have q:prP p=p.name:=by
  cases p with
  | mk f pl n s l=>
   obtain⟨h1,h2⟩:=h;have h1:f=2:=h1;have h2:l=[]:=h2;subst h1;subst h2;rw[prP,η (by decide),η (by decide),rU,Ay];rfl
 have hj:=kT (sep:=[32]) (show(ps.map prP)[i]?=some p.name by rw[Br,hp,←q];rfl);unfold aO8;rw[η (by omega),hj];by_cases h0:i=0
 ·rw[ζ h0,ζ h0];rfl
 ·rw[η h0,η h0];simp only[Aj]
theorem aO7 {ps:List Pt}(h:¬ps=[]):aO8 ps ps.length=aO9++Lib.join (ps.map prP) [32]:=by
 unfold aO8;rw[η (fun k=>h (List.length_eq_zero_iff.1 k)),Au (by rw[ξ];exact le_refl _)]
theorem aO6 {ps:List Pt}(h:lK ps) (i:Nat):(aO8 ps i).length≤jR ps+2:=by
 unfold aO8;split
 ·show 1≤_;omega
 ·have h1:=pD (kS ps i h);have h2:=mO ps i;rw[←map_take,ψ];show 2+_≤_;omega
theorem aL5 {k:Nat}(hE:QES k) (hBS:QBS k):QES (k+1):=by
 intro x hk hP hO hV hW;obtain⟨f,pl,n,s,ks,ps,B,g⟩:=x;have hM:3000000000≤maxLen:=by decide
 have q:=fH _ hP;have hx0:∃X,X=Ex.mk f pl n s ks ps B g:=⟨_,rfl⟩
 obtain⟨X,hX⟩:=hx0;rw[esz] at hk;rw[exW] at hW q;obtain⟨hn,U,hg,u,hbp⟩:=hP;obtain⟨⟨hl1,hl2,hl3⟩,hsg,⟨ar1,ar2,ar3⟩,hps,E,hbs⟩:=hO;obtain⟨hvf,hv5,y,hvb⟩:=hV;refine b9 (n:=139) tok Tryz.func16 rfl rfl rfl ?_;refine sg rfl (aA (sg rfl (aF (sg rfl ?_))));rw[prE] at q ⊢;by_cases h3:f=3
 ·have d3:decide (f=3)=true:=θ h3;rw[ζ h3];have hi:=aR6 hn;refine aB rfl (fun _=>sk 2 rfl (kc hi ?_)) (fun hb=>Bool.noConfusion (hb.symm.trans d3));exact kz 1 rfl (aE rtT)
 have d3:decide (f=3)=false:=φ h3;rw[η h3] at q ⊢;refine aB rfl (fun hb=>Bool.noConfusion (hb.symm.trans d3)) (fun _=>sg rfl ?_);by_cases h4:f=4
 ·have d4:decide (f=4)=true:=θ h4;rw[ζ h4] at q ⊢;have h2:=ar1 h4
  match ks,h2 with
  | [a,b],_=>
   rw[sL,sL,sL] at hk;rw[iR,iR,iR] at hW q;have ha:=hE a (by omega) u.1 E.1 y.1 (by omega);have hb:=hE b (by omega) u.2.1 E.2.1 y.2.1 (by omega);have la:=fH a u.1;have lb:=fH b u.2.1;have oa:=aRm (xS y.1);have ob:=aTr (xS y.2.1);have hba:=oR (prE a) (decide (4<a.form)) (by omega);have lba:=bS (decide (4<a.form)) (prE a);have hbb:=oR (prE b) (decide (3<b.form)) (by omega);have lbb:=bS (decide (3<b.form)) (prE b);show AWp _ _ _ _ _ _ (iJ _ (aNf _ _ _ _ _ fun ex st=>(ex=.normal∨ex=.ret)∧Fin _ _ st _ (Go.AM.T (brk (opn a.form) (prE a)++[32]++brk (opn b.form || decide (b.form=4)) (prE b))) _));rw[oa,ob];generalize brk (decide (4<a.form)) (prE a)=A at *;generalize brk (decide (3<b.form)) (prE b)=B0 at *;have q1:(A++[32]).length≤1000000000:=by rw[ψ];show _+1≤_;omega
   refine aB rfl (fun _=>sgh [(2,.row 1 (bR b))] rfl (skh 4 [(2,.row 0 (bR a))] rfl (kc ha ?_))) (fun hb=>Bool.noConfusion (hb.symm.trans d4));refine ak 6 [(7,.row 0 (bR a))] rfl (kc hba ?_);refine ak 2 [] rfl (kc hb ?_);refine ak 3 [] rfl (kc hbb ?_);exact kz 2 rfl (aE rtT)
 have d4:decide (f=4)=false:=φ h4;rw[η h4] at q ⊢;refine aB rfl (fun hb=>Bool.noConfusion (hb.symm.trans d4)) (fun _=>sg rfl ?_);by_cases h5:f=5
 ·have d5:decide (f=5)=true:=θ h5;rw[ζ h5] at q ⊢;have h2:=ar2 (.inl h5)
  match ks,h2 with
  | [a],_=>
   rw[sL,sL] at hk;rw[iR,iR] at hW q;have ha:=hE a (by omega) u.1 E.1 y.1 (by omega);have la:=fH a u.1;have lpt:=pD U;obtain⟨hpne,hpv⟩:=hv5 h5;have Y:(ps.map bL).length=ps.length:=ξ _;show AWp _ _ _ _ _ _ (iJ _ (aNf _ _ _ _ _ fun ex st=>(ex=.normal∨ex=.ret)∧Fin _ _ st _ (Go.AM.T (aO9++Lib.join (ps.map prP) [32]++arrS++prE a)) _));refine aB rfl (fun _=>sg rfl (aA (sg rfl (aF (aJ (fun i:Nat=>mk [(1,.one (.vp 1 0)),(4,Go.AM.T (aO8 ps i)),(5,I .i64 (i:Nat))] [(1,.var 47 ((bR (.mk f pl n s [a] ps B g)).map .c))]) (fun i=>i≤ps.length) (fun i=>ps.length-i) 0 (Ab _) sl ?_))))) (fun hb=>Bool.noConfusion (hb.symm.trans d5));intro i hi;refine aA (sg rfl (aB rfl (fun hb=>?_) (fun hb=>?_)))
   ·have aa:=ltD hb Y;obtain⟨p,hp⟩:=aG aa;have hp':=aP bL hp;have M:=ε hp;have hwp:=lH M;have hst:=aKs hp (hpv p M);have hll:=aO6 U i;have hnl:p.name.length≤ptW p:=by cases p with | mk f pl n s l=>rw[ptW];show s.length≤_;omega
    generalize aO8 ps i=K at hst hll ⊢;have q1:(K++[32]).length≤1000000000:=by rw[ψ];show _+1≤_;omega
    exact aD (aA (aF (ag [(5,.row i (bL p))] rfl (agN [] rfl ⟨i+1,aa,by dsimp only;omega,sl (he:=⟨rfl,by rw[hst];rfl,rfl,trivial⟩)⟩))))
   have hge:=geD hb Y hi;subst hge;refine aH ?_;rw[aO7 hpne];have q0:(aO9++Lib.join (ps.map prP) [32]).length≤500000000:=by rw[ψ];show 2+_≤_;omega
   generalize aO9++Lib.join (ps.map prP) [32]=K at q0 q ⊢;have q1:(K++[32,45,62,32]).length≤500000004:=by rw[ψ];show _+4≤_;omega
   refine skh 6 [(4,.row 0 (bR a))] rfl (kc ha ?_);exact kz 2 rfl (aE rtT)
 have d5:decide (f=5)=false:=φ h5;rw[η h5] at q ⊢;refine aB rfl (fun hb=>Bool.noConfusion (hb.symm.trans d5)) (fun _=>sg rfl ?_);by_cases h6:f=6
 ·have d6:decide (f=6)=true:=θ h6;rw[ζ h6] at q ⊢;have h2:=ar2 (.inr (.inl h6))
  match ks,h2 with
  | [a],_=>
   rw[sL,sL] at hk;rw[iR,iR] at hW q;have ha:=hE a (by omega) u.1 E.1 y.1 (by omega);have la:=fH a u.1;have hbd:=hBS B hl3 (by omega) hbp hbs hvb (by omega);have lbn:=k9 B;have lbw:=tK B hbp;have lbj:=join_le [32,59,32] (dT B);rw[show([32,59,32]:Str).length=3 from rfl] at lbj;have hbk:=sN (dT B) (by rw[iC];omega);have lbk:=uE (dT B);have l2:aWw.length=4:=rfl;have l4:inP.length=4:=rfl;show AWp _ _ _ _ _ _ (iJ _ (aNf _ _ _ _ _ fun ex st=>(ex=.normal∨ex=.ret)∧Fin _ _ st _ (Go.AM.T (aWw++s6 (dT B)++inP++prE a)) _));generalize s6 (dT B)=J at *;refine aB rfl (fun _=>sk 2 rfl (kc hbd ?_)) (fun hb=>Bool.noConfusion (hb.symm.trans d6));refine kc hbk ?_;refine ak 6 [(8,.row 0 (bR a))] rfl (kc ha ?_);exact kz 2 rfl (aE rtT)
 have d6:decide (f=6)=false:=φ h6;rw[η h6] at q ⊢;refine aB rfl (fun hb=>Bool.noConfusion (hb.symm.trans d6)) (fun _=>sg rfl ?_);by_cases h7:f=7
 ·have d7:decide (f=7)=true:=θ h7;rw[ζ h7] at q ⊢;have h2:=ar3 h7;have hkA:(rZ (.mk f pl n s ks ps B g)).length=ks.length:=by rw[nL,ξ];rfl
  have Y:(ps.map bL).length=ps.length:=ξ _
  match ks,h2 with
  | [],h2=>rw[length_nil] at h2;omega
  | a::ks,h2=>
   have h2:ks.length=ps.length:=by rw[ω] at h2;omega
   rw[sL] at hk;rw[iR] at hW q;have ha:=hE a (by omega) u.1 E.1 y.1 (by omega);have la:=fH a u.1;have hxl:(eC ks).length=ks.length:=wY ks;have lalt:=aGp ps (eC ks) U;have lkw:=wZ ks u.2;have l5:aWy.length=5:=rfl;have l4:ofP.length=4:=rfl;have l4':arrS.length=4:=rfl;show AWp _ _ _ _ _ _ (iJ _ (aNf _ _ _ _ _ fun ex st=>(ex=.normal∨ex=.ret)∧Fin _ _ st _ (Go.AM.T (aWy++prE a++ofP++s6 (iI ps (eC ks)))) _));refine aB rfl (fun _=>sg rfl (AWp.sub (Sub.own (t:=6) (id:=500) 9 1 rfl rfl) ?_)) (fun hb=>Bool.noConfusion (hb.symm.trans d7));refine aA (sg rfl (aF (aJ (fun i:Nat=>mk [(1,.one (.vp 1 0)),(6,.one (.hs 500 0 (iI (ps.take i) (eC ks)).length (iI (ps.take i) (eC ks)).length)),(7,I .i64 (i:Nat))] [(1,.var 47 ((bR (.mk f pl n s (a::ks) ps B g)).map .c)),(500,.arr 9 1 ((iI (ps.take i) (eC ks)).map aK) 0)]) (fun i=>i≤ps.length) (fun i=>ps.length-i) 0 (Ab _) (sl (he:=⟨rfl,by rw[Bl];cases eC ks<;>rfl,rfl,trivial⟩) (hh:=⟨⟨_,rfl,.var rfl⟩,⟨_,rfl,.arrS (by rw[Bl];cases eC ks<;>rfl)⟩,trivial⟩)) ?_)));intro i hi;have hti:(ps.take i).length=i:=by rw[Ai];omega
   have hal:(iI (ps.take i) (eC ks)).length=i:=by rw[qC _ _ (by omega),hti]
   refine aA (sg rfl (aB rfl (fun hb=>?_) (fun hb=>?_)))
   ·have aa:=ltD hb Y;obtain⟨p,hp⟩:=aG aa;obtain⟨e,he⟩:=aG (l:=ks) (k:=i) (by omega);have hp':=aP bL hp;have he':(rZ (.mk f pl n s (a::ks) ps B g))[i+1]?=some (bR e):=by rw[nL];exact aP bR (show(a::ks)[i+1]?=some e from he)
    have M:=ε hp;have O:=ε he;have wp:=lH M;have we:=xR O;have ze:=aC4 O;have hcp:=oS (psz p) p (le_refl _) (eF U p M) (nG hps p M) (by omega);have hce:=hE e (by omega) (pM u.2 e O) (tX E.2 e O) (aFi y.2 e O) (by omega);have lp:=tJ p (eF U p M);have le:=fH e (pM u.2 e O);have hsn:=uI ps (eC ks) i p (e.form,prE e) hp (x5 he);have hrow:((iI (ps.take i) (eC ks)).map aK)++[[.str (prP p++arrS++prE e)]]=(iI (ps.take (i+1)) (eC ks)).map aK:=by rw[hsn,Af];rfl
    have hle:(iI (ps.take (i+1)) (eC ks)).length=(iI (ps.take i) (eC ks)).length+1:=by rw[hsn,ψ];rfl
    have hln:((iI (ps.take i) (eC ks)).map aK).length=(iI (ps.take i) (eC ks)).length:=ξ _;have hkA1:(rZ (.mk f pl n s (a::ks) ps B g)).length=ks.length+1:=hkA;refine aD (aA (aF (aC mixed (ak 6 [(4,.row i (bL p))] rfl (kc hcp ?_)))));refine akN 7 [(12,.row (i+1) (bR e))] rfl (kc hce ?_);exact ak 4 [(16,.all)] rfl (az (agN [] rfl ⟨i+1,aa,by dsimp only;omega,sl (he:=⟨rfl,Go.AM.hs_ren (by rw[hle,←hln];rfl) (by rw[hle,←hln];rfl),rfl,trivial⟩) (hh:=⟨⟨_,rfl,.var rfl⟩,⟨_,rfl,.arrS hrow⟩,trivial⟩)⟩))
   ·have hge:=geD hb Y hi;subst hge;refine aH ?_;rw[Al];have laj:=join_le [32,59,32] (iI ps (eC ks));rw[show([32,59,32]:Str).length=3 from rfl] at laj;have hal2:(iI ps (eC ks)).length=ps.length:=qC ps (eC ks) (by omega);have hbk:=sN (iI ps (eC ks)) (by rw[iC];omega);have lbk:=uE (iI ps (eC ks));refine AWp.sub (Sub.freeze (id:=500) rfl) ?_;refine AWp.sub (st2:=mk [(1,.one (.vp 1 0)),(6,bU (iI ps (eC ks)))] [(1,.var 47 ((bR (.mk f pl n s (a::ks) ps B g)).map .c))]) ?_ ?_
    ·refine Sub.trans ?_ (cv 6 ((iI ps (eC ks)).map aK));exact sl
    generalize iI ps (eC ks)=J at *;refine skh 4 [(2,.row 0 (bR a))] rfl (kc ha ?_);refine ak 3 [] rfl (kc hbk ?_);exact kz 2 rfl (aE rtT)
 have d7:decide (f=7)=false:=φ h7;rw[η h7] at q ⊢;refine aB rfl (fun hb=>Bool.noConfusion (hb.symm.trans d7)) (fun _=>sg rfl ?_);by_cases h8:f=8
 ·have d8:decide (f=8)=true:=θ h8;rw[ζ h8] at q ⊢;have h2:=ar2 (.inr (.inr h8))
  match ks,h2 with
  | [a],_=>
   rw[sL,sL] at hk;rw[iR,iR] at hW q;have ha:=hE a (by omega) u.1 E.1 y.1 (by omega);have la:=fH a u.1;have oa:=aRm (xS y.1);have hba:=oR (prE a) (decide (4<a.form)) (by omega);have lba:=bS (decide (4<a.form)) (prE a);have hsc:=aBd hg (by omega);have lsc:=rA hg;have l3:nT.length=3:=rfl;show AWp _ _ _ _ _ _ (iJ _ (aNf _ _ _ _ _ fun ex st=>(ex=.normal∨ex=.ret)∧Fin _ _ st _ (Go.AM.T (brk (opn a.form) (prE a)++nT++nE g)) _));rw[oa];generalize brk (decide (4<a.form)) (prE a)=A at *;refine aB rfl (fun _=>skh 4 [(2,.row 0 (bR a))] rfl (kc ha ?_)) (fun hb=>Bool.noConfusion (hb.symm.trans d8));refine ak 6 [(7,.row 0 (bR a))] rfl (kc hba ?_);refine ak 3 [] rfl (kc hsc ?_);exact kz 2 rfl (aE rtT)
 have d8:decide (f=8)=false:=φ h8;rw[η h8] at q ⊢;exact aB rfl (fun hb=>Bool.noConfusion (hb.symm.trans d8)) (fun _=>aD (sg rfl (aE rtT)))
theorem kP:∀k,QES k∧QBS k
 | 0=>⟨fun e h=>by cases e;rw[esz] at h;omega,fun l hl h hP hB hV q=>by
   cases l with
   | nil=>exact aF8 (k:=0) (fun e h=>by cases e;rw[esz] at h;omega) [] hl (Ab _) hP hB hV q
   | cons b l=>cases b;rw[aNn,bsz] at h;omega⟩
 | k+1=>⟨aL5 (kP k).1 (kP k).2,aF8 (kP k).1⟩
theorem aDb (e:Ex) (hP:exP e) (hO:oN e) (hV:exV e) (q:exW e≤400000000):aW Tryz.prog 16 [.pa (bR e)] [] (Go.AM.T (prE e)) []:=(kP (esz e)).1 e (le_refl _) hP hO hV q
theorem aPv (l:List Str) (hW:kN l≤900000000):aW Tryz.prog 44 [bU l] [] (Go.AM.T (Lib.join l [32])) []:=by
 have hM:3000000000≤maxLen:=by decide
 have A:(l.map aK).length=l.length:=ξ _;refine b9 (n:=22) tok Tryz.func44 rfl rfl rfl ?_;refine sg rfl (sg rfl (aA (sg rfl (aF (aJ (fun i:Nat=>mk [(0,bU l),(3,Go.AM.T (Lib.join (l.take i) [32])),(4,I .i64 (i:Nat))] []) (fun i=>i≤l.length) (fun i=>l.length-i) 0 (Ab _) sl ?_)))));intro i hi;refine aA (sg rfl (aB rfl (fun hb=>?_) (fun hb=>?_)))
 ·have u:=ltD hb A;obtain⟨s,hs⟩:=aG u;have Y:=aP aK hs;have aa:=sA (ε hs);have q:=kT (sep:=[32]) hs;have B:=le_trans (dF (sep:=[32]) (by decide) (l.take i)) (kM l i);have ab:i≤300000000:=by
   have:=iC l;omega
  generalize O:Lib.join (l.take i) [32]=J at q B ⊢;refine aD (aA (aF (aA (sg rfl ?_))));by_cases h0:i=0
  ·subst h0;have E:J=[]:=by rw[←O];rfl
   rw[ζ rfl] at q;have y:Lib.join (l.take 1) [32]=J++s:=by rw[E,show l.take 1=l.take (0+1) from rfl,q]
   have U:J.length+s.length≤maxLen:=by omega
   exact aB rfl (fun hb=>by simp at hb) (fun _=>aD (ag [(3,.row 0 (aK s))] rfl (agN [] rfl ⟨1,u,by dsimp only;omega,sl (he:=⟨rfl,by rw[y];rfl,rfl,trivial⟩)⟩)))
  ·rw[η h0] at q;have q1:(J++[32]).length≤900000005:=by rw[ψ];show _+1≤_;omega
   have q2:J.length+([32]:Str).length≤maxLen:=by show _+1≤_;omega
   have U:(J++[32]).length+s.length≤maxLen:=by omega
   exact aB rfl (fun _=>ag [] rfl (ag [(3,.row i (aK s))] rfl (agN [] rfl ⟨i+1,u,by dsimp only;omega,sl (he:=⟨rfl,by rw[q];rfl,rfl,trivial⟩)⟩))) (fun hb=>by have:=Ac hb;omega)
 ·have M:=geD hb A hi;subst M;refine aH ?_;rw[Al];exact sg rfl (aE rtT)
theorem aC9 (l:List Str) (hW:kN l≤900000000):aW Tryz.prog 27 [bU l] [] (Go.AM.T (Lib.join l [32,59,10])) []:=by
 have hM:3000000000≤maxLen:=by decide
 have A:(l.map aK).length=l.length:=ξ _;refine b9 (n:=22) tok Tryz.func27 rfl rfl rfl ?_;refine sg rfl (sg rfl (aA (sg rfl (aF (aJ (fun i:Nat=>mk [(0,bU l),(3,Go.AM.T (Lib.join (l.take i) [32,59,10])),(4,I .i64 (i:Nat))] []) (fun i=>i≤l.length) (fun i=>l.length-i) 0 (Ab _) sl ?_)))));intro i hi;refine aA (sg rfl (aB rfl (fun hb=>?_) (fun hb=>?_)))
 ·have u:=ltD hb A;obtain⟨s,hs⟩:=aG u;have Y:=aP aK hs;have aa:=sA (ε hs);have q:=kT (sep:=[32,59,10]) hs;have B:=le_trans (dF (sep:=[32,59,10]) (by decide) (l.take i)) (kM l i);have ab:i≤300000000:=by
   have:=iC l;omega
  generalize O:Lib.join (l.take i) [32,59,10]=J at q B ⊢;refine aD (aA (aF (aA (sg rfl ?_))));by_cases h0:i=0
  ·subst h0;have E:J=[]:=by rw[←O];rfl
   rw[ζ rfl] at q;have y:Lib.join (l.take 1) [32,59,10]=J++s:=by rw[E,show l.take 1=l.take (0+1) from rfl,q]
   have U:J.length+s.length≤maxLen:=by omega
   exact aB rfl (fun hb=>by simp at hb) (fun _=>aD (ag [(3,.row 0 (aK s))] rfl (agN [] rfl ⟨1,u,by dsimp only;omega,sl (he:=⟨rfl,by rw[y];rfl,rfl,trivial⟩)⟩)))
  ·rw[η h0] at q;have q1:(J++[32,59,10]).length≤900000005:=by rw[ψ];show _+3≤_;omega
   have q2:J.length+([32,59,10]:Str).length≤maxLen:=by show _+3≤_;omega
   have U:(J++[32,59,10]).length+s.length≤maxLen:=by omega
   exact aB rfl (fun _=>ag [] rfl (ag [(3,.row i (aK s))] rfl (agN [] rfl ⟨i+1,u,by dsimp only;omega,sl (he:=⟨rfl,by rw[q];rfl,rfl,trivial⟩)⟩))) (fun hb=>by have:=Ac hb;omega)
 ·have M:=geD hb A hi;subst M;refine aH ?_;rw[Al];exact sg rfl (aE rtT)
theorem join_cons (sep a:Str):∀l:List Str,Lib.join (a::l) sep=a++l.flatMap (fun x=>sep++x)
 | []=>by rw[join_one,flatMap_nil,Ay]
 | b::l=>by rw[pH,join_cons sep b l,flatMap_cons];simp only[Aj]
def a3q:Str:=[100,97,116,97,32]
def aPn (d:Dt) (k:Nat):Str:=a3q++d.name++(d.vars.take k).flatMap (fun x=>[32]++x)
def aLr (cs:List Cn) (k:Nat):Str:=if k=0 then [] else eqP++Lib.join ((cs.map uL).take k) aMn
theorem aLq {cs:List Cn}{k:Nat}{c:Cn}(h:cs[k]?=some c):aLr cs (k+1)=aLr cs k++(if k=0 then eqP else aMn)++uL c:=by
 have hj:=kT (sep:=aMn) (show(cs.map uL)[k]?=some (uL c) by rw[Br,h];rfl);unfold aLr;rw[η (by omega),hj];by_cases h0:k=0
 ·rw[ζ h0,ζ h0,ζ h0];rfl
 ·rw[η h0,η h0,η h0];simp only[Aj]
theorem aX7 {d:Dt}(h:¬d.cons=[]):prD d=aPn d d.vars.length++aLr d.cons d.cons.length:=by
 unfold prD aPn aLr;rw[η (fun k=>h (List.length_eq_zero_iff.1 k)),Al,Au (by rw[ξ];exact le_refl _)];rw[show [eV,d.name]++d.vars=eV::d.name::d.vars from rfl,join_cons,flatMap_cons];rw[show a3q=eV++[32] from rfl];simp only[Aj]
theorem aRx:∀l:List Str,(l.flatMap (fun x=>[32]++x)).length≤kN l
 | []=>Ab _
 | a::l=>by
  have:=aRx l;rw[flatMap_cons,ψ,ψ,kN];show 1+a.length+_≤_;omega
theorem aUp (d:Dt) (k:Nat):(aPn d k).length≤5+d.name.length+qM d.vars:=by
 have h1:=aRx (d.vars.take k);have h2:=kM d.vars k;have q:=oE d.vars;unfold aPn;rw[ψ,ψ];show 5+_+_≤_;omega
theorem aUv {cs:List Cn}(h:∀c∈cs,∀t∈c.fields,PT t) (k:Nat):(aLr cs k).length≤3+y0 cs:=by
 unfold aLr;split
 ·exact Ab _
 ·have h1:=dF (sep:=aMn) (by decide) ((cs.map uL).take k);have h2:=kM (cs.map uL) k;have q:=xX cs h;rw[ψ];show 3+_≤_;omega
theorem aLl {d:Dt}{k:Nat}{v:Str}(h:d.vars[k]?=some v):aPn d (k+1)=aPn d k++[32]++v:=by
 unfold aPn;rw[aCz (fun x=>[32]++x) h];simp only[Aj]
theorem aBe (l:List Bd) (hl:l.length≤4002) (hP:qH l) (hB:eY l) (hV:vO l) (q:jS l≤400000000):aW Tryz.prog 45 [.one (.c (.sl 33 (l.map aY)))] [] (bU (dT l)) []:=by
 have:=(kP (aNn l)).2 l hl (le_refl _) hP hB hV q;rwa [fJ] at this
theorem aGc (l:List Bd) (hl:l.length≤4002) (hP:qH l) (hB:eY l) (q:jS l≤400000000):aW Tryz.prog 38 [.one (.c (.sl 33 (l.map aY)))] [] (bU (dT l)) []:=by
 have:=(mP (aNn l)).2 l hl (le_refl _) hP hB q;rwa [fJ] at this
theorem a2y (x:In) (hq:∀q∈x.preds,PT q.ty) (hp:x.preds.length≤5000) (hv:x.vars.length≤5000) (hl:x.binds.length≤4002) (hP:qH x.binds) (hB:eY x.binds) (O:inW x≤100000000):aW Tryz.prog 36 [.pa (dD x)] [] (Go.AM.T (prI x)) []:=by
 have hM:3000000000≤maxLen:=by decide
 have u:=aJ7 hq hP;obtain⟨I,pl,y,vs,ps,A⟩:=x;unfold inW at O u;dsimp only at hq hp hv hl hP hB O u;have U:(vs.map aK).length=vs.length:=ξ _;have h4:=oE vs;have Y:=dF (sep:=[32]) (by decide) ([y]++vs);rw[gU,show kN [y]=y.length+3+0 from rfl] at Y;have hj:=u9 ([y]++vs) [32] (by rw[ψ];show 1+vs.length≤_;omega) (by omega);have hc:=r3 ps hq (by omega) (by omega);have aa:=oA hq;generalize hJ:Lib.join ([y]++vs) [32]=J at Y hj;have hb:=fL J (decide ((0:Int)<((vs.map aK).length:Nat))) (by omega);have ab:=bS (decide ((0:Int)<((vs.map aK).length:Nat))) J;have ac:decide (0<vs.length)=decide ((0:Int)<((vs.map aK).length:Nat)):=by
  rw[U];by_cases h:0<vs.length
  ·rw[θ h,θ (by omega)]
  ·rw[φ h,φ (by omega)]
 have E:=aGc A hl hP hB (by omega);have hbs:=sP hP;have ad:=r6 (dT A);have hpl:=k9 A;have hjb:=dF (sep:=[32,59,32]) (by decide) (dT A);have B:=sO (dT A) (by omega) (by omega);have M:prI ⟨I,pl,y,vs,ps,A⟩=a04++uU ps++I++[32]++brk (decide ((0:Int)<((vs.map aK).length:Nat))) J++[32]++s6 (dT A):=by
  unfold prI;dsimp only;rw[ac,hJ]
 rw[M] at u ⊢;generalize uU ps=CX at hc aa u ⊢;generalize brk (decide ((0:Int)<((vs.map aK).length:Nat))) J=BJ at hb ab u ⊢;generalize s6 (dT A)=BK at B ad u ⊢;generalize dT A=PB at E B;simp only[ψ,ω,length_nil] at u;refine b9 (n:=32) tok Tryz.func36 rfl rfl rfl ?_;refine sg rfl (AWp.sub (st2:=mk [(1,.one (.vp 1 0))] [(1,.var 90 [.c (.str I),.c (.int .i64 pl),.c (.str y),.c (.sl 1 (vs.map aK)),.c (.sl 5 (ps.map aM)),.c (.sl 33 (A.map aY))])]) sl ?_);have ae:([[C.str y]]:List (List C))++vs.map aK=([y]++vs).map aK:=rfl;have hr2:([[C.str y]]:List (List C)).length+(vs.map aK).length=(([y]++vs).map aK).length:=by rw[←ae,ψ]
 refine skh 6 [(2,.id 501),(5,.fz)] rfl (kc hj ?_);refine kz 1 rfl (sk 2 rfl (kc hc ?_));refine ak 10 [] rfl (kc hb ?_);refine ak 4 [] rfl (kc E ?_);refine kc B ?_;exact kz 2 rfl (aE rtT)
theorem x9:∀{l:List Sg}{m:Sg},m∈l→m.name.length+32+rR (mtS m.ty)≤yL l
 | a::l,t,h=>by
  rw[yL];rcases Aq.1 h with rfl | h
  ·omega
  ·have:=x9 h;omega
theorem a23 (c:Cl) (hP:∀m∈c.methods,SchP (mtS m.ty)∧¬m.ty.preds=[]) (hs:c.supers.length≤5000) (hm:c.methods.length≤5000) (hW:clW c≤100000000):aW Tryz.prog 35 [.pa (cX c)] [] (Go.AM.T (prC c)) []:=by
 have hM:3000000000≤maxLen:=by decide
 have y:=aJ8 hP;obtain⟨O,pl,u,q,ms⟩:=c;unfold clW at hW y;dsimp only at hP hs hm hW y;have hks:(q.map aK).length=q.length:=ξ _;have hkm:(ms.map c6).length=ms.length:=ξ _;have h1:=aEt ms hP;have h2:=aI5 u q;have h3:=aD3 u q;have hcl:=oA h2;have hc:=r3 (q.map (nW u)) h2 (by rw[ξ];omega) (by omega);have hk3:=r6 (ms.map prM);have hjb:=dF (sep:=[32,59,32]) (by decide) (ms.map prM);have hbk:=sO (ms.map prM) (by rw[ξ];omega) (by omega);have hres:prC ⟨O,pl,u,q,ms⟩=a08++uU (q.map (nW u))++O++[32]++u++[32]++s6 (ms.map prM):=rfl;rw[hres] at y ⊢;generalize uU (q.map (nW u))=CX at hc hcl y ⊢;generalize s6 (ms.map prM)=BK at hbk hk3 y ⊢;simp only[ψ,ω,length_nil] at y;refine b9 (n:=63) tok Tryz.func35 rfl rfl rfl ?_;refine sg rfl (sg rfl (AWp.sub (Sub.own (t:=3) (id:=500) 98 5 rfl rfl) ?_));refine aA (sg rfl (aF (aJ (fun i:Nat=>mk [(1,.one (.vp 1 0)),(3,.one (.hs 500 0 (q.take i).length (q.take i).length)),(10,.one (.c (.sl 1 (q.map aK)))),(11,I .i64 ((q.map aK).length:Nat)),(12,I .i64 (i:Nat))] [(1,.var 87 [.c (.str O),.c (.int .i64 pl),.c (.str u),.c (.sl 1 []),.c (.sl 1 (q.map aK)),.c (.sl 9 (ms.map c6))]),(500,.arr 98 5 (((q.take i).map (nW u)).map aM) 0)]) (fun i=>i≤q.length) (fun i=>q.length-i) 0 (Ab _) sl ?_)));intro i hi;have hti:(q.take i).length=i:=by rw[Ai];omega
 refine sg rfl (aA (aB rfl (fun hb=>?_) (fun hb=>?_)))
 ·have B:=ltD hb hks;obtain⟨s,hs1⟩:=aG B;have hs':=aP aK hs1;have htv:=aZo u;have E:(((q.take i).map (nW u)).map aM).length=(q.take i).length:=by rw[ξ,ξ]
  have J:q.take (i+1)=q.take i++[s]:=bQ hs1;have M:(q.take (i+1)).length=(q.take i).length+1:=by rw[J,ψ];rfl
  have A:(((q.take i).map (nW u)).map aM)++[aM (nW u s)]=((q.take (i+1)).map (nW u)).map aM:=by rw[J,Af,Af];rfl
  refine aD (aA (aF (sgh [(0,.row i (aK s))] rfl (aC mixed (ak 4 [] rfl (kc htv ?_))))));exact ak 4 [(6,.all)] rfl (az (agN [] rfl ⟨i+1,B,by dsimp only;omega,sl (he:=⟨rfl,Go.AM.hs_ren (by rw[M,←E];rfl) (by rw[M,←E];rfl),rfl,rfl,rfl,trivial⟩) (hh:=⟨⟨_,rfl,Go.AM.Ole.var rfl⟩,⟨_,rfl,.arrS A⟩,trivial⟩)⟩))
 have U:=geD hb hks hi;subst U;refine aH ?_;rw[Al];have hn0:((q.map (nW u)).map aM).length=q.length:=by rw[ξ,ξ]
 refine AWp.sub (Sub.freeze (id:=500) rfl) ?_;refine AWp.sub (st2:=mk [(1,.one (.vp 1 0)),(3,.one (.c (.sl 5 ((q.map (nW u)).map aM))))] [(1,.var 87 [.c (.str O),.c (.int .i64 pl),.c (.str u),.c (.sl 1 []),.c (.sl 1 (q.map aK)),.c (.sl 9 (ms.map c6))])]) ?_ ?_
 ·refine Sub.trans ?_ (cv 3 ((q.map (nW u)).map aM));exact sl
 clear hb hi hti;refine sg rfl (AWp.sub (Sub.own (t:=6) (id:=502) 9 1 rfl rfl) ?_);refine aA (sg rfl (aF (aJ (fun i:Nat=>mk [(1,.one (.vp 1 0)),(3,.one (.c (.sl 5 ((q.map (nW u)).map aM)))),(6,.one (.hs 502 0 (ms.take i).length (ms.take i).length)),(26,.one (.c (.sl 9 (ms.map c6)))),(27,I .i64 ((ms.map c6).length:Nat)),(28,I .i64 (i:Nat))] [(1,.var 87 [.c (.str O),.c (.int .i64 pl),.c (.str u),.c (.sl 1 []),.c (.sl 1 (q.map aK)),.c (.sl 9 (ms.map c6))]),(502,.arr 9 1 (((ms.take i).map prM).map aK) 0)]) (fun i=>i≤ms.length) (fun i=>ms.length-i) 0 (Ab _) sl ?_)));intro i hi;have hti:(ms.take i).length=i:=by rw[Ai];omega
 refine sg rfl (aA (aB rfl (fun hb=>?_) (fun hb=>?_)))
 ·have B:=ltD hb hkm;obtain⟨m,Y⟩:=aG B;have hm':=aP c6 Y;have hmm:=ε Y;obtain⟨hmP,hmn⟩:=hP m hmm;have hmw:=x9 hmm;have hsc:=qZ hmP (by omega);have hsl:=rA hmP;have E:(((ms.take i).map prM).map aK).length=(ms.take i).length:=by rw[ξ,ξ]
  have J:ms.take (i+1)=ms.take i++[m]:=bQ Y;have M:(ms.take (i+1)).length=(ms.take i).length+1:=by rw[J,ψ];rfl
  have A:(((ms.take i).map prM).map aK)++[[.str (m.name++[32,58,32]++nE (mtS m.ty))]]=((ms.take (i+1)).map prM).map aK:=by rw[J,Af,Af];rfl
  obtain⟨mn,mp,⟨mv,mq,mt⟩⟩:=m;dsimp only at hmn hmw hsc hsl A hm';obtain⟨q0,mq,rfl⟩:∃a r,mq=a::r:=by
   cases mq with
   | nil=>exact absurd rfl hmn
   | cons a r=>exact⟨a,r,rfl⟩
  have hq1:1≤((q0::mq).map aM).length:=by rw[ξ,ω];omega
  have hnl:(mn++[32,58,32]).length≤100000003:=by rw[ψ];show _+3≤_;omega
  refine aD (aA (aF (sgh [(0,.row i (c6 ⟨mn,mp,⟨mv,q0::mq,mt⟩⟩))] rfl (aC mixed (ak 12 [] rfl (kc hsc ?_ (ha:=.cons rfl (.pa (.c .nl (.c .nl (.c .refl (.c .refl (.c .refl (.c .refl (.c .refl .nil)))))))) .nil)))))));exact ak 4 [(14,.all)] rfl (az (agN [] rfl ⟨i+1,B,by dsimp only;omega,sl (he:=⟨rfl,rfl,Go.AM.hs_ren (by rw[M,←E];rfl) (by rw[M,←E];rfl),rfl,rfl,rfl,trivial⟩) (hh:=⟨⟨_,rfl,Go.AM.Ole.var rfl⟩,⟨_,rfl,.arrS A⟩,trivial⟩)⟩))
 have U:=geD hb hkm hi;subst U;refine aH ?_;rw[Al];refine AWp.sub (Sub.freeze (id:=502) rfl) ?_;refine AWp.sub (st2:=mk [(1,.one (.vp 1 0)),(3,.one (.c (.sl 5 ((q.map (nW u)).map aM)))),(6,bU (ms.map prM))] [(1,.var 87 [.c (.str O),.c (.int .i64 pl),.c (.str u),.c (.sl 1 []),.c (.sl 1 (q.map aK)),.c (.sl 9 (ms.map c6))])]) ?_ ?_
 ·refine Sub.trans ?_ (cv 6 ((ms.map prM).map aK));exact sl
 refine sk 1 rfl (kc hc ?_);refine ak 10 [] rfl (kc hbk ?_);exact kz 2 rfl (aE rtT)
theorem lC {α:Type}(f:α→Nat):∀{l:List α}{a:α},a∈l→f a≤aGx f l
 | b::l,a,h=>by
  rw[aGx];rcases Aq.1 h with rfl | h
  ·omega
  ·have:=lC f h;omega
theorem aVt (p:Pg) (hP:PgP p) (hO:PgOk 60 p) (U:pgW p≤1200000):aW Tryz.prog 9 [.pa (oP p)] [] (Go.AM.T (aWs p)) []:=by
 have hM:3000000000≤maxLen:=by decide
 have hle:=aRk hP;have hjl:=dF (sep:=aTy) (by decide) (prL p);have Y:∀d∈p.datas,aW Tryz.prog 34 [.pa (cQ d)] [] (Go.AM.T (prD d)) []:=fun d hd=>by
  have h1:=hO.d.2 d hd;have h2:=lC dtW hd;exact a2z d (hP.d d hd) (le_trans h1.v (by decide)) (le_trans h1.c.1 (by decide)) (fun c hc=>le_trans (h1.c.2 c hc).1 (by decide)) (by unfold pgW at U;omega)
 have aa:∀c∈p.classes,aW Tryz.prog 35 [.pa (cX c)] [] (Go.AM.T (prC c)) []:=fun c hc=>by
  have h1:=hO.c.2 c hc;have h2:=lC clW hc;exact a23 c (hP.c c hc) (le_trans h1.s (by decide)) (le_trans h1.m.1 (by decide)) (by unfold pgW at U;omega)
 have ab:∀x∈p.insts,aW Tryz.prog 36 [.pa (dD x)] [] (Go.AM.T (prI x)) []:=fun x hx=>by
  have h1:=hO.i.2 x hx;have h2:=lC inW hx;exact a2y x (hP.i x hx).1 (le_trans h1.p.1 (by decide)) (le_trans h1.v (by decide)) (le_trans h1.b.1 (by decide)) (hP.i x hx).2 h1.b.2 (by unfold pgW at U;omega)
 have ac:=aGc p.binds (le_trans hO.b.1 (by decide)) hP.b hO.b.2 (by unfold pgW at U;omega);have hpl:=k9 p.binds;have hlL:(prL p).length≤1000:=by
  unfold prL;rw[ψ,ψ,ψ,ξ,ξ,ξ];have:=hO.d.1;have:=hO.c.1;have:=hO.i.1;have:=hO.b.1;omega
 have hj:=u9 (prL p) aTy (by omega) (by omega);obtain⟨q,cs,u,E⟩:=p;have hd60:q.length≤60:=hO.d.1;have hc60:cs.length≤60:=hO.c.1;have hi60:u.length≤60:=hO.i.1;clear hP hO U hle;dsimp only at Y aa ab ac hpl;have ad:(q.map cQ).length=q.length:=ξ _;have ae:(cs.map cX).length=cs.length:=ξ _;have af:(u.map dD).length=u.length:=ξ _;refine b9 (n:=55) tok Tryz.func9 rfl rfl rfl ?_;refine sg rfl (sg rfl (AWp.sub (Sub.own (t:=3) (id:=500) 9 1 rfl rfl) ?_));refine AWp.sub (st2:=mk [(1,.one (.vp 1 0)),(3,.one (.hs 500 0 (([]:List Str).map aK).length (([]:List Str).map aK).length))] [(1,.var 30 [.c (.sl 5 (q.map cQ)),.c (.sl 6 (cs.map cX)),.c (.sl 6 (u.map dD)),.c (.sl 33 (E.map aY))]),(500,.arr 9 1 (([]:List Str).map aK) 0)]) sl ?_;refine aA (sg rfl (aF (aJ (fun i:Nat=>mk [(1,.one (.vp 1 0)),(3,.one (.hs 500 0 ((([]:List Str)++(q.take i).map prD).map aK).length ((([]:List Str)++(q.take i).map prD).map aK).length)),(11,.one (.c (.sl 5 (q.map cQ)))),(12,I .i64 ((q.map cQ).length:Nat)),(13,I .i64 (i:Nat))] [(1,.var 30 [.c (.sl 5 (q.map cQ)),.c (.sl 6 (cs.map cX)),.c (.sl 6 (u.map dD)),.c (.sl 33 (E.map aY))]),(500,.arr 9 1 ((([]:List Str)++(q.take i).map prD).map aK) 0)]) (fun i=>i≤q.length) (fun i=>q.length-i) 0 (Ab _) (by rw[Bl,Ca,Ay];exact sl) ?_)));intro i hi;refine sg rfl (aA (aB rfl (fun hb=>?_) (fun hb=>?_)))
 ·have A:=ltD hb ad;obtain⟨x,hx⟩:=aG A;have ah:=aP cQ hx;have M:=Y x (ε hx);have B:([]:List Str)++(q.take (i+1)).map prD=(([]:List Str)++(q.take i).map prD)++[prD x]:=by rw[bQ hx,Af];simp only[Aj,Ar,Ca]
  have J:((([]:List Str)++(q.take i).map prD).map aK).length≤1000:=by
   rw[ξ];simp only[ψ,ξ,Ai,length_nil];omega
  generalize hX:([]:List Str)++(q.take i).map prD=X at B J ⊢;have y:(X.map aK)++[[.str (prD x)]]=(([]:List Str)++(q.take (i+1)).map prD).map aK:=by rw[B,Af];rfl
  have hle:((([]:List Str)++(q.take (i+1)).map prD).map aK).length=(X.map aK).length+1:=by rw[←y,ψ];rfl
  refine aD (aA (aF (sgh [(0,.row i (cQ x))] rfl (aC mixed (ak 2 [] rfl (kc M ?_))))));exact ak 3 [(3,.all)] rfl (az (agN [] rfl ⟨i+1,A,by dsimp only;omega,sl (he:=⟨rfl,Go.AM.hs_ren (by rw[hle];rfl) (by rw[hle];rfl),rfl,rfl,rfl,trivial⟩) (hh:=⟨⟨_,rfl,Go.AM.Ole.var rfl⟩,⟨_,rfl,.arrS y⟩,trivial⟩)⟩))
 have O:=geD hb ad hi;subst O;clear hb hi;refine aH ?_;rw[Al];refine aA (sg rfl (aF (aJ (fun i:Nat=>mk [(1,.one (.vp 1 0)),(3,.one (.hs 500 0 (((([]:List Str)++q.map prD)++(cs.take i).map prC).map aK).length (((([]:List Str)++q.map prD)++(cs.take i).map prC).map aK).length)),(24,.one (.c (.sl 6 (cs.map cX)))),(25,I .i64 ((cs.map cX).length:Nat)),(26,I .i64 (i:Nat))] [(1,.var 30 [.c (.sl 5 (q.map cQ)),.c (.sl 6 (cs.map cX)),.c (.sl 6 (u.map dD)),.c (.sl 33 (E.map aY))]),(500,.arr 9 1 (((([]:List Str)++q.map prD)++(cs.take i).map prC).map aK) 0)]) (fun i=>i≤cs.length) (fun i=>cs.length-i) 0 (Ab _) (by rw[Bl,Ca,Ay];exact sl) ?_)));intro i hi;refine sg rfl (aA (aB rfl (fun hb=>?_) (fun hb=>?_)))
 ·have A:=ltD hb ae;obtain⟨x,hx⟩:=aG A;have ah:=aP cX hx;have M:=aa x (ε hx);have B:(([]:List Str)++q.map prD)++(cs.take (i+1)).map prC=((([]:List Str)++q.map prD)++(cs.take i).map prC)++[prC x]:=by rw[bQ hx,Af];simp only[Aj,Ar,Ca]
  have J:(((([]:List Str)++q.map prD)++(cs.take i).map prC).map aK).length≤1000:=by
   rw[ξ];simp only[ψ,ξ,Ai,length_nil];omega
  generalize hX:(([]:List Str)++q.map prD)++(cs.take i).map prC=X at B J ⊢;have y:(X.map aK)++[[.str (prC x)]]=((([]:List Str)++q.map prD)++(cs.take (i+1)).map prC).map aK:=by rw[B,Af];rfl
  have hle:(((([]:List Str)++q.map prD)++(cs.take (i+1)).map prC).map aK).length=(X.map aK).length+1:=by rw[←y,ψ];rfl
  refine aD (aA (aF (sgh [(0,.row i (cX x))] rfl (aC mixed (ak 2 [] rfl (kc M ?_))))));exact ak 3 [(3,.all)] rfl (az (agN [] rfl ⟨i+1,A,by dsimp only;omega,sl (he:=⟨rfl,Go.AM.hs_ren (by rw[hle];rfl) (by rw[hle];rfl),rfl,rfl,rfl,trivial⟩) (hh:=⟨⟨_,rfl,Go.AM.Ole.var rfl⟩,⟨_,rfl,.arrS y⟩,trivial⟩)⟩))
 have O:=geD hb ae hi;subst O;clear hb hi;refine aH ?_;rw[Al];refine aA (sg rfl (aF (aJ (fun i:Nat=>mk [(1,.one (.vp 1 0)),(3,.one (.hs 500 0 ((((([]:List Str)++q.map prD)++cs.map prC)++(u.take i).map prI).map aK).length ((((([]:List Str)++q.map prD)++cs.map prC)++(u.take i).map prI).map aK).length)),(37,.one (.c (.sl 6 (u.map dD)))),(38,I .i64 ((u.map dD).length:Nat)),(39,I .i64 (i:Nat))] [(1,.var 30 [.c (.sl 5 (q.map cQ)),.c (.sl 6 (cs.map cX)),.c (.sl 6 (u.map dD)),.c (.sl 33 (E.map aY))]),(500,.arr 9 1 ((((([]:List Str)++q.map prD)++cs.map prC)++(u.take i).map prI).map aK) 0)]) (fun i=>i≤u.length) (fun i=>u.length-i) 0 (Ab _) (by rw[Bl,Ca,Ay];exact sl) ?_)));intro i hi;refine sg rfl (aA (aB rfl (fun hb=>?_) (fun hb=>?_)))
 ·have A:=ltD hb af;obtain⟨x,hx⟩:=aG A;have ah:=aP dD hx;have M:=ab x (ε hx);have B:((([]:List Str)++q.map prD)++cs.map prC)++(u.take (i+1)).map prI=(((([]:List Str)++q.map prD)++cs.map prC)++(u.take i).map prI)++[prI x]:=by rw[bQ hx,Af];simp only[Aj,Ar,Ca]
  have J:((((([]:List Str)++q.map prD)++cs.map prC)++(u.take i).map prI).map aK).length≤1000:=by
   rw[ξ];simp only[ψ,ξ,Ai,length_nil];omega
  generalize hX:((([]:List Str)++q.map prD)++cs.map prC)++(u.take i).map prI=X at B J ⊢;have y:(X.map aK)++[[.str (prI x)]]=(((([]:List Str)++q.map prD)++cs.map prC)++(u.take (i+1)).map prI).map aK:=by rw[B,Af];rfl
  have hle:((((([]:List Str)++q.map prD)++cs.map prC)++(u.take (i+1)).map prI).map aK).length=(X.map aK).length+1:=by rw[←y,ψ];rfl
  refine aD (aA (aF (sgh [(0,.row i (dD x))] rfl (aC mixed (ak 2 [] rfl (kc M ?_))))));exact ak 3 [(3,.all)] rfl (az (agN [] rfl ⟨i+1,A,by dsimp only;omega,sl (he:=⟨rfl,Go.AM.hs_ren (by rw[hle];rfl) (by rw[hle];rfl),rfl,rfl,rfl,trivial⟩) (hh:=⟨⟨_,rfl,Go.AM.Ole.var rfl⟩,⟨_,rfl,.arrS y⟩,trivial⟩)⟩))
 have O:=geD hb af hi;subst O;clear hb hi;refine aH ?_;rw[Al];have hfin:(((([]:List Str)++q.map prD)++cs.map prC)++u.map prI)=q.map prD++cs.map prC++u.map prI:=by rw[Av]
 rw[hfin];have J:((q.map prD++cs.map prC++u.map prI).map aK).length≤1000:=by
  rw[ξ];simp only[ψ,ξ];omega
 have hl2:((dT E).map aK).length≤1000:=by
  have:(prL ⟨q,cs,u,E⟩).length=(q.map prD++cs.map prC++u.map prI).length+(dT E).length:=by unfold prL;rw[ψ]
  rw[ξ];omega
 have ai:((q.map prD++cs.map prC++u.map prI).map aK)++(dT E).map aK=(prL ⟨q,cs,u,E⟩).map aK:=by unfold prL;simp only[Af]
 have hr2:((q.map prD++cs.map prC++u.map prI).map aK).length+((dT E).map aK).length=((prL ⟨q,cs,u,E⟩).map aK).length:=by rw[←ai,ψ]
 generalize q.map prD++cs.map prC++u.map prI=X at J ai hr2 ⊢;refine sk 3 rfl (kc ac ?_);refine ak 1 [(4,.fz)] rfl (kc hj ?_);exact kz 1 rfl (aE rtT)
theorem aPx (p:Pg) (hP:PgP p) (hO:PgOk 60 p) (hV:PgV p) (hN:PgN p) (hW:pgW p≤1200000):aW Tryz.prog 10 [.pa (oP p)] [] (Go.AM.T (aWs p)) []:=by
 have hM:3000000000≤maxLen:=by decide
 have hle:=aRk hP;have hlL:(prL p).length≤1000:=by
  unfold prL;rw[ψ,ψ,ψ,ξ,ξ,ξ];have:=hO.d.1;have:=hO.c.1;have:=hO.i.1;have:=hO.b.1;have:=k9 p.binds;omega
 have hj:=aC9 (prL p) (by omega);have hcb:aW Tryz.prog 45 [.one (.c (.sl 33 (p.binds.map aY)))] [] (bU (dT p.binds)) []:=aBe p.binds (le_trans hO.b.1 (by decide)) hP.b hO.b.2 hV.b (by unfold pgW at hW;omega);have hdP:=hP.d;have hdO:=hO.d.2;have hcP:=hP.c;have hcO:=hO.c.2;have hiP:=hP.i;have hiO:=hO.i.2;have hiV:=hV.i;have hdW:∀d∈p.datas,dtW d≤1200000:=fun d hd=>by have:=lC dtW hd;unfold pgW at hW;omega
 have hcW:∀d∈p.classes,clW d≤1200000:=fun d hd=>by have:=lC clW hd;unfold pgW at hW;omega
 have hiW:∀d∈p.insts,inW d≤1200000:=fun d hd=>by have:=lC inW hd;unfold pgW at hW;omega
 obtain⟨y,cs,u,bs⟩:=p;have hd60:y.length≤60:=hO.d.1;have hc60:cs.length≤60:=hO.c.1;have hi60:u.length≤60:=hO.i.1;clear hP hO hW hle hV;dsimp only at hcb hdP hdO hcP hcO hiP hiO hiV hdW hcW hiW;unfold PgN at hN;dsimp only at hN;have hkd:(y.map cQ).length=y.length:=ξ _;have hkc:(cs.map cX).length=cs.length:=ξ _;have hki:(u.map dD).length=u.length:=ξ _;refine b9 (n:=235) tok Tryz.func10 rfl rfl rfl ?_;refine sg rfl (sg rfl (AWp.sub (Sub.own (t:=3) (id:=500) 9 1 rfl rfl) ?_));refine AWp.sub (st2:=mk [(1,.one (.vp 1 0)),(3,.one (.hs 500 0 ((([]:List Str)).map aK).length ((([]:List Str)).map aK).length))] [(1,.var 30 [.c (.sl 5 (y.map cQ)),.c (.sl 6 (cs.map cX)),.c (.sl 6 (u.map dD)),.c (.sl 33 (bs.map aY))]),(500,.arr 9 1 ((([]:List Str)).map aK) 0)]) sl ?_;refine aA (sg rfl (aF (aJ (fun i:Nat=>mk [(1,.one (.vp 1 0)),(3,.one (.hs 500 0 ((([]:List Str)++(y.take i).map prD).map aK).length ((([]:List Str)++(y.take i).map prD).map aK).length)),(4,I .i64 (i:Nat))] [(1,.var 30 [.c (.sl 5 (y.map cQ)),.c (.sl 6 (cs.map cX)),.c (.sl 6 (u.map dD)),.c (.sl 33 (bs.map aY))]),(500,.arr 9 1 ((([]:List Str)++(y.take i).map prD).map aK) 0)]) (fun i=>i≤y.length) (fun i=>y.length-i) 0 (Ab _) (by rw[Bl,Ca,Ay];exact sl) ?_)));intro i hi;refine aA (sg rfl (aB rfl (fun hb=>?_) (fun hb=>?_)))
 ·have hlt:=ltD hb hkd;obtain⟨x,hx⟩:=aG hlt;have hx':=aP cQ hx;have hxm:=ε hx;have M:([]:List Str)++(y.take (i+1)).map prD=(([]:List Str)++(y.take i).map prD)++[prD x]:=by rw[bQ hx,Af];simp only[Aj,Ar,Ca]
  have hl1:((([]:List Str)++(y.take i).map prD).map aK).length≤1000:=by
   rw[ξ];simp only[ψ,ξ,Ai,length_nil];omega
  generalize hX:([]:List Str)++(y.take i).map prD=X at M hl1 ⊢;have B:(X.map aK)++[[.str (prD x)]]=(([]:List Str)++(y.take (i+1)).map prD).map aK:=by rw[M,Af];rfl
  have hle:((([]:List Str)++(y.take (i+1)).map prD).map aK).length=(X.map aK).length+1:=by rw[←B,ψ];rfl
  refine aD ?_;have hxW:=hdW x hxm;have hxP:=hdP x hxm;have hxO:=hdO x hxm;have hxN:=hN x hxm;have hpe:=aX7 hxN;have hvl:=aUp x;have hcl:=aUv hxP;have hv1:=hxO.v;have hk1:=hxO.c.1;have hf1:∀c∈x.cons,c.fields.length≤4002:=fun c hc=>(hxO.c.2 c hc).1
  have hvs:= @aLl x;obtain⟨dv,hdv⟩:∃f,f=aPn x:=⟨_,rfl⟩
  have hd0:dv 0=[100,97,116,97,32]++x.name:=by rw[hdv];unfold aPn;rw[Bl,flatMap_nil,Ay];rfl
  rw[←hdv] at hpe hvl hvs;clear hdv;have hpr:∃pd,pd=prD x:=⟨_,rfl⟩
  obtain⟨pd,hpd⟩:=hpr;rw[←hpd] at hpe B M;clear hpd M;obtain⟨nm,pl,vs,ks⟩:=x;unfold dtW at hxW;dsimp only at hxW hxP hxN hpe hvl hcl hv1 hk1 hf1 hvs hd0;have hkv:(vs.map aK).length=vs.length:=ξ _;have hkk:(ks.map hY).length=ks.length:=ξ _;refine aA (aF (sgh [(3,.row i (cQ ⟨nm,pl,vs,ks⟩))] rfl (sg rfl (aA (sg rfl (aF (aJ (fun k:Nat=>mk [(1,.one (.vp 1 0)),(3,.one (.hs 500 0 (X.map aK).length (X.map aK).length)),(4,I .i64 (i:Nat)),(5,.one (.vp 5 0)),(6,Go.AM.T (dv k)),(7,I .i64 (k:Nat))] [(1,.var 30 [.c (.sl 5 (y.map cQ)),.c (.sl 6 (cs.map cX)),.c (.sl 6 (u.map dD)),.c (.sl 33 (bs.map aY))]),(5,.var 81 ((cQ ⟨nm,pl,vs,ks⟩).map .c)),(500,.arr 9 1 (X.map aK) 0)]) (fun k=>k≤vs.length) (fun k=>vs.length-k) 0 (Ab _) (by rw[hd0];exact sl) ?_)))))));intro k hk2;refine aA (sg rfl (aB rfl (fun O=>?_) (fun O=>?_)))
  ·have U:=ltD O hkv;obtain⟨v,hv⟩:=aG U;have hv':=aP aK hv;have hst:=hvs hv;have l1:=hvl k;have l2:=hvl (k+1);rw[hst] at l2;have l3:(dv k++[32]).length≤1200000:=by rw[ψ] at l2;omega
   have h32:([32]:Str).length=1:=rfl;rw[ψ] at l2;generalize dv k=Y at hst l1 l2 l3 ⊢;exact aD (aA (aF (ag [(5,.row k (aK v))] rfl (agN [] rfl ⟨k+1,U,by dsimp only;omega,sl (he:=⟨rfl,rfl,rfl,rfl,by rw[hst];rfl,rfl,trivial⟩)⟩))))
  have hge2:=geD O hkv hk2;subst hge2;clear O hk2 hvs hd0;refine aH ?_;have hvl:=hvl vs.length;generalize dv vs.length=Y at hpe hvl ⊢;refine aA (sg rfl (aF (aJ (fun k:Nat=>mk [(1,.one (.vp 1 0)),(3,.one (.hs 500 0 (X.map aK).length (X.map aK).length)),(4,I .i64 (i:Nat)),(5,.one (.vp 5 0)),(6,Go.AM.T (Y++aLr ks k)),(8,I .i64 (k:Nat))] [(1,.var 30 [.c (.sl 5 (y.map cQ)),.c (.sl 6 (cs.map cX)),.c (.sl 6 (u.map dD)),.c (.sl 33 (bs.map aY))]),(5,.var 81 ((cQ ⟨nm,pl,vs,ks⟩).map .c)),(500,.arr 9 1 (X.map aK) 0)]) (fun k=>k≤ks.length) (fun k=>ks.length-k) 0 (Ab _) (by rw[show aLr ks 0=[] from rfl,Ay];exact sl) ?_)));intro k hk2;refine aA (sg rfl (aB rfl (fun O=>?_) (fun O=>?_)))
  ·have U:=ltD O hkk;obtain⟨c,hc⟩:=aG U;have hc':=aP hY hc;have hcm:=ε hc;have hcw:=xZ hcm;have hcP1:=hxP c hcm;have hcf:=hf1 c hcm;have hst:=aLq hc;have l1:=hcl k;obtain⟨r,hr,hr2⟩:∃r:Nat,(if(1:Int)<(k:Int) then 1 else(k:Int))=(r:Nat)∧(([[32,61,32],[32,124,32]]:List Str).map aK)[r]?=some (aK (if k=0 then eqP else aMn)):=by
    by_cases h0:k=0
    ·exact⟨0,by rw[h0];rfl,by rw[ζ h0];rfl⟩
    ·exact⟨1,by split<;>omega,by rw[η h0];rfl⟩
   have hsl:(if k=0 then eqP else aMn).length=3:=by split<;>rfl
   have hprc:uL c=c.name++c.fields.flatMap fun t=>[32]++cO t:=rfl
   generalize (if k=0 then eqP else aMn)=sp at hst hr2 hsl;generalize hC:aLr ks k=C0 at hst l1 ⊢;have l0:(Y++C0).length≤2400010:=by rw[ψ];omega
   have l2:(Y++C0++sp).length≤2400013:=by rw[ψ];omega
   obtain⟨E,cp,fs⟩:=c;dsimp only at hcw hcf hcP1 hprc;have hkf:(fs.map bF).length=fs.length:=ξ _;have h2s:(([[32,61,32],[32,124,32]]:List Str).map aK).length=2:=rfl;refine aD (aA (aF (aA (agN [(1,.all),(4,.row r (aK sp)),(5,.row r (aK sp)),(10,.row k (hY ⟨E,cp,fs⟩))] rfl (sg rfl ?_)))));have l3:(Y++C0++sp++E).length≤2400013+E.length:=by rw[ψ];omega
   have hst:Y++aLr ks (k+1)=(Y++C0++sp++E)++(fs.flatMap fun t=>[32]++cO t):=by rw[hst,hprc];simp only[Aj]
   generalize Y++C0++sp++E=E0 at l3 hst ⊢;refine aF (aJ (fun q:Nat=>mk [(1,.one (.vp 1 0)),(3,.one (.hs 500 0 (X.map aK).length (X.map aK).length)),(4,I .i64 (i:Nat)),(5,.one (.vp 5 0)),(6,Go.AM.T (E0++(fs.take q).flatMap fun t=>[32]++cO t)),(8,I .i64 (k:Nat)),(9,I .i64 (q:Nat))] [(1,.var 30 [.c (.sl 5 (y.map cQ)),.c (.sl 6 (cs.map cX)),.c (.sl 6 (u.map dD)),.c (.sl 33 (bs.map aY))]),(5,.var 81 ((cQ ⟨nm,pl,vs,ks⟩).map .c)),(500,.arr 9 1 (X.map aK) 0)]) (fun q=>q≤fs.length) (fun q=>fs.length-q) 0 (Ab _) (by rw[Bl,flatMap_nil,Ay];exact sl) ?_);intro q hq;refine aA (sgh [(4,.row k (hY ⟨E,cp,fs⟩))] rfl (aB rfl (fun hb3=>?_) (fun hb3=>?_)))
   ·have hlt3:=ltD hb3 hkf;obtain⟨t,ht⟩:=aG hlt3;have ht':=aP bF ht;have htm:=ε ht;have htw:=vY htm;have hsm:=aF7 (hcP1 t htm) (by omega);have hsl:=nD (hcP1 t htm);have hfl:=pL (fs.take q) fun x hx=>hcP1 x (Bb hx)
    have hft:=sW fs q;have hfm:E0++((fs.take (q+1)).flatMap fun t=>[32]++cO t)=(E0++(fs.take q).flatMap fun t=>[32]++cO t)++[32]++cO t:=by rw[aCz (fun t=>[32]++cO t) ht];simp only[Aj]
    have l4:(E0++(fs.take q).flatMap fun t=>[32]++cO t).length≤10000000:=by rw[ψ];omega
    generalize (E0++(fs.take q).flatMap fun t=>[32]++cO t)=F0 at l4 hfm ⊢;have l5:(F0++[32]).length≤10000001:=by rw[ψ];show _+1≤_;omega
    have l6:([32]:Str).length=1:=rfl;refine aD (aA (aF (aC mixed (ak 11 [(5,.row k (hY ⟨E,cp,fs⟩)),(9,.row q (bF t))] rfl (kc hsm ?_)))));exact kz 2 rfl (agN [] rfl ⟨q+1,hlt3,by dsimp only;omega,sl (he:=⟨rfl,rfl,rfl,rfl,by rw[hfm];rfl,rfl,rfl,trivial⟩)⟩)
   have hge3:=geD hb3 hkf hq;subst hge3;refine aH ?_;rw[Al];exact agN [] rfl ⟨k+1,U,by dsimp only;omega,sl (he:=⟨rfl,rfl,rfl,rfl,by rw[hst];rfl,rfl,trivial⟩)⟩
  have hge2:=geD O hkk hk2;subst hge2;refine aH ?_;rw[←hpe];exact ag [(2,.all)] rfl (agN [] rfl ⟨i+1,hlt,by dsimp only;omega,sl (he:=⟨rfl,Go.AM.hs_ren (by rw[hle];rfl) (by rw[hle];rfl),rfl,trivial⟩) (hh:=⟨⟨_,rfl,Go.AM.Ole.var rfl⟩,⟨_,rfl,.arrS B⟩,trivial⟩)⟩)
 have hge:=geD hb hkd hi;subst hge;clear hb hi;refine aH ?_;rw[Al];refine aA (sg rfl (aF (aJ (fun i:Nat=>mk [(1,.one (.vp 1 0)),(3,.one (.hs 500 0 (((([]:List Str)++y.map prD)++(cs.take i).map prC).map aK).length (((([]:List Str)++y.map prD)++(cs.take i).map prC).map aK).length)),(10,I .i64 (i:Nat))] [(1,.var 30 [.c (.sl 5 (y.map cQ)),.c (.sl 6 (cs.map cX)),.c (.sl 6 (u.map dD)),.c (.sl 33 (bs.map aY))]),(500,.arr 9 1 (((([]:List Str)++y.map prD)++(cs.take i).map prC).map aK) 0)]) (fun i=>i≤cs.length) (fun i=>cs.length-i) 0 (Ab _) (by rw[Bl,Ca,Ay];exact sl) ?_)));intro i hi;refine aA (sg rfl (aB rfl (fun hb=>?_) (fun hb=>?_)))
 ·have hlt:=ltD hb hkc;obtain⟨x,hx⟩:=aG hlt;have hx':=aP cX hx;have hxm:=ε hx;have M:(([]:List Str)++y.map prD)++(cs.take (i+1)).map prC=((([]:List Str)++y.map prD)++(cs.take i).map prC)++[prC x]:=by rw[bQ hx,Af];simp only[Aj,Ar,Ca]
  have hl1:(((([]:List Str)++y.map prD)++(cs.take i).map prC).map aK).length≤1000:=by
   rw[ξ];simp only[ψ,ξ,Ai,length_nil];omega
  generalize hX:(([]:List Str)++y.map prD)++(cs.take i).map prC=X at M hl1 ⊢;have B:(X.map aK)++[[.str (prC x)]]=((([]:List Str)++y.map prD)++(cs.take (i+1)).map prC).map aK:=by rw[M,Af];rfl
  have hle:(((([]:List Str)++y.map prD)++(cs.take (i+1)).map prC).map aK).length=(X.map aK).length+1:=by rw[←B,ψ];rfl
  refine aD ?_;have hxW:=hcW x hxm;have hxP:=hcP x hxm;have hxO:=hcO x hxm;have hpc:=aJ8 hxP;have hs1:=hxO.s;have hm1:=hxO.m.1;obtain⟨nm,pl,vr,A,ms⟩:=x;unfold clW at hxW hpc;dsimp only at hxW hxP hs1 hm1 hpc;have hks:(A.map aK).length=A.length:=ξ _;have hkm:(ms.map c6).length=ms.length:=ξ _;have h1:=aEt ms hxP;have h2:=aI5 vr A;have h3:=aD3 vr A;have hcl:=oA h2;have hcx:=nN (A.map (nW vr)) h2 (by rw[ξ];omega) (by omega);have hk3:=r6 (ms.map prM);have hbk:=sN (ms.map prM) (by omega);have hres:prC ⟨nm,pl,vr,A,ms⟩=a08++uU (A.map (nW vr))++nm++[32]++vr++[32]++s6 (ms.map prM):=rfl;rw[hres] at hpc B;clear M hres;generalize uU (A.map (nW vr))=CX at hcx hcl hpc B;generalize s6 (ms.map prM)=BK at hbk hk3 hpc B;simp only[ψ,ω,length_nil] at hpc;refine aA (aF (sgh [(3,.row i (cX ⟨nm,pl,vr,A,ms⟩))] rfl (sg rfl (AWp.sub (Sub.own (t:=12) (id:=501) 98 5 rfl rfl) ?_))));refine aA (sg rfl (aF (aJ (fun k:Nat=>mk [(1,.one (.vp 1 0)),(3,.one (.hs 500 0 (X.map aK).length (X.map aK).length)),(10,I .i64 (i:Nat)),(11,.one (.vp 11 0)),(12,.one (.hs 501 0 (A.take k).length (A.take k).length)),(13,I .i64 (k:Nat))] [(1,.var 30 [.c (.sl 5 (y.map cQ)),.c (.sl 6 (cs.map cX)),.c (.sl 6 (u.map dD)),.c (.sl 33 (bs.map aY))]),(11,.var 87 [.c (.str nm),.c (.int .i64 pl),.c (.str vr),.c (.sl 1 []),.c (.sl 1 (A.map aK)),.c (.sl 9 (ms.map c6))]),(500,.arr 9 1 (X.map aK) 0),(501,.arr 98 5 (((A.take k).map (nW vr)).map aM) 0)]) (fun k=>k≤A.length) (fun k=>A.length-k) 0 (Ab _) sl ?_)));intro k hk2;have hti:(A.take k).length=k:=by rw[Ai];omega
  refine aA (sg rfl (aB rfl (fun O=>?_) (fun O=>?_)))
  ·have U:=ltD O hks;obtain⟨s,hs⟩:=aG U;have hs':=aP aK hs;have hln:(((A.take k).map (nW vr)).map aM).length=(A.take k).length:=by rw[ξ,ξ]
   have M:A.take (k+1)=A.take k++[s]:=bQ hs;have hte:(A.take (k+1)).length=(A.take k).length+1:=by rw[M,ψ];rfl
   have hrw:(((A.take k).map (nW vr)).map aM)++[aM (nW vr s)]=((A.take (k+1)).map (nW vr)).map aM:=by rw[M,Af,Af];rfl
   generalize ((A.take k).map (nW vr)).map aM=R at hln hrw ⊢;exact aD (aA (aF (ag [(4,.row k (aK s)),(10,.all)] rfl (agN [] rfl ⟨k+1,U,by dsimp only;omega,sl (he:=⟨rfl,rfl,rfl,rfl,Go.AM.hs_ren (by rw[hte,←hln];rfl) (by rw[hte,←hln];rfl),rfl,trivial⟩) (hh:=⟨⟨_,rfl,Go.AM.Ole.var rfl⟩,⟨_,rfl,Go.AM.Ole.var rfl⟩,⟨_,rfl,.arr⟩,⟨_,rfl,.arrS hrw⟩,trivial⟩)⟩))))
  have hge2:=geD O hks hk2;subst hge2;clear O hk2 hti;refine aH ?_;rw[Al];have hn0:((A.map (nW vr)).map aM).length=A.length:=by rw[ξ,ξ]
  refine AWp.sub (Sub.freeze (id:=501) rfl) ?_;refine AWp.sub (st2:=mk [(1,.one (.vp 1 0)),(3,.one (.hs 500 0 (X.map aK).length (X.map aK).length)),(10,I .i64 (i:Nat)),(11,.one (.vp 11 0)),(12,.one (.c (.sl 5 ((A.map (nW vr)).map aM))))] [(1,.var 30 [.c (.sl 5 (y.map cQ)),.c (.sl 6 (cs.map cX)),.c (.sl 6 (u.map dD)),.c (.sl 33 (bs.map aY))]),(11,.var 87 [.c (.str nm),.c (.int .i64 pl),.c (.str vr),.c (.sl 1 []),.c (.sl 1 (A.map aK)),.c (.sl 9 (ms.map c6))]),(500,.arr 9 1 (X.map aK) 0)]) ?_ ?_
  ·refine Sub.trans ?_ (cv 12 ((A.map (nW vr)).map aM));exact sl
  refine sg rfl (AWp.sub (Sub.own (t:=14) (id:=502) 9 1 rfl rfl) ?_);refine aA (sg rfl (aF (aJ (fun k:Nat=>mk [(1,.one (.vp 1 0)),(3,.one (.hs 500 0 (X.map aK).length (X.map aK).length)),(10,I .i64 (i:Nat)),(11,.one (.vp 11 0)),(12,.one (.c (.sl 5 ((A.map (nW vr)).map aM)))),(14,.one (.hs 502 0 (ms.take k).length (ms.take k).length)),(15,I .i64 (k:Nat))] [(1,.var 30 [.c (.sl 5 (y.map cQ)),.c (.sl 6 (cs.map cX)),.c (.sl 6 (u.map dD)),.c (.sl 33 (bs.map aY))]),(11,.var 87 [.c (.str nm),.c (.int .i64 pl),.c (.str vr),.c (.sl 1 []),.c (.sl 1 (A.map aK)),.c (.sl 9 (ms.map c6))]),(500,.arr 9 1 (X.map aK) 0),(502,.arr 9 1 (((ms.take k).map prM).map aK) 0)]) (fun k=>k≤ms.length) (fun k=>ms.length-k) 0 (Ab _) sl ?_)));intro k hk2;have hti:(ms.take k).length=k:=by rw[Ai];omega
  refine aA (sg rfl (aB rfl (fun O=>?_) (fun O=>?_)))
  ·have U:=ltD O hkm;obtain⟨m,hm⟩:=aG U;have hm':=aP c6 hm;have hmm:=ε hm;obtain⟨hmP,hmn⟩:=hxP m hmm;have hmw:=x9 hmm;have hln:(((ms.take k).map prM).map aK).length=(ms.take k).length:=by rw[ξ,ξ]
   have M:ms.take (k+1)=ms.take k++[m]:=bQ hm;have hte:(ms.take (k+1)).length=(ms.take k).length+1:=by rw[M,ψ];rfl
   have hrw:(((ms.take k).map prM).map aK)++[[.str (m.name++[32,58,32]++uU (mtS m.ty).preds++prT (mtS m.ty).ty)]]=((ms.take (k+1)).map prM).map aK:=by
    have e:prM m=m.name++[32,58,32]++uU (mtS m.ty).preds++prT (mtS m.ty).ty:=by unfold prM nE;simp only[Aj];rfl
    rw[M,Af,Af,←e];rfl
   obtain⟨mn,mp,⟨mv,mq,mt⟩⟩:=m;dsimp only at hmn hmw hm';obtain⟨q0,mq,rfl⟩:∃a r,mq=a::r:=by
    cases mq with
    | nil=>exact absurd rfl hmn
    | cons a r=>exact⟨a,r,rfl⟩
   have hmtp:PT mt:=hmP.t;unfold rR at hmw;have hw1:cP mq+8+tyW mt≤1200000:=by
    have:mn.length+32+(cP mq+8+tyW mt)≤yL ms:=hmw;omega
   have hmnl:mn.length≤1200000:=by omega
   have hmq:(mtS ⟨mv,q0::mq,mt⟩).preds=mq:=rfl;have hmt:(mtS ⟨mv,q0::mq,mt⟩).ty=mt:=rfl;have hmqP:∀p∈mq,PT p.ty:=hmP.p;have hmql:mq.length≤100000:=hmP.l;rw[show(Sg.mk mn mp ⟨mv,q0::mq,mt⟩).name=mn from rfl,show(Sg.mk mn mp ⟨mv,q0::mq,mt⟩).ty=⟨mv,q0::mq,mt⟩ from rfl,hmq,hmt] at hrw;have hc1:=nN mq hmqP hmql (by omega);have hc2:=pU (tn mt) mt hmtp (le_refl _) (by omega);have hl1:=oA hmqP;have hl2:=mQ hmtp;have hnl:(mn++[32,58,32]).length≤1200003:=by rw[ψ];show _+3≤_;omega
   have hnl2:(mn++[32,58,32]++uU mq).length≤4000000:=by rw[ψ];omega
   have hmin:(if((((q0::mq).map aM).length:Nat):Int)<1 then((((q0::mq).map aM).length:Nat):Int) else 1)=1:=by
    rw[η (by rw[ξ,ω];omega)]
   have hq1:1≤((q0::mq).map aM).length:=by rw[ξ,ω];omega
   clear hmP hmn hmq hmt;generalize uU mq=CQ at hc1 hl1 hnl2 hrw;generalize prT mt=PQ at hc2 hl2 hrw;refine aD (aA (aF (sgh [(3,.row k (c6 ⟨mn,mp,⟨mv,q0::mq,mt⟩⟩))] rfl (aC mixed (ak 13 [(4,.row k (c6 ⟨mn,mp,⟨mv,q0::mq,mt⟩⟩))] rfl (k_ (g_ rfl rfl (aXy (r:=1) rfl rfl (by decide) rfl rfl hmin)) ?_))))));refine ak 1 [] rfl (kc hc1 ?_);refine ak 3 [] rfl (kc hc2 ?_);exact ak 4 [(21,.all)] rfl (az (agN [] rfl ⟨k+1,U,by dsimp only;omega,sl (he:=⟨rfl,rfl,rfl,rfl,rfl,Go.AM.hs_ren (by rw[hte,←hln];rfl) (by rw[hte,←hln];rfl),rfl,trivial⟩) (hh:=⟨⟨_,rfl,Go.AM.Ole.var rfl⟩,⟨_,rfl,Go.AM.Ole.var rfl⟩,⟨_,rfl,.arr⟩,⟨_,rfl,.arrS hrw⟩,trivial⟩)⟩))
  have hge2:=geD O hkm hk2;subst hge2;clear O hk2 hti;refine aH ?_;rw[Al];refine AWp.sub (Sub.freeze (id:=502) rfl) ?_;refine AWp.sub (st2:=mk [(1,.one (.vp 1 0)),(3,.one (.hs 500 0 (X.map aK).length (X.map aK).length)),(10,I .i64 (i:Nat)),(11,.one (.vp 11 0)),(12,.one (.c (.sl 5 ((A.map (nW vr)).map aM)))),(14,bU (ms.map prM))] [(1,.var 30 [.c (.sl 5 (y.map cQ)),.c (.sl 6 (cs.map cX)),.c (.sl 6 (u.map dD)),.c (.sl 33 (bs.map aY))]),(11,.var 87 [.c (.str nm),.c (.int .i64 pl),.c (.str vr),.c (.sl 1 []),.c (.sl 1 (A.map aK)),.c (.sl 9 (ms.map c6))]),(500,.arr 9 1 (X.map aK) 0)]) ?_ ?_
  ·refine Sub.trans ?_ (cv 14 ((ms.map prM).map aK));exact sl
  refine aC mixed (ak 2 [] rfl (kc hcx ?_));refine ak 10 [] rfl (kc hbk ?_);exact ak 4 [(15,.all)] rfl (az (agN [] rfl ⟨i+1,hlt,by dsimp only;omega,sl (he:=⟨rfl,Go.AM.hs_ren (by rw[hle];rfl) (by rw[hle];rfl),rfl,trivial⟩) (hh:=⟨⟨_,rfl,Go.AM.Ole.var rfl⟩,⟨_,rfl,.arrS B⟩,trivial⟩)⟩))
 have hge:=geD hb hkc hi;subst hge;clear hb hi;refine aH ?_;rw[Al];refine aA (sg rfl (aF (aJ (fun i:Nat=>mk [(1,.one (.vp 1 0)),(3,.one (.hs 500 0 ((((([]:List Str)++y.map prD)++cs.map prC)++(u.take i).map prI).map aK).length ((((([]:List Str)++y.map prD)++cs.map prC)++(u.take i).map prI).map aK).length)),(17,I .i64 (i:Nat))] [(1,.var 30 [.c (.sl 5 (y.map cQ)),.c (.sl 6 (cs.map cX)),.c (.sl 6 (u.map dD)),.c (.sl 33 (bs.map aY))]),(500,.arr 9 1 ((((([]:List Str)++y.map prD)++cs.map prC)++(u.take i).map prI).map aK) 0)]) (fun i=>i≤u.length) (fun i=>u.length-i) 0 (Ab _) (by rw[Bl,Ca,Ay];exact sl) ?_)));intro i hi;refine aA (sg rfl (aB rfl (fun hb=>?_) (fun hb=>?_)))
 ·have hlt:=ltD hb hki;obtain⟨x,hx⟩:=aG hlt;have hx':=aP dD hx;have hxm:=ε hx;have M:((([]:List Str)++y.map prD)++cs.map prC)++(u.take (i+1)).map prI=(((([]:List Str)++y.map prD)++cs.map prC)++(u.take i).map prI)++[prI x]:=by rw[bQ hx,Af];simp only[Aj,Ar,Ca]
  have hl1:((((([]:List Str)++y.map prD)++cs.map prC)++(u.take i).map prI).map aK).length≤1000:=by
   rw[ξ];simp only[ψ,ξ,Ai,length_nil];omega
  generalize hX:((([]:List Str)++y.map prD)++cs.map prC)++(u.take i).map prI=X at M hl1 ⊢;have B:(X.map aK)++[[.str (prI x)]]=(((([]:List Str)++y.map prD)++cs.map prC)++(u.take (i+1)).map prI).map aK:=by rw[M,Af];rfl
  have hle:((((([]:List Str)++y.map prD)++cs.map prC)++(u.take (i+1)).map prI).map aK).length=(X.map aK).length+1:=by rw[←B,ψ];rfl
  refine aD ?_;have hxW:=hiW x hxm;have hxO:=hiO x hxm;obtain⟨hq,hbP⟩:=hiP x hxm;have hbV:=hiV x hxm;have hpi:=aJ7 hq hbP;have hv1:=hxO.v;have hp1:=hxO.p.1;obtain⟨hb1,hbO⟩:=hxO.b;obtain⟨cl,pl,E,vs,ps,bs2⟩:=x;unfold inW at hxW hpi;dsimp only at hxW hq hbP hbV hbO hpi hv1 hp1 hb1;have hkv:(vs.map aK).length=vs.length:=ξ _;have h4:=oE vs;have h5:=dF (sep:=[32]) (by decide) ([E]++vs);have hj1:=aPv ([E]++vs) (by rw[gU,show kN [E]=E.length+3+0 from rfl];omega);rw[gU,show kN [E]=E.length+3+0 from rfl] at h5;have hc1:=nN ps hq (by omega) (by omega);have hcl:=oA hq;generalize hJ:Lib.join ([E]++vs) [32]=J at h5 hj1;have hbr:=oR J (decide ((0:Int)<((vs.map aK).length:Nat))) (by omega);have hbl:=bS (decide ((0:Int)<((vs.map aK).length:Nat))) J;have he1:decide (0<vs.length)=decide ((0:Int)<((vs.map aK).length:Nat)):=by
   rw[hkv];by_cases h:0<vs.length
   ·rw[θ h,θ (by omega)]
   ·rw[φ h,φ (by omega)]
  have hbd:=aBe bs2 (by omega) hbP hbO hbV (by omega);have hbs:=sP hbP;have hk3:=r6 (dT bs2);have hbk:=sN (dT bs2) (by omega);have hres:prI ⟨cl,pl,E,vs,ps,bs2⟩=a04++uU ps++cl++[32]++brk (decide ((0:Int)<((vs.map aK).length:Nat))) J++[32]++s6 (dT bs2):=by
   unfold prI;dsimp only;rw[he1,hJ]
  rw[hres] at hpi B;clear M hres;generalize uU ps=CX at hc1 hcl hpi B;generalize brk (decide ((0:Int)<((vs.map aK).length:Nat))) J=BJ at hbr hbl hpi B;generalize s6 (dT bs2)=BK at hbk hk3 hpi B;generalize dT bs2=PB at hbd hbk;simp only[ψ,ω,length_nil] at hpi;have hr1:([[C.str E]]:List (List C))++vs.map aK=([E]++vs).map aK:=rfl;have hr2:([[C.str E]]:List (List C)).length+(vs.map aK).length=(([E]++vs).map aK).length:=by rw[←hr1,ψ]
  refine aA (aF (sgh [(3,.row i (dD ⟨cl,pl,E,vs,ps,bs2⟩))] rfl (sg rfl (AWp.sub (Sub.own (t:=19) (id:=503) 9 1 rfl rfl) ?_))));refine sgh [(3,.all)] rfl (AWp.sub (st2:=mk [(1,.one (.vp 1 0)),(3,.one (.hs 500 0 (X.map aK).length (X.map aK).length)),(17,I .i64 (i:Nat)),(18,.one (.vp 18 0)),(19,.one (.hs 503 0 ([[C.str E]]:List (List C)).length ([[C.str E]]:List (List C)).length))] [(1,.var 30 [.c (.sl 5 (y.map cQ)),.c (.sl 6 (cs.map cX)),.c (.sl 6 (u.map dD)),.c (.sl 33 (bs.map aY))]),(18,.var 90 [.c (.str cl),.c (.int .i64 pl),.c (.str E),.c (.sl 1 (vs.map aK)),.c (.sl 5 (ps.map aM)),.c (.sl 33 (bs2.map aY))]),(500,.arr 9 1 (X.map aK) 0),(503,.arr 9 1 [[.str E]] 0)]) sl ?_);refine sg rfl (AWp.sub (Sub.freeze (id:=503) rfl) ?_);refine AWp.sub (st2:=mk [(1,.one (.vp 1 0)),(3,.one (.hs 500 0 (X.map aK).length (X.map aK).length)),(17,I .i64 (i:Nat)),(18,.one (.vp 18 0)),(19,bU ([E]++vs))] [(1,.var 30 [.c (.sl 5 (y.map cQ)),.c (.sl 6 (cs.map cX)),.c (.sl 6 (u.map dD)),.c (.sl 33 (bs.map aY))]),(18,.var 90 [.c (.str cl),.c (.int .i64 pl),.c (.str E),.c (.sl 1 (vs.map aK)),.c (.sl 5 (ps.map aM)),.c (.sl 33 (bs2.map aY))]),(500,.arr 9 1 (X.map aK) 0)]) ?_ ?_
  ·refine Sub.trans ?_ (cv 19 (([E]++vs).map aK));exact sl
  refine aC mixed (ak 3 [] rfl (kc hc1 ?_));refine ak 6 [] rfl (kc hj1 ?_);refine ak 4 [] rfl (kc hbr ?_);refine ak 4 [] rfl (kc hbd ?_);refine kc hbk ?_;exact ak 4 [(23,.all)] rfl (az (agN [] rfl ⟨i+1,hlt,by dsimp only;omega,sl (he:=⟨rfl,Go.AM.hs_ren (by rw[hle];rfl) (by rw[hle];rfl),rfl,trivial⟩) (hh:=⟨⟨_,rfl,Go.AM.Ole.var rfl⟩,⟨_,rfl,.arrS B⟩,trivial⟩)⟩))
 have hge:=geD hb hki hi;subst hge;clear hb hi;refine aH ?_;rw[Al];have hfin:(((([]:List Str)++y.map prD)++cs.map prC)++u.map prI)=y.map prD++cs.map prC++u.map prI:=by rw[Av]
 rw[hfin];have hl1:((y.map prD++cs.map prC++u.map prI).map aK).length≤1000:=by
  rw[ξ];simp only[ψ,ξ];omega
 have hl2:((dT bs).map aK).length≤1000:=by
  have:(prL ⟨y,cs,u,bs⟩).length=(y.map prD++cs.map prC++u.map prI).length+(dT bs).length:=by unfold prL;rw[ψ]
  rw[ξ];omega
 have hr1:((y.map prD++cs.map prC++u.map prI).map aK)++(dT bs).map aK=(prL ⟨y,cs,u,bs⟩).map aK:=by unfold prL;simp only[Af]
 have hr2:((y.map prD++cs.map prC++u.map prI).map aK).length+((dT bs).map aK).length=((prL ⟨y,cs,u,bs⟩).map aK).length:=by rw[←hr1,ψ]
 generalize y.map prD++cs.map prC++u.map prI=X at hl1 hr1 hr2 ⊢;refine sk 3 rfl (kc hcb ?_);refine ak 1 [(4,.fz)] rfl (kc hj ?_);exact kz 1 rfl (aE rtT)
def lx0:LE→Option (List Tk)
 | .ok l=>some (l.map tk0)
 | .error _=>none
def Lxs (s:Str) (us:List Tk):Prop:=∀f at',s.length≤f→lx0 (mD f at' s)=some us
def Lx (a:Str) (ts:List Tk):Prop:=∀b us,Lxs b us→Lxs (a++b) (ts++us)
theorem Lx.nil:Lx [] []:=fun _ _ h=>h
theorem Lx.app {a b:Str}{ts us:List Tk}(h:Lx a ts) (k:Lx b us):Lx (a++b) (ts++us):=fun c vs hc=>by
 rw[Aj,Aj];exact h _ _ (k _ _ hc)
def wC:List Str:=[[40],[41],[123],[125],[59],[44],[92],[124],[58],[95]]
def aUt (t:Tk):Option (List Tk)→Option (List Tk)
 | none=>none
 | some l=>some (t::l)
def aHn:Nat→Str→Option (List Tk)
 | _,[]=>some []
 | 0,_=>none
 | f+1,c::r=>
  if blB c.toNat=true then aHn f r
  else if preB [45,45] (c::r)=true then none
  else match jE (c::r) with
   | .error _=>none
   | .ok (k,t,v)=>if t.length<(c::r).length∨t∈wC then aUt ⟨k,t,v,0⟩ (aHn f ((c::r).drop t.length)) else none
theorem xI (p:Nat→Bool) (b:Str):∀s:Str,cN p s<s.length→cN p (s++b)=cN p s
 | [],h=>absurd h (lt_irrefl 0)
 | c::s,h=>by
  rw[As,cN,cN];rw[cN,ω] at h;split
  ·rename_i hp;rw[ζ hp] at h;rw[xI p b s (by omega)]
  ·rfl
theorem oZ {n:Nat}{s b:Str}(h:n≤s.length):(s++b).take n=s.take n:=Cc h
theorem wV {x s:Str}(b:Str) (h:x.length≤s.length):preB x (s++b)=preB x s:=by
 unfold preB;rw[oZ h,ψ,θ h,θ (by omega)]
theorem aN6:∀x∈uP,x.length≤2:=by decide
theorem aAv {s:Str}(b:Str) (h:2≤s.length):∀l:List Str,(∀x∈l,x.length≤2)→l.find? (fun x=>preB x (s++b))=l.find? (fun x=>preB x s)
 | [],_=>rfl
 | x::l,hl=>by
  have hx:=hl x Bt;rw[List.find?_cons,List.find?_cons,wV b (by omega),aAv b h l fun y hy=>hl y (Bf _ hy)]
theorem aD2 {s:Str}(b:Str) (h:2≤s.length):qL (s++b)=qL s:=by
 unfold qL;rw[aAv b h uP aN6]
theorem aQ7 {c:UInt8}{t:Str}(h:qL [c]=t) (hn:¬t=[]):t=[c]:=by
 unfold qL at h;cases q:uP.find? fun x=>preB x [c] with
 | none=>rw[q] at h;exact absurd h.symm hn
 | some x=>
  rw[q] at h;have:=List.find?_some q;unfold preB at this;rw[π] at this;have h1:=κ this.1;have h2:=κ this.2;subst h
  match x,h1,h2,hn with
  | [d],_,h2,_=>exact h2.symm
  | d::e::y,h1,_,_=>exact absurd h1 (by simp)
theorem wB {c:UInt8}(b:Str) (h:[c]∈wC):qL (c::b)=[c]∧preB [45,45] (c::b)=false∧dgB c.toNat=false∧wiB c.toNat 97 122=false∧wiB c.toNat 65 90=false:=by
 unfold wC at h;simp only[Aq,List.cons.injEq,and_true,not_mem_nil,or_false] at h;rcases h with rfl | rfl | rfl | rfl | rfl | rfl | rfl | rfl | rfl | rfl<;>exact⟨by simp[qL,uP,preB],by simp[preB],by decide,by decide,by decide⟩
theorem aEp {c:UInt8}{r:Str}(b:Str) {k:Int}{t:Str}{v:Int}(h:jE (c::r)=.ok (k,t,v)) (hs:t.length<(c::r).length∨t∈wC):jE (c::(r++b))=.ok (k,t,v):=by
 have hlen:=nI h;have A:∀p:Nat→Bool,p c.toNat=true→t=(c::r).take (cN p (c::r))→(dgB c.toNat=true∨wiB c.toNat 97 122=true∨wiB c.toNat 65 90=true)→cN p (c::r)<(c::r).length:=fun p hp ht hc=>by
  have q:=iF p (c::r);have J:t.length=cN p (c::r):=by rw[ht,Ai];omega
  rcases hs with hs | hs
  ·omega
  ·exfalso;have:∃u,t=c::u:=⟨_,by rw[ht,cN,ζ hp,A3]⟩
   obtain⟨u,rfl⟩:=this;have hu:u=[]:=by
    unfold wC at hs;simp only[Aq,List.cons.injEq,not_mem_nil,or_false] at hs;rcases hs with h | h | h | h | h | h | h | h | h | h<;>exact h.2
   subst hu;obtain⟨_,_,g1,g2,g3⟩:=wB [] hs;rcases hc with hc | hc | hc
   ·rw[g1] at hc;cases hc
   ·rw[g2] at hc;cases hc
   ·rw[g3] at hc;cases hc
 rw[show c::(r++b)=(c::r)++b from rfl];rw[jE] at h;rw[show jE ((c::r)++b)=jE (c::(r++b)) from rfl,jE];rw[show c::(r++b)=(c::r)++b from rfl];by_cases y:dgB c.toNat=true
 ·rw[ζ y] at h ⊢;split at h
  ·cases h
  ·rename_i I;injection h with h;injection h with h1 h;injection h with h2 B;have q:=A dgB y h2.symm (.inl y);rw[xI _ b _ q,oZ (C6 q),η I,B,h2,h1]
 rw[η y] at h ⊢;by_cases hn:wiB c.toNat 97 122=true∨wiB c.toNat 65 90=true
 ·rw[ζ hn] at h ⊢;have E:sgB c.toNat=true:=by
   rcases hn with h | h
   ·have:=aJb c.toNat;rw[h] at this;simpa using this
   ·have:=aJa c.toNat;rw[h] at this;simpa using this
  have ht:t=(c::r).take (cN sgB (c::r)):=by
   unfold pE at h;split at h
   ·cases h
   split at h
   ·cases h;rfl
   split at h
   ·cases h;rfl
   ·cases h;rfl
  have q:=A sgB E ht (.inr hn);unfold pE at h ⊢;rw[xI _ b _ q,oZ (C6 q)];exact h
 rw[η hn] at h ⊢;split at h
 ·cases h
 rename_i hy;injection h with h;injection h with h1 h;injection h with h2 B;have hS:qL ((c::r)++b)=t:=by
  rcases hs with hs | hs
  ·rw[aD2 b (by have:=hlen.1;omega)];exact h2
  ·cases r with
   | nil=>
    have e:=aQ7 h2 (by rw[←h2];exact hy);rw[e] at hs ⊢;exact(wB b hs).1
   | cons d r=>rw[aD2 b (by rw[ω,ω];omega)];exact h2
 rw[hS,η (by rw[←h2];exact hy),h1,B]
theorem aEz (t:Tk) (r:LE):lx0 (xY t r)=aUt (tk0 t) (lx0 r):=by cases r<;>rfl
theorem aCp:∀(f:Nat) (a:Str) (ts:List Tk),aHn f a=some ts→Lx a ts
 | 0,[],ts,h=>by rw[aHn] at h;cases h;exact Lx.nil
 | 0,c::r,ts,h=>by simp[aHn] at h
 | f+1,[],ts,h=>by rw[aHn] at h;cases h;exact Lx.nil
 | f+1,c::r,ts,h=>by
  intro b us hb g at' O;rw[As,ω,ψ] at O;obtain⟨g,rfl⟩:∃k,g=k+1:=⟨g-1,by omega⟩
  rw[aHn] at h;rw[As,mD];by_cases q:blB c.toNat=true
  ·rw[ζ q] at h;have hB:fX (c::(r++b))=1:=by unfold fX;exact ζ q
   rw[hB,ζ (by decide)];exact aCp f r ts h b us hb g _ (by show(r++b).length≤g;rw[ψ];omega)
  rw[η q] at h;split at h
  ·cases h
  rename_i y;cases ho:jE (c::r) with
  | error e=>rw[ho] at h;cases h
  | ok p=>
   obtain⟨k,t,v⟩:=p;rw[ho] at h;dsimp only at h;split at h
   case isFalse=>cases h
   rename_i hs;have A:=aEp b ho hs;obtain⟨aa,u⟩:=nI ho;have B:preB [45,45] (c::(r++b))=false:=by
    by_cases h2:2≤(c::r).length
    ·rw[show c::(r++b)=(c::r)++b from rfl,wV (x:=[45,45]) b h2];simpa using y
    ·have U:r=[]:=by
      cases r with
      | nil=>rfl
      | cons d r=>exact absurd (by rw[ω,ω];omega) h2
     subst U;have ht:t∈wC:=by
      rcases hs with hs | hs
      ·rw[ω,length_nil] at hs;omega
      ·exact hs
     have:t=[c]:=by
      have E:t.length=1:=by rw[ω,length_nil] at u;omega
      match t,E,ho with
      | [d],_,ho=>
       rw[jE] at ho;split at ho
       ·split at ho
        ·cases ho
        ·rename_i Y _;injection ho with ho;injection ho with _ ho;injection ho with ho _;rw[cN,ζ Y,A3] at ho;injection ho with ho _;rw[ho]
       split at ho
       ·rename_i hn;have I:sgB c.toNat=true:=by
         rcases hn with h | h
         ·have:=aJb c.toNat;rw[h] at this;simpa using this
         ·have:=aJa c.toNat;rw[h] at this;simpa using this
        have ht:[d]=[c].take (cN sgB [c]):=by
         unfold pE at ho;split at ho
         ·cases ho
         split at ho
         ·injection ho with ho;injection ho with _ ho;injection ho with ho _;exact ho.symm
         split at ho
         ·injection ho with ho;injection ho with _ ho;injection ho with ho _;exact ho.symm
         ·injection ho with ho;injection ho with _ ho;injection ho with ho _;exact ho.symm
        rw[cN,ζ I,A3] at ht;injection ht with ht _;rw[ht]
       split at ho
       ·cases ho
       rename_i hy;injection ho with ho;injection ho with _ ho;injection ho with ho _;exact aQ7 ho (by simp)
     rw[this] at ht;exact(wB b ht).2.1
   have hB:fX (c::(r++b))=0:=by
    unfold fX;dsimp only;rw[η q,η (by rw[B];exact χ)]
   rw[hB,η (lt_irrefl 0),A];dsimp only;rw[aEz];have J:(c::(r++b)).drop t.length=(c::r).drop t.length++b:=by
    rw[show c::(r++b)=(c::r)++b from rfl,Bp u]
   rw[J];cases hq:aHn f ((c::r).drop t.length) with
   | none=>rw[hq] at h;cases h
   | some M=>
    rw[hq] at h;injection h with h;subst h;rw[ω] at u;rw[aCp f _ M hq b us hb g _ (by rw[ψ,Bi,ω];omega)];rfl
def dlm (b:Str):Prop:=b=[]∨∃d b',b=d::b'∧sgB d.toNat=false
def LxD (a:Str) (ts:List Tk):Prop:=∀b us,dlm b→Lxs b us→Lxs (a++b) (ts++us)
theorem Lx.d {a:Str}{ts:List Tk}(h:Lx a ts):LxD a ts:=fun b us _ k=>h b us k
theorem Lx.appD {a b:Str}{ts us:List Tk}(h:Lx a ts) (k:LxD b us):LxD (a++b) (ts++us):=fun c vs q hc=>by
 rw[Aj,Aj];exact h _ _ (k _ _ q hc)
theorem LxD.app {a b:Str}{ts us:List Tk}(h:LxD a ts) (hb:∃d q,b=d::q∧sgB d.toNat=false) (k:Lx b us):Lx (a++b) (ts++us):=fun c vs hc=>by
 obtain⟨d,q,rfl,u⟩:=hb;rw[Aj,Aj];exact h _ _ (.inr ⟨d,q++c,rfl,u⟩) (k _ _ hc)
theorem LxD.appD {a b:Str}{ts us:List Tk}(h:LxD a ts) (hb:∃d q,b=d::q∧sgB d.toNat=false) (k:LxD b us):LxD (a++b) (ts++us):=fun c vs u hc=>by
 obtain⟨d,q,rfl,y⟩:=hb;rw[Aj,Aj];exact h _ _ (.inr ⟨d,q++c,rfl,y⟩) (k _ _ u hc)
def rG:Nat→Str→Option (List Tk)
 | _,[]=>some []
 | 0,_=>none
 | f+1,c::r=>
  if blB c.toNat=true then rG f r
  else if preB [45,45] (c::r)=true then none
  else match jE (c::r) with
   | .error _=>none
   | .ok (k,t,v)=>if t.length<(c::r).length∨t∈wC∨¬k=4 then aUt ⟨k,t,v,0⟩ (rG f ((c::r).drop t.length)) else none
theorem xH {p:Nat→Bool}(hp:∀c:UInt8,p c.toNat=true→sgB c.toNat=true) {b:Str}(hb:dlm b):∀s:Str,cN p (s++b)=cN p s
 | []=>by
  rw[Av];rcases hb with rfl | ⟨d,u,rfl,q⟩
  ·rfl
  ·show cN p (d::u)=0;rw[cN,η (fun h=>by rw[hp d h] at q;cases q)]
 | c::s=>by rw[As,cN,cN,xH hp hb s]
theorem a2n:∀c:UInt8,dgB c.toNat=true→sgB c.toNat=true:=lS (p:=fun c=>dgB c.toNat=true→sgB c.toNat=true) (by decide+kernel)
theorem aTt (k:Int) (t:Str) (v:Int) (h:jE [45]=.ok (k,t,v)):False:=by
 have:jE [45]=.error 10:=by kernel_rfl
 rw[this] at h;cases h
theorem aKe {c:UInt8}{r:Str}{b:Str}{k:Int}{t:Str}{v:Int}(hb:dlm b) (h:jE (c::r)=.ok (k,t,v)) (hs:t.length<(c::r).length∨t∈wC∨¬k=4):jE (c::(r++b))=.ok (k,t,v):=by
 by_cases hq:t.length<(c::r).length∨t∈wC
 ·exact aEp b h hq
 have u:¬k=4:=by
  rcases hs with hs | hs | hs
  ·exact absurd (.inl hs) hq
  ·exact absurd (.inr hs) hq
  ·exact hs
 rw[jE] at h;rw[show jE (c::(r++b))=_ from jE.eq_2 c (r++b),show c::(r++b)=(c::r)++b from rfl];by_cases q:dgB c.toNat=true
 ·rw[ζ q] at h ⊢;rw[xH a2n hb,oZ (iF _ _)];exact h
 rw[η q] at h ⊢;by_cases hn:wiB c.toNat 97 122=true∨wiB c.toNat 65 90=true
 ·rw[ζ hn] at h ⊢;unfold pE at h ⊢;rw[xH (fun _ h=>h) hb,oZ (iF _ _)];exact h
 rw[η hn] at h;split at h
 ·cases h
 ·injection h with h;injection h with h _;exact absurd h.symm u
theorem aUq {c:UInt8}{r:Str}{k:Int}{t:Str}{v:Int}(h:jE (c::r)=.ok (k,t,v)) (q:¬preB [45,45] (c::r)=true) (b:Str):preB [45,45] (c::(r++b))=false:=by
 by_cases h2:2≤(c::r).length
 ·rw[show c::(r++b)=(c::r)++b from rfl,wV (x:=[45,45]) b h2];simpa using q
 ·have u:r=[]:=by
   cases r with
   | nil=>rfl
   | cons d r=>exact absurd (by rw[ω,ω];omega) h2
  subst u;by_cases hc:c=45
  ·subst hc;exact(aTt k t v h).elim
  ·unfold preB;rw[Bool.and_eq_false_iff];refine .inr (φ fun e=>?_);rw[Av,show([45,45]:Str).length=1+1 from rfl,A3] at e;injection e with e _;exact hc e
theorem aCr:∀(f:Nat) (a:Str) (ts:List Tk),rG f a=some ts→LxD a ts
 | 0,[],ts,h=>by rw[rG] at h;cases h;exact Lx.nil.d
 | 0,c::r,ts,h=>by simp[rG] at h
 | f+1,[],ts,h=>by rw[rG] at h;cases h;exact Lx.nil.d
 | f+1,c::r,ts,h=>by
  intro b us y hb g at' M;rw[As,ω,ψ] at M;obtain⟨g,rfl⟩:∃k,g=k+1:=⟨g-1,by omega⟩
  rw[rG] at h;rw[As,mD];by_cases q:blB c.toNat=true
  ·rw[ζ q] at h;have hB:fX (c::(r++b))=1:=by unfold fX;exact ζ q
   rw[hB,ζ (by decide)];exact aCr f r ts h b us y hb g _ (by show(r++b).length≤g;rw[ψ];omega)
  rw[η q] at h;split at h
  ·cases h
  rename_i A;cases ho:jE (c::r) with
  | error e=>rw[ho] at h;cases h
  | ok p=>
   obtain⟨k,t,v⟩:=p;rw[ho] at h;dsimp only at h;split at h
   case isFalse=>cases h
   rename_i hs;have B:=aKe y ho hs;obtain⟨O,u⟩:=nI ho;have E:=aUq ho A b;have hB:fX (c::(r++b))=0:=by
    unfold fX;dsimp only;rw[η q,η (by rw[E];exact χ)]
   rw[hB,η (lt_irrefl 0),B];dsimp only;rw[aEz];have I:(c::(r++b)).drop t.length=(c::r).drop t.length++b:=by
    rw[show c::(r++b)=(c::r)++b from rfl,Bp u]
   rw[I];cases hq:rG f ((c::r).drop t.length) with
   | none=>rw[hq] at h;cases h
   | some J=>
    rw[hq] at h;injection h with h;subst h;rw[ω] at u;rw[aCr f _ J hq b us y hb g _ (by rw[ψ,Bi,ω];omega)];rfl
def LD (s:Str):Prop:=∃ts,LxD s ts
def LQ (s:Str):Prop:=∃ts,Lx s ts
def dlh (s:Str):Prop:=∃d b,s=d::b∧sgB d.toNat=false
theorem LQ.d {s:Str}(h:LQ s):LD s:=by obtain⟨t,h⟩:=h;exact⟨t,h.d⟩
theorem LQ.app {a b:Str}(h:LQ a) (k:LQ b):LQ (a++b):=by obtain⟨t,h⟩:=h;obtain⟨u,k⟩:=k;exact⟨_,h.app k⟩
theorem LQ.appD {a b:Str}(h:LQ a) (k:LD b):LD (a++b):=by obtain⟨t,h⟩:=h;obtain⟨u,k⟩:=k;exact⟨_,h.appD k⟩
theorem LD.app {a b:Str}(h:LD a) (hb:dlh b) (k:LQ b):LQ (a++b):=by obtain⟨t,h⟩:=h;obtain⟨u,k⟩:=k;exact⟨_,h.app hb k⟩
theorem LD.appD {a b:Str}(h:LD a) (hb:dlh b) (k:LD b):LD (a++b):=by obtain⟨t,h⟩:=h;obtain⟨u,k⟩:=k;exact⟨_,h.appD hb k⟩
theorem LQ.of {s:Str}(h:(aHn s.length s).isSome=true):LQ s:=by
 cases e:aHn s.length s with
 | none=>rw[e] at h;cases h
 | some ts=>exact⟨ts,aCp _ _ _ e⟩
theorem LD.of {s:Str}(h:(rG s.length s).isSome=true):LD s:=by
 cases e:rG s.length s with
 | none=>rw[e] at h;cases h
 | some ts=>exact⟨ts,aCr _ _ _ e⟩
def TX (n:Nat) (l:List Int) (i j:Nat) (s:Str):Prop:=s.length+30*(l.length-j)≤30*(l.length-i)+n∧LD s
def Nx (l:List Int) (i v j:Nat):Prop:=(i<l.length∧j=i+1)∨(j=i∧l.length≤i∧v=0)
theorem Nx.le {l:List Int}{i v j:Nat}(h:Nx l i v j) (hi:i≤l.length):j≤l.length:=by
 rcases h with⟨h1,h2⟩ | ⟨h1,h2,q⟩<;>omega
theorem Nx.pos {l:List Int}{i v j:Nat}(h:Nx l i v j) (hv:¬v=0):i<l.length∧j=i+1:=by
 rcases h with h | ⟨_,_,q⟩
 ·exact h
 ·exact absurd q hv
theorem TX.le {n:Nat}{l:List Int}{i j:Nat}{s:Str}(h:TX n l i j s):s.length≤30*l.length+n:=by
 have:=h.1;omega
end Go.Proofs.YtkhgpgihmphfdaaGreatDoor
