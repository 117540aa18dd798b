/-
  Blanks more between tokens change nothing but places: the law, its row and its card.
-/
import Derived.Test.YtkhgpgihmphfdaaGreatDoorM13
import Derived.Test.YtkhgpgihmphfdaaGreatDoorCards
import Derived.Test.YtkhgpgihmphfdaaGreatDoorTie
import Derived.ProofKit
import Derived.Lib.LaidTab
import Derived.Stop.LaidErr
import Derived.OpenShut
import Derived.LaidMore
import Derived.Lay
import Derived.SevenTiedAt
import Derived.Stop.Joined
open List (all_eq_true append_assoc append_nil length_append length_cons length_map length_nil length_range length_take map_append map_cons map_nil mem_append mem_cons mem_map nil_append take_length take_zero)
open Nat (le_refl le_trans zero_le)
namespace Go.Proofs.YtkhgpgihmphfdaaGreatDoor
open Go Go.AM
set_option maxRecDepth 20000
set_option maxHeartbeats 1000000
theorem pQ {α:Type}(f:α→Nat):∀{l:List α}{a:α},a∈l→f a≤aDv f l
 | b::l,a,h=>by
  rw[aDv];rcases Aq.1 h with rfl | h
  ·omega
  ·have:=pQ f h;omega
theorem aRx (p:Pg) (hP:PgP p) (hO:PgOk 60 p) (O:pgW p≤1200000):bI Tryz.prog 9 [.pa (rG p)] [] (Go.AM.T (aHh p)) []:=by
 have hM:3000000000≤maxLen:=by decide
 have hle:=aT3 hP;have hjl:=eW (sep:=aP8) (by decide) (prL p);have U:∀d∈p.datas,bI Tryz.prog 34 [.pa (iG d)] [] (Go.AM.T (prD d)) []:=fun d hd=>by
  have h1:=hO.d.2 d hd;have h2:=pQ dtW hd;exact aYt d (hP.d d hd) (le_trans h1.v (by decide)) (le_trans h1.c.1 (by decide)) (fun c hc=>le_trans (h1.c.2 c hc).1 (by decide)) (by unfold pgW at O;omega)
 have Y:∀c∈p.classes,bI Tryz.prog 35 [.pa (iT c)] [] (Go.AM.T (prC c)) []:=fun c hc=>by
  have h1:=hO.c.2 c hc;have h2:=pQ clW hc;exact aYu c (hP.c c hc) (le_trans h1.s (by decide)) (le_trans h1.m.1 (by decide)) (by unfold pgW at O;omega)
 have aa:∀x∈p.insts,bI Tryz.prog 36 [.pa (jC x)] [] (Go.AM.T (prI x)) []:=fun x hx=>by
  have h1:=hO.i.2 x hx;have h2:=pQ inW hx;exact aYs x (hP.i x hx).1 (le_trans h1.p.1 (by decide)) (le_trans h1.v (by decide)) (le_trans h1.b.1 (by decide)) (hP.i x hx).2 h1.b.2 (by unfold pgW at O;omega)
 have ab:=aDa p.binds (le_trans hO.b.1 (by decide)) hP.b hO.b.2 (by unfold pgW at O;omega);have hpl:=n6 p.binds;have hlL:(prL p).length≤1000:=by
  unfold prL;rw[ψ,ψ,ψ,η,η,η];have:=hO.d.1;have:=hO.c.1;have:=hO.i.1;have:=hO.b.1;omega
 have hj:=rI (prL p) aP8 (by omega) (by omega);obtain⟨q,cs,r,B⟩:=p;have hd60:q.length≤60:=hO.d.1;have hc60:cs.length≤60:=hO.c.1;have hi60:r.length≤60:=hO.i.1;clear hP hO O hle;dsimp only at U Y aa ab hpl;have ac:(q.map iG).length=q.length:=η _;have ad:(cs.map iT).length=cs.length:=η _;have ae:(r.map jC).length=r.length:=η _;refine bM (n:=55) tok Tryz.func9 rfl rfl rfl ?_;refine sg rfl (sg rfl (AWp.sub (Sub.own (t:=3) (id:=500) 9 1 rfl rfl) ?_));refine AWp.sub (st2:=mk [(1,.one (.vp 1 0)),(3,.one (.hs 500 0 (([]:List Str).map aR).length (([]:List Str).map aR).length))] [(1,.var 30 [.c (.sl 5 (q.map iG)),.c (.sl 6 (cs.map iT)),.c (.sl 6 (r.map jC)),.c (.sl 33 (B.map bL))]),(500,.arr 9 1 (([]:List Str).map aR) 0)]) sl ?_;refine aA (sg rfl (aE (aP (fun i:Nat=>mk [(1,.one (.vp 1 0)),(3,.one (.hs 500 0 ((([]:List Str)++(q.take i).map prD).map aR).length ((([]:List Str)++(q.take i).map prD).map aR).length)),(11,.one (.c (.sl 5 (q.map iG)))),(12,I .i64 ((q.map iG).length:Nat)),(13,I .i64 (i:Nat))] [(1,.var 30 [.c (.sl 5 (q.map iG)),.c (.sl 6 (cs.map iT)),.c (.sl 6 (r.map jC)),.c (.sl 33 (B.map bL))]),(500,.arr 9 1 ((([]:List Str)++(q.take i).map prD).map aR) 0)]) (fun i=>i≤q.length) (fun i=>q.length-i) 0 (Ae _) (by rw[B5,Bz,Bm];exact sl) ?_)));intro i hi;refine sg rfl (aA (aB rfl (fun hb=>?_) (fun hb=>?_)))
 ·have y:=ltD hb ac;obtain⟨x,hx⟩:=aJ y;have af:=b9 iG hx;have J:=U x (Aa hx);have A:([]:List Str)++(q.take (i+1)).map prD=(([]:List Str)++(q.take i).map prD)++[prD x]:=by rw[cU hx,Ah];simp only[Aj,An,Bz]
  have E:((([]:List Str)++(q.take i).map prD).map aR).length≤1000:=by
   rw[η];simp only[ψ,η,Ak,length_nil];omega
  generalize hX:([]:List Str)++(q.take i).map prD=X at A E ⊢;have u:(X.map aR)++[[.str (prD x)]]=(([]:List Str)++(q.take (i+1)).map prD).map aR:=by rw[A,Ah];rfl
  have hle:((([]:List Str)++(q.take (i+1)).map prD).map aR).length=(X.map aR).length+1:=by rw[←u,ψ];rfl
  refine aF (aA (aE (sgh [(0,.row i (iG x))] rfl (aC mixed (ak 2 [] rfl (kc J ?_))))));exact ak 3 [(3,.all)] rfl (az (agN [] rfl ⟨i+1,y,by dsimp only;omega,sl (he:=⟨rfl,Go.AM.hs_ren (by rw[hle];rfl) (by rw[hle];rfl),rfl,rfl,rfl,trivial⟩) (hh:=⟨⟨_,rfl,Go.AM.Ole.var rfl⟩,⟨_,rfl,.arrS u⟩,trivial⟩)⟩))
 have M:=geD hb ac hi;subst M;clear hb hi;refine aS ?_;rw[Aw];refine aA (sg rfl (aE (aP (fun i:Nat=>mk [(1,.one (.vp 1 0)),(3,.one (.hs 500 0 (((([]:List Str)++q.map prD)++(cs.take i).map prC).map aR).length (((([]:List Str)++q.map prD)++(cs.take i).map prC).map aR).length)),(24,.one (.c (.sl 6 (cs.map iT)))),(25,I .i64 ((cs.map iT).length:Nat)),(26,I .i64 (i:Nat))] [(1,.var 30 [.c (.sl 5 (q.map iG)),.c (.sl 6 (cs.map iT)),.c (.sl 6 (r.map jC)),.c (.sl 33 (B.map bL))]),(500,.arr 9 1 (((([]:List Str)++q.map prD)++(cs.take i).map prC).map aR) 0)]) (fun i=>i≤cs.length) (fun i=>cs.length-i) 0 (Ae _) (by rw[B5,Bz,Bm];exact sl) ?_)));intro i hi;refine sg rfl (aA (aB rfl (fun hb=>?_) (fun hb=>?_)))
 ·have y:=ltD hb ad;obtain⟨x,hx⟩:=aJ y;have af:=b9 iT hx;have J:=Y x (Aa hx);have A:(([]:List Str)++q.map prD)++(cs.take (i+1)).map prC=((([]:List Str)++q.map prD)++(cs.take i).map prC)++[prC x]:=by rw[cU hx,Ah];simp only[Aj,An,Bz]
  have E:(((([]:List Str)++q.map prD)++(cs.take i).map prC).map aR).length≤1000:=by
   rw[η];simp only[ψ,η,Ak,length_nil];omega
  generalize hX:(([]:List Str)++q.map prD)++(cs.take i).map prC=X at A E ⊢;have u:(X.map aR)++[[.str (prC x)]]=((([]:List Str)++q.map prD)++(cs.take (i+1)).map prC).map aR:=by rw[A,Ah];rfl
  have hle:(((([]:List Str)++q.map prD)++(cs.take (i+1)).map prC).map aR).length=(X.map aR).length+1:=by rw[←u,ψ];rfl
  refine aF (aA (aE (sgh [(0,.row i (iT x))] rfl (aC mixed (ak 2 [] rfl (kc J ?_))))));exact ak 3 [(3,.all)] rfl (az (agN [] rfl ⟨i+1,y,by dsimp only;omega,sl (he:=⟨rfl,Go.AM.hs_ren (by rw[hle];rfl) (by rw[hle];rfl),rfl,rfl,rfl,trivial⟩) (hh:=⟨⟨_,rfl,Go.AM.Ole.var rfl⟩,⟨_,rfl,.arrS u⟩,trivial⟩)⟩))
 have M:=geD hb ad hi;subst M;clear hb hi;refine aS ?_;rw[Aw];refine aA (sg rfl (aE (aP (fun i:Nat=>mk [(1,.one (.vp 1 0)),(3,.one (.hs 500 0 ((((([]:List Str)++q.map prD)++cs.map prC)++(r.take i).map prI).map aR).length ((((([]:List Str)++q.map prD)++cs.map prC)++(r.take i).map prI).map aR).length)),(37,.one (.c (.sl 6 (r.map jC)))),(38,I .i64 ((r.map jC).length:Nat)),(39,I .i64 (i:Nat))] [(1,.var 30 [.c (.sl 5 (q.map iG)),.c (.sl 6 (cs.map iT)),.c (.sl 6 (r.map jC)),.c (.sl 33 (B.map bL))]),(500,.arr 9 1 ((((([]:List Str)++q.map prD)++cs.map prC)++(r.take i).map prI).map aR) 0)]) (fun i=>i≤r.length) (fun i=>r.length-i) 0 (Ae _) (by rw[B5,Bz,Bm];exact sl) ?_)));intro i hi;refine sg rfl (aA (aB rfl (fun hb=>?_) (fun hb=>?_)))
 ·have y:=ltD hb ae;obtain⟨x,hx⟩:=aJ y;have af:=b9 jC hx;have J:=aa x (Aa hx);have A:((([]:List Str)++q.map prD)++cs.map prC)++(r.take (i+1)).map prI=(((([]:List Str)++q.map prD)++cs.map prC)++(r.take i).map prI)++[prI x]:=by rw[cU hx,Ah];simp only[Aj,An,Bz]
  have E:((((([]:List Str)++q.map prD)++cs.map prC)++(r.take i).map prI).map aR).length≤1000:=by
   rw[η];simp only[ψ,η,Ak,length_nil];omega
  generalize hX:((([]:List Str)++q.map prD)++cs.map prC)++(r.take i).map prI=X at A E ⊢;have u:(X.map aR)++[[.str (prI x)]]=(((([]:List Str)++q.map prD)++cs.map prC)++(r.take (i+1)).map prI).map aR:=by rw[A,Ah];rfl
  have hle:((((([]:List Str)++q.map prD)++cs.map prC)++(r.take (i+1)).map prI).map aR).length=(X.map aR).length+1:=by rw[←u,ψ];rfl
  refine aF (aA (aE (sgh [(0,.row i (jC x))] rfl (aC mixed (ak 2 [] rfl (kc J ?_))))));exact ak 3 [(3,.all)] rfl (az (agN [] rfl ⟨i+1,y,by dsimp only;omega,sl (he:=⟨rfl,Go.AM.hs_ren (by rw[hle];rfl) (by rw[hle];rfl),rfl,rfl,rfl,trivial⟩) (hh:=⟨⟨_,rfl,Go.AM.Ole.var rfl⟩,⟨_,rfl,.arrS u⟩,trivial⟩)⟩))
 have M:=geD hb ae hi;subst M;clear hb hi;refine aS ?_;rw[Aw];have hfin:(((([]:List Str)++q.map prD)++cs.map prC)++r.map prI)=q.map prD++cs.map prC++r.map prI:=by rw[Az]
 rw[hfin];have E:((q.map prD++cs.map prC++r.map prI).map aR).length≤1000:=by
  rw[η];simp only[ψ,η];omega
 have hl2:((fP B).map aR).length≤1000:=by
  have:(prL ⟨q,cs,r,B⟩).length=(q.map prD++cs.map prC++r.map prI).length+(fP B).length:=by unfold prL;rw[ψ]
  rw[η];omega
 have ah:((q.map prD++cs.map prC++r.map prI).map aR)++(fP B).map aR=(prL ⟨q,cs,r,B⟩).map aR:=by unfold prL;simp only[Ah]
 have hr2:((q.map prD++cs.map prC++r.map prI).map aR).length+((fP B).map aR).length=((prL ⟨q,cs,r,B⟩).map aR).length:=by rw[←ah,ψ]
 generalize q.map prD++cs.map prC++r.map prI=X at E ah hr2 ⊢;refine sk 3 rfl (kc ab ?_);refine ak 1 [(4,.fz)] rfl (kc hj ?_);exact kz 1 rfl (aD rtT)
end Go.Proofs.YtkhgpgihmphfdaaGreatDoor
namespace Go.AM
open Go
section
variable {P:Program}{T:TT}{n:Nat}{o:Oper}{st:St}{d:Nat}
theorem aGp {q ty:TypeId}{i:TI}{fs:List (Nat×TypeId)}{x y:Operand}{r u:List C}(J:Tok P T) (hq:aFm P q) (ho:o.op=.binOp .neq q x y ty) (O:o.dst=some d) (M:d<n) (hi:T[q]?=some (some i)) (U:i.k=.st fs)
  (hx:opv st x=some (.pa r)) (hy:opv st y=some (.pa u)) (hs:scalars T 0 fs r u=true):Step P n o st ⟨opr x++opr y,[]⟩ ⟨some (d,some (B (!aFl r u))),[]⟩:=by
 refine Step.value O M fun _ ha _ S μ ac w A=>?_
 have h1:=aI A hx (cS ha).1;have h2:=aI A hy (cS ha).2;simp only[aL] at h1 h2;obtain⟨us,h1,Y⟩:=h1;obtain⟨vs,h2,h4⟩:=h2;obtain⟨fields,hu,I⟩:=(J.get hi).struct U;unfold aFm aFm.check at hq;simp only[hu,Ab,Bk] at hq;obtain⟨⟨q1,q2⟩,q3⟩:=hq;have E:P.fieldsOf q=fields:=by simp[Program.fieldsOf,hu]
 have hn : ∀ f ∈ fields.toList, f.name ≠ "_" := fun f I => by
  have:=(A8.1 q1) f I;simpa using this
 refine⟨.bool (!aFl r u),yY ho h1 h2 ?_ rfl ?_,by simp[aL,aV,Rep]⟩
 ·have hp:(program:Sem Program).run P w=.ok P w:=rfl;simp only[eqGuard];simp[hp,q3]
 ·rw[run_equalIn_struct w 9999 q _ _ (by rw[E,hu]) q2,E];exact oQ J ⟨us⟩ ⟨vs⟩ 9998 w fields.toList 0 r u (by rw[←I];exact hs) hn (by simpa using Y) (by simpa using h4)
end
end Go.AM
namespace Go.Proofs.YtkhgpgihmphfdaaGreatDoor
open Go Go.AM
set_option maxRecDepth 20000
set_option maxHeartbeats 4000000
def aX2:Str:=[102,32,120,32,61,32,103,32,40,120,32,58,32,73,110,116,41]
def aZl:Str:=[92,32,120,32,45,62,32,103,32,40,120,32,58,32,73,110,116,41]
def aSr:Ex:=.mk 5 2 0 [] [.mk 4 6 0 [] [.mk 1 6 0 [103] [] [] [] mT,.mk 8 9 0 [] [.mk 1 9 0 [120] [] [] [] mT] [] [] ⟨[],[],.mk 3 0 [73,110,116] []⟩] [] [] mT] [.mk 2 2 0 [120] []] [] mT
def aZb:Bd:=.mk [102] 0 false mT aSr
theorem aUg:cC aX2=(⟨[],[],[],[aZb]⟩,0,0):=by kernel_rfl
theorem aUf:prE aSr=aZl:=by kernel_rfl
theorem aSq (n:Int) (h:n=0):u9 n:=by unfold u9;omega
theorem SchP.z:SchP mT:=⟨.leaf 0 [] (.inl rfl),fun p hp=>(by cases hp),Ae _⟩
theorem aUh:exP aSr∧oE aSr∧exW aSr≤400000000:=by
 have hs:SchP ⟨[],[],.mk 3 0 [73,110,116] []⟩:=⟨.leaf 3 _ (.inr (.inr rfl)),fun p hp=>(by cases hp),Ae _⟩
 have ho:SchOk ⟨[],[],.mk 3 0 [73,110,116] []⟩:=⟨⟨⟨rfl,rfl⟩,by rw[tn,tns];decide⟩,fun p hp=>(by cases hp),Ae _,Ae _⟩
 refine⟨⟨aSq _ rfl,⟨⟨aSq _ rfl,trivial⟩,trivial⟩,.z,⟨⟨aSq _ rfl,trivial,.z,⟨⟨aSq _ rfl,trivial,.z,trivial,trivial⟩,⟨aSq _ rfl,trivial,hs,⟨⟨aSq _ rfl,trivial,.z,trivial,trivial⟩,trivial⟩,trivial⟩,trivial⟩,trivial⟩,trivial⟩,trivial⟩,?_,by decide⟩;have ar:∀(f:Int) (a b:Nat),(f=1)→(f=4→a=2)∧(f=5∨f=6∨f=8→a=1)∧(f=7→a=b):=fun f a b h=>⟨fun k=>by omega,fun k=>by omega,fun k=>by omega⟩
 exact⟨⟨by decide,by decide,by decide⟩,.z,⟨fun h=>by omega,fun _=>rfl,fun h=>by omega⟩,⟨⟨Ae _,trivial⟩,trivial⟩,⟨⟨⟨by decide,by decide,by decide⟩,.z,⟨fun _=>rfl,fun h=>by omega,fun h=>by omega⟩,trivial,⟨⟨⟨Ae _,Ae _,Ae _⟩,.z,ar 1 _ _ rfl,trivial,trivial,trivial⟩,⟨⟨by decide,by decide,by decide⟩,ho,⟨fun h=>by omega,fun _=>rfl,fun h=>by omega⟩,trivial,⟨⟨⟨Ae _,Ae _,Ae _⟩,.z,ar 1 _ _ rfl,trivial,trivial,trivial⟩,trivial⟩,trivial⟩,trivial⟩,trivial⟩,trivial⟩,trivial⟩
theorem aRg:bI Tryz.prog 19 [] [] (B true) []:=by
 have hp:=iU aX2 (aJe aX2);rw[aUg] at hp;obtain⟨q,r,u⟩:=aUh;have he:=aAh aSr q r u;rw[aUf] at he;refine bM (n:=36) tok Tryz.func19 rfl rfl rfl ?_;refine sg rfl (aA (aC mixed (kc hp ?_)));refine kz 7 rfl (aA (sk 2 rfl (k_ (g_ rfl rfl (aGp tok (by unfold aFm;kernel_rfl) rfl rfl (by decide) (tg rfl) rfl rfl rfl rfl)) ?_)));refine ak 6 [(3,.bv false),(8,.bv false)] rfl (az (aB rfl nofun (fun _=>aF (sgh [(2,.row 0 (bL aZb))] rfl (skh 11 [(3,.bv true),(8,.bv true),(9,.bv true)] rfl (kcG he ?_))))));exact ak 3 [(9,.bv true),(13,.bv true)] rfl (az (aD rtT))
theorem aLk (s:Str):PgOk 60 (cC s).1:=by
 obtain⟨q,hwt,_,_⟩:=lB s;obtain⟨_,h2⟩:=qW (mM hwt (bS s).2.R.length) hwt q;unfold cC gC;split
 ·split
  ·exact h2
  ·exact .z 60
 ·split
  ·exact .z 60
  ·exact .z 60
theorem aYw (n:Int) (hn:i64 n):bI Tryz.prog 21 [I .i64 n] [] (Go.AM.T (oneOf aFj n)) []:=by
 obtain⟨k,q⟩:=Int.eq_ofNat_of_zero_le (cP n (k:=7) (by omega)).1;have hx:=u7 (l:=aFj) (n:=n) (by decide) q;have r:=(cP n (k:=7) (by omega)).2
 have hc:=lQ n 7 hn (by omega);rw[q] at hc;have u:(aFj.map aR).length=7:=rfl;refine bM (n:=8) tok Tryz.func21 rfl rfl rfl ?_;refine sg rfl (skh 2 [(0,.all)] rfl (kc hc ?_));exact ak 3 [(3,.row k (aR (oneOf aFj n)))] rfl (az (aD rtT))
theorem tB (s:Str):bI Tryz.prog 9 [.pa (rG (cC s).1)] [] (Go.AM.T (aHh (cC s).1)) []:=aRx _ (aHa s).1 (aLk s) (aHa s).2
theorem aMp (s t:Str):bI Tryz.prog 23 [.pa (rG (cC s).1),.pa (rG (cC t).1)] [] (B (decide (aHh (cC s).1=aHh (cC t).1))) []:=by
 have h1:=tB s;have h2:=tB t;generalize (cC s).1=p at h1 ⊢;generalize (cC t).1=q at h2 ⊢;refine bM (n:=10) tok Tryz.func23 rfl rfl rfl ?_;refine sg rfl (sk 1 rfl (kc h1 ?_));refine ak 1 [] rfl (kc h2 ?_);exact kz 2 rfl (aD rtT)
def aEw (L:List Tk) (g:Nat→Str):Nat→Str
 | 0=>[]
 | i+1=>aEw L g i++((L[i]?).map (·.text)).getD []++g i
theorem xP (t:Tk) (g:Str):∀(L:List Tk) (gs:List Str),gs.length=L.length→aEx (L++[t]) (gs++[g])=aEx L gs++t.text++g
 | [],[],_=>by show t.text++g++[]=[]++t.text++g;rw[Bm,Az]
 | a::L,b::gs,h=>by
  have:=xP t g L gs (by simpa using h);show a.text++b++aEx (L++[t]) (gs++[g])=a.text++b++aEx L gs++t.text++g;rw[this];simp only[Aj]
 | [],b::gs,h=>by cases h
 | a::L,[],h=>by cases h
theorem aIy (L:List Tk) (g:Nat→Str):∀i,i≤L.length→aEw L g i=aEx (L.take i) ((List.range i).map g)
 | 0,_=>rfl
 | i+1,h=>by
  obtain⟨t,ht⟩:=aJ (l:=L) (k:=i) (by omega);rw[aEw,aIy L g i (by omega),ht,cU ht,List.range_succ,Ah];show _=aEx (L.take i++[t]) ((List.range i).map g++[g i]);rw[xP t (g i) _ _ (by rw[η,length_range,Ak];omega)];rfl
theorem aQp:∀s∈aFj,s.length≤8:=by decide
theorem aC0 {L:List Tk}{g:Nat→Str}(h:∀t∈L,t.text.length≤30000) (q:∀i,(g i).length≤8):∀i,(aEw L g i).length≤30008*i
 | 0=>Ae _
 | i+1=>by
  have h1:=aC0 h q i;have h2:=q i;have r:(((L[i]?).map (·.text)).getD []).length≤30000:=by
   cases hx:L[i]? with
   | none=>exact Ae _
   | some t=>exact h t (Aa hx)
  rw[aEw,ψ,ψ];omega
theorem aNb:∀{L:List Tk}{t:Tk},t∈L→t.text.length≤wt L
 | a::L,t,h=>by
  rw[c9];rcases Aq.1 h with rfl | h
  ·omega
  ·have:=aNb h;omega
theorem aNc:∀L:List Tk,L.length≤wt L
 | []=>Ae _
 | a::L=>by have:=aNc L;rw[c9,κ];omega
theorem xX (l m:List Int) (hl:sB l) (hf:Fits l) (hm:sB m) (_:Fits m):bI Tryz.prog 4 [.one (.c (.sl 1 (l.map lN))),.one (.c (.sl 1 (m.map lN)))] [] (B true) []:=by
 have hM:3000000000≤maxLen:=by decide
 obtain⟨s,hsl,hsd,hmk⟩:=aU4 l hl hf;obtain⟨L,hL⟩:=hsd.lexA hsl;have u:=aJe s;have y:=iU s u;rw[hL] at u;have hwt:wt L≤30000:=by
  have:=(lB s).2.1
  unfold bS at this;rw[hL] at this;exact this
 have hLl:L.length≤30000:=le_trans (aNc L) hwt;have hLt:∀t∈L,t.text.length≤30000:=fun t ht=>le_trans (aNb ht) hwt
 have M:∃g:Nat→Str,(∀i,g i=oneOf aFj ((m[i]?).getD 0)):=⟨_,fun _=>rfl⟩
 obtain⟨g,M⟩:=M;have O:∀i,g i∈aFj:=fun i=>by rw[M];exact n7 (by decide)
 have U:∀i,(g i).length≤8:=fun i=>aQp _ (O i)
 have hcl:=aC0 hLt U;have q:=aIy L g L.length (le_refl _);rw[Aw] at q;have hv:=aRg;have hkL:(L.map aK).length=L.length:=η _;have hkm:(m.map lN).length=m.length:=η _;refine bM (n:=88) tok Tryz.func4 rfl rfl rfl ?_;refine sg rfl (sk 1 rfl (kc hmk ?_));refine kz 1 rfl (sk 1 rfl (kc u ?_));refine kz 6 rfl (sg rfl (aA (sg rfl (aE (aP (fun i:Nat=>mk [(1,.one (.c (.sl 1 (m.map lN)))),(5,Go.AM.T s),(6,.one (.c (.sl 4 (L.map aK)))),(7,.one (.vp 7 0)),(8,Go.AM.T (aEw L g i)),(9,I .i64 (i:Nat))] [(7,.var 33 [.c (.int .i64 0),.c (.int .i64 0)])]) (fun i=>i≤L.length) (fun i=>L.length-i) 0 (Ae _) sl ?_)))));intro i hi;refine aA (sg rfl (aB rfl (fun hb=>?_) (fun hb=>?_)))
 ·have hlt:=ltD hb hkL;obtain⟨t,ht⟩:=aJ hlt;have ht':=b9 aK ht;have htl:=hLt t (Aa ht);have hci:=hcl i;have hci2:(aEw L g i).length≤900240000:=le_trans hci (le_trans (Nat.mul_le_mul_left 30008 (by omega:i≤30000)) (by decide));have hgi:=U i
  have A:=aYw ((m[i]?).getD 0) (by
   cases hx:m[i]? with
   | none=>exact(by unfold i64;decide:i64 0)
   | some x=>exact hm x (Aa hx))
  rw[←M i] at A;have Y:aEw L g (i+1)=aEw L g i++t.text++g i:=by rw[aEw,ht];rfl
  have hctl:(aEw L g i++t.text).length≤900280000:=by rw[ψ];omega
  obtain⟨n,hn⟩:∃n,n=(m[i]?).getD 0:=⟨_,rfl⟩
  rw[←hn] at A;generalize aEw L g i=X at Y hci2 hctl ⊢;generalize g i=G at hgi A Y;refine aF (aA (aE (sg rfl (aA (AWp.cut (mk [(1,.one (.c (.sl 1 (m.map lN)))),(5,Go.AM.T s),(6,.one (.c (.sl 4 (L.map aK)))),(7,.one (.vp 7 0)),(8,Go.AM.T X),(9,I .i64 (i:Nat)),(10,I .i64 n)] [(7,.var 33 [.c (.int .i64 0),.c (.int .i64 0)])]) ?_ ?_)))))
  ·refine sg rfl (aB rfl (fun E=>?_) (fun E=>?_))
   ·have hlt2:=ltD E hkm;obtain⟨x,hx⟩:=aJ hlt2;have hx':=b9 lN hx;rw[hx] at hn;have hn:n=x:=hn;subst hn;exact ag [(2,.row i (lN n))] rfl sl
   ·have aa:m.length≤i:=by rw[hkm] at E;have:=Ai E;omega
    rw[List.getElem?_eq_none aa] at hn;have hn:n=0:=hn;subst hn;exact aF sl
  refine aC mixed (ak 8 [(3,.row i (aK t))] rfl (kc A ?_));exact kz 2 rfl (agN [] rfl ⟨i+1,hlt,by dsimp only;omega,sl (he:=⟨rfl,rfl,rfl,rfl,by rw[Y];rfl,rfl,trivial⟩)⟩)
 have aa:=geD hb hkL hi;subst aa;refine aS ?_;obtain⟨o,ho⟩:∃o,o=aEw L g L.length:=⟨_,rfl⟩
 rw[←ho] at q ⊢;have r:=iU o (aJe o);have J:=aMp s o;have hbl:o.length≤4000→(cC o).2.1=(cC s).2.1∧aHh (cC o).1=aHh (cC s).1:=fun h=>by
  rw[q] at h ⊢
  exact aE4 hL (by rw[η,length_range]) (fun x hx=>by
   obtain⟨k,_,rfl⟩:=mem_map.1 hx
   exact O k) h
 clear q ho hcl M O U hL hmk u;have z1:(!aFl [.int .i64 0,.int .i64 0] [.int .i64 0,.int .i64 0])=false:=rfl;have z2:aFl [.int .i64 0,.int .i64 0] [.int .i64 0,.int .i64 0]=true:=rfl;refine aA (sk 2 rfl (k_ (g_ rfl rfl (aGp tok (by unfold aFm;kernel_rfl) rfl rfl (by decide) (tg rfl) rfl rfl rfl rfl)) ?_));refine ak 5 [(3,.bv false),(7,.bv false)] rfl (az ?_);by_cases h4:4000<o.length
 ·have d4:decide ((4000:Int)<(o.length:Nat))=true:=χ (by omega);refine aB rfl (fun _=>sk 2 rfl (k_ (g_ rfl rfl (aGq tok (by unfold aFm;kernel_rfl) rfl rfl (by decide) (tg rfl) rfl rfl rfl rfl)) ?_)) (fun hb=>Bool.noConfusion (hb.symm.trans d4));refine ak 1 [(3,.bv true)] rfl (kcG hv ?_);exact ak 2 [(3,.bv true),(5,.bv true)] rfl (az (aD rtT))
 have d4:decide ((4000:Int)<(o.length:Nat))=false:=φ (by omega);obtain⟨q1,q2⟩:=hbl (by omega);rw[q2,χ rfl] at J;rw[q1] at r;generalize (cC s).2.1=e at y r;generalize (cC s).2.2=e1 at y;generalize (cC o).2.2=e2 at r;generalize (cC s).1=p1 at y J;generalize (cC o).1=p2 at r J;have de:decide (e=e)=true:=χ rfl;refine aB rfl (fun hb=>Bool.noConfusion (hb.symm.trans d4)) (fun _=>aF (sk 1 rfl (kc y ?_)));refine kz 7 rfl (sk 1 rfl (kc r ?_));refine kz 7 rfl ?_;by_cases h0:e=0
 ·subst h0;refine skh 12 [(5,.bv true),(9,.bv false)] rfl (kcG J ?_);refine ak 3 [(5,.bv true),(9,.bv false),(13,.bv false),(14,.bv true),(15,.bv true)] rfl (kcG hv ?_);exact ak 2 [(15,.bv true),(17,.bv true)] rfl (az (aD rtT))
 ·have d0:(!decide (e=0))=true:=by rw[φ h0];rfl
  refine skh 16 [(5,.bv true),(9,.bv true),(13,.bv true),(14,.bv true),(15,.bv true)] rfl (kcG hv ?_);exact ak 2 [(15,.bv true),(17,.bv true)] rfl (az (aD rtT))
end Go.Proofs.YtkhgpgihmphfdaaGreatDoor
namespace Go.Proofs.YtkhgpgihmphfdaaGreatDoor
open Go Go.ChangeShapes Go.WideShapes Go.ChangeAt Go.RowKit Go.AM
theorem Tryz.own:ownKnob Tryz.prog.godebug=none:=by kernel_rfl
theorem Tryz.laidOut:laidOutB Tryz.prog=true:=by kernel_rfl
theorem aKr:Rows.laid_internal_strconv_uint64pow10 (H:=Unit)=Lib.tabData .u64 Lib.pow10Tab:=by kernel_rfl
theorem aS7 {W:World}(h:laidMetH Tryz.prog Rows.readBlanksRow.laid W):aM7 W:=by
 rw [MakeChecks.laidMetH_plain _ _ _ (by kernel_rfl)] at h;have q := laidMet.tail (laidMet.tail h);rw [aKr] at q;have ht := Lib.tabIs_of_head (g := 1) (t := 242) (e := 222) (n := 20) (by kernel_rfl) (by kernel_rfl) (by kernel_rfl) (by kernel_rfl) (by kernel_rfl) (by kernel_rfl) q;intro g r;cases r;unfold Lib.TabIs World.var? at ht;rw [show Tryz.prog.globalNamed "internal/strconv.uint64pow10" = some 1 by kernel_rfl] at ht;simp only [B7] at ht;split at ht
 ·rename_i cs t u hq;simp only[Option.some.injEq] at ht;subst ht;exact⟨bY hq,t,u,hq⟩
 ·cases ht
set_option maxRecDepth 100000 in
theorem o7 (os:Os) (started:os.Started) (H:Type) (enc:TypeId×Value→H):
  ReturnsInHanded {} Tryz.checked os 4 .any (fun w args=>(Rows.readBlanksSpec.pre enc Tryz.prog Tryz.f4 Rows.readBlanksRow.domain false w args∧laidMetH Tryz.prog Rows.readBlanksRow.laid w)∧sizedMet enc Tryz.prog Tryz.f4 (OpenSpec.ofChange Rows.readBlanksSpec) false w args)
   (Rows.readBlanksSpec.post enc Tryz.prog Tryz.f4 false true false false):=by
 refine returnsInHanded_of_change_and (C:=Tryz.checked) (X:=fun w _=>laidMetH Tryz.prog Rows.readBlanksRow.laid w) (fun _ _ _ hh h=>h.of_heap hh) Tryz.own started (by kernel_rfl) Tryz.func4
  (ChangeSpec.witness_shaped (enc:=enc) (C:=Tryz.checked) (os:=os) (X:=fun w _=>laidMetH Tryz.prog Rows.readBlanksRow.laid w) false (World.laidAll Tryz.prog os Rows.readBlanksRow.laid) #[.slice none 0 0,.slice none 0 0] 8 (World.laidAll_os _ _ _)
   (World.shaped_of_ZipB (by kernel_rfl) (by kernel_rfl)) (by kernel_rfl) (by kernel_rfl) (by kernel_rfl)
   (by rw[MakeChecks.laidMetH_plain _ _ _ (by kernel_rfl)];exact laidMet_laidAll _ (by kernel_rfl) (by kernel_rfl))) ?_
 intro W base args ds gs before u Y hcnd hwt hL _
 have r:∀(j:Nat) t v,Tryz.f4.params[j]?=some t→args[j]?=some v→Value.okWide Tryz.prog W .any base t v:=u
 have y:=Y
 obtain⟨p,q,M,hV,rfl,hfz,hnd⟩:=Y
 have hA:DataW.TrodAll enc Tryz.prog W 0 (fun _=>true) true Tryz.f4.params.toList args.toList ds p:=M
 rw[Tryz.params4] at hA r
 obtain⟨v0,v1,d0,d1,p0,p1,rfl,rfl,rfl,h0,h1⟩:=trodAll_two hA
 obtain⟨rfl,rfl⟩:=trodVars_none hV
 obtain⟨l0,I,hr0,xl0,yl0,hd0⟩:=sO Tryz.underlying22 Tryz.underlying3 (by kernel_rfl) (r 0 22 v0 rfl rfl) h0
 obtain⟨l1,J,hr1,xl1,yl1,hd1⟩:=sO Tryz.underlying22 Tryz.underlying3 (by kernel_rfl) (r 1 22 v1 rfl rfl) h1
 clear M u
 simp only[Bm] at y
 have O:∀x∈p0,x.block<W.heap.size:=fun x hx=>by simpa using y.lt x (A2.2 (.inl hx))
 have U:∀x∈p1,x.block<W.heap.size:=fun x hx=>by simpa using y.lt x (A2.2 (.inr (hx)))
 have A:(DataW.weightsEach Tryz.prog (Tryz.f4.params.toList++Rows.readBlanksSpec.plain.varTypes Tryz.prog) ([d0,d1]++[])).all (· ≤reachBytes)=true:=hwt
 have hf0:Fits l0:=by
  unfold Fits
  rcases hd0 with⟨_,B⟩ | ⟨rfl,B⟩
  ·rw[B];simp
  ·have:=sized_slice A (j:=0) (t:=22) (e:=3) rfl rfl Tryz.underlying22
   rw[show Tryz.prog.bytesOf 3=8 by kernel_rfl] at this
   have hb:=reachBytes_lt
   omega
 have hf1:Fits l1:=by
  unfold Fits
  rcases hd1 with⟨_,B⟩ | ⟨rfl,B⟩
  ·rw[B];simp
  ·have:=sized_slice A (j:=1) (t:=22) (e:=3) rfl rfl Tryz.underlying22
   rw[show Tryz.prog.bytesOf 3=8 by kernel_rfl] at this
   have hb:=reachBytes_lt
   omega
 refine(aH7 (xX l0 l1 hr0 hf0 hr1 hf1) W (vals:=[v0,v1]) ⟨_,_,rfl,I,⟨_,_,rfl,J,rfl⟩⟩ (ht:=aS7 hL)).mono fun e W' ⟨v,S,μ,he,E,hv⟩=>?_
 subst he
 rw[aR2 hv]
 have hp0:=Below.trod Tryz.laidOut (by kernel_rfl) (ω (by kernel_rfl)) h0 E O
 have hp1:=Below.trod Tryz.laidOut (by kernel_rfl) (ω (by kernel_rfl)) h1 E U
 exact⟨_,rfl,⟨_,_,_,[],_,[],y,trodAll_mk1 (shut_bool Tryz.underlying4 true),trodAll_mk2 hp0 hp1,rfl,E.frame _,fun h=>by cases h⟩⟩
theorem pJ:Rows.ReadBlanksSaid:=
 OpenClaim.holds_of_wide 4 Tryz.f4 rfl rfl rfl rfl rfl rfl rfl ⟨rfl,rfl,rfl,rfl,rfl⟩ rfl rfl rfl rfl rfl (by kernel_rfl) Tryz.func4 (by kernel_rfl)
  (ω (by kernel_rfl)) (by unfold Func.isWrapper;first | (rw[ξ (by decide+kernel)];kernel_rfl) | (rw[ζ (by decide+kernel)];exact⟨rfl,rfl⟩))
  (fun os started H enc _=>o7 os started H enc)
theorem readBlanks_card_holds:Rows.ReadBlanksCardSaid:=
 Claim7.holds_tied_plain_at .later [] [.data, .data, .data] true (true, "cd3349e141e5a75caf813c49d4eb07cfe558215011ea3d90000988d0b3c3d7d9") true pJ (fun _ h => by cases h) (by kernel_rfl) (fun _ h => by cases h) readBlanks_row_tie rfl ⟨rfl, rfl⟩ (by kernel_rfl) rfl
  (fun f fn y r=>by
   obtain rfl : f = 4 := Option.some.inj ((show Tryz.prog.funcNamed "fugue/fuguelaw06.ReadBlanks" = some 4 by kernel_rfl).symm.trans y) |>.symm;obtain rfl : fn = Tryz.f4 := (Option.some.inj (Tryz.func4.symm.trans r)).symm
   exact⟨by kernel_rfl,fun j t ht=>by
    rw[Tryz.params4] at ht;have hm:t∈[22]:=by
     have:=Array.mem_of_getElem? ht;simp at this;simp
     first | omega | (rcases this with h | h | h<;>simp[h])
    have q:([22].all fun u=>!Tryz.prog.wantsStandIn u)=true:=by kernel_rfl
    exact(show Tryz.prog.wantsStandIn t=false by simpa using A8.1 q t hm)⟩)
  (by kernel_rfl)
end Go.Proofs.YtkhgpgihmphfdaaGreatDoor
