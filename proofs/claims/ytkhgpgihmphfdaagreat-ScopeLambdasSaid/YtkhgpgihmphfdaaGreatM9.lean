/-
  Texts Rd26 to Rd39 in one.
-/
import Derived.Test.YtkhgpgihmphfdaaGreatM8
open List (append_nil dropWhile_cons drop_eq_getElem_cons drop_eq_nil_of_le drop_length drop_zero length_append length_cons length_map length_nil length_pos_iff length_set length_singleton length_tail length_take map_append map_set mem_append mem_cons mem_cons_of_mem mem_cons_self mem_singleton takeWhile_cons take_add_one take_append_drop take_length)
open Nat (le_of_lt le_refl le_trans lt_of_le_of_lt lt_of_lt_of_le lt_succ_self mul_le_mul_right zero_le)
namespace Go.Proofs.YtkhgpgihmphfdaaGreat
open Go Go.AM
set_option maxRecDepth 20000
set_option maxHeartbeats 4000000
theorem kP {L:List Tk}{z:Z}(h:ZA L z):cL (bP cC z).2=cL z∧((bP cC z).1=false→(bP cC z).2=z∧cL z=z)∧((bP cC z).1=true→(bP cC z).2.R.length<z.R.length):=by
 obtain⟨R,e,p⟩:=z;obtain⟨t,R,rfl⟩:=h.e.ne;unfold bP;split
 ·rename_i hc;have g:isK cC t=true:=hc.2;refine⟨?_,fun e=>Bool.noConfusion e,fun _=>by show R.length<(t::R).length;rw[Aa];omega⟩;unfold cL;have he:e=0:=hc.1;rw[θ he,θ he];show Z.mk (R.dropWhile _) _ _=Z.mk ((t::R).dropWhile _) _ _;rw[B7,θ g]
 ·rename_i hc;refine⟨rfl,fun _=>⟨rfl,?_⟩,fun e=>Bool.noConfusion e⟩;unfold cL;split
  ·rename_i he;have g:¬isK cC t=true:=fun g=>hc ⟨he,g⟩
   rw[show(Z.mk (t::R) e p).R.dropWhile (isK cC)=t::R from by show(t::R).dropWhile _=_;rw[B7,ξ g]]
  ·rfl
theorem aG7 {L:List Tk}{z:Z}(h:ZA L z) (s:Str) (n:Nat) (hnl:n≤4001):aV Tryz.prog 81 [xP,Go.AM.T s,I .i64 (n:Nat)] [(700,zO L z)] (B (bI s n z).1) [(700,zO L (bI s n z).2)]:=by
 have ho:=iG L z;have hi:=aKy h cC;have hs:=aG3 h s;have hn:=fP h;have hf:=eK L z 12 (b4 z).pl;have M:=h.moreA s n;have g:∀y st,ZA L y→Sub (keys [(700,zO L z)]) (mk [(0,xP),(1,Go.AM.T s),(2,I .i64 (n:Nat))] [(700,zO L y)]) st→moreA s n z=y→
   AWp none Tryz.prog 48 (keys [(700,zO L z)]) (jI (jI (Tryz.f81.body.getD .skip))) st (fun ex st=>(ex=.normal∨ex=.ret)∧Fin tr.flat Tryz.f81 st [(700,zO L z)] (B (bI s n z).1) [(700,zO L (bI s n z).2)]):=fun y st h1 Y aa=>by
  refine AWp.sub Y ?_;unfold bI;rw[aa];refine aA (aE (aL (fun q:Z=>mk [(0,xP),(1,Go.AM.T s),(2,I .i64 (n:Nat))] [(700,zO L q)]) (fun q=>ZA L q∧cL y=cL q) (fun q=>q.R.length) y ⟨h1,rfl⟩ sl ?_));rintro q ⟨h2,e2⟩;have hm:=mM h2 cC;obtain⟨m1,U,m3⟩:=kP h2;refine aA (sk 1 rfl (kc hm ?_));refine az ?_;have O:=h2.may cC;generalize bP cC q=m at m1 U m3 O ⊢;obtain⟨b,z3⟩:=m;refine aB rfl (fun hb=>?_) (fun hb=>?_)
  ·have hb:b=true:=hb;exact aD (aE (aD ⟨z3,⟨O,e2.trans m1.symm⟩,m3 hb,sl⟩))
  ·have hb:b=false:=hb;have e3:cL y=z3:=by
    dsimp only at U;obtain⟨g1,g2⟩:=U hb;rw[e2,g2,g1]
   rw[e3];have h3:ZA L z3:=O;have A:=iG L z3;have hs3:=aG3 h3 s;have hn3:=fP h3;have hl3:=yI L z3 (n+1) 60 (b4 z3).pl;refine aG ?_;by_cases E:z3.e=0
   case neg=>
    rw[θ (.inl E)];rw[ψ E] at A;refine aA (sk 1 rfl (kc A ?_));exact ak 6 [(3,.bv true),(7,.bv true)] rfl (az (aB rfl (fun _=>sg rfl (aF rtT)) (fun hb=>absurd hb (by decide))))
   rw[φ E] at A;refine aA (sk 1 rfl (kc A ?_));refine ak 4 [(3,.bv false)] rfl (kcG hs3 ?_);refine ak 1 [(3,.bv false),(7,.bv false)] rfl (az ?_);cases u:dH s z3 with
   | true=>
    rw[θ (.inr rfl)];exact aB rfl (fun _=>sg rfl (aF rtT)) (fun hb=>absurd hb (by decide))
   | false=>
    rw[ξ (by rintro(h | h);exact h E;cases h)];refine aB rfl (fun hb=>absurd hb (by decide)) (fun _=>aD (aA (aC mixed (akN 4 [] rfl (kc hn3 ?_)))));refine ak 1 [] rfl (kc hl3 ?_);refine az ?_;have ho4:=iG L (cI (n+1) 60 (b4 z3).pl z3);refine sk 1 rfl (kc ho4 ?_);exact kz 1 rfl (aF rtT)
 have hfz:=h.fail 12 (b4 z).pl;refine bF (n:=48) tok Tryz.func81 rfl rfl rfl ?_;refine sg rfl ?_;unfold moreA at M g;by_cases h0:0<n
 case neg=>
  have d0:decide ((0:Int)<(n:Int))=false:=ψ (by omega);rw[ξ (fun h=>h0 h.1)] at M g;exact aA (sgh [(2,.bv false),(5,.bv false),(6,.bv false),(10,.bv false),(11,.bv false),(16,.bv false)] rfl (aB rfl (fun hb=>absurd hb (by decide)) (fun _=>aD (g z _ h sl rfl))))
 have d0:decide ((0:Int)<(n:Int))=true:=φ (by omega);by_cases he:z.e=0
 case neg=>
  rw[ξ (fun h=>he h.2.1)] at M g;rw[ψ he] at ho;refine aA (skh 4 [(2,.bv true)] rfl (kcG ho ?_));exact ak 12 [(2,.bv true),(5,.bv true),(6,.bv false),(10,.bv false),(11,.bv false),(16,.bv false)] rfl (az (aB rfl (fun hb=>absurd hb (by decide)) (fun _=>aD (g z _ h sl rfl))))
 rw[φ he] at ho;cases J:isZ cC z with
 | true=>
  rw[ξ (fun h=>by rw[J] at h;cases h.2.2.1)] at M g;rw[J] at hi;refine aA (skh 4 [(2,.bv true)] rfl (kcG ho ?_));refine ak 3 [(2,.bv true),(5,.bv true),(6,.bv true)] rfl (kcG hi ?_);exact ak 9 [(6,.bv true),(10,.bv true),(11,.bv false),(16,.bv false)] rfl (az (aB rfl (fun hb=>absurd hb (by decide)) (fun _=>aD (g z _ h sl rfl))))
 | false=>
 rw[J] at hi;cases u:dH s z with
 | true=>
  rw[ξ (fun h=>by rw[u] at h;cases h.2.2.2)] at M g;rw[u] at hs;refine aA (skh 4 [(2,.bv true)] rfl (kcG ho ?_));refine ak 3 [(2,.bv true),(5,.bv true),(6,.bv true)] rfl (kcG hi ?_);refine ak 5 [(6,.bv true),(10,.bv true),(11,.bv true)] rfl (kcG hs ?_);exact ak 2 [(11,.bv true),(16,.bv true)] rfl (az (aB rfl (fun hb=>absurd hb (by decide)) (fun _=>aD (g z _ h sl rfl))))
 | false=>
  rw[θ ⟨h0,he,J,u⟩] at M g;rw[u] at hs;refine aA (skh 4 [(2,.bv true)] rfl (kcG ho ?_));refine ak 3 [(2,.bv true),(5,.bv true),(6,.bv true)] rfl (kcG hi ?_);refine ak 5 [(6,.bv true),(10,.bv true),(11,.bv true)] rfl (kcG hs ?_);refine ak 2 [(11,.bv true),(16,.bv true)] rfl (az (aB rfl (fun _=>aC mixed (ak 2 [] rfl (kc hn ?_))) (fun hb=>absurd hb (by decide))));refine ak 1 [] rfl (kc hf ?_);exact az (g _ _ hfz sl rfl)
theorem ZA.len {L:List Tk}{z:Z}(h:ZA L z):z.R.length≤4001:=by
 have h1:=h.lt;have h2:=h.l;omega
theorem aA6 {L:List Tk}{z:Z}(h:ZA L z):aV Tryz.prog 77 [xP] [(700,zO L z)] (.one (.c (.sl 4 ((aZ z).1.map aI)))) [(700,zO L (aZ z).2)]:=by
 refine bF (n:=18) tok Tryz.func77 rfl rfl rfl ?_;refine sg rfl (sg rfl (AWp.sub (Sub.own (t:=3) (id:=500) 85 4 rfl rfl) ?_));refine aA (aE (aL (fun q:List Tk×Z=>mk [(0,xP),(3,.one (.hs 500 0 q.1.length q.1.length))] [(700,zO L q.2),(500,.arr 85 4 (q.1.map aI) 0)]) (fun q=>ZA L q.2∧q.1.length+q.2.R.length≤4001∧q.1++(aZ q.2).1=(aZ z).1∧(aZ q.2).2=(aZ z).2) (fun q=>q.2.R.length) ([],z) ⟨h,by dsimp only;have:=h.len;rw[length_nil];omega,rfl,rfl⟩ sl ?_));rintro⟨out,J⟩ ⟨g,hlen,E,I⟩;dsimp only at g hlen E I ⊢;rw[←E,←I];clear E I;have hout:(out.map aI).length=out.length:=χ _;have ho:=iG L J;have hn:=fP g;have hw:=aGq g 1 (by decide);obtain⟨R,e,p⟩:=J;obtain⟨t,R,rfl⟩:=g.e.ne;by_cases he:e=0
 case neg=>
  rw[show decide ((Z.mk (t::R) e p).e=0)=false from ψ he] at ho;refine aA (sk 1 rfl (kc ho ?_));refine ak 6 [(2,.bv false),(7,.bv false)] rfl (az (aB rfl (fun hb=>absurd hb (by decide)) (fun _=>aG (AWp.sub (Sub.freeze (id:=500) rfl) ?_))));refine sg rfl ?_;unfold aZ;rw[ξ he,A0];exact aF (rtH (hsz:=hout.symm) (hlen:=hout.symm))
 rw[show decide ((Z.mk (t::R) e p).e=0)=true from φ he] at ho;have B:b4 (Z.mk (t::R) e p)=t:=rfl;rw[B] at hn;refine aA (sk 1 rfl (kc ho ?_));refine ak 2 [(2,.bv true)] rfl (kcG hn ?_);refine ak 3 [(2,.bv true),(7,.bv true)] rfl (az (aB rfl (fun hb=>?_) (fun hb=>?_)))
 ·have u:t.kind=1:=κ hb;have hl:qF t=true:=hb;have U:b5 1 (Z.mk (t::R) e p)=(t,⟨R,e,p⟩):=by unfold b5;rw[θ ⟨he,u⟩];rfl
  rw[U] at hw;have h2:ZA L ⟨R,e,p⟩:=(g.tl (by rw[B,u];decide) e p).1
  have M:aZ ⟨t::R,e,p⟩=(t::(aZ ⟨R,e,p⟩).1,(aZ ⟨R,e,p⟩).2):=by
   unfold aZ;rw[θ he,θ he];show((t::R).takeWhile qF,Z.mk ((t::R).dropWhile qF) _ _)=_;rw[takeWhile_cons,θ hl,B7,θ hl]
  have O:out.length+(R.length+1)≤4001:=hlen;refine aD (aE (aC mixed (ak 2 [] rfl (kc hw ?_))));refine ak 3 [(3,.all)] rfl (az ?_);have A:out.map aI++[aI t]=(out++[t]).map aI:=by rw[Ai];rfl
  have y:(out++[t]).length=out.length+1:=by rw[η];rfl
  refine⟨(out++[t],⟨R,e,p⟩),⟨h2,by dsimp only;rw[y];omega,by rw[M];simp,by rw[M]⟩,B5 _,?_⟩;exact sl (he:=⟨rfl,Go.AM.hs_ren (by rw[y,←hout];rfl) (by rw[y,←hout];rfl),trivial⟩) (hh:=⟨⟨_,rfl,.var rfl⟩,⟨_,rfl,.arrS A⟩,trivial⟩)
 ·have u:¬qF t=true:=fun h=>by rw[show qF t=false from hb] at h;cases h
  refine aG (AWp.sub (Sub.freeze (id:=500) rfl) ?_);refine sg rfl ?_;unfold aZ;rw[θ he];dsimp only;rw[takeWhile_cons,ξ u,A0,B7,ξ u];exact aF (rtH (hsz:=hout.symm) (hlen:=hout.symm))
structure Cn where
 name:Str
 pl:Int
 fields:List Ty
structure Dt where
 name:Str
 pl:Int
 vars:List Str
 cons:List Cn
def yB (c:Cn):List C:=[.str c.name,.int .i64 c.pl,.sl 4 (c.fields.map cF)]
def sT (d:Dt):List C:=[.str d.name,.int .i64 d.pl,.sl 1 (d.vars.map aX),.sl 1 [],.sl 3 (d.cons.map yB)]
def eqS:Str:=[61]
def aDb:Str:=[124]
def aUh (z:Z):Bool:=decide ((b4 z).kind=1) || (decide ((b4 z).kind=2) || isZ cE z)
def atZ (z:Z):TR→Ty×Z
 | .ok (x,R')=>(x,⟨R',z.e,z.p⟩)
 | .error (e,p)=>(zTy,⟨z.R,e,p⟩)
def gR (z:Z):Ty×Z:=atZ z (cM (3*z.R.length) 0 z.R)
def cN:Nat→List Ty→Z→List Ty×Z
 | 0,out,z=>(out,z)
 | f+1,out,z=>if z.e=0∧aUh z=true then cN f (out++[(gR z).1]) (gR z).2 else(out,z)
def sY (z:Z):Cn×Z:=
 (⟨(b5 2 z).1.text,(b5 2 z).1.pl,(cN ((b5 2 z).2.R.length+1) [] (b5 2 z).2).1⟩,
  cI (cN ((b5 2 z).2.R.length+1) [] (b5 2 z).2).1.length 8 (b5 2 z).1.pl (cN ((b5 2 z).2.R.length+1) [] (b5 2 z).2).2)
def mH:Nat→Int→List Cn→Z→List Cn×Z
 | 0,_,out,z=>(out,z)
 | f+1,a,out,z=>
  if(bP aDb (cI (out++[(sY z).1]).length 16 a (sY z).2)).1=true then mH f a (out++[(sY z).1]) (bP aDb (cI (out++[(sY z).1]).length 16 a (sY z).2)).2
  else(out++[(sY z).1],(bP aDb (cI (out++[(sY z).1]).length 16 a (sY z).2)).2)
def lM (z:Z):Tk×List Tk×Z:=((b5 2 z).1,(aZ (b5 2 z).2).1,aQ eqS (cI (aZ (b5 2 z).2).1.length 8 (b5 2 z).1.pl (aZ (b5 2 z).2).2))
def lN (h:Tk×List Tk×Z):List Cn×Z:=if h.2.2.e=0 then mH (h.2.2.R.length+1) h.1.pl [] h.2.2 else([],h.2.2)
def oA (z:Z):Dt×Z:=(⟨(lM z).1.text,(lM z).1.pl,(lM z).2.1.map (·.text),(lN (lM z)).1⟩,(lN (lM z)).2)
def Ze (z z':Z):Prop:=z'.R.length≤z.R.length
theorem Ze.refl (z:Z):Ze z z:=le_refl _
theorem Ze.trans {a b c:Z}(h:Ze a b) (k:Ze b c):Ze a c:=le_trans k h
theorem Ze.fail (e p:Int) (z:Z):Ze z (bR e p z):=by unfold Ze;rw[nE];exact le_refl _
theorem Ze.may (s:Str) (z:Z):Ze z (bP s z).2:=by
 unfold Ze bP;split
 ·show z.R.tail.length≤_;rw[length_tail];omega
 ·exact le_refl _
theorem Ze.need (s:Str) (z:Z):Ze z (aQ s z):=by
 unfold aQ;split
 ·exact Ze.may s z
 ·exact Ze.fail _ _ z
theorem Ze.word (k:Int) (z:Z):Ze z (b5 k z).2:=by
 unfold b5;split
 ·show z.R.tail.length≤_;rw[length_tail];omega
 ·exact Ze.fail _ _ z
theorem Ze.long (n g:Nat) (a:Int) (z:Z):Ze z (cI n g a z):=by
 unfold cI;split
 ·exact Ze.fail _ _ z
 ·exact Ze.refl z
theorem kB {α:Type}(p:α→Bool):∀l:List α,(l.dropWhile p).length≤l.length
 | []=>le_refl _
 | a::l=>by
  rw[B7];split
  ·have:=kB p l;rw[Aa];omega
  ·exact le_refl _
theorem nN {α:Type}(p:α→Bool):∀l:List α,(l.takeWhile p).length≤l.length
 | []=>le_refl _
 | a::l=>by
  rw[takeWhile_cons];split
  ·have:=nN p l;rw[Aa,Aa];omega
  ·exact Ad _
theorem Ze.words (z:Z):Ze z (aZ z).2:=by
 unfold aZ;split
 ·exact kB _ _
 ·exact Ze.refl z
theorem ZA.wt {L:List Tk}{z:Z}(h:ZA L z):wt z.R≤wt L:=by
 have e:L.take (L.length-z.R.length)++z.R=L:=by
  have:=take_append_drop (L.length-z.R.length) L;rwa [h.d] at this
 have:=lS (p:=L.take (L.length-z.R.length)) (R:=z.R);rwa [e] at this
theorem ZA.lp {L:List Tk}{z:Z}(h:ZA L z):1≤z.R.length:=h.lt.2
theorem aBp {L:List Tk}{z:Z}(h:ZA L z):ZA L (gR z).2∧WF (gR z).1∧tn (gR z).1≤wt z.R∧((gR z).2.e=0→(gR z).2.R.length<z.R.length)∧Ze z (gR z).2:=by
 unfold gR;have hok:=gQ (3*z.R.length) 0 z.R;have g:=eM (3*z.R.length) 0 z.R;generalize cM (3*z.R.length) 0 z.R=w at hok g ⊢;cases w with
 | error e=>
  obtain⟨e,p⟩:=e;have:=g e p rfl;refine⟨h,⟨rfl,rfl⟩,?_,fun h0=>absurd h0 this,Ze.refl z⟩;show tn zTy≤_;obtain⟨t,R',q⟩:=h.e.ne;rw[q,cB];have:tn zTy=1:=by unfold zTy;rw[tn,tns];rfl
  omega
 | ok y=>
  obtain⟨x,R'⟩:=y;obtain⟨⟨h1,⟨p,h2,A⟩,u⟩,B⟩:=hok x R' rfl;have hl:R'.length<z.R.length:=by rw[h2,η];omega
  exact⟨h.suf h2 (h1 h.e) _ _,u,by show tn x≤_;omega,fun _=>hl,Cy hl⟩
theorem r5 {L:List Tk}:∀(f:Nat) (out:List Ty) (z:Z),ZA L z→(∀x∈out,WF x∧tn x≤wt L)→out.length+z.R.length≤4001→
  ZA L (cN f out z).2∧(∀x∈(cN f out z).1,WF x∧tn x≤wt L)∧Ze z (cN f out z).2∧(cN f out z).1.length≤4002
 | 0,out,z,h,ho,hl=>⟨h,ho,Ze.refl z,by rw[cN];dsimp only;omega⟩
 | f+1,out,z,h,ho,hl=>by
  rw[cN];split
  ·rename_i hc;obtain⟨q,y,Y,A,u⟩:=aBp h;have O:=h.wt;have g:∀x∈out++[(gR z).1],WF x∧tn x≤wt L:=fun x hx=>by
    rcases Ay.1 hx with hx | hx
    ·exact ho x hx
    ·rw[Ar.1 hx];exact⟨y,by omega⟩
   by_cases he:(gR z).2.e=0
   ·have U:=A he;obtain⟨B,E,I,J⟩:=r5 f (out++[(gR z).1]) (gR z).2 q g (by rw[η,Bj];omega);exact⟨B,E,u.trans I,J⟩
   ·have M:cN f (out++[(gR z).1]) (gR z).2=(out++[(gR z).1],(gR z).2):=by
     cases f with
     | zero=>rfl
     | succ f=>rw[cN,ξ (fun h=>he h.1)]
    rw[M];exact⟨q,g,u,by rw[η,Bj];have:=h.lp;omega⟩
  ·exact⟨h,ho,Ze.refl z,by dsimp only;omega⟩
theorem nS {f:Nat}{out:List Ty}{z:Z}(h:¬(z.e=0∧aUh z=true)):cN f out z=(out,z):=by
 cases f with
 | zero=>rfl
 | succ f=>rw[cN,ξ h]
inductive Pt where
 | mk (form pl n:Int) (name:Str) (kids:List Pt)
def Pt.form:Pt→Int | .mk f _ _ _ _=>f
def Pt.pl:Pt→Int | .mk _ p _ _ _=>p
def Pt.n:Pt→Int | .mk _ _ n _ _=>n
def Pt.name:Pt→Str | .mk _ _ _ s _=>s
def Pt.kids:Pt→List Pt | .mk _ _ _ _ l=>l
mutual
def vO:Pt→List (List C)
 | .mk _ _ _ _ l=>vN l
def vN:List Pt→List (List C)
 | []=>[]
 | p::l=>[.int .i64 p.form,.int .i64 p.pl,.int .i64 p.n,.str p.name,.sl 10 (vO p),.int .i64 0,.int .i64 0,.str [],.sl 4 [],.sl 4 []]::vN l
end
def bO (p:Pt):List C:=[.int .i64 p.form,.int .i64 p.pl,.int .i64 p.n,.str p.name,.sl 10 (vO p),.int .i64 0,.int .i64 0,.str [],.sl 4 [],.sl 4 []]
theorem r7:∀l:List Pt,vN l=l.map bO
 | []=>by simp[vN]
 | p::l=>by rw[vN,r7 l];rfl
theorem mE (p:Pt):vO p=p.kids.map bO:=by cases p;rw[vO,r7];rfl
def zPt:Pt:=.mk 0 0 0 [] []
def xC:Str:=[95]
def j8 (t:Tk):Int:=if t.kind=1 then 2 else if t.kind=2 then 4 else 3
def gD (t:Tk):Str:=if t.kind=3 then [] else t.text
def tlZ (z:Z):Z:=⟨z.R.tail,z.e,z.p⟩
mutual
def b7:Nat→Nat→Z→(Pt×Bool)×Z
 | 0,_,z=>((zPt,false),z)
 | f+1,o,z=>
  if ¬z.e=0 then((zPt,false),z)
  else if 0<(b4 z).kind∧(b4 z).kind<4 then((.mk (j8 (b4 z)) (b4 z).pl (b4 z).n (gD (b4 z)) [],true),tlZ z)
  else if(bP xC z).1=true then((.mk 1 (b4 z).pl 0 [] [],true),(bP xC z).2)
  else if isZ cE z=false then((zPt,false),z)
  else if 40≤o then((zPt,false),bR 13 (b4 z).pl z)
  else(((gF f (o+1) (aQ cE z)).1,true),aQ lX (gF f (o+1) (aQ cE z)).2)
def gF:Nat→Nat→Z→Pt×Z
 | 0,_,z=>(zPt,bR 12 0 z)
 | f+1,o,z=>
  if(b7 f o z).1.2=false then(zPt,bR 12 (b4 z).pl (b7 f o z).2)
  else if(b4 z).kind=2∧z.e=0 then(.mk 4 (b4 z).pl (b4 z).n (b4 z).text (dW f o [] (tlZ z)).1,(dW f o [] (tlZ z)).2)
  else(b7 f o z).1.1 |>fun p=>(p,(b7 f o z).2)
def dW:Nat→Nat→List Pt→Z→List Pt×Z
 | 0,_,out,z=>(out,z)
 | f+1,o,out,z=>
  if z.e=0 then(if(b7 f o z).1.2=false then(out,(b7 f o z).2) else dW f o (out++[(b7 f o z).1.1]) (b7 f o z).2)
  else(out,z)
end
mutual
def ptB:Pt→Prop
 | .mk _ _ _ _ l=>l.length≤4002∧x5 l
def x5:List Pt→Prop
 | []=>True
 | p::l=>ptB p∧x5 l
end
theorem oE:∀{l:List Pt}{p:Pt},x5 l→ptB p→x5 (l++[p])
 | [],_,_,h=>⟨h,trivial⟩
 | _::_,_,h,k=>⟨h.1,oE h.2 k⟩
theorem ZA.tlp {L:List Tk}{z:Z}(h:ZA L z) (g:¬(b4 z).kind=6):ZA L (tlZ z):=(h.tl g z.e z.p).1
theorem eR {L:List Tk}{z:Z}(h:ZA L z) {s:Str}(hb:(bP s z).1=true):(bP s z).2.R.length<z.R.length:=by
 unfold bP at hb ⊢;split
 ·have:=h.lp;show z.R.tail.length<_;rw[length_tail];omega
 ·rename_i hc;rw[ξ hc] at hb;cases hb
theorem gV (s:Str) (z:Z):(bP s z).2.e=z.e:=by unfold bP;split<;>rfl
theorem xR {L:List Tk}{z:Z}(h:ZA L z) {s:Str}(hb:(aQ s z).e=0):(aQ s z).R.length<z.R.length:=by
 unfold aQ at hb ⊢;split
 ·rename_i hm;exact eR h hm
 ·rename_i hm;rw[ξ hm] at hb;unfold bR at hb;split at hb
  ·cases hb
  ·rename_i hc;exact absurd hb hc
theorem aU {s:Str}{z:Z}(hb:(aQ s z).e=0):z.e=0:=by
 unfold aQ at hb;split at hb
 ·rw[gV] at hb;exact hb
 ·unfold bR at hb;split at hb
  ·assumption
  ·exact hb
theorem cS {e p:Int}(he:¬e=0) {z:Z}(hb:(bR e p z).e=0):False:=by
 unfold bR at hb;split at hb
 ·exact he hb
 ·rename_i h;exact h hb
theorem aFk {s:Str}{z:Z}(he:z.e=0) (h:isZ s z=true):aQ s z=tlZ z:=by
 have hm:bP s z=(true,tlZ z):=by unfold bP;rw[θ ⟨he,h⟩];rfl
 unfold aQ;rw[hm];exact θ rfl
theorem oQ {L:List Tk}{z:Z}(h:ZA L z):(tlZ z).R.length<z.R.length:=by
 have:=h.lp;show z.R.tail.length<_;rw[length_tail];omega
def aWr (L:List Tk) (f:Nat):Prop:=∀o z,ZA L z→ZA L (b7 f o z).2∧ptB (b7 f o z).1.1∧((b7 f o z).1.2=true→(b7 f o z).2.e=0→(b7 f o z).2.R.length<z.R.length)∧Ze z (b7 f o z).2
def aXe (L:List Tk) (f:Nat):Prop:=∀o z,ZA L z→ZA L (gF f o z).2∧ptB (gF f o z).1∧((gF f o z).2.e=0→(gF f o z).2.R.length<z.R.length)∧Ze z (gF f o z).2
def aWv (L:List Tk) (f:Nat):Prop:=∀o out z,ZA L z→x5 out→(z.e=0→out.length+z.R.length≤4001)→out.length≤4002→ZA L (dW f o out z).2∧x5 (dW f o out z).1∧(dW f o out z).1.length≤4002∧Ze z (dW f o out z).2
theorem bH {s:Str}{z:Z}(h:¬z.e=0):aQ s z=z:=by
 have hm:bP s z=(false,z):=by unfold bP;rw[ξ (fun k=>h k.1)]
 unfold aQ;rw[hm];rw[ξ ω];unfold bR;rw[ξ h]
theorem aCi:ptB zPt:=⟨Ad _,trivial⟩
theorem sK {k:Int}(h:0<k∧k<4):¬k=6:=by omega
theorem gE (L:List Tk):∀f,aWr L f∧aXe L f∧aWv L f:=by
 intro f
 induction f with
 | zero=>
  refine⟨fun o z h=>?_,fun o z h=>?_,fun o out z h hb hl u=>?_⟩
  ·rw[b7];exact⟨h,aCi,fun e=>Bool.noConfusion e,Ze.refl z⟩
  ·rw[gF];exact⟨h.fail _ _,aCi,fun e=>(cS (by decide) e).elim,Ze.fail _ _ _⟩
  ·rw[dW];exact⟨h,hb,u,Ze.refl z⟩
 | succ f ih=>
  obtain⟨B,aa,E⟩:=ih;refine⟨fun o z h=>?_,fun o z h=>?_,fun o out z h hb hl u=>?_⟩
  ·rw[b7];split
   ·exact⟨h,aCi,fun e=>Bool.noConfusion e,Ze.refl z⟩
   rename_i he;split
   ·rename_i J;have:=oQ h;exact⟨h.tlp (sK J),⟨Ad _,trivial⟩,fun _ _=>this,Cy this⟩
   split
   ·rename_i hm;exact⟨h.may _,⟨Ad _,trivial⟩,fun _ _=>eR h hm,Ze.may _ _⟩
   split
   ·exact⟨h,aCi,fun e=>Bool.noConfusion e,Ze.refl z⟩
   split
   ·exact⟨h.fail _ _,aCi,fun e=>Bool.noConfusion e,Ze.fail _ _ _⟩
   ·obtain⟨g,y,A,q⟩:=aa (o+1) (aQ cE z) (h.need _);refine⟨g.need _,y,fun _ e=>?_,((Ze.need cE z).trans q).trans (Ze.need _ _)⟩;have a1:=xR g e;have a2:(gF f (o+1) (aQ cE z)).2.R.length≤z.R.length:=(Ze.need cE z).trans q;exact A8 a1 a2
  ·rw[gF];obtain⟨g,y,A,q⟩:=B o z h;split
   ·exact⟨g.fail _ _,aCi,fun e=>(cS (by decide) e).elim,q.trans (Ze.fail _ _ _)⟩
   rename_i hs;have hs:(b7 f o z).1.2=true:=by simpa using hs
   split
   ·rename_i J;have ht:=oQ h;obtain⟨M,O,U,Y⟩:=E o [] (tlZ z) (h.tlp (by rw[J.1];decide)) trivial (fun _=>by have:=h.len;rw[length_nil];omega) (Ad _);have I:(dW f o [] (tlZ z)).2.R.length≤(tlZ z).R.length:=Y;exact⟨M,⟨U,O⟩,fun _=>By I ht,Cy (By I ht)⟩
   ·exact⟨g,y,A hs,q⟩
  ·rw[dW];split
   ·rename_i he;obtain⟨g,y,A,q⟩:=B o z h;split
    ·exact⟨g,hb,u,q⟩
    rename_i hs;have hs:(b7 f o z).1.2=true:=by simpa using hs
    have hl:=hl he;have hlp:=h.lp;have hle:(out++[(b7 f o z).1.1]).length=out.length+1:=by rw[η];rfl
    obtain⟨M,O,U,Y⟩:=E o (out++[(b7 f o z).1.1]) (b7 f o z).2 g (oE hb y) (fun e=>by have:=A hs e;omega) (by omega);exact⟨M,O,U,q.trans Y⟩
   ·exact⟨h,hb,u,Ze.refl z⟩
def aRk:List C:=[.int .i64 0,.int .i64 0,.int .i64 0,.str [],.nl,.int .i64 0,.int .i64 0,.str [],.nl,.nl]
def aQ0 (L:List Tk) (f:Nat):Prop:=∀(o:Nat) (z:Z),ZA L z→(z.e=0→3*z.R.length≤f)→o≤40→aV Tryz.prog 47 [xP,I .i64 (o:Nat)] [(700,zO L z)] (.tup [.pa (bO (b7 f o z).1.1),B (b7 f o z).1.2]) [(700,zO L (b7 f o z).2)]
def aWt (L:List Tk) (f:Nat):Prop:=∀(o:Nat) (z:Z),ZA L z→(z.e=0→3*z.R.length+1≤f)→o≤40→aV Tryz.prog 25 [xP,I .i64 (o:Nat)] [(700,zO L z)] (.pa (bO (gF f o z).1)) [(700,zO L (gF f o z).2)]
theorem w9 {L:List Tk}{z:Z}(h:ZA L z) (he:z.e=0) (y:0<(b4 z).kind∧(b4 z).kind<4) (o:Nat) (A E q:C) (u:(A=.nl∧E=.nl∧q=.nl)∨(A=.sl 10 []∧E=.sl 4 []∧q=.sl 4 [])):aV Tryz.prog 47 [xP,I .i64 (o:Nat)] [(700,zO L z)] (.tup [.pa [.int .i64 (j8 (b4 z)),.int .i64 (b4 z).pl,.int .i64 (b4 z).n,.str (gD (b4 z)),A,.int .i64 0,.int .i64 0,.str [],E,q],B true]) [(700,zO L (tlZ z))]:=by
 have ho:=iG L z;rw[φ he] at ho;have hn:=fP h;obtain⟨_,J⟩:=h.tl (sK y) z.e z.p;have O:=h.l;have M:zO L (tlZ z)=.var 60 [.c (.sl 4 (L.map aI)),.c (.int .i64 ((L.length-z.R.length+1:Nat):Int)),.c (.int .i64 z.e),.c (.int .i64 z.p)]:=by
  unfold zO tlZ;dsimp only;rw[J]
 rw[M];generalize b4 z=t at hn y ⊢;refine bF (n:=74) tok Tryz.func47 rfl rfl rfl ?_;refine sg rfl (aA (sk 1 rfl (kc ho ?_)));refine kz 1 rfl (aB rfl (fun hb=>absurd hb (by decide)) (fun _=>aD (sk 1 rfl (kc hn ?_))));refine kz 2 rfl ?_;have d1:decide ((0:Int)<t.kind)=true:=φ y.1;have d2:decide (t.kind<(4:Int))=true:=φ y.2;refine aA (sgh [(3,.bv true),(7,.bv true)] rfl (aB rfl (fun _=>?_) (fun hb=>absurd (hb.symm.trans d2) (by decide))));have g:t.kind=1∨t.kind=2∨t.kind=3:=by omega
 unfold zO;refine aA (agN [] rfl ?_);rcases g with g | g | g
 ·unfold j8 gD;rw[θ g,ξ (by omega)];refine sgh [(3,.row 1 [.int .i64 2]),(16,.row 1 [.str t.text]),(0,.all),(13,.all)] rfl ?_;rcases u with⟨rfl,rfl,rfl⟩ | ⟨rfl,rfl,rfl⟩<;>exact aF oD
 ·unfold j8 gD;rw[ξ (by omega),θ g,ξ (by omega)];refine sgh [(3,.row 2 [.int .i64 4]),(16,.row 2 [.str t.text]),(0,.all),(13,.all)] rfl ?_;rcases u with⟨rfl,rfl,rfl⟩ | ⟨rfl,rfl,rfl⟩<;>exact aF oD
 ·unfold j8 gD;rw[ξ (by omega),ξ (by omega),θ g];refine sgh [(3,.row 3 [.int .i64 3]),(16,.row 3 [.str []]),(0,.all),(13,.all)] rfl ?_;rcases u with⟨rfl,rfl,rfl⟩ | ⟨rfl,rfl,rfl⟩<;>exact aF oD
theorem lO {L:List Tk}{z:Z}(he:¬z.e=0) (o:Nat):aV Tryz.prog 47 [xP,I .i64 (o:Nat)] [(700,zO L z)] (.tup [.pa (bO zPt),B false]) [(700,zO L z)]:=by
 have ho:=iG L z;rw[ψ he] at ho;refine bF (n:=74) tok Tryz.func47 rfl rfl rfl ?_;refine sg rfl (aA (sk 1 rfl (kc ho ?_)));exact kz 1 rfl (aB rfl (fun _=>sg rfl (aF oD)) (fun hb=>Bool.noConfusion hb))
theorem fD {e p:Int}{z:Z}(h:¬z.e=0):bR e p z=z:=by unfold bR;rw[ξ h]
theorem aKv {L:List Tk}{z:Z}(h:ZA L z) (he:¬z.e=0) (o:Nat):aV Tryz.prog 25 [xP,I .i64 (o:Nat)] [(700,zO L z)] (.pa (bO zPt)) [(700,zO L z)]:=by
 have hn:=fP h;have hs:=lO (L:=L) he o;have g:=eK L z 12 (b4 z).pl;rw[fD he] at g;refine bF (n:=47) tok Tryz.func25 rfl rfl rfl ?_;refine sg rfl (sk 1 rfl (kc hn ?_));refine kz 2 rfl (sk 2 rfl (kc hs ?_));refine kz 6 rfl (aA (sg rfl (aB rfl (fun _=>sk 3 rfl (kc g ?_)) (fun hb=>Bool.noConfusion hb))));exact az (sg rfl (aF (rtC trw)))
theorem aG1 (L:List Tk) (f:Nat) (ih:aWt L f):aQ0 L (f+1):=by
 intro o z h hf ho40;rw[b7];by_cases he:z.e=0
 case neg=>
  rw[θ he];exact lO he o
 rw[ξ (fun k=>k he)];by_cases A:0<(b4 z).kind∧(b4 z).kind<4
 ·rw[θ A];exact w9 h he A o _ _ _ (.inr ⟨rfl,rfl,rfl⟩)
 rw[ξ A];have ho:=iG L z;rw[φ he] at ho;have hn:=fP h;have hm:=mM h xC;have hi:=aKy h cE;have U:=eK L z 13 (b4 z).pl;have Y:=fN h cE;have h1:=h.need cE;have g:isZ cE z=true→aQ cE z=tlZ z:=aFk he;have htl:=oQ h;have E:(bP xC z).1=false→(bP xC z).2=z:=fun hb=>by
  unfold bP at hb ⊢;split
  ·rename_i hc;rw[θ hc] at hb;cases hb
  ·rfl
 refine bF (n:=74) tok Tryz.func47 rfl rfl rfl ?_;refine sg rfl (aA (sk 1 rfl (kc ho ?_)));refine kz 1 rfl (aB rfl (fun hb=>Bool.noConfusion hb) (fun _=>aD (sk 1 rfl (kc hn ?_))));refine kz 2 rfl (aA (aA (AWp.cut (mk [(0,xP),(1,I .i64 (o:Nat)),(4,.one (.vp 4 0)),(6,.one (.vp 6 0)),(21,B false)] [(700,zO L z),(4,.var 43 (aRk.map .c)),(6,.var 85 ((aI (b4 z)).map .c))]) ?_ ?_)))
 ·by_cases k0:0<(b4 z).kind
  ·have d2:decide ((b4 z).kind<(4:Int))=false:=ψ (fun k=>A ⟨k0,k⟩);have d1:decide ((0:Int)<(b4 z).kind)=true:=φ k0;refine ag [(3,.bv true),(7,.bv true)] rfl ?_;rw[d2];exact sl
  ·have d1:decide ((0:Int)<(b4 z).kind)=false:=ψ k0;exact ag [(3,.bv false),(7,.bv false)] rfl sl
 refine aB rfl (fun hb=>Bool.noConfusion hb) (fun _=>aD (aA (sk 1 rfl (kc hm ?_))));refine az ?_;generalize bP xC z=m at E hm ⊢;obtain⟨b,u⟩:=m;cases b with
 | true=>
  rw[θ rfl];exact aB rfl (fun _=>sg rfl (aF oD)) (fun hb=>Bool.noConfusion hb)
 | false=>
 have aa:u=z:=E rfl;subst aa;rw[ξ ω];refine aB rfl (fun hb=>Bool.noConfusion hb) (fun _=>aD (aA (sk 1 rfl (kc hi ?_))));refine kz 1 rfl ?_;generalize isZ cE u=b at g ⊢;cases b with
 | false=>
  rw[θ rfl];exact aB rfl (fun _=>sg rfl (aF oD)) (fun hb=>Bool.noConfusion hb)
 | true=>
 have g:=g rfl;rw[ξ (by decide)];refine aB rfl (fun hb=>Bool.noConfusion hb) (fun _=>aD (aA (sg rfl (aB rfl (fun hb=>?_) (fun hb=>?_)))))
 ·rw[θ (by have:=κ hb;omega)];refine sk 3 rfl (kc U ?_);exact az (sg rfl (aF oD))
 have J:¬40≤o:=by have:=Ae hb;omega
 rw[ξ J];have hp:=ih (o+1) (aQ cE u) h1 (fun _=>by rw[g];have:=hf he;omega) (by omega);obtain⟨M,_⟩:=(gE L f).2.1 (o+1) (aQ cE u) h1;generalize gF f (o+1) (aQ cE u)=y at hp M ⊢;obtain⟨q,z2⟩:=y;dsimp only at hp M ⊢;have O:=fN M lX;refine aD (sk 1 rfl (kc Y ?_));refine az (aA (aC mixed (akN 3 [] rfl (kc hp ?_))));refine akN 2 [] rfl (az (sk 1 rfl (kc O ?_)));exact az (sg rfl (aF oD))
theorem aTl (L:List Tk) (f:Nat) (ihS:∀g,g≤f→aQ0 L g):aWt L (f+1):=by
 intro o z h hf aa;have hn:=fP h;have hs:=ihS f (le_refl _) o z h (fun he=>by have:=hf he;omega) aa;obtain⟨M,_,E,O⟩:=(gE L f).1 o z h;rw[gF];by_cases hk:(b4 z).kind=2∧z.e=0
 ·obtain⟨h2,he⟩:=hk;obtain⟨f,rfl⟩:∃g,f=g+1:=⟨f-1,by have:=hf he;have:=h.lp;omega⟩
  have hst:b7 (f+1) o z=((.mk (j8 (b4 z)) (b4 z).pl (b4 z).n (gD (b4 z)) [],true),tlZ z):=by
   rw[b7,ξ (fun k=>k he),θ (by omega)]
  rw[hst];rw[ξ (show ¬(true=false) from fun k=>Bool.noConfusion k),θ ⟨h2,he⟩];have Y:=w9 h he (by omega) o .nl .nl .nl (.inl ⟨rfl,rfl,rfl⟩);have e4:j8 (b4 z)=4:=by unfold j8;rw[ξ (by omega),θ h2]
  have e5:gD (b4 z)=(b4 z).text:=by unfold gD;rw[ξ (by omega)]
  rw[e4,e5] at Y;have h1:=h.tlp (by rw[h2];decide);have htl:=oQ h;have hlen:=h.len;have u:∃W,W=dW (f+1) o [] (tlZ z):=⟨_,rfl⟩
  obtain⟨W,u⟩:=u;rw[←u];generalize b4 z=t at hn h2 Y ⊢;refine bF (n:=47) tok Tryz.func25 rfl rfl rfl ?_;refine sg rfl (sk 1 rfl (kc hn ?_));refine kz 2 rfl (sk 2 rfl (kc Y ?_));refine kz 6 rfl (aA (sg rfl (aB rfl (fun hb=>Bool.noConfusion hb) (fun _=>aD (AWp.sub (Sub.ownCell (x:=6) (k:=4) (id:=501) 43 10 rfl rfl rfl) ?_)))));refine aA (aE (aL (fun q:List Pt×Z×Nat=>mk [(0,xP),(1,I .i64 (o:Nat)),(4,.one (.vp 4 0)),(5,.one (.vp 5 0)),(6,.one (.vp 6 0))] [(700,zO L q.2.1),(4,.var 43 (aRk.map .c)),(5,.var 85 ((aI t).map .c)),(6,.var 43 [.c (.int .i64 4),.c (.int .i64 t.pl),.c (.int .i64 t.n),.c (.str t.text),.hs 501 0 q.1.length q.1.length,.c (.int .i64 0),.c (.int .i64 0),.c (.str []),.c .nl,.c .nl]),(501,.arr 43 10 (q.1.map bO) 0)]) (fun q=>ZA L q.2.1∧W=dW q.2.2 o q.1 q.2.1∧q.2.2≤f+1∧(q.2.1.e=0→3*q.2.1.R.length+1≤q.2.2)∧(q.2.1.e=0→q.1.length+q.2.1.R.length≤4001)∧q.1.length≤4002) (fun q=>if q.2.1.e=0 then q.2.1.R.length+1 else 0) ([],tlZ z,f+1) ⟨h1,u,le_refl _,fun _=>by have:=hf he;dsimp only;omega,fun _=>by dsimp only;rw[length_nil];omega,Ad _⟩ sl ?_));clear u hs Y hst e4 e5 M E O htl h1;rintro⟨out,J,g⟩ ⟨h',u,hgf,hg,hol,hol2⟩;dsimp only at h' u hgf hg hol hol2 ⊢;have hout:(out.map bO).length=out.length:=χ _;have d2:decide (t.kind=2)=true:=φ h2;have ho:=iG L J;by_cases A:J.e=0
  case neg=>
   rw[ψ A] at ho;have e0:dW g o out J=(out,J):=by
    cases g with
    | zero=>rfl
    | succ g=>rw[dW,ξ A]
   rw[e0] at u;refine aA (sk 1 rfl (kc ho ?_));refine ak 5 [(2,.bv false),(6,.bv false)] rfl (az (aB rfl (fun hb=>Bool.noConfusion hb) (fun _=>aG (AWp.sub (Sub.freeze (id:=501) rfl) ?_))));refine sg rfl ?_;rw[u];unfold bO;rw[mE (Pt.mk _ _ _ _ _)];exact aF (rtC trw (hc:=.agg (.c .refl (.c .refl (.c .refl (.c .refl (.hs rfl hout.symm (Go.AM.take_all hout.symm) (.c .refl (.c .refl (.c .refl (.c .nl (.c .nl .nil))))))))))))
  rw[φ A] at ho;obtain⟨g,rfl⟩:∃k,g=k+1:=⟨g-1,by have:=hg A;omega⟩
  rw[dW,θ A] at u;have hs:=ihS g (by omega) o J h' (fun _=>by have:=hg A;omega) aa;obtain⟨M,_,E,O⟩:=(gE L g).1 o J h';have hg:=hg A;have hol:=hol A;have hlp:=h'.lp;refine aA (sk 1 rfl (kc ho ?_));refine ak 5 [(2,.bv true),(6,.bv true)] rfl (az (aB rfl (fun _=>?_) (fun hb=>absurd (hb.symm.trans d2) Bool.noConfusion)));generalize b7 g o J=y at hs M E O u;obtain⟨⟨q,b⟩,z2⟩:=y;dsimp only at hs M E O u;refine aD (aE (sk 2 rfl (kc hs ?_)));refine kz 6 rfl (aA (sg rfl ?_));cases b with
  | false=>
   rw[θ rfl] at u;refine aB rfl (fun _=>aG (AWp.sub (Sub.freeze (id:=501) rfl) ?_)) (fun hb=>Bool.noConfusion hb);refine sg rfl ?_;rw[u];unfold bO;rw[mE (Pt.mk _ _ _ _ _)];exact aF (rtC trw (hc:=.agg (.c .refl (.c .refl (.c .refl (.c .refl (.hs rfl hout.symm (Go.AM.take_all hout.symm) (.c .refl (.c .refl (.c .refl (.c .nl (.c .nl .nil))))))))))))
  | true=>
   rw[ξ (show ¬(true=false) from fun k=>Bool.noConfusion k)] at u;have hrows:out.map bO++[bO q]=(out++[q]).map bO:=by rw[Ai];rfl
   have hle:(out++[q]).length=out.length+1:=by rw[η];rfl
   have g4':z2.R.length≤J.R.length:=O;refine aB rfl (fun hb=>Bool.noConfusion hb) (fun _=>aD (ag [(3,.all)] rfl ⟨(out++[q],z2,g),⟨M,u,by dsimp only;omega,fun h0=>by have:=E rfl h0;dsimp only;omega,fun h0=>by have:=E rfl h0;dsimp only;rw[hle];omega,by dsimp only;rw[hle];omega⟩,?_,?_⟩))
   ·dsimp only;rw[θ A];split
    ·rename_i h0;have:=E rfl h0;omega
    ·omega
   ·exact sl (he:=⟨rfl,rfl,rfl,rfl,rfl,trivial⟩) (hh:=⟨⟨_,rfl,.var rfl⟩,⟨_,rfl,.var rfl⟩,⟨_,rfl,.var rfl⟩,⟨_,rfl,.var (by rw[hle,←hout];rfl)⟩,⟨_,rfl,.arrS hrows⟩,trivial⟩)
 rw[ξ hk];have U:¬z.e=0→(b7 f o z).1.2=false:=fun he=>by
  cases f with
  | zero=>rfl
  | succ f=>rw[b7,θ he]
 generalize b7 f o z=y at hs M E O U ⊢;obtain⟨⟨q,b⟩,z1⟩:=y;dsimp only at hs M E O U ⊢;have hfl:=eK L z1 12 (b4 z).pl;have ho:=iG L z1;refine bF (n:=47) tok Tryz.func25 rfl rfl rfl ?_;refine sg rfl (sk 1 rfl (kc hn ?_));refine kz 2 rfl (sk 2 rfl (kc hs ?_));refine kz 6 rfl (aA (sg rfl ?_));cases b with
 | false=>
  rw[θ rfl];refine aB rfl (fun _=>sk 3 rfl (kc hfl ?_)) (fun hb=>Bool.noConfusion hb);exact az (sg rfl (aF (rtC trw)))
 | true=>
  rw[ξ (show ¬(true=false) from fun k=>Bool.noConfusion k)];have he:z.e=0:=by
   by_cases he:z.e=0
   ·exact he
   ·exact Bool.noConfusion (U he)
  have h2:¬(b4 z).kind=2:=fun h2=>hk ⟨h2,he⟩
  have d2:decide ((b4 z).kind=2)=false:=ψ h2;refine aB rfl (fun hb=>Bool.noConfusion hb) (fun _=>aD (aA (aE (aL (fun _:Unit=>mk [(0,xP),(4,.one (.vp 4 0)),(5,.one (.vp 5 0)),(6,.one (.vp 6 0))] [(700,zO L z1),(4,.var 43 (aRk.map .c)),(5,.var 85 ((aI (b4 z)).map .c)),(6,.var 43 ((bO q).map .c))]) (fun _=>True) (fun _=>0) () trivial sl ?_))));intro _ _;refine aA (aA (AWp.cut (mk [(4,.one (.vp 4 0)),(6,.one (.vp 6 0)),(31,B false)] [(700,zO L z1),(4,.var 43 (aRk.map .c)),(6,.var 43 ((bO q).map .c))]) ?_ ?_))
  ·by_cases h1:z1.e=0
   ·rw[φ h1] at ho;refine aC mixed (ak 1 [] rfl (kc ho ?_));refine ak 5 [(2,.bv true),(6,.bv true)] rfl (az ?_);rw[d2];exact sl
   ·rw[ψ h1] at ho;refine aC mixed (ak 1 [] rfl (kc ho ?_));exact ak 5 [(2,.bv false),(6,.bv false)] rfl (az sl)
  exact aB rfl (fun hb=>Bool.noConfusion hb) (fun _=>aG (sg rfl (aF (rtC trw))))
theorem aVx (L:List Tk):∀f,(∀g,g≤f→aQ0 L g)∧∀g,g≤f→aWt L g:=by
 intro f
 induction f with
 | zero=>
  refine⟨fun g u o z h y ho=>?_,fun g u o z h y ho=>?_⟩
  ·have h0:¬z.e=0:=fun he=>by have:=y he;have:=h.lp;omega
   obtain rfl:g=0:=by omega
   rw[b7];exact lO h0 o
  ·have h0:¬z.e=0:=fun he=>by have:=y he;omega
   obtain rfl:g=0:=by omega
   rw[gF];dsimp only;rw[fD h0];exact aKv h h0 o
 | succ f q=>
  refine⟨fun g u=>?_,fun g u=>?_⟩
  ·by_cases h:g≤f
   ·exact q.1 g h
   ·rw[show g=f+1 by omega];exact aG1 L f (q.2 f (le_refl _))
  ·by_cases h:g≤f
   ·exact q.2 g h
   ·rw[show g=f+1 by omega];exact aTl L f q.1
mutual
inductive Ex where
 | mk (form pl n:Int) (name:Str) (kids:List Ex) (pats:List Pt) (binds:List Bd) (sig:Sch)
inductive Bd where
 | mk (name:Str) (pl:Int) (has:Bool) (sig:Sch) (body:Ex)
end
def Ex.form:Ex→Int | .mk f _ _ _ _ _ _ _=>f
def Ex.pl:Ex→Int | .mk _ p _ _ _ _ _ _=>p
def Ex.n:Ex→Int | .mk _ _ n _ _ _ _ _=>n
def Ex.name:Ex→Str | .mk _ _ _ s _ _ _ _=>s
def Ex.kids:Ex→List Ex | .mk _ _ _ _ l _ _ _=>l
def Ex.pats:Ex→List Pt | .mk _ _ _ _ _ l _ _=>l
def Ex.binds:Ex→List Bd | .mk _ _ _ _ _ _ l _=>l
def Ex.sig:Ex→Sch | .mk _ _ _ _ _ _ _ s=>s
def Bd.name:Bd→Str | .mk s _ _ _ _=>s
def Bd.pl:Bd→Int | .mk _ p _ _ _=>p
def Bd.has:Bd→Bool | .mk _ _ h _ _=>h
def Bd.sig:Bd→Sch | .mk _ _ _ s _=>s
def Bd.body:Bd→Ex | .mk _ _ _ _ e=>e
mutual
def kA:Ex→List (List C)
 | .mk _ _ _ _ l _ _ _=>vP l
def aCx:Ex→List (List C)
 | .mk _ _ _ _ _ _ l _=>cX l
def vP:List Ex→List (List C)
 | []=>[]
 | e::l=>[.int .i64 e.form,.int .i64 e.pl,.int .i64 e.n,.str e.name,.sl 15 (kA e),.sl 10 (e.pats.map bO),.sl 33 (aCx e),.sl 1 (e.sig.vars.map aX),.sl 1 [],.sl 5 (e.sig.preds.map aR),.int .i64 e.sig.ty.form,.int .i64 e.sig.ty.n,.str e.sig.ty.name,.sl 4 (dD e.sig.ty),.sl 4 []]::vP l
def aA0:Bd→List C
 | .mk _ _ _ _ e=>[.int .i64 e.form,.int .i64 e.pl,.int .i64 e.n,.str e.name,.sl 15 (kA e),.sl 10 (e.pats.map bO),.sl 33 (aCx e),.sl 1 (e.sig.vars.map aX),.sl 1 [],.sl 5 (e.sig.preds.map aR),.int .i64 e.sig.ty.form,.int .i64 e.sig.ty.n,.str e.sig.ty.name,.sl 4 (dD e.sig.ty),.sl 4 []]
def cX:List Bd→List (List C)
 | []=>[]
 | b::l=>([.str b.name,.int .i64 b.pl,.bool b.has,.sl 1 (b.sig.vars.map aX),.sl 1 [],.sl 5 (b.sig.preds.map aR),.int .i64 b.sig.ty.form,.int .i64 b.sig.ty.n,.str b.sig.ty.name,.sl 4 (dD b.sig.ty)]++(aA0 b++[.sl 1 [],.sl 1 [],.sl 5 [],.int .i64 0,.int .i64 0,.str [],.sl 4 [],.int .i64 0]))::cX l
end
def bC (e:Ex):List C:=[.int .i64 e.form,.int .i64 e.pl,.int .i64 e.n,.str e.name,.sl 15 (kA e),.sl 10 (e.pats.map bO),.sl 33 (aCx e),.sl 1 (e.sig.vars.map aX),.sl 1 [],.sl 5 (e.sig.preds.map aR),.int .i64 e.sig.ty.form,.int .i64 e.sig.ty.n,.str e.sig.ty.name,.sl 4 (dD e.sig.ty),.sl 4 []]
def b8 (b:Bd):List C:=[.str b.name,.int .i64 b.pl,.bool b.has,.sl 1 (b.sig.vars.map aX),.sl 1 [],.sl 5 (b.sig.preds.map aR),.int .i64 b.sig.ty.form,.int .i64 b.sig.ty.n,.str b.sig.ty.name,.sl 4 (dD b.sig.ty),
 .int .i64 b.body.form,.int .i64 b.body.pl,.int .i64 b.body.n,.str b.body.name,.sl 15 (kA b.body),.sl 10 (b.body.pats.map bO),.sl 33 (aCx b.body),.sl 1 (b.body.sig.vars.map aX),.sl 1 [],.sl 5 (b.body.sig.preds.map aR),.int .i64 b.body.sig.ty.form,.int .i64 b.body.sig.ty.n,.str b.body.sig.ty.name,.sl 4 (dD b.body.sig.ty),.sl 4 [],
 .sl 1 [],.sl 1 [],.sl 5 [],.int .i64 0,.int .i64 0,.str [],.sl 4 [],.int .i64 0]
theorem r8:∀l:List Ex,vP l=l.map bC
 | []=>by simp[vP]
 | e::l=>by rw[vP,r8 l];rfl
theorem eB:∀l:List Bd,cX l=l.map b8
 | []=>by simp[cX]
 | .mk s p h g e::l=>by rw[cX,eB l,aA0];rfl
theorem kQ (e:Ex):kA e=e.kids.map bC:=by cases e;rw[kA,r8];rfl
theorem aAz (e:Ex):aCx e=e.binds.map b8:=by cases e;rw[aCx,eB];rfl
def zEx:Ex:=.mk 0 0 0 [] [] [] [] iJ
structure Sg where
 name:Str
 pl:Int
 ty:Sch
def cT (s:Sg):List C:=[.str s.name,.int .i64 s.pl,.sl 1 (s.ty.vars.map aX),.sl 1 [],.sl 5 (s.ty.preds.map aR),.int .i64 s.ty.ty.form,.int .i64 s.ty.ty.n,.str s.ty.ty.name,.sl 4 (dD s.ty.ty)]
def v8:Str:=[92]
def v7:Str:=[108,101,116]
def kD:Str:=[99,97,115,101]
def ofS:Str:=[111,102]
def inS:Str:=[105,110]
def eP:Str:=[58]
def dQ:Str:=[123]
def bA:Str:=[125]
def fR (l:List Tk):List Pt:=l.map fun t=>.mk 2 t.pl 0 t.text []
section
variable (ex:Nat→Z→Ex×Z)
def nJ (t:Tk):Ex:=if t.kind=3 then .mk 3 t.pl t.n [] [] [] [] iJ else .mk t.kind t.pl 0 t.text [] [] [] iJ
def gS (deep:Nat) (z:Z):(Ex×Bool)×Z:=
 if ¬z.e=0 then((zEx,false),z)
 else if 0<(b4 z).kind∧(b4 z).kind<4 then((nJ (b4 z),true),tlZ z)
 else if(bP cE z).1=false then((zEx,false),z)
 else(((ex (deep+1) (bP cE z).2).1,true),aQ lX (ex (deep+1) (bP cE z).2).2)
def aL1 (at':Int) (e a:Ex):Ex:=.mk 4 at' 0 [] [e,a] [] [] iJ
def eZ (deep:Nat) (at':Int):Nat→Ex→Z→Ex×Z
 | 0,e,z=>(e,z)
 | f+1,e,z=>if z.e=0 then(if(gS ex deep z).1.2=false then(e,(gS ex deep z).2) else eZ deep at' f (aL1 at' e (gS ex deep z).1.1) (gS ex deep z).2) else(e,z)
def aSm (at':Int) (l:List Tk) (b:Ex):Ex:=.mk 5 at' 0 [] [b] (fR l) [] iJ
def r3 (at':Int) (z:Z):List Tk×Z:=((aZ z).1,aQ arrow (cI (aZ z).1.length 8 at' (if(aZ z).1=[] then bR 12 (b4 (aZ z).2).pl (aZ z).2 else(aZ z).2)))
def r2 (at':Int) (deep:Nat) (z:Z):Ex×Z:=(aSm at' (r3 at' z).1 (ex (deep+1) (r3 at' z).2).1,(ex (deep+1) (r3 at' z).2).2)
def fH (nm:Tk) (z:Z):List Tk×Z:=((aZ z).1,aQ eqS (cI (aZ z).1.length 8 nm.pl (aZ z).2))
def wH (l:List Tk) (b:Ex):Ex:=match l with
 | []=>b
 | t::l=>aSm t.pl (t::l) b
def dP (nm:Tk) (deep:Nat) (z:Z):Bd×Z:=(.mk nm.text nm.pl false iJ (wH (fH nm z).1 (ex deep (fH nm z).2).1),(ex deep (fH nm z).2).2)
def aS (sigs:List Sg) (binds:List Bd) (deep:Nat) (z:Z):(List Sg×List Bd)×Z:=
 if(bP eP (b5 1 z).2).1=true then((sigs++[⟨(b5 1 z).1.text,(b5 1 z).1.pl,(bN (bP eP (b5 1 z).2).2).1⟩],binds),(bN (bP eP (b5 1 z).2).2).2)
 else((sigs,binds++[(dP ex (b5 1 z).1 deep (bP eP (b5 1 z).2).2).1]),(dP ex (b5 1 z).1 deep (bP eP (b5 1 z).2).2).2)
def eO (deep:Nat):Nat→Nat→List Sg→List Bd→Z→(List Sg×List Bd)×Z
 | 0,_,sigs,binds,z=>((sigs,binds),z)
 | f+1,n,sigs,binds,z=>if(bI bA n z).1=true then eO deep f (n+1) (aS ex sigs binds deep (bI bA n z).2).1.1 (aS ex sigs binds deep (bI bA n z).2).1.2 (aS ex sigs binds deep (bI bA n z).2).2 else((sigs,binds),(bI bA n z).2)
end
def j6 (b:Bd) (s:Sch):Bd:=.mk b.name b.pl true s b.body
def cO:List Sg→List Bd→Z→List Bd×Z
 | [],b,z=>(b,z)
 | s::l,b,z=>if z.e=0 then(match b.findIdx? (fun x=>decide (x.name=s.name)) with
   | none=>cO l b (bR 21 s.pl z)
   | some k=>match b[k]? with
    | none=>(b,z)
    | some x=>if x.has=true then cO l b (bR 20 s.pl z) else cO l (b.set k (j6 x s.ty)) z)
  else(b,z)
section
variable (ex:Nat→Z→Ex×Z)
def l8 (deep:Nat) (z:Z):(List Sg×List Bd)×Z:=eO ex (deep+1) ((aQ dQ z).R.length+1) 0 [] [] (aQ dQ z)
def aCo (y:(List Sg×List Bd)×Z):List Bd×Z:=cO y.1.1 y.1.2 (aQ bA y.2)
def letE (at':Int) (bs:List Bd) (b:Ex):Ex:=.mk 6 at' 0 [] [b] [] bs iJ
def r1 (at':Int) (deep:Nat) (z:Z):Ex×Z:=(letE at' (aCo (l8 ex deep z)).1 (ex (deep+1) (aQ inS (aCo (l8 ex deep z)).2)).1,(ex (deep+1) (aQ inS (aCo (l8 ex deep z)).2)).2)
def eN (deep:Nat):Nat→Nat→List Pt→List Ex→Z→(List Pt×List Ex)×Z
 | 0,_,ps,ks,z=>((ps,ks),z)
 | f+1,n,ps,ks,z=>if(bI bA n z).1=true then eN deep f (n+1) (ps++[(gF (3*(bI bA n z).2.R.length+1) 0 (bI bA n z).2).1]) (ks++[(ex (deep+1) (aQ arrow (gF (3*(bI bA n z).2.R.length+1) 0 (bI bA n z).2).2)).1]) (ex (deep+1) (aQ arrow (gF (3*(bI bA n z).2.R.length+1) 0 (bI bA n z).2).2)).2
  else((ps,ks),(bI bA n z).2)
def cP (deep:Nat) (z:Z):Ex×Z:=((ex (deep+1) z).1,aQ dQ (aQ ofS (ex (deep+1) z).2))
def fM (deep:Nat) (y:Ex×Z):(List Pt×List Ex)×Z:=eN ex deep (y.2.R.length+1) 0 [] [y.1] y.2
def aKl (at':Int) (ps:List Pt) (ks:List Ex):Ex:=.mk 7 at' 0 [] ks ps [] iJ
def gM (at':Int) (deep:Nat) (z:Z):Ex×Z:=(aKl at' (fM ex deep (cP ex deep z)).1.1 (fM ex deep (cP ex deep z)).1.2,
 if(fM ex deep (cP ex deep z)).1.1=[] then bR 12 (b4 (fM ex deep (cP ex deep z)).2).pl (aQ bA (fM ex deep (cP ex deep z)).2) else aQ bA (fM ex deep (cP ex deep z)).2)
def aW4 (at':Int) (e:Ex) (s:Sch):Ex:=.mk 8 at' 0 [] [e] [] [] s
def pZ (at':Int) (y:Ex×Z):Ex×Z:=if(bP eP y.2).1=true then(aW4 at' y.1 (bN (bP eP y.2).2).1,(bN (bP eP y.2).2).2) else(y.1,(bP eP y.2).2)
def fE (deep:Nat) (z:Z):Ex×Z:=eZ ex deep (b4 z).pl (z.R.length+1) (gS ex deep z).1.1 (if(gS ex deep z).1.2=false then bR 12 (b4 z).pl (gS ex deep z).2 else(gS ex deep z).2)
def vJ (deep:Nat) (z:Z):Ex×Z:=
 if ¬z.e=0 then(zEx,z)
 else if 40<deep then(zEx,bR 13 (b4 z).pl z)
 else if(bP v8 z).1=true then r2 ex (b4 z).pl deep (bP v8 z).2
 else if(bP v7 z).1=true then r1 ex (b4 z).pl deep (bP v7 z).2
 else if(bP kD z).1=true then gM ex (b4 z).pl deep (bP kD z).2
 else pZ (b4 z).pl (fE ex deep z)
end
def aCw:Nat→Nat→Z→Ex×Z
 | 0=>fun _ z=>(zEx,bR 12 0 z)
 | f+1=>vJ (aCw f)
structure SchOk (s:Sch):Prop where
 t:WF s.ty∧tn s.ty≤30000
 p:∀p∈s.preds,WF p.ty∧tn p.ty≤30000
 l:s.preds.length≤4001
 v:s.vars.length≤120060000
theorem SchOk.z:SchOk iJ:=⟨⟨⟨rfl,rfl⟩,by unfold iJ zTy;rw[tn,tns];decide⟩,fun p hp=>(by cases hp),Ad _,Ad _⟩
mutual
def iX:Ex→Prop
 | .mk f _ _ _ ks ps bs s=>(ks.length≤4002∧ps.length≤4002∧bs.length≤4002)∧SchOk s∧((f=4→ks.length=2)∧(f=5∨f=6∨f=8→ks.length=1)∧(f=7→ks.length=ps.length+1))∧x5 ps∧o8 ks∧eY bs
def o8:List Ex→Prop
 | []=>True
 | e::l=>iX e∧o8 l
def aU3:Bd→Prop
 | .mk _ _ _ s e=>SchOk s∧iX e
def eY:List Bd→Prop
 | []=>True
 | b::l=>aU3 b∧eY l
end
theorem pN:∀{l:List Ex}{p:Ex},o8 l→iX p→o8 (l++[p])
 | [],_,_,h=>⟨h,trivial⟩
 | _::_,_,h,k=>⟨h.1,pN h.2 k⟩
theorem mO:∀{l:List Bd}{p:Bd},eY l→aU3 p→eY (l++[p])
 | [],_,_,h=>⟨h,trivial⟩
 | _::_,_,h,k=>⟨h.1,mO h.2 k⟩
theorem gO:∀{l:List Bd},eY l↔∀b∈l,aU3 b
 | []=>⟨fun _ b hb=>(by cases hb),fun _=>trivial⟩
 | a::l=>⟨fun h b hb=>by
   rcases Au.1 hb with rfl | hb
   ·exact h.1
   ·exact gO.1 h.2 b hb,fun h=>⟨h a Bu,gO.2 fun b hb=>h b (Bh _ hb)⟩⟩
theorem iX.z:iX zEx:=⟨⟨Ad _,Ad _,Ad _⟩,.z,⟨fun h=>by omega,fun h=>by omega,fun h=>by omega⟩,trivial,trivial,trivial⟩
theorem yW:∀l:List Tk,x5 (fR l)
 | []=>trivial
 | _::l=>⟨⟨Ad _,trivial⟩,yW l⟩
theorem oN (l:List Tk):(fR l).length=l.length:=χ _
theorem fV {L:List Tk}{z:Z}(h:ZA L z) (hwt:wt L≤30000):ZA L (bN z).2∧SchOk (bN z).1∧((bN z).2.e=0→(bN z).2.R.length<z.R.length)∧Ze z (bN z).2:=by
 refine⟨h.scheme,?_⟩;have hw:=h.wt;have hl:=h.len;unfold bN;split
 ·rename_i he;have g:= @n3 z.R;cases hs:cH z.R with
  | error e=>
   obtain⟨e,p⟩:=e;exact⟨.z,fun h0=>absurd h0 (g hs),Ze.refl z⟩
  | ok y=>
   obtain⟨s,R'⟩:=y;obtain⟨_,⟨p,h2,I⟩,A,J,q,M,B⟩:=aMi hs;have u:R'.length<z.R.length:=by rw[h2,η];omega
   refine⟨⟨⟨A,by show tn s.ty≤_;omega⟩,fun p hp=>⟨(q p hp).1,by have:=(q p hp).2;omega⟩,by show s.preds.length≤_;omega,?_⟩,fun _=>u,Cy u⟩;show s.vars.length≤_;rw[B];unfold aQ8;have E:=vC (W:=30000) s.preds [] (fun p hp=>by have:=(q p hp).2;omega);have O:=iT (tfR s.ty) (gP [] s.preds);have U:=lU s.ty;have Y:s.preds.length*30000≤4001*30000:=Av _ (by omega);rw[length_nil] at E;omega
 ·rename_i he;exact⟨.z,fun h0=>absurd h0 he,Ze.refl z⟩
def ExO (L:List Tk) (ex:Nat→Z→Ex×Z):Prop:=∀deep z,ZA L z→ZA L (ex deep z).2∧iX (ex deep z).1∧((ex deep z).2.e=0→(ex deep z).2.R.length<z.R.length)∧Ze z (ex deep z).2
section
variable {L:List Tk}{ex:Nat→Z→Ex×Z}(hO:ExO L ex) (hwt:wt L≤30000)
include hO
theorem iR (deep:Nat) {z:Z}(h:ZA L z):ZA L (gS ex deep z).2∧iX (gS ex deep z).1.1∧((gS ex deep z).1.2=true→(gS ex deep z).2.e=0→(gS ex deep z).2.R.length<z.R.length)∧Ze z (gS ex deep z).2:=by
 unfold gS;split
 ·exact⟨h,iX.z,fun e=>Bool.noConfusion e,Ze.refl z⟩
 split
 ·rename_i u;have:=oQ h;refine⟨h.tlp (sK u),?_,fun _ _=>this,Cy this⟩;unfold nJ;split
  ·exact⟨⟨Ad _,Ad _,Ad _⟩,.z,⟨fun h=>by omega,fun h=>by omega,fun h=>by omega⟩,trivial,trivial,trivial⟩
  ·exact⟨⟨Ad _,Ad _,Ad _⟩,.z,⟨fun h=>by omega,fun h=>by omega,fun h=>by omega⟩,trivial,trivial,trivial⟩
 split
 ·exact⟨h,iX.z,fun e=>Bool.noConfusion e,Ze.refl z⟩
 ·obtain⟨g,y,B,A⟩:=hO (deep+1) _ (h.may cE);have q:=((Ze.may cE z).trans A)
  exact⟨g.need _,y,fun _ e=>A8 (xR g e) q,q.trans (Ze.need _ _)⟩
theorem oJ (deep:Nat) (a:Int):∀(f:Nat) (e:Ex) (z:Z),ZA L z→iX e→ZA L (eZ ex deep a f e z).2∧iX (eZ ex deep a f e z).1∧Ze z (eZ ex deep a f e z).2
 | 0,e,z,h,he=>⟨h,he,Ze.refl z⟩
 | f+1,e,z,h,he=>by
  rw[eZ];obtain⟨g,u,_,q⟩:=iR hO deep h;split
  ·split
   ·exact⟨g,he,q⟩
   ·obtain⟨y,A,B⟩:=oJ deep a f (aL1 a e (gS ex deep z).1.1) _ g ⟨⟨show 2≤4002 by decide,Ad _,Ad _⟩,.z,⟨fun _=>rfl,fun h=>by omega,fun h=>by omega⟩,trivial,⟨he,u,trivial⟩,trivial⟩;exact⟨y,A,q.trans B⟩
  ·exact⟨h,he,Ze.refl z⟩
omit hO in
theorem eT {z:Z}(h:ZA L z):(aZ z).1.length≤4001:=by
 unfold aZ;split
 ·have:=nN qF z.R;have:=h.len;dsimp only;omega
 ·exact Ad _
omit hO in
theorem aFu {a:Int}{l:List Tk}{b:Ex}(hl:l.length≤4001) (hb:iX b):iX (aSm a l b):=⟨⟨show 1≤4002 by decide,by rw[oN];omega,Ad _⟩,.z,⟨fun h=>by omega,fun _=>rfl,fun h=>by omega⟩,yW l,⟨hb,trivial⟩,trivial⟩
omit hO in
theorem xX (a:Int) {z:Z}(h:ZA L z):ZA L (r3 a z).2∧(r3 a z).1.length≤4001∧Ze z (r3 a z).2:=by
 unfold r3;refine⟨?_,eT h,?_⟩
 ·refine ZA.need (ZA.long ?_ _ _ _) _;split
  ·exact h.words.fail _ _
  ·exact h.words
 ·refine Ze.trans ?_ ((Ze.long _ _ _ _).trans (Ze.need _ _));split
  ·exact(Ze.words z).trans (Ze.fail _ _ _)
  ·exact Ze.words z
theorem aO1 (a:Int) (deep:Nat) {z:Z}(h:ZA L z):ZA L (r2 ex a deep z).2∧iX (r2 ex a deep z).1∧((r2 ex a deep z).2.e=0→(r2 ex a deep z).2.R.length<z.R.length)∧Ze z (r2 ex a deep z).2:=by
 obtain⟨h1,h2,g⟩:=xX a h;obtain⟨q,u,y,A⟩:=hO (deep+1) _ h1;exact⟨q,aFu h2 u,fun e=>A8 (y e) g,g.trans A⟩
omit hO in
theorem tI (g:Tk) {z:Z}(h:ZA L z):ZA L (fH g z).2∧(fH g z).1.length≤4001∧Ze z (fH g z).2:=
 ⟨(h.words.long _ _ _).need _,eT h,(Ze.words z).trans ((Ze.long _ _ _ _).trans (Ze.need _ _))⟩
theorem tH (g:Tk) (deep:Nat) {z:Z}(h:ZA L z):ZA L (dP ex g deep z).2∧aU3 (dP ex g deep z).1∧((dP ex g deep z).2.e=0→(dP ex g deep z).2.R.length<z.R.length)∧Ze z (dP ex g deep z).2:=by
 obtain⟨h1,h2,q⟩:=tI g h;obtain⟨y,u,A,B⟩:=hO deep _ h1;refine⟨y,⟨.z,?_⟩,fun e=>A8 (A e) q,q.trans B⟩;unfold wH;split
 ·exact u
 ·rename_i t l hl;rw[hl] at h2;exact aFu h2 u
end
def fS (l:List Sg):Prop:=∀s∈l,SchOk s.ty
theorem aEh {l:List Sg}{s:Sg}(h:fS l) (k:SchOk s.ty):fS (l++[s]):=fun x hx=>by
 rcases Ay.1 hx with hx | hx
 ·exact h x hx
 ·rw[Ar.1 hx];exact k
theorem fF {s:Str}{n:Nat}{z:Z}(h:(bI s n z).1=true):(bI s n z).2.e=0∧n+1≤60:=by
 unfold bI at h ⊢;split
 ·rename_i hc;rw[θ hc] at h;cases h
 ·rename_i hc;rw[ξ hc] at h;have h:=κ h;refine⟨h,?_⟩;unfold cI at h;split at h
  ·exact(cS (by decide) h).elim
  ·omega
theorem Ze.semi (z:Z):Ze z (cL z):=by
 unfold cL;split
 ·exact kB _ _
 ·exact Ze.refl z
theorem Ze.more (s:Str) (n:Nat) (z:Z):Ze z (bI s n z).2:=by
 have h1:Ze z (moreA s n z):=by
  unfold moreA;split
  ·exact Ze.fail _ _ z
  ·exact Ze.refl z
 unfold bI;split
 ·exact h1.trans (Ze.semi _)
 ·exact h1.trans ((Ze.semi _).trans (Ze.long _ _ _ _))
theorem nR {b:List Bd}{p:Bd→Bool}{k:Nat}(h:b.findIdx? p=some k):k<b.length:=by
 rw[List.findIdx?_eq_some_iff_getElem] at h;exact h.1
theorem fT {L:List Tk}:∀(l:List Sg) (b:List Bd) (z:Z),ZA L z→fS l→eY b→ZA L (cO l b z).2∧eY (cO l b z).1∧(cO l b z).1.length=b.length∧Ze z (cO l b z).2
 | [],b,z,h,_,hb=>⟨h,hb,rfl,Ze.refl z⟩
 | s::l,b,z,h,hs,hb=>by
  have hl:fS l:=fun x hx=>hs x (Bh _ hx)
  rw[cO];split
  ·split
   ·obtain⟨g,q,u,A⟩:=fT l b (bR 21 s.pl z) (h.fail _ _) hl hb;exact⟨g,q,u,(Ze.fail _ _ _).trans A⟩
   ·rename_i k E;split
    ·exact⟨h,hb,rfl,Ze.refl z⟩
    ·rename_i x hx;split
     ·obtain⟨g,q,u,A⟩:=fT l b (bR 20 s.pl z) (h.fail _ _) hl hb;exact⟨g,q,u,(Ze.fail _ _ _).trans A⟩
     ·have B:eY (b.set k (j6 x s.ty)):=gO.2 fun y hy=>by
       rcases List.mem_or_eq_of_mem_set hy with hy | rfl
       ·exact gO.1 hb y hy
       ·have:=gO.1 hb x (Ag hx);cases x with
        | mk n p hh sg e=>exact⟨hs s Bu,this.2⟩
      obtain⟨g,q,u,A⟩:=fT l (b.set k (j6 x s.ty)) z h hl B;exact⟨g,q,by rw[u,length_set],A⟩
  ·exact⟨h,hb,rfl,Ze.refl z⟩
section
variable {L:List Tk}{ex:Nat→Z→Ex×Z}(hO:ExO L ex) (hwt:wt L≤30000)
include hO hwt
theorem iC (sigs:List Sg) (binds:List Bd) (deep:Nat) {z:Z}(h:ZA L z) (hs:fS sigs) (hb:eY binds):ZA L (aS ex sigs binds deep z).2∧fS (aS ex sigs binds deep z).1.1∧eY (aS ex sigs binds deep z).1.2∧
  (aS ex sigs binds deep z).1.1.length≤sigs.length+1∧(aS ex sigs binds deep z).1.2.length≤binds.length+1∧((aS ex sigs binds deep z).2.e=0→(aS ex sigs binds deep z).2.R.length<z.R.length)∧Ze z (aS ex sigs binds deep z).2:=by
 have h1:=(h.word (k:=1) (by decide)).may eP;have g:=(Ze.word 1 z).trans (Ze.may eP _);unfold aS;split
 ·obtain⟨q,u,y,A⟩:=fV h1 hwt;exact⟨q,aEh hs u,hb,by rw[η,Bj];exact le_refl _,Nat.le_succ _,fun e=>A8 (y e) g,g.trans A⟩
 ·obtain⟨q,u,y,A⟩:=tH hO (b5 1 z).1 deep h1;exact⟨q,hs,mO hb u,Nat.le_succ _,by rw[η,Bj];exact le_refl _,fun e=>A8 (y e) g,g.trans A⟩
theorem sH (deep:Nat):∀(f n:Nat) (sigs:List Sg) (binds:List Bd) (z:Z),ZA L z→fS sigs→eY binds→n≤60→sigs.length≤n→binds.length≤n→ZA L (eO ex deep f n sigs binds z).2∧fS (eO ex deep f n sigs binds z).1.1∧eY (eO ex deep f n sigs binds z).1.2∧
  (eO ex deep f n sigs binds z).1.1.length≤60∧(eO ex deep f n sigs binds z).1.2.length≤60∧Ze z (eO ex deep f n sigs binds z).2
 | 0,n,sigs,binds,z,h,hs,hb,hn,h1,h2=>by rw[eO];exact⟨h,hs,hb,by dsimp only;omega,by dsimp only;omega,Ze.refl z⟩
 | f+1,n,sigs,binds,z,h,hs,hb,hn,h1,h2=>by
  rw[eO];split
  ·rename_i hm;obtain⟨_,g⟩:=fF hm;obtain⟨q,u,y,U,Y,_,A⟩:=iC hO hwt sigs binds deep (h.more bA n) hs hb;obtain⟨B,E,I,J,M,O⟩:=sH deep f (n+1) _ _ _ q u y g (by omega) (by omega);exact⟨B,E,I,J,M,((Ze.more bA n z).trans A).trans O⟩
  ·exact⟨h.more _ _,hs,hb,by dsimp only;omega,by dsimp only;omega,Ze.more _ _ _⟩
theorem aOz (a:Int) (deep:Nat) {z:Z}(h:ZA L z):ZA L (r1 ex a deep z).2∧iX (r1 ex a deep z).1∧((r1 ex a deep z).2.e=0→(r1 ex a deep z).2.R.length<z.R.length)∧Ze z (r1 ex a deep z).2:=by
 obtain⟨q,u,y,g4,A,B⟩:=sH hO hwt (deep+1) ((aQ dQ z).R.length+1) 0 [] [] _ (h.need dQ) (fun s hs=>by cases hs) trivial (by decide) (le_refl _) (le_refl _);obtain⟨E,I,J,M⟩:=fT (l8 ex deep z).1.1 (l8 ex deep z).1.2 (aQ bA (l8 ex deep z).2) (q.need _) u y;have g:=((((Ze.need dQ z).trans B).trans (Ze.need bA _)).trans M).trans (Ze.need inS _);obtain⟨O,U,Y,m4⟩:=hO (deep+1) _ (E.need inS);have k3':(aCo (l8 ex deep z)).1.length=(l8 ex deep z).1.2.length:=J;have g5':(l8 ex deep z).1.2.length≤60:=A;exact⟨O,⟨⟨show 1≤4002 by decide,Ad _,by omega⟩,.z,⟨fun h=>by omega,fun _=>rfl,fun h=>by omega⟩,trivial,⟨U,trivial⟩,I⟩,fun e=>A8 (Y e) g,g.trans m4⟩
omit hwt in
theorem aBt (deep:Nat):∀(f n:Nat) (ps:List Pt) (ks:List Ex) (z:Z),ZA L z→x5 ps→o8 ks→n≤60→ps.length=n→ks.length=n+1→ZA L (eN ex deep f n ps ks z).2∧x5 (eN ex deep f n ps ks z).1.1∧o8 (eN ex deep f n ps ks z).1.2∧
  (eN ex deep f n ps ks z).1.1.length≤60∧(eN ex deep f n ps ks z).1.2.length=(eN ex deep f n ps ks z).1.1.length+1∧Ze z (eN ex deep f n ps ks z).2
 | 0,n,ps,ks,z,h,hp,g,hn,h1,h2=>by rw[eN];exact⟨h,hp,g,by dsimp only;omega,by dsimp only;omega,Ze.refl z⟩
 | f+1,n,ps,ks,z,h,hp,g,hn,h1,h2=>by
  rw[eN];split
  ·rename_i hm;obtain⟨_,q⟩:=fF hm;obtain⟨u,y,_,A⟩:=(gE L (3*(bI bA n z).2.R.length+1)).2.1 0 _ (h.more bA n);obtain⟨B,E,_,I⟩:=hO (deep+1) _ (u.need arrow);obtain⟨J,M,O,U,Y,k6⟩:=aBt deep f (n+1) (ps++[(gF (3*(bI bA n z).2.R.length+1) 0 (bI bA n z).2).1]) (ks++[(ex (deep+1) (aQ arrow (gF (3*(bI bA n z).2.R.length+1) 0 (bI bA n z).2).2)).1]) _ B (oE hp y) (pN g E) q (by rw[η,h1];rfl) (by rw[η,h2];rfl);exact⟨J,M,O,U,Y,((((Ze.more bA n z).trans A).trans (Ze.need _ _)).trans I).trans k6⟩
  ·exact⟨h.more _ _,hp,g,by dsimp only;omega,by dsimp only;omega,Ze.more _ _ _⟩
omit hwt in
theorem aKk (a:Int) (deep:Nat) {z:Z}(h:ZA L z):ZA L (gM ex a deep z).2∧iX (gM ex a deep z).1∧((gM ex a deep z).2.e=0→(gM ex a deep z).2.R.length<z.R.length)∧Ze z (gM ex a deep z).2:=by
 obtain⟨E,I,m3,J⟩:=hO (deep+1) z h;have h1:ZA L (cP ex deep z).2:=(E.need ofS).need dQ;have y:Ze z (cP ex deep z).2:=(J.trans (Ze.need ofS _)).trans (Ze.need dQ _);obtain⟨g,M,O,U,Y,q⟩:=aBt hO deep ((cP ex deep z).2.R.length+1) 0 [] [(cP ex deep z).1] _ h1 trivial ⟨I,trivial⟩ (by decide) rfl rfl;have g:ZA L (fM ex deep (cP ex deep z)).2:=g;have q:Ze (cP ex deep z).2 (fM ex deep (cP ex deep z)).2:=q;have aa:(fM ex deep (cP ex deep z)).1.1.length≤60:=U;have A:(fM ex deep (cP ex deep z)).1.2.length=(fM ex deep (cP ex deep z)).1.1.length+1:=Y;have hex:iX (gM ex a deep z).1:=⟨⟨by omega,by omega,Ad _⟩,.z,⟨fun h=>by omega,fun h=>by omega,fun _=>A⟩,M,O,trivial⟩
 have h2:=g.need bA;have B:(aQ bA (fM ex deep (cP ex deep z)).2).e=0→(aQ bA (fM ex deep (cP ex deep z)).2).R.length<z.R.length:=fun e=>A8 (xR g e) (y.trans q)
 have u:Ze z (aQ bA (fM ex deep (cP ex deep z)).2):=(y.trans q).trans (Ze.need _ _);unfold gM at hex ⊢;dsimp only at hex ⊢;split
 ·exact⟨h2.fail _ _,hex,fun e=>(cS (by decide) e).elim,u.trans (Ze.fail _ _ _)⟩
 ·exact⟨h2,hex,B,u⟩
omit hO in
theorem aQx (a:Int) {y:Ex×Z}(h:ZA L y.2) (he:iX y.1):ZA L (pZ a y).2∧iX (pZ a y).1∧Ze y.2 (pZ a y).2:=by
 unfold pZ;split
 ·obtain⟨g,q,_,u⟩:=fV (h.may eP) hwt;exact⟨g,⟨⟨show 1≤4002 by decide,Ad _,Ad _⟩,q,⟨fun h=>by omega,fun _=>rfl,fun h=>by omega⟩,trivial,⟨he,trivial⟩,trivial⟩,(Ze.may eP _).trans u⟩
 ·exact⟨h.may eP,he,Ze.may eP _⟩
omit hwt in
theorem uR (deep:Nat) {z:Z}(h:ZA L z):ZA L (fE ex deep z).2∧iX (fE ex deep z).1∧Ze z (fE ex deep z).2:=by
 obtain⟨y,A,E,B⟩:=iR hO deep h;unfold fE;split
 ·obtain⟨g,q,u⟩:=oJ hO deep (b4 z).pl (z.R.length+1) _ _ (y.fail 12 (b4 z).pl) A;exact⟨g,q,(B.trans (Ze.fail _ _ _)).trans u⟩
 ·obtain⟨g,q,u⟩:=oJ hO deep (b4 z).pl (z.R.length+1) _ _ y A;exact⟨g,q,B.trans u⟩
end
theorem aQv {ex:Nat→Z→Ex×Z}{deep:Nat}{a:Int}{f:Nat}{e:Ex}{z:Z}(h:(eZ ex deep a f e z).2.e=0):z.e=0:=by
 cases f with
 | zero=>exact h
 | succ f=>
  rw[eZ] at h;split at h
  ·assumption
  ·exact h
theorem aUn {a:Int}{y:Ex×Z}(h:(pZ a y).2.e=0):y.2.e=0:=by
 unfold pZ at h;split at h
 ·unfold bN at h;split at h
  ·rename_i he;rwa [gV] at he
  ·rwa [gV] at h
 ·rwa [gV] at h
theorem aPd {L:List Tk}{ex:Nat→Z→Ex×Z}(hO:ExO L ex) (hwt:wt L≤30000):ExO L (vJ ex):=by
 intro deep z h;unfold vJ;split
 ·rename_i he;exact⟨h,iX.z,fun e=>absurd e he,Ze.refl z⟩
 split
 ·exact⟨h.fail _ _,iX.z,fun e=>(cS (by decide) e).elim,Ze.fail _ _ _⟩
 split
 ·obtain⟨g,q,u,y⟩:=aO1 hO (b4 z).pl deep (h.may v8);have l:=Ze.may v8 z;exact⟨g,q,fun e=>A8 (u e) l,l.trans y⟩
 split
 ·obtain⟨g,q,u,y⟩:=aOz hO hwt (b4 z).pl deep (h.may v7);have l:=Ze.may v7 z;exact⟨g,q,fun e=>A8 (u e) l,l.trans y⟩
 split
 ·obtain⟨g,q,u,y⟩:=aKk hO (b4 z).pl deep (h.may kD);have l:=Ze.may kD z;exact⟨g,q,fun e=>A8 (u e) l,l.trans y⟩
 ·obtain⟨g,q,u⟩:=uR hO deep h;obtain⟨I,J,A⟩:=aQx hwt (b4 z).pl g q;refine⟨I,J,fun e=>?_,u.trans A⟩;have E:=aUn e;obtain⟨M,O,U,o4⟩:=iR hO deep h;unfold fE at E A ⊢;have B:=aQv E;split at B
  ·exact(cS (by decide) B).elim
  ·rename_i hs;have hs:(gS ex deep z).1.2=true:=by simpa using hs
   rw[ξ (by rw[hs];exact fun k=>Bool.noConfusion k)] at A ⊢;obtain⟨_,_,Y⟩:=oJ hO deep (b4 z).pl (z.R.length+1) _ _ M O;exact By (Y.trans A) (U hs B)
theorem k8 {L:List Tk}(hwt:wt L≤30000):∀f,ExO L (aCw f)
 | 0=>fun deep z h=>⟨h.fail _ _,iX.z,fun e=>(cS (by decide) e).elim,Ze.fail _ _ _⟩
 | f+1=>aPd (k8 hwt f) hwt
def aIu:List C:=[.int .i64 0,.int .i64 0,.int .i64 0,.str [],.nl,.nl,.nl,.nl,.nl,.nl,.int .i64 0,.int .i64 0,.str [],.nl,.nl]
theorem aA8 (l:List Tk) (hl:l.length≤4001):aV Tryz.prog 80 [.one (.c (.sl 4 (l.map aI)))] [] (.one (.c (.sl 10 ((fR l).map bO)))) []:=by
 have q:(l.map aI).length=l.length:=χ _;refine bF (n:=26) tok Tryz.func80 rfl rfl rfl ?_;refine sg rfl (sg rfl (AWp.sub (Sub.own (t:=3) (id:=500) 43 10 rfl rfl) ?_));refine aA (sg rfl (aE (aL (fun i:Nat=>mk [(0,.one (.c (.sl 4 (l.map aI)))),(3,.one (.hs 500 0 i i)),(4,I .i64 (i:Nat))] [(500,.arr 43 10 ((fR (l.take i)).map bO) 0)]) (fun i=>i≤l.length) (fun i=>l.length-i) 0 (Ad _) sl ?_)));intro i hi;have g:((fR (l.take i)).map bO).length=i:=by rw[χ,oN,Aj];omega
 refine aA (sg rfl (aB rfl (fun hb=>?_) (fun hb=>?_)))
 ·have u:=ltD hb q;obtain⟨t,y⟩:=aM u;have E:=bB aI y;have A:(fR (l.take (i+1))).map bO=(fR (l.take i)).map bO++[bO (.mk 2 t.pl 0 t.text [])]:=by
   unfold fR;rw[Bg,y,Ai,Ai];rfl
  exact aD (aA (aE (ag [(3,.row i (aI t)),(8,.row i (aI t)),(12,.all)] rfl (agN [] rfl ⟨i+1,u,by dsimp only;omega,sl (he:=⟨rfl,Go.AM.hs_ren (congrArg (· +1) g) (congrArg (· +1) g),rfl,trivial⟩) (hh:=⟨⟨_,rfl,.arrS A.symm⟩,trivial⟩)⟩))))
 ·have B:=geD hb q hi;subst B;rw[Ao] at g ⊢;refine aG (AWp.sub (Sub.freeze (id:=500) rfl) ?_);exact sg rfl (aF (rtH (hsz:=g.symm) (hlen:=g.symm)))
def ExS (L:List Tk) (ex:Nat→Z→Ex×Z) (N:Nat):Prop:=∀(deep:Nat) (z:Z),ZA L z→z.R.length≤N→deep≤41→aV Tryz.prog 20 [xP,I .i64 (deep:Nat)] [(700,zO L z)] (.pa (bC (ex deep z).1)) [(700,zO L (ex deep z).2)]
section
variable {L:List Tk}{ex:Nat→Z→Ex×Z}{N:Nat}(hO:ExO L ex) (hS:ExS L ex N)
include hO hS
theorem aM9 (deep:Nat) {z:Z}(h:ZA L z) (hN:z.R.length≤N+1) (hd:deep≤40):aV Tryz.prog 42 [xP,I .i64 (deep:Nat)] [(700,zO L z)] (.tup [.pa (bC (gS ex deep z).1.1),B (gS ex deep z).1.2]) [(700,zO L (gS ex deep z).2)]:=by
 have ho:=iG L z;unfold gS;by_cases he:z.e=0
 case neg=>
  rw[θ he];rw[ψ he] at ho;refine bF (n:=56) tok Tryz.func42 rfl rfl rfl ?_;refine sg rfl (aA (sk 1 rfl (kc ho ?_)));exact kz 1 rfl (aB rfl (fun _=>sg rfl (aF oD)) (fun hb=>Bool.noConfusion hb))
 rw[ξ (fun k=>k he)];rw[φ he] at ho;have hn:=fP h;have hm:=mM h cE;have aa:=h.l;refine bF (n:=56) tok Tryz.func42 rfl rfl rfl ?_;refine sg rfl (aA (sk 1 rfl (kc ho ?_)));refine kz 1 rfl (aB rfl (fun hb=>Bool.noConfusion hb) (fun _=>aD (sk 1 rfl (kc hn ?_))));refine kz 2 rfl ?_;by_cases g:0<(b4 z).kind∧(b4 z).kind<4
 ·rw[θ g];obtain⟨_,M⟩:=h.tl (sK g) z.e z.p;have Y:zO L (tlZ z)=.var 60 [.c (.sl 4 (L.map aI)),.c (.int .i64 ((L.length-z.R.length+1:Nat):Int)),.c (.int .i64 z.e),.c (.int .i64 z.p)]:=by
   unfold zO tlZ;dsimp only;rw[M]
  rw[Y];have d1:decide ((0:Int)<(b4 z).kind)=true:=φ g.1;have d2:decide ((b4 z).kind<(4:Int))=true:=φ g.2;refine aA (sgh [(3,.bv true),(7,.bv true)] rfl (aB rfl (fun _=>?_) (fun hb=>absurd (hb.symm.trans d2) Bool.noConfusion)));unfold zO nJ;refine aA (agN [] rfl (aA (sg rfl (aB rfl (fun hb=>?_) (fun hb=>?_)))))
  ·rw[θ (κ hb)];exact sg rfl (aF oD)
  ·rw[ξ (Ae hb)];exact aD (sg rfl (aF oD))
 rw[ξ g];refine aA (aA (AWp.cut (mk [(0,xP),(1,I .i64 (deep:Nat)),(4,.one (.vp 4 0)),(21,B false)] [(700,zO L z),(4,.var 35 (aIu.map .c))]) ?_ ?_))
 ·by_cases k0:0<(b4 z).kind
  ·have d2:decide ((b4 z).kind<(4:Int))=false:=ψ (fun k=>g ⟨k0,k⟩);have d1:decide ((0:Int)<(b4 z).kind)=true:=φ k0;refine ag [(3,.bv true),(7,.bv true)] rfl ?_;rw[d2];exact sl
  ·have d1:decide ((0:Int)<(b4 z).kind)=false:=ψ k0;exact ag [(3,.bv false),(7,.bv false)] rfl sl
 refine aB rfl (fun hb=>Bool.noConfusion hb) (fun _=>aD ?_);have q:=eR (s:=cE) h;have h1:=h.may cE;have E:(bP cE z).1=false→(bP cE z).2=z:=fun hb=>by
  unfold bP at hb ⊢;split
  ·rename_i hc;rw[θ hc] at hb;cases hb
  ·rfl
 generalize bP cE z=m at hm q h1 E ⊢;obtain⟨b,u⟩:=m;refine aA (sk 1 rfl (kc hm ?_));refine kz 1 rfl ?_;cases b with
 | false=>
  have O:u=z:=E rfl;subst O;rw[θ rfl];exact aB rfl (fun _=>sg rfl (aF oD)) (fun hb=>Bool.noConfusion hb)
 | true=>
  rw[ξ (show ¬(true=false) from fun k=>Bool.noConfusion k)];have q:u.R.length<z.R.length:=q rfl;dsimp only at h1 ⊢;have A:=hS (deep+1) u h1 (by omega) (by omega);obtain⟨J,_⟩:=hO (deep+1) u h1;generalize ex (deep+1) u=y at A J ⊢;obtain⟨e,z2⟩:=y;dsimp only at A J ⊢;have U:=fN J lX;refine aB rfl (fun hb=>Bool.noConfusion hb) (fun _=>aD (aA (aC mixed (akN 3 [] rfl (kc A ?_)))));refine kz 2 rfl (sk 1 rfl (kc U ?_));exact az (sg rfl (aF oD))
end
section
variable {L:List Tk}{ex:Nat→Z→Ex×Z}{N:Nat}(hS:ExS L ex N)
include hS
theorem aTt (a:Int) (deep:Nat) {z:Z}(h:ZA L z) (hN:z.R.length≤N) (hd:deep≤40):aV Tryz.prog 39 [xP,I .i64 a,I .i64 (deep:Nat)] [(700,zO L z)] (.pa (bC (r2 ex a deep z).1)) [(700,zO L (r2 ex a deep z).2)]:=by
 obtain⟨g1,A,g3⟩:=xX a h;have g:=hS (deep+1) (r3 a z).2 g1 (le_trans g3 hN) (by omega);unfold r2;generalize hy:ex (deep+1) (r3 a z).2=y at g ⊢;obtain⟨b,z6⟩:=y;dsimp only at g ⊢;unfold r3 at g A ⊢;dsimp only at g A ⊢;have B:=aA6 h;have h1:=h.words;generalize aZ z=w at g A B h1 ⊢;obtain⟨l,E⟩:=w;dsimp only at g A B h1 ⊢;have hn:=fP h1;have O:=eK L E 12 (b4 E).pl;have U:(l.map aI).length=l.length:=χ _;have hv:=aA8 l A;refine bF (n:=34) tok Tryz.func39 rfl rfl rfl ?_;refine sg rfl (sk 1 rfl (kc B ?_));refine kz 1 rfl ?_;have M:∃u,u=(if l=[] then bR 12 (b4 E).pl E else E)∧ZA L u:=⟨_,rfl,by split<;>first | exact h1.fail _ _ | exact h1⟩
 obtain⟨u,q,h2⟩:=M;rw[←q] at g;have J:=yI L u l.length 8 a;have Y:=h2.long l.length 8 a;refine aA (AWp.cut (mk [(0,xP),(1,I .i64 a),(2,I .i64 (deep:Nat)),(6,.one (.vp 6 0)),(7,.one (.c (.sl 4 (l.map aI))))] [(700,zO L u),(6,.var 35 (aIu.map .c))]) ?_ ?_)
 ·refine sg rfl ?_;by_cases hl:l=[]
  ·rw[θ hl] at q;subst hl q;refine aB rfl (fun _=>aC mixed (ak 2 [] rfl (kc hn ?_))) (fun hb=>Bool.noConfusion hb);refine ak 1 [] rfl (kc O ?_);exact az sl
  ·rw[ξ hl] at q;subst q;have d0:decide (((l.map aI).length:Int)=0)=false:=ψ (by have:=length_pos_iff.2 hl;omega);exact aB rfl (fun hb=>absurd (hb.symm.trans d0) Bool.noConfusion) (fun _=>aD sl)
 generalize cI l.length 8 a u=z3 at J Y g;have aa:=fN Y arrow;refine sk 4 rfl ?_;rw[U];refine kc J ?_;refine az (sk 1 rfl (kc aa ?_));refine az (sk 2 rfl (kc hv ?_));refine akN 3 [] rfl (kc g ?_);exact ak 3 [(7,.all)] rfl (az (aF (rtC trw)))
theorem aQb (q:Tk) (deep:Nat) {z:Z}(h:ZA L z) (hN:z.R.length≤N) (U:deep≤41):aV Tryz.prog 124 [xP,tkV q,I .i64 (deep:Nat)] [(700,zO L z)] (.pa (b8 (dP ex q deep z).1)) [(700,zO L (dP ex q deep z).2)]:=by
 obtain⟨Y,u,g3⟩:=tI q h;have g:=hS deep (fH q z).2 Y (le_trans g3 hN) U;unfold dP;generalize hy:ex deep (fH q z).2=y at g ⊢;obtain⟨b,z6⟩:=y;dsimp only at g ⊢;unfold fH at g u ⊢;dsimp only at g u ⊢;have A:=aA6 h;have h1:=h.words;generalize aZ z=w at g u A h1 ⊢;obtain⟨l,J⟩:=w;dsimp only at g u A h1 ⊢;have B:(l.map aI).length=l.length:=χ _;have hv:=aA8 l u;have E:=yI L J l.length 8 q.pl;have M:=h1.long l.length 8 q.pl;generalize cI l.length 8 q.pl J=z3 at E M g;have O:=fN M eqS;refine bF (n:=40) tok Tryz.func124 rfl rfl rfl ?_;refine sg rfl (sk 1 rfl (kc A ?_));refine kz 1 rfl (sk 5 rfl ?_);rw[B];refine kc E ?_;refine az (sk 1 rfl (kc O ?_));refine az (sk 2 rfl (kc g ?_));refine kz 2 rfl (aA (sg rfl ?_));cases l with
 | nil=>
  exact aB rfl (fun hb=>Bool.noConfusion hb) (fun _=>aD (sg rfl (aF (rtC trw))))
 | cons t l=>
  have d0:decide ((0:Int)<(((t::l).map aI).length:Int))=true:=φ (by rw[B,Aa];omega);have ht:((t::l).map aI)[0]?=some (aI t):=rfl;refine aB rfl (fun _=>aC mixed (ak 5 [(1,.row 0 (aI t))] rfl (kc hv ?_))) (fun hb=>absurd (hb.symm.trans d0) Bool.noConfusion);exact ak 4 [(7,.all)] rfl (az (sg rfl (aF (rtC trw))))
end
def sgA (l:List Sg) (f:Nat):AObj:=.arr 121 9 (l.map cT) f
def bdA (l:List Bd) (f:Nat):AObj:=.arr 103 33 (l.map b8) f
def hsV (id n:Nat):V:=.one (.hs id 0 n n)
section
variable {L:List Tk}{ex:Nat→Z→Ex×Z}{N:Nat}(hS:ExS L ex N) (hwt:wt L≤30000)
include hS hwt
theorem aHa (sigs:List Sg) (binds:List Bd) (deep:Nat) {z:Z}(h:ZA L z) (hN:z.R.length≤N) (hd:deep≤41) (h1:sigs.length≤4001) (h2:binds.length≤4001):
  aV Tryz.prog 82 [xP,hsV 510 sigs.length,hsV 511 binds.length,I .i64 (deep:Nat)] [(700,zO L z),(510,sgA sigs 0),(511,bdA binds 0)]
   (.tup [hsV 510 (aS ex sigs binds deep z).1.1.length,hsV 511 (aS ex sigs binds deep z).1.2.length]) [(700,zO L (aS ex sigs binds deep z).2),(510,sgA (aS ex sigs binds deep z).1.1 0),(511,bdA (aS ex sigs binds deep z).1.2 0)]:=by
 have hw:=aGq h 1 (by decide);have B:=h.word (k:=1) (by decide);have U:=Ze.word 1 z;have M:(sigs.map cT).length=sigs.length:=χ _;have O:(binds.map b8).length=binds.length:=χ _;unfold aS;generalize b5 1 z=w at hw B U ⊢;obtain⟨q,z1⟩:=w;dsimp only at hw B U ⊢;have hm:=mM B eP;have E:=B.may eP;have Y:=Ze.may eP z1;generalize bP eP z1=m at hm E Y ⊢;obtain⟨b,z2⟩:=m;dsimp only at hm E Y ⊢;refine bF (n:=34) tok Tryz.func82 rfl rfl rfl ?_;refine sg rfl (sk 1 rfl (kc hw ?_));refine kz 2 rfl (aA (sk 1 rfl (kc hm ?_)));refine az ?_;cases b with
 | true=>
  rw[θ rfl];have u:=wA E hwt;generalize bN z2=y at u ⊢;obtain⟨s,z3⟩:=y;dsimp only at u ⊢;have g:sigs.map cT++[cT ⟨q.text,q.pl,s⟩]=(sigs++[(⟨q.text,q.pl,s⟩:Sg)]).map cT:=by rw[Ai];rfl
  have hle:(sigs++[(⟨q.text,q.pl,s⟩:Sg)]).length=sigs.length+1:=by rw[η];rfl
  generalize sigs++[(⟨q.text,q.pl,s⟩:Sg)]=S at g hle ⊢;refine aB rfl (fun _=>sk 6 rfl (kc u ?_)) (fun hb=>Bool.noConfusion hb);refine ak 6 [(8,.all)] rfl (az (AWp.sub (st2:=mk [(8,hsV 510 S.length),(9,hsV 511 binds.length)] [(700,zO L z3),(510,sgA S 0),(511,bdA binds 0)]) (sl (he:=⟨Go.AM.hs_ren (by rw[hle,←M];rfl) (by rw[hle,←M];rfl),rfl,trivial⟩) (hh:=⟨⟨_,rfl,.var rfl⟩,⟨_,rfl,.arrS g⟩,⟨_,rfl,Go.AM.Ole.arr⟩,trivial⟩)) ?_));exact aF aWy
 | false=>
  rw[ξ ω];have A:=aQb hS q deep E (le_trans (U.trans Y) hN) hd;generalize dP ex q deep z2=y at A ⊢;obtain⟨J,z3⟩:=y;dsimp only at A ⊢;have g:binds.map b8++[b8 J]=(binds++[J]).map b8:=by rw[Ai];rfl
  have hle:(binds++[J]).length=binds.length+1:=by rw[η];rfl
  generalize binds++[J]=S at g hle ⊢;refine aB rfl (fun hb=>Bool.noConfusion hb) (fun _=>aD (sk 5 rfl (kc A ?_)));refine ak 4 [(6,.all)] rfl (az (AWp.sub (st2:=mk [(8,hsV 510 sigs.length),(9,hsV 511 S.length)] [(700,zO L z3),(510,sgA sigs 0),(511,bdA S 0)]) (sl (he:=⟨rfl,Go.AM.hs_ren (by rw[hle,←O];rfl) (by rw[hle,←O];rfl),trivial⟩) (hh:=⟨⟨_,rfl,.var rfl⟩,⟨_,rfl,Go.AM.Ole.arr⟩,⟨_,rfl,.arrS g⟩,trivial⟩)) ?_));exact aF aWy
end
def aCt (p:Bd→Bool) (b:List Bd) (m:Nat):Int:=match (b.drop m).findIdx? p with
 | none=> -1
 | some d=>((m+d:Nat):Int)
theorem aAs (p:Bd→Bool) (b:List Bd):aCt p b b.length= -1:=by unfold aCt;rw[Ct];rfl
theorem vD (p:Bd→Bool) {b:List Bd}{m:Nat}{x:Bd}(h:b[m]?=some x):aCt p b m=if p x=true then(m:Int) else aCt p b (m+1):=by
 obtain⟨h1,h2⟩:=Af.1 h;have g:=A7 h1;rw[h2] at g;unfold aCt;rw[g,List.findIdx?_cons];by_cases hp:p x=true
 ·rw[θ hp,θ hp];rfl
 ·rw[ξ hp,ξ hp];cases (b.drop (m+1)).findIdx? p with
  | none=>rfl
  | some d=>simp;omega
theorem aPr {L:List Tk}(sigs:List Sg) (binds:List Bd) {z:Z}(h:ZA L z) (h1:sigs.length≤4001) (h2:binds.length≤4001):
  aV Tryz.prog 83 [xP,.one (.c (.sl 9 (sigs.map cT))),hsV 511 binds.length] [(700,zO L z),(511,bdA binds 0)] (hsV 511 binds.length) [(700,zO L (cO sigs binds z).2),(511,bdA (cO sigs binds z).1 0)]:=by
 have hsl:(sigs.map cT).length=sigs.length:=χ _;have g:∃W,W=cO sigs binds z:=⟨_,rfl⟩
 obtain⟨W,g⟩:=g;rw[←g];refine bF (n:=74) tok Tryz.func83 rfl rfl rfl ?_;refine sg rfl (aA (sg rfl (aE (aL (fun q:Nat×List Bd×Z=>mk [(0,xP),(1,.one (.c (.sl 9 (sigs.map cT)))),(2,hsV 511 binds.length),(7,I .i64 (q.1:Nat))] [(700,zO L q.2.2),(511,bdA q.2.1 0)]) (fun q=>q.1≤sigs.length∧ZA L q.2.2∧q.2.1.length=binds.length∧W=cO (sigs.drop q.1) q.2.1 q.2.2) (fun q=>sigs.length-q.1) (0,binds,z) ⟨Ad _,h,rfl,g⟩ sl ?_))));clear g h;rintro⟨i,b,z⟩ ⟨hi,h,u,g⟩;dsimp only at hi h u g ⊢;have hbe:(b.map b8).length=b.length:=χ _;have ho:=iG L z;by_cases y:i<sigs.length
 case neg=>
  have d0:decide ((i:Int)<((sigs.map cT).length:Int))=false:=ψ (by omega);rw[drop_eq_nil_of_le (by omega),cO] at g;refine aA (sgh [(4,.bv false),(7,.bv false)] rfl (aB rfl (fun hb=>Bool.noConfusion hb) (fun _=>aG (sg rfl ?_))));rw[g];exact aF rtT
 have d0:decide ((i:Int)<((sigs.map cT).length:Int))=true:=φ (by omega);obtain⟨s,hs⟩:=aM y;have hs':=bB cT hs;have J:sigs.drop i=s::sigs.drop (i+1):=by
  obtain⟨k1,k2⟩:=Af.1 hs;rw[←k2];exact A7 k1
 rw[J,cO] at g;by_cases he:z.e=0
 case neg=>
  rw[ξ he] at g;rw[ψ he] at ho;refine aA (skh 6 [(4,.bv true)] rfl (kcG ho ?_));refine ak 1 [(4,.bv true),(7,.bv true)] rfl (az (aB rfl (fun hb=>Bool.noConfusion hb) (fun _=>aG (sg rfl ?_))));rw[g];exact aF rtT
 rw[θ he] at g;rw[φ he] at ho;refine aA (skh 6 [(4,.bv true)] rfl (kcG ho ?_));refine ak 1 [(4,.bv true),(7,.bv true)] rfl (az (aB rfl (fun _=>aD (aA (aE (sg rfl (aA (sg rfl (aE (aL (fun m:Nat=>mk [(0,xP),(1,.one (.c (.sl 9 (sigs.map cT)))),(2,hsV 511 binds.length),(7,I .i64 (i:Nat)),(8,I .i64 (aCt (fun x=>decide (x.name=s.name)) b m)),(9,I .i64 ((m:Int)-1))] [(700,zO L z),(511,bdA b 0)]) (fun m=>m≤b.length) (fun m=>m) b.length (le_refl _) (sl (he:=⟨rfl,rfl,rfl,rfl,Go.AM.int_eq (aAs _ b).symm,Go.AM.int_eq (by rw[u]),trivial⟩)) ?_)))))))) (fun hb=>Bool.noConfusion hb)));intro m hm;refine aA (sg rfl (aB rfl (fun hb=>?_) (fun hb=>?_)))
 ·have hm1:1≤m:=by have:=κ hb;omega
  obtain⟨m,rfl⟩:∃k,m=k+1:=⟨m-1,by omega⟩
  obtain⟨x,hx⟩:=aM (l:=b) (k:=m) (by omega);have M:=bB b8 hx;have A:=vD (fun x=>decide (x.name=s.name)) hx;have O:(((m+1:Nat):Int)-1)=(m:Int):=by omega
  rw[O];refine aD (aA (aE (sgh [(4,.row m (b8 x)),(7,.row i (cT s))] rfl (aB rfl (fun hb=>?_) (fun hb=>?_)))))
  ·have hb:decide (x.name=s.name)=true:=hb;rw[θ hb] at A;exact ag [] rfl (ag [] rfl ⟨m,by omega,B5 _,sl (he:=⟨rfl,rfl,rfl,rfl,Go.AM.int_eq A.symm,rfl,trivial⟩)⟩)
  ·have hb:decide (x.name=s.name)=false:=hb;rw[ξ (by rw[hb];exact ω)] at A;exact aD (ag [] rfl ⟨m,by omega,B5 _,sl (he:=⟨rfl,rfl,rfl,rfl,Go.AM.int_eq A.symm,rfl,trivial⟩)⟩)
 have U:m=0:=by have:=Ae hb;omega
 subst U;have Y:aCt (fun x=>decide (x.name=s.name)) b 0=match b.findIdx? (fun x=>decide (x.name=s.name)) with | none=> -1 | some d=>(d:Int):=by
  unfold aCt;rw[B0];cases b.findIdx? _ with
  | none=>rfl
  | some d=>simp
 rw[Y];refine aG ?_;cases E:b.findIdx? (fun x=>decide (x.name=s.name)) with
 | none=>
  rw[E] at g;dsimp only at g ⊢;have B:=eK L z 21 s.pl;refine aA (sg rfl (aB rfl (fun _=>skh 6 [(3,.row i (cT s))] rfl (kc B ?_)) (fun hb=>Bool.noConfusion hb)));exact az (aG (agN [] rfl ⟨(i+1,b,bR 21 s.pl z),⟨y,h.fail _ _,u,g⟩,by dsimp only;omega,sl⟩))
 | some k=>
  rw[E] at g;dsimp only at g ⊢;have hk:=nR E;obtain⟨x,hx⟩:=aM hk;have M:=bB b8 hx;rw[hx] at g;dsimp only at g;have dk:decide ((k:Int)<0)=false:=ψ (by omega);refine aA (sg rfl (aB rfl (fun hb=>absurd (hb.symm.trans dk) Bool.noConfusion) (fun _=>aD (aA (sgh [(4,.row k (b8 x))] rfl (aB rfl (fun hb=>?_) (fun hb=>?_)))))))
  ·have hb:x.has=true:=hb;rw[θ hb] at g;have B:=eK L z 20 s.pl;refine skh 6 [(3,.row i (cT s))] rfl (kc B ?_);exact az (aG (agN [] rfl ⟨(i+1,b,bR 20 s.pl z),⟨y,h.fail _ _,u,g⟩,by dsimp only;omega,sl⟩))
  ·have hb:x.has=false:=hb;rw[ξ (by rw[hb];exact ω)] at g;refine aD ?_;have hs1:(b.map b8).set k (b8 (.mk x.name x.pl true x.sig x.body))=(b.set k (.mk x.name x.pl true x.sig x.body)).map b8:=by rw[map_set]
   have hs2:((b.set k (.mk x.name x.pl true x.sig x.body)).map b8).set k (b8 (j6 x s.ty))=(b.set k (j6 x s.ty)).map b8:=by rw[←map_set,List.set_set]
   have hx2:((b.set k (.mk x.name x.pl true x.sig x.body)).map b8)[k]?=some (b8 (.mk x.name x.pl true x.sig x.body)):=by rw[List.getElem?_map,List.getElem?_set_self hk];rfl
   have hl2:((b.set k (.mk x.name x.pl true x.sig x.body)).map b8).length=b.length:=by rw[χ,length_set]
   refine sgh [(4,.row k (b8 x))] rfl (AWp.sub (st2:=mk [(0,xP),(1,.one (.c (.sl 9 (sigs.map cT)))),(2,hsV 511 binds.length),(7,I .i64 (i:Nat)),(8,I .i64 (k:Nat))] [(700,zO L z),(511,bdA (b.set k (.mk x.name x.pl true x.sig x.body)) 0)]) (sl (hh:=⟨⟨_,rfl,.var rfl⟩,⟨_,rfl,.arrS hs1⟩,trivial⟩)) ?_);exact ag [(4,.row i (cT s)),(9,.row k (b8 (.mk x.name x.pl true x.sig x.body)))] rfl (agN [] rfl ⟨(i+1,b.set k (j6 x s.ty),z),⟨y,h,by dsimp only;rw[length_set,u],g⟩,by dsimp only;omega,sl (hh:=⟨⟨_,rfl,.var rfl⟩,⟨_,rfl,.arrS hs2⟩,trivial⟩)⟩)
theorem kO {s:Str}{n:Nat}{z:Z}(h:¬z.e=0):bI s n z=(false,z):=by
 have h1:moreA s n z=z:=by unfold moreA;rw[ξ (fun k=>h k.2.1)]
 have h2:cL z=z:=by unfold cL;rw[ξ h]
 unfold bI;rw[h1,h2,θ (.inl h)]
section
variable {L:List Tk}{ex:Nat→Z→Ex×Z}{N:Nat}(hO:ExO L ex) (hS:ExS L ex N) (hwt:wt L≤30000)
include hO hS hwt
theorem aTq (a:Int) (deep:Nat) {z:Z}(h:ZA L z) (hN:z.R.length≤N) (hd:deep≤40):aV Tryz.prog 40 [xP,I .i64 a,I .i64 (deep:Nat)] [(700,zO L z)] (.pa (bC (r1 ex a deep z).1)) [(700,zO L (r1 ex a deep z).2)]:=by
 have M:=fN h dQ;have h1:=h.need dQ;have l1:=Ze.need dQ z;have hWx:∃W,W=l8 ex deep z:=⟨_,rfl⟩
 obtain⟨W,B⟩:=hWx;unfold r1;rw[←B];unfold l8 at B;generalize aQ dQ z=z1 at M h1 l1 B;have l1':z1.R.length≤z.R.length:=l1;refine bF (n:=42) tok Tryz.func40 rfl rfl rfl ?_;refine sg rfl (sg rfl (sg rfl (AWp.sub (Sub.own (t:=7) (id:=510) 121 9 rfl rfl) ?_)));refine AWp.sub (Sub.own (t:=8) (id:=511) 103 33 rfl rfl) ?_;refine sk 1 rfl (kc M ?_);refine az (aA (sg rfl (aE (aL (fun q:(List Sg×List Bd)×Z×Nat×Nat=>mk [(0,xP),(1,I .i64 a),(2,I .i64 (deep:Nat)),(6,.one (.vp 6 0)),(7,hsV 510 q.1.1.length),(8,hsV 511 q.1.2.length),(9,I .i64 (q.2.2.1:Nat))] [(700,zO L q.2.1),(6,.var 35 (aIu.map .c)),(510,sgA q.1.1 0),(511,bdA q.1.2 0)]) (fun q=>ZA L q.2.1∧fS q.1.1∧eY q.1.2∧q.2.1.R.length≤z1.R.length∧(q.2.1.e=0→q.2.1.R.length<q.2.2.2)∧q.2.2.1≤60∧q.1.1.length≤q.2.2.1∧q.1.2.length≤q.2.2.1∧W=eO ex (deep+1) q.2.2.2 q.2.2.1 q.1.1 q.1.2 q.2.1) (fun q=>if q.2.1.e=0 then q.2.1.R.length+1 else 0) (([],[]),z1,0,z1.R.length+1) ⟨h1,fun s hs=>(by cases hs),trivial,le_refl _,fun _=>B5 _,Ad _,le_refl _,le_refl _,B⟩ sl ?_))));clear B M h;rintro⟨⟨sigs,binds⟩,u,n,f⟩ ⟨h,hs,hb,hR,hf,hn,hsl,hbl,B⟩;dsimp only at h hs hb hR hf hn hsl hbl B ⊢;have hm:=aG7 h bA n (by omega);have O:= @fF bA n u;have E:=h.more bA n;have J:=Ze.more bA n u;have A:W=if(bI bA n u).1=true then eO ex (deep+1) (f-1) (n+1) (aS ex sigs binds (deep+1) (bI bA n u).2).1.1 (aS ex sigs binds (deep+1) (bI bA n u).2).1.2 (aS ex sigs binds (deep+1) (bI bA n u).2).2 else((sigs,binds),(bI bA n u).2):=by
  by_cases he:u.e=0
  ·obtain⟨f,rfl⟩:∃g,f=g+1:=⟨f-1,by have:=hf he;omega⟩
   rw[eO] at B;exact B
  ·rw[kO he];rw[ξ ω];rw[B];cases f with
   | zero=>rfl
   | succ f=>rw[eO,kO he,ξ ω]
 have U:(bI bA n u).1=true→u.e=0:=fun e=>by
  by_cases he:u.e=0
  ·exact he
  ·rw[kO he] at e;cases e
 clear B;generalize bI bA n u=m at hm O E J A U;obtain⟨b,z3⟩:=m;dsimp only at hm O E J A U;have J:z3.R.length≤u.R.length:=J;refine aA (sk 2 rfl (kc hm ?_));refine az ?_;cases b with
 | true=>
  rw[θ rfl] at A;obtain⟨e3,hn60⟩:=O rfl;have he2:=U rfl;have hf:=hf he2;have Y:=aHa hS hwt sigs binds (deep+1) E (by omega) (by omega) (by omega) (by omega);obtain⟨k1,k2,k3,k4,k5,k6,k7⟩:=iC hO hwt sigs binds (deep+1) E hs hb;generalize aS ex sigs binds (deep+1) z3=y at Y k1 k2 k3 k4 k5 k6 k7 A;obtain⟨⟨S,Bs⟩,z4⟩:=y;dsimp only at Y k1 k2 k3 k4 k5 k6 k7 A;have k7:z4.R.length≤z3.R.length:=k7;refine aB rfl (fun _=>aD (aA (aE (aC mixed (akN 5 [] rfl (kc Y ?_)))))) (fun hb=>Bool.noConfusion hb);refine kz 5 rfl (agN [] rfl ⟨((S,Bs),z4,n+1,f-1),⟨k1,k2,k3,by dsimp only;omega,fun h0=>by have:=k6 h0;dsimp only;omega,hn60,by dsimp only;omega,by dsimp only;omega,A⟩,?_,sl⟩);dsimp only;rw[θ he2];split
  ·rename_i h0;have:=k6 h0;omega
  ·omega
 | false=>
  rw[ξ ω] at A;subst A;have aa:=fN E bA;have h5:=E.need bA;have l5:=Ze.need bA z3;unfold aCo;dsimp only;generalize aQ bA z3=z5 at aa h5 l5 ⊢;have ab:=aPr sigs binds h5 (by omega) (by omega);obtain⟨p1,p2,p3,p4⟩:=fT sigs binds z5 h5 hs hb;generalize cO sigs binds z5=y at ab p1 p2 p3 p4 ⊢;obtain⟨Bs,z6⟩:=y;dsimp only at ab p1 p2 p3 p4 ⊢;have ac:=fN p1 inS;have h7:=p1.need inS;have l7:=Ze.need inS z6;generalize aQ inS z6=z7 at ac h7 l7 ⊢;have l5':z5.R.length≤z3.R.length:=l5;have p4':z6.R.length≤z5.R.length:=p4;have l7':z7.R.length≤z6.R.length:=l7;have hex:=hS (deep+1) z7 h7 (by omega) (by omega);generalize ex (deep+1) z7=y at hex ⊢;obtain⟨e,z8⟩:=y;dsimp only at hex ⊢;have hBl:binds.length=(Bs.map b8).length:=by rw[χ,p3]
  refine aB rfl (fun hb=>Bool.noConfusion hb) (fun _=>aG (sk 1 rfl (kc aa ?_)));refine az (AWp.sub (Sub.freeze (id:=510) rfl) ?_);refine sk 3 rfl (kc ab ?_);refine kz 1 rfl (sk 1 rfl (kc ac ?_));refine az (AWp.sub (Sub.freeze (id:=511) rfl) ?_);refine aA (aC mixed (akN 5 [] rfl (kc hex ?_)));refine ak 3 [(6,.all)] rfl (az ?_);unfold bC;rw[aAz];exact aF (rtC trw (hc:=.agg (.c .refl (.c .refl (.c .refl (.c .refl (.c .refl (.c .nl (.hs rfl hBl (Go.AM.take_all hBl) (.c .nl (.c .nl (.c .nl (.c .refl (.c .refl (.c .refl (.c .nl (.c .nl .nil)))))))))))))))))
end
section
variable {L:List Tk}{ex:Nat→Z→Ex×Z}{N:Nat}(hO:ExO L ex) (hS:ExS L ex N)
include hO hS
theorem aP7 (a:Int) (deep:Nat) {z:Z}(h:ZA L z) (hN:z.R.length≤N) (hd:deep≤40):aV Tryz.prog 41 [xP,I .i64 a,I .i64 (deep:Nat)] [(700,zO L z)] (.pa (bC (gM ex a deep z).1)) [(700,zO L (gM ex a deep z).2)]:=by
 have ab:=hS (deep+1) z h hN (by omega);obtain⟨g0,_,_,m0⟩:=hO (deep+1) z h;have hWx:∃W,W=fM ex deep (cP ex deep z):=⟨_,rfl⟩
 obtain⟨W,A⟩:=hWx;unfold gM;rw[←A];unfold fM cP at A;generalize ex (deep+1) z=y at ab g0 m0 A;obtain⟨e0,z0⟩:=y;dsimp only at ab g0 m0 A;have O:=fN g0 ofS;have h1:=g0.need ofS;have l1:=Ze.need ofS z0;generalize aQ ofS z0=z1 at O h1 l1 A;have U:=fN h1 dQ;have h2:=h1.need dQ;have l2:=Ze.need dQ z1;generalize aQ dQ z1=z2 at U h2 l2 A;have hz2:z2.R.length≤z.R.length:=(m0.trans l1).trans l2;refine bF (n:=57) tok Tryz.func41 rfl rfl rfl ?_;refine sg rfl (aA (aC mixed (akN 4 [] rfl (kc ab ?_))));refine ak 4 [(5,.id 501)] rfl (az (AWp.sub (Sub.ownCell (x:=7) (k:=5) (id:=502) 43 10 rfl rfl rfl) ?_));refine sk 1 rfl (kc O ?_);refine az (sk 1 rfl (kc U ?_));refine az (aA (sg rfl (aE (aL (fun q:(List Pt×List Ex)×Z×Nat×Nat=>mk [(0,xP),(2,I .i64 (deep:Nat)),(6,.one (.vp 6 0)),(7,.one (.vp 7 0)),(8,I .i64 (q.2.2.1:Nat))] [(700,zO L q.2.1),(6,.var 35 (aIu.map .c)),(7,.var 35 [.c (.int .i64 7),.c (.int .i64 a),.c (.int .i64 0),.c (.str []),.hs 501 0 q.1.2.length q.1.2.length,.hs 502 0 q.1.1.length q.1.1.length,.c .nl,.c .nl,.c .nl,.c .nl,.c (.int .i64 0),.c (.int .i64 0),.c (.str []),.c .nl,.c .nl]),(501,.arr 35 15 (q.1.2.map bC) 0),(502,.arr 43 10 (q.1.1.map bO) 0)]) (fun q=>ZA L q.2.1∧q.2.1.R.length≤z2.R.length∧(q.2.1.e=0→q.2.1.R.length<q.2.2.2)∧q.2.2.1≤60∧q.1.1.length=q.2.2.1∧q.1.2.length=q.2.2.1+1∧W=eN ex deep q.2.2.2 q.2.2.1 q.1.1 q.1.2 q.2.1) (fun q=>if q.2.1.e=0 then q.2.1.R.length+1 else 0) (([],[e0]),z2,0,z2.R.length+1) ⟨h2,le_refl _,fun _=>B5 _,Ad _,rfl,rfl,A⟩ sl ?_))));clear A O U h1 h l1 l2;rintro⟨⟨ps,ks⟩,z3,n,f⟩ ⟨h,hR,hf,hn,hpl,hkl,A⟩;dsimp only at h hR hf hn hpl hkl A ⊢;have ac:(ps.map bO).length=ps.length:=χ _;have ad:(ks.map bC).length=ks.length:=χ _;have hm:=aG7 h bA n (by omega);have ae:= @fF bA n z3;have B:=h.more bA n;have Y:=Ze.more bA n z3;have u:W=if(bI bA n z3).1=true then eN ex deep (f-1) (n+1) (ps++[(gF (3*(bI bA n z3).2.R.length+1) 0 (bI bA n z3).2).1]) (ks++[(ex (deep+1) (aQ arrow (gF (3*(bI bA n z3).2.R.length+1) 0 (bI bA n z3).2).2)).1]) (ex (deep+1) (aQ arrow (gF (3*(bI bA n z3).2.R.length+1) 0 (bI bA n z3).2).2)).2 else((ps,ks),(bI bA n z3).2):=by
  by_cases he:z3.e=0
  ·obtain⟨f,rfl⟩:∃g,f=g+1:=⟨f-1,by have:=hf he;omega⟩
   rw[eN] at A;exact A
  ·rw[kO he];rw[ξ ω];rw[A];cases f with
   | zero=>rfl
   | succ f=>rw[eN,kO he,ξ ω]
 have af:(bI bA n z3).1=true→z3.e=0:=fun e=>by
  by_cases he:z3.e=0
  ·exact he
  ·rw[kO he] at e;cases e
 clear A;generalize bI bA n z3=m at hm ae B Y u af;obtain⟨b,z4⟩:=m;dsimp only at hm ae B Y u af;have Y:z4.R.length≤z3.R.length:=Y;refine aA (sk 2 rfl (kc hm ?_));refine az ?_;cases b with
 | true=>
  rw[θ rfl] at u;obtain⟨e3,hn60⟩:=ae rfl;have he2:=af rfl;have hf:=hf he2;have hp:=(aVx L (3*z4.R.length+1)).2 _ (le_refl _) 0 z4 B (fun _=>le_refl _) (by decide);obtain⟨p1,_,p3,p4⟩:=(gE L (3*z4.R.length+1)).2.1 0 z4 B;generalize gF (3*z4.R.length+1) 0 z4=y at hp p1 p3 p4 u;obtain⟨p,J⟩:=y;dsimp only at hp p1 p3 p4 u;have p4:J.R.length≤z4.R.length:=p4;have hnd:=fN p1 arrow;have h6:=p1.need arrow;have l6:=Ze.need arrow J;have k6:=aU (s:=arrow) (z:=J);generalize aQ arrow J=M at hnd h6 l6 k6 u;have l6:M.R.length≤J.R.length:=l6;have hex:=hS (deep+1) M h6 (by omega) (by omega);obtain⟨x1,_,x3,x4⟩:=hO (deep+1) M h6;generalize ex (deep+1) M=y at hex x1 x3 x4 u;obtain⟨e,z7⟩:=y;dsimp only at hex x1 x3 x4 u;have x4:z7.R.length≤M.R.length:=x4;have hr1:ps.map bO++[bO p]=(ps++[p]).map bO:=by rw[Ai];rfl
  have hr2:ks.map bC++[bC e]=(ks++[e]).map bC:=by rw[Ai];rfl
  have hl1:(ps++[p]).length=ps.length+1:=by rw[η];rfl
  have hl2:(ks++[e]).length=ks.length+1:=by rw[η];rfl
  generalize ps++[p]=P at hr1 hl1 u;generalize ks++[e]=K at hr2 hl2 u;refine aB rfl (fun _=>aD (aA (aE (sk 3 rfl (kc hp ?_))))) (fun hb=>Bool.noConfusion hb);refine ak 4 [(4,.all)] rfl (az (sk 1 rfl (kc hnd ?_)));refine az (aC mixed (akN 5 [] rfl (kc hex ?_)));refine ak 4 [(6,.all)] rfl (az (agN [] rfl ⟨((P,K),z7,n+1,f-1),⟨x1,by dsimp only;omega,fun h0=>by have:=x3 h0;dsimp only;omega,hn60,by dsimp only;omega,by dsimp only;omega,u⟩,?_,?_⟩))
  ·dsimp only;rw[θ he2];split
   ·rename_i h0;have:=x3 h0;omega
   ·omega
  ·exact sl (hh:=⟨⟨_,rfl,.var rfl⟩,⟨_,rfl,.var rfl⟩,⟨_,rfl,.var (by rw[hl1,hl2,←ac,←ad];rfl)⟩,⟨_,rfl,.arrS hr2⟩,⟨_,rfl,.arrS hr1⟩,trivial⟩)
 | false=>
  rw[ξ ω] at u;subst u;dsimp only;have hnow:=fP B;have ah:=fN B bA;have h5:=B.need bA;generalize hz5:aQ bA z4=J at ah h5 ⊢;have hfl:=eK L J 12 (b4 z4).pl;have E:∃M,M=(if ps=[] then bR 12 (b4 z4).pl J else J):=⟨_,rfl⟩
  obtain⟨M,E⟩:=E;rw[←E];refine aB rfl (fun hb=>Bool.noConfusion hb) (fun _=>aG (sk 1 rfl (kc hnow ?_)));refine kz 2 rfl (sk 1 rfl (kc ah ?_));refine az (aA (AWp.cut (mk [(0,xP),(6,.one (.vp 6 0)),(7,.one (.vp 7 0))] [(700,zO L M),(6,.var 35 (aIu.map .c)),(7,.var 35 [.c (.int .i64 7),.c (.int .i64 a),.c (.int .i64 0),.c (.str []),.hs 501 0 ks.length ks.length,.hs 502 0 ps.length ps.length,.c .nl,.c .nl,.c .nl,.c .nl,.c (.int .i64 0),.c (.int .i64 0),.c (.str []),.c .nl,.c .nl]),(501,.arr 35 15 (ks.map bC) 0),(502,.arr 43 10 (ps.map bO) 0)]) ?_ ?_))
  ·refine sg rfl ?_;by_cases aa:ps=[]
   ·rw[θ aa] at E;subst aa E;refine aB rfl (fun _=>aC mixed (ak 2 [] rfl (kc hfl ?_))) (fun hb=>Bool.noConfusion hb);exact az sl
   ·rw[ξ aa] at E;subst E;have d0:decide ((ps.length:Int)=0)=false:=ψ (by have:=length_pos_iff.2 aa;omega);exact aB rfl (fun hb=>absurd (hb.symm.trans d0) Bool.noConfusion) (fun _=>aD sl)
  refine AWp.sub (Sub.freeze (id:=501) rfl) ?_;refine AWp.sub (Sub.freeze (id:=502) rfl) ?_;refine sg rfl ?_;unfold bC aKl;rw[kQ];exact aF (rtC trw (hc:=.agg (.c .refl (.c .refl (.c .refl (.c .refl (.hs rfl ad.symm (Go.AM.take_all ad.symm) (.hs rfl ac.symm (Go.AM.take_all ac.symm) (.c .nl (.c .nl (.c .nl (.c .nl (.c .refl (.c .refl (.c .refl (.c .nl (.c .nl .nil)))))))))))))))))
end
end Go.Proofs.YtkhgpgihmphfdaaGreat
