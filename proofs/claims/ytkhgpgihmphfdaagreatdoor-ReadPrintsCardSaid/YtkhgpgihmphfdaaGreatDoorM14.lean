/-
  Texts Rw4 to Pz3 in one.
-/
import Derived.Test.YtkhgpgihmphfdaaGreatDoorM13
open List (append_assoc append_nil cons_append flatMap_cons flatMap_nil length_append length_cons length_map length_nil length_pos_iff length_take map_append map_cons map_take mem_append mem_cons mem_map mem_of_mem_take mem_singleton nil_append sum_append sum_cons take_append_drop take_length take_nil take_of_length_le take_succ_cons take_zero)
open Nat (le_refl le_trans lt_irrefl mul_le_mul_right succ_pos zero_le)
namespace Go.Proofs.YtkhgpgihmphfdaaGreatDoor
open Go Go.AM
set_option maxRecDepth 20000
set_option maxHeartbeats 1000000
section
variable {L:List Tk}{ex:Nat→Z→Ex×Z}(hO:ExO L ex) (hx:aDr ex) (hP:a0v ex L) (hN:aWf L) (hwt:wt L≤30000)
include hO hwt
theorem aA3 (sigs:List Sg) (binds:List Bd) (deep:Nat) {z:Z}(h:ZA L z):ZA L (aV ex sigs binds deep z).2:=by
 have h1:=(kV hO hwt [] [] deep h (fun s hs=>by cases hs) trivial).1
 have e:(aV ex sigs binds deep z).2=(aV ex [] [] deep z).2:=by
  unfold aV;split<;>rfl
 rw[e];exact h1
include hx hP
theorem aRq (deep:Nat):∀(f n:Nat) (sigs:List Sg) (binds:List Bd) (z:Z),ZA L z→aGz sigs→qH binds→(ZA L (fW ex deep f n sigs binds z).2∧aGz (fW ex deep f n sigs binds z).1.1∧qH (fW ex deep f n sigs binds z).1.2)∧((fW ex deep f n sigs binds z).2.e=0→uK (fW ex deep f n sigs binds z).1.1+jS (fW ex deep f n sigs binds z).1.2+mu (fW ex deep f n sigs binds z).2≤uK sigs+jS binds+mu z)
 | 0,n,sigs,binds,z,h,hs,hb=>⟨⟨h,hs,hb⟩,fun _=>le_refl _⟩
 | f+1,n,sigs,binds,z,h,hs,hb=>by
  rw[fW];have hm:=zZ b5 n z;split
  ·obtain⟨⟨g1,g2⟩,g3⟩:=aFn hx hP hwt sigs binds deep (h.more b5 n) hs hb;obtain⟨q,u⟩:=aRq deep f (n+1) _ _ _ (aA3 hO hwt sigs binds deep (h.more b5 n)) g1 g2;refine⟨q,fun h0=>?_⟩;have y:=u h0;have A:=g3 (Kq.lets hx deep f _ _ _ _ h0).1;omega
  ·exact⟨⟨h.more b5 n,hs,hb⟩,fun _=>by dsimp only;omega⟩
theorem a2e (a:Int) (deep:Nat) {z:Z}(h:ZA L z):exP (uR ex a deep z).1∧((uR ex a deep z).2.e=0→96+exW (uR ex a deep z).1+mu (uR ex a deep z).2≤mu z):=by
 obtain⟨⟨g1,g2,g3⟩,g4⟩:=aRq hO hx hP hwt (deep+1) ((aQ dH z).R.length+1) 0 [] [] _ (h.need dH) (fun s hs=>by cases hs) trivial;have g1:ZA L (mW ex deep z).2:=g1;have g2:aGz (mW ex deep z).1.1:=g2;have g3:qH (mW ex deep z).1.2:=g3;obtain⟨y,A⟩:=zU (mW ex deep z).1.1 (mW ex deep z).1.2 (aQ b5 (mW ex deep z).2) g2 g3;have y:qH (aE1 (mW ex deep z)).1:=y;have A:jS (aE1 (mW ex deep z)).1≤jS (mW ex deep z).1.2+uK (mW ex deep z).1.1:=A;have hB:ZA L (aE1 (mW ex deep z)).2:=by
  unfold aE1;have:=xG hO hwt (deep+1) ((aQ dH z).R.length+1) 0 [] [] _ (h.need dH) (fun s hs=>by cases hs) trivial (by decide) (le_refl _) (le_refl _);exact(gV _ _ _ (g1.need _) this.2.1 this.2.2.1).1
 obtain⟨I,J⟩:=hP (deep+1) _ (hB.need inS);unfold uR;refine⟨⟨dI,trivial,mI,⟨I,trivial⟩,y⟩,fun h0=>?_⟩;have M:=J h0;have B:=(hx _ _ h0).1
 have Y:=fV B;have u:=(Kq.need inS _ B).1
 have q:(aE1 (mW ex deep z)).2=aQ b5 (mW ex deep z).2:=jD u;rw[q] at u;have w3:=fV u;have E:=(Kq.need b5 _ u).1
 have O:uK (mW ex deep z).1.1+jS (mW ex deep z).1.2+mu (mW ex deep z).2≤uK []+jS []+mu (aQ dH z):=g4 E;rw[show uK []=0 from rfl,show jS []=0 from rfl] at O;have U:(aQ dH z).e=0:=(Kq.lets hx (deep+1) _ _ _ _ _ E).1
 have w5:=fV U;have w6:mu (aE1 (mW ex deep z)).2=mu (aQ b5 (mW ex deep z).2):=by rw[q]
 dsimp only at M ⊢;unfold letE;rw[vH,iR,iR];rw[show jR []=0 from rfl,length_nil];omega
include hN
omit hwt in
theorem aSm (deep:Nat):∀(f n:Nat) (ps:List Pt) (ks:List Ex) (z:Z),ZA L z→lK ps→aPg ks→(ZA L (fQ ex deep f n ps ks z).2∧lK (fQ ex deep f n ps ks z).1.1∧aPg (fQ ex deep f n ps ks z).1.2)∧((fQ ex deep f n ps ks z).2.e=0→jR (fQ ex deep f n ps ks z).1.1+iR (fQ ex deep f n ps ks z).1.2+mu (fQ ex deep f n ps ks z).2≤jR ps+iR ks+mu z)
 | 0,n,ps,ks,z,h,hp,q=>⟨⟨h,hp,q⟩,fun _=>le_refl _⟩
 | f+1,n,ps,ks,z,h,hp,q=>by
  rw[fQ];have hm:=zZ b5 n z;split
  ·have y:=h.more b5 n;have A:=((gK L (3*(b6 b5 n z).2.R.length+1)).2.1 0 _ y).1
   obtain⟨g1,g2⟩:=(aKa hN (3*(b6 b5 n z).2.R.length+1)).2.1 0 _ y;have u:=A.need arrow;obtain⟨I,J⟩:=hP (deep+1) _ u;obtain⟨M,O⟩:=aSm deep f (n+1) _ _ _ (hO (deep+1) _ u).1 (tL hp g1) (aFk q I);refine⟨M,fun h0=>?_⟩;have U:=O h0;have B:=(Kq.alts hx deep f _ _ _ _ h0).1
   have Y:=J B;have E:=(hx _ _ B).1
   have w3:=fV E;have w4:=g2 (Kq.need arrow _ E).1;rw[wR,aFh] at U;omega
  ·exact⟨⟨h.more b5 n,hp,q⟩,fun _=>by dsimp only;omega⟩
omit hwt in
theorem aZl (a:Int) (deep:Nat) {z:Z}(h:ZA L z):exP (iH ex a deep z).1∧((iH ex a deep z).2.e=0→96+exW (iH ex a deep z).1+mu (iH ex a deep z).2≤mu z):=by
 obtain⟨m1,m2⟩:=hP (deep+1) z h;have A:ZA L (dE ex deep z).2:=((hO (deep+1) z h).1.need ofS).need dH;obtain⟨⟨g1,g2,g3⟩,g4⟩:=aSm hO hx hP hN deep ((dE ex deep z).2.R.length+1) 0 [] [(dE ex deep z).1] _ A trivial ⟨m1,trivial⟩;have g2:lK (i7 ex deep (dE ex deep z)).1.1:=g2;have g3:aPg (i7 ex deep (dE ex deep z)).1.2:=g3;unfold iH;refine⟨⟨dI,g2,mI,g3,trivial⟩,fun h0=>?_⟩;by_cases hn:(i7 ex deep (dE ex deep z)).1.1=[]
 ·rw[ζ hn] at h0;exact(cJ (by decide) h0).elim
 ·rw[η hn] at h0 ⊢;have E:=fV h0;have q:=(Kq.need b5 _ h0).1
  have B:jR (i7 ex deep (dE ex deep z)).1.1+iR (i7 ex deep (dE ex deep z)).1.2+mu (i7 ex deep (dE ex deep z)).2≤jR []+iR [(dE ex deep z).1]+mu (dE ex deep z).2:=g4 q;have u:(dE ex deep z).2.e=0:=(Kq.alts hx deep _ _ _ _ _ q).1
  have I:240+mu (dE ex deep z).2≤mu (aQ ofS (ex (deep+1) z).2):=fV u;have y:(aQ ofS (ex (deep+1) z).2).e=0:=(Kq.need dH _ u).1
  have J:=fV y;have M:=m2 (Kq.need ofS _ y).1;rw[show jR []=0 from rfl,iR,iR,show(dE ex deep z).1=(ex (deep+1) z).1 from rfl] at B;unfold aPq;dsimp only;rw[vH];rw[show jS []=0 from rfl,length_nil];omega
omit hwt in
theorem aTo (deep:Nat) {z:Z}(h:ZA L z):exP (gC ex deep z).1∧((gC ex deep z).2.e=0→96+exW (gC ex deep z).1+mu (gC ex deep z).2≤mu z):=by
 obtain⟨g1,g2,g3⟩:=aYc hP hN deep h;have u:=(lL hO deep h).1
 unfold gC;by_cases hb:(iV ex deep z).1.2=false
 ·rw[ζ hb];obtain⟨q,y⟩:=aM8 hO hx hP hN deep (b8 z).pl (z.R.length+1) _ _ (u.fail 12 (b8 z).pl) g1;exact⟨q,fun h0=>(cJ (by decide) (Kq.apps hx deep _ _ _ _ h0).1).elim⟩
 ·rw[η hb];obtain⟨q,y⟩:=aM8 hO hx hP hN deep (b8 z).pl (z.R.length+1) _ _ u g1;refine⟨q,fun h0=>?_⟩;have A:=y h0;have B:=g2 (by simpa using hb) (Kq.apps hx deep _ _ _ _ h0).1;omega
omit hO hx hP hN in
theorem a3a (a:Int) {y:Ex×Z}(h:ZA L y.2) (he:exP y.1):exP (uN a y).1∧((uN a y).2.e=0→exW (uN a y).1+mu (uN a y).2≤exW y.1+mu y.2):=by
 unfold uN;split
 ·rename_i hm;refine⟨⟨dI,trivial,wF (h.may eT) hwt,⟨he,trivial⟩,trivial⟩,fun h0=>?_⟩;have q:=wE h0;have u:=(oJ eT y.2).2 hm;dsimp only;unfold a3v;rw[exW,iR,iR,show jR []=0 from rfl,show jS []=0 from rfl,length_nil];omega
 ·have:=(oJ eT y.2).1
  exact⟨he,fun _=>by dsimp only;omega⟩
theorem aY1:a0v (aAx ex) L:=fun deep z h=>by
 unfold aAx;split
 ·rename_i h0;exact⟨aGt,fun k=>absurd k h0⟩
 split
 ·exact⟨aGt,fun k=>(cJ (by decide) k).elim⟩
 split
 ·obtain⟨g1,g2⟩:=a2g hx hP (b8 z).pl deep (h.may aAm);exact⟨g1,fun h0=>le_trans (g2 h0) (oJ aAm z).1⟩
 split
 ·obtain⟨g1,g2⟩:=a2e hO hx hP hwt (b8 z).pl deep (h.may aAj);exact⟨g1,fun h0=>le_trans (g2 h0) (oJ aAj z).1⟩
 split
 ·obtain⟨g1,g2⟩:=aZl hO hx hP hN (b8 z).pl deep (h.may n3);exact⟨g1,fun h0=>le_trans (g2 h0) (oJ n3 z).1⟩
 ·obtain⟨g1,g2⟩:=aTo hO hx hP hN deep h;obtain⟨q,u⟩:=a3a hwt (b8 z).pl (zR hO deep h).1 g1;refine⟨q,fun h0=>?_⟩;have y:=u h0;have A:=g2 (Kq.ann _ _ h0).1;omega
end
theorem aLa {L:List Tk}(hN:aWf L) (hwt:wt L≤30000):∀f,a0v (yP f) L
 | 0=>fun deep z _=>⟨aGt,fun k=>(cJ (by decide) k).elim⟩
 | f+1=>aY1 (iG hwt f) (oL f) (aLa hN hwt f) hN hwt
def uJ:List Ty→Nat
 | []=>0
 | t::l=>tyW t+8+uJ l
def qM:List Str→Nat
 | []=>0
 | s::l=>s.length+16+qM l
def y0:List Cn→Nat
 | []=>0
 | c::l=>c.name.length+16+uJ c.fields+y0 l
def dtW (d:Dt):Nat:=d.name.length+64+qM d.vars+y0 d.cons
def mtS (s:Sch):Sch:=⟨[],s.preds.drop 1,s.ty⟩
def yL:List Sg→Nat
 | []=>0
 | m::l=>m.name.length+32+rR (mtS m.ty)+yL l
def nS (v:Str):List Str→Nat
 | []=>0
 | s::l=>s.length+v.length+32+nS v l
def clW (c:Cl):Nat:=c.name.length+c.var.length+64+nS c.var c.supers+yL c.methods
def inW (x:In):Nat:=x.cls.length+x.con.length+64+qM x.vars+2*cP x.preds+jS x.binds
def aGx {α:Type}(f:α→Nat):List α→Nat
 | []=>0
 | a::l=>f a+aGx f l
theorem s9 {α:Type}(f:α→Nat):∀(l:List α) (a:α),aGx f (l++[a])=aGx f l+f a
 | [],a=>by simp only[Av,aGx];omega
 | b::l,a=>by rw[As,aGx,aGx,s9 f l a];omega
def pgW (p:Pg):Nat:=aGx dtW p.datas+aGx clW p.classes+aGx inW p.insts+jS p.binds
structure PgP (p:Pg):Prop where
 d:∀d∈p.datas,∀c∈d.cons,∀t∈c.fields,PT t
 c:∀c∈p.classes,∀m∈c.methods,SchP (mtS m.ty)∧¬m.ty.preds=[]
 i:∀x∈p.insts,(∀q∈x.preds,PT q.ty)∧qH x.binds
 b:qH p.binds
theorem a0o {z:Z}(h:(eM z).2.e=0):tyW (eM z).1+16+mu (eM z).2≤mu z:=by
 unfold eM at h ⊢;cases hs:cU (3*z.R.length) 0 z.R with
 | error e=>obtain⟨e,p⟩:=e;rw[hs] at h;exact absurd h (eN _ 0 z.R e p hs)
 | ok y=>
  obtain⟨x,R'⟩:=y;have:=(aB0 _ _ _ _ _ hs).2
  show tyW x+16+40*wt R'≤40*wt z.R;have q:8*wt R'+8≤8*wt z.R:=by omega
  omega
theorem a0p (z:Z):PT (eM z).1:=by
 unfold eM;cases hs:cU (3*z.R.length) 0 z.R with
 | error e=>exact .leaf 0 [] (.inl rfl)
 | ok y=>exact(aB0 _ _ _ _ _ hs).1
theorem aDy:∀(l:List Ty) (a:Ty),uJ (l++[a])=uJ l+(tyW a+8)
 | [],a=>by simp only[Av,uJ];omega
 | b::l,a=>by rw[As,uJ,uJ,aDy l a];omega
theorem aFw:∀(l:List Cn) (a:Cn),y0 (l++[a])=y0 l+(a.name.length+16+uJ a.fields)
 | [],a=>by simp only[Av,y0];omega
 | b::l,a=>by rw[As,y0,y0,aFw l a];omega
theorem aEu:∀(l:List Sg) (a:Sg),yL (l++[a])=yL l+(a.name.length+32+rR (mtS a.ty))
 | [],a=>by simp only[Av,yL];omega
 | b::l,a=>by rw[As,yL,yL,aEu l a];omega
theorem yZ (v:Str):∀(l:List Str) (a:Str),nS v (l++[a])=nS v l+(a.length+v.length+32)
 | [],a=>by simp only[Av,nS];omega
 | b::l,a=>by rw[As,nS,nS,yZ v l a];omega
theorem aFf:∀(f:Nat) (out:List Ty) (z:Z),(∀t∈out,PT t)→(∀t∈(cD f out z).1,PT t)∧((cD f out z).2.e=0→uJ (cD f out z).1+mu (cD f out z).2≤uJ out+mu z)
 | 0,out,z,h=>⟨h,fun _=>le_refl _⟩
 | f+1,out,z,h=>by
  rw[cD];split
  ·obtain⟨g1,g2⟩:=aFf f (out++[(eM z).1]) (eM z).2 (fun t ht=>by
    rcases A4.1 ht with ht | ht
    ·exact h t ht
    ·rw[Am.1 ht];exact a0p z)
   refine⟨g1,fun h0=>?_⟩;have q:=g2 h0;have u:=a0o (Kq.fields f _ _ h0).1;rw[aDy] at q;omega
  ·exact⟨h,fun _=>le_refl _⟩
theorem a2u (z:Z):(∀t∈(mC z).1.fields,PT t)∧((mC z).2.e=0→(mC z).1.name.length+16+uJ (mC z).1.fields+mu (mC z).2≤mu z):=by
 obtain⟨g1,g2⟩:=aFf ((aR 2 z).2.R.length+1) [] (aR 2 z).2 (fun t ht=>by cases ht);unfold mC;refine⟨g1,fun h0=>?_⟩;have q:=(Kq.long _ _ _ _ h0).1
 have u:=g2 q;have y:=nU (k:=2) (by decide) (Kq.fields _ _ _ q).1;dsimp only;rw[rF];rw[show uJ []=0 from rfl] at u;omega
theorem aR1 (a:Int):∀(f:Nat) (out:List Cn) (z:Z),(∀c∈out,∀t∈c.fields,PT t)→(∀c∈(iT f a out z).1,∀t∈c.fields,PT t)∧((iT f a out z).2.e=0→y0 (iT f a out z).1+mu (iT f a out z).2≤y0 out+mu z)
 | 0,out,z,h=>⟨h,fun _=>le_refl _⟩
 | f+1,out,z,h=>by
  obtain⟨q,u⟩:=a2u z;have ho:∀c∈out++[(mC z).1],∀t∈c.fields,PT t:=fun c hc=>by
   rcases A4.1 hc with hc | hc
   ·exact h c hc
   ·rw[Am.1 hc];exact q
  have hm:=(oJ uF (c0 (out++[(mC z).1]).length 16 a (mC z).2)).1
  rw[rF] at hm;have key:(bT uF (c0 (out++[(mC z).1]).length 16 a (mC z).2)).2.e=0→y0 (out++[(mC z).1])+mu (bT uF (c0 (out++[(mC z).1]).length 16 a (mC z).2)).2≤y0 out+mu z:=fun h0=>by
   have y:=u (Kq.long _ _ _ _ (Kq.may uF _ h0).1).1;rw[aFw];omega
  rw[iT];split
  ·obtain⟨g1,g2⟩:=aR1 a f _ (bT uF (c0 (out++[(mC z).1]).length 16 a (mC z).2)).2 ho;refine⟨g1,fun h0=>?_⟩;have y:=g2 h0;have A:=key (Kq.cons f a _ _ h0).1;omega
  ·exact⟨ho,key⟩
theorem aQ8:∀l:List Tk,qM (l.map (·.text))≤40*wt l
 | []=>Ab _
 | t::l=>by
  have:=aQ8 l;rw[Ar,qM,cK];omega
theorem aIr (z:Z):qM ((aU z).1.map (·.text))+mu (aU z).2≤mu z:=by
 unfold aU;split
 ·have h1:=aQ8 (z.R.takeWhile qU);have h2:=aIo (z.R.takeWhile qU) (z.R.dropWhile qU);rw[List.takeWhile_append_dropWhile] at h2;show qM ((z.R.takeWhile qU).map (·.text))+40*wt (z.R.dropWhile qU)≤40*wt z.R;omega
 ·show 0+mu z≤mu z;omega
theorem aZi (z:Z):(∀c∈(jZ z).1.cons,∀t∈c.fields,PT t)∧((jZ z).2.e=0→dtW (jZ z).1+mu (jZ z).2≤mu z):=by
 have hC:(∀c∈(gO (fO z)).1,∀t∈c.fields,PT t)∧((gO (fO z)).2.e=0→(fO z).2.2.e=0∧y0 (gO (fO z)).1+mu (gO (fO z)).2≤mu (fO z).2.2):=by
  unfold gO;split
  ·rename_i he;obtain⟨g1,g2⟩:=aR1 (fO z).1.pl ((fO z).2.2.R.length+1) [] (fO z).2.2 (fun c hc=>by cases hc);exact⟨g1,fun h0=>⟨he,by have:=g2 h0;rw[show y0 []=0 from rfl] at this;omega⟩⟩
  ·rename_i he;exact⟨fun c hc=>(by cases hc),fun h0=>absurd h0 he⟩
 refine⟨hC.1,fun h0=>?_⟩;obtain⟨q,A⟩:=hC.2 h0;have u:240+mu (fO z).2.2≤mu (c0 (aU (aR 2 z).2).1.length 8 (aR 2 z).1.pl (aU (aR 2 z).2).2):=fV q;rw[rF] at u;have y:=(Kq.words _ (Kq.long _ _ _ _ (Kq.need eqS _ q).1).1).1
 have B:=aIr (aR 2 z).2;have E:=nU (k:=2) (by decide) y;show(aR 2 z).1.text.length+64+qM ((aU (aR 2 z).2).1.map (·.text))+y0 (gO (fO z)).1+mu (gO (fO z)).2≤mu z;omega
theorem aJ4 {z:Z}(h:(bD z).2.e=0):5*cP (bD z).1+mu (bD z).2≤mu z:=by
 unfold bD at h ⊢;split at h
 ·rename_i he;rw[ζ he];cases hs:cV z.R with
  | error e=>obtain⟨e,p⟩:=e;rw[hs] at h;exact absurd h (hD hs)
  | ok y=>
   obtain⟨s,R'⟩:=y;have:=(aCk hs).2
   show 5*cP s+40*wt R'≤40*wt z.R;omega
 ·rename_i he;exact absurd h he
theorem aTn (z:Z):∀p∈(bD z).1,PT p.ty:=by
 unfold bD;split
 ·cases hs:cV z.R with
  | error e=>obtain⟨e,p⟩:=e;exact fun p hp=>(by cases hp)
  | ok y=>exact(aCk hs).1
 ·exact fun p hp=>(by cases hp)
theorem aYe (t:Ty):t.name.length+8≤tyW t:=by
 cases t with
 | mk f n s a=>rw[tyW];show s.length+8≤_;omega
theorem aD4 (v:Str) (a:Int):∀(l:List Prd) (out:List Str) (z:Z),(bX v a l out z).2.e=0→nS v (bX v a l out z).1≤nS v out+5*cP l∧(bX v a l out z).2=z
 | [],out,z,_=>⟨by rw[bX];show nS v out≤_;omega,by rw[bX]⟩
 | p::l,out,z,h=>by
  rw[bX] at h ⊢;have hp:cP (p::l)=aB4 p+cP l:=by unfold cP;rw[Ar,Bx]
  split at h
  ·rename_i he;rw[ζ he];by_cases hc:p.ty.form=2∧p.ty.name=v
   ·rw[ζ hc] at h ⊢;obtain⟨g1,g2⟩:=aD4 v a l (out++[p.cls]) z h;refine⟨?_,g2⟩;rw[yZ] at g1;have:=aYe p.ty;rw[hc.2] at this;rw[hp];unfold aB4;omega
   ·rw[η hc] at h;exact(cJ (by decide) (Kq.supers v a l _ _ h).1).elim
  ·rename_i he;exact absurd h he
theorem aKi {L:List Tk}(hwt:wt L≤30000) (c v:Str) (a:Int):∀(f n:Nat) (out:List Sg) (z:Z),ZA L z→(∀m∈out,SchP (mtS m.ty)∧¬m.ty.preds=[])→(∀m∈(eO c v a f n out z).1,SchP (mtS m.ty)∧¬m.ty.preds=[])∧((eO c v a f n out z).2.e=0→yL (eO c v a f n out z).1+mu (eO c v a f n out z).2≤yL out+mu z)
 | 0,n,out,z,_,h=>⟨h,fun _=>le_refl _⟩
 | f+1,n,out,z,B,h=>by
  rw[eO];have hm:=zZ b5 n z;have u:=B.more b5 n;have q:ZA L (aQ eT (aR 1 (b6 b5 n z).2).2):=(u.word (k:=1) (by decide)).need _;split
  ·have hP:=wF q hwt;have ho:∀m∈out++[(jG c v (b6 b5 n z).2).1],SchP (mtS m.ty)∧¬m.ty.preds=[]:=fun m hm=>by
    rcases A4.1 hm with hm | hm
    ·exact h m hm
    ·rw[Am.1 hm];exact⟨⟨hP.t,hP.p,hP.l⟩,fun k=>by cases k⟩
   obtain⟨g1,g2⟩:=aKi hwt c v a f (n+1) (out++[(jG c v (b6 b5 n z).2).1]) (c0 (out++[(jG c v (b6 b5 n z).2).1]).length 16 a (jG c v (b6 b5 n z).2).2) (ZA.long q.scheme _ _ _) ho;refine⟨g1,fun h0=>?_⟩;have E:=g2 h0;rw[rF,aEu] at E;have y:=(Kq.long _ _ _ _ (Kq.meths c v a f _ _ _ h0).1).1
   have I:5*rR (bM (aQ eT (aR 1 (b6 b5 n z).2).2)).1+mu (jG c v (b6 b5 n z).2).2≤mu (aQ eT (aR 1 (b6 b5 n z).2).2):=wE y;have A:=(Kq.scheme _ y).1
   have J:=fV A;have M:=nU (k:=1) (by decide) (Kq.need eT _ A).1;have O:(jG c v (b6 b5 n z).2).1.name.length+32+rR (mtS (jG c v (b6 b5 n z).2).1.ty)=(aR 1 (b6 b5 n z).2).1.text.length+32+rR (bM (aQ eT (aR 1 (b6 b5 n z).2).2)).1:=rfl;omega
  ·exact⟨h,fun _=>by dsimp only;omega⟩
theorem aUx {L:List Tk}(hwt:wt L≤30000) {z:Z}(h:ZA L z):(∀m∈(eW z).1.methods,SchP (mtS m.ty)∧¬m.ty.preds=[])∧((eW z).2.e=0→clW (eW z).1+mu (eW z).2≤mu z):=by
 have B:ZA L (bP z).2.2.2:=(h.preds.word (k:=2) (by decide)).word (k:=1) (by decide);have hB:ZA L (eP (bP z)).2:=(nC _ _ _ _ _ B).1.need _;obtain⟨g1,g2⟩:=aKi hwt (bP z).2.1.text (bP z).2.2.1.text (bP z).2.1.pl ((eP (bP z)).2.R.length+1) 0 [] (eP (bP z)).2 hB (fun m hm=>by cases hm);refine⟨g1,fun h0=>?_⟩;have h0:(aQ b5 (kC (bP z) (eP (bP z))).2).e=0:=h0;have O:=fV h0;have u:=(Kq.need b5 _ h0).1
 have E:yL (kC (bP z) (eP (bP z))).1+mu (kC (bP z) (eP (bP z))).2≤yL []+mu (eP (bP z)).2:=g2 u;rw[show yL []=0 from rfl] at E;have y:(eP (bP z)).2.e=0:=(Kq.meths _ _ _ _ _ _ _ u).1
 have I:240+mu (eP (bP z)).2≤mu (bX (bP z).2.2.1.text (bP z).2.1.pl (bP z).1 [] (bP z).2.2.2).2:=fV y;have q:=(Kq.need dH _ y).1
 obtain⟨J,M⟩:=aD4 _ _ _ _ _ q;rw[M] at I q;rw[show nS (bP z).2.2.1.text []=0 from rfl] at J;have U:240+40*(bP z).2.2.1.text.length+mu (bP z).2.2.2≤mu (aR 2 (bD z).2).2:=nU (k:=1) (by decide) q;have A:=(Kq.word 1 _ q).1
 have Y:240+40*(bP z).2.1.text.length+mu (aR 2 (bD z).2).2≤mu (bD z).2:=nU (k:=2) (by decide) A;have w7:5*cP (bP z).1+mu (bD z).2≤mu z:=aJ4 (Kq.word 2 _ A).1;show(bP z).2.1.text.length+(bP z).2.2.1.text.length+64+nS (bP z).2.2.1.text (eP (bP z)).1+yL (kC (bP z) (eP (bP z))).1+mu (aQ b5 (kC (bP z) (eP (bP z))).2)≤mu z;have w8:nS (bP z).2.2.1.text (eP (bP z)).1=nS (bP z).2.2.1.text (bX (bP z).2.2.1.text (bP z).2.1.pl (bP z).1 [] (bP z).2.2.2).1:=rfl;omega
theorem aK6 (a:Int):∀(l:List Prd) (z:Z),(eI a l z).e=0→eI a l z=z
 | [],z,_=>rfl
 | p::l,z,h=>by
  rw[eI] at h ⊢;by_cases hc:z.e=0∧¬p.ty.form=2
  ·rw[ζ hc] at h;exact(cJ (by decide) (Kq.forms a l _ h).1).elim
  ·rw[η hc] at h ⊢;exact aK6 a l z h
section
variable {L:List Tk}{ex:Nat→Z→Ex×Z}(hO:ExO L ex) (hx:aDr ex) (hP:a0v ex L) (hwt:wt L≤30000)
include hO hx hP
theorem aE5:∀(f n:Nat) (out:List Bd) (z:Z),ZA L z→qH out→qH (cL ex f n out z).1∧((cL ex f n out z).2.e=0→jS (cL ex f n out z).1+mu (cL ex f n out z).2≤jS out+mu z)
 | 0,n,out,z,_,h=>⟨h,fun _=>le_refl _⟩
 | f+1,n,out,z,y,h=>by
  rw[cL];have hm:=zZ b5 n z;have q:=(y.more b5 n).word (k:=1) (by decide);split
  ·obtain⟨g1,g2⟩:=aR9 hx hP (aR 1 (b6 b5 n z).2).1 0 q;obtain⟨A,B⟩:=aE5 f (n+1) _ _ (pX hO _ 0 q).1 (yC h g1);refine⟨A,fun h0=>?_⟩;have E:=B h0;have u:=(Kq.ibinds hx f _ _ _ h0).1
   have I:=g2 u;have J:=nU (k:=1) (by decide) (Kq.bind hx _ _ _ u).1;rw[y9] at E;omega
  ·exact⟨h,fun _=>by dsimp only;omega⟩
theorem aYs {z:Z}(h:ZA L z):((∀q∈(kG ex z).1.preds,PT q.ty)∧qH (kG ex z).1.binds)∧((kG ex z).2.e=0→inW (kG ex z).1+mu (kG ex z).2≤mu z):=by
 have B:ZA L (aR 2 (bD z).2).2:=h.preds.word (by decide);have A:ZA L (c9 z).2.2.2.2:=(B.may cG).word (by decide);have hV:ZA L (instV (c9 z).2.2.1 (c9 z).2.2.2.2).2∧((instV (c9 z).2.2.1 (c9 z).2.2.2.2).2.e=0→qM (instV (c9 z).2.2.1 (c9 z).2.2.2.2).1+mu (instV (c9 z).2.2.1 (c9 z).2.2.2.2).2≤mu (c9 z).2.2.2.2):=by
  unfold instV;split
  ·refine⟨A.words.need _,fun h0=>?_⟩;have Y:=fV h0;have E:=aIr (c9 z).2.2.2.2;dsimp only;omega
  ·exact⟨A,fun _=>by show 0+mu (c9 z).2.2.2.2≤mu (c9 z).2.2.2.2;omega⟩
 generalize hv:instV (c9 z).2.2.1 (c9 z).2.2.2.2=v at hV;have hB:ZA L (jY (c9 z) v):=by
  unfold jY;refine ZA.need (pJ _ _ _ ?_).1 _;split
  ·exact ZA.long hV.1 _ _ _
  ·exact hV.1
 obtain⟨g1,g2⟩:=aE5 hO hx hP ((jY (c9 z) v).R.length+1) 0 [] (jY (c9 z) v) hB trivial;unfold kG;rw[hv];refine⟨⟨aTn z,g1⟩,fun h0=>?_⟩;have Y:=fV h0;have I:=(Kq.need b5 _ h0).1
 have E:jS (tU ex (jY (c9 z) v)).1+mu (tU ex (jY (c9 z) v)).2≤jS []+mu (jY (c9 z) v):=g2 I;rw[show jS []=0 from rfl] at E;have J:(jY (c9 z) v).e=0:=(Kq.ibinds hx _ _ _ _ I).1
 have M:240+mu (jY (c9 z) v)≤mu (eI (c9 z).2.1.pl (c9 z).1 (if v.2.e=0 then c0 v.1.length 8 (c9 z).2.1.pl v.2 else v.2)):=fV J;have u:=(Kq.need dH _ J).1
 rw[aK6 _ _ _ u] at M u;have y:v.2.e=0:=by
  by_cases hq:v.2.e=0
  ·exact hq
  ·rw[η hq] at u;exact u
 rw[ζ y,rF] at M;have w4:=hV.2 y;have O:(c9 z).2.2.2.2.e=0:=by
  rw[←hv] at y;exact(Kq.instV _ _ y).1
 have w5:240+40*(c9 z).2.2.2.1.text.length+mu (c9 z).2.2.2.2≤mu (bT cG (aR 2 (bD z).2).2).2:=nU (k:=2) (by decide) O;have w6:=(oJ cG (aR 2 (bD z).2).2).1
 have U:=(Kq.may cG _ (Kq.word 2 _ O).1).1
 have w7:240+40*(c9 z).2.1.text.length+mu (aR 2 (bD z).2).2≤mu (bD z).2:=nU (k:=2) (by decide) U;have w8:5*cP (c9 z).1+mu (bD z).2≤mu z:=aJ4 (Kq.word 2 _ U).1;dsimp only;show(c9 z).2.1.text.length+(c9 z).2.2.2.1.text.length+64+qM v.1+2*cP (c9 z).1+jS (tU ex (jY (c9 z) v)).1+mu (aQ b5 (tU ex (jY (c9 z) v)).2)≤mu z;omega
include hwt
theorem aZc (p:Pg) (sigs:List Sg) {z:Z}(h:ZA L z) (hp:PgP p) (hs:aGz sigs):(PgP (cY ex p sigs z).1.1∧aGz (cY ex p sigs z).1.2)∧((cY ex p sigs z).2.e=0→pgW (cY ex p sigs z).1.1+uK (cY ex p sigs z).1.2+mu (cY ex p sigs z).2≤pgW p+uK sigs+mu z):=by
 have snoc:∀{α:Type} {P:α→Prop} {l:List α} {a:α},(∀x∈l,P x)→P a→∀x∈l++[a],P x:=fun h k x hx=>by
  rcases A4.1 hx with hx | hx
  ·exact h x hx
  ·rw[Am.1 hx];exact k
 unfold cY;split
 ·have hm:=(oJ eV z).1
  obtain⟨g1,g2⟩:=aZi (bT eV z).2;refine⟨⟨⟨snoc hp.d g1,hp.c,hp.i,hp.b⟩,hs⟩,fun h0=>?_⟩;have q:=g2 h0;unfold pgW;dsimp only;rw[s9];omega
 split
 ·have hm:=(oJ fK z).1
  obtain⟨g1,g2⟩:=aUx hwt (h.may fK);refine⟨⟨⟨hp.d,snoc hp.c g1,hp.i,hp.b⟩,hs⟩,fun h0=>?_⟩;have q:=g2 h0;unfold pgW;dsimp only;rw[s9];omega
 split
 ·have hm:=(oJ jX z).1
  obtain⟨g1,g2⟩:=aYs hO hx hP (h.may jX);refine⟨⟨⟨hp.d,hp.c,snoc hp.i g1,hp.b⟩,hs⟩,fun h0=>?_⟩;have q:=g2 h0;unfold pgW;dsimp only;rw[s9];omega
 ·obtain⟨⟨g1,g2⟩,g3⟩:=aFn hx hP hwt sigs p.binds 0 h hs hp.b;refine⟨⟨⟨hp.d,hp.c,hp.i,g2⟩,g1⟩,fun h0=>?_⟩;have q:=g3 h0;unfold pgW;dsimp only;omega
omit hx hP in
theorem aUj (p:Pg) (sigs:List Sg) {z:Z}(h:ZA L z):ZA L (cY ex p sigs z).2:=by
 unfold cY;split
 ·exact(aFu (h.may eV) hwt).1
 split
 ·exact(aA7 (h.may fK) hwt).1
 split
 ·exact(aE2 hO hwt (h.may jX)).1
 ·exact aA3 hO hwt sigs p.binds 0 h
theorem aRh:∀(f n:Nat) (p:Pg) (sigs:List Sg) (z:Z),ZA L z→PgP p→aGz sigs→(PgP (eA ex f n p sigs z).1.1∧aGz (eA ex f n p sigs z).1.2)∧((eA ex f n p sigs z).2.e=0→pgW (eA ex f n p sigs z).1.1+uK (eA ex f n p sigs z).1.2+mu (eA ex f n p sigs z).2≤pgW p+uK sigs+mu z)
 | 0,n,p,sigs,z,_,hp,hs=>⟨⟨hp,hs⟩,fun _=>le_refl _⟩
 | f+1,n,p,sigs,z,h,hp,hs=>by
  rw[eA];have hm:=zZ [] n z;split
  ·obtain⟨⟨g1,g2⟩,g3⟩:=aZc hO hx hP hwt p sigs (h.more [] n) hp hs;obtain⟨q,u⟩:=aRh f (n+1) _ _ _ (aUj hO hwt p sigs (h.more [] n)) g1 g2;refine⟨q,fun h0=>?_⟩;have y:=u h0;have A:=g3 (Kq.prog hx f _ _ _ _ h0).1;omega
  ·exact⟨⟨hp,hs⟩,fun _=>by dsimp only;omega⟩
end
theorem aW4:PgP zPg:=⟨fun d q=>(by cases q),fun d q=>(by cases q),fun d q=>(by cases q),trivial⟩
theorem wT (s:Str):PgP (dR s).1∧pgW (dR s).1≤1200000:=by
 have q:PgP zPg∧pgW zPg≤1200000:=⟨aW4,by decide⟩
 unfold dR;split
 case isFalse=>exact q
 rename_i he;have he:=(Kq.endz _ he).1
 unfold gZ at he ⊢;obtain⟨u,hwt,_,_⟩:=eL s;split
 ·rename_i hb;rw[ζ hb] at he;have hN:aWf (bB s).1:=by
   unfold bB at hb ⊢;cases hl:pG s with
   | ok l=>
    unfold pG at hl;split at hl
    ·cases hl
    ·exact pF _ _ _ _ hl
   | error e=>
    intro t ht;rw[Am.1 ht];exact dI
  obtain⟨⟨g1,g2⟩,g3⟩:=aRh (iG hwt _) (oL _) (aLa hN hwt (bB s).2.R.length) hwt ((bB s).2.R.length+1) 0 zPg [] (bB s).2 u aW4 (fun x hx=>by cases hx);have B:=jD he;have y:(eA (yP (bB s).2.R.length) ((bB s).2.R.length+1) 0 zPg [] (bB s).2).2.e=0:=(Kq.pair _ _ _ he).1
  have A:=g3 y;obtain⟨E,I⟩:=zU (eA (yP (bB s).2.R.length) ((bB s).2.R.length+1) 0 zPg [] (bB s).2).1.2 (eA (yP (bB s).2.R.length) ((bB s).2.R.length+1) 0 zPg [] (bB s).2).1.1.binds (eA (yP (bB s).2.R.length) ((bB s).2.R.length+1) 0 zPg [] (bB s).2).2 g2 g1.b;unfold fT sF;refine⟨⟨g1.d,g1.c,g1.i,E⟩,?_⟩;have J:=u.wt;rw[show pgW zPg=0 from rfl,show uK []=0 from rfl] at A;unfold pgW at A ⊢;dsimp only;have M:mu (bB s).2≤40*30000:=by unfold mu;omega
  omega
 ·exact q
mutual
def exV:Ex→Prop
 | .mk f _ _ _ ks ps bs _=>(0≤f∧f≤8)∧(f=5→¬ps=[]∧∀p∈ps,p.form=2∧p.kids=[])∧aRy ks∧vO bs
def aRy:List Ex→Prop
 | []=>True
 | e::l=>exV e∧aRy l
def bdV:Bd→Prop
 | .mk _ _ _ _ e=>exV e
def vO:List Bd→Prop
 | []=>True
 | b::l=>bdV b∧vO l
end
theorem aFj:∀{l:List Ex}{p:Ex},aRy l→exV p→aRy (l++[p])
 | [],_,_,h=>⟨h,trivial⟩
 | _::_,_,h,k=>⟨h.1,aFj h.2 k⟩
theorem yA:∀{l:List Bd}{p:Bd},vO l→bdV p→vO (l++[p])
 | [],_,_,h=>⟨h,trivial⟩
 | _::_,_,h,k=>⟨h.1,yA h.2 k⟩
theorem aFi:∀{l:List Ex},aRy l→∀e∈l,exV e
 | a::l,h,e,he=>by
  rcases Aq.1 he with rfl | he
  ·exact h.1
  ·exact aFi h.2 e he
theorem aGh:∀{l:List Bd},vO l→∀b∈l,bdV b
 | a::l,h,e,he=>by
  rcases Aq.1 he with rfl | he
  ·exact h.1
  ·exact aGh h.2 e he
theorem aIn:exV zEx:=⟨⟨Int.le_refl _,by decide⟩,fun k=>absurd k (by decide),trivial,trivial⟩
theorem aIu (l:List Tk):∀p∈iB l,p.form=2∧p.kids=[]:=fun p hp=>by
 obtain⟨t,_,rfl⟩:=C7.1 hp;exact⟨rfl,rfl⟩
theorem zV:∀(l:List Sg) (b:List Bd) (z:Z),vO b→vO (dG l b z).1
 | [],b,z,hb=>by rw[dG];exact hb
 | s::l,b,z,hb=>by
  rw[dG];split
  ·split
   ·exact zV l b _ hb
   ·rename_i k _;split
    ·exact hb
    ·rename_i x hx;split
     ·exact zV l b _ hb
     ·have q:∀(b:List Bd) (k:Nat) (x:Bd),b[k]?=some x→vO b→vO (b.set k (lV x s.ty)):=fun b=>by
       induction b with
       | nil=>intro k x hx;cases hx
       | cons a b u=>
        intro k x hx hb;cases k with
        | zero=>
         injection hx with hx;subst hx;cases a with
         | mk y pl h g e=>exact⟨hb.1,hb.2⟩
        | succ k=>exact⟨hb.1,u k x hx hb.2⟩
      exact zV l _ z (q b k x hx hb)
  ·exact hb
def ExV (ex:Nat→Z→Ex×Z):Prop:=∀deep z,(ex deep z).2.e=0→exV (ex deep z).1
section
variable {ex:Nat→Z→Ex×Z}(hx:aDr ex) (hV:ExV ex)
include hV
theorem aYd (deep:Nat) (z:Z) (h:(iV ex deep z).2.e=0):exV (iV ex deep z).1.1:=by
 unfold iV at h ⊢;split
 ·exact aIn
 split
 ·rename_i u;unfold r7;split
  ·exact⟨⟨by decide,by decide⟩,fun k=>absurd k (by decide),trivial,trivial⟩
  ·exact⟨⟨by omega,by omega⟩,fun k=>by omega,trivial,trivial⟩
 split
 ·exact aIn
 ·rename_i h1 h2 q;rw[η h1,η h2,η q] at h;exact hV _ _ (Kq.need nY _ h).1
include hx
theorem aSk (deep:Nat) (a:Int):∀(f:Nat) (e:Ex) (z:Z),exV e→(fZ ex deep a f e z).2.e=0→exV (fZ ex deep a f e z).1
 | 0,e,z,he,_=>he
 | f+1,e,z,he,h=>by
  rw[fZ] at h ⊢;split
  ·rename_i h1;rw[ζ h1] at h;split
   ·exact he
   ·rename_i h2;rw[η h2] at h;exact aSk deep a f _ _ ⟨⟨by decide,by decide⟩,fun k=>absurd k (by decide),⟨he,aYd hV deep z (Kq.apps hx deep a f _ _ h).1,trivial⟩,trivial⟩ h
  ·exact he
theorem a2h (a:Int) (deep:Nat) (z:Z) (h:(uS ex a deep z).2.e=0):exV (uS ex a deep z).1:=by
 have h1:exV (ex (deep+1) (uM a z).2).1:=hV _ _ h;have y:(uM a z).2.e=0:=(hx _ _ h).1
 have q:=(Kq.long _ _ _ _ (Kq.need arrow _ y).1).1
 have u:¬(aU z).1=[]:=fun hn=>by
  rw[ζ hn] at q;exact cJ (by decide) q
 refine⟨⟨by decide,by decide⟩,fun _=>⟨fun k=>u ?_,aIu _⟩,⟨h1,trivial⟩,trivial⟩;exact List.map_eq_nil_iff.1 k
omit hx in
theorem aSa (q:Tk) (deep:Nat) (z:Z) (h:(dP ex q deep z).2.e=0):bdV (dP ex q deep z).1:=by
 have h1:exV (ex deep (gR q z).2).1:=hV _ _ h;show exV (aBn (gR q z).1 (ex deep (gR q z).2).1);unfold aBn;split
 ·exact h1
 ·exact⟨⟨by decide,by decide⟩,fun _=>⟨fun k=>List.cons_ne_nil _ _ k,aIu _⟩,⟨h1,trivial⟩,trivial⟩
omit hx in
theorem aFo (sigs:List Sg) (binds:List Bd) (deep:Nat) (z:Z) (hb:vO binds) (h:(aV ex sigs binds deep z).2.e=0):vO (aV ex sigs binds deep z).1.2:=by
 unfold aV at h ⊢;split
 ·exact hb
 ·rename_i hm;rw[η hm] at h;exact yA hb (aSa hV _ _ _ h)
theorem aRr (deep:Nat):∀(f n:Nat) (sigs:List Sg) (binds:List Bd) (z:Z),vO binds→(fW ex deep f n sigs binds z).2.e=0→vO (fW ex deep f n sigs binds z).1.2
 | 0,n,sigs,binds,z,hb,_=>hb
 | f+1,n,sigs,binds,z,hb,h=>by
  rw[fW] at h ⊢;split
  ·rename_i hm;rw[ζ hm] at h;exact aRr deep f (n+1) _ _ _ (aFo hV sigs binds deep _ hb (Kq.lets hx deep f _ _ _ _ h).1) h
  ·exact hb
theorem a2f (a:Int) (deep:Nat) (z:Z) (h:(uR ex a deep z).2.e=0):exV (uR ex a deep z).1:=by
 have h1:exV (ex (deep+1) (aQ inS (aE1 (mW ex deep z)).2)).1:=hV _ _ h;have u:=(Kq.need inS _ (hx _ _ h).1).1
 have q:(aE1 (mW ex deep z)).2=aQ b5 (mW ex deep z).2:=jD u;rw[q] at u;have y:(mW ex deep z).2.e=0:=(Kq.need b5 _ u).1
 have h2:vO (mW ex deep z).1.2:=aRr hx hV (deep+1) _ 0 [] [] _ trivial y;exact⟨⟨by decide,by decide⟩,fun k=>absurd k (by decide),⟨h1,trivial⟩,zV _ _ _ h2⟩
theorem aSn (deep:Nat):∀(f n:Nat) (ps:List Pt) (ks:List Ex) (z:Z),aRy ks→(fQ ex deep f n ps ks z).2.e=0→aRy (fQ ex deep f n ps ks z).1.2
 | 0,n,ps,ks,z,q,_=>q
 | f+1,n,ps,ks,z,q,h=>by
  rw[fQ] at h ⊢;split
  ·rename_i hm;rw[ζ hm] at h;exact aSn deep f (n+1) _ _ _ (aFj q (hV _ _ (Kq.alts hx deep f _ _ _ _ h).1)) h
  ·exact q
theorem aZm (a:Int) (deep:Nat) (z:Z) (h:(iH ex a deep z).2.e=0):exV (iH ex a deep z).1:=by
 unfold iH at h ⊢;by_cases hn:(i7 ex deep (dE ex deep z)).1.1=[]
 ·rw[ζ hn] at h;exact(cJ (by decide) h).elim
 ·rw[η hn] at h;have q:=(Kq.need b5 _ h).1
  have u:(dE ex deep z).2.e=0:=(Kq.alts hx deep _ _ _ _ _ q).1
  have h1:exV (dE ex deep z).1:=hV _ _ (Kq.need ofS _ (Kq.need dH _ u).1).1;have h2:aRy (i7 ex deep (dE ex deep z)).1.2:=aSn hx hV deep _ 0 [] [(dE ex deep z).1] _ ⟨h1,trivial⟩ q;exact⟨⟨by decide,by decide⟩,fun k=>absurd k (by decide),h2,trivial⟩
theorem aTp (deep:Nat) (z:Z) (h:(gC ex deep z).2.e=0):exV (gC ex deep z).1:=by
 unfold gC at h ⊢;by_cases hb:(iV ex deep z).1.2=false
 ·rw[ζ hb] at h;exact(cJ (by decide) (Kq.apps hx deep _ _ _ _ h).1).elim
 ·rw[η hb] at h ⊢;exact aSk hx hV deep _ _ _ _ (aYd hV deep z (Kq.apps hx deep _ _ _ _ h).1) h
omit hx hV in
theorem a3b (a:Int) (y:Ex×Z) (he:exV y.1):exV (uN a y).1:=by
 unfold uN;split
 ·exact⟨⟨by decide,by decide⟩,fun k=>absurd k (by decide),⟨he,trivial⟩,trivial⟩
 ·exact he
theorem aY2:ExV (aAx ex):=fun deep z h=>by
 unfold aAx at h ⊢;split
 ·exact aIn
 split
 ·exact aIn
 rename_i h1 h2;rw[η h1,η h2] at h;split
 ·rename_i q;rw[ζ q] at h;exact a2h hx hV _ deep _ h
 rename_i q;rw[η q] at h;split
 ·rename_i u;rw[ζ u] at h;exact a2f hx hV _ deep _ h
 rename_i u;rw[η u] at h;split
 ·rename_i y;rw[ζ y] at h;exact aZm hx hV _ deep _ h
 rename_i y;rw[η y] at h;exact a3b _ _ (aTp hx hV deep z (Kq.ann _ _ h).1)
end
theorem aLb:∀f,ExV (yP f)
 | 0=>fun deep z h=>(cJ (by decide) h).elim
 | f+1=>aY2 (oL f) (aLb f)
structure PgV (p:Pg):Prop where
 i:∀x∈p.insts,vO x.binds
 b:vO p.binds
theorem aE6 {ex:Nat→Z→Ex×Z}(hx:aDr ex) (hV:ExV ex):∀(f n:Nat) (out:List Bd) (z:Z),vO out→(cL ex f n out z).2.e=0→vO (cL ex f n out z).1
 | 0,n,out,z,h,_=>h
 | f+1,n,out,z,h,h0=>by
  rw[cL] at h0 ⊢;split
  ·rename_i hm;rw[ζ hm] at h0;exact aE6 hx hV f (n+1) _ _ (yA h (aSa hV _ _ _ (Kq.ibinds hx f _ _ _ h0).1)) h0
  ·exact h
theorem aZd {ex:Nat→Z→Ex×Z}(hx:aDr ex) (hV:ExV ex) (p:Pg) (sigs:List Sg) (z:Z) (hp:PgV p) (h:(cY ex p sigs z).2.e=0):PgV (cY ex p sigs z).1.1:=by
 unfold cY at h ⊢;split
 ·exact⟨hp.i,hp.b⟩
 rename_i h1;rw[η h1] at h;split
 ·exact⟨hp.i,hp.b⟩
 rename_i h2;rw[η h2] at h;split
 ·rename_i u;rw[ζ u] at h;refine⟨fun x q=>?_,hp.b⟩;rcases A4.1 q with q | q
  ·exact hp.i x q
  ·rw[Am.1 q];exact aE6 hx hV _ 0 [] _ trivial (Kq.need b5 _ h).1
 ·rename_i u;rw[η u] at h;exact⟨hp.i,aFo hV sigs p.binds 0 z hp.b h⟩
theorem aRi {ex:Nat→Z→Ex×Z}(hx:aDr ex) (hV:ExV ex):∀(f n:Nat) (p:Pg) (sigs:List Sg) (z:Z),PgV p→(eA ex f n p sigs z).2.e=0→PgV (eA ex f n p sigs z).1.1
 | 0,n,p,sigs,z,hp,_=>hp
 | f+1,n,p,sigs,z,hp,h=>by
  rw[eA] at h ⊢;split
  ·rename_i hm;rw[ζ hm] at h;exact aRi hx hV f (n+1) _ _ _ (aZd hx hV p sigs _ hp (Kq.prog hx f _ _ _ _ h).1) h
  ·exact hp
theorem aTl (s:Str):PgV (dR s).1:=by
 have q:PgV zPg:=⟨fun x hx=>(by cases hx),trivial⟩
 unfold dR;split
 case isFalse=>exact q
 rename_i he;have he:=(Kq.endz _ he).1
 unfold gZ at he ⊢;split
 ·rename_i hb;rw[ζ hb] at he;have u:=(Kq.pair _ _ _ he).1
  have h1:=aRi (oL _) (aLb (bB s).2.R.length) ((bB s).2.R.length+1) 0 zPg [] (bB s).2 q u;exact⟨h1.i,zV _ _ _ h1.b⟩
 ·exact q
theorem aLp (a:Int):∀(f:Nat) (out:List Cn) (z:Z),(¬out=[]∨0<f)→¬(iT f a out z).1=[]
 | 0,out,z,h=>by
  rcases h with h | h
  ·exact h
  ·exact absurd h (lt_irrefl 0)
 | f+1,out,z,_=>by
  have q:¬out++[(mC z).1]=[]:=fun k=>by simp at k
  rw[iT];split
  ·exact aLp a f _ _ (.inl q)
  ·exact q
theorem aUo (z:Z) (h:(jZ z).2.e=0):¬(jZ z).1.cons=[]:=by
 show ¬(gO (fO z)).1=[];have h:(gO (fO z)).2.e=0:=h;unfold gO at h ⊢;split
 ·exact aLp _ _ _ _ (.inr (succ_pos _))
 ·rename_i he;rw[η he] at h;exact absurd h he
def PgN (p:Pg):Prop:=∀d∈p.datas,¬d.cons=[]
theorem aZe {ex:Nat→Z→Ex×Z}(p:Pg) (sigs:List Sg) (z:Z) (hp:PgN p) (h:(cY ex p sigs z).2.e=0):PgN (cY ex p sigs z).1.1:=by
 unfold cY at h ⊢;split
 ·rename_i h1;rw[ζ h1] at h;intro d q;rcases A4.1 q with q | q
  ·exact hp d q
  ·rw[Am.1 q];exact aUo _ h
 split
 ·exact hp
 split
 ·exact hp
 ·exact hp
theorem aRj {ex:Nat→Z→Ex×Z}(hx:aDr ex):∀(f n:Nat) (p:Pg) (sigs:List Sg) (z:Z),PgN p→(eA ex f n p sigs z).2.e=0→PgN (eA ex f n p sigs z).1.1
 | 0,n,p,sigs,z,hp,_=>hp
 | f+1,n,p,sigs,z,hp,h=>by
  rw[eA] at h ⊢;split
  ·rename_i hm;rw[ζ hm] at h;exact aRj hx f (n+1) _ _ _ (aZe p sigs _ hp (Kq.prog hx f _ _ _ _ h).1) h
  ·exact hp
theorem aTm (s:Str):PgN (dR s).1:=by
 have q:PgN zPg:=fun d u=>(by cases u)
 unfold dR;split
 case isFalse=>exact q
 rename_i he;have he:=(Kq.endz _ he).1
 unfold gZ at he ⊢;split
 ·rename_i hb;rw[ζ hb] at he;exact aRj (oL _) ((bB s).2.R.length+1) 0 zPg [] (bB s).2 q (Kq.pair _ _ _ he).1
 ·exact q
theorem aBq (s:Str):aWf (bB s).1:=by
 unfold bB;cases hl:pG s with
 | ok l=>
  unfold pG at hl;split at hl
  ·cases hl
  ·exact pF _ _ _ _ hl
 | error e=>
  intro t ht;rw[Am.1 ht];exact dI
theorem aGg (s:Str):mu (bB s).2≤1200000:=by
 obtain⟨_,hwt,_,h⟩:=eL s;unfold mu;rw[←h];omega
theorem aY3 (s:Str):exP (aNl s).1∧oN (aNl s).1∧exV (aNl s).1∧exW (aNl s).1≤1200000:=by
 have u:exP zEx∧oN zEx∧exV zEx∧exW zEx≤1200000:=⟨aGt,.z,aIn,by unfold zEx;decide⟩
 unfold aNl;split
 case isFalse=>exact u
 rename_i he;have he:=(Kq.endz _ he).1
 obtain⟨q,hwt,_,_⟩:=eL s;have h1:=aLa (aBq s) hwt (bB s).2.R.length 0 _ q;have h2:=h1.2 he;have y:=aGg s;refine⟨h1.1,(iG hwt (bB s).2.R.length 0 _ q).2.1,aLb _ 0 _ he,?_⟩;show exW (wM s).1≤_;unfold wM;omega
theorem aYa (s:Str):aJ9 (aNk s).1∧ptW (aNk s).1≤1200000:=by
 have q:aJ9 zPt∧ptW zPt≤1200000:=⟨yR.1,by rw[yR.2];decide⟩
 unfold aNk;split
 case isFalse=>exact q
 rename_i he;have he:=(Kq.endz _ he).1
 obtain⟨u,hwt,_,_⟩:=eL s;unfold wL at he ⊢;split
 ·rename_i hb;rw[ζ hb] at he;have h1:=(aKa (aBq s) (3*(bB s).2.R.length+1)).2.1 0 _ u;have h2:=h1.2 he;have y:=aGg s;exact⟨h1.1,by dsimp only;omega⟩
 ·exact q
set_option maxHeartbeats 4000000
theorem aDd (e:Ex):aW Tryz.prog 51 [.pa (bR e)] [] (B (opn e.form)) []:=by
 unfold opn;refine b9 (n:=21) tok Tryz.func51 rfl rfl rfl ?_;refine sg rfl ?_;by_cases q:e.form=5
 ·have d5:decide (e.form=5)=true:=θ q;rw[d5,B7];exact sgh [(3,.bv true),(7,.bv true),(8,.bv true),(12,.bv true),(13,.bv true),(17,.bv true)] rfl (aE rtT)
 have d5:decide (e.form=5)=false:=φ q;by_cases u:e.form=6
 ·have d6:decide (e.form=6)=true:=θ u;rw[d5,d6,A9,B7];exact sgh [(3,.bv false),(7,.bv false),(8,.bv true),(12,.bv true),(13,.bv true),(17,.bv true)] rfl (aE rtT)
 have d6:decide (e.form=6)=false:=φ u;by_cases y:e.form=7
 ·have d7:decide (e.form=7)=true:=θ y;rw[d5,d6,d7,A9,A9,B7];exact sgh [(3,.bv false),(7,.bv false),(8,.bv false),(12,.bv false),(13,.bv true),(17,.bv true)] rfl (aE rtT)
 have d7:decide (e.form=7)=false:=φ y;rw[d5,d6,d7,A9,A9,A9];exact sgh [(3,.bv false),(7,.bv false),(8,.bv false),(12,.bv false),(13,.bv false),(17,.bv false)] rfl (aE rtT)
theorem aDc (l:List Pt) (hP:lK l) (hB:zN l) (hl:l.length≤4002) (hW:jR l≤400000000):aW Tryz.prog 52 [.one (.c (.sl 10 (l.map bL)))] [] (Go.AM.T (Lib.join (l.map prP) [32])) []:=by
 have hM:3000000000≤maxLen:=by decide
 have E:(l.map bL).length=l.length:=ξ _;refine b9 (n:=20) tok Tryz.func52 rfl rfl rfl ?_;refine sg rfl (sg rfl (AWp.sub (Sub.own (t:=3) (id:=500) 9 1 rfl rfl) ?_));refine aA (sg rfl (aF (aJ (fun i:Nat=>mk [(3,.one (.hs 500 0 (l.take i).length (l.take i).length)),(6,.one (.c (.sl 10 (l.map bL)))),(7,I .i64 ((l.map bL).length:Nat)),(8,I .i64 (i:Nat))] [(500,.arr 9 1 (((l.take i).map prP).map aK) 0)]) (fun i=>i≤l.length) (fun i=>l.length-i) 0 (Ab _) sl ?_)));intro i hi;have M:(l.take i).length=i:=by rw[Ai];omega
 refine sg rfl (aA (aB rfl (fun hb=>?_) (fun hb=>?_)))
 ·have q:=ltD hb E;obtain⟨p,hp⟩:=aG q;have O:=aP bL hp;have hm:=ε hp;have U:=lH hm;have hc:=lR (psz p) p (le_refl _) (eF hP p hm) (nG hB p hm) (by omega);have u:(((l.take i).map prP).map aK).length=(l.take i).length:=by rw[ξ,ξ]
  have y:l.take (i+1)=l.take i++[p]:=bQ hp;have A:(l.take (i+1)).length=(l.take i).length+1:=by rw[y,ψ];rfl
  have B:(((l.take i).map prP).map aK)++[[.str (prP p)]]=((l.take (i+1)).map prP).map aK:=by rw[y,Af,Af];rfl
  refine aD (aA (aF (sgh [(0,.row i (bL p))] rfl (aC mixed (ak 2 [] rfl (kc hc ?_))))));exact ak 3 [(3,.all)] rfl (az (agN [] rfl ⟨i+1,q,by dsimp only;omega,sl (he:=⟨Go.AM.hs_ren (by rw[A,←u];rfl) (by rw[A,←u];rfl),rfl,rfl,rfl,trivial⟩) (hh:=⟨⟨_,rfl,.arrS B⟩,trivial⟩)⟩))
 ·have J:=geD hb E hi;subst J;refine aH ?_;rw[Al];have Y:=pD hP;have hj:=u9 (l.map prP) [32] (by rw[ξ];omega) (by omega);have aa:((l.map prP).map aK).length=l.length:=by rw[ξ,ξ]
  refine AWp.sub (Sub.freeze (id:=500) rfl) ?_;refine AWp.sub (st2:=mk [(3,bU (l.map prP))] []) ?_ ?_
  ·refine Sub.trans ?_ (cv 3 ((l.map prP).map aK));exact sl
  refine sk 1 rfl (kc hj ?_);exact kz 1 rfl (aE rtT)
def PES (k:Nat):Prop:=∀e:Ex,esz e≤k→exP e→oN e→exW e≤400000000→aW Tryz.prog 15 [.pa (bR e)] [] (Go.AM.T (prE e)) []
def PBS (k:Nat):Prop:=∀l:List Bd,l.length≤4002→aNn l≤k→qH l→eY l→jS l≤400000000→aW Tryz.prog 38 [.one (.c (.sl 33 (i6 l)))] [] (bU (dT l)) []
theorem k9:∀l:List Bd,(dT l).length≤2*l.length
 | []=>le_refl _
 | .mk s pl h g e::l=>by
  have:=k9 l;rw[dT,prB,ψ,ψ,ω,ω,length_nil];split
  ·rw[ω,length_nil];omega
  ·rw[length_nil];omega
theorem aGb {k:Nat}(hE:PES k):PBS (k+1):=by
 intro l hl hk hP hB hW;have hM:3000000000≤maxLen:=by decide
 have aa:(i6 l).length=l.length:=by rw[fJ,ξ]
 refine b9 (n:=36) tok Tryz.func38 rfl rfl rfl ?_;refine sg rfl (sg rfl (AWp.sub (Sub.own (t:=3) (id:=500) 9 1 rfl rfl) ?_));refine aA (sg rfl (aF (aJ (fun i:Nat=>mk [(3,.one (.hs 500 0 (dT (l.take i)).length (dT (l.take i)).length)),(6,.one (.c (.sl 33 (i6 l)))),(7,I .i64 ((i6 l).length:Nat)),(8,I .i64 (i:Nat))] [(500,.arr 9 1 ((dT (l.take i)).map aK) 0)]) (fun i=>i≤l.length) (fun i=>l.length-i) 0 (Ab _) sl ?_)));intro i hi;have hti:(l.take i).length=i:=by rw[Ai];omega
 have ab:=k9 (l.take i);refine sg rfl (aA (aB rfl (fun hb=>?_) (fun hb=>?_)))
 ·have J:=ltD hb aa;obtain⟨b,M⟩:=aG J;have hx':(i6 l)[i]?=some (aY b):=by rw[fJ];exact aP aY M
  have hm:=ε M;have ac:=jP.1 hB b hm;have B:=yB hP b hm;have hsz:=aDg hm;have ad:=y8 hm;have ae:l.take (i+1)=l.take i++[b]:=bQ M;obtain⟨u,pl,has,q,e⟩:=b;have hnm:List.length (Bd.name (.mk u pl has q e))=u.length:=rfl;rw[bsz] at hsz;rw[bdW] at ad;have hs:=qZ B.1 (by omega);have hsl:=rA B.1;have he:=hE e (by omega) B.2 ac.2 (by omega);have hel:=fH e B.2;have y:dT (l.take (i+1))=dT (l.take i)++prB (.mk u pl has q e):=by rw[ae,x6,dT,dT,Ay]
  have hc3:nT.length=3:=rfl;have hq3:eqP.length=3:=rfl;generalize dT (l.take i)=P at ab y;have E:(P.map aK).length=P.length:=ξ _;refine aD (aA (aF (sgh [(0,.row i (aY (.mk u pl has q e)))] rfl (aA (sg rfl ?_)))));cases has with
  | true=>
   refine aB rfl (fun _=>aC mixed (ak 6 [] rfl (kc hs ?_))) nofun;refine ak 4 [(8,.all)] rfl (az ?_);have A:(P.map aK)++[[.str (u++nT++nE q)]]=(P++[u++nT++nE q]).map aK:=by rw[Af];rfl
   have hle:(P++[u++nT++nE q]).length=P.length+1:=by rw[ψ];rfl
   have Y:((P++[u++nT++nE q]).map aK)++[[.str (u++eqP++prE e)]]=(dT (l.take (i+1))).map aK:=by rw[y,prB,ζ rfl,←Aj];simp[aK]
   have O:(dT (l.take (i+1))).length=(P++[u++nT++nE q]).length+1:=by rw[y,prB,ζ rfl,←Aj];simp
   have U:((P++[u++nT++nE q]).map aK).length=(P++[u++nT++nE q]).length:=ξ _;refine AWp.sub (st2:=mk [(3,.one (.hs 500 0 (P++[u++nT++nE q]).length (P++[u++nT++nE q]).length)),(5,.one (.vp 5 0)),(6,.one (.c (.sl 33 (i6 l)))),(7,I .i64 ((i6 l).length:Nat)),(8,I .i64 (i:Nat))] [(500,.arr 9 1 ((P++[u++nT++nE q]).map aK) 0),(5,.var 109 ((aY (.mk u pl true q e)).map .c))]) (sl (he:=⟨Go.AM.hs_ren (by rw[hle,←E];rfl) (by rw[hle,←E];rfl),rfl,rfl,rfl,rfl,trivial⟩) (hh:=⟨⟨_,rfl,.arrS A⟩,⟨_,rfl,.var rfl⟩,trivial⟩)) ?_;generalize P++[u++nT++nE q]=P2 at *;refine aC mixed (ak 6 [] rfl (kc he ?_));exact ak 4 [(8,.all)] rfl (az (agN [] rfl ⟨i+1,J,by dsimp only;omega,sl (he:=⟨Go.AM.hs_ren (by rw[O,←U];rfl) (by rw[O,←U];rfl),rfl,rfl,rfl,trivial⟩) (hh:=⟨⟨_,rfl,.arrS Y⟩,trivial⟩)⟩))
  | false=>
   refine aB rfl nofun (fun _=>aD (aC mixed (ak 6 [] rfl (kc he ?_))));refine ak 4 [(8,.all)] rfl (az ?_);have A:(P.map aK)++[[.str (u++eqP++prE e)]]=(dT (l.take (i+1))).map aK:=by rw[y,prB,η χ,Av,Af];rfl
   have hle:(dT (l.take (i+1))).length=P.length+1:=by rw[y,prB,η χ,Av,ψ];rfl
   exact agN [] rfl ⟨i+1,J,by dsimp only;omega,sl (he:=⟨Go.AM.hs_ren (by rw[hle,←E];rfl) (by rw[hle,←E];rfl),rfl,rfl,rfl,trivial⟩) (hh:=⟨⟨_,rfl,.arrS A⟩,trivial⟩)⟩
 ·have af:=geD hb aa hi;subst af;refine aH ?_;rw[Al];refine sg rfl (AWp.sub (Sub.freeze (id:=500) rfl) ?_);exact aE (rtH (hsz:=(ξ _).symm) (hlen:=(ξ _).symm))
theorem uI:∀(ps:List Pt) (xs:List (Int×Str)) (i:Nat) (p:Pt) (x:Int×Str),ps[i]?=some p→xs[i]?=some x→iI (ps.take (i+1)) xs=iI (ps.take i) xs++[prP p++arrS++x.2]
 | [],_,i,_,_,h,_=>by cases h
 | _::_,[],i,_,_,_,h=>by cases h
 | p::ps,x::xs,0,q,u,h,h'=>by
  injection h with h;injection h' with h';subst h;subst h';rw[A3,Bl,iI,Bl];cases xs<;>(simp[iI])
 | p::ps,x::xs,i+1,q,u,h,h'=>by
  rw[A3,A3,iI,iI,uI ps xs i q u h h'];rfl
theorem x5:∀{l:List Ex}{i:Nat}{e:Ex},l[i]?=some e→(eC l)[i]?=some (e.form,prE e)
 | _::_,0,_,h=>by injection h with h;subst h;rw[eC];rfl
 | _::l,i+1,e,h=>by rw[eC];exact x5 (l:=l) (i:=i) h
theorem qC:∀(ps:List Pt) (xs:List (Int×Str)),ps.length≤xs.length→(iI ps xs).length=ps.length
 | [],xs,_=>by cases xs<;>simp[iI]
 | p::ps,[],h=>by rw[ω,length_nil] at h;omega
 | p::ps,x::xs,h=>by rw[iI,ω,ω,qC ps xs (by rw[ω,ω] at h;omega)]
theorem wY:∀l:List Ex,(eC l).length=l.length
 | []=>rfl
 | _::l=>by rw[eC,ω,ω,wY l]
def tk0 (t:Tk):Tk:=⟨t.kind,t.text,t.n,0⟩
theorem k0 (t:Tk):(tk0 t).kind=t.kind:=rfl
def aTy:Str:=[32,59,10]
def aMn:Str:=[32,124,32]
def a08:Str:=[99,108,97,115,115,32]
def a04:Str:=[105,110,115,116,97,110,99,101,32]
def uL (c:Cn):Str:=c.name++c.fields.flatMap fun t=>[32]++cO t
def prD (d:Dt):Str:=Lib.join ([eV,d.name]++d.vars) [32]++eqP++Lib.join (d.cons.map uL) aMn
def nW (v s:Str):Prd:=⟨s,.mk 2 0 v []⟩
def prM (m:Sg):Str:=m.name++nT++nE (mtS m.ty)
def prC (c:Cl):Str:=a08++uU (c.supers.map (nW c.var))++c.name++[32]++c.var++[32]++s6 (c.methods.map prM)
def prI (x:In):Str:=a04++uU x.preds++x.cls++[32]++brk (decide (0<x.vars.length)) (Lib.join ([x.con]++x.vars) [32])++[32]++s6 (dT x.binds)
def aWs (p:Pg):Str:=Lib.join (p.datas.map prD++p.classes.map prC++p.insts.map prI++dT p.binds) aTy
theorem join_one (a sep:Str):Lib.join [a] sep=a:=by simp[Lib.join,List.intercalate,List.intersperse]
theorem pH (a b sep:Str) (l:List Str):Lib.join (a::b::l) sep=a++sep++Lib.join (b::l) sep:=by
 cases l with
 | nil=>simp[Lib.join,List.intercalate,List.intersperse]
 | cons c l=>simp[Lib.join,List.intercalate,List.intersperse]
theorem aAn (sep x:Str):∀l:List Str,¬l=[]→Lib.join (l++[x]) sep=Lib.join l sep++sep++x
 | [],h=>absurd rfl h
 | [a],_=>by rw[As,Av,pH,join_one,join_one]
 | a::b::l,_=>by
  rw[As,As,pH,←As,aAn sep x (b::l) (List.cons_ne_nil _ _),pH];simp only[Aj]
theorem kT {l:List Str}{i:Nat}{x sep:Str}(h:l[i]?=some x):Lib.join (l.take (i+1)) sep=(if i=0 then [] else Lib.join (l.take i) sep++sep)++x:=by
 rw[bQ h];by_cases h0:i=0
 ·subst h0;rw[ζ rfl,Bl,Av,Av,join_one]
 ·rw[η h0,aAn sep x _ (fun k=>by
   rcases List.take_eq_nil_iff.1 k with k | k
   ·exact h0 k
   ·rw[k] at h;cases h)]
def kN:List Str→Nat
 | []=>0
 | s::l=>s.length+3+kN l
theorem iC:∀l:List Str,kN l=(l.map (fun s:Str=>s.length)).sum+3*l.length
 | []=>rfl
 | s::l=>by rw[kN,iC l,Ar,Bx,ω];omega
theorem gU (l m:List Str):kN (l++m)=kN l+kN m:=by rw[iC,iC,iC,Af,sum_append,ψ];omega
theorem dF {sep:Str}(h:sep.length≤3) (l:List Str):(Lib.join l sep).length≤kN l:=by
 have h1:=join_le sep l;have h2:sep.length*l.length≤3*l.length:=A2 _ h;rw[iC];omega
theorem r6 (l:List Str):(s6 l).length≤kN l+4:=by
 have:=uE l;rw[iC];omega
theorem pL:∀l:List Ty,(∀t∈l,PT t)→(l.flatMap fun t=>[32]++cO t).length≤uJ l
 | [],_=>Ab _
 | t::l,h=>by
  have h1:=nD (h t (.head _));have h2:=pL l fun t ht=>h t (.tail _ ht)
  rw[flatMap_cons,ψ,ψ,uJ];show 1+(cO t).length+_≤_;omega
theorem xX:∀l:List Cn,(∀c∈l,∀t∈c.fields,PT t)→kN (l.map uL)≤y0 l
 | [],_=>le_refl _
 | c::l,h=>by
  have h1:=pL c.fields (h c (.head _));have h2:=xX l fun c hc=>h c (.tail _ hc)
  have e:(uL c).length=c.name.length+(c.fields.flatMap fun t=>[32]++cO t).length:=by unfold uL;rw[ψ]
  rw[Ar,kN,y0];omega
theorem oE:∀l:List Str,kN l≤qM l
 | []=>le_refl _
 | s::l=>by have:=oE l;rw[kN,qM];omega
theorem aX6 {d:Dt}(h:∀c∈d.cons,∀t∈c.fields,PT t):(prD d).length+3≤2*dtW d:=by
 have h1:=xX d.cons h;have h2:=oE d.vars;have q:=dF (sep:=[32]) (by decide) ([eV,d.name]++d.vars);have u:=dF (sep:=aMn) (by decide) (d.cons.map uL);rw[gU,show kN [eV,d.name]=7+(d.name.length+3+0) from rfl] at q;unfold prD dtW;rw[ψ,ψ];show _+3+_+3≤_;omega
theorem aEt:∀l:List Sg,(∀m∈l,SchP (mtS m.ty)∧¬m.ty.preds=[])→kN (l.map prM)≤2*yL l
 | [],_=>Ab _
 | m::l,h=>by
  have h1:=rA (h m (.head _)).1;have h2:=aEt l fun c hc=>h c (.tail _ hc)
  have e:(prM m).length=m.name.length+3+(nE (mtS m.ty)).length:=by unfold prM;rw[ψ,ψ];rfl
  rw[Ar,kN,yL];omega
theorem aD3 (v:Str):∀l:List Str,cP (l.map (nW v))≤nS v l
 | []=>le_refl _
 | s::l=>by
  have:=aD3 v l;have e:cP ((s::l).map (nW v))=(s.length+8+(v.length+8+0))+cP (l.map (nW v)):=by unfold cP;rw[Ar,Ar,Bx];rfl
  rw[e,nS];omega
theorem aI5 (v:Str) (l:List Str):∀p∈l.map (nW v),PT p.ty:=fun p hp=>by
 obtain⟨s,_,rfl⟩:=C7.1 hp;exact .leaf 2 v (.inr (.inl rfl))
theorem aJ8 {c:Cl}(h:∀m∈c.methods,SchP (mtS m.ty)∧¬m.ty.preds=[]):(prC c).length+3≤2*clW c:=by
 have h1:=aEt c.methods h;have h2:=oA (aI5 c.var c.supers);have q:=aD3 c.var c.supers;have u:=r6 (c.methods.map prM);unfold prC clW;rw[ψ,ψ,ψ,ψ,ψ,ψ,ω,length_nil,show a08.length=6 from rfl];omega
theorem sP {l:List Bd}(h:qH l):kN (dT l)≤jS l:=by
 have:=tK l h;rw[iC];exact this
theorem aJ7 {x:In}(hp:∀q∈x.preds,PT q.ty) (hb:qH x.binds):(prI x).length+3≤2*inW x:=by
 have h1:=sP hb;have h2:=oA hp;have y:=r6 (dT x.binds);have A:=oE x.vars;have u:=dF (sep:=[32]) (by decide) ([x.con]++x.vars);have B:=bS (decide (0<x.vars.length)) (Lib.join ([x.con]++x.vars) [32]);rw[gU,show kN [x.con]=x.con.length+3+0 from rfl] at u;unfold prI inW;rw[ψ,ψ,ψ,ψ,ψ,ψ,ω,length_nil,show a04.length=9 from rfl];omega
theorem sB {α:Type}(f:α→Str) (g:α→Nat):∀l:List α,(∀a∈l,(f a).length+3≤2*g a)→kN (l.map f)≤2*aGx g l
 | [],_=>Ab _
 | a::l,h=>by
  have h1:=h a (.head _);have h2:=sB f g l fun x hx=>h x (.tail _ hx)
  rw[Ar,kN,aGx];omega
def prL (p:Pg):List Str:=p.datas.map prD++p.classes.map prC++p.insts.map prI++dT p.binds
theorem aRk {p:Pg}(h:PgP p):kN (prL p)≤2*pgW p:=by
 have h1:=sB prD dtW p.datas fun d q=>aX6 (h.d d q)
 have h2:=sB prC clW p.classes fun d q=>aJ8 (h.c d q)
 have u:=sB prI inW p.insts fun d q=>aJ7 (h.i d q).1 (h.i d q).2
 have y:=sP h.b;unfold prL pgW;rw[gU,gU,gU];omega
theorem aCz {α:Type}(f:α→Str) {l:List α}{i:Nat}{x:α}(h:l[i]?=some x):(l.take (i+1)).flatMap f=(l.take i).flatMap f++f x:=by rw[bQ h,List.flatMap_append,flatMap_cons,flatMap_nil,Ay]
theorem vY:∀{l:List Ty}{t:Ty},t∈l→tyW t≤uJ l
 | a::l,t,h=>by
  rw[uJ];rcases Aq.1 h with rfl | h
  ·omega
  ·have:=vY h;omega
theorem sW:∀(l:List Ty) (i:Nat),uJ (l.take i)≤uJ l
 | [],i=>by rw[take_nil];exact le_refl _
 | a::l,0=>Ab _
 | a::l,i+1=>by have:=sW l i;rw[A3,uJ,uJ];omega
theorem xZ:∀{l:List Cn}{c:Cn},c∈l→c.name.length+16+uJ c.fields≤y0 l
 | a::l,t,h=>by
  rw[y0];rcases Aq.1 h with rfl | h
  ·omega
  ·have:=xZ h;omega
theorem a2z (d:Dt) (hP:∀c∈d.cons,∀t∈c.fields,PT t) (hv:d.vars.length≤5000) (hc:d.cons.length≤5000) (hf:∀c∈d.cons,c.fields.length≤5000) (hW:dtW d≤100000000):aW Tryz.prog 34 [.pa (cQ d)] [] (Go.AM.T (prD d)) []:=by
 have hM:3000000000≤maxLen:=by decide
 obtain⟨q,pl,vs,cs⟩:=d;dsimp only at hP hv hc hf;unfold dtW at hW;dsimp only at hW;have hk:(cs.map hY).length=cs.length:=ξ _;have hkv:(vs.map aK).length=vs.length:=ξ _;have h4:=dF (sep:=aMn) (by decide) (cs.map uL);have h1:=xX cs hP;have h2:=oE vs;have h3:=dF (sep:=[32]) (by decide) ([eV,q]++vs);rw[gU,show kN [eV,q]=7+(q.length+3+0) from rfl] at h3;have hj1:=u9 ([eV,q]++vs) [32] (by rw[ψ];show 2+vs.length≤_;omega) (by omega);have hj2:=u9 (cs.map uL) aMn (by rw[ξ];omega) (by omega);refine b9 (n:=47) tok Tryz.func34 rfl rfl rfl ?_;refine sg rfl (sg rfl (AWp.sub (Sub.own (t:=3) (id:=500) 9 1 rfl rfl) ?_));refine aA (sg rfl (aF (aJ (fun i:Nat=>mk [(1,.one (.vp 1 0)),(3,.one (.hs 500 0 (cs.take i).length (cs.take i).length)),(10,.one (.c (.sl 3 (cs.map hY)))),(11,I .i64 ((cs.map hY).length:Nat)),(12,I .i64 (i:Nat))] [(1,.var 81 ((cQ ⟨q,pl,vs,cs⟩).map .c)),(500,.arr 9 1 (((cs.take i).map uL).map aK) 0)]) (fun i=>i≤cs.length) (fun i=>cs.length-i) 0 (Ab _) sl ?_)));intro i hi;have hti:(cs.take i).length=i:=by rw[Ai];omega
 refine sg rfl (aA (aB rfl (fun hb=>?_) (fun hb=>?_)))
 ·have U:=ltD hb hk;obtain⟨c,A⟩:=aG U;have hc':=aP hY A;have B:=ε A;have hcw:=xZ B;have hcf:=hf c B;have y:=hP c B;have Y:(((cs.take i).map uL).map aK).length=(cs.take i).length:=by rw[ξ,ξ]
  have aa:cs.take (i+1)=cs.take i++[c]:=bQ A;have ab:(cs.take (i+1)).length=(cs.take i).length+1:=by rw[aa,ψ];rfl
  have E:(((cs.take i).map uL).map aK)++[[.str (c.name++c.fields.flatMap fun t=>[32]++cO t)]]=((cs.take (i+1)).map uL).map aK:=by rw[aa,Af,Af];rfl
  obtain⟨u,cp,fs⟩:=c;dsimp only at hcw hcf y E;have ac:(fs.map bF).length=fs.length:=ξ _;refine aD (aA (aF (sgh [(0,.row i (hY ⟨u,cp,fs⟩))] rfl (sg rfl (aA (sg rfl (aF (aJ (fun k:Nat=>mk [(1,.one (.vp 1 0)),(3,.one (.hs 500 0 (cs.take i).length (cs.take i).length)),(6,Go.AM.T (u++(fs.take k).flatMap fun t=>[32]++cO t)),(10,.one (.c (.sl 3 (cs.map hY)))),(11,I .i64 ((cs.map hY).length:Nat)),(12,I .i64 (i:Nat)),(19,.one (.c (.sl 4 (fs.map bF)))),(20,I .i64 ((fs.map bF).length:Nat)),(21,I .i64 (k:Nat))] [(1,.var 81 ((cQ ⟨q,pl,vs,cs⟩).map .c)),(500,.arr 9 1 (((cs.take i).map uL).map aK) 0)]) (fun k=>k≤fs.length) (fun k=>fs.length-k) 0 (Ab _) (by rw[Bl,flatMap_nil,Ay];exact sl) ?_))))))));intro k hk2;refine sg rfl (aA (aB rfl (fun J=>?_) (fun J=>?_)))
  ·have M:=ltD J ac;obtain⟨t,ht⟩:=aG M;have ht':=aP bF ht;have O:=ε ht;have htw:=vY O;have hsm:=aF6 (y t O) (by omega);have hsl:=nD (y t O);have hfl:=pL (fs.take k) fun x hx=>y x (Bb hx)
   have hft:=sW fs k;have ad:u++((fs.take (k+1)).flatMap fun t=>[32]++cO t)=(u++(fs.take k).flatMap fun t=>[32]++cO t)++([32]++cO t):=by rw[aCz (fun t=>[32]++cO t) ht,Aj]
   have hXl:(u++(fs.take k).flatMap fun t=>[32]++cO t).length≤u.length+uJ fs:=by rw[ψ];omega
   have hsl2:([32]++cO t).length≤tyW t+3:=by rw[ψ];show 1+_≤_;omega
   have h32:([32]:Str).length=1:=rfl;generalize hX:(u++(fs.take k).flatMap fun t=>[32]++cO t)=X at hXl ad ⊢;refine aD (aA (aF (sgh [(0,.row k (bF t))] rfl (aC mixed (ak 2 [] rfl (kc hsm ?_))))));exact kz 3 rfl (agN [] rfl ⟨k+1,M,by dsimp only;omega,sl (he:=⟨rfl,rfl,by rw[ad];rfl,rfl,rfl,rfl,rfl,rfl,rfl,trivial⟩)⟩)
  ·have ae:=geD J ac hk2;subst ae;refine aH ?_;rw[Al];exact ag [(2,.all)] rfl (agN [] rfl ⟨i+1,U,by dsimp only;omega,sl (he:=⟨rfl,Go.AM.hs_ren (by rw[ab,←Y];rfl) (by rw[ab,←Y];rfl),rfl,rfl,rfl,trivial⟩) (hh:=⟨⟨_,rfl,Go.AM.Ole.var rfl⟩,⟨_,rfl,.arrS E⟩,trivial⟩)⟩)
 ·have hge:=geD hb hk hi;subst hge;refine aH ?_;rw[Al];have hn0:((cs.map uL).map aK).length=cs.length:=by rw[ξ,ξ]
  refine AWp.sub (Sub.freeze (id:=500) rfl) ?_;refine AWp.sub (st2:=mk [(1,.one (.vp 1 0)),(3,bU (cs.map uL))] [(1,.var 81 [.c (.str q),.c (.int .i64 pl),.c (.sl 1 (vs.map aK)),.c (.sl 1 []),.c (.sl 3 (cs.map hY))])]) ?_ ?_
  ·refine Sub.trans ?_ (cv 3 ((cs.map uL).map aK));exact sl
  have hr1:([[C.str [100,97,116,97]],[C.str q]]:List (List C))++vs.map aK=([eV,q]++vs).map aK:=rfl;have hjl:(Lib.join ([eV,q]++vs) [32]++[32,61,32]).length≤1000000000:=by rw[ψ];show _+3≤_;omega
  have hr2:([[C.str [100,97,116,97]],[C.str q]]:List (List C)).length+(vs.map aK).length=(([eV,q]++vs).map aK).length:=by rw[←hr1,ψ]
  refine skh 6 [(2,.id 501),(5,.fz)] rfl (kc hj1 ?_);refine ak 2 [] rfl (kc hj2 ?_);exact kz 2 rfl (aE rtT)
def qG (t:Ty):Bool:=(fnP t).isSome
theorem dS:∀(k:Nat) (u:Int) (t:Ty),PT t→tn t≤k→pC k u t=pC (tn t) u t
 | 0,u,t,_,A=>by rw[show tn t=0 by omega]
 | k+1,u,t,h,A=>by
  rcases h.cases with⟨a,b,rfl,ha,hb⟩ | ⟨hn,⟨f,s,rfl,y⟩ | ⟨a,b,rfl,ha,hb⟩⟩
  ·have e:=yW a b;obtain⟨q,hq⟩:∃q,tn (nB a b)=q+1:=⟨tn (nB a b)-1,by omega⟩
   rw[hq,oH,oH,dS k 1 a ha (by omega),dS k 0 b hb (by omega),dS q 1 a ha (by omega),dS q 0 b hb (by omega)]
  ·obtain⟨q,hq⟩:∃q,tn (Ty.mk f 0 s [])=q+1:=⟨tn (.mk f 0 s [])-1,by
    have:1≤tn (Ty.mk f 0 s []):=by rw[tn,tns];omega
    omega⟩
   rw[hq,lJ k u f s y,lJ q u f s y]
  ·have e:=sX a b;obtain⟨q,hq⟩:∃q,tn (dQ a b)=q+1:=⟨tn (dQ a b)-1,by omega⟩
   rw[hq,oI k u hn,oI q u hn,dS k 2 a ha (by omega),dS k 3 b hb (by omega),dS q 2 a ha (by omega),dS q 3 b hb (by omega)]
theorem aFd {a b:Ty}(h:fnP (dQ a b)=none):qG (dQ a b)=false:=by unfold qG;rw[h];rfl
theorem wW {t:Ty}(h:PT t) (u:Int):pC (tn t) u t=brk (if qG t=true then !decide (u=0) else decide (t.form=4)&&decide (u=3)) (prT t):=by
 unfold prT;rcases h.cases with⟨a,b,rfl,ha,hb⟩ | ⟨hn,⟨f,s,rfl,y⟩ | ⟨a,b,rfl,ha,hb⟩⟩
 ·have e:=yW a b;obtain⟨q,hq⟩:∃q,tn (nB a b)=q+1:=⟨tn (nB a b)-1,by omega⟩
  rw[hq,oH,oH,ζ (show qG (nB a b)=true from rfl)];rfl
 ·obtain⟨q,hq⟩:∃q,tn (Ty.mk f 0 s [])=q+1:=⟨tn (.mk f 0 s [])-1,by
   have:1≤tn (Ty.mk f 0 s []):=by rw[tn,tns];omega
   omega⟩
  rw[hq,lJ q u f s y,lJ q 0 f s y,η (by rw[show qG (Ty.mk f 0 s [])=false from rfl];exact χ)];have A:decide ((Ty.mk f 0 s []).form=4)=false:=φ (by show ¬f=4;rcases y with rfl | rfl | rfl<;>decide);rw[A];rfl
 ·have e:=sX a b;obtain⟨q,hq⟩:∃q,tn (dQ a b)=q+1:=⟨tn (dQ a b)-1,by omega⟩
  rw[hq,oI q u hn,oI q 0 hn,η (by rw[aFd hn];exact χ)];rfl
theorem aEj {a b:Ty}(ha:PT a) (hb:PT b):prT (nB a b)=brk (qG a) (prT a)++arrS++prT b:=by
 have e:=yW a b;obtain⟨q,hq⟩:∃q,tn (nB a b)=q+1:=⟨tn (nB a b)-1,by omega⟩
 show pC (tn (nB a b)) 0 (nB a b)=_;rw[hq,oH,dS q 1 a ha (by omega),dS q 0 b hb (by omega),wW ha 1];have:(if qG a=true then !decide ((1:Int)=0) else decide (a.form=4)&&decide ((1:Int)=3))=qG a:=by
  cases qG a
  ·rw[η χ];exact Bool.and_false _
  ·rfl
 rw[this];rfl
theorem aEk {a b:Ty}(h:fnP (dQ a b)=none) (ha:PT a) (hb:PT b):prT (dQ a b)=brk (qG a) (prT a)++[32]++brk (decide (b.form=4)) (prT b):=by
 have e:=sX a b;obtain⟨q,hq⟩:∃q,tn (dQ a b)=q+1:=⟨tn (dQ a b)-1,by omega⟩
 show pC (tn (dQ a b)) 0 (dQ a b)=_;rw[hq,oI q 0 h,dS q 2 a ha (by omega),dS q 3 b hb (by omega),wW ha 2,wW hb 3];have h1:(if qG a=true then !decide ((2:Int)=0) else decide (a.form=4)&&decide ((2:Int)=3))=qG a:=by
  cases qG a
  ·rw[η χ];exact Bool.and_false _
  ·rfl
 have h2:(if qG b=true then !decide ((3:Int)=0) else decide (b.form=4)&&decide ((3:Int)=3))=decide (b.form=4):=by
  rcases hb.cases with⟨x,y,rfl,_,_⟩ | ⟨hn,⟨f,s,rfl,u⟩ | ⟨x,y,rfl,_,_⟩⟩
  ·rfl
  ·rw[η (by rw[show qG (Ty.mk f 0 s [])=false from rfl];exact χ)];exact Bool.and_true _
  ·rw[η (by rw[aFd hn];exact χ)];exact Bool.and_true _
 rw[h1,h2];rfl
theorem tH {f:Int}{s:Str}(u:f=0∨f=2∨f=3):prT (.mk f 0 s [])=brk (decide (f=3)&&decide (s=arrow)) s:=by
 obtain⟨q,hq⟩:∃q,tn (Ty.mk f 0 s [])=q+1:=⟨tn (.mk f 0 s [])-1,by
  have:1≤tn (Ty.mk f 0 s []):=by rw[tn,tns];omega
  omega⟩
 show pC (tn (Ty.mk f 0 s [])) 0 (.mk f 0 s [])=_;rw[hq,lJ q 0 f s u]
theorem gQ (s:Str) (b:Bool) (h:s.length≤2000000000):aW Tryz.prog 91 [Go.AM.T s,B b] [] (Go.AM.T (brk b s)) []:=by
 have q:3000000000≤maxLen:=by decide
 have hl:([40]++s).length≤2000000001:=by rw[ψ];show 1+_≤_;omega
 refine b9 (n:=10) tok Tryz.func91 rfl rfl rfl ?_;refine sg rfl (aA (sg rfl ?_));cases b
 ·exact aB rfl nofun (fun _=>aD (sg rfl (aE rtT)))
 ·exact aB rfl (fun _=>sg rfl (aE rtT)) nofun
theorem oR (s:Str) (b:Bool) (h:s.length≤2000000000):aW Tryz.prog 43 [Go.AM.T s,B b] [] (Go.AM.T (brk b s)) []:=by
 have q:3000000000≤maxLen:=by decide
 have hl:([40]++s).length≤2000000001:=by rw[ψ];show 1+_≤_;omega
 refine b9 (n:=10) tok Tryz.func43 rfl rfl rfl ?_;refine sg rfl (aA (sg rfl ?_));cases b
 ·exact aB rfl nofun (fun _=>aD (sg rfl (aE rtT)))
 ·exact aB rfl (fun _=>sg rfl (aE rtT)) nofun
theorem aKu (x y b:Ty):qG (dQ (dQ x y) b)=(decide (x.form=3)&&decide (x.name=arrow)):=by
 cases x with
 | mk h n s l=>
  unfold qG dQ;show(if(4:Int)=4∧(4:Int)=4∧h=3∧s=arrow then some (y,b) else none).isSome=_;by_cases hc:h=3∧s=arrow
  ·rw[ζ ⟨rfl,rfl,hc.1,hc.2⟩];show true=_;rw[show(Ty.mk h n s l).form=h from rfl,show(Ty.mk h n s l).name=s from rfl,θ hc.1,θ hc.2];rfl
  ·rw[η fun k=>hc ⟨k.2.2.1,k.2.2.2⟩];show false=(decide (h=3)&&decide (s=arrow));symm;rw[←Cb,π];exact fun k=>hc ⟨κ k.1,κ k.2⟩
theorem oT {t:Ty}(h:PT t):aW Tryz.prog 90 [tyV t] [] (B (qG t)) []:=by
 cases h with
 | leaf f s q=>
  have d1:(!decide (f=4))=true:=by rw[φ (by rcases q with rfl | rfl | rfl<;>decide)];rfl
  refine b9 (n:=28) tok Tryz.func90 rfl rfl rfl ?_;exact sg rfl (aA (sg rfl (aB rfl (fun _=>sg rfl (aE rtT)) (fun hb=>Bool.noConfusion (hb.symm.trans d1)))))
 | @app a b ha hb=>
  cases ha with
  | leaf f s q=>
   have d1:(!decide (f=4))=true:=by rw[φ (by rcases q with rfl | rfl | rfl<;>decide)];rfl
   refine b9 (n:=28) tok Tryz.func90 rfl rfl rfl ?_;exact sg rfl (aA (sg rfl (aB rfl (fun hb=>Bool.noConfusion hb) (fun _=>aD (aA (sgh [(2,.row 0 (bF (.mk f 0 s [])))] rfl (aB rfl (fun _=>sg rfl (aE rtT)) (fun hb=>Bool.noConfusion (hb.symm.trans d1)))))))))
  | @app x y hx hy=>
   rw[aKu];refine b9 (n:=28) tok Tryz.func90 rfl rfl rfl ?_;refine sg rfl (aA (sg rfl (aB rfl (fun hb=>Bool.noConfusion hb) (fun _=>aD (aA (sgh [(2,.row 0 (bF (dQ x y)))] rfl (aB rfl (fun hb=>Bool.noConfusion hb) (fun _=>aD (sgh [(2,.row 0 (bF (dQ x y))),(5,.row 0 (bF x))] rfl ?_)))))))));cases u:decide (x.form=3)
   ·exact sgh [(3,.bv false),(7,.bv false)] rfl (aE rtT)
   ·exact sgh [(3,.bv true),(7,.bv true)] rfl (aE rtT)
theorem wQ {t:Ty}(h:PT t):decide (t.form=5)=false∧decide (t.form=1)=false:=by
 cases h with
 | leaf f s q=>rcases q with rfl | rfl | rfl<;>exact⟨rfl,rfl⟩
 | app _ _=>exact⟨rfl,rfl⟩
theorem pU:∀(k:Nat) (t:Ty),PT t→tn t≤k→tyW t≤1000000000→aW Tryz.prog 41 [tyV t] [] (Go.AM.T (prT t)) []:=by
 have hM:3000000000≤maxLen:=by decide
 intro k
 induction k with
 | zero=>
  intro t h hk _;exfalso;have:1≤tn t:=by cases t;rw[tn];omega
  omega
 | succ k M=>
  intro t h hk hW;have A:=oT h;rcases h.cases with⟨a,b,rfl,ha,hb⟩ | ⟨hn,⟨f,s,rfl,hf⟩ | ⟨a,b,rfl,ha,hb⟩⟩
  ·have e:=yW a b;have w:=aIy a b;have h1:=M a ha (by omega) (by omega);have h2:=M b hb (by omega) (by omega);have y:=oT ha;have O:=mQ ha;have U:=mQ hb;have d5:=(wQ ha).1
   have d6:=(wQ hb).1
   rw[aEj ha hb];generalize hpa:prT a=SA at h1 O ⊢;generalize hpb:prT b=SB at h2 U ⊢;cases hv:qG a
   ·have q:=gQ SA (decide (a.form=5)) (by omega);have Y:=bS (decide (a.form=5)) SA;have u:=gQ SB (decide (b.form=5)) (by omega);have B:=bS (decide (b.form=5)) SB;have E:brk false SA++arrS++SB=brk (decide (a.form=5)) SA++[32,45,62,32]++brk (decide (b.form=5)) SB:=by rw[d6];rw[d5];rfl
    have ql:(brk (decide (a.form=5)) SA++[32,45,62,32]).length≤1000000010:=by rw[ψ];show _+4≤_;omega
    rw[E];rw[hv] at y;refine b9 (n:=108) tok Tryz.func41 rfl rfl rfl ?_;refine sg rfl (sk 1 rfl (kc A ?_));refine kz 1 rfl (aA (sg rfl (aB rfl (fun _=>sgh [(2,.row 0 (bF (dQ (.mk 3 0 arrow []) a))),(5,.row 1 (bF a))] rfl (sgh [(2,.row 1 (bF b))] rfl (sk 1 rfl (kc y ?_)))) nofun)));refine kz 1 rfl (sk 1 rfl (kc h1 ?_));refine ak 6 [(3,.bv false),(7,.bv false)] rfl (kc q ?_);refine ak 2 [] rfl (kc h2 ?_);refine ak 3 [] rfl (kc u ?_);exact kz 2 rfl (aE rtT)
   ·have q:=gQ SA (true) (by omega);have Y:=bS (true) SA;have u:=gQ SB (decide (b.form=5)) (by omega);have B:=bS (decide (b.form=5)) SB;have E:brk true SA++arrS++SB=brk (true) SA++[32,45,62,32]++brk (decide (b.form=5)) SB:=by rw[d6];rfl
    have ql:(brk (true) SA++[32,45,62,32]).length≤1000000010:=by rw[ψ];show _+4≤_;omega
    rw[E];rw[hv] at y;refine b9 (n:=108) tok Tryz.func41 rfl rfl rfl ?_;refine sg rfl (sk 1 rfl (kc A ?_));refine kz 1 rfl (aA (sg rfl (aB rfl (fun _=>sgh [(2,.row 0 (bF (dQ (.mk 3 0 arrow []) a))),(5,.row 1 (bF a))] rfl (sgh [(2,.row 1 (bF b))] rfl (sk 1 rfl (kc y ?_)))) nofun)));refine kz 1 rfl (sk 1 rfl (kc h1 ?_));refine ak 6 [(3,.bv true),(7,.bv true)] rfl (kc q ?_);refine ak 2 [] rfl (kc h2 ?_);refine ak 3 [] rfl (kc u ?_);exact kz 2 rfl (aE rtT)
  ·rw[tH hf];have hsl:s.length≤1000000000:=by rw[tyW] at hW;omega
   rcases hf with rfl | rfl | rfl
   ·have q:=gQ s (false) (by omega);refine b9 (n:=108) tok Tryz.func41 rfl rfl rfl ?_;refine sg rfl (sk 1 rfl (kc A ?_));refine kz 1 rfl (aA (sg rfl (aB rfl (fun hb=>Bool.noConfusion hb) (fun _=>aD (aA (sg rfl (aF (sg rfl (aB rfl (fun hb=>Bool.noConfusion hb) (fun _=>sg rfl (aB rfl (fun hb=>Bool.noConfusion hb) (fun _=>sg rfl (aB rfl (fun hb=>Bool.noConfusion hb) (fun _=>aD (skh 10 [(5,.bv false),(9,.bv false)] rfl (kc q ?_))))))))))))))));exact kz 1 rfl (aE rtT)
   ·have q:=gQ s (false) (by omega);refine b9 (n:=108) tok Tryz.func41 rfl rfl rfl ?_;refine sg rfl (sk 1 rfl (kc A ?_));refine kz 1 rfl (aA (sg rfl (aB rfl (fun hb=>Bool.noConfusion hb) (fun _=>aD (aA (sg rfl (aF (sg rfl (aB rfl (fun hb=>Bool.noConfusion hb) (fun _=>sg rfl (aB rfl (fun hb=>Bool.noConfusion hb) (fun _=>sg rfl (aB rfl (fun hb=>Bool.noConfusion hb) (fun _=>aD (skh 10 [(5,.bv false),(9,.bv false)] rfl (kc q ?_))))))))))))))));exact kz 1 rfl (aE rtT)
   ·have q:=gQ s (decide (s=arrow)) (by omega);refine b9 (n:=108) tok Tryz.func41 rfl rfl rfl ?_;refine sg rfl (sk 1 rfl (kc A ?_));refine kz 1 rfl (aA (sg rfl (aB rfl (fun hb=>Bool.noConfusion hb) (fun _=>aD (aA (sg rfl (aF (sg rfl (aB rfl (fun hb=>Bool.noConfusion hb) (fun _=>sg rfl (aB rfl (fun hb=>Bool.noConfusion hb) (fun _=>sg rfl (aB rfl (fun hb=>Bool.noConfusion hb) (fun _=>aD (skh 10 [(5,.bv true),(9,.bv true)] rfl (kc q ?_))))))))))))))));exact kz 1 rfl (aE rtT)
  ·have e:=sX a b;have w:=jA a b;have h1:=M a ha (by omega) (by omega);have h2:=M b hb (by omega) (by omega);have y:=oT ha;have O:=mQ ha;have U:=mQ hb;have d5:=(wQ ha).1
   have d6:=(wQ hb).1
   rw[aEk hn ha hb];generalize hpa:prT a=SA at h1 O ⊢;generalize hpb:prT b=SB at h2 U ⊢;cases hv:qG a
   ·have q:=gQ SA (decide (a.form=5)) (by omega);have Y:=bS (decide (a.form=5)) SA;have ql:(brk (decide (a.form=5)) SA++[32]).length≤1000000010:=by rw[ψ];show _+1≤_;omega
    have E:brk false SA=brk (decide (a.form=5)) SA:=by rw[d5]
    rw[E];rw[hv] at y;refine b9 (n:=108) tok Tryz.func41 rfl rfl rfl ?_;refine sg rfl (sk 1 rfl (kc A ?_));refine kz 1 rfl ?_;have I:=aFd hn;refine aA (sg rfl (aB rfl (fun hb=>Bool.noConfusion (hb.symm.trans I)) (fun _=>aD (aA (sg rfl (aF (sg rfl (aB rfl (fun hb=>Bool.noConfusion hb) (fun _=>sg rfl (aB rfl (fun _=>sgh [(2,.row 0 (bF a))] rfl (sgh [(2,.row 1 (bF b))] rfl (sk 1 rfl (kc y ?_)))) (fun hb=>Bool.noConfusion hb)))))))))));refine kz 1 rfl ?_;cases h4:decide (b.form=4)
    ·have u:=gQ SB (decide (b.form=5)) (by omega);have B:=bS (decide (b.form=5)) SB;have J:brk false SB=brk (decide (b.form=5)) SB:=by rw[d6]
     rw[J];refine sk 1 rfl (kc h1 ?_);refine ak 6 [(3,.bv false),(7,.bv false)] rfl (kc q ?_);refine ak 2 [] rfl (kc h2 ?_);refine ak 8 [(15,.bv false),(19,.bv false)] rfl (kc u ?_);exact kz 2 rfl (aE rtT)
    ·have u:=gQ SB (true) (by omega);have B:=bS (true) SB;refine sk 1 rfl (kc h1 ?_);refine ak 6 [(3,.bv false),(7,.bv false)] rfl (kc q ?_);refine ak 2 [] rfl (kc h2 ?_);refine ak 8 [(15,.bv true),(19,.bv true)] rfl (kc u ?_);exact kz 2 rfl (aE rtT)
   ·have q:=gQ SA (true) (by omega);have Y:=bS (true) SA;have ql:(brk (true) SA++[32]).length≤1000000010:=by rw[ψ];show _+1≤_;omega
    rw[hv] at y;refine b9 (n:=108) tok Tryz.func41 rfl rfl rfl ?_;refine sg rfl (sk 1 rfl (kc A ?_));refine kz 1 rfl ?_;have I:=aFd hn;refine aA (sg rfl (aB rfl (fun hb=>Bool.noConfusion (hb.symm.trans I)) (fun _=>aD (aA (sg rfl (aF (sg rfl (aB rfl (fun hb=>Bool.noConfusion hb) (fun _=>sg rfl (aB rfl (fun _=>sgh [(2,.row 0 (bF a))] rfl (sgh [(2,.row 1 (bF b))] rfl (sk 1 rfl (kc y ?_)))) (fun hb=>Bool.noConfusion hb)))))))))));refine kz 1 rfl ?_;cases h4:decide (b.form=4)
    ·have u:=gQ SB (decide (b.form=5)) (by omega);have B:=bS (decide (b.form=5)) SB;have J:brk false SB=brk (decide (b.form=5)) SB:=by rw[d6]
     rw[J];refine sk 1 rfl (kc h1 ?_);refine ak 6 [(3,.bv true),(7,.bv true)] rfl (kc q ?_);refine ak 2 [] rfl (kc h2 ?_);refine ak 8 [(15,.bv false),(19,.bv false)] rfl (kc u ?_);exact kz 2 rfl (aE rtT)
    ·have u:=gQ SB (true) (by omega);have B:=bS (true) SB;refine sk 1 rfl (kc h1 ?_);refine ak 6 [(3,.bv true),(7,.bv true)] rfl (kc q ?_);refine ak 2 [] rfl (kc h2 ?_);refine ak 8 [(15,.bv true),(19,.bv true)] rfl (kc u ?_);exact kz 2 rfl (aE rtT)
theorem aF7 {t:Ty}(h:PT t) (q:tyW t≤1000000000):aW Tryz.prog 39 [tyV t] [] (Go.AM.T (cO t)) []:=by
 have h1:=mQ h;have hp:=pU (tn t) t h (le_refl _) q;have hb:=oR (prT t) (decide (t.form=4)) (by omega);refine b9 (n:=9) tok Tryz.func39 rfl rfl rfl ?_;refine sg rfl (sk 1 rfl (kc hp ?_));refine ak 3 [] rfl (kc hb ?_);exact kz 1 rfl (aE rtT)
theorem aHf (l:List Prd) (i:Nat):cP (l.take i)≤cP l:=by
 have:cP l=cP (l.take i)+cP (l.drop i):=by rw[←zQ,C2]
 omega
theorem nN (l:List Prd) (h:∀p∈l,PT p.ty) (hl:l.length≤100000) (hW:cP l≤400000000):aW Tryz.prog 40 [.one (.c (.sl 5 (l.map aM)))] [] (Go.AM.T (uU l)) []:=by
 have hM:3000000000≤maxLen:=by decide
 have M:(l.map aM).length=l.length:=ξ _;refine b9 (n:=39) tok Tryz.func40 rfl rfl rfl ?_;refine sg rfl (sg rfl (aA (sg rfl (aF (aJ (fun i:Nat=>mk [(0,.one (.c (.sl 5 (l.map aM)))),(3,Go.AM.T (Lib.join ((l.map fB).take i) aB6)),(4,I .i64 (i:Nat))] []) (fun i=>i≤l.length) (fun i=>l.length-i) 0 (Ab _) sl ?_)))));intro i hi;refine aA (sg rfl (aB rfl (fun hb=>?_) (fun hb=>?_)))
 ·have y:=ltD hb M;obtain⟨p,hp⟩:=aG y;have hp':=aP aM hp;have hm:=ε hp;have O:aB4 p≤cP l:=aCo aB4 hm;rw[show aB4 p=p.cls.length+8+tyW p.ty from rfl] at O;have B:=aF7 (h p hm) (by omega);have hsl:=nD (h p hm);have U:(l.map fB)[i]?=some (p.cls++[32]++cO p.ty):=by rw[Br,hp];rfl
  have q:=kT (sep:=aB6) U;have E:(Lib.join ((l.map fB).take i) aB6).length≤2*cP l:=by
   rw[←map_take];have h1:=sK (l:=l.take i) fun p hp=>h p (Bb hp)
   have h2:=aHf l i;omega
  generalize hJ:Lib.join ((l.map fB).take i) aB6=J at q E ⊢;refine aD (aA (aF (aA (sg rfl ?_))));by_cases h0:i=0
  ·subst h0;have Y:J=[]:=by rw[←hJ];rfl
   rw[ζ rfl] at q;subst Y;have q1:([]++p.cls:Str).length≤400000000:=by rw[Av];omega
   have q2:([]++p.cls++[32]:Str).length≤400000001:=by rw[Av,ψ];show _+1≤_;omega
   have u:Lib.join ((l.map fB).take 1) aB6=[]++p.cls++[32]++cO p.ty:=q;refine aB rfl (fun hb=>by simp at hb) (fun _=>aD (aC mixed (ak 13 [(3,.row 0 (aM p)),(10,.row 0 (aM p))] rfl (kc B ?_))));exact kz 2 rfl (ag [] rfl ⟨1,y,by dsimp only;omega,sl (he:=⟨rfl,by rw[u];rfl,rfl,trivial⟩)⟩)
  ·rw[η h0] at q;have q0:(J++[44,32]).length≤800000002:=by rw[ψ];show _+2≤_;omega
   have q1:(J++[44,32]++p.cls).length≤1300000000:=by rw[ψ];omega
   have q2:(J++[44,32]++p.cls++[32]).length≤1300000001:=by rw[ψ];show _+1≤_;omega
   have u:Lib.join ((l.map fB).take (i+1)) aB6=J++[44,32]++p.cls++[32]++cO p.ty:=by rw[q];simp only[Aj];rfl
   refine aB rfl (fun _=>ag [] rfl (aC mixed (ak 13 [(3,.row i (aM p)),(10,.row i (aM p))] rfl (kc B ?_)))) (fun hb=>by have:=Ac hb;omega);exact kz 2 rfl (ag [] rfl ⟨i+1,y,by dsimp only;omega,sl (he:=⟨rfl,by rw[u];rfl,rfl,trivial⟩)⟩)
 ·have aa:=geD hb M hi;subst aa;refine aH ?_;rw[Au (by rw[ξ];exact le_refl _)];have E:=sK h;have ab:=oR (Lib.join (l.map fB) aB6) (decide ((1:Int)<((l.map aM).length:Nat))) (by omega);have hbl:=bS (decide ((1:Int)<((l.map aM).length:Nat))) (Lib.join (l.map fB) aB6);refine aA (sg rfl ?_);unfold uU;by_cases A:l=[]
  ·have d:decide ((((l.map aM).length:Nat):Int)=0)=true:=θ (by rw[A];rfl);rw[ζ A];exact aB rfl (fun _=>sg rfl (aE rtT)) (fun hb=>Bool.noConfusion (hb.symm.trans d))
  ·have hpos:0<l.length:=Cg.2 A;have d:decide ((((l.map aM).length:Nat):Int)=0)=false:=φ (by omega);have e1:decide (1<l.length)=decide ((1:Int)<((l.map aM).length:Nat)):=by
    rw[M];by_cases h1:1<l.length
    ·rw[θ h1,θ (by omega)]
    ·rw[φ h1,φ (by omega)]
   rw[η A,e1];refine aB rfl (fun hb=>Bool.noConfusion (hb.symm.trans d)) (fun _=>aD (sk 4 rfl (kc ab ?_)));exact kz 2 rfl (aE rtT)
theorem aBd {s:Sch}(h:SchP s) (q:rR s≤400000000):aW Tryz.prog 56 [.pa (kU s)] [] (Go.AM.T (nE s)) []:=by
 have u:3000000000≤maxLen:=by decide
 unfold rR at q;have h1:=nN s.preds h.p h.l (by omega);have h2:=pU (tn s.ty) s.ty h.t (le_refl _) (by omega);have y:=oA h.p;have A:=mQ h.t;refine b9 (n:=10) tok Tryz.func56 rfl rfl rfl ?_;refine sg rfl (sk 2 rfl (kc h1 ?_));refine ak 2 [] rfl (kc h2 ?_);exact kz 2 rfl (aE rtT)
theorem kM:∀(l:List Str) (i:Nat),kN (l.take i)≤kN l
 | [],i=>by rw[take_nil];exact le_refl _
 | a::l,0=>Ab _
 | a::l,i+1=>by have:=kM l i;rw[A3,kN,kN];omega
theorem sA:∀{l:List Str}{a:Str},a∈l→a.length+3≤kN l
 | b::l,a,h=>by
  rw[kN];rcases Aq.1 h with rfl | h
  ·omega
  ·have:=sA h;omega
theorem sN (l:List Str) (hW:kN l≤900000000):aW Tryz.prog 42 [bU l] [] (Go.AM.T (s6 l)) []:=by
 have hM:3000000000≤maxLen:=by decide
 have M:(l.map aK).length=l.length:=ξ _;refine b9 (n:=26) tok Tryz.func42 rfl rfl rfl ?_;refine sg rfl (sg rfl (aA (sg rfl (aF (aJ (fun i:Nat=>mk [(0,bU l),(3,Go.AM.T ([123,32]++Lib.join (l.take i) [32,59,32])),(4,I .i64 (i:Nat))] []) (fun i=>i≤l.length) (fun i=>l.length-i) 0 (Ab _) sl ?_)))));intro i hi;refine aA (sg rfl (aB rfl (fun hb=>?_) (fun hb=>?_)))
 ·have y:=ltD hb M;obtain⟨s,hs⟩:=aG y;have hs':=aP aK hs;have hsw:=sA (ε hs);have u:=kT (sep:=[32,59,32]) hs;have E:=le_trans (dF (sep:=[32,59,32]) (by decide) (l.take i)) (kM l i);generalize hJ:Lib.join (l.take i) [32,59,32]=J at u E ⊢;have A:([123,32]++J).length≤900000002:=by rw[ψ];show 2+_≤_;omega
  refine aD (aA (aF (aA (sg rfl ?_))));by_cases h0:i=0
  ·subst h0;have O:J=[]:=by rw[←hJ];rfl
   rw[ζ rfl] at u;subst O;have q:[123,32]++Lib.join (l.take 1) [32,59,32]=[123,32]++[]++s:=by rw[show l.take 1=l.take (0+1) from rfl,u];rfl
   generalize ([123,32]++[]:Str)=K at A q ⊢;have q3:K.length+s.length≤maxLen:=by omega
   exact aB rfl (fun hb=>by simp at hb) (fun _=>aD (ag [(3,.row 0 (aK s))] rfl (ag [] rfl ⟨1,y,by dsimp only;omega,sl (he:=⟨rfl,by rw[q];rfl,rfl,trivial⟩)⟩)))
  ·rw[η h0] at u;have U:([123,32]++J++[32,59,32]).length≤900000005:=by rw[ψ];show _+3≤_;omega
   have q:[123,32]++Lib.join (l.take (i+1)) [32,59,32]=[123,32]++J++[32,59,32]++s:=by rw[u];simp only[Aj]
   generalize [123,32]++J=K at A U q ⊢;have q2:K.length+([32,59,32]:Str).length≤maxLen:=by show _+3≤_;omega
   have q3:(K++[32,59,32]).length+s.length≤maxLen:=by omega
   refine aB rfl (fun _=>ag [] rfl ?_) (fun hb=>by have:=Ac hb;omega);have hi9:i≤300000000:=by
    have:=iC l;omega
   exact ag [(3,.row i (aK s))] rfl (agN [] rfl ⟨i+1,y,by dsimp only;omega,sl (he:=⟨rfl,by rw[q];rfl,rfl,trivial⟩)⟩)
 ·have Y:=geD hb M hi;subst Y;refine aH ?_;rw[Al];have E:=dF (sep:=[32,59,32]) (by decide) l;have A:([123,32]++Lib.join l [32,59,32]).length≤900000002:=by rw[ψ];show 2+_≤_;omega
  refine aA (sg rfl ?_);unfold s6;by_cases B:l=[]
  ·have d:decide ((((l.map aK).length:Nat):Int)=0)=true:=θ (by rw[B];rfl);rw[ζ B];exact aB rfl (fun _=>sg rfl (aE rtT)) (fun hb=>Bool.noConfusion (hb.symm.trans d))
  ·have hpos:0<l.length:=Cg.2 B;have d:decide ((((l.map aK).length:Nat):Int)=0)=false:=φ (by omega);rw[η B];generalize [123,32]++Lib.join l [32,59,32]=J at A ⊢;have U:J.length+([32,125]:Str).length≤maxLen:=by show _+2≤_;omega
   exact aB rfl (fun hb=>Bool.noConfusion (hb.symm.trans d)) (fun _=>aD (sg rfl (aE rtT)))
theorem aGu (n:Nat):UInt8.ofNat (IntKind.u8.wrap ((48+n%10:Nat):Int)).toNat=UInt8.ofNat (48+n%10):=by
 have h:n%10<10:=Nat.mod_lt _ (by omega);have:IntKind.u8.wrap ((48+n%10:Nat):Int)=((48+n%10:Nat):Int):=by
  simp[IntKind.wrap,IntKind.signed,IntKind.bits];omega
 rw[this];rfl
theorem aZ8 (n:Nat):n≤600000000000→aW Tryz.prog 55 [I .i64 (n:Int)] [] (Go.AM.T (Lib.decDigits n)) []:=by
 induction n using Nat.strongRecOn with
 | ind n y=>
  intro hn;refine b9 (n:=32) tok Tryz.func55 rfl rfl rfl ?_;refine sg rfl (aA (agN [] rfl (aA (sg rfl (aB rfl (fun hb=>?_) (fun hb=>?_))))))
  ·exfalso;have:((n%10:Nat):Int)<0:=by simpa using hb
   omega
  ·refine aD (aA (agN [] rfl (AWp.sub (st2:=mk [(0,I .i64 (n:Int)),(4,Go.AM.T [UInt8.ofNat (48+n%10)])] []) (.list (fun i=>i) ⟨rfl,?_,trivial⟩ trivial rfl) ?_)))
   ·show some (V.one (R.c (C.str [UInt8.ofNat (IntKind.u8.wrap ((48+n%10:Nat):Int)).toNat])))=_;rw[aGu];rfl
   refine aA (aA (agF 3 [] rfl rfl rfl (aB rfl (fun hb=>?_) (fun hb=>?_))))
   ·have q:n<10:=by
     simp at hb;omega
    refine aA (sg rfl (aB rfl (fun hb=>?_) (fun hb=>?_)))
    ·exfalso;have:(n:Int)<0:=by simpa using hb
     omega
    ·refine aD (sg rfl ?_);rw[Lib.decDigits,dif_pos q,Nat.mod_eq_of_lt q];exact aE (rtT (hc:=.refl))
   ·have u:¬n<10:=by
     intro q;simp at hb;omega
    have hc:=y (n/10) (by omega) (by omega);have hl:=aLj (n/10) (by omega);have A:1000000000≤maxLen:=by decide
    refine aD (aA (aC mixed (akN 2 [] rfl (kc hc ?_))));refine kz 3 rfl ?_;rw[Lib.decDigits,dif_neg u];exact aE (rtT (hc:=.refl))
theorem aR6 {n:Int}(h:uQ n):aW Tryz.prog 55 [I .i64 n] [] (Go.AM.T (aZf n)) []:=by
 have:=aZ8 n.toNat (by have:=h.2;omega);rwa [Int.toNat_of_nonneg h.1] at this
theorem oS:∀(k:Nat) (p:Pt),psz p≤k→aJ9 p→ptB p→ptW p≤1000000000→aW Tryz.prog 18 [.pa (bL p)] [] (Go.AM.T (prP p)) []
 | 0,p,h,_,_,_=>by cases p;rw[psz] at h;omega
 | k+1,p,h,hP,hB,Y=>by
  obtain⟨f,pl,n,s,l⟩:=p;rw[psz] at h;have hM:3000000000≤maxLen:=by decide
  have hll:=hB.1;have u:(jL (.mk f pl n s l)).length=l.length:=by rw[iS,ξ];rfl
  have hi:=aR6 hP.1;rw[ptW] at Y;rw[prP];refine b9 (n:=42) tok Tryz.func18 rfl rfl rfl ?_;refine sg rfl (aA (sg rfl ?_));by_cases h1:f=1
  ·have d1:decide (f=1)=true:=θ h1;rw[ζ h1];exact aB rfl (fun _=>sg rfl (aE rtT)) (fun hb=>Bool.noConfusion (hb.symm.trans d1))
  have d1:decide (f=1)=false:=φ h1;rw[η h1];refine aB rfl (fun hb=>Bool.noConfusion (hb.symm.trans d1)) (fun _=>aD (aA (sg rfl ?_)));by_cases q:f=3
  ·have d3:decide (f=3)=true:=θ q;rw[ζ q];refine aB rfl (fun _=>sk 2 rfl (kc hi ?_)) (fun hb=>Bool.noConfusion (hb.symm.trans d3));exact kz 1 rfl (aE rtT)
  have d3:decide (f=3)=false:=φ q;rw[η q];refine aB rfl (fun hb=>Bool.noConfusion (hb.symm.trans d3)) (fun _=>aD (sg rfl (aA (sg rfl (aF (aJ (fun i:Nat=>mk [(1,.one (.vp 1 0)),(3,Go.AM.T (s++rU (l.take i))),(4,I .i64 (i:Nat))] [(1,.var 51 ((bL (.mk f pl n s l)).map .c))]) (fun i=>i≤l.length) (fun i=>l.length-i) 0 (Ab _) (by rw[Bl,rU,Ay];exact sl) ?_))))));intro i B;have hpt:=mO l i;have hpl:=tI (l.take i) (kS l i hP.2);refine aA (sg rfl (aB rfl (fun hb=>?_) (fun hb=>?_)))
  ·have y:=ltD hb u;obtain⟨x,hx⟩:=aG y;have hx':(jL (.mk f pl n s l))[i]?=some (bL x):=by rw[iS];exact aP bL hx
   have hm:=ε hx;have hwm:=lH hm;have hc:=oS k x (by have:=aCj hm;omega) (eF hP.2 x hm) (nG hB.2 x hm) (by omega);have hlx:=tJ x (eF hP.2 x hm);have E:(jL x).length=x.kids.length:=by rw[iS,ξ]
   have J:=oR (prP x) (decide ((0:Int)<((jL x).length:Nat))) (by omega);have hbl:=bS (decide ((0:Int)<((jL x).length:Nat))) (prP x);have M:decide (0<x.kids.length)=decide ((0:Int)<((jL x).length:Nat)):=by
    rw[E];by_cases h0:0<x.kids.length
    ·rw[θ h0,θ (by omega)]
    ·rw[φ h0,φ (by omega)]
   have O:l.take (i+1)=l.take i++[x]:=bQ hx;have A:s++rU (l.take (i+1))=s++rU (l.take i)++[32]++brk (decide ((0:Int)<((jL x).length:Nat))) (prP x):=by
    rw[O,wX,rU,rU,M];simp
   have q0:(s++rU (l.take i)).length≤1000000000:=by rw[ψ];omega
   generalize s++rU (l.take i)=K at q0 A ⊢;have q1:(K++[32]).length≤1000000001:=by rw[ψ];show _+1≤_;omega
   clear M;generalize brk (decide ((0:Int)<((jL x).length:Nat))) (prP x)=B0 at *;refine aD (aA (aF (aC mixed (ak 7 [(5,.row i (bL x))] rfl (kc hc ?_)))));refine ak 8 [(11,.row i (bL x))] rfl (kc J ?_);exact kz 2 rfl (ag [] rfl ⟨i+1,y,by dsimp only;omega,sl (he:=⟨rfl,by rw[A];rfl,rfl,trivial⟩)⟩)
  ·have U:=geD hb u B;subst U;refine aH ?_;rw[Al];exact sg rfl (aE rtT)
end Go.Proofs.YtkhgpgihmphfdaaGreatDoor
