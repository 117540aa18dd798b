/-
  Texts Rw3 to Pq3 in one.
-/
import Derived.Test.YtkhgpgihmphfdaaGreatDoorM12
open List (append_assoc append_nil cons_append length_append length_cons length_drop length_map length_nil length_take map_append map_congr_left map_cons map_map mem_append mem_cons mem_map mem_of_mem_take mem_singleton nil_append not_mem_nil sum_append sum_cons take_append_of_le_length take_length take_nil take_succ_cons take_take take_zero)
open Nat (le_refl le_trans lt_irrefl mul_le_mul_right zero_le)
namespace Go.Proofs.YtkhgpgihmphfdaaGreatDoor
open Go Go.AM
set_option maxRecDepth 20000
set_option maxHeartbeats 1000000
theorem aCn:∀{l:List Ex}{p:Ex},aL2 l→exP p→aL2 (l++[p])
 | [],_,_,h=>⟨h,trivial⟩
 | _::_,_,h,k=>⟨h.1,aCn h.2 k⟩
theorem v7:∀{l:List Bd}{p:Bd},pF l→bdP p→pF (l++[p])
 | [],_,_,h=>⟨h,trivial⟩
 | _::_,_,h,k=>⟨h.1,v7 h.2 k⟩
theorem aCm:∀(l:List Ex) (p:Ex),jX (l++[p])=jX l+exW p
 | [],p=>by rw[Az,jX,jX,jX];omega
 | a::l,p=>by rw[Ap,jX,jX,aCm l p];omega
theorem uZ:∀(l:List Bd) (p:Bd),iN (l++[p])=iN l+bdW p
 | [],p=>by rw[Az,iN,iN,iN];omega
 | a::l,p=>by rw[Ap,iN,iN,uZ l p];omega
theorem yQ:∀l:List Tk,kG (iQ l)
 | []=>trivial
 | _::l=>⟨⟨dJ,trivial⟩,yQ l⟩
theorem aFn:exP zEx:=⟨dJ,trivial,kL,trivial,trivial⟩
def rR:List Sg→Nat
 | []=>0
 | s::l=>2*rS s.ty+rR l
theorem aA6:∀(l:List Sg) (s:Sg),rR (l++[s])=rR l+2*rS s.ty
 | [],p=>by simp only[Az,rR];omega
 | a::l,p=>by rw[Ap,rR,rR,aA6 l p];omega
def aDw (l:List Sg):Prop:=∀s∈l,SchP s.ty
theorem aKx {l:List Sg}{s:Sg}(h:aDw l) (k:SchP s.ty):aDw (l++[s]):=fun x hx=>by
 rcases A2.1 hx with hx | hx
 ·exact h x hx
 ·rw[Ar.1 hx];exact k
theorem sP (f a n:Int) (s:Str) (ks:List Ex) (ps:List Pt) (q:List Bd):exW (.mk f a n s ks ps q mT)=s.length+96+iD ps+jX ks+iN q:=by rw[exW,aNl];omega
theorem wN:∀(l:List Sg) (b:List Bd) (z:Z),aDw l→pF b→pF (dI l b z).1∧iN (dI l b z).1≤iN b+rR l
 | [],b,z,_,hb=>by rw[dI];exact⟨hb,by rw[rR];exact le_refl _⟩
 | s::l,b,z,hs,hb=>by
  have hl:aDw l:=fun x hx=>hs x (.tail _ hx)
  rw[dI,rR];split
  ·split
   ·obtain⟨g1,g2⟩:=wN l b (bN 21 s.pl z) hl hb;exact⟨g1,by omega⟩
   ·rename_i k _;split
    ·exact⟨hb,by dsimp only;omega⟩
    ·rename_i x hx;split
     ·obtain⟨g1,g2⟩:=wN l b (bN 20 s.pl z) hl hb;exact⟨g1,by omega⟩
     ·have q:∀(b:List Bd) (k:Nat) (x:Bd),b[k]?=some x→pF b→pF (b.set k (kK x s.ty))∧iN (b.set k (kK x s.ty))≤iN b+2*rS s.ty:=fun b=>by
       induction b with
       | nil=>intro k x hx;cases hx
       | cons a b u=>
        intro k x hx hb;cases k with
        | zero=>
         injection hx with hx;subst hx;cases a with
         | mk r pl h g e=>
          refine⟨⟨⟨hs s (.head _),hb.1.2⟩,hb.2⟩,?_⟩;show(2*r.length+32+2*rS s.ty+exW e)+iN b≤(2*r.length+32+2*rS g+exW e)+iN b+2*rS s.ty;omega
        | succ k=>
         obtain⟨g1,g2⟩:=u k x hx hb.2;refine⟨⟨hb.1,g1⟩,?_⟩;rw[List.set_cons_succ,iN,iN];omega
      obtain⟨y,A⟩:=q b k x hx hb;obtain⟨g1,g2⟩:=wN l _ z hl y;exact⟨g1,by omega⟩
  ·exact⟨hb,by dsimp only;omega⟩
def aWg (ex:Nat→Z→Ex×Z) (L:List Tk):Prop:=∀deep z,ZA L z→exP (ex deep z).1∧((ex deep z).2.e=0→96+exW (ex deep z).1+mu (ex deep z).2≤mu z)
section
variable {L:List Tk}{ex:Nat→Z→Ex×Z}(hO:ExO L ex) (hx:aKd ex) (hP:aWg ex L) (hN:aSy L) (hwt:wt L≤30000)
include hP hN
theorem aT9 (deep:Nat) {z:Z}(h:ZA L z):exP (fX ex deep z).1.1∧((fX ex deep z).1.2=true→(fX ex deep z).2.e=0→96+exW (fX ex deep z).1.1+mu (fX ex deep z).2≤mu z)∧((fX ex deep z).1.2=false→mu (fX ex deep z).2≤mu z):=by
 unfold fX;split
 ·exact⟨aFn,fun h=>Bool.noConfusion h,fun _=>le_refl _⟩
 split
 ·rename_i q;have r:¬z.R=[]:=fun u=>by unfold bA at q;rw[u] at q;exact absurd q.1 (by decide)
  have hw:=vU r;have hm:=hN _ h.mem;refine⟨?_,fun _ _=>?_,fun h=>Bool.noConfusion h⟩
  ·unfold oK;split
   ·exact⟨hm,trivial,kL,trivial,trivial⟩
   ·exact⟨dJ,trivial,kL,trivial,trivial⟩
  ·have y:exW (oK (bA z))≤(z.R.headD zTk).text.length+96:=by
    unfold oK;split
    ·rw[sP];show 0+96+0+0+0≤_;omega
    ·rw[sP];show(z.R.headD zTk).text.length+96+0+0+0≤_;omega
   show 96+exW (oK (bA z))+40*wt z.R.tail≤40*wt z.R;omega
 split
 ·exact⟨aFn,fun h=>Bool.noConfusion h,fun _=>le_refl _⟩
 ·obtain⟨g1,g2⟩:=hP (deep+1) _ (h.may cW);refine⟨g1,fun _ he=>?_,fun h=>Bool.noConfusion h⟩;have A:=eU he;have B:=g2 (Kq.need oR _ he).1;have E:=(mK cW z).1
  dsimp only;omega
include hO hx
theorem aJ2 (deep:Nat) (a:Int):∀(f:Nat) (e:Ex) (z:Z),ZA L z→exP e→exP (fK ex deep a f e z).1∧((fK ex deep a f e z).2.e=0→exW (fK ex deep a f e z).1+mu (fK ex deep a f e z).2≤exW e+mu z)
 | 0,e,z,_,he=>⟨he,fun _=>le_refl _⟩
 | f+1,e,z,h,he=>by
  rw[fK];obtain⟨g1,g2,g3⟩:=aT9 hP hN deep h;split
  ·split
   ·rename_i hb;exact⟨he,fun _=>by have:=g3 hb;dsimp only;omega⟩
   ·rename_i hb;have hb:(fX ex deep z).1.2=true:=by simpa using hb
    obtain⟨q,r⟩:=aJ2 deep a f (aOx a e (fX ex deep z).1.1) _ (mJ hO deep h).1 ⟨dJ,trivial,kL,⟨he,g1,trivial⟩,trivial⟩;refine⟨q,fun h0=>?_⟩;have u:=r h0;have y:=g2 hb (Kq.apps hx deep a f _ _ h0).1;have A:exW (aOx a e (fX ex deep z).1.1)=96+exW e+exW (fX ex deep z).1.1:=by
     unfold aOx;rw[sP,jX,jX,jX];show 0+96+0+_+0=_;omega
    omega
  ·exact⟨he,fun _=>le_refl _⟩
omit hO hx hP hN in
theorem aN7 (a:Int) (l:List Tk) (b:Ex):exW (aN8 a l b)=96+iD (iQ l)+exW b:=by
 unfold aN8;rw[sP,jX,jX];show 0+96+_+_+0=_;omega
omit hO hx hP hN in
theorem aR3 (l:List Tk) (b:Ex):exW (y0 l b)≤96+iD (iQ l)+exW b:=by
 unfold y0;split
 ·omega
 ·exact Nat.le_of_eq (aN7 _ _ _)
omit hO hx hP hN in
theorem aR4 {l:List Tk}{b:Ex}(h:exP b):exP (y0 l b):=by
 unfold y0;split
 ·exact h
 ·exact⟨dJ,yQ _,kL,⟨h,trivial⟩,trivial⟩
omit hO hx hP hN in
theorem aQf {a:Int}{z:Z}(h:ZA L z):ZA L (rW a z).2:=by
 unfold rW;refine ZA.need (ZA.long ?_ _ _ _) _;split
 ·exact h.words.fail _ _
 ·exact h.words
omit hO hN in
theorem aX5 (a:Int) (deep:Nat) {z:Z}(h:ZA L z):exP (sS ex a deep z).1∧((sS ex a deep z).2.e=0→96+exW (sS ex a deep z).1+mu (sS ex a deep z).2≤mu z):=by
 obtain⟨g1,g2⟩:=hP (deep+1) _ (aQf (a:=a) h);unfold sS;refine⟨⟨dJ,yQ _,kL,⟨g1,trivial⟩,trivial⟩,fun h0=>?_⟩;have r:=g2 h0;have q:=(hx _ _ h0).1
 have u:iD (iQ (rW a z).1)+240+mu (rW a z).2≤mu z:=by
  unfold rW at q ⊢;have v1:=eU q;rw[p9] at v1;have v2:=aFq z;have v3:mu (if(aU z).1=[] then bN 12 (bA (aU z).2).pl (aU z).2 else(aU z).2)=mu (aU z).2:=by
   split
   ·unfold mu;rw[rC]
   ·rfl
  dsimp only;omega
 dsimp only;rw[aN7];omega
omit hO hN in
theorem aOl (q:Tk) (deep:Nat) {z:Z}(h:ZA L z):bdP (dP ex q deep z).1∧((dP ex q deep z).2.e=0→bdW (dP ex q deep z).1+mu (dP ex q deep z).2≤2*q.text.length+mu z):=by
 have u:ZA L (fW q z).2:=by
  unfold fW;exact ZA.need (ZA.long h.words _ _ _) _
 obtain⟨g1,g2⟩:=hP deep _ u;unfold dP;refine⟨⟨kL,aR4 g1⟩,fun h0=>?_⟩;have y:=g2 h0;have r:=(hx _ _ h0).1
 have A:iD (iQ (fW q z).1)+240+mu (fW q z).2≤mu z:=by
  unfold fW at r ⊢;have v1:=eU r;rw[p9] at v1;have v2:=aFq z;dsimp only;omega
 have B:=aR3 (fW q z).1 (ex deep (fW q z).2).1;dsimp only at y ⊢;rw[bdW,aNl];omega
omit hO hN in
include hwt in
theorem aCq (sigs:List Sg) (binds:List Bd) (deep:Nat) {z:Z}(h:ZA L z) (hs:aDw sigs) (hb:pF binds):(aDw (aW ex sigs binds deep z).1.1∧pF (aW ex sigs binds deep z).1.2)∧((aW ex sigs binds deep z).2.e=0→rR (aW ex sigs binds deep z).1.1+iN (aW ex sigs binds deep z).1.2+mu (aW ex sigs binds deep z).2≤rR sigs+iN binds+mu z):=by
 have r:=h.word (k:=1) (by decide);have q:=r.may fH;have hm:=mK fH (aO 1 z).2;unfold aW;split
 ·refine⟨⟨aKx hs (tQ q hwt),hb⟩,fun h0=>?_⟩;have u:=tP h0;have y:=lZ (k:=1) (by decide) (Kq.may fH _ (Kq.scheme _ h0).1).1;dsimp only;rw[aA6];dsimp only;omega
 ·obtain⟨g1,g2⟩:=aOl hx hP (aO 1 z).1 deep q;refine⟨⟨hs,v7 hb g1⟩,fun h0=>?_⟩;have u:=g2 h0;have y:=lZ (k:=1) (by decide) (Kq.may fH _ (Kq.bind hx _ _ _ h0).1).1;dsimp only;rw[uZ];omega
end
section
variable {L:List Tk}{ex:Nat→Z→Ex×Z}(hO:ExO L ex) (hx:aKd ex) (hP:aWg ex L) (hN:aSy L) (hwt:wt L≤30000)
include hO hwt
theorem xJ (sigs:List Sg) (binds:List Bd) (deep:Nat) {z:Z}(h:ZA L z):ZA L (aW ex sigs binds deep z).2:=by
 have h1:=(lO hO hwt [] [] deep h (fun s hs=>by cases hs) trivial).1
 have e:(aW ex sigs binds deep z).2=(aW ex [] [] deep z).2:=by
  unfold aW;split<;>rfl
 rw[e];exact h1
include hx hP
theorem aN5 (deep:Nat):∀(f n:Nat) (sigs:List Sg) (binds:List Bd) (z:Z),ZA L z→aDw sigs→pF binds→(ZA L (eR ex deep f n sigs binds z).2∧aDw (eR ex deep f n sigs binds z).1.1∧pF (eR ex deep f n sigs binds z).1.2)∧((eR ex deep f n sigs binds z).2.e=0→rR (eR ex deep f n sigs binds z).1.1+iN (eR ex deep f n sigs binds z).1.2+mu (eR ex deep f n sigs binds z).2≤rR sigs+iN binds+mu z)
 | 0,n,sigs,binds,z,h,hs,hb=>⟨⟨h,hs,hb⟩,fun _=>le_refl _⟩
 | f+1,n,sigs,binds,z,h,hs,hb=>by
  rw[eR];have hm:=wR b5 n z;split
  ·obtain⟨⟨g1,g2⟩,g3⟩:=aCq hx hP hwt sigs binds deep (h.more b5 n) hs hb;obtain⟨q,r⟩:=aN5 deep f (n+1) _ _ _ (xJ hO hwt sigs binds deep (h.more b5 n)) g1 g2;refine⟨q,fun h0=>?_⟩;have u:=r h0;have y:=g3 (Kq.lets hx deep f _ _ _ _ h0).1;omega
  ·exact⟨⟨h.more b5 n,hs,hb⟩,fun _=>by dsimp only;omega⟩
theorem aX3 (a:Int) (deep:Nat) {z:Z}(h:ZA L z):exP (sR ex a deep z).1∧((sR ex a deep z).2.e=0→96+exW (sR ex a deep z).1+mu (sR ex a deep z).2≤mu z):=by
 obtain⟨⟨g1,g2,g3⟩,g4⟩:=aN5 hO hx hP hwt (deep+1) ((aN eB z).R.length+1) 0 [] [] _ (h.need eB) (fun s hs=>by cases hs) trivial;have g1:ZA L (kB ex deep z).2:=g1;have g2:aDw (kB ex deep z).1.1:=g2;have g3:pF (kB ex deep z).1.2:=g3;obtain⟨u,y⟩:=wN (kB ex deep z).1.1 (kB ex deep z).1.2 (aN b5 (kB ex deep z).2) g2 g3;have u:pF (zN (kB ex deep z)).1:=u;have y:iN (zN (kB ex deep z)).1≤iN (kB ex deep z).1.2+rR (kB ex deep z).1.1:=y;have hB:ZA L (zN (kB ex deep z)).2:=by
  unfold zN;have:=uF hO hwt (deep+1) ((aN eB z).R.length+1) 0 [] [] _ (h.need eB) (fun s hs=>by cases hs) trivial (by decide) (le_refl _) (le_refl _);exact(iI _ _ _ (g1.need _) this.2.1 this.2.2.1).1
 obtain⟨E,I⟩:=hP (deep+1) _ (hB.need inS);unfold sR;refine⟨⟨dJ,trivial,kL,⟨E,trivial⟩,u⟩,fun h0=>?_⟩;have J:=I h0;have A:=(hx _ _ h0).1
 have U:=eU A;have r:=(Kq.need inS _ A).1
 have q:(zN (kB ex deep z)).2=aN b5 (kB ex deep z).2:=iZ r;rw[q] at r;have Y:=eU r;have B:=(Kq.need b5 _ r).1
 have M:rR (kB ex deep z).1.1+iN (kB ex deep z).1.2+mu (kB ex deep z).2≤rR []+iN []+mu (aN eB z):=g4 B;rw[show rR []=0 from rfl,show iN []=0 from rfl] at M;have O:(aN eB z).e=0:=(Kq.lets hx (deep+1) _ _ _ _ _ B).1
 have w5:=eU O;have w6:mu (zN (kB ex deep z)).2=mu (aN b5 (kB ex deep z).2):=by rw[q]
 dsimp only at J ⊢;unfold letE;rw[sP,jX,jX];rw[show iD []=0 from rfl,length_nil];omega
include hN
omit hwt in
theorem aOz (deep:Nat):∀(f n:Nat) (ps:List Pt) (ks:List Ex) (z:Z),ZA L z→kG ps→aL2 ks→(ZA L (eJ ex deep f n ps ks z).2∧kG (eJ ex deep f n ps ks z).1.1∧aL2 (eJ ex deep f n ps ks z).1.2)∧((eJ ex deep f n ps ks z).2.e=0→iD (eJ ex deep f n ps ks z).1.1+jX (eJ ex deep f n ps ks z).1.2+mu (eJ ex deep f n ps ks z).2≤iD ps+jX ks+mu z)
 | 0,n,ps,ks,z,h,hp,q=>⟨⟨h,hp,q⟩,fun _=>le_refl _⟩
 | f+1,n,ps,ks,z,h,hp,q=>by
  rw[eJ];have hm:=wR b5 n z;split
  ·have u:=h.more b5 n;have y:=((mI L (3*(bB b5 n z).2.R.length+1)).2.1 0 _ u).1
   obtain⟨g1,g2⟩:=(aNz hN (3*(bB b5 n z).2.R.length+1)).2.1 0 _ u;have r:=y.need arrow;obtain⟨E,I⟩:=hP (deep+1) _ r;obtain⟨J,M⟩:=aOz deep f (n+1) _ _ _ (hO (deep+1) _ r).1 (qY hp g1) (aCn q E);refine⟨J,fun h0=>?_⟩;have O:=M h0;have A:=(Kq.alts hx deep f _ _ _ _ h0).1
   have U:=I A;have B:=(hx _ _ A).1
   have Y:=eU B;have w4:=g2 (Kq.need arrow _ B).1;rw[tY,aCm] at O;omega
  ·exact⟨⟨h.more b5 n,hp,q⟩,fun _=>by dsimp only;omega⟩
omit hwt in
theorem aVf (a:Int) (deep:Nat) {z:Z}(h:ZA L z):exP (hY ex a deep z).1∧((hY ex a deep z).2.e=0→96+exW (hY ex a deep z).1+mu (hY ex a deep z).2≤mu z):=by
 obtain⟨m1,m2⟩:=hP (deep+1) z h;have y:ZA L (cJ ex deep z).2:=((hO (deep+1) z h).1.need ofS).need eB;obtain⟨⟨g1,g2,g3⟩,g4⟩:=aOz hO hx hP hN deep ((cJ ex deep z).2.R.length+1) 0 [] [(cJ ex deep z).1] _ y trivial ⟨m1,trivial⟩;have g2:kG (fI ex deep (cJ ex deep z)).1.1:=g2;have g3:aL2 (fI ex deep (cJ ex deep z)).1.2:=g3;unfold hY;refine⟨⟨dJ,g2,kL,g3,trivial⟩,fun h0=>?_⟩;by_cases hn:(fI ex deep (cJ ex deep z)).1.1=[]
 ·rw[ξ hn] at h0;exact(cX (by decide) h0).elim
 ·rw[ζ hn] at h0 ⊢;have B:=eU h0;have q:=(Kq.need b5 _ h0).1
  have A:iD (fI ex deep (cJ ex deep z)).1.1+jX (fI ex deep (cJ ex deep z)).1.2+mu (fI ex deep (cJ ex deep z)).2≤iD []+jX [(cJ ex deep z).1]+mu (cJ ex deep z).2:=g4 q;have r:(cJ ex deep z).2.e=0:=(Kq.alts hx deep _ _ _ _ _ q).1
  have E:240+mu (cJ ex deep z).2≤mu (aN ofS (ex (deep+1) z).2):=eU r;have u:(aN ofS (ex (deep+1) z).2).e=0:=(Kq.need eB _ r).1
  have I:=eU u;have J:=m2 (Kq.need ofS _ u).1;rw[show iD []=0 from rfl,jX,jX,show(cJ ex deep z).1=(ex (deep+1) z).1 from rfl] at A;unfold aRb;dsimp only;rw[sP];rw[show iN []=0 from rfl,length_nil];omega
omit hwt in
theorem aP0 (deep:Nat) {z:Z}(h:ZA L z):exP (fA ex deep z).1∧((fA ex deep z).2.e=0→96+exW (fA ex deep z).1+mu (fA ex deep z).2≤mu z):=by
 obtain⟨g1,g2,g3⟩:=aT9 hP hN deep h;have r:=(mJ hO deep h).1
 unfold fA;by_cases hb:(fX ex deep z).1.2=false
 ·rw[ξ hb];obtain⟨q,u⟩:=aJ2 hO hx hP hN deep (bA z).pl (z.R.length+1) _ _ (r.fail 12 (bA z).pl) g1;exact⟨q,fun h0=>(cX (by decide) (Kq.apps hx deep _ _ _ _ h0).1).elim⟩
 ·rw[ζ hb];obtain⟨q,u⟩:=aJ2 hO hx hP hN deep (bA z).pl (z.R.length+1) _ _ r g1;refine⟨q,fun h0=>?_⟩;have y:=u h0;have A:=g2 (by simpa using hb) (Kq.apps hx deep _ _ _ _ h0).1;omega
omit hO hx hP hN in
theorem aY1 (a:Int) {y:Ex×Z}(h:ZA L y.2) (he:exP y.1):exP (sA a y).1∧((sA a y).2.e=0→exW (sA a y).1+mu (sA a y).2≤exW y.1+mu y.2):=by
 unfold sA;split
 ·rename_i hm;refine⟨⟨dJ,trivial,tQ (h.may fH) hwt,⟨he,trivial⟩,trivial⟩,fun h0=>?_⟩;have q:=tP h0;have r:=(mK fH y.2).2 hm;dsimp only;unfold aZg;rw[exW,jX,jX,show iD []=0 from rfl,show iN []=0 from rfl,length_nil];omega
 ·have:=(mK fH y.2).1
  exact⟨he,fun _=>by dsimp only;omega⟩
theorem aUy:aWg (aCk ex) L:=fun deep z h=>by
 unfold aCk;split
 ·rename_i h0;exact⟨aFn,fun k=>absurd k h0⟩
 split
 ·exact⟨aFn,fun k=>(cX (by decide) k).elim⟩
 split
 ·obtain⟨g1,g2⟩:=aX5 hx hP (bA z).pl deep (h.may aFi);exact⟨g1,fun h0=>le_trans (g2 h0) (mK aFi z).1⟩
 split
 ·obtain⟨g1,g2⟩:=aX3 hO hx hP hwt (bA z).pl deep (h.may aFh);exact⟨g1,fun h0=>le_trans (g2 h0) (mK aFh z).1⟩
 split
 ·obtain⟨g1,g2⟩:=aVf hO hx hP hN (bA z).pl deep (h.may pN);exact⟨g1,fun h0=>le_trans (g2 h0) (mK pN z).1⟩
 ·obtain⟨g1,g2⟩:=aP0 hO hx hP hN deep h;obtain⟨q,r⟩:=aY1 hwt (bA z).pl (wL hO deep h).1 g1;refine⟨q,fun h0=>?_⟩;have u:=r h0;have y:=g2 (Kq.ann _ _ h0).1;omega
end
theorem aOc {L:List Tk}(hN:aSy L) (hwt:wt L≤30000):∀f,aWg (yL f) L
 | 0=>fun deep z _=>⟨aFn,fun k=>(cX (by decide) k).elim⟩
 | f+1=>aUy (mM hwt f) (uH f) (aOc hN hwt f) hN hwt
def rQ:List Ty→Nat
 | []=>0
 | t::l=>tyW t+8+rQ l
def pH:List Str→Nat
 | []=>0
 | s::l=>s.length+16+pH l
def vJ:List Cn→Nat
 | []=>0
 | c::l=>c.name.length+16+rQ c.fields+vJ l
def dtW (d:Dt):Nat:=d.name.length+64+pH d.vars+vJ d.cons
def mtS (s:Sch):Sch:=⟨[],s.preds.drop 1,s.ty⟩
def wP:List Sg→Nat
 | []=>0
 | m::l=>m.name.length+32+rS (mtS m.ty)+wP l
def lT (v:Str):List Str→Nat
 | []=>0
 | s::l=>s.length+v.length+32+lT v l
def clW (c:Cl):Nat:=c.name.length+c.var.length+64+lT c.var c.supers+wP c.methods
def inW (x:In):Nat:=x.cls.length+x.con.length+64+pH x.vars+2*dH x.preds+iN x.binds
def aDv {α:Type}(f:α→Nat):List α→Nat
 | []=>0
 | a::l=>f a+aDv f l
theorem pS {α:Type}(f:α→Nat):∀(l:List α) (a:α),aDv f (l++[a])=aDv f l+f a
 | [],a=>by simp only[Az,aDv];omega
 | b::l,a=>by rw[Ap,aDv,aDv,pS f l a];omega
def pgW (p:Pg):Nat:=aDv dtW p.datas+aDv clW p.classes+aDv inW p.insts+iN p.binds
structure PgP (p:Pg):Prop where
 d:∀d∈p.datas,∀c∈d.cons,∀t∈c.fields,PT t
 c:∀c∈p.classes,∀m∈c.methods,SchP (mtS m.ty)∧¬m.ty.preds=[]
 i:∀x∈p.insts,(∀q∈x.preds,PT q.ty)∧pF x.binds
 b:pF p.binds
theorem aV7 {z:Z}(h:(dW z).2.e=0):tyW (dW z).1+16+mu (dW z).2≤mu z:=by
 unfold dW at h ⊢;cases hs:cD (3*z.R.length) 0 z.R with
 | error e=>obtain⟨e,p⟩:=e;rw[hs] at h;exact absurd h (gE _ 0 z.R e p hs)
 | ok y=>
  obtain⟨x,R'⟩:=y;have:=(yC _ _ _ _ _ hs).2
  show tyW x+16+40*wt R'≤40*wt z.R;have q:8*wt R'+8≤8*wt z.R:=by omega
  omega
theorem aV8 (z:Z):PT (dW z).1:=by
 unfold dW;cases hs:cD (3*z.R.length) 0 z.R with
 | error e=>exact .leaf 0 [] (.inl rfl)
 | ok y=>exact(yC _ _ _ _ _ hs).1
theorem aA0:∀(l:List Ty) (a:Ty),rQ (l++[a])=rQ l+(tyW a+8)
 | [],a=>by simp only[Az,rQ];omega
 | b::l,a=>by rw[Ap,rQ,rQ,aA0 l a];omega
theorem aCz:∀(l:List Cn) (a:Cn),vJ (l++[a])=vJ l+(a.name.length+16+rQ a.fields)
 | [],a=>by simp only[Az,vJ];omega
 | b::l,a=>by rw[Ap,vJ,vJ,aCz l a];omega
theorem aBy:∀(l:List Sg) (a:Sg),wP (l++[a])=wP l+(a.name.length+32+rS (mtS a.ty))
 | [],a=>by simp only[Az,wP];omega
 | b::l,a=>by rw[Ap,wP,wP,aBy l a];omega
theorem vV (v:Str):∀(l:List Str) (a:Str),lT v (l++[a])=lT v l+(a.length+v.length+32)
 | [],a=>by simp only[Az,lT];omega
 | b::l,a=>by rw[Ap,lT,lT,vV v l a];omega
theorem aCh:∀(f:Nat) (out:List Ty) (z:Z),(∀t∈out,PT t)→(∀t∈(bQ f out z).1,PT t)∧((bQ f out z).2.e=0→rQ (bQ f out z).1+mu (bQ f out z).2≤rQ out+mu z)
 | 0,out,z,h=>⟨h,fun _=>le_refl _⟩
 | f+1,out,z,h=>by
  rw[bQ];split
  ·obtain⟨g1,g2⟩:=aCh f (out++[(dW z).1]) (dW z).2 (fun t ht=>by
    rcases A2.1 ht with ht | ht
    ·exact h t ht
    ·rw[Ar.1 ht];exact aV8 z)
   refine⟨g1,fun h0=>?_⟩;have q:=g2 h0;have r:=aV7 (Kq.fields f _ _ h0).1;rw[aA0] at q;omega
  ·exact⟨h,fun _=>le_refl _⟩
theorem aYn (z:Z):(∀t∈(jF z).1.fields,PT t)∧((jF z).2.e=0→(jF z).1.name.length+16+rQ (jF z).1.fields+mu (jF z).2≤mu z):=by
 obtain⟨g1,g2⟩:=aCh ((aO 2 z).2.R.length+1) [] (aO 2 z).2 (fun t ht=>by cases ht);unfold jF;refine⟨g1,fun h0=>?_⟩;have q:=(Kq.long _ _ _ _ h0).1
 have r:=g2 q;have u:=lZ (k:=2) (by decide) (Kq.fields _ _ _ q).1;dsimp only;rw[p9];rw[show rQ []=0 from rfl] at r;omega
theorem aOf (a:Int):∀(f:Nat) (out:List Cn) (z:Z),(∀c∈out,∀t∈c.fields,PT t)→(∀c∈(fO f a out z).1,∀t∈c.fields,PT t)∧((fO f a out z).2.e=0→vJ (fO f a out z).1+mu (fO f a out z).2≤vJ out+mu z)
 | 0,out,z,h=>⟨h,fun _=>le_refl _⟩
 | f+1,out,z,h=>by
  obtain⟨q,r⟩:=aYn z;have ho:∀c∈out++[(jF z).1],∀t∈c.fields,PT t:=fun c hc=>by
   rcases A2.1 hc with hc | hc
   ·exact h c hc
   ·rw[Ar.1 hc];exact q
  have hm:=(mK vL (cB (out++[(jF z).1]).length 16 a (jF z).2)).1
  rw[p9] at hm;have key:(bX vL (cB (out++[(jF z).1]).length 16 a (jF z).2)).2.e=0→vJ (out++[(jF z).1])+mu (bX vL (cB (out++[(jF z).1]).length 16 a (jF z).2)).2≤vJ out+mu z:=fun h0=>by
   have u:=r (Kq.long _ _ _ _ (Kq.may vL _ h0).1).1;rw[aCz];omega
  rw[fO];split
  ·obtain⟨g1,g2⟩:=aOf a f _ (bX vL (cB (out++[(jF z).1]).length 16 a (jF z).2)).2 ho;refine⟨g1,fun h0=>?_⟩;have u:=g2 h0;have y:=key (Kq.cons f a _ _ h0).1;omega
  ·exact⟨ho,key⟩
theorem aNi:∀l:List Tk,pH (l.map (·.text))≤40*wt l
 | []=>Ae _
 | t::l=>by
  have:=aNi l;rw[An,pH,c9];omega
theorem aFr (z:Z):pH ((aU z).1.map (·.text))+mu (aU z).2≤mu z:=by
 unfold aU;split
 ·have h1:=aNi (z.R.takeWhile rV);have h2:=aFo (z.R.takeWhile rV) (z.R.dropWhile rV);rw[List.takeWhile_append_dropWhile] at h2;show pH ((z.R.takeWhile rV).map (·.text))+40*wt (z.R.dropWhile rV)≤40*wt z.R;omega
 ·show 0+mu z≤mu z;omega
theorem aVa (z:Z):(∀c∈(jE z).1.cons,∀t∈c.fields,PT t)∧((jE z).2.e=0→dtW (jE z).1+mu (jE z).2≤mu z):=by
 have hC:(∀c∈(fN (dD z)).1,∀t∈c.fields,PT t)∧((fN (dD z)).2.e=0→(dD z).2.2.e=0∧vJ (fN (dD z)).1+mu (fN (dD z)).2≤mu (dD z).2.2):=by
  unfold fN;split
  ·rename_i he;obtain⟨g1,g2⟩:=aOf (dD z).1.pl ((dD z).2.2.R.length+1) [] (dD z).2.2 (fun c hc=>by cases hc);exact⟨g1,fun h0=>⟨he,by have:=g2 h0;rw[show vJ []=0 from rfl] at this;omega⟩⟩
  ·rename_i he;exact⟨fun c hc=>(by cases hc),fun h0=>absurd h0 he⟩
 refine⟨hC.1,fun h0=>?_⟩;obtain⟨q,y⟩:=hC.2 h0;have r:240+mu (dD z).2.2≤mu (cB (aU (aO 2 z).2).1.length 8 (aO 2 z).1.pl (aU (aO 2 z).2).2):=eU q;rw[p9] at r;have u:=(Kq.words _ (Kq.long _ _ _ _ (Kq.need eqS _ q).1).1).1
 have A:=aFr (aO 2 z).2;have B:=lZ (k:=2) (by decide) u;show(aO 2 z).1.text.length+64+pH ((aU (aO 2 z).2).1.map (·.text))+vJ (fN (dD z)).1+mu (fN (dD z)).2≤mu z;omega
theorem aHb {z:Z}(h:(bE z).2.e=0):5*dH (bE z).1+mu (bE z).2≤mu z:=by
 unfold bE at h ⊢;split at h
 ·rename_i he;rw[ξ he];cases hs:cH z.R with
  | error e=>obtain⟨e,p⟩:=e;rw[hs] at h;exact absurd h (iY hs)
  | ok y=>
   obtain⟨s,R'⟩:=y;have:=(zE hs).2
   show 5*dH s+40*wt R'≤40*wt z.R;omega
 ·rename_i he;exact absurd h he
theorem aPy (z:Z):∀p∈(bE z).1,PT p.ty:=by
 unfold bE;split
 ·cases hs:cH z.R with
  | error e=>obtain⟨e,p⟩:=e;exact fun p hp=>(by cases hp)
  | ok y=>exact(zE hs).1
 ·exact fun p hp=>(by cases hp)
theorem aUb (t:Ty):t.name.length+8≤tyW t:=by
 cases t with
 | mk f n s a=>rw[tyW];show s.length+8≤_;omega
theorem aA4 (v:Str) (a:Int):∀(l:List Prd) (out:List Str) (z:Z),(bP v a l out z).2.e=0→lT v (bP v a l out z).1≤lT v out+5*dH l∧(bP v a l out z).2=z
 | [],out,z,_=>⟨by rw[bP];show lT v out≤_;omega,by rw[bP]⟩
 | p::l,out,z,h=>by
  rw[bP] at h ⊢;have hp:dH (p::l)=aEd p+dH l:=by unfold dH;rw[An,Bq]
  split at h
  ·rename_i he;rw[ξ he];by_cases hc:p.ty.form=2∧p.ty.name=v
   ·rw[ξ hc] at h ⊢;obtain⟨g1,g2⟩:=aA4 v a l (out++[p.cls]) z h;refine⟨?_,g2⟩;rw[vV] at g1;have:=aUb p.ty;rw[hc.2] at this;rw[hp];unfold aEd;omega
   ·rw[ζ hc] at h;exact(cX (by decide) (Kq.supers v a l _ _ h).1).elim
  ·rename_i he;exact absurd h he
theorem aHs {L:List Tk}(hwt:wt L≤30000) (c v:Str) (a:Int):∀(f n:Nat) (out:List Sg) (z:Z),ZA L z→(∀m∈out,SchP (mtS m.ty)∧¬m.ty.preds=[])→(∀m∈(dK c v a f n out z).1,SchP (mtS m.ty)∧¬m.ty.preds=[])∧((dK c v a f n out z).2.e=0→wP (dK c v a f n out z).1+mu (dK c v a f n out z).2≤wP out+mu z)
 | 0,n,out,z,_,h=>⟨h,fun _=>le_refl _⟩
 | f+1,n,out,z,A,h=>by
  rw[dK];have hm:=wR b5 n z;have r:=A.more b5 n;have q:ZA L (aN fH (aO 1 (bB b5 n z).2).2):=(r.word (k:=1) (by decide)).need _;split
  ·have hP:=tQ q hwt;have ho:∀m∈out++[(fS c v (bB b5 n z).2).1],SchP (mtS m.ty)∧¬m.ty.preds=[]:=fun m hm=>by
    rcases A2.1 hm with hm | hm
    ·exact h m hm
    ·rw[Ar.1 hm];exact⟨⟨hP.t,hP.p,hP.l⟩,fun k=>by cases k⟩
   obtain⟨g1,g2⟩:=aHs hwt c v a f (n+1) (out++[(fS c v (bB b5 n z).2).1]) (cB (out++[(fS c v (bB b5 n z).2).1]).length 16 a (fS c v (bB b5 n z).2).2) (ZA.long q.scheme _ _ _) ho;refine⟨g1,fun h0=>?_⟩;have B:=g2 h0;rw[p9,aBy] at B;have u:=(Kq.long _ _ _ _ (Kq.meths c v a f _ _ _ h0).1).1
   have E:5*rS (bK (aN fH (aO 1 (bB b5 n z).2).2)).1+mu (fS c v (bB b5 n z).2).2≤mu (aN fH (aO 1 (bB b5 n z).2).2):=tP u;have y:=(Kq.scheme _ u).1
   have I:=eU y;have J:=lZ (k:=1) (by decide) (Kq.need fH _ y).1;have M:(fS c v (bB b5 n z).2).1.name.length+32+rS (mtS (fS c v (bB b5 n z).2).1.ty)=(aO 1 (bB b5 n z).2).1.text.length+32+rS (bK (aN fH (aO 1 (bB b5 n z).2).2)).1:=rfl;omega
  ·exact⟨h,fun _=>by dsimp only;omega⟩
theorem aQ7 {L:List Tk}(hwt:wt L≤30000) {z:Z}(h:ZA L z):(∀m∈(eE z).1.methods,SchP (mtS m.ty)∧¬m.ty.preds=[])∧((eE z).2.e=0→clW (eE z).1+mu (eE z).2≤mu z):=by
 have A:ZA L (aX z).2.2.2:=(h.preds.word (k:=2) (by decide)).word (k:=1) (by decide);have hB:ZA L (cO (aX z)).2:=(nX _ _ _ _ _ A).1.need _;obtain⟨g1,g2⟩:=aHs hwt (aX z).2.1.text (aX z).2.2.1.text (aX z).2.1.pl ((cO (aX z)).2.R.length+1) 0 [] (cO (aX z)).2 hB (fun m hm=>by cases hm);refine⟨g1,fun h0=>?_⟩;have h0:(aN b5 (iL (aX z) (cO (aX z))).2).e=0:=h0;have M:=eU h0;have r:=(Kq.need b5 _ h0).1
 have B:wP (iL (aX z) (cO (aX z))).1+mu (iL (aX z) (cO (aX z))).2≤wP []+mu (cO (aX z)).2:=g2 r;rw[show wP []=0 from rfl] at B;have u:(cO (aX z)).2.e=0:=(Kq.meths _ _ _ _ _ _ _ r).1
 have E:240+mu (cO (aX z)).2≤mu (bP (aX z).2.2.1.text (aX z).2.1.pl (aX z).1 [] (aX z).2.2.2).2:=eU u;have q:=(Kq.need eB _ u).1
 obtain⟨I,J⟩:=aA4 _ _ _ _ _ q;rw[J] at E q;rw[show lT (aX z).2.2.1.text []=0 from rfl] at I;have O:240+40*(aX z).2.2.1.text.length+mu (aX z).2.2.2≤mu (aO 2 (bE z).2).2:=lZ (k:=1) (by decide) q;have y:=(Kq.word 1 _ q).1
 have U:240+40*(aX z).2.1.text.length+mu (aO 2 (bE z).2).2≤mu (bE z).2:=lZ (k:=2) (by decide) y;have Y:5*dH (aX z).1+mu (bE z).2≤mu z:=aHb (Kq.word 2 _ y).1;show(aX z).2.1.text.length+(aX z).2.2.1.text.length+64+lT (aX z).2.2.1.text (cO (aX z)).1+wP (iL (aX z) (cO (aX z))).1+mu (aN b5 (iL (aX z) (cO (aX z))).2)≤mu z;have w8:lT (aX z).2.2.1.text (cO (aX z)).1=lT (aX z).2.2.1.text (bP (aX z).2.2.1.text (aX z).2.1.pl (aX z).1 [] (aX z).2.2.2).1:=rfl;omega
theorem aIi (a:Int):∀(l:List Prd) (z:Z),(dL a l z).e=0→dL a l z=z
 | [],z,_=>rfl
 | p::l,z,h=>by
  rw[dL] at h ⊢;by_cases hc:z.e=0∧¬p.ty.form=2
  ·rw[ξ hc] at h;exact(cX (by decide) (Kq.forms a l _ h).1).elim
  ·rw[ζ hc] at h ⊢;exact aIi a l z h
section
variable {L:List Tk}{ex:Nat→Z→Ex×Z}(hO:ExO L ex) (hx:aKd ex) (hP:aWg ex L) (hwt:wt L≤30000)
include hO hx hP
theorem aB9:∀(f n:Nat) (out:List Bd) (z:Z),ZA L z→pF out→pF (cE ex f n out z).1∧((cE ex f n out z).2.e=0→iN (cE ex f n out z).1+mu (cE ex f n out z).2≤iN out+mu z)
 | 0,n,out,z,_,h=>⟨h,fun _=>le_refl _⟩
 | f+1,n,out,z,u,h=>by
  rw[cE];have hm:=wR b5 n z;have q:=(u.more b5 n).word (k:=1) (by decide);split
  ·obtain⟨g1,g2⟩:=aOl hx hP (aO 1 (bB b5 n z).2).1 0 q;obtain⟨y,A⟩:=aB9 f (n+1) _ _ (qD hO _ 0 q).1 (v7 h g1);refine⟨y,fun h0=>?_⟩;have B:=A h0;have r:=(Kq.ibinds hx f _ _ _ h0).1
   have E:=g2 r;have I:=lZ (k:=1) (by decide) (Kq.bind hx _ _ _ r).1;rw[uZ] at B;omega
  ·exact⟨h,fun _=>by dsimp only;omega⟩
theorem aUo {z:Z}(h:ZA L z):((∀q∈(iS ex z).1.preds,PT q.ty)∧pF (iS ex z).1.binds)∧((iS ex z).2.e=0→inW (iS ex z).1+mu (iS ex z).2≤mu z):=by
 have B:ZA L (aO 2 (bE z).2).2:=h.preds.word (by decide);have A:ZA L (bO z).2.2.2.2:=(B.may cW).word (by decide);have r:ZA L (instV (bO z).2.2.1 (bO z).2.2.2.2).2∧((instV (bO z).2.2.1 (bO z).2.2.2.2).2.e=0→pH (instV (bO z).2.2.1 (bO z).2.2.2.2).1+mu (instV (bO z).2.2.1 (bO z).2.2.2.2).2≤mu (bO z).2.2.2.2):=by
  unfold instV;split
  ·refine⟨A.words.need _,fun h0=>?_⟩;have w1:=eU h0;have E:=aFr (bO z).2.2.2.2;dsimp only;omega
  ·exact⟨A,fun _=>by show 0+mu (bO z).2.2.2.2≤mu (bO z).2.2.2.2;omega⟩
 generalize I:instV (bO z).2.2.1 (bO z).2.2.2.2=v at r;have hB:ZA L (iF (bO z) v):=by
  unfold iF;refine ZA.need (rA _ _ _ ?_).1 _;split
  ·exact ZA.long r.1 _ _ _
  ·exact r.1
 obtain⟨g1,g2⟩:=aB9 hO hx hP ((iF (bO z) v).R.length+1) 0 [] (iF (bO z) v) hB trivial;unfold iS;rw[I];refine⟨⟨aPy z,g1⟩,fun h0=>?_⟩;have w1:=eU h0;have J:=(Kq.need b5 _ h0).1
 have E:iN (oB ex (iF (bO z) v)).1+mu (oB ex (iF (bO z) v)).2≤iN []+mu (iF (bO z) v):=g2 J;rw[show iN []=0 from rfl] at E;have M:(iF (bO z) v).e=0:=(Kq.ibinds hx _ _ _ _ J).1
 have O:240+mu (iF (bO z) v)≤mu (dL (bO z).2.1.pl (bO z).1 (if v.2.e=0 then cB v.1.length 8 (bO z).2.1.pl v.2 else v.2)):=eU M;have u:=(Kq.need eB _ M).1
 rw[aIi _ _ _ u] at O u;have y:v.2.e=0:=by
  by_cases hq:v.2.e=0
  ·exact hq
  ·rw[ζ hq] at u;exact u
 rw[ξ y,p9] at O;have w4:=r.2 y;have U:(bO z).2.2.2.2.e=0:=by
  rw[←I] at y;exact(Kq.instV _ _ y).1
 have w5:240+40*(bO z).2.2.2.1.text.length+mu (bO z).2.2.2.2≤mu (bX cW (aO 2 (bE z).2).2).2:=lZ (k:=2) (by decide) U;have w6:=(mK cW (aO 2 (bE z).2).2).1
 have Y:=(Kq.may cW _ (Kq.word 2 _ U).1).1
 have w7:240+40*(bO z).2.1.text.length+mu (aO 2 (bE z).2).2≤mu (bE z).2:=lZ (k:=2) (by decide) Y;have w8:5*dH (bO z).1+mu (bE z).2≤mu z:=aHb (Kq.word 2 _ Y).1;dsimp only;show(bO z).2.1.text.length+(bO z).2.2.2.1.text.length+64+pH v.1+2*dH (bO z).1+iN (oB ex (iF (bO z) v)).1+mu (aN b5 (oB ex (iF (bO z) v)).2)≤mu z;omega
include hwt
theorem aU7 (p:Pg) (sigs:List Sg) {z:Z}(h:ZA L z) (hp:PgP p) (hs:aDw sigs):(PgP (eD ex p sigs z).1.1∧aDw (eD ex p sigs z).1.2)∧((eD ex p sigs z).2.e=0→pgW (eD ex p sigs z).1.1+rR (eD ex p sigs z).1.2+mu (eD ex p sigs z).2≤pgW p+rR sigs+mu z):=by
 have snoc:∀{α:Type} {P:α→Prop} {l:List α} {a:α},(∀x∈l,P x)→P a→∀x∈l++[a],P x:=fun h k x hx=>by
  rcases A2.1 hx with hx | hx
  ·exact h x hx
  ·rw[Ar.1 hx];exact k
 unfold eD;split
 ·have hm:=(mK fV z).1
  obtain⟨g1,g2⟩:=aVa (bX fV z).2;refine⟨⟨⟨snoc hp.d g1,hp.c,hp.i,hp.b⟩,hs⟩,fun h0=>?_⟩;have q:=g2 h0;unfold pgW;dsimp only;rw[pS];omega
 split
 ·have hm:=(mK fY z).1
  obtain⟨g1,g2⟩:=aQ7 hwt (h.may fY);refine⟨⟨⟨hp.d,snoc hp.c g1,hp.i,hp.b⟩,hs⟩,fun h0=>?_⟩;have q:=g2 h0;unfold pgW;dsimp only;rw[pS];omega
 split
 ·have hm:=(mK lW z).1
  obtain⟨g1,g2⟩:=aUo hO hx hP (h.may lW);refine⟨⟨⟨hp.d,hp.c,snoc hp.i g1,hp.b⟩,hs⟩,fun h0=>?_⟩;have q:=g2 h0;unfold pgW;dsimp only;rw[pS];omega
 ·obtain⟨⟨g1,g2⟩,g3⟩:=aCq hx hP hwt sigs p.binds 0 h hs hp.b;refine⟨⟨⟨hp.d,hp.c,hp.i,g2⟩,g1⟩,fun h0=>?_⟩;have q:=g3 h0;unfold pgW;dsimp only;omega
omit hx hP in
theorem aQw (p:Pg) (sigs:List Sg) {z:Z}(h:ZA L z):ZA L (eD ex p sigs z).2:=by
 unfold eD;split
 ·exact(aCw (h.may fV) hwt).1
 split
 ·exact(xO (h.may fY) hwt).1
 split
 ·exact(aB6 hO hwt (h.may lW)).1
 ·exact xJ hO hwt sigs p.binds 0 h
theorem aNq:∀(f n:Nat) (p:Pg) (sigs:List Sg) (z:Z),ZA L z→PgP p→aDw sigs→(PgP (dR ex f n p sigs z).1.1∧aDw (dR ex f n p sigs z).1.2)∧((dR ex f n p sigs z).2.e=0→pgW (dR ex f n p sigs z).1.1+rR (dR ex f n p sigs z).1.2+mu (dR ex f n p sigs z).2≤pgW p+rR sigs+mu z)
 | 0,n,p,sigs,z,_,hp,hs=>⟨⟨hp,hs⟩,fun _=>le_refl _⟩
 | f+1,n,p,sigs,z,h,hp,hs=>by
  rw[dR];have hm:=wR [] n z;split
  ·obtain⟨⟨g1,g2⟩,g3⟩:=aU7 hO hx hP hwt p sigs (h.more [] n) hp hs;obtain⟨q,r⟩:=aNq f (n+1) _ _ _ (aQw hO hwt p sigs (h.more [] n)) g1 g2;refine⟨q,fun h0=>?_⟩;have u:=r h0;have y:=g3 (Kq.prog hx f _ _ _ _ h0).1;omega
  ·exact⟨⟨hp,hs⟩,fun _=>by dsimp only;omega⟩
end
theorem aS0:PgP zPg:=⟨fun d q=>(by cases q),fun d q=>(by cases q),fun d q=>(by cases q),trivial⟩
theorem aHa (s:Str):PgP (cC s).1∧pgW (cC s).1≤1200000:=by
 have q:PgP zPg∧pgW zPg≤1200000:=⟨aS0,by decide⟩
 unfold cC;split
 case isFalse=>exact q
 rename_i he;have he:=(Kq.endz _ he).1
 unfold gC at he ⊢;obtain⟨r,hwt,_,_⟩:=lB s;split
 ·rename_i hb;rw[ξ hb] at he;have hN:aSy (bS s).1:=by
   unfold bS at hb ⊢;cases hl:lexA s with
   | ok l=>
    unfold lexA at hl;split at hl
    ·cases hl
    ·exact r8 _ _ _ _ hl
   | error e=>
    intro t ht;rw[Ar.1 ht];exact dJ
  obtain⟨⟨g1,g2⟩,g3⟩:=aNq (mM hwt _) (uH _) (aOc hN hwt (bS s).2.R.length) hwt ((bS s).2.R.length+1) 0 zPg [] (bS s).2 r aS0 (fun x hx=>by cases hx);have A:=iZ he;have u:(dR (yL (bS s).2.R.length) ((bS s).2.R.length+1) 0 zPg [] (bS s).2).2.e=0:=(Kq.pair _ _ _ he).1
  have y:=g3 u;obtain⟨B,E⟩:=wN (dR (yL (bS s).2.R.length) ((bS s).2.R.length+1) 0 zPg [] (bS s).2).1.2 (dR (yL (bS s).2.R.length) ((bS s).2.R.length+1) 0 zPg [] (bS s).2).1.1.binds (dR (yL (bS s).2.R.length) ((bS s).2.R.length+1) 0 zPg [] (bS s).2).2 g2 g1.b;unfold dY pZ;refine⟨⟨g1.d,g1.c,g1.i,B⟩,?_⟩;have I:=r.wt;rw[show pgW zPg=0 from rfl,show rR []=0 from rfl] at y;unfold pgW at y ⊢;dsimp only;have J:mu (bS s).2≤40*30000:=by unfold mu;omega
  omega
 ·exact q
def aP8:Str:=[32,59,10]
def aWz:Str:=[32,124,32]
def aYp:Str:=[99,108,97,115,115,32]
def aX8:Str:=[105,110,115,116,97,110,99,101,32]
def zH (c:Cn):Str:=c.name++c.fields.flatMap fun t=>[32]++eZ t
def prD (d:Dt):Str:=Lib.join ([fV,d.name]++d.vars) [32]++eqP++Lib.join (d.cons.map zH) aWz
def vG (v s:Str):Prd:=⟨s,.mk 2 0 v []⟩
def prM (m:Sg):Str:=m.name++uS++sG (mtS m.ty)
def prC (c:Cl):Str:=aYp++aIt (c.supers.map (vG c.var))++c.name++[32]++c.var++[32]++yM (c.methods.map prM)
def prI (x:In):Str:=aX8++aIt x.preds++x.cls++[32]++brk (decide (0<x.vars.length)) (Lib.join ([x.con]++x.vars) [32])++[32]++yM (fP x.binds)
def aHh (p:Pg):Str:=Lib.join (p.datas.map prD++p.classes.map prC++p.insts.map prI++fP p.binds) aP8
mutual
theorem aPz:∀p:Pt,prP (pt0 p)=prP p
 | .mk f pl n s l=>by rw[pt0,prP,prP,aNt l]
theorem aNt:∀l:List Pt,sL (oS l)=sL l
 | []=>rfl
 | p::l=>by
  have q:(pt0 p).kids.length=p.kids.length:=by
   cases p with
   | mk f pl n s l=>rw[pt0];show(oS l).length=l.length;rw[lI,η]
  rw[oS,sL,sL,q,aPz p,aNt l]
end
theorem aLl (l:List Pt):(oS l).map prP=l.map prP:=by
 rw[lI,map_map];exact map_congr_left fun p _=>aPz p
theorem aO1:∀(l:List Pt) (x:List (Int×Str)),kH (oS l) x=kH l x
 | [],x=>by cases x<;>rfl
 | p::l,[]=>rfl
 | p::l,a::x=>by rw[oS,kH,kH,aPz p,aO1 l x]
mutual
theorem aT4:∀e:Ex,prE (ex0 e)=prE e
 | .mk f pl n s ks ps q g=>by
  rw[ex0,prE,prE,aNw ks,aLl ps,aBo q,aO1 ps]
theorem aNw:∀l:List Ex,fM (vI l)=fM l
 | []=>by rw[vI]
 | e::l=>by
  have r:(ex0 e).form=e.form:=by cases e;rw[ex0];rfl
  rw[vI,fM,fM,r,aT4 e,aNw l]
theorem aXw:∀b:Bd,prB (bd0 b)=prB b
 | .mk s pl h g e=>by rw[bd0,prB,prB,aT4 e]
theorem aBo:∀l:List Bd,fP (lY l)=fP l
 | []=>by rw[lY]
 | b::l=>by rw[lY,fP,fP,aXw b,aBo l]
end
theorem aNu (p:Pg):aHh (pg0 p)=aHh p:=by
 unfold aHh pg0;dsimp only;rw[map_map,map_map,map_map,aBo];have h1:p.datas.map (prD∘dt0)=p.datas.map prD:=map_congr_left fun d _=>by
  show prD (dt0 d)=prD d;unfold prD dt0;dsimp only;rw[map_map];rfl
 have h2:p.classes.map (prC∘cl0)=p.classes.map prC:=map_congr_left fun c _=>by
  show prC (cl0 c)=prC c;unfold prC cl0;dsimp only;rw[map_map];rfl
 have q:p.insts.map (prI∘in0)=p.insts.map prI:=map_congr_left fun x _=>by
  show prI (in0 x)=prI x;unfold prI in0;dsimp only;rw[aBo]
 rw[h1,h2,q]
theorem join_one (a sep:Str):Lib.join [a] sep=a:=by simp[Lib.join,List.intercalate,List.intersperse]
theorem qA (a b sep:Str) (l:List Str):Lib.join (a::b::l) sep=a++sep++Lib.join (b::l) sep:=by
 cases l with
 | nil=>simp[Lib.join,List.intercalate,List.intersperse]
 | cons c l=>simp[Lib.join,List.intercalate,List.intersperse]
theorem x7 (sep x:Str):∀l:List Str,¬l=[]→Lib.join (l++[x]) sep=Lib.join l sep++sep++x
 | [],h=>absurd rfl h
 | [a],_=>by rw[Ap,Az,qA,join_one,join_one]
 | a::b::l,_=>by
  rw[Ap,Ap,qA,←Ap,x7 sep x (b::l) (List.cons_ne_nil _ _),qA];simp only[Aj]
theorem aH5 {l:List Str}{i:Nat}{x sep:Str}(h:l[i]?=some x):Lib.join (l.take (i+1)) sep=(if i=0 then [] else Lib.join (l.take i) sep++sep)++x:=by
 rw[cU h];by_cases h0:i=0
 ·subst h0;rw[ξ rfl,B5,Az,Az,join_one]
 ·rw[ζ h0,x7 sep x _ (fun k=>by
   rcases List.take_eq_nil_iff.1 k with k | k
   ·exact h0 k
   ·rw[k] at h;cases h)]
def lU:List Str→Nat
 | []=>0
 | s::l=>s.length+3+lU l
theorem kI:∀l:List Str,lU l=(l.map (fun s:Str=>s.length)).sum+3*l.length
 | []=>rfl
 | s::l=>by rw[lU,kI l,An,Bq,κ];omega
theorem iH (l m:List Str):lU (l++m)=lU l+lU m:=by rw[kI,kI,kI,Ah,sum_append,ψ];omega
theorem eW {sep:Str}(h:sep.length≤3) (l:List Str):(Lib.join l sep).length≤lU l:=by
 have h1:=join_le sep l;have h2:sep.length*l.length≤3*l.length:=Ax _ h;rw[kI];omega
theorem uX (l:List Str):(yM l).length≤lU l+4:=by
 have:=y2 l;rw[kI];omega
theorem rB:∀l:List Ty,(∀t∈l,PT t)→(l.flatMap fun t=>[32]++eZ t).length≤rQ l
 | [],_=>Ae _
 | t::l,h=>by
  have h1:=pV (h t (.head _));have h2:=rB l fun t ht=>h t (.tail _ ht)
  rw[List.flatMap_cons,ψ,ψ,rQ];show 1+(eZ t).length+_≤_;omega
theorem zZ:∀l:List Cn,(∀c∈l,∀t∈c.fields,PT t)→lU (l.map zH)≤vJ l
 | [],_=>le_refl _
 | c::l,h=>by
  have h1:=rB c.fields (h c (.head _));have h2:=zZ l fun c hc=>h c (.tail _ hc)
  have e:(zH c).length=c.name.length+(c.fields.flatMap fun t=>[32]++eZ t).length:=by unfold zH;rw[ψ]
  rw[An,lU,vJ];omega
theorem qN:∀l:List Str,lU l≤pH l
 | []=>le_refl _
 | s::l=>by have:=qN l;rw[lU,pH];omega
theorem aT5 {d:Dt}(h:∀c∈d.cons,∀t∈c.fields,PT t):(prD d).length+3≤2*dtW d:=by
 have h1:=zZ d.cons h;have h2:=qN d.vars;have q:=eW (sep:=[32]) (by decide) ([fV,d.name]++d.vars);have r:=eW (sep:=aWz) (by decide) (d.cons.map zH);rw[iH,show lU [fV,d.name]=7+(d.name.length+3+0) from rfl] at q;unfold prD dtW;rw[ψ,ψ];show _+3+_+3≤_;omega
theorem aHp:∀l:List Sg,(∀m∈l,SchP (mtS m.ty)∧¬m.ty.preds=[])→lU (l.map prM)≤2*wP l
 | [],_=>Ae _
 | m::l,h=>by
  have h1:=sF (h m (.head _)).1;have h2:=aHp l fun c hc=>h c (.tail _ hc)
  have e:(prM m).length=m.name.length+3+(sG (mtS m.ty)).length:=by unfold prM;rw[ψ,ψ];rfl
  rw[An,lU,wP];omega
theorem aF5 (v:Str):∀l:List Str,dH (l.map (vG v))≤lT v l
 | []=>le_refl _
 | s::l=>by
  have:=aF5 v l;have e:dH ((s::l).map (vG v))=(s.length+8+(v.length+8+0))+dH (l.map (vG v)):=by unfold dH;rw[An,An,Bq];rfl
  rw[e,lT];omega
theorem aNh (v:Str) (l:List Str):∀p∈l.map (vG v),PT p.ty:=fun p hp=>by
 obtain⟨s,_,rfl⟩:=mem_map.1 hp;exact .leaf 2 v (.inr (.inl rfl))
theorem aNx {c:Cl}(h:∀m∈c.methods,SchP (mtS m.ty)∧¬m.ty.preds=[]):(prC c).length+3≤2*clW c:=by
 have h1:=aHp c.methods h;have h2:=sY (aNh c.var c.supers);have q:=aF5 c.var c.supers;have r:=uX (c.methods.map prM);unfold prC clW;rw[ψ,ψ,ψ,ψ,ψ,ψ,κ,length_nil,show aYp.length=6 from rfl];omega
theorem uY {l:List Bd}(h:pF l):lU (fP l)≤iN l:=by
 have:=u5 l h;rw[kI];exact this
theorem aNv {x:In}(hp:∀q∈x.preds,PT q.ty) (hb:pF x.binds):(prI x).length+3≤2*inW x:=by
 have h1:=uY hb;have h2:=sY hp;have u:=uX (fP x.binds);have y:=qN x.vars;have r:=eW (sep:=[32]) (by decide) ([x.con]++x.vars);have A:=bU (decide (0<x.vars.length)) (Lib.join ([x.con]++x.vars) [32]);rw[iH,show lU [x.con]=x.con.length+3+0 from rfl] at r;unfold prI inW;rw[ψ,ψ,ψ,ψ,ψ,ψ,κ,length_nil,show aX8.length=9 from rfl];omega
theorem pT {α:Type}(f:α→Str) (g:α→Nat):∀l:List α,(∀a∈l,(f a).length+3≤2*g a)→lU (l.map f)≤2*aDv g l
 | [],_=>Ae _
 | a::l,h=>by
  have h1:=h a (.head _);have h2:=pT f g l fun x hx=>h x (.tail _ hx)
  rw[An,lU,aDv];omega
def prL (p:Pg):List Str:=p.datas.map prD++p.classes.map prC++p.insts.map prI++fP p.binds
theorem aT3 {p:Pg}(h:PgP p):lU (prL p)≤2*pgW p:=by
 have h1:=pT prD dtW p.datas fun d q=>aT5 (h.d d q)
 have h2:=pT prC clW p.classes fun d q=>aNx (h.c d q)
 have r:=pT prI inW p.insts fun d q=>aNv (h.i d q).1 (h.i d q).2
 have u:=uY h.b;unfold prL pgW;rw[iH,iH,iH];omega
theorem LD.join:∀l:List Str,(∀s∈l,LD s)→LD (Lib.join l [32,59,10])
 | [],_=>LD.of rfl
 | [a],h=>by rw[join_one];exact h a (.head _)
 | a::b::l,h=>by
  rw[qA];exact((h a (.head _)).app ⟨_,_,rfl,rfl⟩ (LQ.of rfl)).appD (LD.join (b::l) fun x hx=>h x (.tail _ hx))
theorem LD.lexA {s:Str}(h:LD s) (hl:s.length≤4000):∃L,lexA s=.ok L:=by
 obtain⟨ts,h⟩:=h;obtain⟨L,q,_⟩:=h.all.lexA hl;exact⟨L,q⟩
theorem vW:∀(l:List Str) (i:Nat),lU (l.take i)≤lU l
 | [],i=>by rw[take_nil];exact le_refl _
 | a::l,0=>Ae _
 | a::l,i+1=>by have:=vW l i;rw[As,lU,lU];omega
theorem aA5:∀{l:List Str}{a:Str},a∈l→a.length+3≤lU l
 | b::l,a,h=>by
  rw[lU];rcases Aq.1 h with rfl | h
  ·omega
  ·have:=aA5 h;omega
set_option maxHeartbeats 4000000
theorem aAe (e:Ex):bI Tryz.prog 51 [.pa (cY e)] [] (B (opn e.form)) []:=by
 unfold opn;refine bM (n:=21) tok Tryz.func51 rfl rfl rfl ?_;refine sg rfl ?_;by_cases q:e.form=5
 ·have d5:decide (e.form=5)=true:=χ q;rw[d5,Bool.true_or];exact sgh [(3,.bv true),(7,.bv true),(8,.bv true),(12,.bv true),(13,.bv true),(17,.bv true)] rfl (aD rtT)
 have d5:decide (e.form=5)=false:=φ q;by_cases r:e.form=6
 ·have d6:decide (e.form=6)=true:=χ r;rw[d5,d6,Bh,Bool.true_or];exact sgh [(3,.bv false),(7,.bv false),(8,.bv true),(12,.bv true),(13,.bv true),(17,.bv true)] rfl (aD rtT)
 have d6:decide (e.form=6)=false:=φ r;by_cases u:e.form=7
 ·have d7:decide (e.form=7)=true:=χ u;rw[d5,d6,d7,Bh,Bh,Bool.true_or];exact sgh [(3,.bv false),(7,.bv false),(8,.bv false),(12,.bv false),(13,.bv true),(17,.bv true)] rfl (aD rtT)
 have d7:decide (e.form=7)=false:=φ u;rw[d5,d6,d7,Bh,Bh,Bh];exact sgh [(3,.bv false),(7,.bv false),(8,.bv false),(12,.bv false),(13,.bv false),(17,.bv false)] rfl (aD rtT)
theorem aAd (l:List Pt) (hP:kG l) (hB:wI l) (hl:l.length≤4002) (hW:iD l≤400000000):bI Tryz.prog 52 [.one (.c (.sl 10 (l.map cF)))] [] (Go.AM.T (Lib.join (l.map prP) [32])) []:=by
 have hM:3000000000≤maxLen:=by decide
 have B:(l.map cF).length=l.length:=η _;refine bM (n:=20) tok Tryz.func52 rfl rfl rfl ?_;refine sg rfl (sg rfl (AWp.sub (Sub.own (t:=3) (id:=500) 9 1 rfl rfl) ?_));refine aA (sg rfl (aE (aP (fun i:Nat=>mk [(3,.one (.hs 500 0 (l.take i).length (l.take i).length)),(6,.one (.c (.sl 10 (l.map cF)))),(7,I .i64 ((l.map cF).length:Nat)),(8,I .i64 (i:Nat))] [(500,.arr 9 1 (((l.take i).map prP).map aR) 0)]) (fun i=>i≤l.length) (fun i=>l.length-i) 0 (Ae _) sl ?_)));intro i hi;have M:(l.take i).length=i:=by rw[Ak];omega
 refine sg rfl (aA (aB rfl (fun hb=>?_) (fun hb=>?_)))
 ·have q:=ltD hb B;obtain⟨p,hp⟩:=aJ q;have O:=b9 cF hp;have hm:=Aa hp;have U:=pW hm;have hc:=mQ (psz p) p (le_refl _) (gU hP p hm) (pX hB p hm) (by omega);have r:(((l.take i).map prP).map aR).length=(l.take i).length:=by rw[η,η]
  have u:l.take (i+1)=l.take i++[p]:=cU hp;have y:(l.take (i+1)).length=(l.take i).length+1:=by rw[u,ψ];rfl
  have A:(((l.take i).map prP).map aR)++[[.str (prP p)]]=((l.take (i+1)).map prP).map aR:=by rw[u,Ah,Ah];rfl
  refine aF (aA (aE (sgh [(0,.row i (cF p))] rfl (aC mixed (ak 2 [] rfl (kc hc ?_))))));exact ak 3 [(3,.all)] rfl (az (agN [] rfl ⟨i+1,q,by dsimp only;omega,sl (he:=⟨Go.AM.hs_ren (by rw[y,←r];rfl) (by rw[y,←r];rfl),rfl,rfl,rfl,trivial⟩) (hh:=⟨⟨_,rfl,.arrS A⟩,trivial⟩)⟩))
 ·have E:=geD hb B hi;subst E;refine aS ?_;rw[Aw];have Y:=u6 hP;have J:=rI (l.map prP) [32] (by rw[η];omega) (by omega);have aa:((l.map prP).map aR).length=l.length:=by rw[η,η]
  refine AWp.sub (Sub.freeze (id:=500) rfl) ?_;refine AWp.sub (st2:=mk [(3,eG (l.map prP))] []) ?_ ?_
  ·refine Sub.trans ?_ (cv 3 ((l.map prP).map aR));exact sl
  refine sk 1 rfl (kc J ?_);exact kz 1 rfl (aD rtT)
def PES (k:Nat):Prop:=∀e:Ex,esz e≤k→exP e→oE e→exW e≤400000000→bI Tryz.prog 15 [.pa (cY e)] [] (Go.AM.T (prE e)) []
def PBS (k:Nat):Prop:=∀l:List Bd,l.length≤4002→aR1 l≤k→pF l→eY l→iN l≤400000000→bI Tryz.prog 38 [.one (.c (.sl 33 (kE l)))] [] (eG (fP l)) []
theorem n6:∀l:List Bd,(fP l).length≤2*l.length
 | []=>le_refl _
 | .mk s pl h g e::l=>by
  have:=n6 l;rw[fP,prB,ψ,ψ,κ,κ,length_nil];split
  ·rw[κ,length_nil];omega
  ·rw[length_nil];omega
theorem aC9 {k:Nat}(hE:PES k):PBS (k+1):=by
 intro l hl hk hP hB hW;have hM:3000000000≤maxLen:=by decide
 have Y:(kE l).length=l.length:=by rw[jD,η]
 refine bM (n:=36) tok Tryz.func38 rfl rfl rfl ?_;refine sg rfl (sg rfl (AWp.sub (Sub.own (t:=3) (id:=500) 9 1 rfl rfl) ?_));refine aA (sg rfl (aE (aP (fun i:Nat=>mk [(3,.one (.hs 500 0 (fP (l.take i)).length (fP (l.take i)).length)),(6,.one (.c (.sl 33 (kE l)))),(7,I .i64 ((kE l).length:Nat)),(8,I .i64 (i:Nat))] [(500,.arr 9 1 ((fP (l.take i)).map aR) 0)]) (fun i=>i≤l.length) (fun i=>l.length-i) 0 (Ae _) sl ?_)));intro i hi;have hti:(l.take i).length=i:=by rw[Ak];omega
 have aa:=n6 (l.take i);refine sg rfl (aA (aB rfl (fun hb=>?_) (fun hb=>?_)))
 ·have E:=ltD hb Y;obtain⟨b,J⟩:=aJ E;have hx':(kE l)[i]?=some (bL b):=by rw[jD];exact b9 bL J
  have hm:=Aa J;have ab:=jI.1 hB b hm;have A:=aDf hP b hm;have hsz:=aJf hm;have ac:=aDe hm;have ad:l.take (i+1)=l.take i++[b]:=cU J;obtain⟨r,pl,has,q,e⟩:=b;have hnm:List.length (Bd.name (.mk r pl has q e))=r.length:=rfl;rw[bsz] at hsz;rw[bdW] at ac;have hs:=oG A.1 (by omega);have hsl:=sF A.1;have he:=hE e (by omega) A.2 ab.2 (by omega);have hel:=kT e A.2;have u:fP (l.take (i+1))=fP (l.take i)++prB (.mk r pl has q e):=by rw[ad,aBn,fP,fP,Bm]
  have hc3:uS.length=3:=rfl;have hq3:eqP.length=3:=rfl;generalize fP (l.take i)=P at aa u;have B:(P.map aR).length=P.length:=η _;refine aF (aA (aE (sgh [(0,.row i (bL (.mk r pl has q e)))] rfl (aA (sg rfl ?_)))));cases has with
  | true=>
   refine aB rfl (fun _=>aC mixed (ak 6 [] rfl (kc hs ?_))) nofun;refine ak 4 [(8,.all)] rfl (az ?_);have y:(P.map aR)++[[.str (r++uS++sG q)]]=(P++[r++uS++sG q]).map aR:=by rw[Ah];rfl
   have hle:(P++[r++uS++sG q]).length=P.length+1:=by rw[ψ];rfl
   have U:((P++[r++uS++sG q]).map aR)++[[.str (r++eqP++prE e)]]=(fP (l.take (i+1))).map aR:=by rw[u,prB,ξ rfl,←Aj];simp[aR]
   have M:(fP (l.take (i+1))).length=(P++[r++uS++sG q]).length+1:=by rw[u,prB,ξ rfl,←Aj];simp
   have O:((P++[r++uS++sG q]).map aR).length=(P++[r++uS++sG q]).length:=η _;refine AWp.sub (st2:=mk [(3,.one (.hs 500 0 (P++[r++uS++sG q]).length (P++[r++uS++sG q]).length)),(5,.one (.vp 5 0)),(6,.one (.c (.sl 33 (kE l)))),(7,I .i64 ((kE l).length:Nat)),(8,I .i64 (i:Nat))] [(500,.arr 9 1 ((P++[r++uS++sG q]).map aR) 0),(5,.var 109 ((bL (.mk r pl true q e)).map .c))]) (sl (he:=⟨Go.AM.hs_ren (by rw[hle,←B];rfl) (by rw[hle,←B];rfl),rfl,rfl,rfl,rfl,trivial⟩) (hh:=⟨⟨_,rfl,.arrS y⟩,⟨_,rfl,.var rfl⟩,trivial⟩)) ?_;generalize P++[r++uS++sG q]=P2 at *;refine aC mixed (ak 6 [] rfl (kc he ?_));exact ak 4 [(8,.all)] rfl (az (agN [] rfl ⟨i+1,E,by dsimp only;omega,sl (he:=⟨Go.AM.hs_ren (by rw[M,←O];rfl) (by rw[M,←O];rfl),rfl,rfl,rfl,trivial⟩) (hh:=⟨⟨_,rfl,.arrS U⟩,trivial⟩)⟩))
  | false=>
   refine aB rfl nofun (fun _=>aF (aC mixed (ak 6 [] rfl (kc he ?_))));refine ak 4 [(8,.all)] rfl (az ?_);have y:(P.map aR)++[[.str (r++eqP++prE e)]]=(fP (l.take (i+1))).map aR:=by rw[u,prB,ζ π,Az,Ah];rfl
   have hle:(fP (l.take (i+1))).length=P.length+1:=by rw[u,prB,ζ π,Az,ψ];rfl
   exact agN [] rfl ⟨i+1,E,by dsimp only;omega,sl (he:=⟨Go.AM.hs_ren (by rw[hle,←B];rfl) (by rw[hle,←B];rfl),rfl,rfl,rfl,trivial⟩) (hh:=⟨⟨_,rfl,.arrS y⟩,trivial⟩)⟩
 ·have ae:=geD hb Y hi;subst ae;refine aS ?_;rw[Aw];refine sg rfl (AWp.sub (Sub.freeze (id:=500) rfl) ?_);exact aD (rtH (hsz:=(η _).symm) (hlen:=(η _).symm))
theorem yF:∀(ps:List Pt) (xs:List (Int×Str)) (i:Nat) (p:Pt) (x:Int×Str),ps[i]?=some p→xs[i]?=some x→kH (ps.take (i+1)) xs=kH (ps.take i) xs++[prP p++arrS++x.2]
 | [],_,i,_,_,h,_=>by cases h
 | _::_,[],i,_,_,_,h=>by cases h
 | p::ps,x::xs,0,r,u,h,q=>by
  injection h with h;injection q with q;subst h;subst q;rw[As,B5,kH,B5];cases xs<;>(simp[kH])
 | p::ps,x::xs,i+1,r,u,h,q=>by
  rw[As,As,kH,kH,yF ps xs i r u h q];rfl
theorem aBm:∀{l:List Ex}{i:Nat}{e:Ex},l[i]?=some e→(fM l)[i]?=some (e.form,prE e)
 | _::_,0,_,h=>by injection h with h;subst h;rw[fM];rfl
 | _::l,i+1,e,h=>by rw[fM];exact aBm (l:=l) (i:=i) h
theorem vC:∀(ps:List Pt) (xs:List (Int×Str)),ps.length≤xs.length→(kH ps xs).length=ps.length
 | [],xs,_=>by cases xs<;>simp[kH]
 | p::ps,[],h=>by rw[κ,length_nil] at h;omega
 | p::ps,x::xs,h=>by rw[kH,κ,κ,vC ps xs (by rw[κ,κ] at h;omega)]
theorem aBl:∀l:List Ex,(fM l).length=l.length
 | []=>rfl
 | _::l=>by rw[fM,κ,κ,aBl l]
theorem aMc {k:Nat}(M:PES k) (hBS:PBS k):PES (k+1):=by
 intro x hk hP hO hW;obtain⟨f,pl,n,s,ks,ps,u,g⟩:=x;have hM:3000000000≤maxLen:=by decide
 have q:=kT _ hP;have hx0:∃X,X=Ex.mk f pl n s ks ps u g:=⟨_,rfl⟩
 obtain⟨X,hX⟩:=hx0;rw[esz] at hk;rw[exW] at hW q;obtain⟨hn,B,hg,r,hbp⟩:=hP;obtain⟨⟨hl1,hl2,hl3⟩,hsg,⟨ar1,ar2,ar3⟩,hps,y,hbs⟩:=hO;refine bM (n:=124) tok Tryz.func15 rfl rfl rfl ?_;refine sg rfl (aA (sg rfl (aE (sg rfl ?_))));rw[prE] at q ⊢;by_cases h3:f=3
 ·have d3:decide (f=3)=true:=χ h3;rw[ξ h3];have hi:=aI9 hn;refine aB rfl (fun _=>sk 2 rfl (kc hi ?_)) (fun hb=>Bool.noConfusion (hb.symm.trans d3));exact kz 1 rfl (aD rtT)
 have d3:decide (f=3)=false:=φ h3;rw[ζ h3] at q ⊢;refine aB rfl (fun hb=>Bool.noConfusion (hb.symm.trans d3)) (fun _=>sg rfl ?_);by_cases h4:f=4
 ·have d4:decide (f=4)=true:=χ h4;rw[ξ h4] at q ⊢;have h2:=ar1 h4
  match ks,h2 with
  | [a,b],_=>
   rw[aCo,aCo,aCo] at hk;rw[jX,jX,jX] at hW q;have ha:=M a (by omega) r.1 y.1 (by omega);have hb:=M b (by omega) r.2.1 y.2.1 (by omega);have la:=kT a r.1;have lb:=kT b r.2.1;have O:=aAe a;have U:=aAe b;have Y:=eO (prE a) (opn a.form) (by omega);have lba:=bU (opn a.form) (prE a);show AWp _ _ _ _ _ _ (mS _ (aSx _ _ _ _ _ fun ex st=>(ex=.normal∨ex=.ret)∧Fin _ _ st _ (Go.AM.T (brk (opn a.form) (prE a)++[32]++brk (opn b.form || decide (b.form=4)) (prE b))) _));refine aB rfl (fun _=>sgh [(2,.row 0 (cY a)),(6,.row 1 (cY b))] rfl ?_) (fun hb=>Bool.noConfusion (hb.symm.trans d4));cases hop:opn b.form with
   | true=>
    rw[hop] at U;rw[Bool.true_or];have hbb:=eO (prE b) true (by omega);have lbb:=bU true (prE b);generalize brk (opn a.form) (prE a)=A at *;generalize brk true (prE b)=B0 at *;refine sk 1 rfl (kc ha ?_);refine ak 1 [] rfl (kc O ?_);refine kc Y ?_;refine ak 2 [] rfl (kc hb ?_);refine ak 1 [] rfl (kc U ?_);refine ak 5 [(10,.bv true),(14,.bv true)] rfl (kc hbb ?_);exact kz 2 rfl (aD rtT)
   | false=>
    rw[hop] at U;rw[Bh];have hbb:=eO (prE b) (decide (b.form=4)) (by omega);have lbb:=bU (decide (b.form=4)) (prE b);generalize brk (opn a.form) (prE a)=A at *;generalize brk (decide (b.form=4)) (prE b)=B0 at *;refine sk 1 rfl (kc ha ?_);refine ak 1 [] rfl (kc O ?_);refine kc Y ?_;refine ak 2 [] rfl (kc hb ?_);refine ak 1 [] rfl (kc U ?_);refine ak 5 [(10,.bv false),(14,.bv false)] rfl (kc hbb ?_);exact kz 2 rfl (aD rtT)
 have d4:decide (f=4)=false:=φ h4;rw[ζ h4] at q ⊢;refine aB rfl (fun hb=>Bool.noConfusion (hb.symm.trans d4)) (fun _=>sg rfl ?_);by_cases h5:f=5
 ·have d5:decide (f=5)=true:=χ h5;rw[ξ h5] at q ⊢;have h2:=ar2 (.inl h5)
  match ks,h2 with
  | [a],_=>
   rw[aCo,aCo] at hk;rw[jX,jX] at hW q;have ha:=M a (by omega) r.1 y.1 (by omega);have la:=kT a r.1;have hpt:=aAd ps B hps hl2 (by omega);have lpt:=u6 B;have l2:aWq.length=2:=rfl;have l4:arrS.length=4:=rfl;show AWp _ _ _ _ _ _ (mS _ (aSx _ _ _ _ _ fun ex st=>(ex=.normal∨ex=.ret)∧Fin _ _ st _ (Go.AM.T (aWq++Lib.join (ps.map prP) [32]++arrS++prE a)) _));generalize Lib.join (ps.map prP) [32]=J at *;refine aB rfl (fun _=>sk 2 rfl (kc hpt ?_)) (fun hb=>Bool.noConfusion (hb.symm.trans d5));refine ak 6 [(7,.row 0 (cY a))] rfl (kc ha ?_);exact kz 2 rfl (aD rtT)
 have d5:decide (f=5)=false:=φ h5;rw[ζ h5] at q ⊢;refine aB rfl (fun hb=>Bool.noConfusion (hb.symm.trans d5)) (fun _=>sg rfl ?_);by_cases h6:f=6
 ·have d6:decide (f=6)=true:=χ h6;rw[ξ h6] at q ⊢;have h2:=ar2 (.inr (.inl h6))
  match ks,h2 with
  | [a],_=>
   rw[aCo,aCo] at hk;rw[jX,jX] at hW q;have ha:=M a (by omega) r.1 y.1 (by omega);have la:=kT a r.1;have hbd:=hBS u hl3 (by omega) hbp hbs (by omega);have lbn:=n6 u;have lbw:=u5 u hbp;have lbj:=join_le [32,59,32] (fP u);rw[show([32,59,32]:Str).length=3 from rfl] at lbj;have hbk:=qC (fP u) (by omega) (by omega);have lbk:=y2 (fP u);have l2:aWp.length=4:=rfl;have l4:inP.length=4:=rfl;show AWp _ _ _ _ _ _ (mS _ (aSx _ _ _ _ _ fun ex st=>(ex=.normal∨ex=.ret)∧Fin _ _ st _ (Go.AM.T (aWp++yM (fP u)++inP++prE a)) _));generalize yM (fP u)=J at *;refine aB rfl (fun _=>sk 2 rfl (kc hbd ?_)) (fun hb=>Bool.noConfusion (hb.symm.trans d6));refine kc hbk ?_;refine ak 6 [(8,.row 0 (cY a))] rfl (kc ha ?_);exact kz 2 rfl (aD rtT)
 have d6:decide (f=6)=false:=φ h6;rw[ζ h6] at q ⊢;refine aB rfl (fun hb=>Bool.noConfusion (hb.symm.trans d6)) (fun _=>sg rfl ?_);by_cases h7:f=7
 ·have d7:decide (f=7)=true:=χ h7;rw[ξ h7] at q ⊢;have h2:=ar3 h7;have hkA:(uP (.mk f pl n s ks ps u g)).length=ks.length:=by rw[uO,η];rfl
  have hkP:(ps.map cF).length=ps.length:=η _
  match ks,h2 with
  | [],h2=>rw[length_nil] at h2;omega
  | a::ks,h2=>
   have h2:ks.length=ps.length:=by rw[κ] at h2;omega
   rw[aCo] at hk;rw[jX] at hW q;have ha:=M a (by omega) r.1 y.1 (by omega);have la:=kT a r.1;have hxl:(fM ks).length=ks.length:=aBl ks;have lalt:=aJ7 ps (fM ks) B;have lkw:=zG ks r.2;have l5:aWw.length=5:=rfl;have l4:ofP.length=4:=rfl;have l4':arrS.length=4:=rfl;show AWp _ _ _ _ _ _ (mS _ (aSx _ _ _ _ _ fun ex st=>(ex=.normal∨ex=.ret)∧Fin _ _ st _ (Go.AM.T (aWw++prE a++ofP++yM (kH ps (fM ks)))) _));refine aB rfl (fun _=>sg rfl (AWp.sub (Sub.own (t:=5) (id:=500) 9 1 rfl rfl) ?_)) (fun hb=>Bool.noConfusion (hb.symm.trans d7));refine aA (sg rfl (aE (aP (fun i:Nat=>mk [(1,.one (.vp 1 0)),(5,.one (.hs 500 0 (kH (ps.take i) (fM ks)).length (kH (ps.take i) (fM ks)).length)),(72,.one (.c (.sl 10 (ps.map cF)))),(73,I .i64 ((ps.map cF).length:Nat)),(74,I .i64 (i:Nat))] [(1,.var 47 ((cY (.mk f pl n s (a::ks) ps u g)).map .c)),(500,.arr 9 1 ((kH (ps.take i) (fM ks)).map aR) 0)]) (fun i=>i≤ps.length) (fun i=>ps.length-i) 0 (Ae _) (sl (he:=⟨rfl,by rw[B5];cases fM ks<;>rfl,rfl,rfl,rfl,trivial⟩) (hh:=⟨⟨_,rfl,.var rfl⟩,⟨_,rfl,.arrS (by rw[B5];cases fM ks<;>rfl)⟩,trivial⟩)) ?_)));intro i hi;have hti:(ps.take i).length=i:=by rw[Ak];omega
   have hal:(kH (ps.take i) (fM ks)).length=i:=by rw[vC _ _ (by omega),hti]
   refine sg rfl (aA (aB rfl (fun hb=>?_) (fun hb=>?_)))
   ·have hlt:=ltD hb hkP;obtain⟨p,hp⟩:=aJ hlt;obtain⟨e,he⟩:=aJ (l:=ks) (k:=i) (by omega);have hp':=b9 cF hp;have he':(uP (.mk f pl n s (a::ks) ps u g))[i+1]?=some (cY e):=by rw[uO];exact b9 cY (show(a::ks)[i+1]?=some e from he)
    have aa:=Aa hp;have E:=Aa he;have wp:=pW aa;have we:=aCl E;have ze:=aIm E;have hcp:=mQ (psz p) p (le_refl _) (gU B p aa) (pX hps p aa) (by omega);have hce:=M e (by omega) (uM r.2 e E) (xF y.2 e E) (by omega);have lp:=wK p (gU B p aa);have le:=kT e (uM r.2 e E);have hsn:=yF ps (fM ks) i p (e.form,prE e) hp (aBm he);have hrow:((kH (ps.take i) (fM ks)).map aR)++[[.str (prP p++arrS++prE e)]]=(kH (ps.take (i+1)) (fM ks)).map aR:=by rw[hsn,Ah];rfl
    have hle:(kH (ps.take (i+1)) (fM ks)).length=(kH (ps.take i) (fM ks)).length+1:=by rw[hsn,ψ];rfl
    have hln:((kH (ps.take i) (fM ks)).map aR).length=(kH (ps.take i) (fM ks)).length:=η _;have hkA1:(uP (.mk f pl n s (a::ks) ps u g)).length=ks.length+1:=hkA;refine aF (aA (aE (sgh [(1,.row i (cF p))] rfl (aC mixed (ak 2 [] rfl (kc hcp ?_))))));refine akN 7 [(8,.row (i+1) (cY e))] rfl (kc hce ?_);exact ak 4 [(12,.all)] rfl (az (agN [] rfl ⟨i+1,hlt,by dsimp only;omega,sl (he:=⟨rfl,Go.AM.hs_ren (by rw[hle,←hln];rfl) (by rw[hle,←hln];rfl),rfl,rfl,rfl,trivial⟩) (hh:=⟨⟨_,rfl,.var rfl⟩,⟨_,rfl,.arrS hrow⟩,trivial⟩)⟩))
   ·have hge:=geD hb hkP hi;subst hge;refine aS ?_;rw[Aw];have laj:=join_le [32,59,32] (kH ps (fM ks));rw[show([32,59,32]:Str).length=3 from rfl] at laj;have hal2:(kH ps (fM ks)).length=ps.length:=vC ps (fM ks) (by omega);have hbk:=qC (kH ps (fM ks)) (by omega) (by omega);have lbk:=y2 (kH ps (fM ks));refine AWp.sub (Sub.freeze (id:=500) rfl) ?_;refine AWp.sub (st2:=mk [(1,.one (.vp 1 0)),(5,eG (kH ps (fM ks)))] [(1,.var 47 ((cY (.mk f pl n s (a::ks) ps u g)).map .c))]) ?_ ?_
    ·refine Sub.trans ?_ (cv 5 ((kH ps (fM ks)).map aR));exact sl
    generalize kH ps (fM ks)=J at *;refine skh 4 [(2,.row 0 (cY a))] rfl (kc ha ?_);refine ak 3 [] rfl (kc hbk ?_);exact kz 2 rfl (aD rtT)
 have d7:decide (f=7)=false:=φ h7;rw[ζ h7] at q ⊢;refine aB rfl (fun hb=>Bool.noConfusion (hb.symm.trans d7)) (fun _=>sg rfl ?_);by_cases h8:f=8
 ·have d8:decide (f=8)=true:=χ h8;rw[ξ h8] at q ⊢;have h2:=ar2 (.inr (.inr h8))
  match ks,h2 with
  | [a],_=>
   rw[aCo,aCo] at hk;rw[jX,jX] at hW q;have ha:=M a (by omega) r.1 y.1 (by omega);have la:=kT a r.1;have O:=aAe a;have Y:=eO (prE a) (opn a.form) (by omega);have lba:=bU (opn a.form) (prE a);have hsc:=oG hg (by omega);have lsc:=sF hg;have l3:uS.length=3:=rfl;show AWp _ _ _ _ _ _ (mS _ (aSx _ _ _ _ _ fun ex st=>(ex=.normal∨ex=.ret)∧Fin _ _ st _ (Go.AM.T (brk (opn a.form) (prE a)++uS++sG g)) _));generalize brk (opn a.form) (prE a)=A at *;refine aB rfl (fun _=>skh 4 [(2,.row 0 (cY a))] rfl (kc ha ?_)) (fun hb=>Bool.noConfusion (hb.symm.trans d8));refine ak 4 [(7,.row 0 (cY a))] rfl (kc O ?_);refine kc Y ?_;refine ak 3 [] rfl (kc hsc ?_);exact kz 2 rfl (aD rtT)
 have d8:decide (f=8)=false:=φ h8;rw[ζ h8] at q ⊢;exact aB rfl (fun hb=>Bool.noConfusion (hb.symm.trans d8)) (fun _=>aF (sg rfl (aD rtT)))
theorem kS:∀k,PES k∧PBS k
 | 0=>⟨fun e h=>by cases e;rw[esz] at h;omega,fun l hl h hP hB q=>by
   cases l with
   | nil=>exact aC9 (k:=0) (fun e h=>by cases e;rw[esz] at h;omega) [] hl (Ae _) hP hB q
   | cons b l=>cases b;rw[aR1,bsz] at h;omega⟩
 | k+1=>⟨aMc (kS k).1 (kS k).2,aC9 (kS k).1⟩
theorem aAh (e:Ex) (hP:exP e) (hO:oE e) (q:exW e≤400000000):bI Tryz.prog 15 [.pa (cY e)] [] (Go.AM.T (prE e)) []:=(kS (esz e)).1 e (le_refl _) hP hO q
theorem aRd (l:List Str) (hW:lU l≤900000000):bI Tryz.prog 27 [eG l] [] (Go.AM.T (Lib.join l [32,59,10])) []:=by
 have hM:3000000000≤maxLen:=by decide
 have y:(l.map aR).length=l.length:=η _;refine bM (n:=22) tok Tryz.func27 rfl rfl rfl ?_;refine sg rfl (sg rfl (aA (sg rfl (aE (aP (fun i:Nat=>mk [(0,eG l),(3,Go.AM.T (Lib.join (l.take i) [32,59,10])),(4,I .i64 (i:Nat))] []) (fun i=>i≤l.length) (fun i=>l.length-i) 0 (Ae _) sl ?_)))));intro i hi;refine aA (sg rfl (aB rfl (fun hb=>?_) (fun hb=>?_)))
 ·have r:=ltD hb y;obtain⟨s,hs⟩:=aJ r;have U:=b9 aR hs;have Y:=aA5 (Aa hs);have q:=aH5 (sep:=[32,59,10]) hs;have A:=le_trans (eW (sep:=[32,59,10]) (by decide) (l.take i)) (vW l i);have aa:i≤300000000:=by
   have:=kI l;omega
  generalize M:Lib.join (l.take i) [32,59,10]=J at q A ⊢;refine aF (aA (aE (aA (sg rfl ?_))));by_cases h0:i=0
  ·subst h0;have B:J=[]:=by rw[←M];rfl
   rw[ξ rfl] at q;have u:Lib.join (l.take 1) [32,59,10]=J++s:=by rw[B,show l.take 1=l.take (0+1) from rfl,q]
   have O:J.length+s.length≤maxLen:=by omega
   exact aB rfl (fun hb=>by simp at hb) (fun _=>aF (ag [(3,.row 0 (aR s))] rfl (agN [] rfl ⟨1,r,by dsimp only;omega,sl (he:=⟨rfl,by rw[u];rfl,rfl,trivial⟩)⟩)))
  ·rw[ζ h0] at q;have q1:(J++[32,59,10]).length≤900000005:=by rw[ψ];show _+3≤_;omega
   have q2:J.length+([32,59,10]:Str).length≤maxLen:=by show _+3≤_;omega
   have O:(J++[32,59,10]).length+s.length≤maxLen:=by omega
   exact aB rfl (fun _=>ag [] rfl (ag [(3,.row i (aR s))] rfl (agN [] rfl ⟨i+1,r,by dsimp only;omega,sl (he:=⟨rfl,by rw[q];rfl,rfl,trivial⟩)⟩))) (fun hb=>by have:=Ai hb;omega)
 ·have E:=geD hb y hi;subst E;refine aS ?_;rw[Aw];exact sg rfl (aD rtT)
inductive MkT (l:List Int):Nat→List Str→Nat→List Str→Nat→Prop
 | z (A:List Str) (i:Nat):MkT l 0 A i A i
 | s {n:Nat} {A:List Str} {i j:Nat} {s:Str} {A':List Str} {j':Nat} (hs:s.length≤40000) (hc:bI Tryz.prog 26 [tkP] [(750,tkO l i)] (Go.AM.T s) [(750,tkO l j)]) (k:MkT l n (A++[s]) j A' j'):MkT l (n+1) A i A' j'
theorem MkT.ex {l:List Int}(hl:sB l) (r:l.length≤1000):∀(n:Nat) (A:List Str) (i:Nat),i≤l.length→(∀s∈A,LD s)→∃(A':List Str) (j:Nat),MkT l n A i A' j∧A'.length=A.length+n∧(∀s∈A',LD s)∧lU A'+30*(l.length-j)≤lU A+30*(l.length-i)+38*n
 | 0,A,i,_,q=>⟨A,i,.z A i,rfl,q,le_refl _⟩
 | n+1,A,i,hi,q=>by
  obtain⟨s,j,hs,u,hc⟩:=aU2 l hl r i hi;have E:=hs.1;have I:=hs.le
  obtain⟨A',j',h1,h2,y,B⟩:=MkT.ex hl r n (A++[s]) j u (fun x hx=>by
   rcases A2.1 hx with hx | hx
   ·exact q x hx
   ·rw[Ar.1 hx];exact hs.2)
  rw[iH,show lU [s]=s.length+3+0 from rfl] at B;exact⟨A',j',.s (by omega) hc h1,by rw[h2,ψ];show A.length+1+n=_;omega,y,by omega⟩
theorem MkT.zero {l:List Int}{A A':List Str}{i j:Nat}(k:MkT l 0 A i A' j):A=A'∧i=j:=by cases k;exact⟨rfl,rfl⟩
theorem aU4 (l:List Int) (hl:sB l) (hf:Fits l):∃s:Str,s.length≤4000∧LD s∧bI Tryz.prog 5 [.one (.c (.sl 1 (l.map lN)))] [] (Go.AM.T s) []:=by
 have hM:3000000000≤maxLen:=by decide
 have ho:=aZr l 120 hf (by decide);have r:sB (l.take 120):=fun x hx=>hl x (By hx)
 have y:(l.take 120).length≤120:=by rw[Ak];omega
 generalize l.take 120=L at ho r y;obtain⟨v,B,hv,E,J⟩:=aU1 L r (by omega) 0 (Ae _) 7 (by decide) (by decide);obtain⟨A1,j2,q,M,O,U⟩:=MkT.ex r (by omega) (v+1) [] B E (fun x hx=>by cases hx);rw[show lU []=0 from rfl] at U;rw[length_nil] at M;have Y:=aRd A1 (by omega);have hjl:=eW (sep:=[32,59,10]) (by decide) A1;refine⟨Lib.join A1 [32,59,10],by omega,LD.join A1 O,?_⟩;refine bM (n:=21) tok Tryz.func5 rfl rfl rfl ?_;refine sg rfl (sk 1 rfl (kc ho ?_));refine kz 1 rfl (sg rfl (AWp.sub (Sub.own (t:=4) (id:=500) 9 1 rfl rfl) ?_));refine aA (sk 1 rfl (kc J ?_));refine kz 1 rfl (aE (aP (fun x:Nat×List Str×Nat=>mk [(3,tkP),(4,.one (.hs 500 0 (x.2.1.map aR).length (x.2.1.map aR).length)),(5,I .i64 ((x.1:Nat)-1:Int))] [(500,.arr 9 1 (x.2.1.map aR) 0),(750,tkO L x.2.2)]) (fun x=>x.1≤7∧x.1+x.2.1.length≤40∧MkT L x.1 x.2.1 x.2.2 A1 j2) (fun x=>x.1) (v+1,[],B) ⟨by dsimp only;omega,by dsimp only;rw[length_nil];omega,q⟩ (sl (he:=⟨rfl,rfl,by rw[show((v+1:Nat):Int)-1=(v:Nat) by omega];rfl,trivial⟩)) ?_));rintro⟨n,A,i⟩ ⟨hn,aa,q⟩;dsimp only at hn aa q ⊢;have hkA:(A.map aR).length=A.length:=η _;refine aA (sg rfl (aB rfl (fun hb=>?_) (fun hb=>?_)))
 ·have h0:0<n:=by have:=ω hb;omega
  obtain⟨n,rfl⟩:∃m,n=m+1:=⟨n-1,by omega⟩
  cases q with
  | @s _ _ _ j s _ _ hs hc q=>
  have u:(A.map aR)++[[.str s]]=(A++[s]).map aR:=by rw[Ah];rfl
  have hle:((A++[s]).map aR).length=(A.map aR).length+1:=by rw[←u,ψ];rfl
  refine aF (aA (aE (aC mixed (ak 2 [] rfl (kc hc ?_)))));exact ak 3 [(3,.all)] rfl (az (ag [] rfl ⟨(n,A++[s],j),⟨by dsimp only;omega,by dsimp only;rw[ψ];show n+(A.length+1)≤40;omega,q⟩,by dsimp only;omega,sl (he:=⟨rfl,Go.AM.hs_ren (by rw[hle];rfl) (by rw[hle];rfl),by rw[show((n:Nat):Int)-1=((n+1:Nat):Int)-1-1 by omega];rfl,trivial⟩) (hh:=⟨⟨_,rfl,.arrS u⟩,⟨_,rfl,Go.AM.Ole.var rfl⟩,trivial⟩)⟩))
 have ab:n=0:=by have:=Ai hb;omega
 subst ab;obtain⟨rfl,rfl⟩:=q.zero;refine aS (AWp.sub (Sub.freeze (id:=500) rfl) ?_);refine AWp.sub (st2:=mk [(4,eG A)] [(750,tkO L i)]) ?_ ?_
 ·refine Sub.trans ?_ (cv 4 (A.map aR));exact sl
 refine sk 1 rfl (kc Y ?_);exact kz 1 rfl (aD rtT)
def FB (b:Str):Prop:=b=[]∨∃d b',b=d::b'∧sgB d.toNat=false∧¬d=62
theorem FB.d {b:Str}(h:FB b):dlm b:=by
 rcases h with h | ⟨d,q,e,h1,_⟩
 ·exact .inl h
 ·exact .inr ⟨d,q,e,h1⟩
def LxF (a:Str) (ts:List Tk):Prop:=∀b us,FB b→Lxs b us→Lxs (a++b) (ts++us)
theorem x4 {p:Nat→Bool}(hp:∀c:UInt8,p c.toNat=true→sgB c.toNat=true) {b:Str}(hb:dlm b):∀s:Str,cN p (s.take (cN p s)++b)=cN p s
 | []=>nB hp hb []
 | c::s=>by
  rw[cN];by_cases h:p c.toNat=true
  ·rw[ξ h,As,Ap,cN,ξ h,x4 hp hb s]
  ·rw[ζ h,B5];exact nB hp hb []
theorem tM {n:Nat}{s b:Str}(h:n≤s.length):(s.take n++b).take n=s.take n:=by
 rw[Bo (by rw[Ak];omega),take_take,Nat.min_self]
theorem aPc:∀d:UInt8,¬d=62→oP [61,d]=[61]:=iM (p:=fun d=>¬d=62→oP [61,d]=[61]) (by decide+kernel)
theorem aF4 {t b:Str}(ht:t∈yJ) (hb:FB b):oP (t++b)=t∧preB [45,45] (t++b)=false:=by
 have q:t∈nY→oP (t++b)=t∧preB [45,45] (t++b)=false:=fun h=>by
  have:∀t∈nY,t.length=1:=by decide
  obtain⟨c,rfl⟩:=List.length_eq_one_iff.1 (this t h);have:=pU b h;exact⟨this.1,this.2.1⟩
 have hc:t=[45,62]∨t=[61,62]∨t=[61]∨t∈nY:=by
  have:∀t∈yJ,t=[45,62]∨t=[61,62]∨t=[61]∨t∈nY:=by decide
  exact this t ht
 rcases hc with rfl | rfl | rfl | h
 ·exact⟨(mW b (by decide)).trans (by kernel_rfl),(lJ b (by decide)).trans (by kernel_rfl)⟩
 ·exact⟨(mW b (by decide)).trans (by kernel_rfl),(lJ b (by decide)).trans (by kernel_rfl)⟩
 ·rcases hb with rfl | ⟨d,r,rfl,_,u⟩
  ·exact⟨by kernel_rfl,by kernel_rfl⟩
  ·refine⟨(mW (s:=[61,d]) r (le_refl 2)).trans (aPc d u),(lJ (x:=[45,45]) (s:=[61,d]) r (le_refl 2)).trans ?_⟩;unfold preB;rw[Bool.and_eq_false_iff];refine .inr (φ fun e=>?_);rw[show([45,45]:Str).length=1+1 from rfl,As] at e;injection e with e _;cases e
 ·exact q h
theorem aTb {c:Nat}(h:wiB c 97 122=true):sgB c=true:=by
 have:=aGc c;rw[h] at this;simpa using this
theorem aTa {c:Nat}(h:wiB c 65 90=true):sgB c=true:=by
 have:=aGb c;rw[h] at this;simpa using this
theorem aHl {c:UInt8}{r b:Str}{k:Int}{t:Str}{v:Int}(hb:FB b) (h:fQ (c::r)=.ok (k,t,v)):(∃y,t=c::y)∧fQ (t++b)=.ok (k,t,v)∧preB [45,45] (t++b)=false:=by
 have M:∀(s:Str),¬c=45→preB [45,45] (c::s)=false:=fun s hc=>by
  unfold preB;rw[Bool.and_eq_false_iff];refine .inr (φ fun e=>?_);rw[show([45,45]:Str).length=1+1 from rfl,As] at e;injection e with e _;exact hc e
 have A:∀p:Nat→Bool,(∀c:UInt8,p c.toNat=true→sgB c.toNat=true)→p c.toNat=true→(c::r).take (cN p (c::r))=c::r.take (cN p r)∧cN p (c::(r.take (cN p r)++b))=cN p (c::r)∧(c::(r.take (cN p r)++b)).take (cN p (c::r))=c::r.take (cN p r):=fun p hp hc=>by
  have h1:=x4 hp hb.d (c::r);have h2:=tM (n:=cN p (c::r)) (s:=c::r) (b:=b) (iR p (c::r));have q:(c::r).take (cN p (c::r))=c::r.take (cN p r):=by rw[cN,ξ hc,As]
  rw[q] at h1 h2;exact⟨q,h1,h2⟩
 have O:sgB c.toNat=true→¬c=45:=fun h e=>by subst e;exact Bool.noConfusion h
 rw[fQ] at h;by_cases u:dgB c.toNat=true
 ·rw[ξ u] at h;obtain⟨q,h1,h2⟩:=A dgB aQv u;split at h
  ·cases h
  ·rename_i hk;injection h with h;injection h with e1 h;injection h with B J;rw[q] at B hk J;subst B;refine⟨⟨_,rfl⟩,?_,M _ (O (aQv c u))⟩;rw[Ap,fQ,ξ u,h1,h2,ζ hk,e1,J]
 rw[ζ u] at h;by_cases hn:wiB c.toNat 97 122=true∨wiB c.toNat 65 90=true
 ·rw[ξ hn] at h;have U:sgB c.toNat=true:=by
   rcases hn with h | h
   ·exact aTb h
   ·exact aTa h
  obtain⟨q,h1,h2⟩:=A sgB (fun _ h=>h) U;have ht:t=c::r.take (cN sgB r):=by
   unfold n8 at h;rw[q] at h;split at h
   ·cases h
   split at h
   ·cases h;rfl
   split at h
   ·cases h;rfl
   ·cases h;rfl
  subst ht;refine⟨⟨_,rfl⟩,?_,M _ (O U)⟩;rw[Ap,fQ,ζ u,ξ hn];unfold n8 at h ⊢;rw[h1,h2];rw[q] at h;exact h
 rw[ζ hn] at h;split at h
 ·cases h
 rename_i hy;injection h with h;injection h with e1 h;injection h with B J;have E:t∈yJ∧preB t (c::r)=true:=by
  rw[←B];unfold oP at hy ⊢;cases hf:yJ.find? fun x=>preB x (c::r) with
  | none=>rw[hf] at hy;exact absurd rfl hy
  | some x=>exact⟨List.mem_of_find?_eq_some hf,List.find?_some (p:=fun x=>preB x (c::r)) hf⟩
 obtain⟨E,I⟩:=E;have Y:∃y,t=c::y:=by
  cases t with
  | nil=>exact absurd B hy
  | cons d y=>
   unfold preB at I;rw[Ab] at I;have e:=ω I.2;rw[κ,As] at e;injection e with e _;exact⟨y,by rw[e]⟩
 obtain⟨h1,h2⟩:=aF4 E hb;refine⟨Y,?_,h2⟩;obtain⟨y,rfl⟩:=Y;rw[Ap] at h1 ⊢;rw[fQ,ζ u,ζ hn,h1,ζ (fun k=>by cases k),e1,J]
theorem aFy {c:UInt8}{r:Str}{k:Int}{t:Str}{v:Int}(h:fQ (c::r)=.ok (k,t,v)):LxF t [⟨k,t,v,0⟩]:=fun b us hb hs f at' y=>by
 obtain⟨⟨u,rfl⟩,h1,h2⟩:=aHl hb h;rw[Ap] at h1 h2 y ⊢;rw[κ,ψ] at y;obtain⟨f,rfl⟩:∃g,f=g+1:=⟨f-1,by omega⟩
 have q:¬blB c.toNat=true:=fun q=>by
  have:c=32∨c=9∨c=10:=by
   unfold blB at q;rcases ω q with h | h | h
   ·exact .inl (UInt8.toNat_inj.1 h)
   ·exact .inr (.inl (UInt8.toNat_inj.1 h))
   ·exact .inr (.inr (UInt8.toNat_inj.1 h))
  have he:∀s:Str,fQ (c::s)=.error 10:=fun s=>by
   have hy:oP (c::s)=[]:=by rcases this with rfl | rfl | rfl<;>simp[oP,yJ,preB]
   rw[fQ,ζ (by rcases this with rfl | rfl | rfl<;>decide),ζ (by rcases this with rfl | rfl | rfl<;>decide),hy,ξ rfl]
  rw[he] at h;cases h
 have hB:eX (c::(u++b))=0:=by
  unfold eX;dsimp only;rw[ζ q,ζ (by rw[h2];exact π)]
 rw[jA,hB,ζ (lt_irrefl 0),h1];dsimp only;rw[uB,show(c::(u++b)).drop (c::u).length=b by rw[←Ap,List.drop_left],hs f _ (by omega)];rfl
def aFj:List Str:=[[32],[10],[32,32],[9],[32,45,45,32,97,32,98,10],[45,45,10],[10,10]]
theorem eV {c:UInt8}(hc:blB c.toNat=true) {b:Str}{us:List Tk}(h:Lxs b us):Lxs (c::b) us:=fun f at' q=>by
 rw[κ] at q;obtain⟨f,rfl⟩:∃g,f=g+1:=⟨f-1,by omega⟩
 have hB:eX (c::b)=1:=by unfold eX;exact ξ hc
 rw[jA,hB,ξ (by decide)];exact h f _ (by show b.length≤f;omega)
theorem aB2 {s b:Str}{n:Nat}{us:List Tk}(hB:eX (45::s++b)=n+1) (q:(45::s++b).drop (n+1)=b) (h:Lxs b us):Lxs (45::s++b) us:=fun f at' r=>by
 rw[Ap] at hB q r ⊢;rw[κ,ψ] at r;obtain⟨f,rfl⟩:∃g,f=g+1:=⟨f-1,by omega⟩
 rw[jA,hB,ξ (by omega),q];exact h f _ (by omega)
theorem aN9 {g:Str}(r:g∈aFj) {b:Str}{us:List Tk}(h:Lxs b us):Lxs (g++b) us∧FB (g++b):=by
 have hn:Lxs ([10]++b) us:=eV (c:=10) rfl h;have q:∀s:Str,(s=[45]∨s=[45,32,97,32,98])→Lxs (45::s++([10]++b)) us:=fun s hs=>by
  rcases hs with rfl | rfl
  ·exact aB2 (n:=1) rfl rfl hn
  ·exact aB2 (n:=5) rfl rfl hn
 unfold aFj at r;simp only[Aq,not_mem_nil,or_false] at r;rcases r with rfl | rfl | rfl | rfl | rfl | rfl | rfl
 ·exact⟨eV (c:=32) rfl h,.inr ⟨_,_,rfl,rfl,by decide⟩⟩
 ·exact⟨eV (c:=10) rfl h,.inr ⟨_,_,rfl,rfl,by decide⟩⟩
 ·exact⟨eV (c:=32) rfl (eV (c:=32) rfl h),.inr ⟨_,_,rfl,rfl,by decide⟩⟩
 ·exact⟨eV (c:=9) rfl h,.inr ⟨_,_,rfl,rfl,by decide⟩⟩
 ·exact⟨eV (c:=32) rfl (q _ (.inr rfl)),.inr ⟨_,_,rfl,rfl,by decide⟩⟩
 ·exact⟨q _ (.inl rfl),.inr ⟨_,_,rfl,rfl,by decide⟩⟩
 ·exact⟨eV (c:=10) rfl (eV (c:=10) rfl h),.inr ⟨_,_,rfl,rfl,by decide⟩⟩
def aEx:List Tk→List Str→Str
 | t::l,g::gs=>t.text++g++aEx l gs
 | _,_=>[]
theorem aXg:∀(f a:Nat) (s:Str) (L:List Tk),s.length≤f→jA f a s=.ok L→∀gs:List Str,gs.length=L.length→(∀g∈gs,g∈aFj)→Lxs (aEx L gs) (L.map tk0):=by
 have last:∀(a:Nat) (gs:List Str),gs.length=1→(∀g∈gs,g∈aFj)→Lxs (aEx [⟨6,[],0,(a:Int)⟩] gs) ([⟨6,[],0,(a:Int)⟩].map tk0):=fun a gs q hm=>by
  match gs,q with
  | [g],_=>
   have:=(aN9 (hm g (.head _)) Lxs.nil).1
   show Lxs ([]++g++[]) [rF];exact this
 intro f
 induction f with
 | zero=>
  intro a s L hs h gs q hm;rw[jA] at h;cases h;exact last a gs q hm
 | succ f u=>
  intro a s L hs h gs q hm;cases s with
  | nil=>
   rw[jA] at h;cases h;exact last a gs q hm
  | cons c r=>
   rw[κ] at hs;rw[jA] at h;split at h
   ·rename_i h0;exact u _ _ L (by rw[Be,κ];omega) h gs q hm
   ·cases ho:fQ (c::r) with
    | error e=>rw[ho] at h;cases h
    | ok p=>
     obtain⟨k,t,v⟩:=p;rw[ho] at h;dsimp only at h;have y:=lK ho;cases hq:jA f (a+t.length) ((c::r).drop t.length) with
     | error e=>rw[hq] at h;cases h
     | ok L'=>
      rw[hq] at h;have h:(⟨k,t,v,(a:Int)⟩:Tk)::L'=L:=by injection h
      subst h
      match gs,q with
      | g::gs,q=>
       have hi:=u _ _ L' (by rw[Be,κ];omega) hq gs (by simpa using q) fun x hx=>hm x (.tail _ hx)
       obtain⟨g1,g2⟩:=aN9 (hm g (.head _)) hi;rw[aEx,Aj];exact aFy ho _ _ g2 g1
theorem aGe {s out:Str}{L:List Tk}(h:lexA s=.ok L) (hx:Lxs out (L.map tk0)) (hl:out.length≤4000):(cC out).2.1=(cC s).2.1∧pg0 (cC out).1=pg0 (cC s).1:=by
 obtain⟨L',r,e⟩:=hx.lexA hl;have t1:=aS4 L;have t2:=aS4 L';rw[e,t1] at t2;injection t2 with u y;have q:(yR L).2.e=(yR L').2.e:=(show(zz0 (yR L).2).e=(zz0 (yR L').2).e by rw[y])
 rw[wJ h,wJ r];by_cases h0:(yR L).2.e=0
 ·rw[ξ h0,ξ (by rw[←q];exact h0)];exact⟨q.symm,u.symm⟩
 ·rw[ζ h0,ζ (by rw[←q];exact h0)];exact⟨q.symm,rfl⟩
theorem aE4 {s:Str}{L:List Tk}(h:lexA s=.ok L) {gs:List Str}(q:gs.length=L.length) (hm:∀g∈gs,g∈aFj) (hl:(aEx L gs).length≤4000):(cC (aEx L gs)).2.1=(cC s).2.1∧aHh (cC (aEx L gs)).1=aHh (cC s).1:=by
 have hq:jA s.length 0 s=.ok L:=by
  unfold lexA at h;split at h
  ·cases h
  ·exact h
 obtain⟨h1,h2⟩:=aGe h (aXg s.length 0 s L (le_refl _) hq gs q hm) hl;refine⟨h1,?_⟩;rw[←aNu,h2,aNu]
theorem aQq {α:Type}(f:α→Str) {l:List α}{i:Nat}{x:α}(h:l[i]?=some x):(l.take (i+1)).flatMap f=(l.take i).flatMap f++f x:=by rw[cU h,List.flatMap_append,List.flatMap_cons,List.flatMap_nil,Bm]
theorem aAz:∀{l:List Ty}{t:Ty},t∈l→tyW t≤rQ l
 | a::l,t,h=>by
  rw[rQ];rcases Aq.1 h with rfl | h
  ·omega
  ·have:=aAz h;omega
theorem vP:∀(l:List Ty) (i:Nat),rQ (l.take i)≤rQ l
 | [],i=>by rw[take_nil];exact le_refl _
 | a::l,0=>Ae _
 | a::l,i+1=>by have:=vP l i;rw[As,rQ,rQ];omega
theorem aCy:∀{l:List Cn}{c:Cn},c∈l→c.name.length+16+rQ c.fields≤vJ l
 | a::l,t,h=>by
  rw[vJ];rcases Aq.1 h with rfl | h
  ·omega
  ·have:=aCy h;omega
theorem aYt (d:Dt) (hP:∀c∈d.cons,∀t∈c.fields,PT t) (hv:d.vars.length≤5000) (hc:d.cons.length≤5000) (hf:∀c∈d.cons,c.fields.length≤5000) (hW:dtW d≤100000000):bI Tryz.prog 34 [.pa (iG d)] [] (Go.AM.T (prD d)) []:=by
 have hM:3000000000≤maxLen:=by decide
 obtain⟨q,pl,vs,cs⟩:=d;dsimp only at hP hv hc hf;unfold dtW at hW;dsimp only at hW;have hk:(cs.map mO).length=cs.length:=η _;have hkv:(vs.map aR).length=vs.length:=η _;have h4:=eW (sep:=aWz) (by decide) (cs.map zH);have h1:=zZ cs hP;have h2:=qN vs;have h3:=eW (sep:=[32]) (by decide) ([fV,q]++vs);rw[iH,show lU [fV,q]=7+(q.length+3+0) from rfl] at h3;have hj1:=rI ([fV,q]++vs) [32] (by rw[ψ];show 2+vs.length≤_;omega) (by omega);have hj2:=rI (cs.map zH) aWz (by rw[η];omega) (by omega);refine bM (n:=47) tok Tryz.func34 rfl rfl rfl ?_;refine sg rfl (sg rfl (AWp.sub (Sub.own (t:=3) (id:=500) 9 1 rfl rfl) ?_));refine aA (sg rfl (aE (aP (fun i:Nat=>mk [(1,.one (.vp 1 0)),(3,.one (.hs 500 0 (cs.take i).length (cs.take i).length)),(10,.one (.c (.sl 3 (cs.map mO)))),(11,I .i64 ((cs.map mO).length:Nat)),(12,I .i64 (i:Nat))] [(1,.var 81 ((iG ⟨q,pl,vs,cs⟩).map .c)),(500,.arr 9 1 (((cs.take i).map zH).map aR) 0)]) (fun i=>i≤cs.length) (fun i=>cs.length-i) 0 (Ae _) sl ?_)));intro i hi;have hti:(cs.take i).length=i:=by rw[Ak];omega
 refine sg rfl (aA (aB rfl (fun hb=>?_) (fun hb=>?_)))
 ·have O:=ltD hb hk;obtain⟨c,y⟩:=aJ O;have hc':=b9 mO y;have A:=Aa y;have hcw:=aCy A;have hcf:=hf c A;have u:=hP c A;have U:(((cs.take i).map zH).map aR).length=(cs.take i).length:=by rw[η,η]
  have Y:cs.take (i+1)=cs.take i++[c]:=cU y;have aa:(cs.take (i+1)).length=(cs.take i).length+1:=by rw[Y,ψ];rfl
  have B:(((cs.take i).map zH).map aR)++[[.str (c.name++c.fields.flatMap fun t=>[32]++eZ t)]]=((cs.take (i+1)).map zH).map aR:=by rw[Y,Ah,Ah];rfl
  obtain⟨r,cp,fs⟩:=c;dsimp only at hcw hcf u B;have ab:(fs.map bG).length=fs.length:=η _;refine aF (aA (aE (sgh [(0,.row i (mO ⟨r,cp,fs⟩))] rfl (sg rfl (aA (sg rfl (aE (aP (fun k:Nat=>mk [(1,.one (.vp 1 0)),(3,.one (.hs 500 0 (cs.take i).length (cs.take i).length)),(6,Go.AM.T (r++(fs.take k).flatMap fun t=>[32]++eZ t)),(10,.one (.c (.sl 3 (cs.map mO)))),(11,I .i64 ((cs.map mO).length:Nat)),(12,I .i64 (i:Nat)),(19,.one (.c (.sl 4 (fs.map bG)))),(20,I .i64 ((fs.map bG).length:Nat)),(21,I .i64 (k:Nat))] [(1,.var 81 ((iG ⟨q,pl,vs,cs⟩).map .c)),(500,.arr 9 1 (((cs.take i).map zH).map aR) 0)]) (fun k=>k≤fs.length) (fun k=>fs.length-k) 0 (Ae _) (by rw[B5,List.flatMap_nil,Bm];exact sl) ?_))))))));intro k hk2;refine sg rfl (aA (aB rfl (fun E=>?_) (fun E=>?_)))
  ·have J:=ltD E ab;obtain⟨t,ht⟩:=aJ J;have ht':=b9 bG ht;have M:=Aa ht;have htw:=aAz M;have hsm:=aC8 (u t M) (by omega);have hsl:=pV (u t M);have hfl:=rB (fs.take k) fun x hx=>u x (By hx)
   have hft:=vP fs k;have ac:r++((fs.take (k+1)).flatMap fun t=>[32]++eZ t)=(r++(fs.take k).flatMap fun t=>[32]++eZ t)++([32]++eZ t):=by rw[aQq (fun t=>[32]++eZ t) ht,Aj]
   have hXl:(r++(fs.take k).flatMap fun t=>[32]++eZ t).length≤r.length+rQ fs:=by rw[ψ];omega
   have hsl2:([32]++eZ t).length≤tyW t+3:=by rw[ψ];show 1+_≤_;omega
   have h32:([32]:Str).length=1:=rfl;generalize hX:(r++(fs.take k).flatMap fun t=>[32]++eZ t)=X at hXl ac ⊢;refine aF (aA (aE (sgh [(0,.row k (bG t))] rfl (aC mixed (ak 2 [] rfl (kc hsm ?_))))));exact kz 3 rfl (agN [] rfl ⟨k+1,J,by dsimp only;omega,sl (he:=⟨rfl,rfl,by rw[ac];rfl,rfl,rfl,rfl,rfl,rfl,rfl,trivial⟩)⟩)
  ·have ad:=geD E ab hk2;subst ad;refine aS ?_;rw[Aw];exact ag [(2,.all)] rfl (agN [] rfl ⟨i+1,O,by dsimp only;omega,sl (he:=⟨rfl,Go.AM.hs_ren (by rw[aa,←U];rfl) (by rw[aa,←U];rfl),rfl,rfl,rfl,trivial⟩) (hh:=⟨⟨_,rfl,Go.AM.Ole.var rfl⟩,⟨_,rfl,.arrS B⟩,trivial⟩)⟩)
 ·have hge:=geD hb hk hi;subst hge;refine aS ?_;rw[Aw];have hn0:((cs.map zH).map aR).length=cs.length:=by rw[η,η]
  refine AWp.sub (Sub.freeze (id:=500) rfl) ?_;refine AWp.sub (st2:=mk [(1,.one (.vp 1 0)),(3,eG (cs.map zH))] [(1,.var 81 [.c (.str q),.c (.int .i64 pl),.c (.sl 1 (vs.map aR)),.c (.sl 1 []),.c (.sl 3 (cs.map mO))])]) ?_ ?_
  ·refine Sub.trans ?_ (cv 3 ((cs.map zH).map aR));exact sl
  have hr1:([[C.str [100,97,116,97]],[C.str q]]:List (List C))++vs.map aR=([fV,q]++vs).map aR:=rfl;have hjl:(Lib.join ([fV,q]++vs) [32]++[32,61,32]).length≤1000000000:=by rw[ψ];show _+3≤_;omega
  have hr2:([[C.str [100,97,116,97]],[C.str q]]:List (List C)).length+(vs.map aR).length=(([fV,q]++vs).map aR).length:=by rw[←hr1,ψ]
  refine skh 6 [(2,.id 501),(5,.fz)] rfl (kc hj1 ?_);refine ak 2 [] rfl (kc hj2 ?_);exact kz 2 rfl (aD rtT)
theorem aDa (l:List Bd) (hl:l.length≤4002) (hP:pF l) (hB:eY l) (q:iN l≤400000000):bI Tryz.prog 38 [.one (.c (.sl 33 (l.map bL)))] [] (eG (fP l)) []:=by
 have:=(kS (aR1 l)).2 l hl (le_refl _) hP hB q;rwa [jD] at this
theorem aYs (x:In) (hq:∀q∈x.preds,PT q.ty) (hp:x.preds.length≤5000) (hv:x.vars.length≤5000) (hl:x.binds.length≤4002) (hP:pF x.binds) (hB:eY x.binds) (M:inW x≤100000000):bI Tryz.prog 36 [.pa (jC x)] [] (Go.AM.T (prI x)) []:=by
 have hM:3000000000≤maxLen:=by decide
 have r:=aNv hq hP;obtain⟨E,pl,u,vs,ps,y⟩:=x;unfold inW at M r;dsimp only at hq hp hv hl hP hB M r;have O:(vs.map aR).length=vs.length:=η _;have h4:=qN vs;have U:=eW (sep:=[32]) (by decide) ([u]++vs);rw[iH,show lU [u]=u.length+3+0 from rfl] at U;have Y:=rI ([u]++vs) [32] (by rw[ψ];show 1+vs.length≤_;omega) (by omega);have hc:=oH ps hq (by omega) (by omega);have aa:=sY hq;generalize hJ:Lib.join ([u]++vs) [32]=J at U Y;have hb:=eO J (decide ((0:Int)<((vs.map aR).length:Nat))) (by omega);have ab:=bU (decide ((0:Int)<((vs.map aR).length:Nat))) J;have ac:decide (0<vs.length)=decide ((0:Int)<((vs.map aR).length:Nat)):=by
  rw[O];by_cases h:0<vs.length
  ·rw[χ h,χ (by omega)]
  ·rw[φ h,φ (by omega)]
 have B:=aDa y hl hP hB (by omega);have hbs:=uY hP;have ad:=uX (fP y);have hpl:=n6 y;have hjb:=eW (sep:=[32,59,32]) (by decide) (fP y);have A:=qC (fP y) (by omega) (by omega);have I:prI ⟨E,pl,u,vs,ps,y⟩=aX8++aIt ps++E++[32]++brk (decide ((0:Int)<((vs.map aR).length:Nat))) J++[32]++yM (fP y):=by
  unfold prI;dsimp only;rw[ac,hJ]
 rw[I] at r ⊢;generalize aIt ps=CX at hc aa r ⊢;generalize brk (decide ((0:Int)<((vs.map aR).length:Nat))) J=BJ at hb ab r ⊢;generalize yM (fP y)=BK at A ad r ⊢;generalize fP y=PB at B A;simp only[ψ,κ,length_nil] at r;refine bM (n:=32) tok Tryz.func36 rfl rfl rfl ?_;refine sg rfl (AWp.sub (st2:=mk [(1,.one (.vp 1 0))] [(1,.var 90 [.c (.str E),.c (.int .i64 pl),.c (.str u),.c (.sl 1 (vs.map aR)),.c (.sl 5 (ps.map aQ)),.c (.sl 33 (y.map bL))])]) sl ?_);have ae:([[C.str u]]:List (List C))++vs.map aR=([u]++vs).map aR:=rfl;have hr2:([[C.str u]]:List (List C)).length+(vs.map aR).length=(([u]++vs).map aR).length:=by rw[←ae,ψ]
 refine skh 6 [(2,.id 501),(5,.fz)] rfl (kc Y ?_);refine kz 1 rfl (sk 2 rfl (kc hc ?_));refine ak 10 [] rfl (kc hb ?_);refine ak 4 [] rfl (kc B ?_);refine kc A ?_;exact kz 2 rfl (aD rtT)
theorem aBx:∀{l:List Sg}{m:Sg},m∈l→m.name.length+32+rS (mtS m.ty)≤wP l
 | a::l,t,h=>by
  rw[wP];rcases Aq.1 h with rfl | h
  ·omega
  ·have:=aBx h;omega
theorem aYu (c:Cl) (hP:∀m∈c.methods,SchP (mtS m.ty)∧¬m.ty.preds=[]) (hs:c.supers.length≤5000) (hm:c.methods.length≤5000) (hW:clW c≤100000000):bI Tryz.prog 35 [.pa (iT c)] [] (Go.AM.T (prC c)) []:=by
 have hM:3000000000≤maxLen:=by decide
 have y:=aNx hP;obtain⟨O,pl,u,q,ms⟩:=c;unfold clW at hW y;dsimp only at hP hs hm hW y;have hks:(q.map aR).length=q.length:=η _;have hkm:(ms.map eC).length=ms.length:=η _;have h1:=aHp ms hP;have h2:=aNh u q;have h3:=aF5 u q;have hcl:=sY h2;have hc:=oH (q.map (vG u)) h2 (by rw[η];omega) (by omega);have hk3:=uX (ms.map prM);have hjb:=eW (sep:=[32,59,32]) (by decide) (ms.map prM);have hbk:=qC (ms.map prM) (by rw[η];omega) (by omega);have hres:prC ⟨O,pl,u,q,ms⟩=aYp++aIt (q.map (vG u))++O++[32]++u++[32]++yM (ms.map prM):=rfl;rw[hres] at y ⊢;generalize aIt (q.map (vG u))=CX at hc hcl y ⊢;generalize yM (ms.map prM)=BK at hbk hk3 y ⊢;simp only[ψ,κ,length_nil] at y;refine bM (n:=63) tok Tryz.func35 rfl rfl rfl ?_;refine sg rfl (sg rfl (AWp.sub (Sub.own (t:=3) (id:=500) 98 5 rfl rfl) ?_));refine aA (sg rfl (aE (aP (fun i:Nat=>mk [(1,.one (.vp 1 0)),(3,.one (.hs 500 0 (q.take i).length (q.take i).length)),(10,.one (.c (.sl 1 (q.map aR)))),(11,I .i64 ((q.map aR).length:Nat)),(12,I .i64 (i:Nat))] [(1,.var 87 [.c (.str O),.c (.int .i64 pl),.c (.str u),.c (.sl 1 []),.c (.sl 1 (q.map aR)),.c (.sl 9 (ms.map eC))]),(500,.arr 98 5 (((q.take i).map (vG u)).map aQ) 0)]) (fun i=>i≤q.length) (fun i=>q.length-i) 0 (Ae _) sl ?_)));intro i hi;have hti:(q.take i).length=i:=by rw[Ak];omega
 refine sg rfl (aA (aB rfl (fun hb=>?_) (fun hb=>?_)))
 ·have B:=ltD hb hks;obtain⟨s,hs1⟩:=aJ B;have hs':=b9 aR hs1;have htv:=aVi u;have E:(((q.take i).map (vG u)).map aQ).length=(q.take i).length:=by rw[η,η]
  have J:q.take (i+1)=q.take i++[s]:=cU hs1;have M:(q.take (i+1)).length=(q.take i).length+1:=by rw[J,ψ];rfl
  have A:(((q.take i).map (vG u)).map aQ)++[aQ (vG u s)]=((q.take (i+1)).map (vG u)).map aQ:=by rw[J,Ah,Ah];rfl
  refine aF (aA (aE (sgh [(0,.row i (aR s))] rfl (aC mixed (ak 4 [] rfl (kc htv ?_))))));exact ak 4 [(6,.all)] rfl (az (agN [] rfl ⟨i+1,B,by dsimp only;omega,sl (he:=⟨rfl,Go.AM.hs_ren (by rw[M,←E];rfl) (by rw[M,←E];rfl),rfl,rfl,rfl,trivial⟩) (hh:=⟨⟨_,rfl,Go.AM.Ole.var rfl⟩,⟨_,rfl,.arrS A⟩,trivial⟩)⟩))
 have U:=geD hb hks hi;subst U;refine aS ?_;rw[Aw];have hn0:((q.map (vG u)).map aQ).length=q.length:=by rw[η,η]
 refine AWp.sub (Sub.freeze (id:=500) rfl) ?_;refine AWp.sub (st2:=mk [(1,.one (.vp 1 0)),(3,.one (.c (.sl 5 ((q.map (vG u)).map aQ))))] [(1,.var 87 [.c (.str O),.c (.int .i64 pl),.c (.str u),.c (.sl 1 []),.c (.sl 1 (q.map aR)),.c (.sl 9 (ms.map eC))])]) ?_ ?_
 ·refine Sub.trans ?_ (cv 3 ((q.map (vG u)).map aQ));exact sl
 clear hb hi hti;refine sg rfl (AWp.sub (Sub.own (t:=6) (id:=502) 9 1 rfl rfl) ?_);refine aA (sg rfl (aE (aP (fun i:Nat=>mk [(1,.one (.vp 1 0)),(3,.one (.c (.sl 5 ((q.map (vG u)).map aQ)))),(6,.one (.hs 502 0 (ms.take i).length (ms.take i).length)),(26,.one (.c (.sl 9 (ms.map eC)))),(27,I .i64 ((ms.map eC).length:Nat)),(28,I .i64 (i:Nat))] [(1,.var 87 [.c (.str O),.c (.int .i64 pl),.c (.str u),.c (.sl 1 []),.c (.sl 1 (q.map aR)),.c (.sl 9 (ms.map eC))]),(502,.arr 9 1 (((ms.take i).map prM).map aR) 0)]) (fun i=>i≤ms.length) (fun i=>ms.length-i) 0 (Ae _) sl ?_)));intro i hi;have hti:(ms.take i).length=i:=by rw[Ak];omega
 refine sg rfl (aA (aB rfl (fun hb=>?_) (fun hb=>?_)))
 ·have B:=ltD hb hkm;obtain⟨m,Y⟩:=aJ B;have hm':=b9 eC Y;have hmm:=Aa Y;obtain⟨hmP,hmn⟩:=hP m hmm;have hmw:=aBx hmm;have hsc:=oG hmP (by omega);have hsl:=sF hmP;have E:(((ms.take i).map prM).map aR).length=(ms.take i).length:=by rw[η,η]
  have J:ms.take (i+1)=ms.take i++[m]:=cU Y;have M:(ms.take (i+1)).length=(ms.take i).length+1:=by rw[J,ψ];rfl
  have A:(((ms.take i).map prM).map aR)++[[.str (m.name++[32,58,32]++sG (mtS m.ty))]]=((ms.take (i+1)).map prM).map aR:=by rw[J,Ah,Ah];rfl
  obtain⟨mn,mp,⟨mv,mq,mt⟩⟩:=m;dsimp only at hmn hmw hsc hsl A hm';obtain⟨q0,mq,rfl⟩:∃a r,mq=a::r:=by
   cases mq with
   | nil=>exact absurd rfl hmn
   | cons a r=>exact⟨a,r,rfl⟩
  have hq1:1≤((q0::mq).map aQ).length:=by rw[η,κ];omega
  have hnl:(mn++[32,58,32]).length≤100000003:=by rw[ψ];show _+3≤_;omega
  refine aF (aA (aE (sgh [(0,.row i (eC ⟨mn,mp,⟨mv,q0::mq,mt⟩⟩))] rfl (aC mixed (ak 12 [] rfl (kc hsc ?_ (ha:=.cons rfl (.pa (.c .nl (.c .nl (.c .refl (.c .refl (.c .refl (.c .refl (.c .refl .nil)))))))) .nil)))))));exact ak 4 [(14,.all)] rfl (az (agN [] rfl ⟨i+1,B,by dsimp only;omega,sl (he:=⟨rfl,rfl,Go.AM.hs_ren (by rw[M,←E];rfl) (by rw[M,←E];rfl),rfl,rfl,rfl,trivial⟩) (hh:=⟨⟨_,rfl,Go.AM.Ole.var rfl⟩,⟨_,rfl,.arrS A⟩,trivial⟩)⟩))
 have U:=geD hb hkm hi;subst U;refine aS ?_;rw[Aw];refine AWp.sub (Sub.freeze (id:=502) rfl) ?_;refine AWp.sub (st2:=mk [(1,.one (.vp 1 0)),(3,.one (.c (.sl 5 ((q.map (vG u)).map aQ)))),(6,eG (ms.map prM))] [(1,.var 87 [.c (.str O),.c (.int .i64 pl),.c (.str u),.c (.sl 1 []),.c (.sl 1 (q.map aR)),.c (.sl 9 (ms.map eC))])]) ?_ ?_
 ·refine Sub.trans ?_ (cv 6 ((ms.map prM).map aR));exact sl
 refine sk 1 rfl (kc hc ?_);refine ak 10 [] rfl (kc hbk ?_);exact kz 2 rfl (aD rtT)
end Go.Proofs.YtkhgpgihmphfdaaGreatDoor
