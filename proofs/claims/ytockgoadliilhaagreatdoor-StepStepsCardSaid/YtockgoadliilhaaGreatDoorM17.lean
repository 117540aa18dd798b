/-
  The law StepSteps (fuguelaw22): whatever its arguments are, the call returns true, and they read as they did; its row and its card.
-/
import Derived.Test.YtockgoadliilhaaGreatDoorM16
import Derived.Test.YtockgoadliilhaaGreatDoorCards
import Derived.Test.YtockgoadliilhaaGreatDoorTie
import Derived.ProofKit
import Derived.Lib.LaidTab
import Derived.Stop.LaidErr
import Derived.OpenShut
import Derived.LaidMore
import Derived.Lay
import Derived.SevenTiedAt
import Derived.Stop.Joined
open List (all_eq_true append_assoc append_nil flatMap_append flatMap_cons flatMap_nil length_append length_cons length_map length_nil map_append map_cons map_map mem_append mem_cons mem_cons_of_mem mem_cons_self mem_map mem_of_mem_drop mem_of_mem_take mem_or_eq_of_mem_set mem_singleton sum_cons take_add_one take_length take_succ_cons take_zero)
open Nat (add_assoc add_mul le_mul_of_pos_left le_mul_of_pos_right le_refl le_trans mul_add mul_le_mul mul_le_mul_left mul_le_mul_right mul_one zero_le)
namespace Go.Proofs.YtockgoadliilhaaGreatDoor
open Go Go.AM
set_option maxRecDepth 20000
set_option maxHeartbeats 4000000
mutual
def qP (p:Ty→Prop):Core→Prop
 | .mk f n s t ks bs al=>(((i64 f∧i64 n)∧(f=1→nh s))∧p t)∧qPs p ks∧qPb p bs∧qPa p al
def qPs (p:Ty→Prop):List Core→Prop
 | []=>True
 | c::l=>qP p c∧qPs p l
def qPb (p:Ty→Prop):List Bind→Prop
 | []=>True
 | .mk _ t c::l=>(p t∧qP p c)∧qPb p l
def qPa (p:Ty→Prop):List Alt→Prop
 | []=>True
 | .mk f n _ _ c::l=>(aF f∧i64 n∧qP p c)∧qPa p l
end
section
variable {p:Ty→Prop}
theorem aNg:∀{l:List Core},qPs p l↔∀x∈l,qP p x
 | []=>by simp[qPs]
 | c::l=>by rw[qPs,aNg (l:=l)];simp
theorem aNh:∀{l:List Bind},qPb p l↔∀x∈l,p x.ty∧qP p x.body
 | []=>by simp[qPb]
 | .mk s t c::l=>by rw[qPb,aNh (l:=l)];simp[Bind.body,Bind.ty]
theorem aNi:∀{l:List Alt},qPa p l↔∀x∈l,aF x.form∧i64 x.n∧qP p x.body
 | []=>by simp[qPa]
 | .mk f n s v c::l=>by rw[qPa,aNi (l:=l)];simp[Alt.body,Alt.form,Alt.n]
theorem mM {f n:Int}{s:Str}{t:Ty}{ks:List Core}{bs:List Bind}{al:List Alt}:qP p (.mk f n s t ks bs al)↔(((i64 f∧i64 n)∧(f=1→nh s))∧p t)∧(∀x∈ks,qP p x)∧(∀x∈bs,p x.ty∧qP p x.body)∧∀x∈al,aF x.form∧i64 x.n∧qP p x.body:=by
 rw[qP,aNg,aNh,aNi]
theorem aVp {n:Int}{s:Str}{t:Ty}(hn:i64 n) (ht:p t) (hs:nh s):qP p (.mk 1 n s t [] [] []):=mM.2 ⟨⟨⟨⟨eG (by decide) (by decide),hn⟩,fun _=>hs⟩,ht⟩,by simp,by simp,by simp⟩
theorem mL {f n:Int}{s:Str}{t:Ty}(hf:i64 f) (hn:i64 n) (ht:p t) (h1:¬f=1:=by decide):qP p (.mk f n s t [] [] []):=mM.2 ⟨⟨⟨⟨hf,hn⟩,fun h=>absurd h h1⟩,ht⟩,by simp,by simp,by simp⟩
theorem qW {f n:Int}{s:Str}{t:Ty}{ks:List Core}(hf:i64 f) (hn:i64 n) (ht:p t) (hk:∀x∈ks,qP p x) (h1:¬f=1:=by decide):qP p (.mk f n s t ks [] []):=mM.2 ⟨⟨⟨⟨hf,hn⟩,fun h=>absurd h h1⟩,ht⟩,hk,by simp,by simp⟩
theorem aS0 (hp:∀t,p t→tF t=true):∀(k:Nat) (c:Core),aY c≤k→qP p c→qA c
 | 0,c,h,_=>by have:=dX c;omega
 | k+1,.mk f n s t ks bs al,h,N=>by
  obtain⟨u,I,J,_⟩:= @iW f n s t ks bs al;obtain⟨⟨⟨⟨h1,h2⟩,_⟩,h3⟩,h4,h5,h6⟩:=mM.1 N;exact i7.2 ⟨⟨h1,h2,hp t h3⟩,fun x hx=>aS0 hp k x (by have:=u x hx;omega) (h4 x hx),fun x hx=>⟨hp _ (h5 x hx).1,aS0 hp k x.body (by have:=I x hx;omega) (h5 x hx).2⟩,fun x hx=>⟨(h6 x hx).1,(h6 x hx).2.1,aS0 hp k x.body (by have:=J x hx;omega) (h6 x hx).2.2⟩⟩
theorem a2r:i64 0:=eG (by decide) (by decide)
theorem aZ9 {f:Int}(h:1≤f∧f≤3):aF f:=by unfold aF;omega
theorem aO1 {n:Int}(h: -100≤n∧n≤100):i64 n:=eG (by omega) (by omega)
theorem aS1:∀(k:Nat) (c:Core),aY c≤k→qP p c→∀x∈pfR c,nh x
 | 0,c,h,_=>by have:=dX c;omega
 | k+1,.mk f n s t ks bs al,h,Z=>by
  obtain⟨J,N,O,_⟩:= @iW f n s t ks bs al;obtain⟨⟨⟨_,h2⟩,_⟩,h4,h5,h6⟩:=mM.1 Z;intro x hx;by_cases h1:f=1
  ·rw[pfR,ξ h1] at hx;rw[ε.1 hx];exact h2 h1
  ·rcases(kN h1).1 hx with⟨y,u,I,_⟩ | ⟨y,u,I,_⟩
   ·rcases τ.1 u with u | u
    ·exact aS1 k y (by have:=J y u;omega) (h4 y u) x I
    ·obtain⟨z,Y,rfl⟩:=Af.1 u;exact aS1 k z.body (by have:=N z Y;omega) (h5 z Y).2 x I
   ·exact aS1 k y.body (by have:=O y u;omega) (h6 y u).2.2 x I
theorem a14 (hp:∀t,p t→tF t=true) {c:Core}(h:qP p c):GI c:=⟨aS0 hp _ c (le_refl _) h,aS1 _ c (le_refl _) h⟩
def MkQ (p:Ty→Prop) (g:List Int→Int→Mk):Prop:=∀l left,qP p (g l left).1
theorem aC7 (ht:∀l,p (cR 2 l).1) {g:List Int→Int→Mk}(h:MkQ p g) (ns:List Str) (l:List Int) (left:Int):∀i:Nat,∀x∈(bT g ns l left i).1,p x.ty∧qP p x.body
 | 0=>by simp[bT]
 | i+1=>by
  have h1:=aC7 ht h ns l left i;simp only[bT];generalize bT g ns l left i=r at h1 ⊢;intro x hx;rcases τ.1 hx with hx | hx
  ·exact h1 x hx
  ·rw[ε.1 hx];exact⟨ht _,h _ _⟩
theorem aJd {g:List Int→Int→Mk}(h:MkQ p g) (n:Int) (hn:0≤n∧n<1000) (l:List Int) (left:Int):∀i:Nat,∀x∈(cQ g n l left i).1,aF x.form∧i64 x.n∧qP p x.body
 | 0=>by simp[cQ]
 | i+1=>by
  have h1:=aJd h n hn l left i;simp only[cQ];generalize cQ g n l left i=r at h1 ⊢;intro x hx;rcases τ.1 hx with hx | hx
  ·exact h1 x hx
  ·rw[ε.1 hx];split
   ·exact⟨.inr (.inl rfl),eG (by show -1000≤n/14;omega) (by show n/14≤1000;omega),h _ _⟩
   ·split
    ·exact⟨.inr (.inr rfl),a2r,h _ _⟩
    ·exact⟨.inl rfl,a2r,h _ _⟩
theorem aP6 (u:p zTy) (ht:∀l,p (cR 2 l).1) {g:List Int→Int→Mk}(h:MkQ p g) (n k:Int) (hn:0≤n∧n<1000) (l:List Int) (left:Int):qP p (eL g n k l left).1:=by
 have i0:∀m:Int,-1000≤m→m≤1000→i64 m:=fun m h1 h2=>eG h1 h2
 have one:∀{x:Core},qP p x→∀z∈[x],qP p z:=fun hx z u=>by rw[ε.1 u];exact hx
 have two:∀{x y:Core},qP p x→qP p y→∀z∈[x,y],qP p z:=fun hx I z u=>by
  rcases Ap.1 u with rfl | u
  ·exact hx
  ·rw[ε.1 u];exact I
 unfold eL;split
 ·exact aVp (i0 _ (by decide) (by decide)) u (aS8 _ (fW (by decide)))
 split
 ·exact mL (i0 _ (by decide) (by decide)) (i0 _ (by decide) (by decide)) u
 split
 ·exact mL (i0 _ (by decide) (by decide)) (i0 _ (by omega) (by omega)) u
 split
 ·exact qW (i0 _ (by decide) (by decide)) (i0 _ (by decide) (by decide)) u (two (h _ _) (h _ _))
 split
 ·exact qW (i0 _ (by decide) (by decide)) (i0 _ (by decide) (by decide)) (ht l) (one (h _ _))
 split
 ·exact qW (i0 _ (by decide) (by decide)) (i0 _ (by decide) (by decide)) (ht l) (one (h _ _))
 split
 ·exact qW (i0 _ (by decide) (by decide)) (i0 _ (by decide) (by decide)) u (one (h _ _))
 split
 ·exact mM.2 ⟨⟨⟨⟨i0 _ (by decide) (by decide),i0 _ (by decide) (by decide)⟩,fun h=>absurd h (by decide)⟩,u⟩,one (h _ _),aC7 ht h _ _ _ _,by simp⟩
 split
 ·exact mM.2 ⟨⟨⟨⟨i0 _ (by decide) (by decide),i0 _ (by decide) (by decide)⟩,fun h=>absurd h (by decide)⟩,ht l⟩,one (h _ _),by simp,aJd h n hn _ _ _⟩
 split
 ·exact qW (i0 _ (by decide) (by decide)) (i0 _ (by decide) (by decide)) u (two (h _ _) (h _ _))
 ·exact mL (i0 _ (by decide) (by decide)) (i0 _ (by decide) (by decide)) (ht l)
theorem aP2 (u:p zTy) (ht:∀l,p (cR 2 l).1):∀f:Nat,MkQ p (oZ f)
 | 0=>fun l left=>aP6 u ht (g:=fun l left=>((.mk 0 0 [] zTy [] [] [],l,left):Mk)) (fun _ _=>mL (eG (by decide) (by decide)) (eG (by decide) (by decide)) u) _ _ (nU l) _ _
 | f+1=>fun l left=>aP6 u ht (aP2 u ht f) _ _ (nU l) _ _
theorem a2e (u:p zTy) (ht:∀l,p (cR 2 l).1) (l:List Int):qP p (kF l):=aP2 u ht 6 (l.take 60) 30
end
theorem a68 {p:Ty→Prop}(u:p zTy) (ht:∀k t,GT k t→k≤100→p t) {m:Nat}{c:Core}(h:GC m c):qP p c:=by
 have i0:∀m:Int,-1000≤m→m≤1000→i64 m:=fun m h1 h2=>eG h1 h2
 have one:∀{x:Core},qP p x→∀z∈[x],qP p z:=fun hx z u=>by rw[ε.1 u];exact hx
 have two:∀{x y:Core},qP p x→qP p y→∀z∈[x,y],qP p z:=fun hx Y z u=>by
  rcases Ap.1 u with rfl | u
  ·exact hx
  ·rw[ε.1 u];exact Y
 have N:∀{a b:Int},-1000≤a∧a≤1000→ -1000≤b∧b≤1000→i64 a∧i64 b:=fun h1 h2=>⟨i0 _ h1.1 h1.2,i0 _ h2.1 h2.2⟩
 have kid:∀{f:Int} {s:Str} {t:Ty} {ks:List Core},p t→(∀x∈ks,qP p x)→(-1000≤f∧f≤1000∧¬f=1)→qP p (.mk f 0 s t ks [] []):=fun hp hk hf=>qW (i0 _ hf.1 hf.2.1) (i0 _ (by decide) (by decide)) hp hk hf.2.2
 have con:∀{s:Str},qP p (.mk 2 0 s zTy [] [] []):=fun {_}=>mL (i0 _ (by decide) (by decide)) (i0 _ (by decide) (by decide)) u
 induction h with
 | var h=>exact aVp (i0 _ (by decide) (by decide)) u (wX _ h)
 | con h=>exact mL (i0 _ (by decide) (by decide)) (i0 _ (by decide) (by decide)) u
 | int h=>exact mL (i0 _ (by decide) (by decide)) (i0 _ (by omega) (by omega)) u
 | app _ _ I i2=>exact kid u (two I i2) (by decide)
 | lam h g hk _ I=>exact kid (ht _ _ g hk) (one I) (by decide)
 | tc h g hk=>exact kid (ht _ _ g hk) (one con) (by decide)
 | tc2 h g hk O J=>exact kid (ht _ _ O J) (one (kid (ht _ _ g hk) (one con) (by decide))) (by decide)
 | tr g hk _ _ O J _ _ I i2=>exact kid u (two (kid (ht _ _ g hk) (one (kid u (one (kid (ht _ _ O J) (one I) (by decide))) (by decide))) (by decide)) i2) (by decide)
 | tlam h _ I=>exact kid u (one I) (by decide)
 | lt h g hk _ _ I i2=>exact mM.2 ⟨⟨⟨N (by decide) (by decide),fun h=>absurd h (by decide)⟩,u⟩,one I,fun x hx=>(by rw[ε.1 hx];exact⟨ht _ _ g hk,i2⟩),by simp⟩
 | case1 g hk _ _ h1 h2 h3 h4 h5 I i2=>
  refine mM.2 ⟨⟨⟨N (by decide) (by decide),fun h=>absurd h (by decide)⟩,ht _ _ g hk⟩,one I,by simp,fun x hx=>?_⟩;rw[ε.1 hx];exact⟨aZ9 h1,aO1 h2,i2⟩
 | case2 g hk _ _ _ h1 h2 h3 h4 h5 h1' h2' h3' h4' h5' I i2 i3=>
  refine mM.2 ⟨⟨⟨N (by decide) (by decide),fun h=>absurd h (by decide)⟩,ht _ _ g hk⟩,one I,by simp,fun x hx=>?_⟩;rcases Ap.1 hx with rfl | hx
  ·exact⟨aZ9 h1,aO1 h2,i2⟩
  ·rw[ε.1 hx];exact⟨aZ9 h1',aO1 h2',i3⟩
 | prim h _ _ I i2=>exact kid u (two I i2) (by decide)
 | fail g hk=>exact mL (i0 _ (by decide) (by decide)) (i0 _ (by decide) (by decide)) (ht _ _ g hk)
def szA:Alg:=⟨40,fun a b=>a+b,fun _ x=>2+x,fun s x=>3+s.length+x,fun h1 h2=>by omega,fun h=>by omega,fun h=>by omega,fun _=>le_refl _⟩
def r40:Str→Nat:=fun _=>40
theorem aVj (s:Str):fP r40 s 40=r40:=by funext x;unfold fP r40;split<;>rfl
def szP (V K:Nat) (t:Ty):Prop:=tF t=true∧∀(E:Nat) (ρ:Str→Nat),40≤E→(∀x,ρ x≤E)→tW szA t ρ≤V*E+K
theorem aBc (a b:Ty) (ρ:Str→Nat):tW szA (.mk 4 0 [] [a,b]) ρ=3+(tW szA a ρ+tW szA b ρ):=by
 rw[tW,φ (by decide),φ (by decide),tWs,tWs,tWs];rfl
theorem aBb (s:Str) (ρ:Str→Nat):tW szA (.mk 3 0 s []) ρ=3+s.length:=by
 rw[tW,φ (by decide),φ (by decide),tWs];rfl
theorem aMh (s:Str) (ρ:Str→Nat):tW szA (.mk 2 0 s []) ρ=ρ s:=by rw[tW,ξ rfl]
theorem aVe (s:Str) (a:Ty) (ρ:Str→Nat):tW szA (.mk 5 0 s [a]) ρ=2+tW szA a (fP ρ s 40):=by
 rw[tW,φ (by decide),ξ rfl,tWs,tWs];rfl
theorem a4z (ρ:Str→Nat):tW szA zTy ρ=3:=rfl
theorem a08 {V K:Nat}(u:1≤V):szP V K zTy:=⟨rfl,fun E ρ I _=>by rw[a4z];have:=Cr E u;omega⟩
theorem aGs {a b:Ty}(ha:tF a=true) (hb:tF b=true):tF (.mk 4 0 [] [a,b])=true:=lZ.2 ⟨by decide,fun x hx=>by
 rcases Ap.1 hx with rfl | hx
 ·exact ha
 ·rw[ε.1 hx];exact hb⟩
theorem aBa (s:Str):tF (.mk 3 0 s [])=true:=lZ.2 ⟨by decide,by simp⟩
theorem pF:∀(f:Nat) (l:List Int),szP (2^f) (22*2^f-11) (cR f l).1
 | 0,l=>by
  rw[cR];split
  ·exact⟨lZ.2 ⟨by decide,by simp⟩,fun E ρ u h=>by rw[aMh];have:=h (oneOf lT ((b9 l).1/6));omega⟩
  ·exact⟨aBa _,fun E ρ u _=>by unfold vQ;rw[aBb];simp only[Bl,List.length_nil];omega⟩
 | f+1,l=>by
  have hp:2^(f+1)=2^f+2^f:=by rw[Nat.pow_succ];omega
  have h1:1≤2^f:=Nat.one_le_two_pow;have ar:∀E:Nat,(2^f+2^f)*E=2^f*E+2^f*E:=fun E=>A1 _ _ _
  have hm:∀E:Nat,E≤2^f*E:=fun E=>Cr E h1
  rw[cR,hp];split
  ·exact⟨lZ.2 ⟨by decide,by simp⟩,fun E ρ u h=>by rw[aMh,ar];have:=h (oneOf lT ((b9 l).1/6));have:=hm E;omega⟩
  split
  ·exact⟨aBa _,fun E ρ u _=>by unfold vQ;rw[aBb,ar];simp;omega⟩
  split
  ·obtain⟨I,a2⟩:=pF f (b9 l).2;obtain⟨J,N⟩:=pF f (cR f (b9 l).2).2;refine⟨aGs (aGs (aBa _) I) J,fun E ρ u h=>?_⟩;show tW szA (iZ _ _) ρ≤_;unfold iZ aA8;rw[aBc,aBc,aBb,ar];have:=a2 E ρ u h;have:=N E ρ u h;have:arrow.length=2:=rfl;omega
  split
  ·obtain⟨I,a2⟩:=pF f (b9 l).2;refine⟨aGs (aBa _) I,fun E ρ u h=>?_⟩;show tW szA (.mk 4 0 [] [tL,_]) ρ≤_;unfold tL;rw[aBc,aBb,ar];have:=a2 E ρ u h;simp only[Bl,List.length_nil];omega
  ·obtain⟨I,a2⟩:=pF f (b9 l).2;refine⟨lZ.2 ⟨by decide,fun x hx=>by rw[ε.1 hx];exact I⟩,fun E ρ u h=>?_⟩;show tW szA (.mk 5 0 _ [_]) ρ≤_;rw[aVe,ar];have:=a2 E (fP ρ (oneOf lT ((b9 l).1/6)) 40) u fun x=>by
    unfold fP;split
    ·exact u
    ·exact h x
   omega
theorem a09 {k:Nat}{t:Ty}(h:GT k t):szP k 0 t:=by
 induction h with
 | var s hs=>exact⟨lZ.2 ⟨by decide,by simp⟩,fun E ρ u h=>by rw[aMh];have:=h s;omega⟩
 | con s hs=>exact⟨aBa _,fun E ρ u h=>by rw[aBb];omega⟩
 | app _ _ I i2=>
  refine⟨aGs I.1 i2.1,fun E ρ u h=>?_⟩;rw[aBc,A1,A1];have:=I.2 E ρ u h;have:=i2.2 E ρ u h;omega
theorem szP.mono {V V' K K':Nat}{t:Ty}(h:szP V K t) (hv:V≤V') (hk:K≤K'):szP V' K' t:=⟨h.1,fun E ρ u I=>by
 have:=h.2 E ρ u I;have:=Aw E hv
 omega⟩
theorem aT5 {V K:Nat}(J:1≤V) {E:Nat}(I:40≤E):∀(k:Nat) (c:Core),aY c≤k→qP (szP V K) c→∀ρ,(∀x,ρ x≤E)→cw szA E c ρ≤V*E+K
 | 0,c,h,_,_,_=>by have:=dX c;omega
 | k+1,.mk f n s t ks bs al,h,Z,ρ,u=>by
  obtain⟨N,O,Y,_⟩:= @iW f n s t ks bs al;obtain⟨⟨_,h3⟩,h4,h5,h6⟩:=mM.1 Z;have hk:szA.k=3:=rfl;have:=Cr E J;refine dT.2 ⟨by rw[hk];omega,h3.2 E ρ I u,fun x hx=>?_,fun x hx=>⟨(h5 x hx).1.2 E ρ I u,aT5 J I k x.body (by have:=O x hx;omega) (h5 x hx).2 ρ u⟩,fun x hx=>aT5 J I k x.body (by have:=Y x hx;omega) (h6 x hx).2.2 ρ u⟩;refine aT5 J I k x (by have:=N x hx;omega) (h4 x hx) _ fun y=>?_
  split
  ·unfold fP;split
   ·exact le_refl _
   ·exact u y
  ·exact u y
def SZ (V K e:Nat) (c:Core):Prop:=∀E,e≤E→cw szA E c r40≤V*E+K
section
variable {V K e:Nat}
theorem SZ.mono {e':Nat}(he:e≤e') {c:Core}(h:SZ V K e c):SZ V K e' c:=fun E u=>h E (by omega)
theorem SZ.of (I:1≤V) {c:Core}(h:qP (szP V K) c):SZ V K 40 c:=fun E u=>aT5 I u _ c (le_refl _) h r40 fun _=>u
variable {f i:Int}{s:Str}{t:Ty}{ks:List Core}{bs:List Bind}{al:List Alt}
theorem SZ.kid (h:SZ V K e (.mk f i s t ks bs al)) (h7:¬f=7) {x:Core}(hx:x∈ks):SZ V K e x:=fun E u=>by
 have:=(dT.1 (h E u)).2.2.1 x hx;rwa [φ h7] at this
theorem SZ.bind (h:SZ V K e (.mk f i s t ks bs al)) {x:Bind}(hx:x∈bs):SZ V K e x.body:=fun E u=>((dT.1 (h E u)).2.2.2.1 x hx).2
theorem SZ.alt (h:SZ V K e (.mk f i s t ks bs al)) {x:Alt}(hx:x∈al):SZ V K e x.body:=fun E u=>(dT.1 (h E u)).2.2.2.2 x hx
theorem SZ.set (h7:¬f=7) (h:SZ V K e (.mk f i s t ks bs al)) {j:Nat}{r:Core}(J:SZ V K e r):SZ V K e (aDw (.mk f i s t ks bs al) j r):=fun E I=>by
 obtain⟨N,O,Y,Z,c5⟩:=dT.1 (h E I);unfold aDw;refine dT.2 ⟨N,O,fun y u=>?_,Z,c5⟩;rw[φ h7];rcases(B5 u).symm with rfl | u
 ·exact J E I
 ·have:=Y y u;rwa [φ h7] at this
theorem SZ.letB (h:SZ V K e (.mk 8 i s t ks bs al)) {b:Bind}(hb:b∈bs):SZ V K e (letB bs b):=fun E u=>by
 have g:=dT.1 (h E u);unfold Go.Proofs.YtockgoadliilhaaGreatDoor.letB;refine dT.2 ⟨g.1,le_trans (by rw[a4z];exact le_refl _) g.1,fun x hx=>?_,g.2.2.2.1,by simp⟩;rw[ε.1 hx,φ (by decide)];exact h.bind hb E u
mutual
theorem a2u:∀c:Core,SZ V K e c→∀(s:Str) (l:List Core),gvC c=some (s,l)→∀x∈l,SZ V K e x
 | .mk f n s t ks bs al,I,nm,l,u=>by
  rw[gvC] at u;by_cases h2:f=2
  ·rw[ξ h2] at u;cases u;exact fun x hx=>by cases hx
  rw[φ h2] at u;by_cases h4:f=4
  ·rw[ξ h4] at u;obtain⟨⟨Y,l'⟩,N,O⟩:=Bq.1 u;cases O;intro x hx;rcases τ.1 hx with hx | hx
   ·exact aWa ks (fun y J=>I.kid (by omega) J) _ _ N x hx
   ·exact I.kid (by omega) (B0 hx)
  rw[φ h4] at u;by_cases h6:f=6
  ·rw[ξ h6] at u;exact aWa ks (fun y J=>I.kid (by omega) J) _ _ u
  ·rw[φ h6] at u;cases u
theorem aWa:∀l:List Core,(∀x∈l,SZ V K e x)→∀(s:Str) (m:List Core),gvH l=some (s,m)→∀x∈m,SZ V K e x
 | [],_,_,_,u=>by rw[gvH] at u;cases u
 | c::l,h,s,m,u=>by rw[gvH] at u;exact a2u c (h c ζ) s m u
end
theorem aRo (u:1≤V) (he:40≤e) {f n:Int}{s:Str}:SZ V K e (.mk f n s zTy [] [] []):=fun E I=>by
 have:=Cr E u;exact dT.2 ⟨by show 3≤_;omega,by rw[a4z];omega,by simp,by simp,by simp⟩
theorem a0c (u:1≤V) (he:40≤e) {s:Str}{a b:Int}(h:(jG s a b).2=0):SZ V K e (jG s a b).1:=by
 have hi:∀m,SZ V K e (kI m):=fun m=>aRo u he
 have ht:∀c,SZ V K e (aK5 c):=fun c=>by cases c<;>exact aRo u he
 unfold jG at h ⊢;by_cases h1:s=aAw
 ·rw[ξ h1];exact hi _
 rw[φ h1] at h ⊢;by_cases h1:s=aVy
 ·rw[ξ h1];exact hi _
 rw[φ h1] at h ⊢;by_cases h1:s=aTb
 ·rw[ξ h1];exact hi _
 rw[φ h1] at h ⊢;by_cases h1:s=aLa
 ·rw[ξ h1] at h ⊢;by_cases h0:b=0
  ·rw[ξ h0] at h;cases h
  ·rw[φ h0];exact hi _
 rw[φ h1] at h ⊢;by_cases h1:s=nEq
 ·rw[ξ h1];exact ht _
 rw[φ h1] at h ⊢;by_cases h1:s=nLt
 ·rw[ξ h1];exact ht _
 ·rw[φ h1] at h;cases h
end
def nxE (V K e:Nat) (b:Bool):Nat:=if b=true then V*e+K else e
theorem a2a {V K e:Nat}(u:1≤V) (b:Bool):e≤nxE V K e b:=by
 unfold nxE;have:=Cr e u;split<;>omega
theorem aGv (hI:dJ 540000000000) {n:Nat}{U:List Str}(hn:n≤99) (hU:U.length≤480000) {V K e:Nat}(hV:1≤V) (he:40≤e) {bd:List Bind}(hB:∀b∈bd,SZ V K e b.body):
  ∀(k:Nat) (c:Core),m30 c≤k→ST n U c→SZ V K e c→(cD bd k c).2=0→SZ V K (nxE V K e (tA k c)) (cD bd k c).1:=by
 intro k
 induction k with
 | zero=>intro c h;have:=dD c;omega
 | succ k ih=>
 intro c h hc N u;have up:∀{r:Core},SZ V K e r→SZ V K (nxE V K e (tA (k+1) c)) r:=fun hr=>hr.mono (a2a hV _)
 obtain⟨f,i,s,t,ks,bs,al⟩:=c;have O:∀(j:Nat) (x:Core),ks[j]?=some x→¬f=7→tA (k+1) (.mk f i s t ks bs al)=tA k x→(pT (cD bd k) (.mk f i s t ks bs al) j).2=0→SZ V K (nxE V K e (tA (k+1) (.mk f i s t ks bs al))) (pT (cD bd k) (.mk f i s t ks bs al) j).1:=fun j x hx h7 hta he=>by
  unfold pT at he ⊢;have hx':(Core.mk f i s t ks bs al).kids[j]?=some x:=hx;rw[hx'] at he ⊢;dsimp only at he ⊢;obtain⟨_,e2,Y⟩:=pU he;rw[Y];have hxm:=η hx;refine SZ.set h7 (up N) ?_;rw[hta];exact ih x (by have:=fX hxm;rw[m30] at h;omega) (hc.kid h7 hxm) (N.kid h7 hxm) e2
 rw[iP] at u ⊢;by_cases h1:f=1
 ·rw[ξ h1] at u ⊢;cases hf:bd.find? fun b=>decide (b.name=s) with
  | none=>rw[hf] at u;cases u
  | some b=>exact up (hB b (Bp hf))
 rw[φ h1] at u ⊢;by_cases aa:f=4∨f=6
 ·rw[ξ aa] at u ⊢;by_cases ha:f=4∧(ks.headD zC).form=5
  ·rw[ξ ha];obtain⟨rfl,ha⟩:=ha;obtain⟨⟨a,b,rfl⟩,rfl,rfl⟩:=jP hc.q (.inl rfl);have Z:=hc.kid (by decide) (x:=a) ζ;have kb:=hc.kid (by decide) (x:=b) (ω _ ζ);have za:=N.kid (by decide) (x:=a) ζ;have zb:=N.kid (by decide) (x:=b) (ω _ ζ);obtain⟨f',i',s',t',ks',bs',al'⟩:=a;have ha:f'=5:=ha;subst ha;obtain⟨⟨body,rfl⟩,rfl,rfl⟩:=dR Z.q (.inl rfl);have kbd:=Z.kid (by decide) (x:=body) ζ;have zbd:=za.kid (by decide) (x:=body) ζ;refine up fun E J=>?_
   have hT:=uU hI (D:=400) (M:=650000) (X:=403) (by decide) (by decide) (m30 body) body (le_refl _) (kbd.cg (by omega) hU) s' b (kb.cg (by omega) hU);have g1:=hT.rx.cw szA E r40;have g2:=zbd E J;have g3:=zb E J;show cw szA E (dH (m30 body) body s' b) r40≤_;omega
  rw[φ ha] at u ⊢;by_cases hb:f=6∧(ks.headD zC).form=7
  ·rw[ξ hb];obtain⟨rfl,hb⟩:=hb;obtain⟨⟨a,rfl⟩,rfl,rfl⟩:=dR hc.q (.inr (.inl rfl));have Z:=hc.kid (by decide) (x:=a) ζ;have za:=N.kid (by decide) (x:=a) ζ;obtain⟨f',i',s',t',ks',bs',al'⟩:=a;have hb:f'=7:=hb;subst hb;obtain⟨⟨body,rfl⟩,rfl,rfl⟩:=dR Z.q (.inr (.inr rfl));have hcg:=hc.cg (by omega) hU;have hcb:=((Z.cg (by omega) hU).kid (x:=body) ζ).1
   obtain⟨w1,w2,_⟩:=hcg.ty;have hta:tA (k+1) (.mk 6 i s t [.mk 7 i' s' t' [body] [] []] [] [])=true:=by rw[mC,φ (by decide),ξ rfl,ξ hb]
   rw[hta];intro E J;have J:V*e+K≤E:=J;have hS:=vW hI (by decide) (m30 body) body (le_refl _) hcb s' t ⟨w1,by omega⟩;have g1:=hS.cw szA E r40;have g2:=(dT.1 (N e (le_refl _))).2.1
   have hee:e≤E:=by have:=Cr e hV;omega
   have g3:=(dT.1 (za E hee)).2.2.1 body ζ;rw[ξ rfl] at g3;refine le_trans g1 (le_trans (lI (le_refl _) fun x=>?_) g3);unfold fP;split
   ·omega
   ·exact le_refl _
  rw[φ hb] at u ⊢;have hex:∃a,ks[0]?=some a:=by
   rcases aa with rfl | rfl
   ·obtain⟨⟨a,b,rfl⟩,_⟩:=jP hc.q (.inl rfl);exact⟨a,rfl⟩
   ·obtain⟨⟨a,rfl⟩,_⟩:=dR hc.q (.inr (.inl rfl));exact⟨a,rfl⟩
  obtain⟨a,ha0⟩:=hex;have hhd:ks.headD zC=a:=by cases ks with | nil=>cases ha0 | cons x l=>simpa using ha0
  refine O 0 a ha0 (by omega) ?_ u;rw[mC,hhd];rw[hhd] at ha hb;rcases aa with h4 | h6
  ·rw[ξ h4,φ fun e=>ha ⟨h4,e⟩]
  ·rw[φ (by omega),ξ h6,φ fun e=>hb ⟨h6,e⟩]
 rw[φ aa] at u ⊢;by_cases h8:f=8
 ·rw[ξ h8];subst h8;obtain⟨⟨a,rfl⟩,rfl,h12⟩:=vN hc.q;obtain⟨g1,_⟩:=aDt hn hU hc;have hP:=(aKq hI (by decide) (by decide) a (bs.map Bind.name) (bs.map (letB bs)) (by rw[θ,θ]) (by rw[θ];omega) g1).2
  refine up fun E J=>?_
  refine hP.cw szA E r40 _ (N.kid (by decide) (x:=a) ζ E J) fun b hb=>?_
  obtain⟨y,hy,rfl⟩:=Af.1 hb;exact SZ.letB N hy E J
 rw[φ h8] at u ⊢;by_cases h9:f=9
 ·rw[ξ h9] at u ⊢;subst h9;obtain⟨⟨a,rfl⟩,rfl,h12,hv⟩:=vO hc.q;cases hsh:shC a with
  | true=>
   have e':shC ([a].headD zC)=true:=hsh;rw[ξ e'] at u ⊢;have Z:=hc.kid (by decide) (x:=a) ζ;cases hfs:al.findSome? fun x=>gH x ([a].headD zC) with
   | none=>rw[hfs] at u;cases u
   | some r=>
    obtain⟨x,hx,I⟩:=Cb hfs;have kx:=hc.alt hx;have zx:=N.alt hx;have I:gH x a=some r:=I;have hm:=fE hx;have hsz:=hc.sz;show SZ V K _ r;unfold gH at I;by_cases e1:x.form=3
    ·rw[ξ e1] at I;cases I;exact up zx
    rw[φ e1] at I;by_cases e2:x.form=2
    ·rw[ξ e2] at I;by_cases Y:a.form=3∧a.n=x.n
     ·rw[ξ Y] at I;cases I;exact up zx
     ·rw[φ Y] at I;cases I
    rw[φ e2] at I;cases ab:gvC a with
    | none=>rw[ab] at I;cases I
    | some p=>
     obtain⟨nm,l⟩:=p;rw[ab] at I;dsimp only at I;by_cases Y:nm=x.name∧l.length=x.vars.length
     ·rw[ξ Y] at I;cases I;obtain⟨g1,_⟩:=vL hn hU (s:=m30 (.mk 9 i s t [a] [] al)) (by rw[m30,dA,dA];omega) hsz kx Z (hv x hx) ab Y.2;have hP:=(aKq hI (by decide) (by decide) x.body _ _ Y.2.symm (by have:=hv x hx;omega) g1).2
      have hl:=a2u a (N.kid (by decide) (x:=a) ζ) nm l ab;exact up fun E J=>hP.cw szA E r40 _ (zx E J) fun b hb=>hl b hb E J
     ·rw[φ Y] at I;cases I
  | false=>
   have e':¬shC ([a].headD zC)=true:=by rw[show shC ([a].headD zC)=shC a from rfl,hsh];decide
   rw[φ e'] at u ⊢;refine O 0 a rfl (by decide) ?_ u;rw[mC,φ (by decide),φ (by decide),ξ rfl,φ e'];rfl
 rw[φ h9] at u ⊢;by_cases h10:f=10
 ·rw[ξ h10] at u ⊢;subst h10;obtain⟨⟨a,b,rfl⟩,rfl,rfl⟩:=jP hc.q (.inr rfl);by_cases g1:¬shC ([a,b].headD zC)=true
  ·rw[ξ g1] at u ⊢;refine O 0 a rfl (by decide) ?_ u;rw[mC,φ (by decide),φ (by decide),φ (by decide),ξ rfl,ξ g1];rfl
  rw[φ g1] at u ⊢;by_cases g2:¬shC ([a,b].getD 1 zC)=true
  ·rw[ξ g2] at u ⊢;refine O 1 b rfl (by decide) ?_ u;rw[mC,φ (by decide),φ (by decide),φ (by decide),ξ rfl,φ g1,ξ g2];rfl
  rw[φ g2] at u ⊢;by_cases g3:([a,b].headD zC).form=3∧([a,b].getD 1 zC).form=3
  ·rw[ξ g3] at u ⊢;exact up (a0c hV he u)
  ·rw[φ g3] at u;cases u
 rw[φ h10] at u;by_cases h11:f=11
 ·rw[ξ h11] at u;cases u
 ·rw[φ h11] at u;cases u
def lU (s:Str) (names:List Str):Nat→Option Nat
 | 0=>none
 | k+1=>if names[k]?=some s then some k else lU s names k
theorem xA {s:Str}{names:List Str}:∀(k:Nat),k≤names.length→lU s names k=none→∀j,j<k→¬names[j]?=some s
 | 0,_,_,j,hj=>by omega
 | k+1,hk,h,j,hj=>by
  rw[lU] at h;split at h
  ·cases h
  ·rename_i hn;by_cases e:j=k
   ·rw[e];exact hn
   ·exact xA k (by omega) h j (by omega)
theorem rB {s:Str}{names:List Str}:∀(k i:Nat),lU s names k=some i→i<k
 | 0,i,h=>by cases h
 | k+1,i,h=>by
  rw[lU] at h;split at h
  ·cases h;omega
  ·have:=rB k i h;omega
theorem aY3 (s:Str) (names:List Str) (hl:names.length≤2000000000) (hs:s.length≤1000000):∃S:Str,S.length≤22+w30 s∧aU Tryz.prog 90 [Go.AM.T s,aV names] [] (Go.AM.T S) []:=by
 have hM:1000000000≤maxLen:=by decide
 have N:(names.map b6).length=names.length:=θ _;have J:∀k:Nat,∃D:Str,k<names.length→D.length≤21∧aU Tryz.prog 45 [I .i64 (((names.map b6).length:Int)-1-(k:Nat))] [] (Go.AM.T D) []:=fun k=>by
  by_cases hk:k<names.length
  ·obtain⟨D,h1,h2⟩:=q9 (((names.map b6).length:Int)-1-(k:Nat)) (by rw[N];unfold i64;omega);exact⟨D,fun _=>⟨h1,h2⟩⟩
  ·exact⟨[],fun h=>absurd h hk⟩
 obtain⟨D,J⟩:=Classical.axiomOfChoice J;have hw:=jV s;have Z:s.length≤w30 s:=by unfold w30;omega
 refine⟨match lU s names names.length with | some i=>35::D i | none=>39::s,?_,?_⟩
 ·cases h:lU s names names.length with
  | none=>show(39::s).length≤_;rw[Ac];omega
  | some i=>have:=(J i (rB _ _ h)).1;show(35::D i).length≤_;rw[Ac];omega
 generalize hout:lU s names names.length=out;refine bQ (n:=28) tok Tryz.func90 rfl rfl rfl ?_;refine sg rfl (a8 (sg rfl (aC (aK (fun k:Nat=>mk [(0,Go.AM.T s),(1,aV names),(5,I .i64 ((k:Int)-1))] []) (fun k=>k≤names.length∧lU s names k=out) (fun k=>k) names.length ⟨le_refl _,hout⟩ (sl (he:=⟨rfl,rfl,by rw[←N];rfl,trivial⟩)) ?_))));intro k ⟨hk,u⟩;refine a8 (sg rfl (aA rfl (fun hb=>?_) (fun hb=>?_)))
 ·have O:0<k:=by have:=ψ hb;omega
  obtain⟨k,rfl⟩:∃j,k=j+1:=⟨k-1,by omega⟩
  obtain⟨x,hx⟩:=aJ (l:=names) (k:=k) (by omega);have aa:=bW b6 hx;have Y:((k+1:Nat):Int)-1=(k:Int):=by omega
  rw[Y];rw[lU,hx] at u;refine aD (a8 (aC (sgh [(2,.row k (b6 x))] rfl (aA rfl (fun hb=>?_) (fun hb=>?_)))))
  ·have he:x=s:=ψ hb;rw[ξ (by rw[he])] at u;subst u;obtain⟨d1,d2⟩:=J k (by omega);refine sk 5 rfl ?_ (hc:=by repeat (first | exact trivial | refine⟨by first | rfl | omega | (simp;omega) | (unfold Ty.name;simp;omega) | (simp;done),?_⟩));refine kc d2 ?_;refine ak 2 [] rfl ?_ (hc:=by repeat (first | exact trivial | refine⟨by first | rfl | omega | (simp;omega) | (unfold Ty.name;simp;omega) | (simp;done),?_⟩));exact az (aE rtT)
  ·have he:¬x=s:=χ hb;rw[φ fun h=>he (Option.some.inj h)] at u;exact aD (ag [] rfl ⟨k,⟨by omega,u⟩,by dsimp only;omega,sl⟩)
 have O:k=0:=by have:=χ hb;omega
 subst O;rw[lU] at u;subst u;refine aL (sg rfl ?_ (hc:=by repeat (first | exact trivial | refine⟨by first | rfl | omega | (simp;omega) | (unfold Ty.name;simp;omega) | (simp;done),?_⟩)));exact aE rtT
theorem a3g:∀(k:Nat) (t:Ty),tn t≤k→wfS t=true→tF t=true→∀names:List Str,names.length+tW fH t r0≤2000000000→(∀x∈tfR t,¬x∈names→x.length≤30)→tW szA t r40≤9000000000000000000→
  ∃S:Str,S.length≤tW szA t r40∧aU Tryz.prog 91 [tyV t,aV names] [] (Go.AM.T S) []:=by
 intro k
 induction k with
 | zero=>intro t h;have:=kJ t;omega
 | succ k ih=>
 intro t h hw hf names hl hx hM0;have hM:9000000000000000000≤maxLen:=by decide
 obtain⟨f,n,s,a⟩:=t;obtain⟨_,Y,w4,w5,w0⟩:=oE hw;obtain⟨f1,fa⟩:=lZ.1 hf;rw[tn] at h;have hkl:(names.map b6).length=names.length:=θ _;by_cases h2:f=2
 ·subst h2;have hD:∀k:Nat,∃D:Str,k<names.length→D.length≤21∧aU Tryz.prog 45 [I .i64 (((names.map b6).length:Int)-1-(k:Nat))] [] (Go.AM.T D) []:=fun k=>by
   by_cases hk:k<names.length
   ·obtain⟨D,h1,h2⟩:=q9 (((names.map b6).length:Int)-1-(k:Nat)) (by rw[hkl];unfold i64;omega);exact⟨D,fun _=>⟨h1,h2⟩⟩
   ·exact⟨[],fun h=>absurd h hk⟩
  obtain⟨D,hD⟩:=Classical.axiomOfChoice hD;have e40:tW szA (.mk 2 n s a) r40=40:=by rw[tW,ξ rfl];rfl
  rw[e40];have hs:lU s names names.length=none→s.length≤30:=fun h=>hx s (by rw[tfR,ξ rfl];exact ε.2 rfl) fun hm=>by
   obtain⟨j,hj,e⟩:=List.getElem_of_mem hm;exact xA _ (le_refl _) h j hj (by rw[List.getElem?_eq_getElem hj,e])
  refine⟨match lU s names names.length with | some i=>35::D i | none=>39::s,?_,?_⟩
  ·cases h:lU s names names.length with
   | none=>have:=hs h;show(39::s).length≤_;rw[Ac];omega
   | some i=>have:=(hD i (rB _ _ h)).1;show(35::D i).length≤_;rw[Ac];omega
  generalize hout:lU s names names.length=out at hs ⊢;refine bQ (n:=91) tok Tryz.func91 rfl rfl rfl ?_;refine sg rfl (a8 (sg rfl (aC (sg rfl (aA rfl nofun (fun _=>sg rfl (aA rfl (fun _=>a8 (sg rfl (aC (aK (fun k:Nat=>mk [(1,aV names),(2,.one (.vp 2 0)),(5,I .i64 ((k:Int)-1))] [(2,.var 33 ((bD (.mk 2 n s a)).map R.c))]) (fun k=>k≤names.length∧lU s names k=out) (fun k=>k) names.length ⟨le_refl _,hout⟩ (sl (he:=⟨rfl,rfl,by rw[←hkl];rfl,trivial⟩)) ?_)))) nofun)))))));intro k ⟨hk,O⟩;refine a8 (sg rfl (aA rfl (fun hb=>?_) (fun hb=>?_)))
  ·have hk0:0<k:=by have:=ψ hb;omega
   obtain⟨k,rfl⟩:∃j,k=j+1:=⟨k-1,by omega⟩
   obtain⟨x,hx⟩:=aJ (l:=names) (k:=k) (by omega);have hx':=bW b6 hx;have hki:((k+1:Nat):Int)-1=(k:Int):=by omega
   rw[hki];rw[lU,hx] at O;refine aD (a8 (aC (sgh [(2,.row k (b6 x))] rfl (aA rfl (fun hb=>?_) (fun hb=>?_)))))
   ·have he:x=s:=ψ hb;rw[ξ (by rw[he])] at O;subst O;obtain⟨d1,d2⟩:=hD k (by omega);refine sk 5 rfl ?_ (hc:=by repeat (first | exact trivial | refine⟨by first | rfl | omega | (simp;omega) | (unfold Ty.name;simp;omega) | (simp;done),?_⟩));refine kc d2 ?_;refine ak 2 [] rfl ?_ (hc:=by repeat (first | exact trivial | refine⟨by first | rfl | omega | (simp;omega) | (unfold Ty.name;simp;omega) | (simp;done),?_⟩));exact az (aE rtT)
   ·have he:¬x=s:=χ hb;rw[φ fun h=>he (Option.some.inj h)] at O;exact aD (ag [] rfl ⟨k,⟨by omega,O⟩,by dsimp only;omega,sl⟩)
  have hk0:k=0:=by have:=χ hb;omega
  subst hk0;rw[lU] at O;subst O;have hs:=hs rfl;refine aL (sg rfl ?_ (hc:=by repeat (first | exact trivial | refine⟨by first | rfl | omega | (simp;omega) | (unfold Ty.name;simp;omega) | (simp;done),?_⟩)));exact aE rtT
 by_cases h3:f=3
 ·subst h3;have ha:=w0 (by decide) (by decide);subst ha;refine⟨s,by rw[tW,φ (by decide),φ (by decide),tWs];show s.length≤3+s.length+0;omega,?_⟩;refine bQ (n:=91) tok Tryz.func91 rfl rfl rfl ?_;exact sg rfl (a8 (sg rfl (aC (sg rfl (aA rfl nofun (fun _=>sg rfl (aA rfl nofun (fun _=>sg rfl (aA rfl (fun _=>sg rfl (aE rtT)) nofun)))))))))
 by_cases h5:f=5
 ·subst h5;obtain⟨rfl,u,rfl⟩:=w5 rfl;rw[tns,tns] at h;have Z:tW szA (.mk 5 0 s [u]) r40=2+tW szA u r40:=by rw[aVe,aVj]
  have e2:tW fH (.mk 5 0 s [u]) r0=1+max (tW fH u r0) 0:=by
   rw[tW,φ (by decide),ξ rfl,tWs,tWs];show 1+max (tW fH u (fP r0 s 0)) 0=_;rw[yM]
  rw[Z] at hM0;rw[e2] at hl
  obtain⟨S,s1,s2⟩:=ih u (by omega) (Y u (by simp)) (fa u (by simp)) (names++[s]) (by rw[κ];simp;omega) (fun x N J=>by
   have hxs:¬x=s:=fun e=>J (by rw[e];simp)
   exact hx x (oP (by decide) (by simp) N (.inr hxs)) fun h=>J (τ.2 (.inl h))) (by omega)
  refine⟨[91]++S++[93],by rw[Z];simp;omega,?_⟩;obtain⟨uf,un,us,ua⟩:=u;have hrow:names.map b6++[[C.str (Ty.mk 5 0 s [Ty.mk uf un us ua]).name]]=(names++[s]).map b6:=by rw[At];rfl
  refine bQ (n:=91) tok Tryz.func91 rfl rfl rfl ?_;refine sg rfl (a8 (sg rfl (aC (sg rfl (aA rfl nofun (fun _=>sg rfl (aA rfl nofun (fun _=>sg rfl (aA rfl nofun (fun _=>sg rfl (aA rfl (fun _=>a8 (sg rfl (aA rfl (fun hb=>by simp[fV,eV] at hb) (fun _=>aD (sg rfl (sgh [(2,.all)] rfl (skh 9 [(2,.row 0 (bD (.mk uf un us ua))),(8,.fz)] rfl (kc s2 ?_)))))))) nofun)))))))))));refine ak 3 [] rfl ?_ (hc:=by repeat (first | exact trivial | refine⟨by first | rfl | omega | (simp;omega) | (unfold Ty.name;simp;omega) | (simp;done),?_⟩));exact az (aE rtT)
 by_cases h4:f=4
 ·subst h4;obtain⟨rfl,rfl,u,v,rfl⟩:=w4 rfl;rw[tns,tns,tns] at h;have Z:=aBc u v r40;have e2:tW fH (.mk 4 0 [] [u,v]) r0=max (tW fH u r0) (max (tW fH v r0) 0):=by rw[tW,φ (by decide),φ (by decide),tWs,tWs,tWs];rfl
  rw[Z] at hM0;rw[e2] at hl;obtain⟨S,s1,s2⟩:=ih u (by omega) (Y u (by simp)) (fa u (by simp)) names (by omega) (fun x N J=>hx x (oP (by decide) (by simp) N (.inl (by decide))) J) (by omega);obtain⟨S',s1',s2'⟩:=ih v (by omega) (Y v (by simp)) (fa v (by simp)) names (by omega) (fun x N J=>hx x (oP (by decide) (by simp) N (.inl (by decide))) J) (by omega);refine⟨[40]++S++[32]++S'++[41],by rw[Z];simp;omega,?_⟩;obtain⟨uf,un,us,ua⟩:=u;obtain⟨vf,vn,vs,va⟩:=v;refine bQ (n:=91) tok Tryz.func91 rfl rfl rfl ?_;refine sg rfl (a8 (sg rfl (aC (sg rfl (aA rfl nofun (fun _=>sg rfl (aA rfl nofun (fun _=>sg rfl (aA rfl nofun (fun _=>sg rfl (aA rfl nofun (fun _=>aD (a8 (a8 (agF 4 [] rfl rfl rfl (aA rfl (fun hb=>by simp[Ty.form,fV,eV] at hb) (fun _=>aD (skh 5 [(2,.row 0 (bD (.mk uf un us ua)))] rfl (kc s2 ?_)))))))))))))))))));refine ak 7 [(10,.row 1 (bD (.mk vf vn vs va)))] rfl ?_ (hc:=by repeat (first | exact trivial | refine⟨by first | rfl | omega | (simp;omega) | (unfold Ty.name;simp;omega) | (simp;done),?_⟩));refine kc s2' ?_;refine ak 3 [] rfl ?_ (hc:=by repeat (first | exact trivial | refine⟨by first | rfl | omega | (simp;omega) | (unfold Ty.name;simp;omega) | (simp;done),?_⟩));exact az (aE rtT)
 have ha:=w0 h4 h5;subst ha;have d1:decide (f=1)=false:=Ae f1;have d2:decide (f=2)=false:=Ae h2;have d3:decide (f=3)=false:=Ae h3;have d5:decide (f=5)=false:=Ae h5;refine⟨[],by simp,?_⟩;refine bQ (n:=91) tok Tryz.func91 rfl rfl rfl ?_;exact sg rfl (a8 (sg rfl (aC (sg rfl (aA rfl (fun hb=>absurd (ψ hb) f1) (fun _=>sg rfl (aA rfl (fun hb=>absurd (ψ hb) h2) (fun _=>sg rfl (aA rfl (fun hb=>absurd (ψ hb) h3) (fun _=>sg rfl (aA rfl (fun hb=>absurd (ψ hb) h5) (fun _=>aD (a8 (a8 (agF 4 [] rfl rfl rfl (aA rfl (fun _=>sg rfl (aE rtT)) (fun hb=>by simp[Ty.form,h4] at hb)))))))))))))))))
structure NL (W:Nat) (c:Core):Prop where
 q:eJ (QL 403) c
 a:qA c
 d:cw fH 0 c r0≤500
 s:cw szA 40 c r40≤W
section
variable {W:Nat}{f n:Int}{s:Str}{t:Ty}{ks:List Core}{bs:List Bind}{al:List Alt}
theorem NL.kid (h:NL W (.mk f n s t ks bs al)) {x:Core}(hx:x∈ks):NL W x:=by
 refine⟨(bB.1 h.q).2.1 x hx,(i7.1 h.a).2.1 x hx,?_,?_⟩
 ·have:=(dT.1 h.d).2.2.1 x hx;rwa [a2q] at this
 ·have:=(dT.1 h.s).2.2.1 x hx;split at this
  ·rwa [aVj] at this
  ·exact this
theorem NL.bind (h:NL W (.mk f n s t ks bs al)) {x:Bind}(hx:x∈bs):NL W x.body:=⟨(bB.1 h.q).2.2.1 x hx,((i7.1 h.a).2.2.1 x hx).2,((dT.1 h.d).2.2.2.1 x hx).2,((dT.1 h.s).2.2.2.1 x hx).2⟩
theorem NL.alt (h:NL W (.mk f n s t ks bs al)) {x:Alt}(hx:x∈al):NL W x.body:=⟨(bB.1 h.q).2.2.2 x hx,((i7.1 h.a).2.2.2 x hx).2.2,(dT.1 h.d).2.2.2.2 x hx,(dT.1 h.s).2.2.2.2 x hx⟩
end
def bnd (W:Nat) (c:Core):Nat:=2*(W*eX c)+10*m30 c
def aRt (W:Nat) (c:Core):Prop:=∀names vars:List Str,names.length+vars.length+m30 c≤1000000000→(∀x∈tyR c,¬x∈vars→x.length≤30)→bnd W c≤8000000000000000000→
 ∃S:Str,S.length+W≤bnd W c∧aU Tryz.prog 39 [.pa (aB c),aV names,aV vars] [] (Go.AM.T S) []
theorem aTy {α:Type}{S:α→Str}{B:α→Nat}:∀{l:List α},(∀x∈l,(S x).length≤B x)→(l.flatMap S).length≤(l.map B).sum
 | [],_=>by simp
 | c::l,h=>by
  rw[Ca,κ,Am,Bt];have:=h c ζ;have:=aTy (l:=l) fun x hx=>h x (ω _ hx)
  omega
theorem aGt {α:Type}{B:α→Nat}:∀{l:List α}(i:Nat),((l.take i).map B).sum≤(l.map B).sum
 | [],i=>by simp
 | x::l,0=>by simp
 | x::l,i+1=>by
  rw[An,Am,Am,Bt,Bt];have:=aGt (B:=B) (l:=l) i;omega
theorem kU {α:Type}{S:α→Str}{l:List α}{i:Nat}{x:α}(hx:l[i]?=some x):(l.take (i+1)).flatMap S=(l.take i).flatMap S++S x:=by
 rw[Bh,hx,Cj];simp
theorem vA (W:Nat) (c:Core):bnd W c=2*(W*eX c)+10*m30 c:=rfl
theorem a41 {W:Nat}:∀ks:List Core,(ks.map (bnd W)).sum≤2*(W*bR ks)+10*dA ks
 | []=>by simp
 | c::l=>by
  rw[Am,Bt,bR,dA,Cg W];have:=a41 (W:=W) l;have:=vA W c;omega
theorem a42 {W:Nat}:∀bs:List Bind,(bs.map fun b=>1+bnd W b.body).sum≤2*(W*dI bs)+10*fT bs
 | []=>by simp
 | .mk s t c::l=>by
  rw[Am,Bt,dI,fT,Cg W];have h1:=a42 (W:=W) l;have:=vA W c;have:=jV s;show 1+bnd W c+_≤_;omega
theorem a43 {W:Nat}:∀al:List Alt,(al.map fun a=>68+w30 a.name+bnd W a.body).sum≤2*(W*dW al)+10*gY al
 | []=>by simp
 | .mk f n s v c::l=>by
  rw[Am,Bt,dW,gY,Cg W];have h1:=a43 (W:=W) l;have:=vA W c;have:=jV s;show 68+w30 s+bnd W c+_≤_;omega
theorem a6q:∀ks:List Core,31*ks.length≤dA ks
 | []=>by simp
 | c::l=>by rw[dA,Ac];have:=a6q l;have:=dD c;omega
theorem a6r:∀bs:List Bind,31*bs.length≤fT bs
 | []=>by simp
 | .mk s t c::l=>by rw[fT,Ac];have:=a6r l;have:=dD c;omega
theorem a6s:∀al:List Alt,31*al.length≤gY al
 | []=>by simp
 | .mk f n s v c::l=>by rw[gY,Ac];have:=a6s l;have:=dD c;omega
def TyS (t:Ty) (W:Nat) (vars:List Str) (S:Str):Prop:=S.length≤W∧(t.form=0→S=[])∧(¬t.form=0→aU Tryz.prog 91 [tyV t,aV vars] [] (Go.AM.T S) [])
theorem a3d {t:Ty}{W:Nat}{vars:List Str}(hw:wfS t=true) (hf:tF t=true) (hv:vars.length≤1000000000) (hd:tW fH t r0≤500) (hs:tW szA t r40≤W) (u:W≤8000000000000000000) (hx:∀x∈tfR t,¬x∈vars→x.length≤30):∃S,TyS t W vars S:=by
 by_cases h0:t.form=0
 ·exact⟨[],by simp,fun _=>rfl,fun h=>absurd h0 h⟩
 ·obtain⟨S,s1,s2⟩:=a3g (tn t) t (le_refl _) hw hf vars (by omega) hx (by omega);exact⟨S,by omega,fun h=>absurd h h0,fun _=>s2⟩
def bS (T S:Bind→Str) (b:Bind):Str:=[61]++T b++S b
set_option maxHeartbeats 8000000
theorem aPu {W:Nat}(c:Core) (hc:NL W c) (ih:∀x,m30 x<m30 c→NL W x→aRt W x):aRt W c:=by
 intro names vars hl hx hB;obtain⟨f,n,nm,t,ks,bs,al⟩:=c;have hM:9000000000000000000≤maxLen:=by decide
 obtain⟨⟨hok,q7,qw,qbw,qlw,_⟩,_,_,_⟩:=bB.1 hc.q;obtain⟨⟨hf,hn,htF⟩,_,hbF,haF⟩:=i7.1 hc.a;have hw30:=jV nm;have hlw:w30 nm≤402:=by unfold lw at qlw;omega
 have hnm30:nm.length≤w30 nm:=by unfold w30;omega
 have hm:m30 (.mk f n nm t ks bs al)=1+w30 nm+dA ks+fT bs+gY al:=by rw[m30]
 have hb12:=a6o qlw;rw[θ] at hb12;have hkl3:=a6q ks;have hbl3:=a6r bs;have hal3:=a6s al;have hW1:W≤W*eX (.mk f n nm t ks bs al):=A7 _ (by rw[eX];omega);have hB':=hB;rw[vA] at hB';have hsz:W*eX (.mk f n nm t ks bs al)=W+(W*bR ks+(W*dI bs+W*dW al)):=by rw[eX,Cg,Cg,Cg,mul_one]
 obtain⟨S1,l1,c1⟩:=q9 f hf;obtain⟨S2,l2,c2⟩:=q9 n hn;by_cases h1:f=1
 ·obtain⟨P,p1,p2⟩:=aY3 nm names (by omega) (by omega);refine⟨([40]++S1++[32]++S2++[32])++P++[41],?_,?_⟩
  ·rw[vA];simp only[κ,Ac,length_nil];omega
  refine bQ (n:=200) tok Tryz.func39 rfl rfl rfl ?_;refine sg rfl (sk 2 rfl (kc c1 ?_));refine ak 4 [] rfl ?_ (hc:=by repeat (first | exact trivial | refine⟨by first | rfl | (simp;omega),?_⟩));refine kc c2 ?_;refine ak 3 [] rfl ?_ (hc:=by repeat (first | exact trivial | refine⟨by first | rfl | (simp;omega),?_⟩));refine az (a8 (sg rfl (aA rfl (fun _=>sk 4 rfl (kc p2 ?_)) (fun hb=>absurd h1 (χ hb)))));refine ak 3 [] rfl ?_ (hc:=by repeat (first | exact trivial | refine⟨by first | rfl | (simp;omega),?_⟩));exact az (aE (rtT (hc:=.refl)))
 obtain⟨T,T1,T2,T3⟩:=a3d (t:=t) (W:=W) (vars:=vars) qw htF (by omega) (dT.1 hc.d).2.1 (dT.1 hc.s).2.1 (by omega) (fun x hxt hxv=>hx x (bU.2 (.inl hxt)) hxv);have hvs:∀x∈vars,x∈vars++(if f=7 then [nm] else []):=fun x h=>τ.2 (.inl h)
 obtain⟨ins,hins⟩:∃ins,ins=names++gvN f nm bs:=⟨_,rfl⟩
 obtain⟨tys,Z⟩:∃tys,tys=vars++(if f=7 then [nm] else []):=⟨_,rfl⟩
 have hil:ins.length≤names.length+1+bs.length:=by
  rw[hins,κ];unfold gvN;rw[κ,θ];split<;>simp<;>omega
 have htl:tys.length≤vars.length+1:=by rw[Z,κ];split<;>simp
 have hxk:∀k∈ks,∀x∈tyR k,¬x∈tys→x.length≤30:=fun k hk x hxk hxt=>by
  rw[Z] at hxt;refine hx x (bU.2 (.inr (.inl ⟨k,hk,hxk,?_⟩))) fun h=>hxt (τ.2 (.inl h))
  by_cases h7:f=7
  ·exact .inr fun e=>hxt (by rw[e,ξ h7];simp)
  ·exact .inl h7
 have hxo:∀x,x∈tyR (.mk f n nm t ks bs al)→¬x∈tys→x.length≤30:=fun x h1 h2=>hx x h1 fun h=>h2 (by rw[Z];exact τ.2 (.inl h))
 have hSK:∀x:Core,∃S:Str,x∈ks→S.length+W≤bnd W x∧aU Tryz.prog 39 [.pa (aB x),aV ins,aV tys] [] (Go.AM.T S) []:=fun x=>by
  by_cases u:x∈ks
  ·have h3:=fX u;have h4:=yD (g:=bnd W) u;have h5:=a41 (W:=W) ks;obtain⟨S,s1,s2⟩:=ih x (by omega) (hc.kid u) ins tys (by omega) (hxk x u) (by omega);exact⟨S,fun _=>⟨s1,s2⟩⟩
  ·exact⟨[],fun h=>absurd h u⟩
 obtain⟨SK,hSK⟩:=Classical.axiomOfChoice hSK;have hSB:∀x:Bind,∃S:Str,x∈bs→S.length+W≤bnd W x.body∧aU Tryz.prog 39 [.pa (aB x.body),aV ins,aV tys] [] (Go.AM.T S) []:=fun x=>by
  by_cases u:x∈bs
  ·have h3:=nY u;have h4:=sG (g:=fun b:Bind=>1+bnd W b.body) u;have h5:=a42 (W:=W) bs;obtain⟨S,s1,s2⟩:=ih x.body (by omega) (hc.bind u) ins tys (by omega) (fun y hy=>hxo y (bU.2 (.inr (.inr (.inl ⟨x,u,.inr hy⟩))))) (by omega);exact⟨S,fun _=>⟨s1,s2⟩⟩
  ·exact⟨[],fun h=>absurd h u⟩
 obtain⟨SB,hSB⟩:=Classical.axiomOfChoice hSB;have hTB:∀x:Bind,∃S:Str,x∈bs→TyS x.ty W tys S:=fun x=>by
  by_cases u:x∈bs
  ·obtain⟨S,hS⟩:=a3d (t:=x.ty) (W:=W) (vars:=tys) (qbw (bhd x) (Af.2 ⟨x,u,rfl⟩)) (hbF x u).1 (by omega) ((dT.1 hc.d).2.2.2.1 x u).1 ((dT.1 hc.s).2.2.2.1 x u).1 (by omega) (fun y hy=>hxo y (bU.2 (.inr (.inr (.inl ⟨x,u,.inl hy⟩)))));exact⟨S,fun _=>hS⟩
  ·exact⟨[],fun h=>absurd h u⟩
 obtain⟨TB,hTB⟩:=Classical.axiomOfChoice hTB;have hSA:∀x:Alt,∃S:Str,x∈al→S.length+W≤bnd W x.body∧aU Tryz.prog 39 [.pa (aB x.body),aV (ins++x.vars),aV tys] [] (Go.AM.T S) []:=fun x=>by
  by_cases u:x∈al
  ·have h3:=fE u;have h4:=sG (g:=fun a:Alt=>68+w30 a.name+bnd W a.body) u;have h5:=a43 (W:=W) al;have h6:=mD x.vars;obtain⟨S,s1,s2⟩:=ih x.body (by omega) (hc.alt u) (ins++x.vars) tys (by rw[κ];omega) (fun y hy=>hxo y (bU.2 (.inr (.inr (.inr ⟨x,u,hy⟩))))) (by omega);exact⟨S,fun _=>⟨s1,s2⟩⟩
  ·exact⟨[],fun h=>absurd h u⟩
 obtain⟨SA,hSA⟩:=Classical.axiomOfChoice hSA;have hDA:∀x:Alt,∃D:Str×Str×Str,x∈al→(D.1.length≤21∧aU Tryz.prog 45 [I .i64 x.form] [] (Go.AM.T D.1) [])∧(D.2.1.length≤21∧aU Tryz.prog 45 [I .i64 x.n] [] (Go.AM.T D.2.1) [])∧D.2.2.length≤21∧aU Tryz.prog 45 [I .i64 ((x.vars.map b6).length:Nat)] [] (Go.AM.T D.2.2) []:=fun x=>by
  by_cases u:x∈al
  ·obtain⟨g1,g2,_⟩:=haF x u;have h3:=fE u;have h6:=mD x.vars;obtain⟨D1,a1,b1⟩:=q9 x.form (by unfold aF at g1;unfold i64;omega);obtain⟨D2,a2,b2⟩:=q9 x.n g2;obtain⟨D3,a3,b3⟩:=q9 ((x.vars.map b6).length:Nat) (by rw[θ];unfold i64;omega);exact⟨(D1,D2,D3),fun _=>⟨⟨a1,b1⟩,⟨a2,b2⟩,a3,b3⟩⟩
  ·exact⟨([],[],[]),fun h=>absurd h u⟩
 obtain⟨DA,hDA⟩:=Classical.axiomOfChoice hDA;have hwA:∀x∈al,x.name.length≤w30 x.name:=fun x _=>by unfold w30;omega
 obtain⟨aS,haS⟩:∃aS:Alt→Str,aS=fun a=>([124]++(DA a).1++[32]++(DA a).2.1++[32]++a.name++[32]++(DA a).2.2)++SA a:=⟨_,rfl⟩
 have lK:∀i,((ks.take i).flatMap SK).length≤2*(W*bR ks)+10*dA ks:=fun i=>by
  have h3:=aTy (S:=SK) (B:=bnd W) (l:=ks.take i) fun x hx=>by have:=(hSK x (Bb hx)).1;omega
  have h4:=aGt (B:=bnd W) (l:=ks) i;have h5:=a41 (W:=W) ks;omega
 have lB:∀i,((bs.take i).flatMap (bS TB SB)).length≤2*(W*dI bs)+10*fT bs:=fun i=>by
  have h3:=aTy (S:=bS TB SB) (B:=fun b=>1+bnd W b.body) (l:=bs.take i) fun x hx=>by
   have:=(hSB x (Bb hx)).1
   have:=(hTB x (Bb hx)).1
   unfold bS;simp only[κ,Ac,length_nil];omega
  have h4:=aGt (B:=fun b:Bind=>1+bnd W b.body) (l:=bs) i;have h5:=a42 (W:=W) bs;omega
 have lA:∀i,((al.take i).flatMap aS).length≤2*(W*dW al)+10*gY al:=fun i=>by
  have h3:=aTy (S:=aS) (B:=fun a=>68+w30 a.name+bnd W a.body) (l:=al.take i) fun x hx=>by
   have u:=Bb hx;have g1:=(hSA x u).1
   obtain⟨⟨d1,_⟩,⟨d2,_⟩,d3,_⟩:=hDA x u;have:=hwA x u;rw[haS];simp only[κ,Ac,length_nil];omega
  have h4:=aGt (B:=fun a:Alt=>68+w30 a.name+bnd W a.body) (l:=al) i;have h5:=a43 (W:=W) al;omega
 obtain⟨N,hN,hNl⟩:∃N:Str,N=(if f=5∨f=7 then [] else nm)∧N.length≤w30 nm:=⟨_,rfl,by split;exact Ag _;exact hnm30⟩
 obtain⟨Y,hY,hYl⟩:∃Y:Str,Y=(if t.form=0 then [] else [58]++T)∧Y.length≤1+W:=⟨_,rfl,by split<;>simp<;>omega⟩
 refine⟨([40]++S1++[32]++S2++[32])++N++Y++ks.flatMap SK++bs.flatMap (bS TB SB)++al.flatMap aS++[41],?_,?_⟩
 ·have g1:=lK ks.length;have g2:=lB bs.length;have g3:=lA al.length;rw[Al] at g1 g2 g3;rw[vA];simp only[κ,Ac,length_nil];omega
 have hl0:([40]++S1++[32]++S2++[32]:Str).length≤45:=by simp only[κ,Ac,length_nil];omega
 refine bQ (n:=200) tok Tryz.func39 rfl rfl rfl ?_;refine sg rfl (sk 2 rfl (kc c1 ?_));refine ak 4 [] rfl ?_ (hc:=by repeat (first | exact trivial | refine⟨by first | rfl | (simp;omega),?_⟩));refine kc c2 ?_;refine ak 3 [] rfl ?_ (hc:=by repeat (first | exact trivial | refine⟨by first | rfl | (simp;omega),?_⟩));refine az ?_;generalize hpre:([40]++S1++[32]++S2++[32]:Str)=pre at *;refine a8 (sg rfl (aA rfl (fun hb=>absurd (ψ hb) h1) (fun _=>aD (a8 (AWp.cut (mk [(1,aV names),(2,aV vars),(3,.one (.vp 3 0)),(7,Go.AM.T (pre++N))] [(3,.var 37 (aW (.mk f n nm t ks bs al)))]) ?_ ?_)))))
 ·refine a8 (agF 4 [] rfl rfl rfl (aA rfl (fun hb=>?_) (fun hb=>?_)))
  ·have hb:(bif !decide (f=5) then !decide (f=7) else false)=true:=hb;have h57:¬(f=5∨f=7):=by
    rintro(e | e)
    ·rw[Ad e] at hb;cases hb
    ·have e5:¬f=5:=by omega
     rw[Ad e,Ae e5] at hb;cases hb
   rw[φ h57] at hN;subst hN;exact ag [] rfl sl (hc:=⟨by show pre.length+N.length≤maxLen;omega,trivial⟩)
  ·have hb:(bif !decide (f=5) then !decide (f=7) else false)=false:=hb;have h57:f=5∨f=7:=by
    by_cases e5:f=5
    ·exact .inl e5
    ·by_cases e7:f=7
     ·exact .inr e7
     ·rw[Ae e5,Ae e7] at hb;cases hb
   rw[ξ h57] at hN;subst hN;exact aD (sl (he:=⟨rfl,rfl,rfl,by rw[Ax];rfl,trivial⟩))
 generalize hpre2:(pre++N:Str)=pre2 at *;have hl2:pre2.length≤45+w30 nm:=by rw[←hpre2,κ];omega
 clear hpre2;obtain⟨tf,O,ts,ta⟩:=t;refine a8 (AWp.cut (mk [(1,aV names),(2,aV vars),(3,.one (.vp 3 0)),(7,Go.AM.T (pre2++Y))] [(3,.var 37 (aW (.mk f n nm (.mk tf O ts ta) ks bs al)))]) ?_ ?_)
 ·refine sg rfl (aA rfl (fun hb=>?_) (fun hb=>?_))
  ·have h0:¬tf=0:=fun e=>by have hb:(!decide (tf=0))=true:=hb;rw[Ad e] at hb;cases hb
   rw[φ (show ¬(Ty.mk tf O ts ta).form=0 from h0)] at hY;subst hY;have hT:=T3 h0;refine aI mixed (ak 5 [] rfl (kc hT ?_) (hc:=⟨by simp only[κ,Ac,length_nil];omega,trivial⟩));exact kz 2 rfl (sl (he:=⟨rfl,rfl,rfl,by rw[←Ay];rfl,trivial⟩)) (hc:=⟨by simp only[κ,Ac,length_nil];omega,trivial⟩)
  ·have h0:tf=0:=by
    by_cases e:tf=0
    ·exact e
    ·have hb:(!decide (tf=0))=false:=hb;rw[Ae e] at hb;cases hb
   rw[ξ (show(Ty.mk tf O ts ta).form=0 from h0)] at hY;subst hY;exact aD (sl (he:=⟨rfl,rfl,rfl,by rw[Ax];rfl,trivial⟩))
 generalize hpre3:(pre2++Y:Str)=aa at *;have hl3:aa.length≤46+w30 nm+W:=by rw[←hpre3,κ];omega
 clear hpre3;refine sg rfl (sg rfl (sg rfl (sg rfl ?_)));have hE1:(if f=5 then [nm] else []).length≤1:=by split<;>simp
 have hE2:(if f=7 then [nm] else []).length≤1:=by split<;>simp
 refine a8 (AWp.cut (mk [(3,.one (.vp 3 0)),(7,Go.AM.T aa),(8,.one (.hs 61 0 (names++(if f=5 then [nm] else [])).length (names++(if f=5 then [nm] else [])).length)),(9,.one (.hs 64 0 vars.length vars.length))] [(3,.var 37 (aW (.mk f n nm (.mk tf O ts ta) ks bs al))),(61,.arr 9 1 ((names++(if f=5 then [nm] else [])).map b6) 0),(64,.arr 9 1 (vars.map b6) 0)]) ?_ ?_)
 ·refine sg rfl (aA rfl (fun hb=>?_) (fun hb=>?_))
  ·have h5:f=5:=ψ hb;rw[ξ h5];exact ag [] rfl sl
  ·have h5:¬f=5:=χ hb;rw[φ h5,Ax];exact aD sl
 have hgv:gvN f nm bs=(if f=5 then [nm] else [])++bs.map Bind.name:=rfl;refine a8 (AWp.cut (mk [(3,.one (.vp 3 0)),(7,Go.AM.T aa),(8,.one (.hs 61 0 (names++(if f=5 then [nm] else [])).length (names++(if f=5 then [nm] else [])).length)),(9,.one (.hs 64 0 tys.length tys.length))] [(3,.var 37 (aW (.mk f n nm (.mk tf O ts ta) ks bs al))),(61,.arr 9 1 ((names++(if f=5 then [nm] else [])).map b6) 0),(64,.arr 9 1 (tys.map b6) 0)]) ?_ ?_)
 ·refine sg rfl (aA rfl (fun hb=>?_) (fun hb=>?_))
  ·have h7:f=7:=ψ hb;rw[ξ h7] at Z;subst Z;exact ag [] rfl sl
  ·have h7:¬f=7:=χ hb;rw[φ h7,Ax] at Z;subst Z;exact aD sl
 generalize (if f=5 then [nm] else [])=w at hE1 hgv ⊢;have hkB:(aQ bs).length=bs.length:=by rw[bH,θ]
 have hkK:(aO ks).length=ks.length:=by rw[aR,θ]
 have hkA:(bV al).length=al.length:=by rw[bF,θ]
 refine a8 (sg rfl (aC (aK (fun i:Nat=>mk [(3,.one (.vp 3 0)),(7,Go.AM.T aa),(8,.one (.hs 61 0 (names.length+w.length+i) (names.length+w.length+i))),(9,.one (.hs 64 0 tys.length tys.length)),(10,I .i64 i)] [(3,.var 37 (aW (.mk f n nm (.mk tf O ts ta) ks bs al))),(61,.arr 9 1 ((names++(w++(bs.take i).map Bind.name)).map b6) 0),(64,.arr 9 1 (tys.map b6) 0)]) (fun i=>i≤bs.length) (fun i=>bs.length-i) 0 (Ag _) sl ?_)));intro i hi;refine a8 (sg rfl (aA rfl (fun hb=>?_) (fun hb=>?_)))
 ·have J:=ltD hb hkB;obtain⟨b,ab⟩:=aJ J;have hbi':=bX ab;have hrows:(names++(w++(bs.take i).map Bind.name)).map b6++[[.str b.name]]=(names++(w++(bs.take (i+1)).map Bind.name)).map b6:=by
   rw[eO ab];simp[b6]
  exact aD (a8 (aC (ag [(4,.row i (b8 b))] rfl (ag [] rfl ⟨i+1,J,by dsimp only;omega,sl⟩))))
 have ad:=geD hb hkB hi;subst ad;refine aL ?_;rw[Al,←hgv,←hins];have hil2:names.length+w.length+bs.length=ins.length:=by rw[hins,hgv];simp[Br]
 rw[hil2];have hi1:ins.length=(ins.map b6).length:=by rw[θ]
 have hi2:tys.length=(tys.map b6).length:=by rw[θ]
 refine AWp.sub (Sub.freeze (id:=61) rfl) (AWp.sub (Sub.freeze (id:=64) rfl) (AWp.sub (cv 8 (ins.map b6)) (AWp.sub (cv 9 (tys.map b6)) ?_)));refine a8 (sg rfl (aC (aK (fun i:Nat=>mk [(3,.one (.vp 3 0)),(7,Go.AM.T (aa++(ks.take i).flatMap SK)),(8,aV ins),(9,aV tys),(11,I .i64 i)] [(3,.var 37 (aW (.mk f n nm (.mk tf O ts ta) ks bs al)))]) (fun i=>i≤ks.length) (fun i=>ks.length-i) 0 (Ag _) (sl (he:=⟨rfl,by rw[Bj,Ck,Ax];rfl,rfl,rfl,rfl,trivial⟩)) ?_)));intro i hi;refine a8 (sg rfl (aA rfl (fun hb=>?_) (fun hb=>?_)))
 ·have J:=ltD hb hkK;obtain⟨x,hxi⟩:=aJ J;have hxi':=dB hxi;obtain⟨g1,g2⟩:=hSK x (η hxi);have h3:=lK (i+1);rw[kU hxi,κ] at h3;refine aD (a8 (aC (aI mixed (ak 8 [(4,.row i (aB x))] rfl (kc g2 ?_)))));exact kz 2 rfl (ag [] rfl ⟨i+1,J,by dsimp only;omega,sl (he:=⟨rfl,by rw[kU hxi,←Ay];rfl,rfl,rfl,rfl,trivial⟩)⟩) (hc:=⟨by simp only[κ];omega,trivial⟩)
 have ad:=geD hb hkK hi;subst ad;have hl4:=lK ks.length;rw[Al] at hl4;refine aL ?_;rw[Al];generalize hpre4:(aa++ks.flatMap SK:Str)=pre4 at *;have hl4':pre4.length≤46+w30 nm+W+2*(W*bR ks)+10*dA ks:=by rw[←hpre4,κ];omega
 clear hpre4;refine a8 (sg rfl (aC (aK (fun i:Nat=>mk [(3,.one (.vp 3 0)),(7,Go.AM.T (pre4++(bs.take i).flatMap (bS TB SB))),(8,aV ins),(9,aV tys),(12,I .i64 i)] [(3,.var 37 (aW (.mk f n nm (.mk tf O ts ta) ks bs al)))]) (fun i=>i≤bs.length) (fun i=>bs.length-i) 0 (Ag _) (sl (he:=⟨rfl,by rw[Bj,Ck,Ax];rfl,rfl,rfl,rfl,trivial⟩)) ?_)));intro i hi;refine a8 (sg rfl (aA rfl (fun hb=>?_) (fun hb=>?_)))
 ·have J:=ltD hb hkB;obtain⟨b,ab⟩:=aJ J;have hbi':=bX ab;have hbm:=η ab;obtain⟨g1,g2⟩:=hSB b hbm;obtain⟨u1,u2,u3⟩:=hTB b hbm;have h3:=lB (i+1);rw[kU ab,κ] at h3;have h4:(bS TB SB b).length=1+(TB b).length+(SB b).length:=by unfold bS;simp only[κ,Ac,length_nil]
  obtain⟨bn,⟨uf,un,us,ua⟩,bc⟩:=b;refine aD (a8 (aC (sg rfl (a8 (AWp.cut (mk [(3,.one (.vp 3 0)),(7,Go.AM.T (pre4++(bs.take i).flatMap (bS TB SB)++[61]++TB (.mk bn (.mk uf un us ua) bc))),(8,aV ins),(9,aV tys),(12,I .i64 i)] [(3,.var 37 (aW (.mk f n nm (.mk tf O ts ta) ks bs al)))]) ?_ ?_)) (hc:=⟨by simp only[κ,Ac,length_nil];omega,trivial⟩))))
  ·refine sgh [(3,.row i (b8 (.mk bn (.mk uf un us ua) bc)))] rfl (aA rfl (fun hb=>?_) (fun hb=>?_))
   ·have h0:¬uf=0:=fun e=>by have hb:(!decide (uf=0))=true:=hb;rw[Ad e] at hb;cases hb
    have hT:=u3 h0;refine aI mixed (ak 8 [(4,.row i (b8 (.mk bn (.mk uf un us ua) bc)))] rfl (kc hT ?_));exact kz 2 rfl sl (hc:=⟨by simp only[κ,Ac,length_nil];omega,trivial⟩)
   ·have h0:uf=0:=by
     by_cases e:uf=0
     ·exact e
     ·have hb:(!decide (uf=0))=false:=hb;rw[Ae e] at hb;cases hb
    have e0:=u2 h0;rw[e0,Ax];exact aD sl
  refine aI mixed (ak 9 [(4,.row i (b8 (.mk bn (.mk uf un us ua) bc)))] rfl (kc g2 ?_));exact kz 2 rfl (ag [] rfl ⟨i+1,J,by dsimp only;omega,sl (he:=⟨rfl,by rw[kU ab];unfold bS;simp only[Ay];rfl,rfl,rfl,rfl,trivial⟩)⟩) (hc:=⟨by simp only[κ,Ac,length_nil];omega,trivial⟩)
 have ad:=geD hb hkB hi;subst ad;have hl5:=lB bs.length;rw[Al] at hl5;refine aL ?_;rw[Al];generalize hpre5:(pre4++bs.flatMap (bS TB SB):Str)=pre5 at *;have hl5':pre5.length≤46+w30 nm+W+2*(W*bR ks)+10*dA ks+2*(W*dI bs)+10*fT bs:=by rw[←hpre5,κ];omega
 clear hpre5;refine a8 (sg rfl (aC (aK (fun i:Nat=>mk [(3,.one (.vp 3 0)),(7,Go.AM.T (pre5++(al.take i).flatMap aS)),(8,aV ins),(9,aV tys),(13,I .i64 i)] [(3,.var 37 (aW (.mk f n nm (.mk tf O ts ta) ks bs al)))]) (fun i=>i≤al.length) (fun i=>al.length-i) 0 (Ag _) (sl (he:=⟨rfl,by rw[Bj,Ck,Ax];rfl,rfl,rfl,rfl,trivial⟩)) ?_)));intro i hi;refine a8 (sg rfl (aA rfl (fun hb=>?_) (fun hb=>?_)))
 ·have J:=ltD hb hkA;obtain⟨a,hai⟩:=aJ J;have hai':=fZ hai;have ham:=η hai;obtain⟨g1,g2⟩:=hSA a ham;obtain⟨⟨d1,d1'⟩,⟨d2,d2'⟩,d3,d3'⟩:=hDA a ham;have h3:=lA (i+1);rw[kU hai,κ] at h3;have h4:(aS a).length=4+(DA a).1.length+(DA a).2.1.length+a.name.length+(DA a).2.2.length+(SA a).length:=by rw[haS];simp only[κ,Ac,length_nil];omega
  have h6:=mD a.vars;have h7:=fE ham;have h8:(ins++a.vars).length=((ins++a.vars).map b6).length:=by rw[θ]
  obtain⟨af,an,as',av,ac⟩:=a;refine aD (a8 (aC (sgh [(3,.row i (c7 (.mk af an as' av ac)))] rfl (sk 4 rfl (kc d1' ?_) (hc:=⟨by simp only[κ,Ac,length_nil];omega,trivial⟩)))));refine ak 4 [] rfl ?_ (hc:=by repeat (first | exact trivial | refine⟨by simp only[κ,Ac,length_nil];omega,?_⟩));refine kc d2' ?_;refine ak 9 [] rfl ?_ (hc:=by repeat (first | exact trivial | refine⟨by simp only[κ,Ac,length_nil];omega,?_⟩));refine kc d3' ?_;refine ak 2 [] rfl ?_ (hc:=by repeat (first | exact trivial | refine⟨by simp only[κ,Ac,length_nil];omega,?_⟩));refine az (sg rfl (sgh [(2,.all)] rfl (aI mixed (ak 8 [(6,.fz)] rfl (kc g2 ?_)))));refine ak 2 [] rfl ?_ (hc:=by repeat (first | exact trivial | refine⟨by simp only[κ,Ac,length_nil];omega,?_⟩));exact az (ag [] rfl ⟨i+1,J,by dsimp only;omega,sl (he:=⟨rfl,by rw[kU hai,haS];simp only[Ay];rfl,rfl,rfl,rfl,trivial⟩)⟩)
 have ad:=geD hb hkA hi;subst ad;have hl6:=lA al.length;rw[Al] at hl6;refine aL ?_;rw[Al];exact sg rfl (aE (rtT (hc:=.refl))) (hc:=⟨by simp only[κ,Ac,length_nil];omega,trivial⟩)
theorem aWn {W:Nat}:∀(k:Nat) (c:Core),m30 c≤k→NL W c→aRt W c
 | 0,c,h,_=>by have:=dD c;omega
 | k+1,c,h,hc=>aPu c hc fun x hx hn=>aWn k x (by omega) hn
theorem aQh {W:Nat}{c:Core}(hc:NL W c) (u:m30 c≤500000000) (hb:bnd W c≤8000000000000000000) (hx:∀x∈tyR c,x.length≤30):aU Tryz.prog 12 [.pa (aB c),.pa (aB c)] [] (B true) []:=by
 obtain⟨s,_,hs⟩:=aWn _ c (le_refl _) hc [] [] (by simp;omega) (fun x h _=>hx x h) hb;refine bQ (n:=10) tok Tryz.func12 rfl rfl rfl ?_;refine sg rfl (sk 1 rfl (kc hs ?_));refine ak 1 [] rfl (kc hs ?_);refine kz 2 rfl ?_;have e:decide (s=s)=true:=Ad rfl;exact aE (rtT (hv:=by show some (B (decide (s=s)))=some (B true);rw[e]))
theorem a6h:∀x∈V0,x.length≤30:=by decide
structure SV (n:Nat) (W:Nat) (c:Core):Prop where
 st:ST n V0 c
 gi:GI c
 sz:cw szA 40 c r40≤W
theorem SV.same {n W:Nat}(hn:n≤99) {c:Core}(h:SV n W c) (u:W≤4000000000000000) (hs:eX c≤400):aU Tryz.prog 12 [.pa (aB c),.pa (aB c)] [] (B true) []:=by
 have h1:=mU c h.st.q;have h2:403*eX c≤403*400:=C4 _ hs;have h3:W*eX c≤4000000000000000*400:=mul_le_mul u hs;refine aQh (W:=W) ⟨h.st.q,h.gi.a,?_,h.sz⟩ (by omega) (by rw[vA];omega) fun x hx=>a6h x (h.st.ty x hx)
 have g1:=h.st.cw (n*3) (le_refl _);have g2:=lI (A:=fH) (E:=0) (E':=n*3) (Ag _) (c:=c) (ρ:=r0) (ρ':=r0) (fun _=>le_refl _);omega
def eM:Nat→Nat
 | 0=>40
 | n+1=>4*eM n+77
theorem aT4:∀n,40≤eM n
 | 0=>le_refl _
 | n+1=>by rw[eM];have:=aT4 n;omega
theorem aY6 (n:Nat):eM n≤eM (n+1):=by rw[eM];omega
structure IM (n:Nat) (c:Core):Prop where
 st:ST n V0 c
 gi:GI c
 sz:SZ 4 77 (eM n) c
structure IT (n:Nat) (c:Core):Prop where
 st:ST n V0 c
 gi:GI c
 sz:∃j,SZ 100 0 (40*100^j) c∧(2*j≤n∨(2*j=n+1∧∀k,tA k c=false))
 ps:pS c
theorem IM.sv {n:Nat}{c:Core}(h:IM n c) (hn:n≤12):SV n 4000000000000000 c:=by
 refine⟨h.st,h.gi,?_⟩;have h1:=h.sz (eM n) (le_refl _);have h2:=lI (A:=szA) (aT4 n) (c:=c) (ρ:=r40) (ρ':=r40) (fun _=>le_refl _);have h3:eM n≤100000000000000:=by
  have:eM 12≤100000000000000:=by decide
  have hm:∀i,i≤12→eM (12-i)≤eM 12:=by
   intro i
   induction i with
   | zero=>intro _;exact le_refl _
   | succ i u=>
    intro hi;have:=u (by omega);have:=aY6 (12-(i+1));rw[show 12-(i+1)+1=12-i by omega] at this;omega
  have:=hm (12-n) (by omega);rw[show 12-(12-n)=n by omega] at this;omega
 omega
theorem IT.sv {n:Nat}{c:Core}(h:IT n c) (hn:n≤12):SV n 4000000000000000 c:=by
 obtain⟨j,hj,hp⟩:=h.sz;refine⟨h.st,h.gi,?_⟩;have u:j≤6:=by omega
 have I:40≤40*100^j:=A7 _ (Nat.pow_pos (by decide));have h1:=hj (40*100^j) (le_refl _);have h2:=lI (A:=szA) I (c:=c) (ρ:=r40) (ρ':=r40) (fun _=>le_refl _);have h3:100^j≤100^6:=Nat.pow_le_pow_right (by decide) u;have h4:(100:Nat)^6=1000000000000:=by decide
 omega
section
variable {bd:List Bind}{n:Nat}{c:Core}
theorem vK:V0.length≤480000:=by rw[a4h];omega
theorem IM.next (u:dJ 540000000000) (I:BI V0 bd) (J:∀b∈bd,GI b.body) (N:∀b∈bd,SZ 4 77 40 b.body) (hn:n≤90) (h:IM n c) (h0:(cD bd (m30 c) c).2=0) (hs:eX (cD bd (m30 c) c).1≤400):IM (n+1) (cD bd (m30 c) c).1:=by
 have h1:=pH u (n:=n) (by omega) vK I (m30 c) c (le_refl _) h.st h0;have h2:=aGw u (n:=n) (by omega) vK J (m30 c) c (le_refl _) h.st h.gi h0;have h3:=aGv u (n:=n) (by omega) vK (V:=4) (K:=77) (by decide) (aT4 n) (fun b hb=>(N b hb).mono (aT4 n)) (m30 c) c (le_refl _) h.st h.sz h0;refine⟨h1.st (by omega),h2,h3.mono ?_⟩;unfold nxE;rw[eM];split<;>omega
theorem IT.next (J:dJ 540000000000) (N:BI V0 bd) (O:∀b∈bd,GI b.body) (Y:∀b∈bd,SZ 100 0 40 b.body) (Z:∀b∈bd,pZ b.body) (hn:n≤90) (h:IT n c) (h0:(cD bd (m30 c) c).2=0) (hs:eX (cD bd (m30 c) c).1≤400):IT (n+1) (cD bd (m30 c) c).1:=by
 have h1:=pH J (n:=n) (by omega) vK N (m30 c) c (le_refl _) h.st h0;have h2:=aGw J (n:=n) (by omega) vK O (m30 c) c (le_refl _) h.st h.gi h0;obtain⟨j,hj,hp⟩:=h.sz;have I:40≤40*100^j:=A7 _ (Nat.pow_pos (by decide));have h3:=aGv J (n:=n) (by omega) vK (V:=100) (K:=0) (by decide) I (fun b hb=>(Y b hb).mono I) (m30 c) c (le_refl _) h.st hj h0;obtain⟨g1,g2⟩:=aSh Z (m30 c) c h.ps h0;refine⟨h1.st (by omega),h2,?_,g1.1⟩;cases u:tA (m30 c) c with
 | false=>
  rw[u] at h3;exact⟨j,h3,.inl (by omega)⟩
 | true=>
  rw[u] at h3;have aa:2*j≤n:=by
   rcases hp with hp | ⟨_,hp⟩
   ·exact hp
   ·rw[hp] at u;cases u
  refine⟨j+1,h3.mono ?_,?_⟩
  ·unfold nxE;rw[ξ rfl,Nat.pow_succ];omega
  ·by_cases e:2*(j+1)=n+1+1
   ·exact .inr ⟨e,(g2 u).2.2⟩
   ·exact .inl (by omega)
end
theorem aE0 (l:List Int):IM 0 (kF l)∧GI (kF l)∧SZ 4 77 40 (kF l):=by
 have h1:=a2e (p:=szP 4 77) (a08 (by decide)) (fun l=>(pF 2 l).mono (by decide) (by decide)) l;have h2:=a14 (fun t h=>h.1) h1;have h3:=SZ.of (by decide) h1;exact⟨⟨(aOk l).st 0,h2,h3⟩,h2,h3⟩
theorem a5s {m:Nat}{c:Core}(h:GC m c):pZ c:=by
 have two:∀{a b:Core} {t:Ty},pS a→pZ b→pZ (.mk 4 0 [] t [a,b] [] []):=fun ha hb=>qY (by decide) (wB ha hb.1) (kQ hb.2) (by simp) (by simp)
 have ap:∀{s:Str} {t:Ty} {a:Core},pS a→¬isR a→okT a→pS (.mk 6 0 s t [a] [] []):=fun h1 h2 h3=>.mk (fun _=>h3) (kQ h2) (kQ h1) (by simp) (by simp) (by simp) (by simp)
 have one:∀{f:Int} {s:Str} {t:Ty} {a:Core} {bs:List Bind} {al:List Alt},¬f=4∧¬f=6→pZ a→(∀b∈bs,pZ b.body)→(∀b∈al,pZ b.body)→pZ (.mk f 0 s t [a] bs al):=fun hf ha hb N=>qY hf.2 (kQ ha.1) (by unfold tlK;rw[φ hf.1];exact kQ ha.2) hb N
 have con:∀{s:Str},pS (.mk 2 0 s zTy [] [] []):=fun {_}=>(kE (h6:=by decide)).1
 have I:∀{f n:Int} {s:Str} {t:Ty} {ks:List Core} {bs:List Bind} {al:List Alt},¬f=6→¬isR (.mk f n s t ks bs al):=fun h e=>h e.1
 have J:∀{f n f' Y:Int} {s s':Str} {t t':Ty} {O:List Core},¬f'=7→¬isR (.mk f n s t [.mk f' Y s' t' O [] []] [] []):=fun h e=>h e.2
 have nil:∀{α:Type} {P:α→Prop},∀x∈([]:List α),P x:=fun x hx=>by cases hx
 induction h with
 | var h=>exact kE
 | con h=>exact kE
 | int h=>exact kE
 | app _ _ u i2=>exact two u.1 i2
 | lam _ _ _ _ u=>exact one (by decide) u nil nil
 | tc _ _ _=>exact⟨ap con (I (by decide)) (.inl rfl),J (by decide)⟩
 | tc2 _ _ _ _ _=>exact⟨ap (ap con (I (by decide)) (.inl rfl)) (J (by decide)) (.inr (.inl rfl)),J (by decide)⟩
 | tr _ _ _ _ _ _ _ _ u i2=>exact two (ap (one (by decide) (one (by decide) u nil nil) nil nil).1 (I (by decide)) (.inr (.inr ⟨rfl,rfl⟩))) i2
 | tlam _ _ u=>exact one (by decide) u nil nil
 | lt _ _ _ _ _ u i2=>exact one (by decide) u (kQ i2) nil
 | case1 _ _ _ _ _ _ _ _ _ u i2=>exact one (by decide) u nil (kQ i2)
 | case2 _ _ _ _ _ _ _ _ _ _ _ _ _ _ _ u i2 i3=>exact one (by decide) u nil (wB i2 i3)
 | prim _ _ _ u i2=>exact qY (by decide) (wB u.1 i2.1) (wB u.2 i2.2) nil nil
 | fail _ _=>exact kE
theorem aYt {m:Nat}{c:Core}(h:GC m c):GI c∧SZ 100 0 40 c∧pZ c:=by
 have h1:=a68 (p:=szP 100 0) (a08 (by decide)) (fun k t g hk=>(a09 g).mono hk (by decide)) h;exact⟨a14 (fun t h=>h.1) h1,SZ.of (by decide) h1,a5s h⟩
theorem aR7 {c:Core}(h:TyM c):IT 0 c:=by
 obtain⟨m,hm⟩:=h.g;obtain⟨g1,g2,g3⟩:=aYt hm;exact⟨h.m.st 0,g1,⟨0,by simpa using g2,.inl (by omega)⟩,g3.1⟩
theorem a2o:dJ 540000000000:=fun k hk=>aQo k (by omega)
theorem a6j {bd:List Bind}(h3:bd.length≤3) (h:∀b∈bd,MK b.body):BI V0 bd:=⟨by omega,fun b hb=>(h b hb).st 0⟩
theorem aFg (l:List Int) (ls:List (List Int)) (typed:Bool) (hl:aDx l) (hf:Fits l) (hls:∀x∈ls,aDx x∧Fits x) (hlf:ls.length≤1152921504606846976):
  aU Tryz.prog 3 [a2p l,.one (.c (.sl 1 (ls.map aPq))),B typed] [] (B true) []:=by
 have N:=a2o;obtain⟨bd,b1,b2,hm⟩:=aT3 ls typed hls hlf;have hmd:=aW0 l hl hf;obtain⟨tp,tm,ht⟩:=a3e l hl hf;obtain⟨c,hc⟩:∃c,c=if typed=true then tp.1 else kF l:=⟨_,rfl⟩
 have hB:BI V0 (Mod.mk FL bd).binds:=a6j b1 fun b hb=>(b2 b hb).1
 have O:BI V0 bd:=hB;have hG:∀b∈bd,GI b.body:=fun b hb=>by
  have h:=(b2 b hb).2
  split at h
  ·obtain⟨m,h⟩:=h;exact(aYt h).1
  ·obtain⟨l,h⟩:=h;rw[h];exact(aE0 l).2.1
 obtain⟨P,p0,psv,pnx⟩:∃P:Nat→Core→Prop,P 0 c∧(∀n x,n≤12→P n x→SV n 4000000000000000 x)∧∀n x,n<12→P n x→shC x=false→(cD bd (m30 x) x).2=0→eX (cD bd (m30 x) x).1≤400→P (n+1) (cD bd (m30 x) x).1:=by
  cases typed with
  | true=>
   have hg:∀b∈bd,SZ 100 0 40 b.body∧pZ b.body:=fun b hb=>by
    have h:=(b2 b hb).2
    rw[ξ rfl] at h;obtain⟨m,h⟩:=h;exact(aYt h).2
   refine⟨IT,by rw[hc,ξ rfl];exact aR7 tm,fun n x hn h=>h.sv hn,fun n x hn h hs h0 hz=>h.next N O hG (fun b hb=>(hg b hb).1) (fun b hb=>(hg b hb).2) (by omega) h0 hz⟩
  | false=>
   refine⟨IM,by rw[hc,φ (by decide)];exact(aE0 l).1,fun n x hn h=>h.sv hn,fun n x hn h hs h0 hz=>h.next N O hG (fun b hb=>?_) (by omega) h0 hz⟩;have h:=(b2 b hb).2
   rw[φ (by decide)] at h;obtain⟨l,h⟩:=h;rw[h];exact(aE0 l).2.2
 have hU:=vK;have Y:=aQn;refine bQ (n:=70) tok Tryz.func3 rfl rfl rfl ?_;refine sg rfl (sk 2 rfl (kc hm ?_));refine kz 7 rfl (sgh [(1,.pc (.pa (aB (kF l))))] rfl (a8 (sg rfl (AWp.cut (mk [(7,.one (.vp 7 0)),(8,.one (.vp 8 0)),(9,.one (.vp 9 0))] [(7,.var 27 ((jU ⟨FL,bd⟩).map .c)),(8,.var 28 ((jU ⟨FL,bd⟩).map .c)),(9,.var 37 (aW c))]) ?_ ?_))))
 ·cases typed with
  | true=>
   have e:c=tp.1:=hc;rw[e];exact aA rfl (fun _=>ag [(1,.pc (.tup [.pa (aB tp.1),tyV tp.2]))] rfl sl) nofun
  | false=>
   have e:c=kF l:=hc;rw[e];exact aA rfl nofun (fun _=>aD sl)
 refine a8 (sg rfl (aC (aK (fun p:Nat×Core=>mk [(7,.one (.vp 7 0)),(8,.one (.vp 8 0)),(9,.one (.vp 9 0)),(10,I .i64 p.1)] [(7,.var 27 ((jU ⟨FL,bd⟩).map .c)),(8,.var 28 ((jU ⟨FL,bd⟩).map .c)),(9,.var 37 (aW p.2))]) (fun p=>p.1≤12∧P p.1 p.2) (fun p=>12-p.1) (0,c) ⟨by omega,p0⟩ sl ?_)));rintro⟨i,x⟩ ⟨hi,hx⟩;dsimp only at hi hx ⊢;refine a8 (sg rfl (aA rfl (fun hb=>?_) (fun hb=>?_)))
 ·have hlt:i<12:=by have:=ψ hb;omega
  have hv:=psv i x hi hx;have u:=aQw N (n:=i) (U:=V0) (by omega) hU a6g (m:=⟨FL,bd⟩) hB hv.st;have J:=aZn N (n:=i) (U:=V0) (by omega) hU (m:=⟨FL,bd⟩) hB (m30 x) x (le_refl _) hv.st hv.gi;have hok:=pH N (n:=i) (by omega) hU O (m30 x) x (le_refl _) hv.st;have hszx:=hv.st.sz;have hnx:=pnx i x hlt hx;have hsp:(∃e r,¬e=0∧yG bd x=(zC,e)∧rsF bd (m30 x) x=(r,e))∨(shC x=false∧(cD bd (m30 x) x).2=0∧yG bd x=((cD bd (m30 x) x).1,0)∧rsF bd (m30 x) x=((cD bd (m30 x) x).1,0)):=by
   unfold yG rsF;cases hs:shC x with
   | true=>exact .inl ⟨21,zC,by decide,by rw[ξ rfl],by rw[ξ rfl]⟩
   | false=>
    by_cases h0:(cD bd (m30 x) x).2=0
    ·exact .inr ⟨rfl,h0,by rw[φ Av,ξ h0],by rw[φ Av];exact Prod.ext rfl h0⟩
    ·exact .inl ⟨_,(cD bd (m30 x) x).1,h0,by rw[φ Av,φ h0],by rw[φ Av]⟩
  have u:aU Tryz.prog 9 [.pa (jU ⟨FL,bd⟩),.pa (aB x)] [] (dM (yG bd x)) []:=u;have J:aU Tryz.prog 10 [.pa (jU ⟨FL,bd⟩),.pa (aB x)] [] (dM (rsF bd (m30 x) x)) []:=J;rcases hsp with⟨e,r,he,Z,aa⟩ | ⟨hs,h0,Z,aa⟩
  ·rw[Z] at u;rw[aa] at J;have e1:(!decide (e=0))=true:=by simp[he]
   have e2:(!decide (e=e))=false:=by simp
   refine aD (a8 (aC (sk 2 rfl (kc u ?_))));refine kz 6 rfl (sk 2 rfl (kc J ?_));refine kz 6 rfl (a8 (sgh [(3,.bv false),(6,.bv true),(10,.bv true),(11,.bv false)] rfl (aA rfl nofun (fun _=>aD (a8 (sgh [(2,.bv true),(6,.bv true)] rfl (aA rfl (fun _=>aL (a8 (aI mixed (kc Y ?_)))) nofun)))))));exact kz 1 rfl (aE rtT)
  ·rw[Z] at u;rw[aa] at J;have hr:SR (i+1) V0 (m30 x) (cD bd (m30 x) x).1:=hok h0;have hrb:=hr.big hszx;have hcr:=c8 (cD bd (m30 x) x).1;have hB2:Big=250000000000:=rfl;have hze:=aIx (aY (cD bd (m30 x) x).1) _ (le_refl _) (by omega);refine aD (a8 (aC (sk 2 rfl (kc u ?_))));refine kz 6 rfl (sk 2 rfl (kc J ?_));refine kz 6 rfl (a8 (sgh [(3,.bv false),(6,.bv false),(10,.bv false),(11,.bv false)] rfl (aA rfl nofun (fun _=>aD (a8 (sgh [(2,.bv false),(4,.pc (I .i64 (eX (cD bd (m30 x) x).1:Nat))),(6,.bv false)] rfl ?_))))));by_cases hbig:400<eX (cD bd (m30 x) x).1
   ·refine aA rfl (fun _=>aL (a8 (aI mixed (kc Y ?_)))) (fun hb=>absurd hb (by simp;omega));exact kz 1 rfl (aE rtT)
   ·refine aA rfl (fun hb=>absurd hb (by simp;omega)) (fun _=>?_);have hny:=hnx hs h0 (by omega);have hsm:=(psv (i+1) _ (by omega) hny).same (by omega) (le_refl _) (by omega);generalize (cD bd (m30 x) x).1=y at *;refine aD (a8 (sk 2 rfl (kc hsm ?_)));refine kz 1 rfl (aA rfl nofun (fun _=>aD (ag [] rfl (ag [] rfl ⟨(i+1,y),⟨by omega,hny⟩,by dsimp only;omega,?_⟩))));exact sl
 ·refine aL (a8 (aI mixed (kc Y ?_)));exact kz 1 rfl (aE rtT)
end Go.Proofs.YtockgoadliilhaaGreatDoor
namespace Go.Proofs.YtockgoadliilhaaGreatDoor
open Go Go.ChangeShapes Go.WideShapes Go.ChangeAt Go.RowKit Go.AM
theorem Tryz.own:ownKnob Tryz.prog.godebug=none:=by kernel_rfl
theorem Tryz.laidOut:laidOutB Tryz.prog=true:=by kernel_rfl
theorem oF {H:Type}{P:Program}{e:TypeId}:∀{xs:List (DataW H)}{k:Nat}{y:DataW H}{n:Nat},xs[k]?=some y→n∈y.weights P e→n∈DataW.weightsAll P e xs
 | x::xs,0,y,n,h,hn=>by
  simp at h;subst h;rw[DataW.weightsAll];exact τ.2 (.inl hn)
 | x::xs,k+1,y,n,h,hn=>by
  rw[DataW.weightsAll];exact τ.2 (.inr (oF (k:=k) (by simpa using h) hn))
theorem a29 (l:List (List Int)):((pX l).map fun c=>[c])=l.map aPq:=by
 unfold pX;rw[A8];rfl
theorem wN {n k:Nat}(h:n*(k+1)≤reachBytes):n≤1152921504606846976:=by
 have h1:=reachBytes_lt;have h2:n≤n*(k+1):=A7 n (Nat.succ_pos k);omega
theorem aSb:Rows.laid_internal_strconv_uint64pow10 (H:=Unit)=Lib.tabData .u64 Lib.pow10Tab:=by kernel_rfl
theorem a04 {W:World}(h:laidMetH Tryz.prog Rows.stepStepsRow.laid W):aUz W:=by
 rw [MakeChecks.laidMetH_plain _ _ _ (by kernel_rfl)] at h;have h3 := laidMet.tail (laidMet.tail h);rw [aSb] at h3;have ht := Lib.tabIs_of_head (g := 0) (t := 178) (e := 172) (n := 20) (by kernel_rfl) (by kernel_rfl) (by kernel_rfl) (by kernel_rfl) (by kernel_rfl) (by kernel_rfl) h3;intro g I;cases I;unfold Lib.TabIs World.var? at ht;rw [show Tryz.prog.globalNamed "internal/strconv.uint64pow10" = some 0 by kernel_rfl] at ht;simp only [Cp] at ht;split at ht
 ·rename_i cs t fr u;simp only[Option.some.injEq] at ht;subst ht;exact⟨eZ u,t,fr,u⟩
 ·cases ht
set_option maxRecDepth 100000 in
theorem s9 (os:Os) (started:os.Started) (H:Type) (enc:TypeId×Value→H):
  ReturnsInHanded {} Tryz.checked os 3 .any (fun w args=>(Rows.stepStepsSpec.pre enc Tryz.prog Tryz.f3 Rows.stepStepsRow.domain false w args∧laidMetH Tryz.prog Rows.stepStepsRow.laid w)∧sizedMet enc Tryz.prog Tryz.f3 (OpenSpec.ofChange Rows.stepStepsSpec) false w args)
   (Rows.stepStepsSpec.post enc Tryz.prog Tryz.f3 false true false false):=by
 refine returnsInHanded_of_change_and (C:=Tryz.checked) (X:=fun w _=>laidMetH Tryz.prog Rows.stepStepsRow.laid w) (fun _ _ _ hh h=>h.of_heap hh) Tryz.own started (by kernel_rfl) Tryz.func3
  (ChangeSpec.witness_shaped (enc:=enc) (C:=Tryz.checked) (os:=os) (X:=fun w _=>laidMetH Tryz.prog Rows.stepStepsRow.laid w) false (World.laidAll Tryz.prog os Rows.stepStepsRow.laid) #[.slice none 0 0,.slice none 0 0,.bool false] 8 (World.laidAll_os _ _ _)
   (World.shaped_of_ZipB (by kernel_rfl) (by kernel_rfl)) (by kernel_rfl) (by kernel_rfl) (by kernel_rfl)
   (by rw[MakeChecks.laidMetH_plain _ _ _ (by kernel_rfl)];exact laidMet_laidAll _ (by kernel_rfl) (by kernel_rfl))) ?_
 intro W base args ds gs before J hW hcnd hwt hL _
 have I:∀(j:Nat) t v,Tryz.f3.params[j]?=some t→args[j]?=some v→Value.okWide Tryz.prog W .any base t v:=J
 have N:=hW
 obtain⟨p,q,hA0,hV,rfl,hfz,hnd⟩:=hW
 have hA:DataW.TrodAll enc Tryz.prog W 0 (fun _=>true) true Tryz.f3.params.toList args.toList ds p:=hA0
 rw[Tryz.params3] at hA I
 obtain⟨v0,v1,v2,d0,d1,d2,p0,p1,p2,rfl,rfl,rfl,h0,h1,h2⟩:=trodAll_three hA
 obtain⟨rfl,rfl⟩:=trodVars_none hV
 obtain⟨l0,ab,hr0,xl0,yl0,hd0⟩:=aJ8 Tryz.underlying22 Tryz.underlying3 (by kernel_rfl) (I 0 22 v0 rfl rfl) h0
 obtain⟨l1,O,hr1,xl1,yl1,hd1⟩:=aJ6 Tryz.underlying23 Tryz.underlying22 Tryz.underlying3 (by kernel_rfl) (by kernel_rfl) (I 1 23 v1 rfl rfl) h1
 rw[a29] at O
 obtain⟨n2,rfl,rfl,rfl⟩:=open_bool Tryz.underlying4 (I 2 4 v2 rfl rfl) h2
 clear hA0 J
 simp only[Ax] at N
 have hlt0:∀x∈p0,x.block<W.heap.size:=fun x hx=>by simpa using N.lt x (τ.2 (.inl hx))
 have hlt1:∀x∈p1,x.block<W.heap.size:=fun x hx=>by simpa using N.lt x (τ.2 (.inr (hx)))
 have Z:(DataW.weightsEach Tryz.prog (Tryz.f3.params.toList++Rows.stepStepsSpec.plain.varTypes Tryz.prog) ([d0,d1,.lit (.bool n2)]++[])).all (· ≤reachBytes)=true:=hwt
 have hf0:Fits l0:=by
  unfold Fits
  rcases hd0 with⟨_,hd⟩ | ⟨rfl,hd⟩
  ·rw[hd];simp
  ·have:=sized_slice Z (j:=0) (t:=22) (e:=3) rfl rfl Tryz.underlying22
   rw[show Tryz.prog.bytesOf 3=8 by kernel_rfl] at this
   have hb:=reachBytes_lt
   omega
 have Y:∀n∈d1.weights Tryz.prog 23,n≤reachBytes:=fun n hn=>by
  have h1:=A4.1 Z n (DataW.weights_mem_each (j:=1) (t:=23) (d:=d1) rfl rfl n hn)
  exact ψ h1
 have hf1:l1.length≤1152921504606846976∧∀x∈l1,Fits x:=by
  unfold Fits
  rcases hd1 with⟨rfl,rfl⟩ | ⟨rfl,hxl,hxe⟩
  ·exact⟨by simp,by simp⟩
  ·rw[DataW.weights,Tryz.underlying23] at Y
   dsimp only at Y
   refine⟨?_,fun x hx=>?_⟩
   ·have h1:=Y _ ζ
    rw[show Tryz.prog.bytesOf 22=23+1 by kernel_rfl] at h1
    have:=wN h1
    omega
   ·obtain⟨k,hk⟩:=List.getElem?_of_mem hx
    obtain⟨y,hy,⟨rfl,rfl⟩ | ⟨u,z,rfl,hu⟩⟩:=hxe k x hk
    ·simp
    ·have h1:=Y ((u.length+z.length)*Tryz.prog.bytesOf 3) (ω _ (τ.2 (.inl (oF hy (by rw[DataW.weights,Tryz.underlying22];exact ζ)))))
     rw[show Tryz.prog.bytesOf 3=7+1 by kernel_rfl] at h1
     have:=wN h1
     first | omega | (rcases this with h | h | h<;>simp[h])
 refine(aOz (aFg l0 l1 n2 hr0 hf0 (fun x hx=>⟨fun m hm=>hr1 x hx m hm,hf1.2 x hx⟩) hf1.1) W (vals:=[v0,v1,.bool n2]) ⟨_,_,rfl,ab,⟨_,_,rfl,O,⟨_,_,rfl,rfl,rfl⟩⟩⟩ (ht:=a04 hL)).mono fun e W' ⟨v,S,μ,he,aa,hv⟩=>?_
 subst he
 rw[aZw hv]
 have hp0:=Below.trod Tryz.laidOut (by kernel_rfl) (ψ (by kernel_rfl)) h0 aa hlt0
 have hp1:=Below.trod Tryz.laidOut (by kernel_rfl) (ψ (by kernel_rfl)) h1 aa hlt1
 exact⟨_,rfl,⟨_,_,_,[],_,[],N,trodAll_mk1 (shut_bool Tryz.underlying4 true),trodAll_mk3 hp0 hp1 (shut_bool Tryz.underlying4 n2),rfl,aa.frame _,fun h=>by cases h⟩⟩
theorem tS:Rows.StepStepsSaid:=
 OpenClaim.holds_of_wide 3 Tryz.f3 rfl rfl rfl rfl rfl rfl rfl ⟨rfl,rfl,rfl,rfl,rfl⟩ rfl rfl rfl rfl rfl (by kernel_rfl) Tryz.func3 (by kernel_rfl)
  (ψ (by kernel_rfl)) (by unfold Func.isWrapper;first | (rw[ξ (by decide+kernel)];kernel_rfl) | (rw[φ (by decide+kernel)];exact⟨rfl,rfl⟩))
  (fun os started H enc _=>s9 os started H enc)
theorem stepSteps_card_holds:Rows.StepStepsCardSaid:=
 Claim7.holds_tied_plain_at .later [] [.data, .data, .data] true (true, "9d411a38d5235b230fa7c5b33de9c5d12e9a836355931af45be828b1ad023e12") false tS (fun _ h => by cases h) (by kernel_rfl) (fun _ h => by cases h) stepSteps_row_tie rfl ⟨rfl, rfl⟩ (by kernel_rfl) rfl
  (fun f fn hf J=>by
   obtain rfl : f = 3 := Option.some.inj ((show Tryz.prog.funcNamed "fugue/fuguelaw22.StepSteps" = some 3 by kernel_rfl).symm.trans hf) |>.symm;obtain rfl : fn = Tryz.f3 := (Option.some.inj (Tryz.func3.symm.trans J)).symm
   exact⟨by kernel_rfl,fun j t ht=>by
    rw[Tryz.params3] at ht;have hm:t∈[22,23,4]:=by
     have:=Array.mem_of_getElem? ht;simp at this;simp
     first | omega | (rcases this with h | h | h<;>simp[h])
    have I:([22,23,4].all fun u=>!Tryz.prog.wantsStandIn u)=true:=by kernel_rfl
    exact(show Tryz.prog.wantsStandIn t=false by simpa using A4.1 I t hm)⟩)
  (by kernel_rfl)
end Go.Proofs.YtockgoadliilhaaGreatDoor
