/-
  Texts Ls2 to Rd28 in one.
-/
import Derived.Test.YtkhgpgihmphfdaaGreatDoorM6
open List (append_assoc cons_append dropWhile_cons drop_drop foldl_append length_append length_cons length_drop length_map length_nil length_singleton length_tail length_take map_append map_cons mem_append mem_cons mem_cons_of_mem mem_cons_self mem_of_mem_take mem_singleton nil_append sum_append sum_cons take_add_one take_append_drop take_length take_succ_cons take_zero)
open Nat (add_mul le_of_lt le_refl le_trans mul_le_mul_right zero_le)
namespace Go.Proofs.YtkhgpgihmphfdaaGreatDoor
open Go Go.AM
set_option maxRecDepth 20000
def mU (f:Int) (s:Str) (o:List Str) (x:Str):List Str:=if ¬x∈o∧(¬f=5∨¬x=s) then o++[x] else o
def yI (f:Int) (s:Str) (o:List Str) (l:List Str):List Str:=l.foldl (mU f s) o
mutual
def tfR:Ty→List Str
 | .mk f _ s a=>if f=2 then [s] else aNf f s a []
def aNf (f:Int) (s:Str):List Ty→List Str→List Str
 | [],o=>o
 | t::l,o=>aNf f s l (yI f s o (tfR t))
end
def tfL (f:Int) (s:Str) (l:List Ty) (o:List Str):List Str:=l.foldl (fun o t=>yI f s o (tfR t)) o
theorem yU (f:Int) (s:Str):∀(l:List Ty) (o:List Str),aNf f s l o=tfL f s l o
 | [],o=>by rw[aNf];rfl
 | t::l,o=>by rw[aNf,yU f s l];rfl
theorem aF0 (f:Int) (s:Str) (o:List Str) (x:Str):(mU f s o x).length≤o.length+1:=by
 unfold mU;split
 ·simp
 ·omega
theorem pP (f:Int) (s:Str):∀(l o:List Str),(yI f s o l).length≤o.length+l.length
 | [],o=>le_refl _
 | x::l,o=>by
  have h1:=pP f s l (mU f s o x);have h2:=aF0 f s o x;show(yI f s (mU f s o x) l).length≤_;rw[κ];omega
mutual
theorem sD:∀t:Ty,(tfR t).length≤tn t
 | .mk f n s a=>by
  rw[tfR,tn];split
  ·simp;omega
  ·have:=yT f s a [];simp only[length_nil] at this;omega
theorem yT (f:Int) (s:Str):∀(l:List Ty) (o:List Str),(aNf f s l o).length≤o.length+tns l
 | [],o=>by rw[aNf,tns];exact le_refl _
 | t::l,o=>by
  rw[aNf,tns];have h1:=yT f s l (yI f s o (tfR t));have h2:=pP f s (tfR t) o;have q:=sD t;omega
end
theorem aF2 {f:Int}{s:Str}{o l:List Str}{j:Nat}{x:Str}(h:l[j]?=some x):yI f s o (l.take (j+1))=mU f s (yI f s o (l.take j)) x:=by
 unfold yI;rw[Bw,h,foldl_append];rfl
theorem aKp {f:Int}{s:Str}{o:List Str}{l:List Ty}{j:Nat}{x:Ty}(h:l[j]?=some x):tfL f s (l.take (j+1)) o=yI f s (tfL f s (l.take j) o) (tfR x):=by
 unfold tfL;rw[Bw,h,foldl_append];rfl
theorem aA2:∀(l:List Ty) (i:Nat),tns (l.take i)≤tns l
 | [],i=>by simp
 | t::l,0=>by rw[B5,tns];omega
 | t::l,i+1=>by rw[As,tns,tns];have:=aA2 l i;omega
theorem nK (t:Ty) (ht:t.args.length≤1000000000) (hL:∀i,(tfL t.form t.name (t.args.take i) []).length≤1000000000) (hU:∀u∈t.args,(tfR u).length≤1000000000) (ih:∀u∈t.args,bI Tryz.prog 217 [tyV u] [] (eG (tfR u)) []):bI Tryz.prog 217 [tyV t] [] (eG (tfR t)) []:=by
 obtain⟨f,n,s,a⟩:=t;have hal:a.length≤1000000000:=ht;have hL:∀i,(tfL f s (a.take i) []).length≤1000000000:=hL;have hU:∀u∈a,(tfR u).length≤1000000000:=hU;have ih:∀u∈a,bI Tryz.prog 217 [tyV u] [] (eG (tfR u)) []:=ih;have aa:(dT a).length=a.length:=by rw[jB,η]
 rw[tfR];refine bM (n:=50) tok Tryz.func217 rfl rfl rfl ?_;refine sg rfl (aA (sg rfl (aB rfl (fun hb=>?_) (fun hb=>?_))))
 ·have h2:f=2:=ω hb;rw[ξ h2];exact sgh [(2,.all)] rfl (aD rtT)
 ·have h2:¬f=2:=Ai hb;rw[ζ h2,yU] at *;refine aF (sg rfl (AWp.sub (Sub.own (t:=3) (id:=600) 9 1 rfl rfl) (AWp.sub (Sub.freeze (id:=600) rfl) ?_)));refine aA (sg rfl (aE (aP (fun i:Nat=>mk [(1,.one (.vp 1 0)),(3,.one (.hs 600 0 (tfL f s (a.take i) []).length (tfL f s (a.take i) []).length)),(15,.one (.c (.sl 4 (dT a)))),(16,I .i64 ((dT a).length:Int)),(17,I .i64 i)] [(600,.arr 9 1 ((tfL f s (a.take i) []).map aR) 2),(1,.var 43 ((bG (.mk f n s a)).map R.c))]) (fun i=>i≤a.length) (fun i=>a.length-i) 0 (Ae _) sl ?_)));intro i hi;refine sg rfl (aA (aB rfl (fun hb=>?_) (fun hb=>?_)))
  ·have ab:=ltD hb aa;obtain⟨u,hu⟩:=aJ ab;have hu':(dT a)[i]?=some (bG u):=by rw[jB];exact b9 bG hu
   have hm:=Aa hu;have hc:=ih u hm;have hul:=hU u hm;have J:=aKp (f:=f) (s:=s) (o:=[]) hu;have hol:=hL i;generalize tfL f s (a.take i) []=o at J hol ⊢;have M:((tfR u).map aR).length=(tfR u).length:=η _;generalize tfR u=r at hc hul J M;refine aF (aA (aE (sgh [(0,.row i (bG u))] rfl (sk 1 rfl (kc hc ?_)))));refine kz 2 rfl (aE (aP (fun j:Nat=>mk [(1,.one (.vp 1 0)),(3,.one (.hs 600 0 (yI f s o (r.take j)).length (yI f s o (r.take j)).length)),(15,.one (.c (.sl 4 (dT a)))),(16,I .i64 ((dT a).length:Int)),(17,I .i64 i),(22,eG r),(23,I .i64 ((r.map aR).length:Int)),(24,I .i64 j)] [(600,.arr 9 1 ((yI f s o (r.take j)).map aR) 2),(1,.var 43 ((bG (.mk f n s a)).map R.c))]) (fun j=>j≤r.length) (fun j=>r.length-j) 0 (Ae _) sl ?_));intro j hj;refine sg rfl (aA (aB rfl (fun hb=>?_) (fun hb=>?_)))
   ·have y:=ltD hb M;obtain⟨x,hx⟩:=aJ y;have hx':=b9 aR hx;have A:=aF2 (f:=f) (s:=s) (o:=o) hx;have hpl:(yI f s o (r.take j)).length≤2000000000:=by
     have:=pP f s (r.take j) o;rw[Ak] at this;omega
    generalize yI f s o (r.take j)=q at A hpl ⊢;have B:=oI q x (by omega);have hkq:(q.map aR).length=q.length:=η _;refine aF (aA (aE (sgh [(0,.row j (aR x))] rfl ?_)));by_cases E:x∈q
    ·rw[χ E] at B;have he:mU f s q x=q:=by unfold mU;rw[ζ (fun h=>h.1 E)]
     refine sk 2 rfl (kc B ?_);refine kz 12 rfl (aB rfl nofun (fun _=>aF (ag [] rfl ⟨j+1,y,by dsimp only;omega,?_⟩)));dsimp only;rw[A,he];exact sl
    rw[φ E] at B;by_cases Y:f=5
    ·have d5:decide (f=5)=true:=χ Y;have d5':(!decide (f=5))=false:=by rw[d5];rfl
     refine sk 2 rfl (kc B ?_);refine ak 12 [(8,.bv false),(13,.bv false)] rfl (az (aB rfl (fun hb=>?_) (fun hb=>?_)))
     ·have O:¬x=s:=by simp at hb;exact hb
      have he:mU f s q x=q++[x]:=by unfold mU;rw[ξ ⟨E,.inr O⟩]
      refine ag [(2,.all)] rfl (AWp.sub (Sub.freeze (id:=600) rfl) ?_);refine ag [] rfl ⟨j+1,y,by dsimp only;omega,?_⟩;dsimp only;rw[A,he];exact sl (hh:=⟨⟨_,rfl,.arrS (by rw[Ah];rfl)⟩,⟨_,rfl,.var rfl⟩,trivial⟩)
     ·have O:x=s:=by simp at hb;exact hb
      have he:mU f s q x=q:=by unfold mU;rw[ζ (fun h=>h.2.elim (fun h=>h Y) (fun h=>h O))]
      refine aF (ag [] rfl ⟨j+1,y,by dsimp only;omega,?_⟩);dsimp only;rw[A,he];exact sl
    ·have d5:decide (f=5)=false:=φ Y;have d5':(!decide (f=5))=true:=by rw[d5];rfl
     have he:mU f s q x=q++[x]:=by unfold mU;rw[ξ ⟨E,.inl Y⟩]
     refine sk 2 rfl (kc B ?_);refine ak 12 [(8,.bv true),(13,.bv true)] rfl (az (aB rfl (fun _=>ag [(2,.all)] rfl (AWp.sub (Sub.freeze (id:=600) rfl) ?_)) nofun));refine ag [] rfl ⟨j+1,y,by dsimp only;omega,?_⟩;dsimp only;rw[A,he];exact sl (hh:=⟨⟨_,rfl,.arrS (by rw[Ah];rfl)⟩,⟨_,rfl,.var rfl⟩,trivial⟩)
   have U:=geD hb M hj;subst U;rw[Aw];refine aS (ag [] rfl ⟨i+1,ab,by dsimp only;omega,?_⟩);dsimp only;rw[J];exact sl
  have U:=geD hb aa hi;subst U;rw[Aw];exact aS (sg rfl (aD (rtT (hc:=hs_all rfl rfl (by simp) rfl))))
theorem xT (t:Ty) (ht:tn t≤1000000000) (q:∀u,tn u<tn t→bI Tryz.prog 217 [tyV u] [] (eG (tfR u)) []):bI Tryz.prog 217 [tyV t] [] (eG (tfR t)) []:=by
 obtain⟨f,n,s,a⟩:=t;rw[tn] at ht q;have r:=aFz a;refine nK (.mk f n s a) (show a.length≤_ by omega) (fun i=>?_) (fun u hu=>?_) fun u hu=>q u ?_
 ·have h1:=yT f s (a.take i) [];rw[yU] at h1;have h2:=aA2 a i;simp only[length_nil] at h1;show(tfL f s (a.take i) []).length≤_;omega
 ·have h1:=qJ (show u∈a from hu);have h2:=sD u;omega
 ·have h1:=qJ (show u∈a from hu);omega
theorem aC5:∀(k:Nat) (t:Ty),tn t≤k→tn t≤1000000000→bI Tryz.prog 217 [tyV t] [] (eG (tfR t)) []
 | 0,t,h,_=>by have:=vQ t;omega
 | k+1,t,h,hm=>xT t hm fun u hu=>aC5 k u (by omega) (by omega)
mutual
def fvm:Ty→Nat
 | .mk f n s a=>max (tfR (.mk f n s a)).length (aWs a)
def aWs:List Ty→Nat
 | []=>0
 | t::l=>max (fvm t) (aWs l)
end
theorem aUv (t:Ty):(tfR t).length≤fvm t:=by cases t;rw[fvm];exact Nat.le_max_left ..
theorem aCe:∀{l:List Ty}{t:Ty},t∈l→fvm t≤aWs l
 | u::l,t,h=>by
  rw[aWs];rcases Aq.1 h with rfl | h
  ·exact Nat.le_max_left ..
  ·exact le_trans (aCe h) (Nat.le_max_right ..)
theorem aIe {f n:Int}{s:Str}{a:List Ty}{u:Ty}(h:u∈a):fvm u≤fvm (.mk f n s a):=by
 rw[fvm];exact le_trans (aCe h) (Nat.le_max_right ..)
theorem aF1 {f:Int}{s:Str}{L:Nat}:∀{l:List Ty}{o:List Str},(∀u∈l,(tfR u).length≤L)→(tfL f s l o).length≤o.length+l.length*L
 | [],o,_=>by simp[tfL]
 | t::l,o,h=>by
  have h1:=aF1 (f:=f) (s:=s) (l:=l) (o:=yI f s o (tfR t)) fun u hu=>h u (Bc _ hu)
  have h2:=pP f s (tfR t) o;have q:=h t Bp;show(tfL f s l (yI f s o (tfR t))).length≤_;rw[κ,Nat.succ_mul];omega
theorem aC4:∀(k:Nat) (t:Ty),tn t≤k→wfS t=true→fvm t≤400000000→bI Tryz.prog 217 [tyV t] [] (eG (tfR t)) []
 | 0,t,h,_,_=>by have:=vQ t;omega
 | k+1,t,h,hw,r=>by
  obtain⟨f,n,s,a⟩:=t;obtain⟨h1,h2,_⟩:=aNd hw;have hu:∀u∈a,(tfR u).length≤400000000:=fun u hu=>le_trans (aUv u) (le_trans (aIe hu) r)
  refine nK (.mk f n s a) (show a.length≤_ by omega) (fun i=>?_) (fun u q=>le_trans (hu u q) (by decide)) fun u q=>?_
  ·have y:=aF1 (f:=f) (s:=s) (l:=a.take i) (o:=[]) fun u q=>hu u (By q)
   rw[Ak,length_nil] at y;have A:min i a.length*400000000≤2*400000000:=Ax _ (by omega);show(tfL f s (a.take i) []).length≤_;omega
  ·have q:u∈a:=q;exact aC4 k u (by have:=qJ q;rw[tn] at h;omega) (h2 u q) (le_trans (aIe q) r)
def fw (t:Ty):Nat:=if wfS t=true∧fvm t≤tn t then fvm t else tn t
theorem aUu (t:Ty):fw t≤tn t:=by
 unfold fw;split
 ·rename_i h;exact h.2
 ·exact le_refl _
theorem aC6 (t:Ty) (h:fw t≤400000000):bI Tryz.prog 217 [tyV t] [] (eG (tfR t)) []:=by
 unfold fw at h;split at h
 ·rename_i q;exact aC4 (tn t) t (le_refl _) q.1 h
 ·exact aC5 (tn t) t (le_refl _) (by omega)
set_option maxHeartbeats 4000000
abbrev PE:=Int×Int
abbrev TR:=Except PE (Ty×List Tk)
def isT (t:Tk) (s:Str):Bool:=decide (t.kind=4)&&decide (t.text=s)
def cW:Str:=[40]
def oR:Str:=[41]
def aSu (t:Tk):Bool:=decide (t.kind=1) || (decide (t.kind=2) || isT t cW)
def aPb (s:Str):Ty:=.mk 3 0 s []
def aO9 (s:Str):Ty:=.mk 2 0 s []
mutual
def cD:Nat→Nat→List Tk→TR
 | 0,_,_=>.error (12,0)
 | _+1,_,[]=>.error (12,0)
 | f+1,o,t::R=>
  if t.kind=2 then .ok (aPb t.text,R)
  else if t.kind=1 then .ok (aO9 t.text,R)
  else if isT t cW=false then .error (12,t.pl)
  else if 40≤o then .error (13,t.pl)
  else lV (bV f (o+1) R)
def bV:Nat→Nat→List Tk→TR
 | 0,_,_=>.error (12,0)
 | f+1,o,R=>match cD f o R with
  | .error e=>.error e
  | .ok (x,R1)=>gF f o x R1
def gF:Nat→Nat→Ty→List Tk→TR
 | 0,_,_,_=>.error (12,0)
 | _+1,_,_,[]=>.error (12,0)
 | f+1,o,x,t::R=>
  if aSu t=true then(match cD f o (t::R) with
   | .error e=>.error e
   | .ok (a,R1)=>gF f o (dF x a) R1)
  else if isT t arrow=true then(match bV f o R with
   | .error e=>.error e
   | .ok (to,R1)=>.ok (lH x to,R1))
  else .ok (x,t::R)
def lV:TR→TR
 | .error e=>.error e
 | .ok (_,[])=>.error (12,0)
 | .ok (x,t::R)=>if isT t oR=true then .ok (x,R) else .error (12,t.pl)
end
def nT (R:List Tk):Prop:=∃p e,R=p++[e]∧e.kind=6
theorem nT.ne {R:List Tk}(h:nT R):∃t R',R=t::R':=by
 obtain⟨p,e,rfl,_⟩:=h;cases p with
 | nil=>exact⟨e,[],rfl⟩
 | cons a p=>exact⟨a,p++[e],rfl⟩
theorem nT.tail {t:Tk}{R:List Tk}(h:nT (t::R)) (q:¬t.kind=6):nT R:=by
 obtain⟨p,e,hp,he⟩:=h;cases p with
 | nil=>
  obtain⟨rfl,_⟩:=List.cons.inj hp;exact absurd he q
 | cons a p=>
  obtain⟨_,rfl⟩:=List.cons.inj hp;exact⟨p,e,rfl,he⟩
def wt (R:List Tk):Nat:=(R.map fun t=>t.text.length+6).sum
theorem c9 (t:Tk) (R:List Tk):wt (t::R)=t.text.length+6+wt R:=by unfold wt;rw[An,Bq]
theorem cT {t:Tk}{s:Str}(h:isT t s=true):t.kind=4∧t.text=s:=by
 unfold isT at h;rw[Ab] at h;exact⟨ω h.1,ω h.2⟩
mutual
def nF:Ty→Bool
 | .mk f _ _ a=>!decide (f=5)&&nFs a
def nFs:List Ty→Bool
 | []=>true
 | t::l=>nF t&&nFs l
end
structure TOk (R:List Tk) (m:Nat) (x:Ty) (R':List Tk):Prop where
 e:nT R→nT R'
 s:∃p,R=p++R'∧m≤p.length
 w:wfS x=true∧nF x=true
theorem TOk.len {R R':List Tk}{m:Nat}{x:Ty}(h:TOk R m x R'):R'.length+m≤R.length:=by
 obtain⟨p,rfl,hp⟩:=h.s;rw[ψ];omega
abbrev WF (x:Ty):Prop:=wfS x=true∧nF x=true
theorem aAu {a b:Ty}(ha:WF a) (hb:WF b):WF (dF a b):=by
 unfold dF;refine⟨?_,?_⟩
 ·rw[wfS,ξ rfl,aO6,aO6,aO6,ha.1,hb.1];rfl
 ·rw[nF,nFs,nFs,nFs,ha.2,hb.2];rfl
theorem aS1 {a b:Ty}(ha:WF a) (hb:WF b):WF (lH a b):=aAu (aAu ⟨rfl,rfl⟩ ha) hb
theorem qK (a b:Ty):tn (dF a b)=1+(tn a+(tn b+0)):=by unfold dF;rw[tn,tns,tns,tns];rfl
theorem vR (a b:Ty):tn (lH a b)=5+tn a+tn b:=by
 unfold lH;rw[qK,qK];have:tn (.mk 3 0 arrow [])=3:=by rw[tn,tns];rfl
 rw[this];omega
mutual
theorem lE:∀(f o:Nat) (R:List Tk) (x:Ty) (R':List Tk),cD f o R=.ok (x,R')→TOk R 1 x R'∧tn x+5+wt R'≤wt R
 | 0,_,_,_,_,h=>by rw[cD] at h;cases h
 | _+1,_,[],_,_,h=>by rw[cD] at h;cases h
 | f+1,o,t::R,x,R',h=>by
  rw[cD] at h;rw[c9];by_cases h2:t.kind=2
  ·rw[ξ h2] at h;cases h;refine⟨⟨fun he=>he.tail (by omega),⟨[t],rfl,le_refl _⟩,⟨rfl,rfl⟩⟩,?_⟩;unfold aPb;rw[tn,tns];omega
  rw[ζ h2] at h;by_cases h1:t.kind=1
  ·rw[ξ h1] at h;cases h;refine⟨⟨fun he=>he.tail (by omega),⟨[t],rfl,le_refl _⟩,⟨rfl,rfl⟩⟩,?_⟩;unfold aO9;rw[tn,tns];omega
  rw[ζ h1] at h;split at h
  ·cases h
  rename_i hp;have hp:=cT (by simpa using hp:isT t cW=true);split at h
  ·cases h
  cases hw:bV f (o+1) R with
  | error e=>rw[hw,lV] at h;cases h
  | ok y=>
   obtain⟨y,R1⟩:=y;rw[hw] at h;obtain⟨⟨g1,⟨p,g2,g3⟩,g4⟩,g5⟩:=jM f (o+1) R y R1 hw;cases R1 with
   | nil=>rw[lV] at h;cases h
   | cons u R2=>
    rw[lV] at h;split at h
    ·rename_i hu;have hu:=cT hu;cases h;rw[c9] at g5;refine⟨⟨fun he=>(g1 (he.tail (by omega))).tail (by omega),⟨t::(p++[u]),by rw[g2];simp,by simp⟩,g4⟩,by omega⟩
    ·cases h
theorem jM:∀(f o:Nat) (R:List Tk) (x:Ty) (R':List Tk),bV f o R=.ok (x,R')→TOk R 1 x R'∧tn x+5+wt R'≤wt R
 | 0,_,_,_,_,h=>by rw[bV] at h;cases h
 | f+1,o,R,x,R',h=>by
  rw[bV] at h;cases ha:cD f o R with
  | error e=>rw[ha] at h;cases h
  | ok y=>
   obtain⟨y,R1⟩:=y;rw[ha] at h;obtain⟨⟨g1,⟨p,g2,g3⟩,g4⟩,g5⟩:=lE f o R y R1 ha;obtain⟨⟨r,⟨q,A,I⟩,B⟩,E⟩:=aJ3 f o y R1 x R' g4 h;exact⟨⟨fun he=>r (g1 he),⟨p++q,by rw[g2,A,Aj],by rw[ψ];omega⟩,B⟩,by omega⟩
theorem aJ3:∀(f o:Nat) (y:Ty) (R:List Tk) (x:Ty) (R':List Tk),WF y→gF f o y R=.ok (x,R')→TOk R 0 x R'∧tn x+wt R'≤tn y+wt R
 | 0,_,_,_,_,_,_,h=>by rw[gF] at h;cases h
 | _+1,_,_,[],_,_,_,h=>by rw[gF] at h;cases h
 | f+1,o,y,t::R,x,R',hy,h=>by
  rw[gF] at h;split at h
  ·cases ha:cD f o (t::R) with
   | error e=>rw[ha] at h;cases h
   | ok a=>
    obtain⟨a,R1⟩:=a;rw[ha] at h;obtain⟨⟨g1,⟨p,g2,g3⟩,g4⟩,g5⟩:=lE f o (t::R) a R1 ha;obtain⟨⟨r,⟨q,A,I⟩,B⟩,E⟩:=aJ3 f o (dF y a) R1 x R' (aAu hy g4) h;rw[qK] at E;exact⟨⟨fun he=>r (g1 he),⟨p++q,by rw[g2,A,Aj],Ae _⟩,B⟩,by omega⟩
  split at h
  ·rename_i ht;have ht:=cT ht;cases ha:bV f o R with
   | error e=>rw[ha] at h;cases h
   | ok a=>
    obtain⟨a,R1⟩:=a;rw[ha] at h;cases h;obtain⟨⟨g1,⟨p,g2,g3⟩,g4⟩,g5⟩:=jM f o R a R' ha;rw[vR,c9];exact⟨⟨fun he=>g1 (he.tail (by omega)),⟨t::p,by rw[g2];rfl,Ae _⟩,aS1 hy g4⟩,by omega⟩
  ·cases h;exact⟨⟨id,⟨[],rfl,le_refl _⟩,hy⟩,le_refl _⟩
end
mutual
theorem gE:∀(f o:Nat) (R:List Tk) (e p:Int),cD f o R=.error (e,p)→¬e=0
 | 0,_,_,_,_,h=>by rw[cD] at h;cases h;decide
 | _+1,_,[],_,_,h=>by rw[cD] at h;cases h;decide
 | f+1,o,t::R,e,p,h=>by
  rw[cD] at h;split at h
  ·cases h
  split at h
  ·cases h
  split at h
  ·cases h;decide
  split at h
  ·cases h;decide
  cases hw:bV f (o+1) R with
  | error e'=>
   rw[hw,lV] at h;cases h;exact gM f (o+1) R e p hw
  | ok y=>
   obtain⟨y,R1⟩:=y;rw[hw] at h;cases R1 with
   | nil=>rw[lV] at h;cases h;decide
   | cons u R2=>
    rw[lV] at h;split at h
    ·cases h
    ·cases h;decide
theorem gM:∀(f o:Nat) (R:List Tk) (e p:Int),bV f o R=.error (e,p)→¬e=0
 | 0,_,_,_,_,h=>by rw[bV] at h;cases h;decide
 | f+1,o,R,e,p,h=>by
  rw[bV] at h;cases ha:cD f o R with
  | error e'=>
   rw[ha] at h;cases h;exact gE f o R e p ha
  | ok y=>
   rw[ha] at h;exact aDn f o _ _ e p h
theorem aDn:∀(f o:Nat) (x:Ty) (R:List Tk) (e p:Int),gF f o x R=.error (e,p)→¬e=0
 | 0,_,_,_,_,_,h=>by rw[gF] at h;cases h;decide
 | _+1,_,_,[],_,_,h=>by rw[gF] at h;cases h;decide
 | f+1,o,x,t::R,e,p,h=>by
  rw[gF] at h;split at h
  ·cases ha:cD f o (t::R) with
   | error e'=>
    rw[ha] at h;cases h;exact gE f o (t::R) e p ha
   | ok y=>
    rw[ha] at h;exact aDn f o _ _ e p h
  split at h
  ·cases ha:bV f o R with
   | error e'=>
    rw[ha] at h;cases h;exact gM f o R e p ha
   | ok y=>
    rw[ha] at h;cases h
  ·cases h
end
theorem aRc (s:Str):bI Tryz.prog 85 [Go.AM.T s] [] (tyV (.mk 2 0 s [])) []:=by
 refine bM (n:=5) tok Tryz.func85 rfl rfl rfl ?_;exact sg rfl (sg rfl (aD (rtC trw)))
theorem aIz (s:Str):bI Tryz.prog 226 [Go.AM.T s] [] (tyV (.mk 3 0 s [])) []:=by
 refine bM (n:=5) tok Tryz.func226 rfl rfl rfl ?_;exact sg rfl (sg rfl (aD (rtC trw)))
def yS (L:List Tk):V:=.one (.c (.sl 4 (L.map aK)))
def tkV (t:Tk):V:=.pa (aK t)
structure At (L:List Tk) (i:Nat) (R:List Tk):Prop where
 d:L.drop i=R
 e:nT R
 l:L.length≤4001
theorem At.lt {L:List Tk}{i:Nat}{R:List Tk}(h:At L i R):i+R.length=L.length∧1≤R.length:=by
 obtain⟨t,R',q⟩:=h.e.ne;have:=congrArg List.length h.d;rw[Be] at this;have h1:1≤R.length:=by rw[q,κ];omega
 omega
theorem At.get {L:List Tk}{i:Nat}{t:Tk}{R:List Tk}(h:At L i (t::R)):L[i]?=some t:=by
 have:=congrArg (fun l=>l[0]?) h.d;simpa [Am] using this
theorem At.to {L:List Tk}{i:Nat}{R p R':List Tk}(h:At L i R) (hs:R=p++R') (he:nT R'):At L (i+p.length) R'∧L.length-R'.length=i+p.length:=by
 have h1:=h.lt;refine⟨⟨?_,he,h.l⟩,?_⟩
 ·rw[←Cr,h.d,hs,List.drop_left]
 ·rw[hs,ψ] at h1;omega
theorem At.next {L:List Tk}{i:Nat}{t:Tk}{R:List Tk}(h:At L i (t::R)) (q:¬t.kind=6):At L (i+1) R∧L.length-R.length=i+1:=h.to (p:=[t]) rfl (h.e.tail q)
theorem At.ok {L:List Tk}{i m:Nat}{R R':List Tk}{x:Ty}(h:At L i R) (k:TOk R m x R'):At L (L.length-R'.length) R'∧i+m≤L.length-R'.length:=by
 obtain⟨p,hs,hp⟩:=k.s;obtain⟨g1,g2⟩:=h.to hs (k.e h.e);rw[g2];exact⟨g1,by omega⟩
def aHt (o:List Str) (s:Str):List Str:=if s∈o then o else o++[s]
def oY (o l:List Str):List Str:=l.foldl aHt o
theorem aB0 (o l m:List Str):oY o (l++m)=oY (oY o l) m:=by unfold oY;rw[foldl_append]
theorem n9:∀(l o:List Str),(oY o l).length≤o.length+l.length
 | [],o=>le_refl _
 | x::l,o=>by
  have:=n9 l (aHt o x);have h1:(aHt o x).length≤o.length+1:=by unfold aHt;split<;>simp
  show(oY (aHt o x) l).length≤_;rw[κ];omega
def oV (l:List Str):V:=.one (.hs 710 0 l.length l.length)
def oO (l:List Str):AObj:=.arr 9 1 (l.map aR) 1
structure Prd where
 cls:Str
 ty:Ty
def aQ (p:Prd):List C:=[.str p.cls,.int .i64 p.ty.form,.int .i64 p.ty.n,.str p.ty.name,.sl 4 (eI p.ty)]
def tA:Str:=[44]
def darrow:Str:=[61,62]
def eT:Nat→Bool→List Tk→List Prd→Option (List Prd×List Tk)
 | 0,_,_,_=>none
 | _+1,_,[],_=>none
 | f+1,b,t::R,out=>
  if t.kind=2 then(match cD (3*R.length) (if b=true then 1 else 0) R with
   | .error _=>none
   | .ok (_,[])=>none
   | .ok (x,u::R2)=>if(b&&isT u tA)=true then eT f b R2 (out++[⟨t.text,x⟩]) else some (out++[⟨t.text,x⟩],u::R2))
  else none
abbrev PR:=Except PE (List Prd×List Tk)
def yD (at':Int) (R0:List Tk) (out:List Prd):List Tk→PR
 | []=>.ok ([],R0)
 | u::R=>if isT u darrow=true then(if 16<out.length then .error (2,at') else .ok (out,R)) else .ok ([],R0)
def brP (at':Int) (R0:List Tk) (b:Bool) (out:List Prd):List Tk→PR
 | []=>.ok ([],R0)
 | u::R=>if b=true then(if isT u oR=true then yD at' R0 out R else .ok ([],R0)) else yD at' R0 out (u::R)
def nW (at':Int) (R0:List Tk) (b:Bool):Option (List Prd×List Tk)→PR
 | none=>.ok ([],R0)
 | some (out,R1)=>brP at' R0 b out R1
def cH:List Tk→PR
 | []=>.ok ([],[])
 | t::R=>nW t.pl (t::R) (isT t cW) (eT ((t::R).length+1) (isT t cW) (if isT t cW=true then R else t::R) [])
structure POk (R:List Tk) (out:List Prd) (R':List Tk) (m:Nat):Prop where
 e:nT R→nT R'
 s:∃p,R=p++R'∧m≤p.length
 w:∀p∈out,WF p.ty∧tn p.ty≤wt R
 l:out.length≤R.length
theorem sC {p R:List Tk}:wt R≤wt (p++R):=by unfold wt;rw[Ah,sum_append];omega
theorem tZ:∀(f:Nat) (b:Bool) (R:List Tk) (out:List Prd) (r:List Prd) (R':List Tk) (W n:Nat),wt R≤W→(∀p∈out,WF p.ty∧tn p.ty≤W)→out.length+R.length≤n→eT f b R out=some (r,R')→
  (nT R→nT R')∧(∃p,R=p++R'∧1≤p.length)∧(∀p∈r,WF p.ty∧tn p.ty≤W)∧r.length≤n
 | 0,_,_,_,_,_,_,_,_,_,_,h=>by rw[eT] at h;cases h
 | _+1,_,[],_,_,_,_,_,_,_,_,h=>by rw[eT] at h;cases h
 | f+1,b,t::R,out,r,R',W,n,E,ho,hn,h=>by
  rw[eT] at h;by_cases h2:t.kind=2
  ·rw[ξ h2] at h;have hok:=lE (3*R.length) (if b=true then 1 else 0) R;generalize cD (3*R.length) (if b=true then 1 else 0) R=w at hok h;cases w with
   | error e=>cases h
   | ok y=>
    obtain⟨x,R1⟩:=y;obtain⟨⟨g1,⟨p,g2,g3⟩,g4⟩,g5⟩:=hok x R1 rfl;rw[c9] at E;rw[κ] at hn;have B:R1.length+1≤R.length:=by rw[g2,ψ];omega
    have A:∀q∈out++[(⟨t.text,x⟩:Prd)],WF q.ty∧tn q.ty≤W:=fun q hq=>by
     rcases A2.1 hq with hq | hq
     ·exact ho q hq
     ·rw[Ar.1 hq];exact⟨g4,by show tn x≤W;omega⟩
    cases R1 with
    | nil=>cases h
    | cons u R2=>
     dsimp only at h;split at h
     ·rename_i hc;rw[Ab] at hc;have hu:=cT hc.2;rw[c9] at g5;rw[κ] at B;obtain⟨I,⟨q,J,U⟩,M,O⟩:=tZ f b R2 (out++[⟨t.text,x⟩]) r R' W n (by omega) A (by rw[ψ,Bi];omega) h;exact⟨fun he=>I ((g1 (he.tail (by omega))).tail (by omega)),⟨t::(p++u::q),by rw[g2,J];simp,by simp⟩,M,O⟩
     ·cases h;exact⟨fun he=>g1 (he.tail (by omega)),⟨t::p,by rw[g2];rfl,by simp⟩,A,by rw[ψ,Bi];omega⟩
  ·rw[ζ h2] at h;cases h
theorem aOu {a:Int}{R0 R1:List Tk}{out q:List Prd}{R':List Tk}(hs:(nT R0→nT R1)∧∃p,R0=p++R1) (ho:∀p∈out,WF p.ty∧tn p.ty≤wt R0) (hl:out.length≤R0.length) (h:yD a R0 out R1=.ok (q,R')):POk R0 q R' 0:=by
 have r:POk R0 [] R0 0:=⟨id,⟨[],rfl,le_refl _⟩,fun p hp=>by(cases hp),Ae _⟩
 cases R1 with
 | nil=>rw[yD] at h;cases h;exact r
 | cons u R=>
  rw[yD] at h;split at h
  ·rename_i hu;split at h
   ·cases h
   ·cases h;obtain⟨h1,p,h2⟩:=hs;exact⟨fun he=>(h1 he).tail (by rw[(cT hu).1];decide),⟨p++[u],by rw[h2];simp,Ae _⟩,ho,hl⟩
  ·cases h;exact r
theorem n0 {R:List Tk}{out:List Prd}{R':List Tk}(h:cH R=.ok (out,R')):POk R out R' 0:=by
 have A:POk R [] R 0:=⟨id,⟨[],rfl,le_refl _⟩,fun p hp=>by(cases hp),Ae _⟩
 cases R with
 | nil=>rw[cH] at h;cases h;exact A
 | cons t R=>
  rw[cH] at h;have r:(nT (t::R)→nT (if isT t cW=true then R else t::R))∧(∃p,t::R=p++(if isT t cW=true then R else t::R)):=by
   by_cases hb:isT t cW=true
   ·rw[ξ hb];exact⟨fun he=>he.tail (by rw[(cT hb).1];decide),[t],rfl⟩
   ·rw[ζ hb];exact⟨id,[],rfl⟩
  have hw:wt (if isT t cW=true then R else t::R)≤wt (t::R):=by
   split
   ·rw[c9];omega
   ·exact le_refl _
  have hlen:(if isT t cW=true then R else t::R).length≤(t::R).length:=by split<;>simp
  have hok:=tZ ((t::R).length+1) (isT t cW) (if isT t cW=true then R else t::R) [];generalize (if isT t cW=true then R else t::R)=Q at r hw hlen hok h;generalize isT t cW=b at hok h;cases hp:eT ((t::R).length+1) b Q [] with
  | none=>rw[hp,nW] at h;cases h;exact A
  | some y=>
   obtain⟨J,R1⟩:=y;rw[hp,nW] at h;obtain⟨M,⟨q,O,k3⟩,E,I⟩:=hok J R1 (wt (t::R)) (t::R).length hw (fun p hp=>by cases hp) (by rw[length_nil];omega) hp;obtain⟨h1,p,h2⟩:=r;have B:(nT (t::R)→nT R1)∧∃p,t::R=p++R1:=⟨fun he=>M (h1 he),p++q,by rw[h2,O,Aj]⟩
   cases R1 with
   | nil=>rw[brP] at h;cases h;exact A
   | cons u R2=>
    rw[brP] at h;split at h
    ·split at h
     ·rename_i hu;obtain⟨U,Y,h4⟩:=B;exact aOu ⟨fun he=>(U he).tail (by rw[(cT hu).1];decide),Y++[u],by rw[h4];simp⟩ E I h
     ·cases h;exact A
    ·exact aOu B E I h
structure Sch where
 vars:List Str
 preds:List Prd
 ty:Ty
def gP (o:List Str) (ps:List Prd):List Str:=ps.foldl (fun o p=>oY o (tfR p.ty)) o
def aTd (ps:List Prd) (x:Ty):List Str:=oY (gP [] ps) (tfR x)
abbrev SR:=Except PE (Sch×List Tk)
def nZ (ps:List Prd):TR→SR
 | .error e=>.error e
 | .ok (x,R)=>.ok (⟨aTd ps x,ps,x⟩,R)
def qP:PR→SR
 | .error e=>.error e
 | .ok (ps,R)=>nZ ps (bV (3*R.length+2) 0 R)
def cG (R:List Tk):SR:=qP (cH R)
theorem zT (o:List Str) (ps:List Prd) (p:Prd):gP o (ps++[p])=oY (gP o ps) (tfR p.ty):=by unfold gP;rw[foldl_append];rfl
theorem aIc {ps:List Prd}{i:Nat}{p:Prd}(h:ps[i]?=some p):gP [] (ps.take (i+1))=oY (gP [] (ps.take i)) (tfR p.ty):=by rw[Bw,h];exact zT _ _ _
theorem aCc {W:Nat}:∀(ps:List Prd) (o:List Str),(∀p∈ps,tn p.ty≤W)→(gP o ps).length≤o.length+ps.length*W
 | [],o,_=>by show o.length≤_;omega
 | p::ps,o,h=>by
  have h1:=aCc ps (oY o (tfR p.ty)) fun q hq=>h q (Bc _ hq)
  have h2:=n9 (tfR p.ty) o;have r:=sD p.ty;have u:=h p Bp;show(gP (oY o (tfR p.ty)) ps).length≤_;rw[κ,A7];omega
theorem aDl {a:Int}{R0 R1:List Tk}{out:List Prd}{e p:Int}(h:yD a R0 out R1=.error (e,p)):¬e=0:=by
 cases R1 with
 | nil=>rw[yD] at h;cases h
 | cons u R=>
  rw[yD] at h;split at h
  ·split at h
   ·cases h;decide
   ·cases h
  ·cases h
theorem iY {R:List Tk}{e p:Int}(h:cH R=.error (e,p)):¬e=0:=by
 cases R with
 | nil=>rw[cH] at h;cases h
 | cons t R=>
  rw[cH] at h;cases hp:eT ((t::R).length+1) (isT t cW) (if isT t cW=true then R else t::R) [] with
  | none=>rw[hp,nW] at h;cases h
  | some y=>
   obtain⟨q,R1⟩:=y;rw[hp,nW] at h;cases R1 with
   | nil=>rw[brP] at h;cases h
   | cons u R2=>
    rw[brP] at h;split at h
    ·split at h
     ·exact aDl h
     ·cases h
    ·exact aDl h
theorem qO {R:List Tk}{e p:Int}(h:cG R=.error (e,p)):¬e=0:=by
 unfold cG at h;cases hp:cH R with
 | error e'=>rw[hp,qP] at h;cases h;exact iY hp
 | ok y=>
  obtain⟨ps,R1⟩:=y;rw[hp,qP] at h;cases hw:bV (3*R1.length+2) 0 R1 with
  | error e'=>rw[hw,nZ] at h;cases h;exact gM _ _ _ _ _ hw
  | ok y=>obtain⟨x,R2⟩:=y;rw[hw,nZ] at h;cases h
section
variable {fn:Func}{st:St}{hin hout:List (Nat×AObj)}
theorem jP {a0 t0 E u O:Nat}{i0:TI}{q:List AM.R}{v0 w0:V}{ids0:List Nat}{U:Nat}{v1 A:V}{J:List Nat}{a2 t2 I y Y:Nat}{i2:TI}{r:List AM.R}{v2 B:V}{M:List Nat}(hr:fn.results.toList=[.cell a0 t0,.tmp U,.cell a2 t2]:=by rfl) (aa:tr.get t0=some i0:=by rfl) (ab:st.e a0=some (.one (.vp E u)):=by rfl) (ac:st.h E=some (.var O q):=by rfl) (ad:Nat.ble (u+i0.size) q.length=true:=by rfl) (ae:jV i0 ((q.drop u).take i0.size)=some v0:=by rfl) (af:st.e U=some v1:=by rfl) (ag:tr.get t2=some i2:=by rfl) (ah:st.e a2=some (.one (.vp I y)):=by rfl) (ai:st.h I=some (.var Y r):=by rfl) (aj:Nat.ble (y+i2.size) r.length=true:=by rfl) (ak:jV i2 ((r.drop y).take i2.size)=some v2:=by rfl)
  (al:Conv st.h ids0 v0 w0:=by first | exact .refl | exact .one (.c .nl .nil) | exact .one (.hs rfl (by first | rfl | assumption | simp) (by first | rfl | exact Go.AM.take_all (by first | assumption | rfl | (simp;done)) | exact Go.AM.take_map.symm) .nil) | ((first | apply Go.AM.Conv.pa | apply Go.AM.Conv.agg);repeat (first | exact .nil | apply Go.AM.PureL.c .refl | apply Go.AM.PureL.c .nl | (apply Go.AM.PureL.hs;rfl;(first | rfl | assumption | simp);(first | rfl | exact Go.AM.take_all (by first | assumption | rfl | (simp;done)) | exact Go.AM.take_map.symm))))) (am:Conv st.h J v1 A:=by first | exact .refl | exact .one (.c .nl .nil) | exact .one (.hs rfl (by first | rfl | assumption | simp) (by first | rfl | exact Go.AM.take_all (by first | assumption | rfl | (simp;done)) | exact Go.AM.take_map.symm) .nil) | ((first | apply Go.AM.Conv.pa | apply Go.AM.Conv.agg);repeat (first | exact .nil | apply Go.AM.PureL.c .refl | apply Go.AM.PureL.c .nl | (apply Go.AM.PureL.hs;rfl;(first | rfl | assumption | simp);(first | rfl | exact Go.AM.take_all (by first | assumption | rfl | (simp;done)) | exact Go.AM.take_map.symm))))) (an:Conv st.h M v2 B:=by first | exact .refl | exact .one (.c .nl .nil) | exact .one (.hs rfl (by first | rfl | assumption | simp) (by first | rfl | exact Go.AM.take_all (by first | assumption | rfl | (simp;done)) | exact Go.AM.take_map.symm) .nil) | ((first | apply Go.AM.Conv.pa | apply Go.AM.Conv.agg);repeat (first | exact .nil | apply Go.AM.PureL.c .refl | apply Go.AM.PureL.c .nl | (apply Go.AM.PureL.hs;rfl;(first | rfl | assumption | simp);(first | rfl | exact Go.AM.take_all (by first | assumption | rfl | (simp;done)) | exact Go.AM.take_map.symm)))))
  (ho:gG (fun p=>∃o,st.h p.1=some o∧Ole (fun i=>i) o p.2) hout:=by repeat (first | exact trivial | refine⟨⟨_,rfl,by first | exact Go.AM.Ole.arr | exact Go.AM.Ole.var rfl | exact Go.AM.Ole.varS rfl⟩,?_⟩))
  (hok:(subset (V.tup [w0,A,B]).refs (keys hout)&&subset (gS hout) (keys hout)&&Go.AM.distinct (keys hout)&&subset (keys hin) (keys hout)&&(hin.all fun p=>p.2.plain)&&(hout.all fun p=>p.2.plain))=true:=by rfl):(Exit.ret=.normal∨Exit.ret=.ret)∧Fin tr.flat fn st hin (.tup [w0,A,B]) hout:=
 ⟨.inr rfl,⟨[v0,v1,v2],[w0,A,B],by rw[hr];exact .cell ab (Tr.get_ok trw aa) ac ad ae (.tmp af (.cell ah (Tr.get_ok trw ag) ai aj ak (.nil))),.cons al (.cons am (.cons an (.nil))),rfl⟩,ho,hok⟩
theorem aK3 {I:Nat}{v0 w0:V}{ids0:List Nat}{J:Nat}{v1 u:V}{B:List Nat}{a2 t2 A r M:Nat}{i2:TI}{q:List AM.R}{v2 y:V}{E:List Nat}(hr:fn.results.toList=[.tmp I,.tmp J,.cell a2 t2]:=by rfl) (O:st.e I=some v0:=by rfl) (U:st.e J=some v1:=by rfl) (Y:tr.get t2=some i2:=by rfl) (aa:st.e a2=some (.one (.vp A r)):=by rfl) (ab:st.h A=some (.var M q):=by rfl) (ac:Nat.ble (r+i2.size) q.length=true:=by rfl) (ad:jV i2 ((q.drop r).take i2.size)=some v2:=by rfl)
  (ae:Conv st.h ids0 v0 w0:=by first | exact .refl | exact .one (.c .nl .nil) | exact .one (.hs rfl (by first | rfl | assumption | simp) (by first | rfl | exact Go.AM.take_all (by first | assumption | rfl | (simp;done)) | exact Go.AM.take_map.symm) .nil) | ((first | apply Go.AM.Conv.pa | apply Go.AM.Conv.agg);repeat (first | exact .nil | apply Go.AM.PureL.c .refl | apply Go.AM.PureL.c .nl | (apply Go.AM.PureL.hs;rfl;(first | rfl | assumption | simp);(first | rfl | exact Go.AM.take_all (by first | assumption | rfl | (simp;done)) | exact Go.AM.take_map.symm))))) (af:Conv st.h B v1 u:=by first | exact .refl | exact .one (.c .nl .nil) | exact .one (.hs rfl (by first | rfl | assumption | simp) (by first | rfl | exact Go.AM.take_all (by first | assumption | rfl | (simp;done)) | exact Go.AM.take_map.symm) .nil) | ((first | apply Go.AM.Conv.pa | apply Go.AM.Conv.agg);repeat (first | exact .nil | apply Go.AM.PureL.c .refl | apply Go.AM.PureL.c .nl | (apply Go.AM.PureL.hs;rfl;(first | rfl | assumption | simp);(first | rfl | exact Go.AM.take_all (by first | assumption | rfl | (simp;done)) | exact Go.AM.take_map.symm))))) (ag:Conv st.h E v2 y:=by first | exact .refl | exact .one (.c .nl .nil) | exact .one (.hs rfl (by first | rfl | assumption | simp) (by first | rfl | exact Go.AM.take_all (by first | assumption | rfl | (simp;done)) | exact Go.AM.take_map.symm) .nil) | ((first | apply Go.AM.Conv.pa | apply Go.AM.Conv.agg);repeat (first | exact .nil | apply Go.AM.PureL.c .refl | apply Go.AM.PureL.c .nl | (apply Go.AM.PureL.hs;rfl;(first | rfl | assumption | simp);(first | rfl | exact Go.AM.take_all (by first | assumption | rfl | (simp;done)) | exact Go.AM.take_map.symm)))))
  (ho:gG (fun p=>∃o,st.h p.1=some o∧Ole (fun i=>i) o p.2) hout:=by repeat (first | exact trivial | refine⟨⟨_,rfl,by first | exact Go.AM.Ole.arr | exact Go.AM.Ole.var rfl | exact Go.AM.Ole.varS rfl⟩,?_⟩))
  (hok:(subset (V.tup [w0,u,y]).refs (keys hout)&&subset (gS hout) (keys hout)&&Go.AM.distinct (keys hout)&&subset (keys hin) (keys hout)&&(hin.all fun p=>p.2.plain)&&(hout.all fun p=>p.2.plain))=true:=by rfl):(Exit.ret=.normal∨Exit.ret=.ret)∧Fin tr.flat fn st hin (.tup [w0,u,y]) hout:=
 ⟨.inr rfl,⟨[v0,v1,v2],[w0,u,y],by rw[hr];exact .tmp O (.tmp U (.cell aa (Tr.get_ok trw Y) ab ac ad (.nil))),.cons ae (.cons af (.cons ag (.nil))),rfl⟩,ho,hok⟩
theorem aK2 {A:Nat}{v0 w0:V}{ids0:List Nat}{B:Nat}{v1 q:V}{u:List Nat}{E:Nat}{v2 r:V}{y:List Nat}(hr:fn.results.toList=[.tmp A,.tmp B,.tmp E]:=by rfl) (I:st.e A=some v0:=by rfl) (J:st.e B=some v1:=by rfl) (M:st.e E=some v2:=by rfl)
  (O:Conv st.h ids0 v0 w0:=by first | exact .refl | exact .one (.c .nl .nil) | exact .one (.hs rfl (by first | rfl | assumption | simp) (by first | rfl | exact Go.AM.take_all (by first | assumption | rfl | (simp;done)) | exact Go.AM.take_map.symm) .nil) | ((first | apply Go.AM.Conv.pa | apply Go.AM.Conv.agg);repeat (first | exact .nil | apply Go.AM.PureL.c .refl | apply Go.AM.PureL.c .nl | (apply Go.AM.PureL.hs;rfl;(first | rfl | assumption | simp);(first | rfl | exact Go.AM.take_all (by first | assumption | rfl | (simp;done)) | exact Go.AM.take_map.symm))))) (U:Conv st.h u v1 q:=by first | exact .refl | exact .one (.c .nl .nil) | exact .one (.hs rfl (by first | rfl | assumption | simp) (by first | rfl | exact Go.AM.take_all (by first | assumption | rfl | (simp;done)) | exact Go.AM.take_map.symm) .nil) | ((first | apply Go.AM.Conv.pa | apply Go.AM.Conv.agg);repeat (first | exact .nil | apply Go.AM.PureL.c .refl | apply Go.AM.PureL.c .nl | (apply Go.AM.PureL.hs;rfl;(first | rfl | assumption | simp);(first | rfl | exact Go.AM.take_all (by first | assumption | rfl | (simp;done)) | exact Go.AM.take_map.symm))))) (Y:Conv st.h y v2 r:=by first | exact .refl | exact .one (.c .nl .nil) | exact .one (.hs rfl (by first | rfl | assumption | simp) (by first | rfl | exact Go.AM.take_all (by first | assumption | rfl | (simp;done)) | exact Go.AM.take_map.symm) .nil) | ((first | apply Go.AM.Conv.pa | apply Go.AM.Conv.agg);repeat (first | exact .nil | apply Go.AM.PureL.c .refl | apply Go.AM.PureL.c .nl | (apply Go.AM.PureL.hs;rfl;(first | rfl | assumption | simp);(first | rfl | exact Go.AM.take_all (by first | assumption | rfl | (simp;done)) | exact Go.AM.take_map.symm)))))
  (ho:gG (fun p=>∃o,st.h p.1=some o∧Ole (fun i=>i) o p.2) hout:=by repeat (first | exact trivial | refine⟨⟨_,rfl,by first | exact Go.AM.Ole.arr | exact Go.AM.Ole.var rfl | exact Go.AM.Ole.varS rfl⟩,?_⟩))
  (hok:(subset (V.tup [w0,q,r]).refs (keys hout)&&subset (gS hout) (keys hout)&&Go.AM.distinct (keys hout)&&subset (keys hin) (keys hout)&&(hin.all fun p=>p.2.plain)&&(hout.all fun p=>p.2.plain))=true:=by rfl):(Exit.ret=.normal∨Exit.ret=.ret)∧Fin tr.flat fn st hin (.tup [w0,q,r]) hout:=
 ⟨.inr rfl,⟨[v0,v1,v2],[w0,q,r],by rw[hr];exact .tmp I (.tmp J (.tmp M (.nil))),.cons O (.cons U (.cons Y (.nil))),rfl⟩,ho,hok⟩
theorem aPi {a0 t0 A r I:Nat}{i0:TI}{q:List AM.R}{v0 w0:V}{ids0:List Nat}{J:Nat}{v1 u:V}{B:List Nat}{M:Nat}{v2 y:V}{E:List Nat}(hr:fn.results.toList=[.cell a0 t0,.tmp J,.tmp M]:=by rfl) (O:tr.get t0=some i0:=by rfl) (U:st.e a0=some (.one (.vp A r)):=by rfl) (Y:st.h A=some (.var I q):=by rfl) (aa:Nat.ble (r+i0.size) q.length=true:=by rfl) (ab:jV i0 ((q.drop r).take i0.size)=some v0:=by rfl) (ac:st.e J=some v1:=by rfl) (ad:st.e M=some v2:=by rfl)
  (ae:Conv st.h ids0 v0 w0:=by first | exact .refl | exact .one (.c .nl .nil) | exact .one (.hs rfl (by first | rfl | assumption | simp) (by first | rfl | exact Go.AM.take_all (by first | assumption | rfl | (simp;done)) | exact Go.AM.take_map.symm) .nil) | ((first | apply Go.AM.Conv.pa | apply Go.AM.Conv.agg);repeat (first | exact .nil | apply Go.AM.PureL.c .refl | apply Go.AM.PureL.c .nl | (apply Go.AM.PureL.hs;rfl;(first | rfl | assumption | simp);(first | rfl | exact Go.AM.take_all (by first | assumption | rfl | (simp;done)) | exact Go.AM.take_map.symm))))) (af:Conv st.h B v1 u:=by first | exact .refl | exact .one (.c .nl .nil) | exact .one (.hs rfl (by first | rfl | assumption | simp) (by first | rfl | exact Go.AM.take_all (by first | assumption | rfl | (simp;done)) | exact Go.AM.take_map.symm) .nil) | ((first | apply Go.AM.Conv.pa | apply Go.AM.Conv.agg);repeat (first | exact .nil | apply Go.AM.PureL.c .refl | apply Go.AM.PureL.c .nl | (apply Go.AM.PureL.hs;rfl;(first | rfl | assumption | simp);(first | rfl | exact Go.AM.take_all (by first | assumption | rfl | (simp;done)) | exact Go.AM.take_map.symm))))) (ag:Conv st.h E v2 y:=by first | exact .refl | exact .one (.c .nl .nil) | exact .one (.hs rfl (by first | rfl | assumption | simp) (by first | rfl | exact Go.AM.take_all (by first | assumption | rfl | (simp;done)) | exact Go.AM.take_map.symm) .nil) | ((first | apply Go.AM.Conv.pa | apply Go.AM.Conv.agg);repeat (first | exact .nil | apply Go.AM.PureL.c .refl | apply Go.AM.PureL.c .nl | (apply Go.AM.PureL.hs;rfl;(first | rfl | assumption | simp);(first | rfl | exact Go.AM.take_all (by first | assumption | rfl | (simp;done)) | exact Go.AM.take_map.symm)))))
  (ho:gG (fun p=>∃o,st.h p.1=some o∧Ole (fun i=>i) o p.2) hout:=by repeat (first | exact trivial | refine⟨⟨_,rfl,by first | exact Go.AM.Ole.arr | exact Go.AM.Ole.var rfl | exact Go.AM.Ole.varS rfl⟩,?_⟩))
  (hok:(subset (V.tup [w0,u,y]).refs (keys hout)&&subset (gS hout) (keys hout)&&Go.AM.distinct (keys hout)&&subset (keys hin) (keys hout)&&(hin.all fun p=>p.2.plain)&&(hout.all fun p=>p.2.plain))=true:=by rfl):(Exit.ret=.normal∨Exit.ret=.ret)∧Fin tr.flat fn st hin (.tup [w0,u,y]) hout:=
 ⟨.inr rfl,⟨[v0,v1,v2],[w0,u,y],by rw[hr];exact .cell U (Tr.get_ok trw O) Y aa ab (.tmp ac (.tmp ad (.nil))),.cons ae (.cons af (.cons ag (.nil))),rfl⟩,ho,hok⟩
theorem aGi {a0 t0 y r B:Nat}{i0:TI}{q:List AM.R}{v0 w0:V}{ids0:List Nat}{E:Nat}{v1 u:V}{A:List Nat}(hr:fn.results.toList=[.cell a0 t0,.tmp E]:=by rfl) (I:tr.get t0=some i0:=by rfl) (J:st.e a0=some (.one (.vp y r)):=by rfl) (M:st.h y=some (.var B q):=by rfl) (O:Nat.ble (r+i0.size) q.length=true:=by rfl) (U:jV i0 ((q.drop r).take i0.size)=some v0:=by rfl) (Y:st.e E=some v1:=by rfl)
  (aa:Conv st.h ids0 v0 w0:=by first | exact .refl | exact .one (.c .nl .nil) | exact .one (.hs rfl (by first | rfl | assumption | simp) (by first | rfl | exact Go.AM.take_all (by first | assumption | rfl | (simp;done)) | exact Go.AM.take_map.symm) .nil) | ((first | apply Go.AM.Conv.pa | apply Go.AM.Conv.agg);repeat (first | exact .nil | apply Go.AM.PureL.c .refl | apply Go.AM.PureL.c .nl | (apply Go.AM.PureL.hs;rfl;(first | rfl | assumption | simp);(first | rfl | exact Go.AM.take_all (by first | assumption | rfl | (simp;done)) | exact Go.AM.take_map.symm))))) (ab:Conv st.h A v1 u:=by first | exact .refl | exact .one (.c .nl .nil) | exact .one (.hs rfl (by first | rfl | assumption | simp) (by first | rfl | exact Go.AM.take_all (by first | assumption | rfl | (simp;done)) | exact Go.AM.take_map.symm) .nil) | ((first | apply Go.AM.Conv.pa | apply Go.AM.Conv.agg);repeat (first | exact .nil | apply Go.AM.PureL.c .refl | apply Go.AM.PureL.c .nl | (apply Go.AM.PureL.hs;rfl;(first | rfl | assumption | simp);(first | rfl | exact Go.AM.take_all (by first | assumption | rfl | (simp;done)) | exact Go.AM.take_map.symm)))))
  (ho:gG (fun p=>∃o,st.h p.1=some o∧Ole (fun i=>i) o p.2) hout:=by repeat (first | exact trivial | refine⟨⟨_,rfl,by first | exact Go.AM.Ole.arr | exact Go.AM.Ole.var rfl | exact Go.AM.Ole.varS rfl⟩,?_⟩))
  (hok:(subset (V.tup [w0,u]).refs (keys hout)&&subset (gS hout) (keys hout)&&Go.AM.distinct (keys hout)&&subset (keys hin) (keys hout)&&(hin.all fun p=>p.2.plain)&&(hout.all fun p=>p.2.plain))=true:=by rfl):(Exit.ret=.normal∨Exit.ret=.ret)∧Fin tr.flat fn st hin (.tup [w0,u]) hout:=
 ⟨.inr rfl,⟨[v0,v1],[w0,u],by rw[hr];exact .cell J (Tr.get_ok trw I) M O U (.tmp Y (.nil)),.cons aa (.cons ab (.nil)),rfl⟩,ho,hok⟩
theorem aPj {a0 t0 E u M:Nat}{i0:TI}{q:List AM.R}{v0 w0:V}{ids0:List Nat}{O t1 I y U:Nat}{A:TI}{r:List AM.R}{v1 B:V}{J:List Nat}(hr:fn.results.toList=[.cell a0 t0,.cell O t1]:=by rfl) (Y:tr.get t0=some i0:=by rfl) (aa:st.e a0=some (.one (.vp E u)):=by rfl) (ab:st.h E=some (.var M q):=by rfl) (ac:Nat.ble (u+i0.size) q.length=true:=by rfl) (ad:jV i0 ((q.drop u).take i0.size)=some v0:=by rfl) (ae:tr.get t1=some A:=by rfl) (af:st.e O=some (.one (.vp I y)):=by rfl) (ag:st.h I=some (.var U r):=by rfl) (ah:Nat.ble (y+A.size) r.length=true:=by rfl) (ai:jV A ((r.drop y).take A.size)=some v1:=by rfl)
  (aj:Conv st.h ids0 v0 w0:=by first | exact .refl | exact .one (.c .nl .nil) | exact .one (.hs rfl (by first | rfl | assumption | simp) (by first | rfl | exact Go.AM.take_all (by first | assumption | rfl | (simp;done)) | exact Go.AM.take_map.symm) .nil) | ((first | apply Go.AM.Conv.pa | apply Go.AM.Conv.agg);repeat (first | exact .nil | apply Go.AM.PureL.c .refl | apply Go.AM.PureL.c .nl | (apply Go.AM.PureL.hs;rfl;(first | rfl | assumption | simp);(first | rfl | exact Go.AM.take_all (by first | assumption | rfl | (simp;done)) | exact Go.AM.take_map.symm))))) (ak:Conv st.h J v1 B:=by first | exact .refl | exact .one (.c .nl .nil) | exact .one (.hs rfl (by first | rfl | assumption | simp) (by first | rfl | exact Go.AM.take_all (by first | assumption | rfl | (simp;done)) | exact Go.AM.take_map.symm) .nil) | ((first | apply Go.AM.Conv.pa | apply Go.AM.Conv.agg);repeat (first | exact .nil | apply Go.AM.PureL.c .refl | apply Go.AM.PureL.c .nl | (apply Go.AM.PureL.hs;rfl;(first | rfl | assumption | simp);(first | rfl | exact Go.AM.take_all (by first | assumption | rfl | (simp;done)) | exact Go.AM.take_map.symm)))))
  (ho:gG (fun p=>∃o,st.h p.1=some o∧Ole (fun i=>i) o p.2) hout:=by repeat (first | exact trivial | refine⟨⟨_,rfl,by first | exact Go.AM.Ole.arr | exact Go.AM.Ole.var rfl | exact Go.AM.Ole.varS rfl⟩,?_⟩))
  (hok:(subset (V.tup [w0,B]).refs (keys hout)&&subset (gS hout) (keys hout)&&Go.AM.distinct (keys hout)&&subset (keys hin) (keys hout)&&(hin.all fun p=>p.2.plain)&&(hout.all fun p=>p.2.plain))=true:=by rfl):(Exit.ret=.normal∨Exit.ret=.ret)∧Fin tr.flat fn st hin (.tup [w0,B]) hout:=
 ⟨.inr rfl,⟨[v0,v1],[w0,B],by rw[hr];exact .cell aa (Tr.get_ok trw Y) ab ac ad (.cell af (Tr.get_ok trw ae) ag ah ai (.nil)),.cons aj (.cons ak (.nil)),rfl⟩,ho,hok⟩
end
def pG (L:List Tk):Prop:=∀t∈L,t.kind=4→t.n=0
theorem xV (t:Tk) (s:Str) (h:t.kind=4→t.n=0):bI Tryz.prog 212 [tkV t,Go.AM.T s] [] (B (isT t s)) []:=by
 have e:aFl [.int .i64 t.kind,.str t.text,.int .i64 t.n,.int .i64 0] [.int .i64 4,.str s,.int .i64 0,.int .i64 0]=isT t s:=by
  unfold isT;simp only[aFl,ceq,decide_true,Bool.and_true];by_cases q:t.kind=4
  ·rw[h q];simp
  ·rw[φ q];rfl
 rw[←e];refine bM (n:=10) tok Tryz.func212 rfl rfl rfl ?_;refine sg rfl (sg rfl (sk 3 rfl (k_ (g_ rfl rfl (aGq tok (by unfold aFm;kernel_rfl) rfl rfl (by decide) (tg rfl) rfl rfl rfl rfl)) ?_)));exact kz 1 rfl (aD rtT)
theorem nL (t:Tk) (e:Int):bI Tryz.prog 214 [tkV t,I .i64 e] [] (atV e t.pl) []:=by
 refine bM (n:=9) tok Tryz.func214 rfl rfl rfl ?_;exact sg rfl (sg rfl (aD (rtC trw)))
theorem aAt {t:Ty}(h:wfS t=true):bI Tryz.prog 235 [tyV t] [] (tyV t) []:=aI2 _ t (le_refl _) h
theorem aOk (a b:Ty) (ha:wfS a=true) (hb:wfS b=true):bI Tryz.prog 232 [tyV a,.one (.c (.sl 4 [bG b]))] [] (tyV (dF a b)) []:=by
 have h1:=aAt ha;have h2:=aAt hb;have y:=uU a b;refine bM (n:=22) tok Tryz.func232 rfl rfl rfl ?_;refine sg rfl (sk 1 rfl (kc h1 ?_));refine kz 2 rfl (aA (sg rfl (aE (aP (fun i:Nat=>mk [(4,.one (.vp 4 0)),(5,.one (.vp 5 0)),(10,.one (.c (.sl 4 [bG b]))),(11,I .i64 1),(12,I .i64 i)] [(4,.var 43 [.c (.int .i64 0),.c (.int .i64 0),.c (.str []),.c .nl]),(5,.var 43 ((bG (if i=0 then a else dF a b)).map .c))]) (fun i=>i≤1) (fun i=>1-i) 0 (Ae _) sl ?_))));intro i hi;refine sg rfl (aA (aB rfl (fun q=>?_) (fun q=>?_)))
 ·have r:i=0:=by
   have:(i:Int)<1:=ω q;omega
  subst r;rw[ξ rfl];refine aF (aA (aE (sgh [(0,.row 0 (bG b))] rfl (aC mixed (ak 2 [] rfl (kc h2 ?_))))));refine kc y ?_;exact kz 1 rfl (ag [] rfl ⟨1,le_refl _,by dsimp only;omega,sl⟩)
 have u:i=1:=by
  have:¬(i:Int)<1:=Ai q;omega
 subst u;exact aS (sg rfl (aD (rtC trw)))
theorem aVz (a b:Ty) (ha:bI Tryz.prog 235 [tyV a] [] (tyV a) []) (hb:bI Tryz.prog 235 [tyV b] [] (tyV b) []):bI Tryz.prog 233 [tyV b,.one (.c (.sl 4 [bG a]))] [] (tyV (lH a b)) []:=by
 have h1:=aIz arrow;have h2:=uU (.mk 3 0 arrow []) a;have y:=uU (dF (.mk 3 0 arrow []) a) b;refine bM (n:=29) tok Tryz.func233 rfl rfl rfl ?_;refine sg rfl (sgh [(1,.pc (tyV b))] rfl (aA (sg rfl (aE (aP (fun i:Nat=>mk [(1,.one (.c (.sl 4 [bG a]))),(4,.one (.vp 4 0)),(5,.one (.vp 5 0)),(10,I .i64 1),(11,I .i64 i)] [(4,.var 43 [.c (.int .i64 0),.c (.int .i64 0),.c (.str []),.c .nl]),(5,.var 43 ((bG (if i=0 then b else lH a b)).map .c))]) (fun i=>i≤1) (fun i=>1-i) 0 (Ae _) sl ?_)))));intro i hi;refine sg rfl (aA (aB rfl (fun q=>?_) (fun q=>?_)))
 ·have r:i=0:=by
   have:(i:Int)<1:=ω q;omega
  subst r;rw[ξ rfl];refine aF (aA (aE (sg rfl (aC mixed (kc h1 ?_)))));refine ak 8 [(7,.row 0 (bG a))] rfl (kc ha ?_);refine kc h2 ?_;refine ak 1 [] rfl (kc y ?_);exact kz 1 rfl (ag [] rfl ⟨1,le_refl _,by dsimp only;omega,sl⟩)
 have u:i=1:=by
  have:¬(i:Int)<1:=Ai q;omega
 subst u;rw[ζ (by omega)];exact aS (sg rfl (aD (rtC trw)))
def tpV (L:List Tk):TR→V
 | .ok (x,R)=>.tup [tyV x,I .i64 ((L.length-R.length:Nat):Int),atV 0 0]
 | .error (e,p)=>.tup [tyV zTy,I .i64 0,atV e p]
theorem k9 (L:List Tk) (x:Ty) (R:List Tk):tpV L (.ok (x,R))=.tup [tyV x,I .i64 ((L.length-R.length:Nat):Int),atV 0 0]:=rfl
def aKe (L:List Tk) (f:Nat):Prop:=∀(o:Nat) (R:List Tk) (i:Nat),At L i R→3*R.length≤f→o≤40→bI Tryz.prog 210 [yS L,I .i64 (i:Nat),I .i64 (o:Nat)] [] (tpV L (cD f o R)) []
def aDq (L:List Tk) (f:Nat):Prop:=∀(o:Nat) (R:List Tk) (i:Nat),At L i R→3*R.length+2≤f→o≤40→bI Tryz.prog 227 [yS L,I .i64 (i:Nat),I .i64 (o:Nat)] [] (tpV L (bV f o R)) []
theorem At.mem {L:List Tk}{i:Nat}{t:Tk}{R:List Tk}(h:At L i (t::R)):t∈L:=Aa h.get
theorem aR0 (L:List Tk) (hZ:pG L) (f:Nat) (ih:aDq L f):aKe L (f+1):=by
 intro o R i q hf ho;have hkl:(L.map aK).length=L.length:=η _;have hLl:=q.l;obtain⟨t,R,rfl⟩:=q.e.ne;have O:=q.lt;have U:=q.get;have hti':=b9 aK U;rw[κ] at O hf;rw[cD];refine bM (n:=83) tok Tryz.func210 rfl rfl rfl ?_;refine sg rfl (aA (sgh [(2,.row i (aK t))] rfl ?_));have hz:t.kind=4→t.n=0:=hZ t q.mem;have Y:=xV t cW hz;have aa:=nL t 12;have ab:=nL t 13;have E:=aIz t.text;have I:=aRc t.text;refine aE (sg rfl (aB rfl (fun hb=>?_) (fun hb=>?_)))
 ·have h2:t.kind=2:=ω hb;rw[ξ h2];obtain⟨_,hn⟩:=q.next (by omega)
  rw[k9,hn];refine aA (aC mixed (akN 2 [] rfl (kc E ?_)));exact akN 6 [] rfl (az (aD jP))
 rw[ζ (Ai hb)];refine sg rfl (aB rfl (fun hb=>?_) (fun hb=>?_))
 ·have h1:t.kind=1:=ω hb;rw[ξ h1];obtain⟨_,hn⟩:=q.next (by omega)
  rw[k9,hn];refine aA (aC mixed (akN 2 [] rfl (kc I ?_)));exact akN 6 [] rfl (az (aD jP))
 rw[ζ (Ai hb)];refine sk 1 rfl (kc Y ?_);refine kz 2 rfl ?_;cases hl:isT t cW with
 | false=>
  rw[ξ rfl];refine aB rfl (fun _=>sk 2 rfl (kc aa ?_)) (fun hb=>absurd hb (by decide));exact kz 3 rfl (aD jP)
 | true=>
 rw[ζ (by decide)];refine aB rfl (fun hb=>absurd hb (by decide)) (fun _=>sg rfl (aB rfl (fun hb=>?_) (fun hb=>?_)))
 ·rw[ξ (by have:=ω hb;omega)];refine sk 2 rfl (kc ab ?_);exact kz 3 rfl (aD jP)
 have J:¬40≤o:=by have:=Ai hb;omega
 rw[ζ J];refine aF ?_;obtain⟨B,_⟩:=q.next (by rw[(cT hl).1];decide)
 have ac:=ih (o+1) R (i+1) B (by omega) (by omega);have hok:=jM f (o+1) R;have A:=gM f (o+1) R;refine aA (aC mixed (akN 5 [] rfl (kc ac ?_)));generalize bV f (o+1) R=w at hok A ⊢;cases w with
 | error e=>
  obtain⟨e,p⟩:=e;have he:=A e p rfl;unfold tpV atV;refine akN 9 [] rfl (az ?_);rw[lV];exact aA (aE (sg rfl (aB rfl (fun _=>sg rfl (aD jP)) (fun hb=>absurd hb (by simp[he])))))
 | ok y=>
  obtain⟨x,R1⟩:=y;obtain⟨hT,_⟩:=hok x R1 rfl;obtain⟨r,hle⟩:=B.ok hT;obtain⟨u,R3,rfl⟩:=r.e.ne;rw[k9];generalize L.length-(u::R3).length=j at *;have ad:=r.get;have huj':=b9 aK ad;have hj:=r.lt;rw[κ] at hj;have M:=xV u oR (hZ u r.mem);have ae:=nL u 12;refine kz 9 rfl (aA (aE (sg rfl (aB rfl (fun hb=>absurd hb (by decide)) (fun _=>skh 4 [(2,.row j (aK u))] rfl (kc M ?_))))));refine kz 2 rfl ?_;rw[lV];cases hr:isT u oR with
  | false=>
   rw[ζ (by decide)];refine aB rfl (fun _=>skh 5 [(3,.row j (aK u))] rfl (kc ae ?_)) (fun hb=>absurd hb (by decide));exact kz 3 rfl (aD jP)
  | true=>
   rw[ξ rfl];obtain⟨_,hn⟩:=r.next (by rw[(cT hr).1];decide)
   rw[k9,hn];exact aB rfl (fun hb=>absurd hb (by decide)) (fun _=>aF (aA (agN [] rfl (aD jP))))
theorem aVx (t:Tk) (q:t.kind=4→t.n=0):bI Tryz.prog 231 [tkV t] [] (B (aSu t)) []:=by
 have hi:=xV t cW q;unfold aSu;refine bM (n:=15) tok Tryz.func231 rfl rfl rfl ?_;refine sg rfl ?_;by_cases h2:t.kind=2
 ·have d1:decide (t.kind=1)=false:=φ (by omega);have d2:decide (t.kind=2)=true:=χ h2;rw[d1,d2];exact sgh [(3,.bv true),(7,.bv true),(8,.bv true),(11,.bv true)] rfl (aD rtT)
 have d2:decide (t.kind=2)=false:=φ h2;by_cases h1:t.kind=1
 ·have d1:decide (t.kind=1)=true:=χ h1;rw[d1];exact sgh [(3,.bv false),(7,.bv false),(8,.bv true),(11,.bv true)] rfl (aD rtT)
 ·have d1:decide (t.kind=1)=false:=φ h1;rw[d1,d2,Bh,Bh];refine skh 10 [(3,.bv false),(7,.bv false),(8,.bv false)] rfl (kcG hi ?_);exact ak 2 [(8,.bv false),(11,.bv false)] rfl (az (aD rtT))
theorem aRw (L:List Tk) (hZ:pG L) (f:Nat) (aa:∀g,g≤f→aKe L g) (ab:∀g,g≤f→aDq L g):aDq L (f+1):=by
 intro o R i U hf ho;have hkl:(L.map aK).length=L.length:=η _;have hLl:=U.l;have J:=aa f (le_refl _) o R i U (by omega) ho;have hok:=lE f o R;have A:=gE f o R;have ac:=U.lt;have key:∃W:TR,W=bV (f+1) o R:=⟨_,rfl⟩
 obtain⟨W,r⟩:=key;rw[←r];rw[bV] at r;refine bM (n:=80) tok Tryz.func227 rfl rfl rfl ?_;refine sg rfl (sg rfl (sk 3 rfl (kc J ?_)));have M:∀(x:Ty) (j e p:Int) (R1:List Tk) (g:Nat),((e=0∧p=0∧j=((L.length-R1.length:Nat):Int)∧At L (L.length-R1.length) R1∧WF x∧3*R1.length+1≤g∧g≤f∧W=gF g o x R1)∨(¬e=0∧W=.error (e,p)))→
   AWp none Tryz.prog 80 (keys ([]:List (Nat×AObj))) (yW (yW (yW (Tryz.f227.body.getD .skip)))) (mk [(0,yS L),(1,I .i64 j),(2,I .i64 (o:Nat)),(6,.one (.vp 6 0)),(8,.one (.vp 8 0)),(9,.one (.clo 231 [])),(10,.one (.vp 10 0)),(11,.one (.vp 11 0))] [(6,.var 43 [.c (.int .i64 0),.c (.int .i64 0),.c (.str []),.c .nl]),(8,.var 33 [.c (.int .i64 0),.c (.int .i64 0)]),(10,.var 43 ((bG x).map .c)),(11,.var 33 [.c (.int .i64 e),.c (.int .i64 p)])]) (fun ex st=>(ex=.normal∨ex=.ret)∧Fin tr.flat Tryz.f227 st [] (tpV L W) []):=by
  clear J hok A r ac U hf;intro x j e p R1 g hinv;refine aA (aE (aP (fun q:Ty×Int×Int×Int×List Tk×Nat=>mk [(0,yS L),(1,I .i64 q.2.1),(2,I .i64 (o:Nat)),(6,.one (.vp 6 0)),(8,.one (.vp 8 0)),(9,.one (.clo 231 [])),(10,.one (.vp 10 0)),(11,.one (.vp 11 0))] [(6,.var 43 [.c (.int .i64 0),.c (.int .i64 0),.c (.str []),.c .nl]),(8,.var 33 [.c (.int .i64 0),.c (.int .i64 0)]),(10,.var 43 ((bG q.1).map .c)),(11,.var 33 [.c (.int .i64 q.2.2.1),.c (.int .i64 q.2.2.2.1)])]) (fun q=>(q.2.2.1=0∧q.2.2.2.1=0∧q.2.1=((L.length-q.2.2.2.2.1.length:Nat):Int)∧At L (L.length-q.2.2.2.2.1.length) q.2.2.2.2.1∧WF q.1∧3*q.2.2.2.2.1.length+1≤q.2.2.2.2.2∧q.2.2.2.2.2≤f∧W=gF q.2.2.2.2.2 o q.1 q.2.2.2.2.1)∨(¬q.2.2.1=0∧W=.error (q.2.2.1,q.2.2.2.1))) (fun q=>if q.2.2.1=0 then q.2.2.2.2.2 else 0) (x,j,e,p,R1,g) hinv sl ?_));clear hinv;rintro⟨x,j,e,p,R1,g⟩ hinv;dsimp only at hinv ⊢;rcases hinv with⟨he,hp,hj,B,O,hg,hgf,r⟩ | ⟨he,r⟩
  case inr=>
   have de:decide (e=0)=false:=φ he;refine aA (sgh [(3,.bv false),(10,.bv false)] rfl (aB rfl (fun hb=>absurd hb (by decide)) (fun _=>aS ?_)));rw[r];unfold tpV atV;exact aA (sg rfl (aB rfl (fun _=>sg rfl (aD jP)) (fun hb=>absurd hb (by simp[he]))))
  subst he hp hj;obtain⟨u,R2,rfl⟩:=B.e.ne;obtain⟨g,rfl⟩:∃h,g=h+1:=⟨g-1,by omega⟩
  have ad:=B.get;have huj':=b9 aK ad;have hlt:=B.lt;have hz:=hZ u B.mem;have hbu:=aVx u hz;rw[gF] at r;refine aA (skh 9 [(3,.bv true),(7,.row (L.length-(u::R2).length) (aK u))] rfl (kvG (caps:=[]) (args:=[tkV u]) (hin:=[]) (hout:=[]) hbu ?_));refine ak 1 [(3,.bv true),(10,.bv true)] rfl (az (aB rfl (fun hb=>?_) (fun hb=>?_)))
  ·have hb:aSu u=true:=hb;rw[ξ hb] at r;have J:=aa g (by omega) o (u::R2) _ B (by omega) ho;have hok:=lE g o (u::R2);have A:=gE g o (u::R2);refine aF (aE (sg rfl (sk 3 rfl (kc J ?_))));generalize cD g o (u::R2)=w at hok A r ⊢;cases w with
   | error e=>
    obtain⟨e,p⟩:=e;have he:=A e p rfl;have Y:=aOk x zTy O.1 rfl;dsimp only at r;unfold tpV atV;refine kz 7 rfl (aC mixed (ak 3 [(2,.all)] rfl (kc Y ?_)));exact kz 1 rfl ⟨(dF x zTy,0,e,p,[],0),.inr ⟨he,r⟩,by dsimp only;rw[ζ he,ξ rfl];omega,sl⟩
   | ok y=>
    obtain⟨a,R3⟩:=y;obtain⟨E,_⟩:=hok a R3 rfl;obtain⟨hA3,hle⟩:=B.ok E;have hlen:=E.len;have Y:=aOk x a O.1 E.w.1;dsimp only at r;rw[k9];unfold atV;refine kz 7 rfl (aC mixed (ak 3 [(2,.all)] rfl (kc Y ?_)));exact kz 1 rfl ⟨(dF x a,((L.length-R3.length:Nat):Int),0,0,R3,g),.inl ⟨rfl,rfl,rfl,hA3,aAu O E.w,by dsimp only;omega,by dsimp only;omega,r⟩,by dsimp only;rw[ξ rfl,ξ rfl];omega,sl⟩
  ·have hb:aSu u=false:=hb;rw[ζ (by rw[hb];decide)] at r;have hIs:=xV u arrow hz;refine aS (aA (sg rfl (aB rfl (fun hb=>absurd hb (by decide)) (fun _=>aF (aA (skh 4 [(2,.row (L.length-(u::R2).length) (aK u))] rfl (kc hIs ?_)))))));refine kz 1 rfl ?_;cases hl:isT u arrow with
   | false=>
    rw[hl,ζ (by decide)] at r;rw[r,k9];exact aB rfl (fun _=>sg rfl (aD jP)) (fun hb=>absurd hb (by decide))
   | true=>
    rw[hl,ξ rfl] at r;obtain⟨hA2,hn⟩:=B.next (by rw[(cT hl).1];decide)
    rw[κ] at hg;have hty:=ab g (by omega) o R2 _ hA2 (by omega) ho;have hok:=jM g o R2;have A:=gM g o R2;refine aB rfl (fun hb=>absurd hb (by decide)) (fun _=>aF (aA (aC mixed (akN 4 [] rfl (kc hty ?_)))));generalize bV g o R2=w at hok A r ⊢;cases w with
    | error e=>
     obtain⟨e,p⟩:=e;have he:=A e p rfl;dsimp only at r;rw[r];unfold tpV atV;exact kz 8 rfl (aA (sg rfl (aB rfl (fun _=>sg rfl (aD jP)) (fun hb=>absurd hb (by simp[he])))))
    | ok y=>
     obtain⟨to,R3⟩:=y;obtain⟨E,_⟩:=hok to R3 rfl;dsimp only at r;rw[r,k9,k9];have hfu:=aVz x to (aAt O.1) (aAt E.w.1);unfold atV;refine kz 8 rfl (aA (sg rfl (aB rfl (fun hb=>absurd hb (by decide)) (fun _=>aF (skh 3 [(2,.all)] rfl (kc hfu ?_))))));exact kz 5 rfl (aD jP)
 generalize cD f o R=w at hok A r ⊢;cases w with
 | error e=>
  obtain⟨e,p⟩:=e;unfold tpV atV;exact kz 9 rfl (AWp.sub sl (M zTy 0 e p [] 0 (.inr ⟨A e p rfl,r⟩)))
 | ok y=>
  obtain⟨x,R1⟩:=y;obtain⟨E,_⟩:=hok x R1 rfl;obtain⟨B,hle⟩:=U.ok E;have hlen:=E.len;rw[k9];unfold atV;exact kz 9 rfl (AWp.sub sl (M x _ 0 0 R1 f (.inl ⟨rfl,rfl,rfl,B,E.w,by omega,le_refl _,r⟩)))
theorem aFv (L:List Tk) (hZ:pG L):∀f,(∀g,g≤f→aKe L g)∧∀g,g≤f→aDq L g:=by
 intro f
 induction f with
 | zero=>
  refine⟨fun g r o R i u y=>?_,fun g r o R i u y=>?_⟩
  ·have:=u.lt;omega
  ·have:=u.lt;omega
 | succ f q=>
  refine⟨fun g r=>?_,fun g r=>?_⟩
  ·by_cases h:g≤f
   ·exact q.1 g h
   ·rw[show g=f+1 by omega];exact aR0 L hZ f (q.2 f (le_refl _))
  ·by_cases h:g≤f
   ·exact q.2 g h
   ·rw[show g=f+1 by omega];exact aRw L hZ f q.1 q.2
def aWn (L:List Tk) (o:Nat):List Tk→V
 | []=>.tup [.pa (aQ ⟨[],zTy⟩),I .i64 0,B false]
 | t::R=>if t.kind=2 then(match cD (3*R.length) o R with
   | .error _=>.tup [.pa (aQ ⟨t.text,zTy⟩),I .i64 0,B false]
   | .ok (x,R2)=>.tup [.pa (aQ ⟨t.text,x⟩),I .i64 ((L.length-R2.length:Nat):Int),B true])
  else .tup [.pa (aQ ⟨[],zTy⟩),I .i64 0,B false]
theorem aI6 (L:List Tk) (hZ:pG L) (o:Nat) (ho:o≤40) (R:List Tk) (i:Nat) (q:At L i R):bI Tryz.prog 211 [yS L,I .i64 (i:Nat),I .i64 (o:Nat)] [] (aWn L o R) []:=by
 have O:(L.map aK).length=L.length:=η _;have U:=q.l;obtain⟨t,R,rfl⟩:=q.e.ne;have u:=q.lt;have A:=q.get;have J:=b9 aK A;rw[κ] at u;rw[aWn];refine bM (n:=39) tok Tryz.func211 rfl rfl rfl ?_;refine sg rfl (aA (sgh [(2,.row i (aK t))] rfl ?_));by_cases h2:t.kind=2
 case neg=>
  rw[ζ h2];have d2:(!decide (t.kind=2))=true:=by rw[φ h2];rfl
  exact aB rfl (fun _=>sg rfl (aD aPi)) (fun hb=>absurd (hb.symm.trans d2) (by decide))
 rw[ξ h2];have d2:(!decide (t.kind=2))=false:=by rw[χ h2];rfl
 refine aB rfl (fun hb=>absurd (hb.symm.trans d2) (by decide)) (fun _=>aF ?_);obtain⟨B,_⟩:=q.next (by omega)
 have E:=(aFv L hZ (3*R.length)).1 (3*R.length) (le_refl _) o R _ B (le_refl _) ho;have r:=gE (3*R.length) o R;refine aA (aC mixed (akN 4 [] rfl (kc E ?_)));generalize cD (3*R.length) o R=w at r ⊢;cases w with
 | error e=>
  obtain⟨e,p⟩:=e;have he:=r e p rfl;have M:decide (e=0)=false:=φ he;unfold tpV atV;refine kz 9 rfl (sgh [(2,.row i (aK t))] rfl ?_);dsimp only;rw[←M];exact aD aPi
 | ok y=>
  obtain⟨x,R1⟩:=y;unfold tpV atV;exact kz 9 rfl (sgh [(2,.row i (aK t))] rfl (aD aPi))
def aUe (L:List Tk):Option (List Prd×List Tk)→V
 | some (out,u::R2)=>if isT u oR=true then .tup [.one (.c (.sl 5 (out.map aQ))),I .i64 ((L.length-R2.length:Nat):Int),B true] else .tup [.one (.c .nl),I .i64 0,B false]
 | _=>.tup [.one (.c .nl),I .i64 0,B false]
theorem aRh (L:List Tk) (hZ:pG L) (R:List Tk) (i:Nat) (J:At L i R) (F:Nat) (hF:R.length+1≤F):bI Tryz.prog 213 [yS L,I .i64 (i:Nat)] [] (aUe L (eT F true R [])) []:=by
 have hkl:(L.map aK).length=L.length:=η _;have hLl:=J.l;have aa:=J.lt;have q:∃W,W=eT F true R []:=⟨_,rfl⟩
 obtain⟨W,q⟩:=q;rw[←q];refine bM (n:=42) tok Tryz.func213 rfl rfl rfl ?_;refine sg rfl (sg rfl (AWp.sub (Sub.own (t:=7) (id:=500) 98 5 rfl rfl) ?_));refine aE (aP (fun p:Nat×Nat×List Prd×List Tk=>mk [(0,yS L),(1,I .i64 (p.1:Nat)),(7,.one (.hs 500 0 p.2.2.1.length p.2.2.1.length))] [(500,.arr 98 5 (p.2.2.1.map aQ) 0)]) (fun p=>At L p.1 p.2.2.2∧p.2.2.2.length+1≤p.2.1∧p.2.2.1.length+p.2.2.2.length≤4001∧W=eT p.2.1 true p.2.2.2 p.2.2.1) (fun p=>p.2.1) (i,F,[],R) ⟨J,hF,by dsimp only;rw[length_nil];omega,q⟩ sl ?_);clear q J aa hF;rintro⟨j,f,out,Q⟩ ⟨B,hf,U,q⟩;dsimp only at B hf U q ⊢;have hout:(out.map aQ).length=out.length:=η _;obtain⟨f,rfl⟩:∃g,f=g+1:=⟨f-1,by omega⟩
 obtain⟨u,Q,rfl⟩:=B.e.ne;have hjl:=B.lt;rw[κ] at hf U hjl;have r:=aI6 L hZ 1 (by decide) (u::Q) j B;rw[aWn] at r;rw[eT] at q;by_cases h2:u.kind=2
 case neg=>
  rw[ζ h2] at q r;rw[q];unfold aQ at r;refine aE (sk 2 rfl (kc r ?_));exact kz 8 rfl (aA (sg rfl (aB rfl (fun _=>sg rfl (aD aK2)) (fun hb=>absurd hb (by decide)))))
 rw[ξ h2] at q r;rw[ξ rfl] at q;have hok:=lE (3*Q.length) 1 Q;obtain⟨hA1,_⟩:=B.next (by omega)
 generalize cD (3*Q.length) 1 Q=w at hok q r;cases w with
 | error e=>
  dsimp only at q r;rw[q];unfold aQ at r;refine aE (sk 2 rfl (kc r ?_));exact kz 8 rfl (aA (sg rfl (aB rfl (fun _=>sg rfl (aD aK2)) (fun hb=>absurd hb (by decide)))))
 | ok y=>
 obtain⟨x,R1⟩:=y;obtain⟨hT,_⟩:=hok x R1 rfl;obtain⟨A,hle⟩:=hA1.ok hT;have hlen:=hT.len;obtain⟨v,R2,rfl⟩:=A.e.ne;dsimp only at q r;rw[Bool.true_and] at q;have hvj:=A.get;have hvj':=b9 aK hvj;have hv2:=A.lt;rw[κ] at hlen hv2;have hcm:=xV v tA (hZ v A.mem);have hrp:=xV v oR (hZ v A.mem);unfold aQ at r;have E:out.map aQ++[[.str u.text,.int .i64 x.form,.int .i64 x.n,.str x.name,.sl 4 (eI x)]]=(out++[(⟨u.text,x⟩:Prd)]).map aQ:=by rw[Ah];rfl
 generalize hO:out++[(⟨u.text,x⟩:Prd)]=O at q E;have Y:O.length=out.length+1:=by rw[←hO,ψ];rfl
 generalize L.length-(v::R2).length=k at *;refine aE (sk 2 rfl (kc r ?_));refine kz 8 rfl (aA (sg rfl (aB rfl (fun hb=>absurd hb (by decide)) (fun _=>aF (sgh [(1,.all),(3,.all)] rfl (AWp.sub (st2:=mk [(0,yS L),(1,I .i64 (j:Nat)),(7,.one (.hs 500 0 O.length O.length)),(9,I .i64 (k:Nat))] [(500,.arr 98 5 (O.map aQ) 0)]) (sl (he:=⟨rfl,rfl,Go.AM.hs_ren (by rw[Y,←hout];rfl) (by rw[Y,←hout];rfl),rfl,trivial⟩) (hh:=⟨⟨_,rfl,.arrS E⟩,trivial⟩)) ?_))))));refine aA (aE (skh 4 [(2,.row k (aK v))] rfl (kc hrp ?_)));refine kz 1 rfl ?_;have ab:isT v oR=true→isT v tA=false:=fun h=>by
  have h1:=(cT h).2
  unfold isT;rw[h1];cases decide (v.kind=4)<;>rfl
 cases M:isT v oR with
 | true=>
  rw[ζ (by rw[ab M];decide)] at q;rw[q,aUe,ξ M];obtain⟨_,hn⟩:=A.next (by rw[(cT M).1];decide)
  rw[hn];refine aB rfl (fun _=>aA (agN [] rfl (AWp.sub (Sub.freeze (id:=500) rfl) ?_))) (fun hb=>absurd hb (by decide));exact aD aK2
 | false=>
  refine aB rfl (fun hb=>absurd hb (by decide)) (fun _=>skh 4 [(2,.row k (aK v))] rfl (kc hcm ?_));refine kz 2 rfl ?_;cases hc:isT v tA with
  | false=>
   rw[hc,ζ (by decide)] at q;rw[q,aUe,ζ (by rw[M];decide)];exact aB rfl (fun _=>sg rfl (aD aK2)) (fun hb=>absurd hb (by decide))
  | true=>
   rw[ξ hc] at q;obtain⟨hA3,_⟩:=A.next (by rw[(cT hc).1];decide)
   exact aB rfl (fun hb=>absurd hb (by decide)) (fun _=>aF (agN [] rfl ⟨(k+1,f,O,R2),⟨hA3,by dsimp only;omega,by dsimp only;omega,q⟩,by dsimp only;omega,sl⟩))
def aSo (L:List Tk):PR→V
 | .ok (ps,R)=>.tup [.one (.c (.sl 5 (ps.map aQ))),I .i64 ((L.length-R.length:Nat):Int),atV 0 0]
 | .error (e,p)=>.tup [.one (.c .nl),I .i64 0,atV e p]
theorem o8 (L:List Tk) (ps:List Prd) (R:List Tk):aSo L (.ok (ps,R))=.tup [.one (.c (.sl 5 (ps.map aQ))),I .i64 ((L.length-R.length:Nat):Int),atV 0 0]:=rfl
theorem uW (L:List Tk) (hZ:pG L) (R:List Tk) (i:Nat) (E:At L i R):bI Tryz.prog 193 [yS L,I .i64 (i:Nat)] [] (aSo L (cH R)) []:=by
 have hkl:(L.map aK).length=L.length:=η _;have hLl:=E.l;have hlt:=E.lt;have ab:L.length-R.length=i:=by omega
 have r:=aI6 L hZ 0 (by decide) R i E;obtain⟨t,R,rfl⟩:=E.e.ne;have hti:=E.get;have hti':=b9 aK hti;have Y:=xV t cW (hZ t E.mem);have q:∃W,W=cH (t::R):=⟨_,rfl⟩
 obtain⟨W,q⟩:=q;rw[←q];rw[aWn] at r;rw[cH] at q;have A:∀st,Sub (keys ([]:List (Nat×AObj))) (mk [(0,yS L),(1,I .i64 (i:Nat)),(6,.one (.vp 6 0)),(9,B false)] [(6,.var 33 [.c (.int .i64 0),.c (.int .i64 0)])]) st→W=.ok ([],t::R)→
   AWp none Tryz.prog 59 (keys ([]:List (Nat×AObj))) (yW (yW (yW (yW (Tryz.f193.body.getD .skip))))) st (fun ex st=>(ex=.normal∨ex=.ret)∧Fin tr.flat Tryz.f193 st [] (aSo L W) []):=fun st hs hw=>by
  refine AWp.sub hs ?_;rw[hw,o8,ab];exact aA (aE (sgh [(2,.bv true),(9,.bv true)] rfl (aB rfl (fun _=>sg rfl (aD aK3)) (fun hb=>absurd hb (by decide)))))
 have aa:∀(O:List Prd) (m:Nat) (Q:List Tk) (st:St),Sub (keys ([]:List (Nat×AObj))) (mk [(0,yS L),(1,I .i64 (i:Nat)),(6,.one (.vp 6 0)),(8,I .i64 (m:Nat)),(9,B true),(10,.one (.c (.sl 5 (O.map aQ))))] [(6,.var 33 [.c (.int .i64 0),.c (.int .i64 0)])]) st→At L m Q→W=yD t.pl (t::R) O Q→
   AWp none Tryz.prog 59 (keys ([]:List (Nat×AObj))) (yW (yW (yW (yW (Tryz.f193.body.getD .skip))))) st (fun ex st=>(ex=.normal∨ex=.ret)∧Fin tr.flat Tryz.f193 st [] (aSo L W) []):=fun O m Q st hs J hw=>by
  refine AWp.sub hs ?_;obtain⟨y,Q,rfl⟩:=J.e.ne;have hyj:=J.get;have hyj':=b9 aK hyj;have hda:=xV y darrow (hZ y J.mem);have hB:=nL t 2;have hml:=J.lt;have ac:(O.map aQ).length=O.length:=η _;rw[yD] at hw;refine aA (aE (skh 7 [(2,.bv false),(5,.row m (aK y))] rfl (kcG hda ?_)));refine ak 3 [(2,.bv false),(9,.bv false)] rfl (az ?_);cases hd:isT y darrow with
  | false=>
   rw[hd,ζ (by decide)] at hw;rw[hw,o8,ab];exact aB rfl (fun _=>sg rfl (aD aK3)) (fun hb=>absurd hb (by decide))
  | true=>
   rw[hd,ξ rfl] at hw;obtain⟨_,hn⟩:=J.next (by rw[(cT hd).1];decide)
   refine aB rfl (fun hb=>absurd hb (by decide)) (fun _=>sg rfl (aB rfl (fun hb=>?_) (fun hb=>?_)))
   ·rw[ξ (by have:=ω hb;rw[ac] at this;omega)] at hw;rw[hw];refine skh 4 [(2,.row i (aK t))] rfl (kc hB ?_);exact kz 3 rfl (aD aK3)
   ·rw[ζ (by have:=Ai hb;rw[ac] at this;omega)] at hw;rw[hw,o8,hn];exact aF (aA (agN [] rfl (aD aK3)))
 refine bM (n:=59) tok Tryz.func193 rfl rfl rfl ?_;refine sg rfl ?_;cases hb:isT t cW with
 | true=>
  have h4:=cT hb;rw[ζ (by omega)] at r;unfold aQ at r;rw[hb,ξ rfl] at q;obtain⟨M,_⟩:=E.next (by omega)
  have hls:=aRh L hZ R (i+1) M ((t::R).length+1) (by rw[κ];omega);have hok:=fun out R' h=>tZ ((t::R).length+1) true R [] out R' (wt R) R.length (le_refl _) (fun p hp=>by cases hp) (by rw[length_nil];omega) h
  refine sk 2 rfl (kc r ?_);refine kz 8 rfl (sgh [(1,.all)] rfl (aA (skh 4 [(2,.row i (aK t))] rfl (kc Y ?_))));refine az ?_;rw[hb];refine aB rfl (fun _=>aC mixed (akN 3 [] rfl (kc hls ?_))) (fun hb=>absurd hb (by decide));generalize eT ((t::R).length+1) true R []=w at hok q ⊢;cases w with
  | none=>
   rw[nW] at q;rw[aUe]
   ·exact kz 7 rfl (A _ sl q)
   ·intro a b c h;cases h
  | some y=>
   obtain⟨out,R2⟩:=y;obtain⟨g1,⟨p,g2,_⟩,_,_⟩:=hok out R2 rfl;obtain⟨U,hn2⟩:=M.to g2 (g1 M.e);rw[nW] at q;obtain⟨u,R2,rfl⟩:=U.e.ne;rw[brP,ξ rfl] at q;rw[aUe];by_cases hr:isT u oR=true
   ·rw[ξ hr] at q ⊢;obtain⟨hA3,hn3⟩:=U.next (by rw[(cT hr).1];decide)
    rw[hn3];exact kz 7 rfl (aa out _ R2 _ sl hA3 q)
   ·rw[ζ hr] at q ⊢;exact kz 7 rfl (A _ sl q)
 | false=>
  rw[hb,ζ (by decide)] at q;rw[eT] at q;by_cases h2:t.kind=2
  case neg=>
   rw[ζ h2] at q r;unfold aQ at r;rw[nW] at q;refine sk 2 rfl (kc r ?_);refine kz 8 rfl (sgh [(1,.all)] rfl (aA (skh 4 [(2,.row i (aK t))] rfl (kc Y ?_))));refine az ?_;rw[hb];exact aB rfl (fun hb=>absurd hb (by decide)) (fun _=>aF (A _ sl q))
  rw[ξ h2] at q r;rw[ζ (by decide)] at q;obtain⟨M,_⟩:=E.next (by omega)
  have hok:=lE (3*R.length) 0 R;generalize cD (3*R.length) 0 R=w at hok q r;cases w with
  | error e=>
   dsimp only at q r;unfold aQ at r;rw[nW] at q;refine sk 2 rfl (kc r ?_);refine kz 8 rfl (sgh [(1,.all)] rfl (aA (skh 4 [(2,.row i (aK t))] rfl (kc Y ?_))));refine az ?_;rw[hb];exact aB rfl (fun hb=>absurd hb (by decide)) (fun _=>aF (A _ sl q))
  | ok y=>
   obtain⟨x,R1⟩:=y;obtain⟨hT,_⟩:=hok x R1 rfl;obtain⟨U,hle⟩:=M.ok hT;obtain⟨u,R2,rfl⟩:=U.e.ne;dsimp only at q r;unfold aQ at r;rw[Bool.false_and,ζ (by decide),nW,brP,ζ (by decide),Az] at q;refine sk 2 rfl (kc r ?_);refine kz 8 rfl (sgh [(1,.all)] rfl (aA (skh 4 [(2,.row i (aK t))] rfl (kc Y ?_))));refine az ?_;rw[hb];exact aB rfl (fun hb=>absurd hb (by decide)) (fun _=>aF (aa [⟨t.text,x⟩] _ (u::R2) _ sl U q))
theorem aC2 (L:List Tk) (hZ:pG L) (R:List Tk) (i:Nat) (q:At L i R):bI Tryz.prog 215 [yS L,I .i64 (i:Nat)] [] (tpV L (bV (3*R.length+2) 0 R)) []:=by
 have h:=(aFv L hZ (3*R.length+2)).2 (3*R.length+2) (le_refl _) 0 R i q (le_refl _) (by decide);refine bM (n:=13) tok Tryz.func215 rfl rfl rfl ?_;refine sg rfl (sk 2 rfl (kc h ?_));generalize bV (3*R.length+2) 0 R=w;cases w with
 | error e=>
  obtain⟨e,p⟩:=e;unfold tpV atV;exact kz 6 rfl (aD jP)
 | ok y=>
  obtain⟨x,R1⟩:=y;unfold tpV atV;exact kz 6 rfl (aD jP)
theorem aMm (L:List Tk) (hZ:pG L) (R:List Tk) (i:Nat) (q:At L i R):bI Tryz.prog 192 [yS L,I .i64 (i:Nat)] [] (tpV L (cD (3*R.length) 0 R)) []:=by
 have h:=(aFv L hZ (3*R.length)).1 (3*R.length) (le_refl _) 0 R i q (le_refl _) (by decide);refine bM (n:=13) tok Tryz.func192 rfl rfl rfl ?_;refine sg rfl (sk 2 rfl (kc h ?_));generalize cD (3*R.length) 0 R=w;cases w with
 | error e=>
  obtain⟨e,p⟩:=e;unfold tpV atV;exact kz 6 rfl (aD jP)
 | ok y=>
  obtain⟨x,R1⟩:=y;unfold tpV atV;exact kz 6 rfl (aD jP)
theorem nM (l:List (List C)) (h:l.length≤1000000):bI Tryz.prog 216 [.one (.c (.sl 5 l))] [] (.one (.hs 720 0 l.length l.length)) [(720,.arr 98 5 l 0)]:=by
 refine bM (n:=8) tok Tryz.func216 rfl rfl rfl ?_;refine sg rfl (aV6 0 rfl (fun hl=>?_) ?_)
 ·subst hl;refine aA (sg rfl (aB rfl (fun _=>sg rfl (AWp.sub (Sub.own (t:=2) (id:=720) 98 5 rfl rfl) ?_)) nofun));exact aD rtT
 ·refine aA (sg rfl (aB rfl nofun (fun _=>aF (sgh [(0,.id 720)] rfl (AWp.sub (st2:=mk [(2,.one (.hs 720 0 l.length l.length))] [(720,.arr 98 5 l 0)]) sl ?_)))));exact aD rtT
def nE (s:Sch):List C:=[.sl 1 (s.vars.map aR),.sl 1 [],.sl 5 (s.preds.map aQ),.int .i64 s.ty.form,.int .i64 s.ty.n,.str s.ty.name,.sl 4 (eI s.ty)]
def mT:Sch:=⟨[],[],zTy⟩
def spV (L:List Tk):SR→V
 | .ok (s,R)=>.tup [.pa (nE s),I .i64 ((L.length-R.length:Nat):Int),atV 0 0]
 | .error (e,p)=>.tup [.pa (nE mT),I .i64 0,atV e p]
theorem aNj (L:List Tk) (s:Sch) (R:List Tk):spV L (.ok (s,R))=.tup [.pa (nE s),I .i64 ((L.length-R.length:Nat):Int),atV 0 0]:=rfl
def aKh:List AM.R:=[.c .nl,.c .nl,.c .nl,.c (.int .i64 0),.c (.int .i64 0),.c (.str []),.c .nl]
theorem aJd (L:List Tk) (hZ:pG L) (R:List Tk) (i:Nat) (U:At L i R) (hwt:wt L≤30000):bI Tryz.prog 195 [yS L,I .i64 (i:Nat)] [] (spV L (cG R)) []:=by
 have hp:=uW L hZ R i U;have ac:= @n0 R;have ad:= @iY R;unfold cG;refine bM (n:=74) tok Tryz.func195 rfl rfl rfl ?_;refine sg rfl (sk 2 rfl (kc hp ?_));generalize cH R=w at ac ad ⊢;cases w with
 | error e=>
  obtain⟨e,p⟩:=e;have he:=ad rfl;rw[qP];unfold aSo atV;exact kz 8 rfl (aA (sg rfl (aB rfl (fun _=>sg rfl (aD jP)) (fun hb=>absurd hb (by simp[he])))))
 | ok y=>
 obtain⟨ps,R1⟩:=y;obtain⟨k1,⟨q,k2,_⟩,k3,k4⟩:=ac rfl;obtain⟨ae,hn1⟩:=U.to k2 (k1 U.e);rw[o8,qP,hn1];generalize i+q.length=j at ae;have hty:=aC2 L hZ R1 j ae;have af:=jM (3*R1.length+2) 0 R1;have ah:=gM (3*R1.length+2) 0 R1;have Y:wt R≤30000:=by
  have:L=L.take i++R:=by rw[←U.d,take_append_drop]
  rw[this] at hwt;exact le_trans sC hwt
 have hwtR1:wt R1≤30000:=by rw[k2] at Y;exact le_trans sC Y
 have hRl:=U.lt;have hLl:=U.l;unfold atV;refine kz 8 rfl (aA (sg rfl (aB rfl (fun hb=>absurd hb (by decide)) (fun _=>aF (sk 2 rfl (kc hty ?_))))));generalize bV (3*R1.length+2) 0 R1=w at af ah ⊢;cases w with
 | error e=>
  obtain⟨e,p⟩:=e;have he:=ah e p rfl;rw[nZ];unfold tpV atV;exact kz 8 rfl (aA (sg rfl (aB rfl (fun _=>sg rfl (aD jP)) (fun hb=>absurd hb (by simp[he])))))
 | ok y=>
 obtain⟨x,R2⟩:=y;obtain⟨hT,hTn⟩:=af x R2 rfl;rw[k9,nZ,aNj];unfold atV;dsimp only;generalize ((L.length-R2.length:Nat):Int)=m;refine kz 8 rfl (aA (sg rfl (aB rfl (fun hb=>absurd hb (by decide)) (fun _=>aF (sg rfl ?_)))));have hsv:aTd ps x=gP [] (ps++[(⟨[],x⟩:Prd)]):=by rw[zT];rfl
 rw[hsv];have E:∀p∈ps++[(⟨[],x⟩:Prd)],WF p.ty∧tn p.ty≤30000:=fun p hp=>by
  rcases A2.1 hp with hp | hp
  ·exact⟨(k3 p hp).1,by have:=(k3 p hp).2;omega⟩
  ·rw[Ar.1 hp];exact⟨hT.w,by show tn x≤30000;omega⟩
 have hcl:=nM (ps.map aQ) (by rw[η];omega);have hkl:(ps.map aQ).length=ps.length:=η _;have O:ps.map aQ++[[.str [],.int .i64 x.form,.int .i64 x.n,.str x.name,.sl 4 (eI x)]]=(ps++[(⟨[],x⟩:Prd)]).map aQ:=by rw[Ah];rfl
 have ai:(ps++[(⟨[],x⟩:Prd)]).length=ps.length+1:=by rw[ψ];rfl
 generalize ps++[(⟨[],x⟩:Prd)]=u at E O ai ⊢;have hqe:(u.map aQ).length=u.length:=η _;refine aA (sk 1 rfl (kc hcl ?_));refine ak 6 [(4,.all),(5,.fz)] rfl (az (AWp.sub (Sub.own (t:=10) (id:=710) 9 1 rfl rfl) ?_));have B:∀r:List C,(ps.map aQ).length+[r].length=u.length:=fun r=>by rw[hkl,ai];rfl
 refine aE (aP (fun k:Nat=>mk [(1,I .i64 m),(4,.one (.vp 4 0)),(6,.one (.vp 6 0)),(7,.one (.c (.sl 5 (ps.map aQ)))),(9,.one (.vp 9 0)),(10,oV (gP [] (u.take k))),(44,.one (.hs 720 0 u.length u.length)),(45,I .i64 (u.length:Nat)),(46,I .i64 (k:Nat))] [(4,.var 45 aKh),(6,.var 33 [.c (.int .i64 0),.c (.int .i64 0)]),(9,.var 43 ((bG x).map .c)),(710,oO (gP [] (u.take k))),(720,.arr 98 5 (u.map aQ) 2)]) (fun k=>k≤u.length) (fun k=>u.length-k) 0 (Ae _) (sl (he:=⟨rfl,rfl,rfl,rfl,rfl,rfl,Go.AM.hs_ren (B _) (B _),Go.AM.int_eq (congrArg Int.ofNat (B _)),rfl,trivial⟩) (hh:=⟨⟨_,rfl,.var rfl⟩,⟨_,rfl,.var rfl⟩,⟨_,rfl,.var rfl⟩,⟨_,rfl,Go.AM.Ole.arrE rfl⟩,⟨_,rfl,.arrS O⟩,trivial⟩)) ?_);intro k hk;have hgl:(gP [] (u.take k)).length≤4002*30000:=by
  have h1:=aCc (W:=30000) (u.take k) [] (fun p hp=>(E p (By hp)).2);rw[Ak,length_nil] at h1;have:min k u.length*30000≤4002*30000:=Ax _ (by omega);omega
 refine sg rfl (aA (aB rfl (fun hb=>?_) (fun hb=>?_)))
 ·have aj:k<u.length:=by have:=ω hb;omega
  obtain⟨p,hp⟩:=aJ aj;have hp':=b9 aQ hp;have hpm:=E p (Aa hp);have al:=aC6 p.ty (by have:=aUu p.ty;omega);have htf:=sD p.ty;have aa:=aIc hp;generalize gP [] (u.take k)=o at hgl aa ⊢;generalize tfR p.ty=l at al htf aa ⊢;have am:(l.map aR).length=l.length:=η _;refine aF (aA (aE (sgh [(1,.row k (aQ p))] rfl (sk 2 rfl (kc al ?_)))));refine kz 2 rfl (aE (aP (fun j:Nat=>mk [(1,I .i64 m),(4,.one (.vp 4 0)),(6,.one (.vp 6 0)),(7,.one (.c (.sl 5 (ps.map aQ)))),(9,.one (.vp 9 0)),(10,oV (oY o (l.take j))),(44,.one (.hs 720 0 u.length u.length)),(45,I .i64 (u.length:Nat)),(46,I .i64 (k:Nat)),(52,eG l),(53,I .i64 ((l.map aR).length:Nat)),(54,I .i64 (j:Nat))] [(4,.var 45 aKh),(6,.var 33 [.c (.int .i64 0),.c (.int .i64 0)]),(9,.var 43 ((bG x).map .c)),(710,oO (oY o (l.take j))),(720,.arr 98 5 (u.map aQ) 2)]) (fun j=>j≤l.length) (fun j=>l.length-j) 0 (Ae _) sl ?_));intro j hj;refine sg rfl (aA (aB rfl (fun hb=>?_) (fun hb=>?_)))
  ·have J:=ltD hb am;obtain⟨s,hs⟩:=aJ J;have hs':=b9 aR hs;have A:oY o (l.take (j+1))=aHt (oY o (l.take j)) s:=by rw[Bw,hs,aB0];rfl
   have hml:(oY o (l.take j)).length≤1000000000:=by
    have:=n9 (l.take j) o;rw[Ak] at this;omega
   have an:=oI (oY o (l.take j)) s (by omega);generalize oY o (l.take j)=M at A hml an ⊢;have hml':(M.map aR).length=M.length:=η _;refine aF (AWp.sub (Sub.freeze (id:=710) rfl) ?_);refine aA (aE (sgh [(0,.row j (aR s))] rfl (sk 2 rfl (kc an ?_))));refine kz 1 rfl (aB rfl (fun hb=>?_) (fun hb=>?_))
   ·have hm:¬s∈M:=fun h=>by rw[χ h] at hb;cases hb
    unfold aHt at A;rw[ζ hm] at A;refine ag [(2,.all)] rfl (ag [] rfl ⟨j+1,J,by dsimp only;omega,?_⟩);dsimp only;rw[A];exact sl
   ·have hm:s∈M:=by
     by_cases h:s∈M
     ·exact h
     ·rw[φ h] at hb;cases hb
    unfold aHt at A;rw[ξ hm] at A;refine aF (ag [] rfl ⟨j+1,J,by dsimp only;omega,?_⟩);dsimp only;rw[A];exact sl
  ·have ab:=geD hb am hj;subst ab;rw[Aw];refine aS (ag [] rfl ⟨k+1,aj,by dsimp only;omega,?_⟩);dsimp only;rw[aa];exact sl
 ·have ab:k=u.length:=by have:=Ai hb;omega
  subst ab;rw[Aw];refine aS (AWp.sub (Sub.freeze (id:=710) rfl) ?_);exact sg rfl (aD jP)
end Go.Proofs.YtkhgpgihmphfdaaGreatDoor
namespace Go.AM
open Go
section
variable {QP:Value→Prop}{P:Program}{n:Nat}{ops:Array Oper}{draw:Bool}{k:Nat}{st:St}{pre:REs}{Q:St→Prop}{o:Oper}{f:FuncId}{xs:Array Operand}{ts:Array TypeId}{ids:List Nat}{args:List V}{hin:List (Nat×AObj)}{v:Value}
theorem kp (u:aDr P f args hin v) (hq:QP v:=by first | exact fun _ _=>⟨rfl,rfl⟩ | assumption)
  (hb:i7 P f:=by exact aJg (by kernel_rfl)) (ho:ops[k]?=some o:=by rfl) (y:o.guard=none:=by rfl) (r:o.op=.call { callee:=.value (.func f),args:=xs,argTypes:=ts }:=by rfl)
  (ha:ArgsV st ids xs.toList args:=by repeat (first | exact .nil | (apply Go.AM.ArgsV.cons rfl;(first | exact .refl | exact .one (.c .nl .nil) | exact .one (.c .sn .nil) | exact .one (.hs rfl (by first | rfl | simp) (by first | rfl | (simp;done) | (simp[Go.AM.take_map];done) | exact Go.AM.take_map.symm) .nil) | exact Go.AM.hs_all rfl rfl (by first | rfl | assumption | (simp;done) | (simp;omega)) (by first | rfl | assumption | (simp;done)) | ((first | apply Go.AM.Conv.pa | apply Go.AM.Conv.agg);repeat (first | exact .nil | apply Go.AM.PureL.c .refl | apply Go.AM.PureL.c .nl | apply Go.AM.PureL.c .sn | (apply Go.AM.PureL.hs;rfl;(first | rfl | simp);(first | rfl | (simp;done) | (simp[Go.AM.take_map];done) | exact Go.AM.take_map.symm))))))))
  (q:gG (fun p=>st.h p.1=some p.2) hin:=by repeat (first | exact trivial | refine⟨rfl,?_⟩)) (hok:fC args hin=true:=by rfl) (A:draw=false:=by rfl) (hl:Nat.blt k ops.size=true:=by rfl):iV QP P n ops draw k st pre Q:=
 aUk (nS.plain ho y (aG4 hin hb r u ha q hok)) hq A hl
theorem kpD {d:Nat}(res:V) (hout:List (Nat×AObj)) (u:aDr P f args hin v) (y:iV (fun _=>False) P n ops draw (k+1) ⟨upd st.e d (some res),iB st.h (outs hout),st.d⟩ ((⟨bW xs.toList,ids++keys hin⟩,⟨some (d,some res),outs hout⟩)::pre) fun _=>True) (hq:QP v:=by first | exact fun _ _=>⟨rfl,rfl⟩ | assumption)
  (hb:i7 P f:=by exact aJg (by kernel_rfl)) (ho:ops[k]?=some o:=by rfl) (A:o.guard=none:=by rfl) (r:o.op=.call { callee:=.value (.func f),args:=xs,argTypes:=ts }:=by rfl) (_:o.dst=some d:=by rfl)
  (ha:ArgsV st ids xs.toList args:=by repeat (first | exact .nil | (apply Go.AM.ArgsV.cons rfl;(first | exact .refl | exact .one (.c .nl .nil) | exact .one (.c .sn .nil) | exact .one (.hs rfl (by first | rfl | simp) (by first | rfl | (simp;done) | (simp[Go.AM.take_map];done) | exact Go.AM.take_map.symm) .nil) | exact Go.AM.hs_all rfl rfl (by first | rfl | assumption | (simp;done) | (simp;omega)) (by first | rfl | assumption | (simp;done)) | ((first | apply Go.AM.Conv.pa | apply Go.AM.Conv.agg);repeat (first | exact .nil | apply Go.AM.PureL.c .refl | apply Go.AM.PureL.c .nl | apply Go.AM.PureL.c .sn | (apply Go.AM.PureL.hs;rfl;(first | rfl | simp);(first | rfl | (simp;done) | (simp[Go.AM.take_map];done) | exact Go.AM.take_map.symm))))))))
  (q:gG (fun p=>st.h p.1=some p.2) hin:=by repeat (first | exact trivial | refine⟨rfl,?_⟩)) (hok:fC args hin=true:=by rfl):iV QP P n ops draw k st pre Q:=
 aUj ⟨some (d,some res),outs hout⟩ (nS.plain ho A (aG4 hin hb r u ha q hok)) hq y
theorem kpv {x:Operand}{caps:List R}(u:aDr P f (args++caps.map V.one) hin v) (hq:QP v:=by first | exact fun _ _=>⟨rfl,rfl⟩ | assumption)
  (hb:i7 P f:=by exact aJg (by kernel_rfl)) (ho:ops[k]?=some o:=by rfl) (y:o.guard=none:=by rfl) (r:o.op=.call { callee:=.value x,args:=xs,argTypes:=ts }:=by rfl) (hx:opv st x=some (.one (.clo f caps)):=by rfl)
  (ha:ArgsV st ids xs.toList args:=by repeat (first | exact .nil | (apply Go.AM.ArgsV.cons rfl;(first | exact .refl | exact .one (.c .nl .nil) | exact .one (.c .sn .nil) | exact .one (.hs rfl (by first | rfl | simp) (by first | rfl | (simp;done) | (simp[Go.AM.take_map];done) | exact Go.AM.take_map.symm) .nil) | exact Go.AM.hs_all rfl rfl (by first | rfl | assumption | (simp;done) | (simp;omega)) (by first | rfl | assumption | (simp;done)) | ((first | apply Go.AM.Conv.pa | apply Go.AM.Conv.agg);repeat (first | exact .nil | apply Go.AM.PureL.c .refl | apply Go.AM.PureL.c .nl | apply Go.AM.PureL.c .sn | (apply Go.AM.PureL.hs;rfl;(first | rfl | simp);(first | rfl | (simp;done) | (simp[Go.AM.take_map];done) | exact Go.AM.take_map.symm))))))))
  (q:gG (fun p=>st.h p.1=some p.2) hin:=by repeat (first | exact trivial | refine⟨rfl,?_⟩)) (hok:fC (args++caps.map V.one) hin=true:=by rfl) (A:draw=false:=by rfl) (hl:Nat.blt k ops.size=true:=by rfl):iV QP P n ops draw k st pre Q:=
 aUk (nS.plain ho y (aLg hin hb r hx u ha q hok)) hq A hl
end
def b8 (P:Program) (f:FuncId) (args:List V) (hin:List (Nat×AObj)):Except Value (V×List (Nat×AObj))→Prop
 | .ok (res,hout)=>bI P f args hin res hout
 | .error v=>aDr P f args hin v
def aZv (T:TT) (fn:Func) (hin:List (Nat×AObj)):Except Value (V×List (Nat×AObj))→Exit→St→Prop
 | .ok (res,hout),ex,st=>(ex=.normal∨ex=.ret)∧Fin T fn st hin res hout
 | .error v,ex,st=>ex=pan v∧st.d=[]
theorem nC {P:Program}{T:TT}{f:FuncId}{fn:Func}{c:Code}{n:Nat}{args:List V}{hin:List (Nat×AObj)}{o:Except Value (V×List (Nat×AObj))}(r:Tok P T) (q:P.funcs[f]?=some fn) (hb:fn.body=some c) (hn:fn.ntmps=n) (hle:Nat.ble args.length n=true) (hok:(hin.all fun p=>mE p.2)=true)
  (h:AWp none P n (keys hin) c (mk (yN 0 args) hin) (aZv T fn hin o)):b8 P f args hin o:=by
 cases o with
 | ok x=>obtain⟨res,hout⟩:=x;exact bM r q hb hn hle h
 | error v=>exact aQn q hb hn hle hok h
end Go.AM
namespace Go.Proofs.YtkhgpgihmphfdaaGreatDoor
open Go Go.AM
set_option maxRecDepth 20000
set_option maxHeartbeats 4000000
theorem rtN {ex:Exit}{fn:Func}{st:St}{hin hout:List (Nat×AObj)}(hex:ex=.normal∨ex=.ret:=by first | exact .inl rfl | exact .inr rfl) (q:fn.results.toList=[]:=by rfl)
  (ho:gG (fun p=>∃o,st.h p.1=some o∧Ole (fun i=>i) o p.2) hout:=by repeat (first | exact trivial | refine⟨⟨_,rfl,by first | exact Go.AM.Ole.arr | exact Go.AM.Ole.var rfl | exact Go.AM.Ole.varS rfl⟩,?_⟩))
  (hok:(subset (V.tup []).refs (keys hout)&&subset (gS hout) (keys hout)&&Go.AM.distinct (keys hout)&&subset (keys hin) (keys hout)&&(hin.all fun p=>p.2.plain)&&(hout.all fun p=>p.2.plain))=true:=by rfl):(ex=.normal∨ex=.ret)∧Fin tr.flat fn st hin (.tup []) hout:=
 ⟨hex,⟨[],[],by rw[q];exact .nil,.nil,rfl⟩,ho,hok⟩
theorem rtH {fn:Func}{st:St}{hin hout:List (Nat×AObj)}{t id len sz te es:Nat}{elems:List (List C)}(q:fn.results.toList=[.tmp t]:=by rfl) (r:st.e t=some (.one (.hs id 0 len sz)):=by rfl) (hh:st.h id=some (.arr te es elems 2):=by rfl) (hsz:sz=elems.length:=by first | rfl | assumption | (simp;done))
  (hlen:len=elems.length:=by first | rfl | assumption | (simp;done))
  (ho:gG (fun p=>∃o,st.h p.1=some o∧Ole (fun i=>i) o p.2) hout:=by repeat (first | exact trivial | refine⟨⟨_,rfl,by first | exact Go.AM.Ole.arr | exact Go.AM.Ole.var rfl | exact Go.AM.Ole.varS rfl⟩,?_⟩))
  (hok:(subset (V.one (.c (.sl es elems))).refs (keys hout)&&subset (gS hout) (keys hout)&&Go.AM.distinct (keys hout)&&subset (keys hin) (keys hout)&&(hin.all fun p=>p.2.plain)&&(hout.all fun p=>p.2.plain))=true:=by rfl):(Exit.ret=.normal∨Exit.ret=.ret)∧Fin tr.flat fn st hin (.one (.c (.sl es elems))) hout:=
 rtT (hc:=.one (.hs hh hsz (Go.AM.take_all hlen) .nil)) q r (ho:=ho) (hok:=hok)
structure Z where
 R:List Tk
 e:Int
 p:Int
def zTk:Tk:=⟨0,[],0,0⟩
def bA (z:Z):Tk:=z.R.headD zTk
def bN (e p:Int) (z:Z):Z:=if z.e=0 then⟨z.R,e,p⟩ else z
def isK (s:Str) (t:Tk):Bool:=(decide (t.kind=4) || decide (t.kind=5))&&decide (t.text=s)
def isZ (s:Str) (z:Z):Bool:=isK s (bA z)
def bX (s:Str) (z:Z):Bool×Z:=if z.e=0∧isZ s z=true then(true,⟨z.R.tail,z.e,z.p⟩) else(false,z)
def aN (s:Str) (z:Z):Z:=if(bX s z).1=true then(bX s z).2 else bN 12 (bA z).pl z
def aO (k:Int) (z:Z):Tk×Z:=if z.e=0∧(bA z).kind=k then(bA z,⟨z.R.tail,z.e,z.p⟩) else(⟨0,[],0,(bA z).pl⟩,bN 12 (bA z).pl z)
def rV (t:Tk):Bool:=decide (t.kind=1)
def aU (z:Z):List Tk×Z:=if z.e=0 then(z.R.takeWhile rV,⟨z.R.dropWhile rV,z.e,z.p⟩) else([],z)
def cB (n most:Nat) (at':Int) (z:Z):Z:=if most<n then bN 2 at' z else z
def ZA (L:List Tk) (z:Z):Prop:=At L (L.length-z.R.length) z.R
theorem rC (e p:Int) (z:Z):(bN e p z).R=z.R:=by unfold bN;split<;>rfl
theorem ZA.fail {L:List Tk}{z:Z}(h:ZA L z) (e p:Int):ZA L (bN e p z):=by unfold ZA;rw[rC];exact h
theorem ZA.tl {L:List Tk}{z:Z}(h:ZA L z) (q:¬(bA z).kind=6) (e p:Int):ZA L ⟨z.R.tail,e,p⟩∧L.length-z.R.tail.length=L.length-z.R.length+1:=by
 obtain⟨R,e',r⟩:=z;obtain⟨t,R,rfl⟩:=h.e.ne;have hn:¬t.kind=6:=q;obtain⟨h1,h2⟩:=At.next h hn
 unfold ZA;rw[show(Z.mk (t::R) e' r).R.tail=R from rfl,h2];exact⟨h1,rfl⟩
theorem lM {s:Str}{t:Tk}(h:isK s t=true):¬t.kind=6:=fun e=>by
 unfold isK at h;rw[e] at h;simp at h
theorem ZA.may {L:List Tk}{z:Z}(h:ZA L z) (s:Str):ZA L (bX s z).2:=by
 unfold bX;split
 ·rename_i hc;exact(h.tl (lM hc.2) _ _).1
 ·exact h
theorem ZA.need {L:List Tk}{z:Z}(h:ZA L z) (s:Str):ZA L (aN s z):=by
 unfold aN;split
 ·exact h.may s
 ·exact h.fail _ _
theorem ZA.word {L:List Tk}{z:Z}(h:ZA L z) {k:Int}(q:¬k=6):ZA L (aO k z).2:=by
 unfold aO;split
 ·rename_i hc;exact(h.tl (by rw[hc.2];exact q) _ _).1
 ·exact h.fail _ _
theorem xG:∀{R:List Tk},nT R→nT (R.dropWhile rV)∧∃p,R=p++R.dropWhile rV
 | [],h=>by obtain⟨t,R',e⟩:=h.ne;cases e
 | t::R,h=>by
  rw[Ck];split
  ·rename_i hb;have r:t.kind=1:=ω hb;have q:=h.tail (by omega);obtain⟨h1,p,h2⟩:=xG q;exact⟨h1,t::p,by rw[Ap,←h2]⟩
  ·exact⟨h,[],rfl⟩
theorem ZA.suf {L:List Tk}{z:Z}(h:ZA L z) {R p:List Tk}(hs:z.R=p++R) (he:nT R) (e q:Int):ZA L ⟨R,e,q⟩:=by
 obtain⟨h1,h2⟩:=At.to h hs he;show At L (L.length-R.length) R;rw[h2];exact h1
theorem ZA.words {L:List Tk}{z:Z}(h:ZA L z):ZA L (aU z).2:=by
 unfold aU;split
 ·obtain⟨h1,p,h2⟩:=xG h.e;exact h.suf h2 h1 _ _
 ·exact h
theorem ZA.long {L:List Tk}{z:Z}(h:ZA L z) (n q:Nat) (at':Int):ZA L (cB n q at' z):=by
 unfold cB;split
 ·exact h.fail _ _
 ·exact h
theorem ZA.now {L:List Tk}{z:Z}(h:ZA L z):L[L.length-z.R.length]?=some (bA z):=by
 obtain⟨R,e',q⟩:=z;obtain⟨t,R,rfl⟩:=h.e.ne;exact At.get h
def cL:Str:=[59]
def dX (s:Str) (z:Z):Bool:=if s=[] then decide ((bA z).kind=6) else isZ s z
def moreA (shut:Str) (n:Nat) (z:Z):Z:=if 0<n∧z.e=0∧isZ cL z=false∧dX shut z=false then bN 12 (bA z).pl z else z
def cV (z:Z):Z:=if z.e=0 then⟨z.R.dropWhile (isK cL),z.e,z.p⟩ else z
def bB (shut:Str) (n:Nat) (z:Z):Bool×Z:=
 if ¬(cV (moreA shut n z)).e=0∨dX shut (cV (moreA shut n z))=true then(false,cV (moreA shut n z))
 else(decide ((cB (n+1) 60 (bA (cV (moreA shut n z))).pl (cV (moreA shut n z))).e=0),cB (n+1) 60 (bA (cV (moreA shut n z))).pl (cV (moreA shut n z)))
def aTc (z:Z):SR→Sch×Z
 | .ok (s,R')=>(s,⟨R',z.e,z.p⟩)
 | .error (e,p)=>(mT,⟨z.R,e,p⟩)
def bK (z:Z):Sch×Z:=if z.e=0 then aTc z (cG z.R) else(mT,z)
def aXv (z:Z):PR→List Prd×Z
 | .ok (s,R')=>(s,⟨R',z.e,z.p⟩)
 | .error (e,p)=>([],⟨z.R,e,p⟩)
def bE (z:Z):List Prd×Z:=if z.e=0 then aXv z (cH z.R) else([],z)
theorem aNk {R:List Tk}{s:Sch}{R':List Tk}(h:cG R=.ok (s,R')):(nT R→nT R')∧(∃p,R=p++R'∧1≤p.length)∧WF s.ty∧tn s.ty≤wt R∧(∀p∈s.preds,WF p.ty∧tn p.ty≤wt R)∧s.preds.length≤R.length∧s.vars=aTd s.preds s.ty:=by
 unfold cG at h;cases hp:cH R with
 | error e=>obtain⟨e,p⟩:=e;rw[hp,qP] at h;cases h
 | ok y=>
  obtain⟨ps,R1⟩:=y;rw[hp,qP] at h;obtain⟨u,⟨q,r,_⟩,A,B⟩:=n0 hp;cases hw:bV (3*R1.length+2) 0 R1 with
  | error e=>obtain⟨e,p⟩:=e;rw[hw,nZ] at h;cases h
  | ok y=>
   obtain⟨x,R2⟩:=y;rw[hw,nZ] at h;obtain⟨⟨g1,⟨E,g2,g3⟩,g4⟩,g5⟩:=jM _ _ _ _ _ hw;cases h;have:wt R1≤wt R:=by rw[r];exact sC
   exact⟨fun he=>g1 (u he),⟨q++E,by rw[r,g2,Aj],by rw[ψ];omega⟩,g4,by show tn x≤_;omega,A,B,rfl⟩
theorem ZA.scheme {L:List Tk}{z:Z}(h:ZA L z):ZA L (bK z).2:=by
 unfold bK;split
 ·cases hs:cG z.R with
  | error e=>obtain⟨e,p⟩:=e;exact h
  | ok y=>
   obtain⟨s,R'⟩:=y;obtain⟨h1,⟨p,h2,_⟩,_⟩:=aNk hs;exact h.suf h2 (h1 h.e) _ _
 ·exact h
theorem ZA.preds {L:List Tk}{z:Z}(h:ZA L z):ZA L (bE z).2:=by
 unfold bE;split
 ·cases hs:cH z.R with
  | error e=>obtain⟨e,p⟩:=e;exact h
  | ok y=>
   obtain⟨s,R'⟩:=y;obtain⟨h1,⟨p,h2,_⟩,_⟩:=n0 hs;exact h.suf h2 (h1 h.e) _ _
 ·exact h
theorem sV (s:Str):∀{R:List Tk},nT R→nT (R.dropWhile (isK s))∧∃p,R=p++R.dropWhile (isK s)
 | [],h=>by obtain⟨t,R',e⟩:=h.ne;cases e
 | t::R,h=>by
  rw[Ck];split
  ·rename_i hb;have q:=h.tail (lM hb);obtain⟨h1,p,h2⟩:=sV s q;exact⟨h1,t::p,by rw[Ap,←h2]⟩
  ·exact⟨h,[],rfl⟩
theorem ZA.semi {L:List Tk}{z:Z}(h:ZA L z):ZA L (cV z):=by
 unfold cV;split
 ·obtain⟨h1,p,h2⟩:=sV cL h.e;exact h.suf h2 h1 _ _
 ·exact h
theorem ZA.moreA {L:List Tk}{z:Z}(h:ZA L z) (s:Str) (n:Nat):ZA L (moreA s n z):=by
 unfold Proofs.YtkhgpgihmphfdaaGreatDoor.moreA;split
 ·exact h.fail _ _
 ·exact h
theorem ZA.more {L:List Tk}{z:Z}(h:ZA L z) (s:Str) (n:Nat):ZA L (bB s n z).2:=by
 unfold bB;split
 ·exact(h.moreA s n).semi
 ·exact(h.moreA s n).semi.long _ _ _
theorem nA {L:List Tk}{z:Z}(h:ZA L z):cV (bX cL z).2=cV z∧((bX cL z).1=false→(bX cL z).2=z∧cV z=z)∧((bX cL z).1=true→(bX cL z).2.R.length<z.R.length):=by
 obtain⟨R,e,p⟩:=z;obtain⟨t,R,rfl⟩:=h.e.ne;unfold bX;split
 ·rename_i hc;have q:isK cL t=true:=hc.2;refine⟨?_,fun e=>Bool.noConfusion e,fun _=>by show R.length<(t::R).length;rw[κ];omega⟩;unfold cV;have he:e=0:=hc.1;rw[ξ he,ξ he];show Z.mk (R.dropWhile _) _ _=Z.mk ((t::R).dropWhile _) _ _;rw[Ck,ξ q]
 ·rename_i hc;refine⟨rfl,fun _=>⟨rfl,?_⟩,fun e=>Bool.noConfusion e⟩;unfold cV;split
  ·rename_i he;have q:¬isK cL t=true:=fun q=>hc ⟨he,q⟩
   rw[show(Z.mk (t::R) e p).R.dropWhile (isK cL)=t::R from by show(t::R).dropWhile _=_;rw[Ck,ζ q]]
  ·rfl
theorem ZA.len {L:List Tk}{z:Z}(h:ZA L z):z.R.length≤4001:=by
 have h1:=h.lt;have h2:=h.l;omega
structure Cn where
 name:Str
 pl:Int
 fields:List Ty
structure Dt where
 name:Str
 pl:Int
 vars:List Str
 cons:List Cn
def mO (c:Cn):List C:=[.str c.name,.int .i64 c.pl,.sl 4 (c.fields.map bG)]
def iG (d:Dt):List C:=[.str d.name,.int .i64 d.pl,.sl 1 (d.vars.map aR),.sl 1 [],.sl 3 (d.cons.map mO)]
def eqS:Str:=[61]
def vL:Str:=[124]
def aOn (z:Z):Bool:=decide ((bA z).kind=1) || (decide ((bA z).kind=2) || isZ cW z)
def atZ (z:Z):TR→Ty×Z
 | .ok (x,R')=>(x,⟨R',z.e,z.p⟩)
 | .error (e,p)=>(zTy,⟨z.R,e,p⟩)
def dW (z:Z):Ty×Z:=atZ z (cD (3*z.R.length) 0 z.R)
def bQ:Nat→List Ty→Z→List Ty×Z
 | 0,out,z=>(out,z)
 | f+1,out,z=>if z.e=0∧aOn z=true then bQ f (out++[(dW z).1]) (dW z).2 else(out,z)
def jF (z:Z):Cn×Z:=
 (⟨(aO 2 z).1.text,(aO 2 z).1.pl,(bQ ((aO 2 z).2.R.length+1) [] (aO 2 z).2).1⟩,
  cB (bQ ((aO 2 z).2.R.length+1) [] (aO 2 z).2).1.length 8 (aO 2 z).1.pl (bQ ((aO 2 z).2.R.length+1) [] (aO 2 z).2).2)
def fO:Nat→Int→List Cn→Z→List Cn×Z
 | 0,_,out,z=>(out,z)
 | f+1,a,out,z=>
  if(bX vL (cB (out++[(jF z).1]).length 16 a (jF z).2)).1=true then fO f a (out++[(jF z).1]) (bX vL (cB (out++[(jF z).1]).length 16 a (jF z).2)).2
  else(out++[(jF z).1],(bX vL (cB (out++[(jF z).1]).length 16 a (jF z).2)).2)
def dD (z:Z):Tk×List Tk×Z:=((aO 2 z).1,(aU (aO 2 z).2).1,aN eqS (cB (aU (aO 2 z).2).1.length 8 (aO 2 z).1.pl (aU (aO 2 z).2).2))
def fN (h:Tk×List Tk×Z):List Cn×Z:=if h.2.2.e=0 then fO (h.2.2.R.length+1) h.1.pl [] h.2.2 else([],h.2.2)
def jE (z:Z):Dt×Z:=(⟨(dD z).1.text,(dD z).1.pl,(dD z).2.1.map (·.text),(fN (dD z)).1⟩,(fN (dD z)).2)
def Ze (z z':Z):Prop:=z'.R.length≤z.R.length
theorem Ze.refl (z:Z):Ze z z:=le_refl _
theorem Ze.trans {a b c:Z}(h:Ze a b) (k:Ze b c):Ze a c:=le_trans k h
theorem Ze.fail (e p:Int) (z:Z):Ze z (bN e p z):=by unfold Ze;rw[rC];exact le_refl _
theorem Ze.may (s:Str) (z:Z):Ze z (bX s z).2:=by
 unfold Ze bX;split
 ·show z.R.tail.length≤_;rw[length_tail];omega
 ·exact le_refl _
theorem Ze.need (s:Str) (z:Z):Ze z (aN s z):=by
 unfold aN;split
 ·exact Ze.may s z
 ·exact Ze.fail _ _ z
theorem Ze.word (k:Int) (z:Z):Ze z (aO k z).2:=by
 unfold aO;split
 ·show z.R.tail.length≤_;rw[length_tail];omega
 ·exact Ze.fail _ _ z
theorem Ze.long (n q:Nat) (a:Int) (z:Z):Ze z (cB n q a z):=by
 unfold cB;split
 ·exact Ze.fail _ _ z
 ·exact Ze.refl z
theorem l8 {α:Type}(p:α→Bool):∀l:List α,(l.dropWhile p).length≤l.length
 | []=>le_refl _
 | a::l=>by
  rw[Ck];split
  ·have:=l8 p l;rw[κ];omega
  ·exact le_refl _
theorem oN {α:Type}(p:α→Bool):∀l:List α,(l.takeWhile p).length≤l.length
 | []=>le_refl _
 | a::l=>by
  rw[List.takeWhile_cons];split
  ·have:=oN p l;rw[κ,κ];omega
  ·exact Ae _
theorem Ze.words (z:Z):Ze z (aU z).2:=by
 unfold aU;split
 ·exact l8 _ _
 ·exact Ze.refl z
theorem ZA.wt {L:List Tk}{z:Z}(h:ZA L z):wt z.R≤wt L:=by
 have e:L.take (L.length-z.R.length)++z.R=L:=by
  have:=take_append_drop (L.length-z.R.length) L;rwa [h.d] at this
 have:=sC (p:=L.take (L.length-z.R.length)) (R:=z.R);rwa [e] at this
theorem ZA.lp {L:List Tk}{z:Z}(h:ZA L z):1≤z.R.length:=h.lt.2
theorem aDk {L:List Tk}{z:Z}(h:ZA L z):ZA L (dW z).2∧WF (dW z).1∧tn (dW z).1≤wt z.R∧((dW z).2.e=0→(dW z).2.R.length<z.R.length)∧Ze z (dW z).2:=by
 unfold dW;have hok:=lE (3*z.R.length) 0 z.R;have q:=gE (3*z.R.length) 0 z.R;generalize cD (3*z.R.length) 0 z.R=w at hok q ⊢;cases w with
 | error e=>
  obtain⟨e,p⟩:=e;have:=q e p rfl;refine⟨h,⟨rfl,rfl⟩,?_,fun h0=>absurd h0 this,Ze.refl z⟩;show tn zTy≤_;obtain⟨t,R',r⟩:=h.e.ne;rw[r,c9];have:tn zTy=1:=by unfold zTy;rw[tn,tns];rfl
  omega
 | ok y=>
  obtain⟨x,R'⟩:=y;obtain⟨⟨h1,⟨p,h2,A⟩,u⟩,B⟩:=hok x R' rfl;have hl:R'.length<z.R.length:=by rw[h2,ψ];omega
  exact⟨h.suf h2 (h1 h.e) _ _,u,by show tn x≤_;omega,fun _=>hl,Cp hl⟩
theorem sU {L:List Tk}:∀(f:Nat) (out:List Ty) (z:Z),ZA L z→(∀x∈out,WF x∧tn x≤wt L)→out.length+z.R.length≤4001→
  ZA L (bQ f out z).2∧(∀x∈(bQ f out z).1,WF x∧tn x≤wt L)∧Ze z (bQ f out z).2∧(bQ f out z).1.length≤4002
 | 0,out,z,h,ho,hl=>⟨h,ho,Ze.refl z,by rw[bQ];dsimp only;omega⟩
 | f+1,out,z,h,ho,hl=>by
  rw[bQ];split
  ·rename_i hc;obtain⟨g1,g2,g3,g4,g5⟩:=aDk h;have E:=h.wt;have q:∀x∈out++[(dW z).1],WF x∧tn x≤wt L:=fun x hx=>by
    rcases A2.1 hx with hx | hx
    ·exact ho x hx
    ·rw[Ar.1 hx];exact⟨g2,by omega⟩
   by_cases he:(dW z).2.e=0
   ·have I:=g4 he;obtain⟨r,u,y,A⟩:=sU f (out++[(dW z).1]) (dW z).2 g1 q (by rw[ψ,Bi];omega);exact⟨r,u,g5.trans y,A⟩
   ·have B:bQ f (out++[(dW z).1]) (dW z).2=(out++[(dW z).1],(dW z).2):=by
     cases f with
     | zero=>rfl
     | succ f=>rw[bQ,ζ (fun h=>he h.1)]
    rw[B];exact⟨g1,q,g5,by rw[ψ,Bi];have:=h.lp;omega⟩
  ·exact⟨h,ho,Ze.refl z,by dsimp only;omega⟩
theorem pB {f:Nat}{out:List Ty}{z:Z}(h:¬(z.e=0∧aOn z=true)):bQ f out z=(out,z):=by
 cases f with
 | zero=>rfl
 | succ f=>rw[bQ,ζ h]
end Go.Proofs.YtkhgpgihmphfdaaGreatDoor
