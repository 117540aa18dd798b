/-
  Texts Lc6 to Lg8 in one.
-/
import Derived.Test.YtglfogjcijokpaaGreatDoorM7
open List (all_eq_true append_assoc append_nil cons_append drop_eq_getElem_cons drop_length filter_cons flatMap_append flatMap_cons flatten_cons foldl_append foldl_cons length_append length_cons length_drop length_filter_le length_map length_nil length_take map_append map_cons map_map map_nil map_set mem_append mem_cons mem_cons_of_mem mem_cons_self mem_filter mem_flatMap mem_map mem_of_mem_take mem_singleton nil_append nodup_append nodup_cons nodup_nil set_cons_succ take_add_one take_append_drop take_length take_succ_cons take_zero)
open Nat (add_assoc add_mul add_zero le_of_lt le_refl le_trans min_eq_left mul_le_mul_right sub_self sub_zero zero_add zero_le)
namespace Go.Proofs.YtglfogjcijokpaaGreatDoor
open Go Go.AM
set_option maxRecDepth 20000
def gl (c:Core):List (List (List C)×List Core):=(nm0 c++c.binds.map aDn,c.kids++c.binds.map Bind.body)::c.alts.map fun a=>(a.vars.map yQ,[a.body])
def kM (g:List (List C)×List Core):List C:=[.sl 1 g.1,.sl 1 (g.2.map hZ)]
theorem qG (c:Core):jQ c=(gl c).map kM:=by
 obtain⟨f,n,s,t,ks,bs,al⟩:=c;unfold jQ gl;rw[Al,Bj];congr 1;unfold aZm kM;rw[A4,Bj];rfl
mutual
def dJ:Core→Nat
 | .mk _ _ _ _ ks bs al=>1+(bF ks+(bW bs+cB al))
def bF:List Core→Nat
 | []=>0
 | c::l=>dJ c+bF l
def bW:List Bind→Nat
 | []=>0
 | .mk _ _ c::l=>dJ c+bW l
def cB:List Alt→Nat
 | []=>0
 | .mk _ _ _ _ c::l=>dJ c+cB l
end
theorem pA:∀a b,bF (a++b)=bF a+bF b
 | [],b=>by rw[Bd,bF,A6]
 | x::a,b=>by rw[Bc,bF,bF,pA a b,Co]
theorem uJ:∀l:List Bind,bF (l.map Bind.body)=bW l
 | []=>by rw[Bn,bF,bW]
 | .mk s t c::l=>by rw[Al,bF,bW,uJ l];rfl
def oV:List (List (List C)×List Core)→Nat
 | []=>0
 | g::l=>bF g.2+oV l
theorem aAg:∀l:List Alt,oV (l.map fun a=>(a.vars.map yQ,[a.body]))=cB l
 | []=>by rw[Bn,oV,cB]
 | .mk f n s v c::l=>by rw[Al,oV,cB,aAg l,bF,bF];rfl
theorem aT9 (c:Core):dJ c=1+oV (gl c):=by
 obtain⟨f,n,s,t,ks,bs,al⟩:=c;unfold gl;rw[oV,dJ];show _=1+(bF (ks++bs.map Bind.body)+oV (al.map fun a=>(a.vars.map yQ,[a.body])));rw[pA,uJ,aAg];omega
mutual
theorem size_le:∀c:Core,dJ c≤bE c
 | .mk f n s t ks bs al=>by rw[dJ,bE];have:=aE1 ks;have:=aE2 bs;have:=aE3 al;omega
theorem aE1:∀l:List Core,bF l≤dS l
 | []=>by rw[bF];exact Aj _
 | c::l=>by rw[bF,dS];have:=size_le c;have:=aE1 l;omega
theorem aE2:∀l:List Bind,bW l≤iD l
 | []=>by rw[bW];exact Aj _
 | .mk s t c::l=>by rw[bW,iD,bsize];have:=size_le c;have:=aE2 l;omega
theorem aE3:∀l:List Alt,cB l≤iF l
 | []=>by rw[cB];exact Aj _
 | .mk f n s v c::l=>by rw[cB,iF,yE];have:=size_le c;have:=aE3 l;omega
end
theorem aZo {c:Core}{g:List (List C)×List Core}(h:g∈gl c) {x:Core}(hx:x∈g.2):bE x<bE c:=by
 obtain⟨f,n,s,t,ks,bs,al⟩:=c;obtain⟨q,I,J,N,O,W⟩:= @fN f n s t ks bs al;unfold gl at h;rcases Ai.1 h with rfl | h
 ·rcases δ.1 hx with hx | hx
  ·exact q x hx
  ·obtain⟨b,hb,rfl⟩:=Af.1 hx;exact I b hb
 ·obtain⟨a,ha,rfl⟩:=Af.1 h;rw[ζ.1 hx];exact J a ha
theorem aMc {l:List (List (List C)×List Core)}{i:Nat}{g:List (List C)×List Core}(h:l[i]?=some g):oV (l.take (i+1))=oV (l.take i)+bF g.2:=by
 have app:∀a b,oV (a++b)=oV a+oV b:=by
  intro a b
  induction a with
  | nil=>rw[Bd,oV,A6]
  | cons x a q=>rw[Bc,oV,oV,q,Co]
 rw[dY h,app,oV,oV,By]
theorem aCe {l:List Core}{i:Nat}{x:Core}(h:l[i]?=some x):bF (l.take (i+1))=bF (l.take i)+dJ x:=by
 rw[dY h,pA,bF,bF,By]
theorem aVj (l:List (List (List C)×List Core)) (i:Nat):oV (l.take i)≤oV l:=by
 induction l generalizing i with
 | nil=>simp
 | cons g l q=>
  cases i with
  | zero=>simp[oV]
  | succ i=>rw[Ar,oV,oV];have:=q i;omega
theorem aJz (l:List Core) (i:Nat):bF (l.take i)≤bF l:=by
 induction l generalizing i with
 | nil=>simp
 | cons g l q=>
  cases i with
  | zero=>simp[bF]
  | succ i=>rw[Ar,bF,bF];have:=q i;omega
theorem aZn {c:Core}(h:LC c):(gl c).length≤570000000000∧∀g∈gl c,(g.2.length≤570000000000∧g.1.length≤570000000000)∧∀x∈g.2,LC x:=by
 cases h with
 | @mk f n s t ks bs al h1 h2 h3 hk hb ha=>
  have N:(nm0 (.mk f n s t ks bs al)).length≤1:=by unfold nm0;split<;>simp
  unfold gl;refine⟨?_,fun g q=>?_⟩
  ·rw[Ak,θ];show al.length+1≤_;exact h2
  ·rcases Ai.1 q with rfl | q
   ·refine⟨?_,fun x hx=>?_⟩
    ·rw[τ,τ,θ,θ];show ks.length+bs.length≤_∧_+bs.length≤_;omega
    ·rcases δ.1 hx with hx | hx
     ·exact hk x hx
     ·obtain⟨b,J,rfl⟩:=Af.1 hx;exact hb b J
   ·obtain⟨a,I,rfl⟩:=Af.1 q;refine⟨⟨by show 1≤570000000000;omega,?_⟩,fun x hx=>by rw[ζ.1 hx];exact ha a I⟩;show(a.vars.map yQ).length≤_;rw[θ];exact h3 a I
def aOq (c:Core):Prop:=LC c→dJ c≤9000000000000000000→aQ Tryz.prog 13 [.pa (aC c)] [] (I .i64 (dJ c:Nat)) []
theorem aDi (c:Core) (ih:∀x,bE x<bE c→aOq x):aOq c:=by
 intro O W;have q:aQ Tryz.prog 40 [.one (.c (.pt (aC c)))] [] (.one (.c (.sl 2 (jQ c)))) []:=by
  cases O with
  | mk h1 h2 h3=>exact aAx _ h1 h2 h3
 have Y:=aT9 c;have hin:=fun {g} (h:g∈gl c) {x} hx=> @aZo c g h x hx
 obtain⟨hgl,Z⟩:=aZn O;rw[qG] at q;rw[Y] at W ⊢;generalize gl c=L at q Y W hin hgl Z ⊢;have aa:(L.map kM).length=L.length:=θ _;refine bM (n:=30) tok Tryz.func13 rfl rfl rfl ?_;refine sg rfl (sg rfl (AWp.sub (Sub.fvar (id:=1) (l:=aC c) rfl (by simp[keys])) ?_));refine AWp.sub (st2:=mk [(1,.one (.c (.pt (aC c)))),(3,I .i64 1)] []) sl ?_;refine a8 (a8 (aE mixed (kc q ?_)));refine kz 2 rfl (aB (aK (fun i:Nat=>mk [(3,I .i64 ((1+oV (L.take i):Nat):Int)),(8,.one (.c (.sl 2 (L.map kM)))),(9,I .i64 ((L.map kM).length:Int)),(10,I .i64 i)] []) (fun i=>i≤L.length) (fun i=>L.length-i) 0 (Aj _) sl ?_));intro i hi;refine sg rfl (a8 (aA rfl (fun hb=>?_) (fun hb=>?_)))
 ·have ab:=ltD hb aa;obtain⟨g,hg⟩:=aJ ab;have hg':=bO kM hg;have ac:=Ab hg;obtain⟨⟨hl1,hl2⟩,ad⟩:=Z g ac;have ae:=aMc hg;have hgl1:=aVj L (i+1);have J:(g.2.map hZ).length=g.2.length:=θ _;obtain⟨G1,G⟩:=g;dsimp only at hl1 hl2 ad ae J;refine aD (a8 (aB (sgh [(0,.row i (kM (G1,G)))] rfl (sg rfl (aB (aK (fun j:Nat=>mk [(3,I .i64 ((1+oV (L.take i)+bF (G.take j):Nat):Int)),(8,.one (.c (.sl 2 (L.map kM)))),(9,I .i64 ((L.map kM).length:Int)),(10,I .i64 i),(15,.one (.c (.sl 1 (G.map hZ)))),(16,I .i64 ((G.map hZ).length:Int)),(17,I .i64 j)] []) (fun j=>j≤G.length) (fun j=>G.length-j) 0 (Aj _) sl ?_))))));intro j hj;refine sg rfl (a8 (aA rfl (fun hb=>?_) (fun hb=>?_)))
  ·have N:=ltD hb J;obtain⟨p,hp⟩:=aJ N;have hp':=bO hZ hp;have hpc:=hin ac (Ab hp);have hst:=aCe hp;have hsl2:=aJz G (j+1);have hc:=ih p hpc (ad p (Ab hp)) (by omega);have hadd:((1+oV (L.take i)+bF (G.take j):Nat):Int)+((dJ p:Nat):Int)=((1+oV (L.take i)+bF (G.take (j+1)):Nat):Int):=by rw[hst];omega
   refine aD (a8 (aB (sgh [(0,.row j (hZ p))] rfl (ag [(4,.pc (I .i64 (dJ p:Nat)))] rfl (ag [] rfl ⟨j+1,N,by dsimp only;omega,?_⟩)))));dsimp only;rw[←hadd];exact sl
  have hge2:=geD hb J hj;subst hge2;rw[As];refine aL (ag [] rfl ⟨i+1,ab,by dsimp only;omega,?_⟩);dsimp only;rw[show 1+oV (L.take (i+1))=1+oV (L.take i)+bF G by rw[ae];omega];exact sl
 have hge:=geD hb aa hi;subst hge;rw[As];exact aL (sg rfl (aF rtT))
theorem aNd:∀(n:Nat) (c:Core),bE c≤n→aOq c
 | 0,c,h=>by have:=cD c;omega
 | n+1,c,h=>aDi c fun x hx=>aNd n x (by omega)
def qR (o:List Str) (s:Str):List Str:=if s∈o then o else o++[s]
def n2 (o l:List Str):List Str:=l.foldl qR o
theorem aLl (o:List Str) {l:List Str}{i:Nat}{s:Str}(h:l[i]?=some s):n2 o (l.take (i+1))=qR (n2 o (l.take i)) s:=by
 unfold n2;rw[dY h,Bu];rfl
theorem aFt (o:List Str) (s:Str):(qR o s).length≤o.length+1:=by unfold qR;split<;>simp
theorem rA (o:List Str):∀l:List Str,(n2 o l).length≤o.length+l.length:=by
 intro l
 induction l generalizing o with
 | nil=>exact le_refl _
 | cons s l q=>
  have h1:=q (qR o s);have h2:=aFt o s;show(n2 (qR o s) l).length≤_;rw[Ak];omega
def ouO (o:List Str):AObj:=.arr 9 1 (o.map bL) 1
def ouV (o:List Str):V:=.one (.hs 500 0 o.length o.length)
theorem vM (o l:List Str) (h:o.length+l.length≤600000000000):aQ Tryz.prog 130 [ouV o,bI l] [(500,ouO o)] (ouV (n2 o l)) [(500,ouO (n2 o l))]:=by
 have N:(l.map bL).length=l.length:=θ _;refine bM (n:=23) tok Tryz.func130 rfl rfl rfl ?_;refine sg rfl (a8 (sg rfl (aB (aK (fun i:Nat=>mk [(0,ouV (n2 o (l.take i))),(7,bI l),(8,I .i64 ((l.map bL).length:Int)),(9,I .i64 i)] [(500,ouO (n2 o (l.take i)))]) (fun i=>i≤l.length) (fun i=>l.length-i) 0 (Aj _) sl ?_))));intro i hi;refine sg rfl (a8 (aA rfl (fun hb=>?_) (fun hb=>?_)))
 ·have J:=ltD hb N;obtain⟨s,hs⟩:=aJ J;have Y:=bO bL hs;have q:=aLl o hs;have O:=rA o (l.take i);rw[Aq] at O;generalize n2 o (l.take i)=x at q O ⊢;have Z:=bS x s (by omega);refine aD (a8 (aB (sgh [(0,.row i (bL s))] rfl (AWp.sub (Sub.freeze (id:=500) rfl) ?_))));refine sgh [(2,.pc (B (decide (s∈x))))] rfl (aA rfl (fun hb=>?_) (fun hb=>?_))
  ·have hin:¬s∈x:=by simpa using hb
   rw[qR,φ hin] at q;refine ag [] rfl (ag [] rfl ⟨i+1,J,by dsimp only;omega,?_⟩);dsimp only;rw[q];exact sl (he:=⟨Go.AM.hs_ren (by simp) (by simp),rfl,rfl,rfl,trivial⟩) (hh:=⟨⟨_,rfl,by first | exact Go.AM.Ole.arrE (by simp;rfl) | exact Go.AM.Ole.arrS (by simp;rfl)⟩,trivial⟩)
  ·have hin:s∈x:=by simpa using hb
   rw[qR,ξ hin] at q;refine aD (ag [] rfl ⟨i+1,J,by dsimp only;omega,?_⟩);dsimp only;rw[q];exact sl
 have W:=geD hb N hi;subst W;rw[As];exact aL (sg rfl (aF rtT))
def aIt (p:Str×List C):List C:=[.pt (.str p.1::p.2)]
def suO (s:Str):AObj:=.var 9 [.c (.str s)]
theorem aWe (p:Str×List C) (s:Str):aQ Tryz.prog 159 [.one (.c (.pt (.str p.1::p.2))),.one (.vp 9 0)] [(9,suO s)] (B (decide (p.1=s))) [(9,suO s)]:=by
 refine bM (n:=9) tok Tryz.func159 rfl rfl rfl ?_;exact sg rfl (sg rfl (aF rtT))
theorem a0l (l:List (Str×List C)) (s:Str) (hl:l.length≤600000000000):aQ Tryz.prog 171 [.one (.c (.sl 1 (l.map aIt))),.one (.clo 159 [.vp 9 0])] [(9,suO s)] (I .i64 (aS7 (fun p=>decide (p.1=s)) l 0)) [(9,suO s)]:=by
 have J:(l.map aIt).length=l.length:=θ _;generalize W:(fun p:Str×List C=>decide (p.1=s))=P;refine bM (n:=19) tok Tryz.func171 rfl rfl rfl ?_;refine sg rfl (a8 (sg rfl (aB (aK (fun i:Nat=>mk [(0,.one (.c (.sl 1 (l.map aIt)))),(1,.one (.clo 159 [.vp 9 0])),(7,I .i64 ((l.map aIt).length:Int)),(8,I .i64 i)] [(9,suO s)]) (fun i=>i≤l.length∧aS7 P l 0=aS7 P (l.drop i) i) (fun i=>l.length-i) 0 ⟨Aj _,rfl⟩ sl ?_))));intro i ⟨hi,hid⟩;refine sg rfl (a8 (aA rfl (fun hb=>?_) (fun hb=>?_)))
 ·have q:=ltD hb J;obtain⟨p,hp⟩:=aJ q;have Y:=bO aIt hp;have hc:aQ Tryz.prog 159 ([.one (.c (.pt (.str p.1::p.2)))]++([.vp 9 0]:List R).map V.one) [(9,suO s)] (B (P p)) [(9,suO s)]:=by rw[←W];exact aWe p s
  have N:l.drop i=p::l.drop (i+1):=by rw[Bp q,(Aa.1 hp).2]
  rw[N,aS7] at hid;refine aD (a8 (aB (sg rfl (skh 5 [(3,.row i (aIt p))] rfl (kv (args:=[.one (.c (.pt (.str p.1::p.2)))]) hc ?_)))));refine az (aA rfl (fun hb=>?_) (fun hb=>?_))
  ·have hb:P p=true:=hb;rw[ξ hb] at hid;rw[hid];exact sg rfl (aF rtT)
  ·have hb:P p=false:=hb;rw[φ (by rw[hb];exact A5)] at hid;exact aD (ag [] rfl ⟨i+1,⟨q,hid⟩,by dsimp only;omega,sl⟩)
 have O:=geD hb J hi;subst O;rw[Cy,aS7] at hid;rw[hid];exact aL (sg rfl (aF (rtT (v:=I .i64 (-1)) (hc:=.refl))))
theorem a0m (l:List (Str×List C)) (s:Str) (hl:l.length≤600000000000):aQ Tryz.prog 158 [.one (.c (.sl 1 (l.map aIt))),.one (.clo 159 [.vp 9 0])] [(9,suO s)] (B (decide (s∈l.map (·.1)))) [(9,suO s)]:=by
 have h:=a0l l s hl;have q:decide (s∈l.map (·.1))=l.any fun p=>decide (p.1=s):=by
  rw[Bool.eq_iff_iff];simp only[decide_eq_true_eq,List.any_eq_true,Af]
 rw[q,←aL9 _ l 0];refine bM (n:=9) tok Tryz.func158 rfl rfl rfl ?_;refine sg rfl (sk 2 rfl (kc h ?_));exact kz 2 rfl (aF rtT)
set_option maxHeartbeats 4000000
def nI (f:Int) (s:Str) (o:List Str) (x:Str):List Str:=if ¬f=7∨¬x=s then n2 o [x] else o
def aBx (f:Int) (s:Str) (o l:List Str):List Str:=l.foldl (nI f s) o
mutual
def tyR:Core→List Str
 | .mk f _ s t ks bs al=>nF al (mX bs (oU f s ks (n2 [] (tfR t))))
def oU (f:Int) (s:Str):List Core→List Str→List Str
 | [],o=>o
 | c::l,o=>oU f s l (aBx f s o (tyR c))
def mX:List Bind→List Str→List Str
 | [],o=>o
 | .mk _ t c::l,o=>mX l (n2 (n2 o (tfR t)) (tyR c))
def nF:List Alt→List Str→List Str
 | [],o=>o
 | .mk _ _ _ _ c::l,o=>nF l (n2 o (tyR c))
def cT:Core→Nat
 | .mk _ _ _ t ks bs al=>fw t+a3g ks+a3h bs+a3i al
def a3g:List Core→Nat
 | []=>0
 | c::l=>cT c+a3g l
def a3h:List Bind→Nat
 | []=>0
 | .mk _ t c::l=>fw t+cT c+a3h l
def a3i:List Alt→Nat
 | []=>0
 | .mk _ _ _ _ c::l=>cT c+a3i l
end
theorem aI0 (f:Int) (s:Str) (o:List Str) (x:Str):(nI f s o x).length≤o.length+1:=by
 unfold nI;split
 ·exact rA o [x]
 ·omega
theorem aEm (f:Int) (s:Str):∀(l o:List Str),(aBx f s o l).length≤o.length+l.length
 | [],o=>le_refl _
 | x::l,o=>by
  have h1:=aEm f s l (nI f s o x);have h2:=aI0 f s o x;show(aBx f s (nI f s o x) l).length≤_;rw[Ak];omega
theorem aEc {f:Int}{s:Str}:∀{l:List Core}{o:List Str}{i:Nat}{c:Core},l[i]?=some c→oU f s (l.take (i+1)) o=aBx f s (oU f s (l.take i) o) (tyR c)
 | d::l,o,0,c,h=>by simp at h;subst h;rw[Ar,Cb,Cb,oU,oU,oU]
 | d::l,o,i+1,c,h=>by rw[Ar,Ar,oU,oU];exact aEc (l:=l) (by simpa using h)
theorem aEe:∀{l:List Bind}{o:List Str}{i:Nat}{b:Bind},l[i]?=some b→mX (l.take (i+1)) o=n2 (n2 (mX (l.take i) o) (tfR b.ty)) (tyR b.body)
 | .mk s t c::l,o,0,b,h=>by simp at h;subst h;rw[Ar,Cb,Cb,mX,mX,mX];rfl
 | .mk s t c::l,o,i+1,b,h=>by rw[Ar,Ar,mX,mX];exact aEe (l:=l) (by simpa using h)
theorem aEg:∀{l:List Alt}{o:List Str}{i:Nat}{a:Alt},l[i]?=some a→nF (l.take (i+1)) o=n2 (nF (l.take i) o) (tyR a.body)
 | .mk f n s v c::l,o,0,a,h=>by simp at h;subst h;rw[Ar,Cb,Cb,nF,nF,nF];rfl
 | .mk f n s v c::l,o,i+1,a,h=>by rw[Ar,Ar,nF,nF];exact aEg (l:=l) (by simpa using h)
theorem aI7 {f:Int}{s:Str}{o l:List Str}{j:Nat}{x:Str}(h:l[j]?=some x):aBx f s o (l.take (j+1))=nI f s (aBx f s o (l.take j)) x:=by
 unfold aBx;rw[Bi,h,Bu];rfl
theorem aU3 (o:List Str) (s:Str):o.length≤(qR o s).length:=by
 unfold qR;split
 ·exact le_refl _
 ·simp
theorem sH:∀(l o:List Str),o.length≤(n2 o l).length
 | [],_=>le_refl _
 | x::l,o=>le_trans (aU3 o x) (sH l (qR o x))
theorem aI9 (f:Int) (s:Str):∀(l o:List Str),o.length≤(aBx f s o l).length
 | [],o=>le_refl _
 | x::l,o=>by
  refine le_trans ?_ (aI9 f s l (nI f s o x));unfold nI;split
  ·exact sH [x] o
  ·exact le_refl _
theorem aSa (f:Int) (s:Str):∀(l:List Core) (o:List Str),o.length≤(oU f s l o).length
 | [],o=>by rw[oU];exact le_refl _
 | c::l,o=>by rw[oU];exact le_trans (aI9 f s _ o) (aSa f s l _)
theorem aIz:∀(l:List Bind) (o:List Str),o.length≤(mX l o).length
 | [],o=>by rw[mX];exact le_refl _
 | .mk s t c::l,o=>by rw[mX];exact le_trans (le_trans (sH _ o) (sH _ _)) (aIz l _)
theorem aEh:∀(l:List Alt) (o:List Str),o.length≤(nF l o).length
 | [],o=>by rw[nF];exact le_refl _
 | .mk f n s v c::l,o=>by rw[nF];exact le_trans (sH _ o) (aEh l _)
theorem aEb (f:Int) (s:Str):∀(l:List Core) (o:List Str) (i:Nat),(oU f s (l.take i) o).length≤(oU f s l o).length
 | [],o,i=>by rw[List.take_nil];exact le_refl _
 | c::l,o,0=>by rw[Cb,oU];exact aSa f s _ o
 | c::l,o,i+1=>by rw[Ar,oU,oU];exact aEb f s l _ i
theorem aEd:∀(l:List Bind) (o:List Str) (i:Nat),(mX (l.take i) o).length≤(mX l o).length
 | [],o,i=>by rw[List.take_nil];exact le_refl _
 | .mk s t c::l,o,0=>by rw[Cb];rw[show mX [] o=o from by rw[mX]];exact aIz _ o
 | .mk s t c::l,o,i+1=>by rw[Ar,mX,mX];exact aEd l _ i
theorem aEf:∀(l:List Alt) (o:List Str) (i:Nat),(nF (l.take i) o).length≤(nF l o).length
 | [],o,i=>by rw[List.take_nil];exact le_refl _
 | .mk f n s v c::l,o,0=>by rw[Cb];rw[show nF [] o=o from by rw[nF]];exact aEh _ o
 | .mk f n s v c::l,o,i+1=>by rw[Ar,nF,nF];exact aEf l _ i
mutual
def tyM:Core→Nat
 | .mk f n s t ks bs al=>max (fw t) (max (tyR (.mk f n s t ks bs al)).length (max (aSb ks) (max (aI3 bs) (aPb al))))
def aSb:List Core→Nat
 | []=>0
 | c::l=>max (tyM c) (aSb l)
def aI3:List Bind→Nat
 | []=>0
 | .mk _ t c::l=>max (fw t) (max (tyM c) (aI3 l))
def aPb:List Alt→Nat
 | []=>0
 | .mk _ _ _ _ c::l=>max (tyM c) (aPb l)
end
theorem aXj {f n:Int}{s:Str}{t:Ty}{ks:List Core}{bs:List Bind}{al:List Alt}{K:Nat}(h:tyM (.mk f n s t ks bs al)≤K):fw t≤K∧(tyR (.mk f n s t ks bs al)).length≤K∧aSb ks≤K∧aI3 bs≤K∧aPb al≤K:=by
 rw[tyM] at h;omega
theorem aI5 (c:Core):(tyR c).length≤tyM c:=by cases c;rw[tyM];omega
theorem aEi:∀{l:List Core}{c:Core},c∈l→tyM c≤aSb l
 | d::l,c,h=>by
  rw[aSb];rcases Ai.1 h with rfl | h
  ·omega
  ·have:=aEi h;omega
theorem aEj:∀{l:List Bind}{b:Bind},b∈l→fw b.ty≤aI3 l∧tyM b.body≤aI3 l
 | .mk s t c::l,b,h=>by
  rw[aI3];rcases Ai.1 h with rfl | h
  ·show fw t≤_∧tyM c≤_;omega
  ·have:=aEj h;omega
theorem aEk:∀{l:List Alt}{a:Alt},a∈l→tyM a.body≤aPb l
 | .mk f n s v c::l,a,h=>by
  rw[aPb];rcases Ai.1 h with rfl | h
  ·show tyM c≤_;omega
  ·have:=aEk h;omega
def aDv (c:Core):Prop:=bE c≤570000000000→tyM c≤400000000→aQ Tryz.prog 76 [.pa (aC c)] [] (bI (tyR c)) []
theorem y9 (c:Core) (ih:∀x,bE x<bE c→aDv x):aDv c:=by
 intro hsz hcT;obtain⟨f,n,s,t,ks,bs,al⟩:=c;obtain⟨ihk,ihb,iha,hkl,hbl,hal⟩:= @fN f n s t ks bs al;obtain⟨hMt,O,hMk,hMb,hMa⟩:=aXj hcT;rw[tyR] at O ⊢;have hkB:(aU bs).length=bs.length:=by rw[bX,θ]
 have hkK:(aR ks).length=ks.length:=by rw[bA,θ]
 have hkA:(c9 al).length=al.length:=by rw[c8,θ]
 have htf:=aGs t (by omega);have htl:=aZr t;have hmo:aQ Tryz.prog 130 [.one (.c .nl),bI (tfR t)] [] (ouV (n2 [] (tfR t))) [(500,ouO (n2 [] (tfR t)))]:=aQ.nilArg (pre:=[]) (post:=[bI (tfR t)]) (hin:=[]) (vM [] (tfR t) (by simp;omega)) rfl;have hol:=rA [] (tfR t);simp only[length_nil] at hol;generalize n2 [] (tfR t)=o0 at hmo hol O ⊢;refine bM (n:=76) tok Tryz.func76 rfl rfl rfl ?_;refine sg rfl (sk 2 rfl (kc htf ?_));refine kc hmo ?_;refine kz 1 rfl (a8 (sg rfl (aB (aK (fun i:Nat=>mk [(1,.one (.vp 1 0)),(3,ouV (oU f s (ks.take i) o0)),(17,.one (.c (.sl 10 (aR ks)))),(18,I .i64 ((aR ks).length:Int)),(19,I .i64 i)] [(500,ouO (oU f s (ks.take i) o0)),(1,.var 34 (b8 (.mk f n s t ks bs al)))]) (fun i=>i≤ks.length) (fun i=>ks.length-i) 0 (Aj _) sl ?_))));intro i hi;have hl1:(oU f s (ks.take i) o0).length≤400000000:=le_trans (aEb f s ks o0 i) (le_trans (aIz bs _) (le_trans (aEh al _) O));refine sg rfl (a8 (aA rfl (fun hb=>?_) (fun hb=>?_)))
 ·have N:=ltD hb hkK;obtain⟨k,hki⟩:=aJ N;have hki':=j0 hki;have hm:=Ab hki;have hkm:=aEi hm;have hc:=ih k (ihk k hm) (by have:=ihk k hm;omega) (by omega);have hkt:(tyR k).length≤400000000:=by have:=aI5 k;omega
  have J:=aEc (f:=f) (s:=s) (o:=o0) hki;generalize oU f s (ks.take i) o0=o at J hl1 ⊢;have hkf:((tyR k).map bL).length=(tyR k).length:=θ _;generalize tyR k=Z at hc hkt J hkf;refine aD (a8 (aB (sgh [(0,.row i (aC k))] rfl (sk 1 rfl (kc hc ?_)))));refine kz 2 rfl (aB (aK (fun j:Nat=>mk [(1,.one (.vp 1 0)),(3,ouV (aBx f s o (Z.take j))),(17,.one (.c (.sl 10 (aR ks)))),(18,I .i64 ((aR ks).length:Int)),(19,I .i64 i),(24,bI Z),(25,I .i64 ((Z.map bL).length:Int)),(26,I .i64 j)] [(500,ouO (aBx f s o (Z.take j))),(1,.var 34 (b8 (.mk f n s t ks bs al)))]) (fun j=>j≤Z.length) (fun j=>Z.length-j) 0 (Aj _) sl ?_));intro j hj;refine sg rfl (a8 (aA rfl (fun hb=>?_) (fun hb=>?_)))
  ·have hlj:=ltD hb hkf;obtain⟨x,hx⟩:=aJ hlj;have hx':=bO bL hx;have aa:=aI7 (f:=f) (s:=s) (o:=o) hx;have hpl:=aEm f s (Z.take j) o;rw[Aq] at hpl;generalize aBx f s o (Z.take j)=q at aa hpl ⊢;have hmq:=vM q [x] (by simp;omega);refine aD (a8 (aB (sgh [(0,.row j (bL x))] rfl (a8 (agF 4 [] rfl rfl rfl (aA rfl (fun hb=>?_) (fun hb=>?_)))))))
   ·have hb':¬f=7∨¬x=s:=by
     by_cases h7:f=7
     ·refine .inr fun hxs=>?_
      subst h7 hxs;have hb2:(bif !decide ((7:Int)=7) then true else !decide (x=x))=true:=hb;simp at hb2
     ·exact .inl h7
    rw[nI,ξ hb'] at aa;refine aE mixed (ak 3 [(2,.all)] rfl (kc hmq ?_));refine kz 1 rfl (ag [] rfl ⟨j+1,hlj,by dsimp only;omega,?_⟩);dsimp only;rw[aa];exact sl
   ·have hb':¬(¬f=7∨¬x=s):=by
     intro h;by_cases h7:f=7
     ·have hxs:=h.resolve_left (fun h=>h h7);subst h7;simp at hb;exact hxs hb.2
     ·simp at hb;exact h7 hb.1
    rw[nI,φ hb'] at aa;refine aD (ag [] rfl ⟨j+1,hlj,by dsimp only;omega,?_⟩);dsimp only;rw[aa];exact sl
  have W:=geD hb hkf hj;subst W;rw[As];refine aL (ag [] rfl ⟨i+1,N,by dsimp only;omega,?_⟩);dsimp only;rw[J];exact sl
 have W:=geD hb hkK hi;subst W;rw[As] at hl1 ⊢;generalize oU f s ks o0=Y at hl1 O ⊢;refine aL (a8 (sg rfl (aB (aK (fun i:Nat=>mk [(1,.one (.vp 1 0)),(3,ouV (mX (bs.take i) Y)),(46,.one (.c (.sl 15 (aU bs)))),(47,I .i64 ((aU bs).length:Int)),(48,I .i64 i)] [(500,ouO (mX (bs.take i) Y)),(1,.var 34 (b8 (.mk f n s t ks bs al)))]) (fun i=>i≤bs.length) (fun i=>bs.length-i) 0 (Aj _) sl ?_))));intro i hi;have hl3:(mX (bs.take i) Y).length≤400000000:=le_trans (aEd bs Y i) (le_trans (aEh al _) O);refine sg rfl (a8 (aA rfl (fun hb=>?_) (fun hb=>?_)))
 ·have N:=ltD hb hkB;obtain⟨b,hbi⟩:=aJ N;have hbi':=dC hbi;have hm:=Ab hbi;have hbm:=aEj hm;have hc:=ih b.body (ihb b hm) (by have:=ihb b hm;omega) (by omega);have J:=aEe (o:=Y) hbi;obtain⟨s',t',c'⟩:=b;have hbm:fw t'≤aI3 bs∧tyM c'≤aI3 bs:=hbm;have hc:aQ Tryz.prog 76 [.pa (aC c')] [] (bI (tyR c')) []:=hc;have J:mX (bs.take (i+1)) Y=n2 (n2 (mX (bs.take i) Y) (tfR t')) (tyR c'):=J;have hf':=aGs t' (by omega);have g1:=aZr t';have g2:(tyR c').length≤400000000:=by have:=aI5 c';omega
  generalize mX (bs.take i) Y=o at J hl3 ⊢;have g3:=rA o (tfR t');have m1:=vM o (tfR t') (by omega);have m2:=vM (n2 o (tfR t')) (tyR c') (by omega);refine aD (a8 (aB (sgh [(0,.row i (bJ (.mk s' t' c')))] rfl (aE mixed (ak 3 [] rfl (kc hf' ?_))))));refine kc m1 ?_;refine ak 2 [] rfl (kc hc ?_);refine kc m2 ?_;refine kz 1 rfl (ag [] rfl ⟨i+1,N,by dsimp only;omega,?_⟩);dsimp only;rw[J];exact sl
 have W:=geD hb hkB hi;subst W;rw[As] at hl3 ⊢;generalize mX bs Y=o2 at hl3 O ⊢;refine aL (a8 (sg rfl (aB (aK (fun i:Nat=>mk [(3,ouV (nF (al.take i) o2)),(63,.one (.c (.sl 14 (c9 al)))),(64,I .i64 ((c9 al).length:Int)),(65,I .i64 i)] [(500,ouO (nF (al.take i) o2))]) (fun i=>i≤al.length) (fun i=>al.length-i) 0 (Aj _) sl ?_))));intro i hi;have hl5:(nF (al.take i) o2).length≤400000000:=le_trans (aEf al o2 i) O;refine sg rfl (a8 (aA rfl (fun hb=>?_) (fun hb=>?_)))
 ·have N:=ltD hb hkA;obtain⟨a,hai⟩:=aJ N;have hai':=pL hai;have hm:=Ab hai;have ham:=aEk hm;have hc:=ih a.body (iha a hm) (by have:=iha a hm;omega) (by omega);have J:=aEg (o:=o2) hai;obtain⟨f',n',s',v',c'⟩:=a;have ham:tyM c'≤aPb al:=ham;have hc:aQ Tryz.prog 76 [.pa (aC c')] [] (bI (tyR c')) []:=hc;have J:nF (al.take (i+1)) o2=n2 (nF (al.take i) o2) (tyR c'):=J;have g2:(tyR c').length≤400000000:=by have:=aI5 c';omega
  generalize nF (al.take i) o2=o at J hl5 ⊢;have m2:=vM o (tyR c') (by omega);refine aD (a8 (aB (sgh [(0,.row i (c6 (.mk f' n' s' v' c')))] rfl (aE mixed (ak 3 [] rfl (kc hc ?_))))));refine kc m2 ?_;refine kz 1 rfl (ag [] rfl ⟨i+1,N,by dsimp only;omega,?_⟩);dsimp only;rw[J];exact sl
 have W:=geD hb hkA hi;subst W;rw[As] at hl5 ⊢;refine aL (AWp.sub (Sub.freeze (id:=500) rfl) ?_);exact sg rfl (aF (rtT (hc:=hs_all rfl rfl (by simp) rfl)))
theorem aAy:∀(n:Nat) (c:Core),bE c≤n→aDv c
 | 0,c,h=>by have:=cD c;omega
 | n+1,c,h=>y9 c fun x hx=>aAy n x (by omega)
mutual
noncomputable def bP:Ty→List (Str×Ty)→Ty
 | .mk f n s a,ps=>
  if f=2 then(match ps.find? (fun p=>decide (p.1=s)) with | some p=>p.2 | none=>.mk f n s a)
  else if f=4 then .mk 4 0 [] (dX a ps)
  else if f=5 then .mk 5 0 (unN s (a.headD zTy) ps) (dX a (unP s (a.headD zTy) ps))
  else .mk f n s a
noncomputable def dX:List Ty→List (Str×Ty)→List Ty
 | [],_=>[]
 | t::l,ps=>bP t ps::dX l ps
end
structure PsOk (ps:List (Str×Ty)):Prop where
 nd:(ps.map (·.1)).Nodup
 ok:∀p∈ps,wfS p.2=true∧fvm p.2≤700000
 len:ps.length≤700000+1
theorem aC9:∀{ps:List (Str×Ty)}{s:Str}{u:Ty},(ps.map (·.1)).Nodup→(s,u)∈ps→ps.find? (fun p=>decide (p.1=s))=some (s,u)
 | p::ps,s,u,hn,h=>by
  rw[Al,Bv] at hn;rcases Ai.1 h with h | h
  ·subst h;rw[Ch (by simp)]
  ·have:¬p.1=s:=fun e=>hn.1 (Af.2 ⟨_,h,e.symm⟩)
   rw[Ci (by simpa using this)];exact aC9 hn.2 h
theorem oF {ps:List (Str×Ty)}{s:Str}(h:¬s∈ps.map (·.1)):ps.find? (fun p=>decide (p.1=s))=none:=by
 rw[List.find?_eq_none];intro p hp hb;exact h (Af.2 ⟨p,hp,by simpa using hb⟩)
theorem fK:∀(a b:List Str),a.Nodup→(∀x∈a,x∈b)→a.length≤b.length:=by
 intro a
 induction a with
 | nil=>intro b _ _;simp
 | cons x a I=>
  intro b hn hs;rw[Bv] at hn;have h1:=I (b.erase x) hn.2 fun y q=>(List.mem_erase_of_ne (by rintro rfl;exact hn.1 q)).2 (hs y (ω _ q))
  have hx:=hs x η;rw[List.length_erase_of_mem hx] at h1;have:=List.length_pos_of_mem hx;rw[Ak];omega
theorem aR8 {nm:Str}{body:Ty}{ps:List (Str×Ty)}(h:(ps.map (·.1)).Nodup):((unF nm body ps).map (·.1)).Nodup:=List.Sublist.nodup ((List.filter_sublist (l:=ps)).map _) h
theorem iN {nm:Str}{body:Ty}{ps:List (Str×Ty)}{p:Str×Ty}:p∈unF nm body ps↔p∈ps∧¬p.1=nm∧p.1∈tfR body:=by
 unfold unF;rw[mem_filter,Ac];simp
theorem aBv {nm:Str}{body:Ty}{ps:List (Str×Ty)}(h:(ps.map (·.1)).Nodup):(unF nm body ps).length≤(tfR body).length:=by
 have:=fK _ (tfR body) (aR8 (nm:=nm) (body:=body) h) fun x hx=>by
  obtain⟨p,hp,rfl⟩:=Af.1 hx;exact(iN.1 hp).2.2
 rwa [θ] at this
theorem qV:∀{l:List (Str×Ty)},(∀p∈l,fvm p.2≤700000)→(unC l).length≤l.length*700000
 | [],_=>by simp[unC]
 | p::l,h=>by
  have h1:=qV (l:=l) fun q I=>h q (ω _ I)
  have h2:=h p η;have h3:=oB p.2;unfold unC at h1 ⊢;rw[Cj,τ,Ak,Nat.succ_mul];omega
theorem pI {n:Int}{z:Str}:fvm (.mk 2 n z [])=1:=by
 rw[fvm,tfR,ξ rfl,yM];rfl
theorem aBs {n:Int}{z:Str}:wfS (.mk 2 n z [])=true:=by
 rw[wfS,φ (by decide),φ (by decide),wC];rfl
theorem PsOk.un {ps:List (Str×Ty)}(h:PsOk ps) (nm:Str) (body:Ty) (hb:fvm body≤700000):PsOk (unP nm body ps):=by
 have h1:=aR8 (nm:=nm) (body:=body) h.nd;have h2:=aBv (nm:=nm) (body:=body) h.nd;have h3:=oB body;have h4:∀p∈unF nm body ps,wfS p.2=true∧fvm p.2≤700000:=fun p hp=>h.ok p (iN.1 hp).1
 unfold unP;split
 ·refine⟨?_,fun p hp=>?_,by rw[τ];show _+1≤_;omega⟩
  ·rw[A4,Cg];refine⟨h1,by simp,fun x hx y q=>?_⟩;have q:y=nm:=by simpa using q
   obtain⟨p,hp,rfl⟩:=Af.1 hx;rw[q];exact(iN.1 hp).2.1
  ·rcases δ.1 hp with hp | hp
   ·exact h4 p hp
   ·rw[ζ.1 hp];exact⟨aBs,by show fvm (.mk 2 0 _ [])≤_;rw[pI];decide⟩
 ·exact⟨h1,h4,by omega⟩
theorem jG (hI:dA 540000000000):∀(k:Nat) (t:Ty),tn t≤k→wfS t=true→fvm t≤700000→∀ps,PsOk ps→wfS (bP t ps)=true∧aQ Tryz.prog 28 [tyV t,bI (ps.map (·.1)),aR9 (ps.map (·.2))] [] (tyV (bP t ps)) []:=by
 intro k
 induction k with
 | zero=>intro t h;have:=kF t;omega
 | succ k ih=>
 intro t h hw hf ps q;obtain⟨f,n,s,a⟩:=t;have J:=kC (tn (.mk f n s a)) (.mk f n s a) (le_refl _) hw;obtain⟨_,O,w4,w5,w0⟩:=nH hw;have W:∀u∈a,fvm u≤700000:=fun u hu=>le_trans (xL hu) hf
 rw[tn] at h;rw[bP];by_cases h2:f=2
 ·subst h2;rw[ξ rfl];have I:=aNn (ps.map (·.1)) s (by rw[θ];have:=q.len;omega);rcases vH s (ps.map (·.1)) 0 with⟨i,e1,Z⟩ | ⟨e1,Z⟩
  ·rw[Bg] at Z;obtain⟨⟨s',u⟩,hu,e3⟩:=B5.1 Z;have e3:s'=s:=e3;subst e3;have hm:=Ab hu;have hu':((ps.map (·.2)).map aO)[i]?=some (aO u):=bO aO (by rw[Bg,hu];rfl);obtain⟨g2,g3⟩:=q.ok _ hm;have ho:=kC (tn u) u (le_refl _) g2;rw[e1,Int.zero_add] at I;rw[aC9 q.nd hm];refine⟨g2,?_⟩;dsimp only;refine bM (n:=48) tok Tryz.func28 rfl rfl rfl ?_;refine sg rfl (a8 (sg rfl (aB (sg rfl (aA rfl (fun _=>sk 3 rfl (kc I ?_)) nofun)))));refine kz 1 rfl (sg rfl (aA rfl (fun _=>skh 4 [(2,.row i (aO u))] rfl (kc ho ?_)) (fun hb=>absurd (χ hb) (by omega))));exact kz 1 rfl (aF (rtC trw))
  ·rw[Z] at I;rw[oF e1];refine⟨hw,?_⟩;dsimp only;refine bM (n:=48) tok Tryz.func28 rfl rfl rfl ?_;refine sg rfl (a8 (sg rfl (aB (sg rfl (aA rfl (fun _=>sk 3 rfl (kc I ?_)) nofun)))));refine kz 1 rfl (sg rfl (aA rfl (fun hb=>absurd (ψ hb) (by omega)) (fun _=>aD (sk 1 rfl (kc J ?_)))));exact kz 1 rfl (aF (rtC trw))
 rw[φ h2];by_cases h4:f=4
 ·subst h4;obtain⟨rfl,rfl,u,v,rfl⟩:=w4 rfl;rw[tns,tns,tns] at h;obtain⟨a1,a4⟩:=ih u (by omega) (O u (by simp)) (W u (by simp)) ps q;obtain⟨b1,b4⟩:=ih v (by omega) (O v (by simp)) (W v (by simp)) ps q;rw[ξ rfl,dX,dX,dX];have cA:=y1 (bP u ps) (bP v ps);generalize bP u ps=u' at *;generalize bP v ps=v' at *;have cA:aQ Tryz.prog 65 [tyV u',tyV v'] [] (tyV (.mk 4 0 [] [u',v'])) []:=cA;refine⟨?_,?_⟩
  ·rw[wfS,ξ rfl,wC,wC,wC,a1,b1];rfl
  ·refine bM (n:=48) tok Tryz.func28 rfl rfl rfl ?_;refine sg rfl (a8 (sg rfl (aB (sg rfl (aA rfl nofun (fun _=>sg rfl (aA rfl (fun _=>skh 6 [(2,.row 0 (aO u))] rfl (kc a4 ?_)) nofun)))))));refine ak 6 [(9,.row 1 (aO v))] rfl (kc b4 ?_);refine kc cA ?_;exact kz 1 rfl (aF (rtC trw))
 rw[φ h4];by_cases h5:f=5
 ·subst h5;obtain⟨rfl,body,rfl⟩:=w5 rfl;rw[tns,tns] at h;have hwb:=O body (by simp);have Y:=W body (by simp);have hP:=q.un s body Y;obtain⟨a1,a4⟩:=ih body (by omega) hwb Y (unP s body ps) hP;rw[ξ rfl];show wfS (.mk 5 0 (unN s body ps) (dX [body] (unP s body ps)))=true∧aQ Tryz.prog _ _ _ (tyV (.mk 5 0 (unN s body ps) (dX [body] (unP s body ps)))) _;rw[dX,dX];have hall:=aNb (unN s body ps) (bP body (unP s body ps)) (kC _ _ (le_refl _) a1);have hfl:=oB body;have hCl:∀l:List (Str×Ty),(∀p∈l,p∈ps)→l.length≤ps.length→(unC (unF s body l)).length≤540000000000:=fun l h1 h2=>by
   have h3:=qV (l:=unF s body l) fun p hp=>(q.ok p (h1 p (iN.1 hp).1)).2
   have h4:(unF s body l).length≤l.length:=length_filter_le _ _;have h5:=q.len;have h6:(unF s body l).length*700000≤(700000+1)*700000:=Av _ (by omega);have h7:(700000+1)*700000≤540000000000:=by decide
   omega
  have hC1:=hCl ps (fun p hp=>hp) (le_refl _);have hU:(unC (unF s body ps)).length+(tfR body).length≤540000000000:=by
   have h3:=qV (l:=unF s body ps) fun p hp=>(q.ok p (iN.1 hp).1).2
   have h4:=aBv (nm:=s) (body:=body) q.nd;have h6:(unF s body ps).length*700000≤700000*700000:=Av _ (by omega);have h7:700000*700000=490000000000:=by decide
   omega
  have cU:=aRb s body (bP body (unP s body ps)) ps (by have:=q.len;omega) (oL _ body (le_refl _) hwb (le_trans Y (by decide))) (by omega) hall
   (fun p hp=>⟨oL _ p.2 (le_refl _) (q.ok p hp).1 (le_trans (q.ok p hp).2 (by decide)),le_trans (oB p.2) (le_trans (q.ok p hp).2 (by decide))⟩)
   ⟨hC1,fun i=>hCl (ps.take i) (fun p hp=>Bx hp) (by rw[Aq];omega)⟩ (fun k hk=>hI k (by omega)) a4
  generalize bP body (unP s body ps)=b' at *;generalize unN s body ps=N at *;refine⟨?_,?_⟩
  ·rw[wfS,φ (by decide),ξ rfl,wC,wC,a1];rfl
  ·refine bM (n:=48) tok Tryz.func28 rfl rfl rfl ?_;refine sg rfl (a8 (sg rfl (aB (sg rfl (aA rfl nofun (fun _=>sg rfl (aA rfl nofun (fun _=>sg rfl (aA rfl (fun _=>sk 3 rfl (kc cU ?_)) nofun)))))))));exact kz 1 rfl (aF (rtC trw))
 rw[φ h5];refine⟨hw,?_⟩;refine bM (n:=48) tok Tryz.func28 rfl rfl rfl ?_;refine sg rfl (a8 (sg rfl (aB (sg rfl (aA rfl (fun hb=>absurd (ψ hb) h2) (fun _=>sg rfl (aA rfl (fun hb=>absurd (ψ hb) h4) (fun _=>sg rfl (aA rfl (fun hb=>absurd (ψ hb) h5) (fun _=>aD (sk 1 rfl (kc J ?_))))))))))));exact kz 1 rfl (aF (rtC trw))
theorem aO9 {nm:Str}{body:Ty}{ps:List (Str×Ty)}(h:∀p∈ps,p.1∈tfR body→p.1=nm):unN nm body ps=nm∧unP nm body ps=[]:=by
 have q:unF nm body ps=[]:=by
  unfold unF;rw[List.filter_eq_nil_iff];intro p hp hb;rw[Ac] at hb;have h1:¬p.1=nm:=by simpa using hb.1
  exact h1 (h p hp (ψ hb.2))
 have I:unC (unF nm body ps)=[]:=by rw[q];rfl
 exact⟨by unfold unN;rw[I,φ (by simp)],by unfold unP;rw[I,φ (by simp),q]⟩
theorem wD:∀(k:Nat) (t:Ty),tn t≤k→wfS t=true→∀ps:List (Str×Ty),(∀p∈ps,¬p.1∈tfR t)→bP t ps=t:=by
 intro k
 induction k with
 | zero=>intro t h;have:=kF t;omega
 | succ k J=>
 intro t h hw ps hp;obtain⟨f,n,s,a⟩:=t;obtain⟨_,I,O,W,w0⟩:=nH hw;rw[tn] at h;rw[bP];by_cases h2:f=2
 ·subst h2
  rw[ξ rfl,oF fun hs=>by
   obtain⟨p,q,e⟩:=Af.1 hs
   exact hp p q (by rw[tfR,ξ rfl,e];simp)]
 rw[φ h2];by_cases h4:f=4
 ·subst h4;obtain⟨rfl,rfl,u,v,rfl⟩:=O rfl;rw[tns,tns,tns] at h;rw[ξ rfl,dX,dX,dX,J u (by omega) (I u (by simp)) ps fun p q hx=>hp p q (aT5 hx),J v (by omega) (I v (by simp)) ps fun p q hx=>hp p q (aT4 hx)]
 rw[φ h4];by_cases h5:f=5
 ·subst h5;obtain⟨rfl,body,rfl⟩:=W rfl;rw[tns,tns] at h;obtain⟨Y,Z⟩:=aO9 (nm:=s) (body:=body) (ps:=ps) fun p q hx=>Classical.byContradiction fun N=>hp p q (aXq hx N)
  rw[ξ rfl];show Ty.mk 5 0 (unN s body ps) (dX [body] (unP s body ps))=_;rw[Y,Z,dX,dX,J body (by omega) (I body (by simp)) [] fun p q=>by cases q]
 rw[φ h5]
theorem aM6 (q:dA 540000000000) (t:Ty) (hw:wfS t=true) (hf:fvm t≤700000):aQ Tryz.prog 80 [tyV t] [] (tyV t) []:=by
 have h4:=(jG q (tn t) t (le_refl _) hw hf [] ⟨by simp,fun p hp=>(by cases hp),by simp⟩).2
 rw[wD (tn t) t (le_refl _) hw [] fun p hp=>by cases hp] at h4;refine bM (n:=5) tok Tryz.func80 rfl rfl rfl ?_;refine sg rfl (sk 1 rfl (kc h4 ?_));exact kz 1 rfl (aF (rtC trw))
theorem aJm {f:Int}{s:Str}{o:List Str}{x y:Str}(h:y∈hJ f s o x):y∈o∨(y=x∧(¬f=5∨¬x=s)):=by
 unfold hJ at h;split at h
 ·rename_i hx;rcases δ.1 h with h | h
  ·exact .inl h
  ·exact .inr ⟨ζ.1 h,hx.2⟩
 ·exact .inl h
theorem aEw {f:Int}{s:Str}:∀{l o:List Str}{y:Str},y∈uG f s o l→y∈o∨(y∈l∧(¬f=5∨¬y=s))
 | [],_,_,h=>.inl h
 | x::l,o,y,h=>by
  rcases aEw (l:=l) (o:=hJ f s o x) h with h | ⟨h,hs⟩
  ·rcases aJm h with h | ⟨rfl,hs⟩
   ·exact .inl h
   ·exact .inr ⟨η,hs⟩
  ·exact .inr ⟨ω _ h,hs⟩
theorem aEv {f:Int}{s:Str}:∀{l:List Ty}{o:List Str}{y:Str},y∈oY f s l o→y∈o∨∃u∈l,y∈tfR u∧(¬f=5∨¬y=s)
 | [],o,y,h=>by rw[oY] at h;exact .inl h
 | t::l,o,y,h=>by
  rw[oY] at h;rcases aEv h with h | ⟨u,hu,h⟩
  ·rcases aEw h with h | ⟨h,hs⟩
   ·exact .inl h
   ·exact .inr ⟨t,η,h,hs⟩
  ·exact .inr ⟨u,ω _ hu,h⟩
theorem aEt {f:Int}{s:Str}:∀{l:List Ty}{o:List Str}{y:Str},y∈o→y∈oY f s l o
 | [],o,y,h=>by rw[oY];exact h
 | t::l,o,y,h=>by rw[oY];exact aEt (qZ h)
theorem aEu {f:Int}{s:Str}:∀{l:List Ty}{o:List Str}{u:Ty}{y:Str},u∈l→y∈tfR u→(¬f=5∨¬y=s)→y∈oY f s l o
 | t::l,o,u,y,h,q,hs=>by
  rw[oY];rcases Ai.1 h with rfl | h
  ·exact aEt (nK q hs)
  ·exact aEu h q hs
theorem qB {f n:Int}{s:Str}{a:List Ty}{y:Str}(h2:¬f=2) (h:y∈tfR (.mk f n s a)):∃u∈a,y∈tfR u∧(¬f=5∨¬y=s):=by
 rw[tfR,φ h2] at h;rcases aEv h with h | h
 ·cases h
 ·exact h
theorem oX {f n:Int}{s:Str}{a:List Ty}{u:Ty}{y:Str}(h2:¬f=2) (hu:u∈a) (q:y∈tfR u) (hs:¬f=5∨¬y=s):y∈tfR (.mk f n s a):=by
 rw[tfR,φ h2];exact aEu hu q hs
theorem aPe {f:Int}{s:Str}{o:List Str}{x:Str}(h:o.Nodup):(hJ f s o x).Nodup:=by
 unfold hJ;split
 ·rename_i hx;rw[Cg];exact⟨h,by simp,fun a ha b hb e=>by rw[ζ.1 hb] at e;subst e;exact hx.1 ha⟩
 ·exact h
theorem aJp {f:Int}{s:Str}:∀{l o:List Str},o.Nodup→(uG f s o l).Nodup
 | [],_,h=>h
 | x::l,o,h=>aJp (l:=l) (o:=hJ f s o x) (aPe h)
theorem aJj {f:Int}{s:Str}:∀{l:List Ty}{o:List Str},o.Nodup→(oY f s l o).Nodup
 | [],o,h=>by rw[oY];exact h
 | t::l,o,h=>by rw[oY];exact aJj (aJp h)
theorem wE (t:Ty):(tfR t).Nodup:=by
 obtain⟨f,n,s,a⟩:=t;rw[tfR];split
 ·simp
 ·exact aJj nodup_nil
theorem mG (l:List Str):¬b9 l∈l:=pJ l
theorem aBw {l:List (Str×Ty)}{x:Str}:x∈unC l↔∃p∈l,x∈tfR p.2:=by
 unfold unC;rw[mem_flatMap]
theorem aJe:∀(k:Nat) (t:Ty),tn t≤k→wfS t=true→∀(ps:List (Str×Ty)) (x:Str),x∈tfR (bP t ps)→(x∈tfR t∧¬x∈ps.map (·.1))∨∃p∈ps,p.1∈tfR t∧x∈tfR p.2:=by
 intro k
 induction k with
 | zero=>intro t h;have:=kF t;omega
 | succ k ih=>
 intro t h hw ps x hx;obtain⟨f,n,s,a⟩:=t;obtain⟨_,Y,w4,w5,w0⟩:=nH hw;rw[tn] at h;rw[bP] at hx;by_cases h2:f=2
 ·subst h2;rw[ξ rfl] at hx;have hs:s∈tfR (.mk 2 n s a):=by rw[tfR,ξ rfl];simp
  cases J:ps.find? (fun p=>decide (p.1=s)) with
  | some p=>
   rw[J] at hx;have h1:p.1=s:=by simpa using List.find?_some J
   exact .inr ⟨p,List.mem_of_find?_eq_some J,by rw[h1];exact hs,hx⟩
  | none=>
   rw[J] at hx;refine .inl ⟨hx,fun hm=>?_⟩;have O:x=s:=by
    have hx:x∈tfR (.mk 2 n s a):=hx;rw[tfR,ξ rfl] at hx;simpa using hx
   obtain⟨p,hp,e⟩:=Af.1 hm;have:=List.find?_eq_none.1 J p hp;rw[e,O] at this;simp at this
 rw[φ h2] at hx;by_cases h4:f=4
 ·subst h4;obtain⟨rfl,rfl,u,v,rfl⟩:=w4 rfl;rw[tns,tns,tns] at h;rw[ξ rfl,dX,dX,dX] at hx;obtain⟨w,N,q,_⟩:=qB (by decide) hx;have key:∀W,W∈[u,v]→x∈tfR (bP W ps)→tn W≤k→(x∈tfR (.mk 4 0 [] [u,v])∧¬x∈ps.map (·.1))∨∃p∈ps,p.1∈tfR (.mk 4 0 [] [u,v])∧x∈tfR p.2:=fun W Z hxu hk=>by
   rcases ih W hk (Y W Z) ps x hxu with⟨h1,h2⟩ | ⟨p,hp,h1,h2⟩
   ·exact .inl ⟨oX (by decide) Z h1 (.inl (by decide)),h2⟩
   ·exact .inr ⟨p,hp,oX (by decide) Z h1 (.inl (by decide)),h2⟩
  rcases Ai.1 N with rfl | N
  ·exact key u (by simp) q (by omega)
  ·rw[ζ.1 N] at q;exact key v (by simp) q (by omega)
 rw[φ h4] at hx;by_cases h5:f=5
 ·subst h5;obtain⟨rfl,body,rfl⟩:=w5 rfl;rw[tns,tns] at h;rw[ξ rfl] at hx;have hx:x∈tfR (.mk 5 0 (unN s body ps) (dX [body] (unP s body ps))):=hx;rw[dX,dX] at hx;obtain⟨w,N,q,I⟩:=qB (by decide) hx;rw[ζ.1 N] at q;have I:¬x=unN s body ps:=I.resolve_left (fun h=>h rfl);by_cases hc:s∈unC (unF s body ps)
  ·have eN:unN s body ps=b9 (unC (unF s body ps)++tfR body):=by unfold unN;rw[ξ hc]
   have eP:unP s body ps=unF s body ps++[(s,.mk 2 0 (unN s body ps) [])]:=by unfold unP;rw[ξ hc]
   rcases ih body (by omega) (Y body (by simp)) (unP s body ps) x q with⟨h1,h2⟩ | ⟨p,hp,h1,h2⟩
   ·rw[eP] at h2;have O:¬x=s:=fun e=>h2 (by rw[e];simp)
    refine .inl ⟨oX (by decide) η h1 (.inr O),fun hm=>h2 ?_⟩;obtain⟨p,hp,e⟩:=Af.1 hm;rw[A4];exact δ.2 (.inl (Af.2 ⟨p,iN.2 ⟨hp,by rw[e];exact O,by rw[e];exact h1⟩,e⟩))
   ·rw[eP] at hp;rcases δ.1 hp with hp | hp
    ·obtain⟨g1,g2,g3⟩:=iN.1 hp;exact .inr ⟨p,g1,oX (by decide) η g3 (.inr g2),h2⟩
    ·rw[ζ.1 hp] at h2;have h2:x∈tfR (.mk 2 0 (unN s body ps) []):=h2;rw[tfR,ξ rfl] at h2;exact absurd (ζ.1 h2) I
  ·have eN:unN s body ps=s:=by unfold unN;rw[φ hc]
   have eP:unP s body ps=unF s body ps:=by unfold unP;rw[φ hc]
   rw[eN] at I;rcases ih body (by omega) (Y body (by simp)) (unP s body ps) x q with⟨h1,h2⟩ | ⟨p,hp,h1,h2⟩
   ·rw[eP] at h2;refine .inl ⟨oX (by decide) η h1 (.inr I),fun hm=>h2 ?_⟩;obtain⟨p,hp,e⟩:=Af.1 hm;exact Af.2 ⟨p,iN.2 ⟨hp,by rw[e];exact I,by rw[e];exact h1⟩,e⟩
   ·rw[eP] at hp;obtain⟨g1,g2,g3⟩:=iN.1 hp;exact .inr ⟨p,g1,oX (by decide) η g3 (.inr g2),h2⟩
 rw[φ h5] at hx;rw[w0 h4 h5] at hx;obtain⟨u,hu,_⟩:=qB h2 hx;cases hu
structure Alg where
 z:Nat
 j:Nat→Nat→Nat
 u:Str→Nat→Nat
 b:Str→Nat→Nat
 jm:∀{x x' y y':Nat},x≤x'→y≤y'→j x y≤j x' y'
 um:∀{s:Str} {x x':Nat},x≤x'→u s x≤u s x'
 bm:∀{s:Str} {x x':Nat},x≤x'→b s x≤b s x'
 ul:∀{s s':Str} {x:Nat},s.length≤30→u s x≤u s' x
def fY (ρ:Str→Nat) (s:Str) (v:Nat):Str→Nat:=fun x=>if x=s then v else ρ x
mutual
def tW (A:Alg):Ty→(Str→Nat)→Nat
 | .mk f _ s a,ρ=>if f=2 then ρ s else if f=5 then A.u s (tWs A a (fY ρ s A.z)) else A.b s (tWs A a ρ)
def tWs (A:Alg):List Ty→(Str→Nat)→Nat
 | [],_=>0
 | t::l,ρ=>A.j (tW A t ρ) (tWs A l ρ)
end
theorem rR {A:Alg}:∀{l:List Ty}{ρ ρ':Str→Nat},(∀u∈l,tW A u ρ=tW A u ρ')→tWs A l ρ=tWs A l ρ'
 | [],_,_,_=>by rw[tWs,tWs]
 | t::l,ρ,ρ',h=>by rw[tWs,tWs,h t η,rR fun u hu=>h u (ω _ hu)]
theorem iI {A:Alg}:∀(k:Nat) (t:Ty),tn t≤k→∀{ρ ρ':Str→Nat},(∀x∈tfR t,ρ x=ρ' x)→tW A t ρ=tW A t ρ'
 | 0,t,h,_,_,_=>by have:=kF t;omega
 | k+1,.mk f n s a,h,ρ,ρ',hx=>by
  rw[tn] at h;rw[tW,tW];by_cases h2:f=2
  ·rw[ξ h2,ξ h2];exact hx s (by rw[tfR,ξ h2];simp)
  rw[φ h2,φ h2];by_cases h5:f=5
  ·rw[ξ h5,ξ h5,rR fun u hu=>iI k u (by have:=kQ hu;omega) fun x q=>?_];unfold fY;by_cases e:x=s
   ·rw[ξ e,ξ e]
   ·rw[φ e,φ e];exact hx x (oX h2 hu q (.inr e))
  ·rw[φ h5,φ h5,rR fun u hu=>iI k u (by have:=kQ hu;omega) fun x q=>hx x (oX h2 hu q (.inl h5))]
mutual
theorem aB7 {A:Alg}:∀(t:Ty) {ρ ρ':Str→Nat},(∀x,ρ x≤ρ' x)→tW A t ρ≤tW A t ρ'
 | .mk f n s a,ρ,ρ',h=>by
  rw[tW,tW];split
  ·exact h s
  ·split
   ·refine A.um (wF a fun x=>?_);unfold fY;split
    ·exact le_refl _
    ·exact h x
   ·exact A.bm (wF a h)
theorem wF {A:Alg}:∀(l:List Ty) {ρ ρ':Str→Nat},(∀x,ρ x≤ρ' x)→tWs A l ρ≤tWs A l ρ'
 | [],_,_,_=>by rw[tWs];exact Aj _
 | t::l,ρ,ρ',h=>by rw[tWs,tWs];exact A.jm (aB7 t h) (wF l h)
end
def aJ9 (A:Alg) (ρ:Str→Nat) (ps:List (Str×Ty)):Str→Nat:=fun x=>match ps.find? (fun p=>decide (p.1=x)) with | some p=>tW A p.2 ρ | none=>ρ x
theorem sR {nm:Str}{body:Ty}{x:Str}(hx:¬x=nm) (hb:x∈tfR body):∀ps:List (Str×Ty),(unF nm body ps).find? (fun p=>decide (p.1=x))=ps.find? (fun p=>decide (p.1=x))
 | []=>rfl
 | p::ps=>by
  have q:=sR hx hb ps;by_cases e:p.1=x
  ·have hk:(!decide (p.1=nm)&&decide (p.1∈tfR body))=true:=by rw[e,Am hx,Ah hb];rfl
   unfold unF;rw[List.filter_cons_of_pos (p:=fun p:Str×Ty=>!decide (p.1=nm)&&decide (p.1∈tfR body)) hk,Ch (by simpa using e),Ch (by simpa using e)]
  ·rw[Ci (by simpa using e),←q];unfold unF;rw[Ck];split
   ·rw[Ci (by simpa using e)]
   ·rfl
theorem pK (l:List Str) (h:l.length≤540000000000):(b9 l).length≤30:=le_trans (jP l h) (by decide)
theorem PsOk.unl {ps:List (Str×Ty)}(h:PsOk ps) {nm:Str}{body:Ty}(hb:fvm body≤700000):(unC (unF nm body ps)++tfR body).length≤540000000000:=by
 have h3:=qV (l:=unF nm body ps) fun p hp=>(h.ok p (iN.1 hp).1).2
 have h4:=aBv (nm:=nm) (body:=body) h.nd;have h5:=oB body;have q:(unF nm body ps).length*700000≤700000*700000:=Av _ (by omega);rw[τ];omega
theorem aXm (A:Alg):∀(k:Nat) (t:Ty),tn t≤k→wfS t=true→fvm t≤700000→∀(ps:List (Str×Ty)),PsOk ps→∀ρ,tW A (bP t ps) ρ≤tW A t (aJ9 A ρ ps):=by
 intro k
 induction k with
 | zero=>intro t h;have:=kF t;omega
 | succ k ih=>
 intro t h hw hf ps I ρ;obtain⟨f,n,s,a⟩:=t;obtain⟨_,J,w4,w5,w0⟩:=nH hw;have N:∀u∈a,fvm u≤700000:=fun u hu=>le_trans (xL hu) hf
 rw[tn] at h;rw[bP];by_cases h2:f=2
 ·subst h2;rw[ξ rfl,tW,ξ rfl];unfold aJ9;cases ps.find? (fun p=>decide (p.1=s)) with
  | some p=>exact le_refl _
  | none=>
   show tW A (.mk 2 n s a) ρ≤_;rw[tW,ξ rfl];exact le_refl _
 rw[φ h2];by_cases h4:f=4
 ·subst h4;obtain⟨rfl,rfl,u,v,rfl⟩:=w4 rfl;rw[tns,tns,tns] at h;rw[ξ rfl,dX,dX,dX,tW,φ (by decide),φ (by decide),tW,φ (by decide),φ (by decide),tWs,tWs,tWs,tWs,tWs,tWs];exact A.bm (A.jm (ih u (by omega) (J u (by simp)) (N u (by simp)) ps I ρ) (A.jm (ih v (by omega) (J v (by simp)) (N v (by simp)) ps I ρ) (le_refl _)))
 rw[φ h4];by_cases h5:f=5
 ·subst h5;obtain⟨rfl,body,rfl⟩:=w5 rfl;rw[tns,tns] at h;have O:=N body (by simp);rw[ξ rfl];show tW A (.mk 5 0 (unN s body ps) (dX [body] (unP s body ps))) ρ≤_;rw[dX,dX,tW,φ (by decide),ξ rfl,tW,φ (by decide),ξ rfl,tWs,tWs,tWs,tWs];have hi:=ih body (by omega) (J body (by simp)) O (unP s body ps) (I.un s body O) (fY ρ (unN s body ps) A.z);have hcg:tW A body (aJ9 A (fY ρ (unN s body ps) A.z) (unP s body ps))=tW A body (fY (aJ9 A ρ ps) s A.z):=by
   refine iI (tn body) body (le_refl _) fun x hx=>?_
   have hout:∀p∈unF s body ps,¬unN s body ps∈tfR p.2:=fun p hp hin=>by
    have hm:unN s body ps∈unC (unF s body ps):=aBw.2 ⟨p,hp,hin⟩;unfold unN at hm;split at hm
    ·exact mG _ (δ.2 (.inl hm))
    ·rename_i hc;exact hc hm
   have W:∀p∈unF s body ps,tW A p.2 (fY ρ (unN s body ps) A.z)=tW A p.2 ρ:=fun p hp=>iI (tn p.2) p.2 (le_refl _) fun y hy=>by
    unfold fY;rw[φ fun e=>hout p hp (by rw[←e];exact hy)]
   by_cases q:x=s
   ·subst q;have e2:fY (aJ9 A ρ ps) x A.z x=A.z:=by unfold fY;rw[ξ rfl]
    rw[e2];have Y:¬x∈(unF x body ps).map (·.1):=fun hm=>by
     obtain⟨p,hp,e⟩:=Af.1 hm;exact(iN.1 hp).2.1 e
    unfold aJ9;by_cases hc:x∈unC (unF x body ps)
    ·have eP:unP x body ps=unF x body ps++[(x,.mk 2 0 (unN x body ps) [])]:=by unfold unP;rw[ξ hc]
     rw[eP,List.find?_append,oF Y];show(match (none:Option (Str×Ty)).or ([(x,Ty.mk 2 0 (unN x body ps) [])].find? fun p=>decide (p.1=x)) with | some p=>tW A p.2 (fY ρ (unN x body ps) A.z) | none=>fY ρ (unN x body ps) A.z x)=A.z;rw[Ch (by simp)];show tW A (.mk 2 0 (unN x body ps) []) (fY ρ (unN x body ps) A.z)=A.z;rw[tW,ξ rfl];unfold fY;rw[ξ rfl]
    ·have eP:unP x body ps=unF x body ps:=by unfold unP;rw[φ hc]
     have eN:unN x body ps=x:=by unfold unN;rw[φ hc]
     rw[eP,oF Y,eN];unfold fY;rw[ξ rfl]
   ·have e2:fY (aJ9 A ρ ps) s A.z x=aJ9 A ρ ps x:=by unfold fY;rw[φ q]
    rw[e2];have Z:=sR (nm:=s) (body:=body) q hx ps;have hfP:(unP s body ps).find? (fun p=>decide (p.1=x))=ps.find? (fun p=>decide (p.1=x)):=by
     rw[←Z];unfold unP;split
     ·rw[List.find?_append,Ci (by simpa using fun e=>q e.symm)];cases (unF s body ps).find? (fun p=>decide (p.1=x))<;>rfl
     ·rfl
    have hNx:¬x=unN s body ps:=fun e=>by
     unfold unN at e;split at e
     ·exact mG _ (δ.2 (.inr (by rw[←e];exact hx)))
     ·exact q e
    unfold aJ9;rw[hfP];cases hfd:ps.find? (fun p=>decide (p.1=x)) with
    | some p=>
     have hp:p∈unF s body ps:=List.mem_of_find?_eq_some (Z.trans hfd);exact W p hp
    | none=>
     show fY ρ (unN s body ps) A.z x=ρ x;unfold fY;rw[φ hNx]
  rw[hcg] at hi;have hN:A.u (unN s body ps) (A.j (tW A (bP body (unP s body ps)) (fY ρ (unN s body ps) A.z)) 0)≤A.u s (A.j (tW A (bP body (unP s body ps)) (fY ρ (unN s body ps) A.z)) 0):=by
   generalize A.j (tW A (bP body (unP s body ps)) (fY ρ (unN s body ps) A.z)) 0=y;unfold unN;split
   ·exact A.ul (pK _ (I.unl O))
   ·exact le_refl _
  exact le_trans hN (A.um (A.jm hi (le_refl _)))
 rw[φ h5,tW,φ h2,φ h5,tW,φ h2,φ h5,w0 h4 h5,tWs,tWs];exact le_refl _
def jS:Alg:=⟨0,max,fun _ x=>1+x,fun _ x=>x,fun h1 h2=>by omega,fun h=>by omega,fun h=>h,fun _=>le_refl _⟩
def r0:Str→Nat:=fun _=>0
theorem aJ3 (s:Str):fY r0 s 0=r0:=by
 funext x;unfold fY r0;split<;>rfl
theorem sO:∀(k:Nat) (t:Ty),tn t≤k→wfS t=true→fvm t≤(tfR t).length+tW jS t r0
 | 0,t,h,_=>by have:=kF t;omega
 | k+1,.mk f n s a,h,hw=>by
  obtain⟨_,q,J,N,w0⟩:=nH hw;rw[tn] at h;by_cases h4:f=4
  ·subst h4;obtain⟨rfl,rfl,u,v,rfl⟩:=J rfl;rw[tns,tns,tns] at h;have h1:=sO k u (by omega) (q u (by simp));have h2:=sO k v (by omega) (q v (by simp));have e:tW jS (.mk 4 0 [] [u,v]) r0=max (tW jS u r0) (max (tW jS v r0) 0):=by rw[tW,φ (by decide),φ (by decide),tWs,tWs,tWs];rfl
   have g1:=fK _ _ (wE u) fun x hx=>oX (f:=4) (n:=0) (s:=[]) (a:=[u,v]) (by decide) (by simp) hx (.inl (by decide))
   have g2:=fK _ _ (wE v) fun x hx=>oX (f:=4) (n:=0) (s:=[]) (a:=[u,v]) (by decide) (by simp) hx (.inl (by decide))
   rw[fvm,e,yM,yM,yM];omega
  ·by_cases h5:f=5
   ·subst h5;obtain⟨rfl,body,rfl⟩:=N rfl;rw[tns,tns] at h;have h1:=sO k body (by omega) (q body (by simp));have e:tW jS (.mk 5 0 s [body]) r0=1+max (tW jS body r0) 0:=by
     rw[tW,φ (by decide),ξ rfl,tWs,tWs];show 1+max (tW jS body (fY r0 s 0)) 0=_;rw[aJ3]
    have g1:=fK _ (s::tfR (.mk 5 0 s [body])) (wE body) fun x hx=>by
     by_cases I:x=s
     ·rw[I];exact η
     ·exact ω _ (oX (by decide) (by simp) hx (.inr I))
    rw[Ak] at g1;rw[fvm,e,yM,yM];omega
   ·rw[fvm,w0 h4 h5,yM];omega
def gm (c:Core):List (List (Str×List C)×List Core):=
 ((if c.form=5 then [(c.name,(aC c).drop 3)] else [])++c.binds.map (fun b=>(b.name,(bJ b).drop 1)),c.kids++c.binds.map Bind.body)::c.alts.map fun a=>(a.vars.map (fun v=>(v,[])),[a.body])
def gmG (g:List (Str×List C)×List Core):List (List C)×List Core:=(g.1.map aIt,g.2)
theorem aQv (c:Core):gl c=(gm c).map gmG:=by
 obtain⟨f,n,s,t,ks,bs,al⟩:=c;unfold gl gm;rw[Al,Bj];congr 1
 ·unfold gmG;rw[A4,Bj];congr 2;unfold nm0;split<;>rfl
 ·congr 1;funext a;unfold gmG;simp only[Function.comp,Bj];rfl
def pfG (G:List Str) (o:List Str) (s:Str):List Str:=if s∈G then o else qR o s
def pfP (G:List Str) (o l:List Str):List Str:=l.foldl (pfG G) o
def gvN (f:Int) (s:Str) (bs:List Bind):List Str:=(if f=5 then [s] else [])++bs.map Bind.name
mutual
def pfR:Core→List Str
 | .mk f _ s _ ks bs al=>if f=1 then [s] else tU al (tL (gvN f s bs) bs (r7 (gvN f s bs) ks []))
def r7 (G:List Str):List Core→List Str→List Str
 | [],o=>o
 | c::l,o=>r7 G l (pfP G o (pfR c))
def tL (G:List Str):List Bind→List Str→List Str
 | [],o=>o
 | .mk _ _ c::l,o=>tL G l (pfP G o (pfR c))
def tU:List Alt→List Str→List Str
 | [],o=>o
 | .mk _ _ _ v c::l,o=>tU l (pfP v o (pfR c))
end
def pfL (G:List Str) (l:List Core) (o:List Str):List Str:=l.foldl (fun o c=>pfP G o (pfR c)) o
def pfM (L:List (List (Str×List C)×List Core)) (o:List Str):List Str:=L.foldl (fun o g=>pfL (g.1.map (·.1)) g.2 o) o
theorem aK2 (G:List Str):∀(l:List Core) (o:List Str),r7 G l o=pfL G l o
 | [],o=>by rw[r7];rfl
 | c::l,o=>by rw[r7,aK2 G l];rfl
theorem aK3 (G:List Str):∀(l:List Bind) (o:List Str),tL G l o=pfL G (l.map Bind.body) o
 | [],o=>by rw[tL];rfl
 | .mk s t c::l,o=>by rw[tL,aK3 G l];rfl
theorem aK4:∀(l:List Alt) (o:List Str),tU l o=pfM (l.map fun a=>(a.vars.map (fun v=>(v,[])),[a.body])) o
 | [],o=>by rw[tU];rfl
 | .mk f n s v c::l,o=>by
  rw[tU,aK4 l];have:(v.map (fun v=>((v,[]):Str×List C))).map (·.1)=v:=by rw[Bj];exact List.map_id _
  show _=pfM _ (pfL ((v.map (fun v=>((v,[]):Str×List C))).map (·.1)) [c] o);rw[this];rfl
theorem a2b (c:Core) (h:¬c.form=1):pfR c=pfM (gm c) []:=by
 obtain⟨f,n,s,t,ks,bs,al⟩:=c;have h:¬f=1:=h;rw[pfR,φ h,aK4,aK3,aK2];unfold gm;show _=pfM _ (pfL _ _ []);congr 1;unfold pfL;rw[Bu];have:gvN f s bs=(((if f=5 then [((s,(aC (.mk f n s t ks bs al)).drop 3):Str×List C)] else [])++bs.map (fun b=>(b.name,(bJ b).drop 1))).map (·.1)):=by
  unfold gvN;rw[A4,Bj];congr 1;split<;>rfl
 rw[this];rfl
theorem aUv (G o:List Str) (s:Str):(pfG G o s).length≤o.length+1:=by
 unfold pfG;split
 ·omega
 ·exact aFt o s
theorem aCw (G o:List Str):∀l:List Str,(pfP G o l).length≤o.length+l.length:=by
 intro l
 induction l generalizing o with
 | nil=>exact le_refl _
 | cons s l q=>
  have h1:=q (pfG G o s);have h2:=aUv G o s;show(pfP G (pfG G o s) l).length≤_;rw[Ak];omega
mutual
theorem aHy:∀c:Core,(pfR c).length≤bE c
 | .mk f n s t ks bs al=>by
  rw[pfR,bE];split
  ·simp;omega
  ·have h1:=aSs (gvN f s bs) ks [];have h2:=aSt (gvN f s bs) bs (r7 (gvN f s bs) ks []);have h3:=aSu al (tL (gvN f s bs) bs (r7 (gvN f s bs) ks []));simp only[length_nil] at h1;omega
theorem aSs (G:List Str):∀(l:List Core) (o:List Str),(r7 G l o).length≤o.length+dS l
 | [],o=>by rw[r7];omega
 | c::l,o=>by
  rw[r7,dS];have h1:=aSs G l (pfP G o (pfR c));have h2:=aCw G o (pfR c);have h3:=aHy c;omega
theorem aSt (G:List Str):∀(l:List Bind) (o:List Str),(tL G l o).length≤o.length+iD l
 | [],o=>by rw[tL];omega
 | .mk s t c::l,o=>by
  rw[tL,iD,bsize];have h1:=aSt G l (pfP G o (pfR c));have h2:=aCw G o (pfR c);have h3:=aHy c;omega
theorem aSu:∀(l:List Alt) (o:List Str),(tU l o).length≤o.length+iF l
 | [],o=>by rw[tU];omega
 | .mk f n s v c::l,o=>by
  rw[tU,iF,yE];have h1:=aSu l (pfP v o (pfR c));have h2:=aCw v o (pfR c);have h3:=aHy c;omega
end
theorem aP8 (G o:List Str) {l:List Str}{i:Nat}{s:Str}(h:l[i]?=some s):pfP G o (l.take (i+1))=pfG G (pfP G o (l.take i)) s:=by
 unfold pfP;rw[dY h,Bu];rfl
theorem aQa (G o:List Str) {l:List Core}{i:Nat}{c:Core}(h:l[i]?=some c):pfL G (l.take (i+1)) o=pfP G (pfL G (l.take i) o) (pfR c):=by
 unfold pfL;rw[dY h,Bu];rfl
theorem aP9 (o:List Str) {l:List (List (Str×List C)×List Core)}{i:Nat}{g:List (Str×List C)×List Core}(h:l[i]?=some g):pfM (l.take (i+1)) o=pfL (g.1.map (·.1)) g.2 (pfM (l.take i) o):=by
 unfold pfM;rw[dY h,Bu];rfl
inductive NFr:Core→Prop
 | mk {f n:Int} {s:Str} {t:Ty} {ks:List Core} {bs:List Bind} {al:List Alt} (h:(pfR (.mk f n s t ks bs al)).length≤570000000000)
   (hk:∀x∈ks,NFr x) (hb:∀x∈bs,NFr x.body) (ha:∀x∈al,NFr x.body):NFr (.mk f n s t ks bs al)
theorem NFr.of:∀(k:Nat) (c:Core),bE c≤k→bE c≤570000000000→NFr c
 | 0,c,h,_=>by have:=cD c;omega
 | k+1,.mk f n s t ks bs al,h,hs=>by
  obtain⟨q,I,J,_⟩:= @fN f n s t ks bs al;exact .mk (le_trans (aHy _) hs) (fun x hx=>NFr.of k x (by have:=q x hx;omega) (by have:=q x hx;omega)) (fun x hx=>NFr.of k x.body (by have:=I x hx;omega) (by have:=I x hx;omega)) fun x hx=>NFr.of k x.body (by have:=J x hx;omega) (by have:=J x hx;omega)
theorem NFr.len {c:Core}(h:NFr c):(pfR c).length≤570000000000:=by cases h;assumption
theorem a2k {c:Core}(h:NFr c):∀g∈gm c,∀x∈g.2,NFr x:=by
 cases h with
 | @mk f n s t ks bs al h hk hb ha=>
  intro g q x hx;rcases Ai.1 q with rfl | q
  ·rcases δ.1 hx with hx | hx
   ·exact hk x hx
   ·obtain⟨b,I,rfl⟩:=Af.1 hx;exact hb b I
  ·obtain⟨a,J,rfl⟩:=Af.1 q;rw[ζ.1 hx];exact ha a J
theorem aU1 (o:List Str) (s:Str):o.length≤(qR o s).length:=by unfold qR;split<;>simp
theorem aYx (G o:List Str) (s:Str):o.length≤(pfG G o s).length:=by
 unfold pfG;split
 ·exact le_refl _
 ·exact aU1 o s
theorem aKz (G:List Str):∀(l o:List Str),o.length≤(pfP G o l).length
 | [],_=>le_refl _
 | s::l,o=>le_trans (aYx G o s) (aKz G l (pfG G o s))
theorem aK0 (G:List Str):∀(l:List Core) (o:List Str),o.length≤(pfL G l o).length
 | [],_=>le_refl _
 | c::l,o=>le_trans (aKz G (pfR c) o) (aK0 G l (pfP G o (pfR c)))
theorem aSv:∀(L:List (List (Str×List C)×List Core)) (o:List Str),o.length≤(pfM L o).length
 | [],_=>le_refl _
 | g::L,o=>le_trans (aK0 _ g.2 o) (aSv L (pfL (g.1.map (·.1)) g.2 o))
theorem aUs (G o l:List Str) (k:Nat):(pfP G o (l.take k)).length≤(pfP G o l).length:=by
 have e:pfP G o l=pfP G (pfP G o (l.take k)) (l.drop k):=by
  unfold pfP;rw[←Bu,Cx]
 rw[e];exact aKz _ _ _
theorem aUu (G:List Str) (l:List Core) (o:List Str) (k:Nat):(pfL G (l.take k) o).length≤(pfL G l o).length:=by
 have e:pfL G l o=pfL G (l.drop k) (pfL G (l.take k) o):=by
  unfold pfL;rw[←Bu,Cx]
 rw[e];exact aK0 _ _ _
theorem aUt (L:List (List (Str×List C)×List Core)) (o:List Str) (k:Nat):(pfM (L.take k) o).length≤(pfM L o).length:=by
 have e:pfM L o=pfM (L.drop k) (pfM (L.take k) o):=by
  unfold pfM;rw[←Bu,Cx]
 rw[e];exact aSv _ _
def aHd (c:Core):Prop:=LC c→NFr c→aQ Tryz.prog 133 [.pa (aC c)] [] (bI (pfR c)) []
theorem oP (c:Core) (ih:∀x,bE x<bE c→aHd x) (hlc:LC c) (hfl:NFr c):aQ Tryz.prog 133 [.pa (aC c)] [] (ouV (pfR c)) [(500,ouO (pfR c))]:=by
 by_cases h1:c.form=1
 ·obtain⟨f,n,s,t,ks,bs,al⟩:=c;have h1:f=1:=h1;subst h1;rw[pfR,ξ rfl];refine bM (n:=51) tok Tryz.func133 rfl rfl rfl ?_;exact sg rfl (a8 (sg rfl (aA rfl (fun _=>sgh [(2,.id 500)] rfl (aF rtT)) nofun)))
 have ab:aQ Tryz.prog 40 [.one (.c (.pt (aC c)))] [] (.one (.c (.sl 2 (jQ c)))) []:=by
  cases hlc with
  | mk a1 a2 a3=>exact aAx _ a1 a2 a3
 have ac:=a2b c h1;have hin:∀g∈gm c,∀x∈g.2,bE x<bE c:=fun g O x hx=>aZo (g:=gmG g) (by rw[aQv];exact Af.2 ⟨g,O,rfl⟩) hx
 obtain⟨hgl,hgm⟩:=aZn hlc;rw[aQv,θ] at hgl;have ad:∀g∈gm c,(g.2.length≤570000000000∧g.1.length≤570000000000)∧∀x∈g.2,LC x:=fun g O=>by
  have:=hgm (gmG g) (by rw[aQv];exact Af.2 ⟨g,O,rfl⟩);unfold gmG at this;rw[θ] at this;exact this
 have hgF:=a2k hfl;have hgc:(pfM (gm c) []).length≤570000000000:=by rw[←ac];exact hfl.len
 rw[qG,aQv,Bj] at ab;rw[ac];clear ac hgm;generalize gm c=L at ab hin hgl ad hgc hgF ⊢;have hkL:(L.map (kM∘gmG)).length=L.length:=θ _;refine bM (n:=51) tok Tryz.func133 rfl rfl rfl ?_;refine sg rfl (a8 (sg rfl (aA rfl (fun hb=>absurd (ψ hb) h1) (fun _=>aD (sg rfl (AWp.sub (Sub.fvar (id:=1) (l:=aC c) rfl (by simp[keys])) ?_))))));refine AWp.sub (st2:=mk [(1,.one (.c (.pt (aC c)))),(3,.one (.c .nl))] []) sl ?_;refine AWp.sub (Sub.own (t:=3) (id:=500) 9 1 rfl rfl) ?_;refine a8 (a8 (aE mixed (kc ab ?_)));refine kz 2 rfl (aB (aK (fun i:Nat=>mk [(3,ouV (pfM (L.take i) [])),(16,.one (.c (.sl 2 (L.map (kM∘gmG))))),(17,I .i64 ((L.map (kM∘gmG)).length:Int)),(18,I .i64 i)] [(500,ouO (pfM (L.take i) []))]) (fun i=>i≤L.length) (fun i=>L.length-i) 0 (Aj _) sl ?_));intro i hi;refine sg rfl (a8 (aA rfl (fun hb=>?_) (fun hb=>?_)))
 ·have hlt:=ltD hb hkL;obtain⟨g,O⟩:=aJ hlt;have hg':=bO (kM∘gmG) O;have ae:=Ab O;obtain⟨⟨hl1,hl2⟩,hl3⟩:=ad g ae;have N:=aP9 [] O;have hml:=aUt L [] (i+1);have ah:=hin g ae;have W:=hgF g ae;have ai:(g.2.map hZ).length=g.2.length:=θ _;obtain⟨G1,G⟩:=g;have hg':(L.map (kM∘gmG))[i]?=some [.sl 1 (G1.map aIt),.sl 1 (G.map hZ)]:=hg';dsimp only at hl1 hl2 hl3 N ai ah W;generalize hG0:G1.map (·.1)=G0 at N;rw[N] at hml;generalize pfM (L.take i) []=x0 at N hml ⊢;refine aD (a8 (aB (sgh [(0,.row i [.sl 1 (G1.map aIt),.sl 1 (G.map hZ)])] rfl (sg rfl (aB (aK (fun j:Nat=>mk [(3,ouV (pfL G0 (G.take j) x0)),(5,.one (.vp 5 0)),(16,.one (.c (.sl 2 (L.map (kM∘gmG))))),(17,I .i64 ((L.map (kM∘gmG)).length:Int)),(18,I .i64 i),(23,.one (.c (.sl 1 (G.map hZ)))),(24,I .i64 ((G.map hZ).length:Int)),(25,I .i64 j)] [(5,.var 95 [.c (.sl 1 (G1.map aIt)),.c (.sl 1 (G.map hZ))]),(500,ouO (pfL G0 (G.take j) x0))]) (fun j=>j≤G.length) (fun j=>G.length-j) 0 (Aj _) sl ?_))))));intro j hj;refine sg rfl (a8 (aA rfl (fun hb=>?_) (fun hb=>?_)))
  ·have hlt2:=ltD hb ai;obtain⟨p,hp⟩:=aJ hlt2;have hp':=bO hZ hp;have aa:=Ab hp;have hpc:=ah p aa;have hc:=ih p hpc (hl3 p aa) (W p aa);have J:=aQa G0 x0 hp;have Y:=aUu G0 G x0 (j+1);have hple:=(W p aa).len;rw[J] at Y;generalize pfL G0 (G.take j) x0=x1 at J Y ⊢;generalize pfR p=F at hc J hple Y;have hkF:(F.map bL).length=F.length:=θ _;refine aD (a8 (aB (sgh [(0,.row j (hZ p))] rfl (sgh [(3,.pc (bI F))] rfl (aB (aK (fun k:Nat=>mk [(3,ouV (pfP G0 x1 (F.take k))),(5,.one (.vp 5 0)),(16,.one (.c (.sl 2 (L.map (kM∘gmG))))),(17,I .i64 ((L.map (kM∘gmG)).length:Int)),(18,I .i64 i),(23,.one (.c (.sl 1 (G.map hZ)))),(24,I .i64 ((G.map hZ).length:Int)),(25,I .i64 j),(32,bI F),(33,I .i64 ((F.map bL).length:Int)),(34,I .i64 k)] [(5,.var 95 [.c (.sl 1 (G1.map aIt)),.c (.sl 1 (G.map hZ))]),(500,ouO (pfP G0 x1 (F.take k)))]) (fun k=>k≤F.length) (fun k=>F.length-k) 0 (Aj _) sl ?_))))));intro k hk;refine sg rfl (a8 (aA rfl (fun hb=>?_) (fun hb=>?_)))
   ·have Z:=ltD hb hkF;obtain⟨s,hs⟩:=aJ Z;have hs':=bO bL hs;have q:=aP8 G0 x1 hs;have hml3:=aUs G0 x1 F k;generalize pfP G0 x1 (F.take k)=x2 at q hml3 ⊢;have hcp:=a0m G1 s (by omega);rw[hG0] at hcp;have hmo:=vM x2 [s] (by simp;omega);rw[show n2 x2 [s]=qR x2 s from rfl] at hmo;refine aD (a8 (aB (sgh [(0,.row k (bL s))] rfl (sk 3 rfl (kc hcp ?_)))));refine kz 1 rfl (aA rfl (fun hb=>?_) (fun hb=>?_))
    ·have hni:¬s∈G0:=by simpa using hb
     rw[pfG,φ hni] at q;refine aE mixed (ak 3 [(2,.all)] rfl (kc hmo ?_));refine kz 1 rfl (ag [] rfl ⟨k+1,Z,by dsimp only;omega,?_⟩);dsimp only;rw[q];exact sl
    ·have hni:s∈G0:=by simpa using hb
     rw[pfG,ξ hni] at q;refine aD (ag [] rfl ⟨k+1,Z,by dsimp only;omega,?_⟩);dsimp only;rw[q];exact sl
   have hge3:=geD hb hkF hk;subst hge3;rw[As,←J];exact aL (ag [] rfl ⟨j+1,hlt2,by dsimp only;omega,sl⟩)
  have hge2:=geD hb ai hj;subst hge2;rw[As,←N];exact aL (ag [] rfl ⟨i+1,hlt,by dsimp only;omega,sl⟩)
 have hge:=geD hb hkL hi;subst hge;rw[As];exact aL (sg rfl (aF rtT))
theorem aAv (c:Core) (J:∀x,bE x<bE c→aHd x):aHd c:=fun q I=>(oP c J q I).plain (θ _).symm
theorem y5:∀(n:Nat) (c:Core),bE c≤n→aHd c
 | 0,c,h=>by have:=cD c;omega
 | n+1,c,h=>aAv c fun x hx=>y5 n x (by omega)
theorem y6 (n:Nat) (c:Core) (h:bE c≤n) (hs:bE c≤570000000000):aQ Tryz.prog 133 [.pa (aC c)] [] (bI (pfR c)) []:=y5 n c h (LC.of _ c (le_refl _) hs) (NFr.of _ c (le_refl _) hs)
def vC (z:Str):Core:=.mk 1 0 z zTy [] [] []
section
variable (sb:Core→Str→Core→Core)
noncomputable def eZ (far:List Str) (st:List Str×List Core×List Str) (n:Str):List Str×List Core×List Str:=
 if n∈far then(st.1++[b9 st.2.2],st.2.1.map (fun p=>sb p n (vC (b9 st.2.2))),st.2.2++[b9 st.2.2]) else(st.1++[n],st.2.1,st.2.2)
noncomputable def mF (far:List Str) (ns:List Str) (st:List Str×List Core×List Str):List Str×List Core×List Str:=ns.foldl (eZ sb far) st
def aYt (s:Str) (ns:List Str) (ps:List Core):Prop:=s∈ps.flatMap pfR∧¬s∈ns
open Classical in
noncomputable def dN (s:Str) (b:Core) (ns:List Str) (ps:List Core):List Str×List Core:=
 if aYt s ns ps then
  ((mF sb (pfR b) ns ([],ps,ps.flatMap pfR++ns++pfR b)).1,(mF sb (pfR b) ns ([],ps,ps.flatMap pfR++ns++pfR b)).2.1.map (fun p=>sb p s b))
 else(ns,ps)
end
def mkB:List Ty→List Str→List Core→List Bind
 | t::ts,n::ns,p::ps=>.mk n t p::mkB ts ns ps
 | _,_,_=>[]
section
variable {sb:Core→Str→Core→Core}
theorem sL {far:List Str}{st:List Str×List Core×List Str}{n:Str}:(eZ sb far st n).1.length=st.1.length+1∧(eZ sb far st n).2.1.length=st.2.1.length∧(eZ sb far st n).2.2.length≤st.2.2.length+1:=by
 unfold eZ;split<;>simp
theorem xK {far:List Str}:∀{ns:List Str}{st:List Str×List Core×List Str},(mF sb far ns st).1.length=st.1.length+ns.length∧(mF sb far ns st).2.1.length=st.2.1.length∧(mF sb far ns st).2.2.length≤st.2.2.length+ns.length
 | [],st=>by simp[mF]
 | n::ns,st=>by
  have h:=xK (far:=far) (ns:=ns) (st:=eZ sb far st n);obtain⟨g1,g2,g3⟩:=sL (sb:=sb) (far:=far) (st:=st) (n:=n);unfold mF at h ⊢;rw[Cr,Ak];omega
theorem aMk {far ns:List Str}{st:List Str×List Core×List Str}{i:Nat}{n:Str}(h:ns[i]?=some n):mF sb far (ns.take (i+1)) st=eZ sb far (mF sb far (ns.take i) st) n:=by
 unfold mF;rw[Bi,h,Bu];rfl
theorem r6 {s:Str}{b:Core}{ns:List Str}{ps:List Core}:(dN sb s b ns ps).1.length=ns.length∧(dN sb s b ns ps).2.length=ps.length:=by
 unfold dN;split
 ·obtain⟨h1,h2,_⟩:=xK (sb:=sb) (far:=pfR b) (ns:=ns) (st:=([],ps,ps.flatMap pfR++ns++pfR b));exact⟨by simpa using h1,by simpa using h2⟩
 ·exact⟨rfl,rfl⟩
end
def aH2 (sb:Core→Core) (ps:List Core) (j:Nat):List Core:=(ps.take j).map sb++ps.drop j
theorem aQh {sb:Core→Core}{ps:List Core}{j:Nat}:(aH2 sb ps j).length=ps.length:=by unfold aH2;simp;omega
theorem aU5 {sb:Core→Core}{ps:List Core}{j:Nat}{p:Core}(h:ps[j]?=some p):(aH2 sb ps j)[j]?=some p:=by
 have q:j<ps.length:=(Aa.1 h).1
 unfold aH2;rw[Az (by simp;omega),θ,Aq,B9 (by omega),sub_self,An,By,h]
theorem aLp {sb:Core→Core}{ps:List Core}{j:Nat}{p:Core}(h:ps[j]?=some p):aH2 sb ps (j+1)=(aH2 sb ps j).set j (sb p):=by
 have q:j<ps.length:=(Aa.1 h).1
 unfold aH2;rw[pN h,rV (by simp;omega),Bi,h];simp
theorem aLo {sb:Core→Core}{ps:List Core}:aH2 sb ps 0=ps:=by simp[aH2]
theorem aQi {sb:Core→Core}{ps:List Core}:aH2 sb ps ps.length=ps.map sb:=by simp[aH2]
theorem qH (l:List Core) (j:Nat) (x:Core):(aR l).set j (aC x)=aR (l.set j x):=by
 rw[bA,bA,map_set]
theorem v7:∀{ts:List Ty}{ns:List Str}{ps:List Core}{j:Nat}{t:Ty}{n:Str}{p:Core},ts[j]?=some t→ns[j]?=some n→ps[j]?=some p→(mkB ts ns ps)[j]?=some (.mk n t p)
 | t'::ts,q::ns,I::ps,0,t,n,p,h1,h2,h3=>by
  simp at h1 h2 h3;subst h1 h2 h3;rfl
 | t'::ts,q::ns,I::ps,j+1,t,n,p,h1,h2,h3=>by
  simp only[Bh] at h1 h2 h3;simp only[mkB,Bh];exact v7 h1 h2 h3
theorem sI:∀{ts:List Ty}{ns:List Str}{ps:List Core},ns.length=ts.length→ps.length=ts.length→(mkB ts ns ps).length=ts.length
 | [],_,_,_,_=>by unfold mkB;rfl
 | t::ts,n::ns,p::ps,h1,h2=>by
  simp only[Ak] at h1 h2;simp only[mkB,Ak,sI (ts:=ts) (ns:=ns) (ps:=ps) (by omega) (by omega)]
theorem aFu:∀{ts:List Ty}{ns:List Str}{ps:List Core}{j:Nat}{t:Ty}{n:Str}(x:Core),ts[j]?=some t→ns[j]?=some n→j<ps.length→(mkB ts ns ps).set j (.mk n t x)=mkB ts ns (ps.set j x)
 | t'::ts,q::ns,I::ps,0,t,n,x,h1,h2,_=>by
  simp at h1 h2;subst h1 h2;rfl
 | t'::ts,q::ns,I::ps,j+1,t,n,x,h1,h2,h3=>by
  simp only[Bh] at h1 h2;simp only[mkB,C3];rw[aFu x h1 h2 (by simpa using h3)]
theorem aFv:∀{ts:List Ty}{ns:List Str}{ps:List Core}{j:Nat}{t:Ty}{p:Core}(z:Str),ts[j]?=some t→ps[j]?=some p→j<ns.length→(mkB ts ns ps).set j (.mk z t p)=mkB ts (ns.set j z) ps
 | t'::ts,q::ns,I::ps,0,t,p,z,h1,h2,_=>by
  simp at h1 h2;subst h1 h2;rfl
 | t'::ts,q::ns,I::ps,j+1,t,p,z,h1,h2,h3=>by
  simp only[Bh] at h1 h2;simp only[mkB,C3];rw[aFv z h1 h2 (by simpa using h3)]
theorem jD (l:List Bind) (j:Nat) (x:Bind):(aU l).set j (bJ x)=aU (l.set j x):=by
 rw[bX,bX,map_set]
theorem aZu {l:List Core}{j:Nat}{x:Core}(h:l[j]?=some x):(aR l)[j]?=some (aC x):=j0 h
def grO (nG:List R) (pG:List R):AObj:=.var 95 [.ras nG.length 1 nG,.ras pG.length 1 pG]
def tH (tys:List Ty) (nk:Nat) (ns:List Str) (ps:List Core):List (Nat×AObj):=[(701,.arr 69 15 (aU (mkB tys ns (ps.drop nk))) 0),(702,.arr 34 10 (aR (ps.take nk)) 0)]
def tN (nb:Nat):List R:=(nR false nb nb).flatten
def tP (nk nb:Nat):List R:=(pR nk nb nb).flatten
theorem mH {es:Nat}:∀{l:List (List R)},(∀r∈l,r.length=es)→l.flatten.length=l.length*es
 | [],_=>by simp
 | r::l,h=>by
  rw[Bf,τ,mH fun q I=>h q (ω _ I),h r η,Ak,Ay];omega
theorem aSd {nk nb:Nat}:(tP nk nb).length=nk+nb:=by unfold tP;rw[mH uW,aK6];omega
theorem aSf {nk nb j:Nat}(h:j<nk):((tP nk nb).drop (j*1)).take 1=[.ep 702 j 0 nk]:=eC uW j _ (aK8 h)
theorem aSe {nk nb j:Nat}(h:j<nb):((tP nk nb).drop ((nk+j)*1)).take 1=[.ep 701 j 5 nb]:=eC uW _ _ (aK7 h)
theorem aJt {nb:Nat}:∀r∈nR false nb nb,r.length=1:=fun r q=>by
 unfold nR at q;exact s4 (fun _=>rfl) r (by simpa [gNm] using q)
theorem aXt {nb:Nat}:(tN nb).length=nb:=by
 unfold tN;rw[mH aJt];unfold nR;rw[τ,fZ];simp[gNm]
theorem aXu {nb j:Nat}(h:j<nb):((tN nb).drop (j*1)).take 1=[.ep 701 j 0 nb]:=eC aJt j _ (by
 unfold nR;rw[Az (by simp[gNm])];simp only[gNm,length_nil,sub_zero]
 exact aE8 h)
theorem wG {nk nb:Nat}:∀x∈R.refsL (tP nk nb),x=701∨x=702:=fun x hx=>by
 unfold tP at hx;rw[dB] at hx;unfold pR at hx;rw[jL] at hx;rcases δ.1 hx with hx | hx
 ·exact .inr (lY (L:=fun x=>x=702) (fun j x hx=>by simpa [R.refsL,R.refs] using hx) _ x hx)
 ·exact .inl (lY (L:=fun x=>x=701) (fun j x hx=>by simpa [R.refsL,R.refs] using hx) _ x hx)
theorem aJs {nb:Nat}:∀x∈R.refsL (tN nb),x=701:=fun x hx=>by
 unfold tN at hx;rw[dB] at hx;unfold nR at hx;rw[jL] at hx;rcases δ.1 hx with hx | hx
 ·simp[gNm,bY] at hx
 ·exact lY (L:=fun x=>x=701) (fun j x hx=>by simpa [R.refsL,R.refs] using hx) _ x hx
theorem aCa {nk nb:Nat}:∀x∈(grO (tN nb) (tP nk nb)).refs,x=701∨x=702:=fun x hx=>by
 have hx:x∈R.refsL (tN nb)++(R.refsL (tP nk nb)++[]):=hx;rw[A8] at hx;rcases δ.1 hx with hx | hx
 ·exact .inl (aJs x hx)
 ·exact wG x hx
abbrev tG (tys:List Ty) (nk:Nat) (ns:List Str) (ps:List Core):List (Nat×AObj):=(3,grO (tN tys.length) (tP nk tys.length))::tH tys nk ns ps
theorem tGW {tys:List Ty}{nk:Nat}{ns:List Str}{ps:List Core}:GW (tG tys nk ns ps) []:=⟨⟨fun _ h=>(by cases h),nodup_nil,fun _ h=>(by cases h)⟩,fun x hx=>by
 have hx:x∈(grO (tN tys.length) (tP nk tys.length)).refs++[]:=hx;rw[A8] at hx;rcases aCa x hx with rfl | rfl
 ·exact .inl (by simp[tG,tH,keys])
 ·exact .inl (by simp[tG,tH,keys]),rfl,rfl⟩
theorem aTl (tys:List Ty) (nk:Nat) (ns:List Str) (ps:List Core) (nm:Str) (b:Core) (sb:Core→Core) (hn:ns.length=tys.length) (hp:ps.length=nk+tys.length) (hb:ps.length≤570000000000)
  (hs:∀p∈ps,aQ Tryz.prog 99 [.pa (aC p),Go.AM.T nm,.pa (aC b)] [] (.pa (aC (sb p))) []):
  aQ Tryz.prog 160 [Go.AM.T nm,.pa (aC b),.one (.vp 3 0)] (tG tys nk ns ps++[]) (.tup []) (tG tys nk ns (ps.map sb)++[]):=by
 have N:TF []:=tGW (tys:=tys) (nk:=nk) (ns:=ns) (ps:=ps).tf;have ar:=aSd (nk:=nk) (nb:=tys.length);have J:∀x∈R.refsL (tP nk tys.length),Kn [(4,.var 34 (b8 b))] (tG tys nk ns ps) [] x:=fun x hx=>by
  rcases wG x hx with rfl | rfl
  ·exact .inr (.inl (by simp[tG,tH,keys]))
  ·exact .inr (.inl (by simp[tG,tH,keys]))
 refine tY N (n:=23) tok Tryz.func160 rfl rfl rfl ?_;refine sg rfl (sg rfl (aB (aK (fun j:Nat=>mkt [(0,Go.AM.T nm),(2,.one (.vp 3 0)),(4,.one (.vp 4 0)),(8,.one (.ras (tP nk tys.length).length 1 (tP nk tys.length))),(9,I .i64 (((tP nk tys.length).length:Nat):Int)),(10,I .i64 j)] ([(4,.var 34 (b8 b))]++tG tys nk ns (aH2 sb ps j)) []) (fun j=>j≤(tP nk tys.length).length) (fun j=>(tP nk tys.length).length-j) 0 (Aj _) ?_ ?_)))
 ·rw[aLo];exact slG tGW (h1:=Kn.app Kn.nil (Kn.app (Kn.of rfl) (Kn.app (Kn.of rfl) (Kn.app J Kn.nil))))
 intro j hj;have J:∀ab,∀x∈R.refsL (tP nk tys.length),Kn [(4,.var 34 (b8 b))] (tG tys nk ns ab) [] x:=fun ab x hx=>by
  rcases wG x hx with rfl | rfl
  ·exact .inr (.inl (by simp[tG,tH,keys]))
  ·exact .inr (.inl (by simp[tG,tH,keys]))
 refine sg rfl (a8 (aA rfl (fun hb=>?_) (fun hb=>?_)))
 ·have ac:j<(tP nk tys.length).length:=by
   have:(j:Int)<((tP nk tys.length).length:Int):=ψ hb;omega
  obtain⟨p,O⟩:=aJ (show j<ps.length by omega);have hc:=hs p (Ab O);have W:=aU5 (sb:=sb) O;have Y:=aLp (sb:=sb) O;have ai:=aQh (sb:=sb) (ps:=ps) (j:=j);generalize aH2 sb ps j=Z at W Y ai ⊢;have ap:nk=(aR (Z.take nk)).length:=by rw[bA,θ,Aq];omega
  have aq:tys.length=(aU (mkB tys ns (Z.drop nk))).length:=by rw[bX,θ,sI hn (by rw[Bz];omega)]
  refine aD ?_;by_cases aa:j<nk
  ·have aj:=aSf (nb:=tys.length) aa;have ah:(aR (Z.take nk))[j]?=some (aC p):=aZu (by rw[At,ξ aa,W]);refine a8 (aB (sgh [(0,.rowR j [.ep 702 j 0 nk])] rfl (aE mixed (ak 6 [(3,.row j (aC p))] rfl (kc hc ?_)))));refine ak 2 [(8,.row j (aC p))] rfl (az (ag [] rfl ⟨j+1,ac,by dsimp only;omega,?_⟩));dsimp only;rw[Y];refine slG tGW (fun i hi=>GW.kf i hi) (h1:=Kn.app Kn.nil (Kn.app (Kn.of rfl) (Kn.app (Kn.of rfl) (Kn.app (J _) Kn.nil)))) (hh:=⟨⟨_,rfl,.varS rfl⟩,⟨_,rfl,.varS rfl⟩,⟨_,rfl,.arrS ?_⟩,⟨_,rfl,.arrS ?_⟩,trivial⟩)
   ·rw[List.drop_set_of_lt aa]
   ·rw[List.take_set];exact qH _ _ _
  ·obtain⟨q,rfl⟩:∃q,j=nk+q:=⟨j-nk,by omega⟩
   have ad:q<tys.length:=by omega
   obtain⟨t,ht⟩:=aJ ad;obtain⟨n,ae⟩:=aJ (show q<ns.length by omega);have hd:(Z.drop nk)[q]?=some p:=by rw[An];exact W
   have aj:=aSe (nk:=nk) ad;have ah:(aU (mkB tys ns (Z.drop nk)))[q]?=some (bJ (.mk n t p)):=dC (v7 ht ae hd);refine a8 (aB (sgh [(0,.rowR (nk+q) [.ep 701 q 5 tys.length])] rfl (aE mixed (ak 6 [(3,.row q (bJ (.mk n t p)))] rfl (kc hc ?_)))));refine ak 2 [(8,.row q (bJ (.mk n t p)))] rfl (az (ag [] rfl ⟨nk+q+1,ac,by dsimp only;omega,?_⟩));dsimp only;rw[Y];refine slG tGW (fun i hi=>GW.kf i hi) (h1:=Kn.app Kn.nil (Kn.app (Kn.of rfl) (Kn.app (Kn.of rfl) (Kn.app (J _) Kn.nil)))) (hh:=⟨⟨_,rfl,.varS rfl⟩,⟨_,rfl,.varS rfl⟩,⟨_,rfl,.arrS ?_⟩,⟨_,rfl,.arrS ?_⟩,trivial⟩)
   ·rw[List.drop_set,φ (by omega),Nat.add_sub_cancel_left,←aFu _ ht ae (by rw[Bz];omega),←jD];rfl
   ·rw[List.take_set_of_le (by omega)]
 have am:j=ps.length:=by
  have:¬(j:Int)<((tP nk tys.length).length:Int):=χ hb;omega
 subst am;rw[aQi];refine aL ?_;exact⟨.inl rfl,aDa (hl:=tG tys nk ns (ps.map sb)) N (by repeat (first | exact FarEq.raw N | (refine FarEq.updL N ?_) | (refine FarEq.upd N ?_))) ⟨[],[],.nil,.nil,rfl⟩ (fun _ h=>by cases h) tGW.refs (fun i hi=>GW.kf i hi) (fun p hp=>by rcases δ.1 hp with hp | hp;exact(Au.1 (tGW (tys:=tys) (nk:=nk) (ns:=ns) (ps:=ps)).plain) p hp;cases hp)⟩
theorem sY (s:Str):aQ Tryz.prog 34 [Go.AM.T s] [] (.pa (aC (vC s))) []:=by
 refine bM (n:=5) tok Tryz.func34 rfl rfl rfl ?_;exact sg rfl (sg rfl (aF (rtC trw)))
theorem aVo {l:List Core}{j:Nat}{p:Core}(h:l[j]?=some p):(l.take (j+1)).flatMap pfR=(l.take j).flatMap pfR++pfR p:=by
 rw[Bi,h,flatMap_append];simp
theorem aZt (l:List Core) (j:Nat):((l.take j).flatMap pfR).length≤(l.flatMap pfR).length:=by
 have:l.flatMap pfR=(l.take j).flatMap pfR++(l.drop j).flatMap pfR:=by rw[←flatMap_append,Cx]
 rw[this,τ];omega
structure PutOk (sb:Core→Str→Core→Core) (P:Core→Prop) (s:Str) (b:Core) (ps:List Core):Prop where
 in_:∀p∈ps,P p
 free:∀p∈ps,aQ Tryz.prog 133 [.pa (aC p)] [] (bI (pfR p)) []
 far:aQ Tryz.prog 133 [.pa (aC b)] [] (bI (pfR b)) []
 ren:∀p n z,P p→z.length≤30→P (sb p n (vC z))
 subz:∀p n z,P p→z.length≤30→aQ Tryz.prog 99 [.pa (aC p),Go.AM.T n,.pa (aC (vC z))] [] (.pa (aC (sb p n (vC z)))) []
 subb:∀p,P p→aQ Tryz.prog 99 [.pa (aC p),Go.AM.T s,.pa (aC b)] [] (.pa (aC (sb p s b))) []
 itoa:dA 540000000000
noncomputable def gSt (sb:Core→Str→Core→Core) (b:Core) (ns:List Str) (ps:List Core) (i:Nat):List Str×List Core×List Str:=mF sb (pfR b) (ns.take i) ([],ps,ps.flatMap pfR++ns++pfR b)
noncomputable def gNs (sb:Core→Str→Core→Core) (b:Core) (ns:List Str) (ps:List Core) (i:Nat):List Str:=(gSt sb b ns ps i).1++ns.drop i
section
variable {sb:Core→Str→Core→Core}{b:Core}{ns:List Str}{ps:List Core}{i:Nat}{n:Str}
theorem gY (hi:i≤ns.length):(gSt sb b ns ps i).1.length=i∧(gSt sb b ns ps i).2.1.length=ps.length∧(gSt sb b ns ps i).2.2.length≤(ps.flatMap pfR++ns++pfR b).length+i:=by
 obtain⟨h1,h2,h3⟩:=xK (sb:=sb) (far:=pfR b) (ns:=ns.take i) (st:=([],ps,ps.flatMap pfR++ns++pfR b));rw[Aq,B9 hi] at h1 h3;exact⟨by unfold gSt;simpa using h1,h2,h3⟩
theorem aMi (hi:i≤ns.length):(gNs sb b ns ps i).length=ns.length:=by
 unfold gNs;rw[τ,(gY hi).1,Bz];omega
theorem aTb (h:ns[i]?=some n):(gNs sb b ns ps i)[i]?=some n:=by
 have q:i<ns.length:=(Aa.1 h).1
 unfold gNs;rw[Az (by rw[(gY (le_of_lt q)).1];exact le_refl _),(gY (le_of_lt q)).1,sub_self,An,By,h]
theorem oA (h:ns[i]?=some n):gSt sb b ns ps (i+1)=eZ sb (pfR b) (gSt sb b ns ps i) n:=aMk h
theorem aTa (h:ns[i]?=some n) (hf:n∈pfR b):gNs sb b ns ps (i+1)=(gNs sb b ns ps i).set i (b9 (gSt sb b ns ps i).2.2):=by
 have q:i<ns.length:=(Aa.1 h).1
 have hl:=(gY (sb:=sb) (b:=b) (ps:=ps) (le_of_lt q)).1
 unfold gNs;rw[oA h,pN h,rV hl];unfold eZ;rw[ξ hf];simp
theorem aMh (h:ns[i]?=some n) (hf:¬n∈pfR b):gNs sb b ns ps (i+1)=gNs sb b ns ps i:=by
 unfold gNs;rw[oA h,pN h];unfold eZ;rw[φ hf];simp
theorem aGb:gNs sb b ns ps 0=ns:=by unfold gNs gSt mF;simp
theorem xI:gSt sb b ns ps 0=([],ps,ps.flatMap pfR++ns++pfR b):=by unfold gSt mF;simp
theorem aMj:gNs sb b ns ps ns.length=(gSt sb b ns ps ns.length).1:=by unfold gNs;simp
theorem aMf:gSt sb b ns ps ns.length=mF sb (pfR b) ns ([],ps,ps.flatMap pfR++ns++pfR b):=by unfold gSt;rw[As]
theorem aMg {P:Core→Prop}{s:Str}(h:PutOk sb P s b ps):∀{i:Nat},i≤ns.length→(gSt sb b ns ps i).2.2.length≤540000000000→(∀j,j≤i→(gSt sb b ns ps j).2.2.length≤540000000000)→∀p∈(gSt sb b ns ps i).2.1,P p
 | 0,_,_,_=>by rw[xI];exact h.in_
 | i+1,hi,_,hb=>by
  obtain⟨n,hn⟩:=aJ (show i<ns.length by omega);have I:=aMg h (i:=i) (by omega) (hb i (by omega)) fun j N=>hb j (by omega)
  rw[oA hn];unfold eZ;split
  ·intro p hp;obtain⟨q,J,rfl⟩:=Af.1 hp;exact h.ren q n _ (I q J) (le_trans (jP _ (hb i (by omega))) (by omega))
  ·exact I
end
def tkA (l:List Str):AObj:=.arr 9 1 (l.map bL) 2
def tkV (l:List Str):V:=.one (.hs 720 0 l.length l.length)
def gpV (nG pG:List R):V:=.ma [.ras nG.length 1 nG,.ras pG.length 1 pG]
theorem tHW {tys:List Ty}{nk:Nat}{ns:List Str}{ps:List Core}:GW (tH tys nk ns ps) []:=⟨tGW (tys:=tys) (nk:=nk) (ns:=ns) (ps:=ps).tf,fun x hx=>(by cases hx),rfl,rfl⟩
theorem aEy {tys:List Ty}{nk:Nat}{ns:List Str}{ps:List Core}{n:Str}{l:List C}:callOk ([Go.AM.T n,.pa l]++List.map V.one [R.vp 3 0]) (tG tys nk ns ps++[])=true:=by
 refine nE (tHW (tys:=tys) (nk:=nk) (ns:=ns) (ps:=ps)).tf (fun x hx=>.inl ?_) tGW.refs;have:x=3:=by simpa [V.refsL,V.refs,R.refs] using hx
 subst this;simp[tG,keys]
theorem a0b (tys:List Ty) (nk:Nat) (ns:List Str) (ps:List Core) (s:Str) (b:Core) (sb:Core→Str→Core→Core) (P:Core→Prop) (hn:ns.length=tys.length) (hp:ps.length=nk+tys.length) (hok:PutOk sb P s b ps)
  (hM:(ps.flatMap pfR).length+2*ns.length+(pfR b).length+ps.length≤540000000000):
  aQ Tryz.prog 134 [gpV (tN tys.length) (tP nk tys.length),Go.AM.T s,.pa (aC b)] (tH tys nk ns ps++[]) (.tup []) (tH tys nk (dN sb s b ns ps).1 (dN sb s b ns ps).2++[]):=by
 have hF:TF []:=tHW (tys:=tys) (nk:=nk) (ns:=ns) (ps:=ps).tf;have hpl:=aSd (nk:=nk) (nb:=tys.length);have hnl:=aXt (nb:=tys.length);have hkp:∀ex W J,∀x∈R.refsL (tP nk tys.length),Kn ex (tH tys nk W J) [] x:=fun ex W J x hx=>by
  rcases wG x hx with rfl | rfl
  ·exact .inr (.inl (by simp[tH,keys]))
  ·exact .inr (.inl (by simp[tH,keys]))
 have hkn:∀ex W J,∀x∈R.refsL (tN tys.length),Kn ex (tH tys nk W J) [] x:=fun ex W J x hx=>by
  have:=aJs x hx;subst this;exact .inr (.inl (by simp[tH,keys]))
 have aa:∀ex W J,∀x∈(grO (tN tys.length) (tP nk tys.length)).refs,Kn ex (tH tys nk W J) [] x:=fun ex W J x hx=>by
  rcases aCa x hx with rfl | rfl
  ·exact .inr (.inl (by simp[tH,keys]))
  ·exact .inr (.inl (by simp[tH,keys]))
 have hsz1:∀J:List Core,J.length=ps.length→nk=(aR (J.take nk)).length:=fun J h=>by rw[bA,θ,Aq];omega
 have hsz2:∀(W:List Str) (J:List Core),W.length=ns.length→J.length=ps.length→tys.length=(aU (mkB tys W (J.drop nk))).length:=fun W J h h'=>by rw[bX,θ,sI (by omega) (by rw[Bz];omega)]
 have hs1:=hsz1 ps rfl;have hs2:=hsz2 ns ps rfl rfl;refine tY hF (n:=92) tok Tryz.func134 rfl rfl rfl ?_;refine sg rfl (sg rfl (AWp.sub (Sub.own (t:=6) (id:=720) 9 1 rfl rfl) (AWp.sub (Sub.freeze (id:=720) rfl) ?_)));refine a8 (sg rfl (aB (aK (fun j:Nat=>mkt [(1,Go.AM.T s),(3,.one (.vp 3 0)),(5,.one (.vp 5 0)),(6,tkV ((ps.take j).flatMap pfR)),(17,.one (.ras (tP nk tys.length).length 1 (tP nk tys.length))),(18,I .i64 (((tP nk tys.length).length:Nat):Int)),(19,I .i64 j)] ([(3,grO (tN tys.length) (tP nk tys.length)),(5,.var 34 (b8 b)),(720,tkA ((ps.take j).flatMap pfR))]++tH tys nk ns ps) []) (fun j=>j≤(tP nk tys.length).length) (fun j=>(tP nk tys.length).length-j) 0 (Aj _) ?_ ?_)))
 ·exact slG tHW (h1:=Kn.app Kn.nil (Kn.app (Kn.of rfl) (Kn.app (Kn.of rfl) (Kn.app (Kn.of rfl) (Kn.app (hkp _ _ _) Kn.nil))))) (h2:=⟨aa _ _ _,Kn.of rfl,Kn.of rfl,trivial⟩)
 ·intro j hj;refine sg rfl (a8 (aA rfl (fun hb=>?_) (fun hb=>?_)))
  ·have hlt:j<(tP nk tys.length).length:=by
    have:(j:Int)<((tP nk tys.length).length:Int):=ψ hb;omega
   obtain⟨p,Z⟩:=aJ (show j<ps.length by omega);have hf:=hok.free p (Ab Z);have hst:=aVo Z;have hl1:=aZt ps (j+1);rw[hst,τ] at hl1;have hq1:(((ps.take j).flatMap pfR).map bL).length=((ps.take j).flatMap pfR).length:=θ _;have hq2:((pfR p).map bL).length=(pfR p).length:=θ _;generalize (ps.take j).flatMap pfR=q at hst hl1 hq1 ⊢;refine aD ?_;by_cases hjk:j<nk
   ·have ht1:=aSf (nb:=tys.length) hjk;have hrow:(aR (ps.take nk))[j]?=some (aC p):=aZu (by rw[At,ξ hjk,Z]);refine a8 (aB (sgh [(0,.rowR j [.ep 702 j 0 nk])] rfl (aE mixed (ak 4 [(3,.row j (aC p))] rfl (kc hf ?_)))));refine kz 2 rfl (AWp.sub (Sub.freeze (id:=720) rfl) ?_);refine ag [] rfl ⟨j+1,hlt,by dsimp only;omega,?_⟩;dsimp only;rw[hst];exact slG tHW (h1:=Kn.app Kn.nil (Kn.app (Kn.of rfl) (Kn.app (Kn.of rfl) (Kn.app (Kn.of rfl) (Kn.app (hkp _ _ _) Kn.nil))))) (h2:=⟨aa _ _ _,Kn.of rfl,Kn.of rfl,trivial⟩) (he:=⟨rfl,rfl,rfl,Go.AM.hs_ren (by simp) (by simp),congrArg some (V.ren_id _).symm,rfl,rfl,trivial⟩) (hh:=⟨⟨_,rfl,.varS rfl⟩,⟨_,rfl,.varS rfl⟩,⟨_,rfl,.arrS (by simp)⟩,⟨_,rfl,.arr⟩,⟨_,rfl,.arr⟩,trivial⟩)
   ·obtain⟨j',rfl⟩:∃j',j=nk+j':=⟨j-nk,by omega⟩
    have ab:j'<tys.length:=by omega
    obtain⟨t,ht⟩:=aJ ab;obtain⟨n,Y⟩:=aJ (show j'<ns.length by omega);have hd:(ps.drop nk)[j']?=some p:=by rw[An];exact Z
    have ht1:=aSe (nk:=nk) ab;have hrow:(aU (mkB tys ns (ps.drop nk)))[j']?=some (bJ (.mk n t p)):=dC (v7 ht Y hd);refine a8 (aB (sgh [(0,.rowR (nk+j') [.ep 701 j' 5 tys.length])] rfl (aE mixed (ak 4 [(3,.row j' (bJ (.mk n t p)))] rfl (kc hf ?_)))));refine kz 2 rfl (AWp.sub (Sub.freeze (id:=720) rfl) ?_);refine ag [] rfl ⟨nk+j'+1,hlt,by dsimp only;omega,?_⟩;dsimp only;rw[hst];exact slG tHW (h1:=Kn.app Kn.nil (Kn.app (Kn.of rfl) (Kn.app (Kn.of rfl) (Kn.app (Kn.of rfl) (Kn.app (hkp _ _ _) Kn.nil))))) (h2:=⟨aa _ _ _,Kn.of rfl,Kn.of rfl,trivial⟩) (he:=⟨rfl,rfl,rfl,Go.AM.hs_ren (by simp) (by simp),congrArg some (V.ren_id _).symm,rfl,rfl,trivial⟩) (hh:=⟨⟨_,rfl,.varS rfl⟩,⟨_,rfl,.varS rfl⟩,⟨_,rfl,.arrS (by simp)⟩,⟨_,rfl,.arr⟩,⟨_,rfl,.arr⟩,trivial⟩)
  have hge:j=ps.length:=by
   have:¬(j:Int)<((tP nk tys.length).length:Int):=χ hb;omega
  subst hge;rw[As];refine aL ?_;have hct:=bS (ps.flatMap pfR) s (by omega);refine a8 (sk 2 rfl (kc hct ?_));refine kz 1 rfl (aA rfl (fun hb=>?_) (fun hb=>?_))
  ·have hno:¬s∈ps.flatMap pfR:=by
    intro h;have hb:(!decide (s∈ps.flatMap pfR))=true:=hb;rw[Ah h] at hb;cases hb
   have he:dN sb s b ns ps=(ns,ps):=by unfold dN;rw[φ fun h=>hno h.1]
   rw[he];exact aF ⟨.inr rfl,aDa hF (by repeat (first | exact FarEq.raw hF | (refine FarEq.updL hF ?_) | (refine FarEq.upd hF ?_))) ⟨[],[],.nil,.nil,rfl⟩ (fun _ h=>by cases h) tHW.refs (fun i hi=>GW.kf i hi) (fun p hp=>by rcases δ.1 hp with hp | hp;exact(Au.1 (tHW (tys:=tys) (nk:=nk) (ns:=ns) (ps:=ps)).plain) p hp;cases hp)⟩
  have hin:s∈ps.flatMap pfR:=by
   have hb:(!decide (s∈ps.flatMap pfR))=false:=hb;by_cases h:s∈ps.flatMap pfR
   ·exact h
   ·rw[Am h] at hb;cases hb
  refine aD (a8 (sg rfl (aB (aK (fun j:Nat=>mkt [(1,Go.AM.T s),(3,.one (.vp 3 0)),(5,.one (.vp 5 0)),(6,tkV (ps.flatMap pfR++ns.take j)),(35,.one (.ras (tN tys.length).length 1 (tN tys.length))),(36,I .i64 (((tN tys.length).length:Nat):Int)),(37,I .i64 j)] ([(3,grO (tN tys.length) (tP nk tys.length)),(5,.var 34 (b8 b)),(720,tkA (ps.flatMap pfR++ns.take j))]++tH tys nk ns ps) []) (fun j=>j≤(tN tys.length).length∧¬s∈ns.take j) (fun j=>(tN tys.length).length-j) 0 ⟨Aj _,by simp⟩ ?_ ?_))))
  ·exact slG tHW (h1:=Kn.app Kn.nil (Kn.app (Kn.of rfl) (Kn.app (Kn.of rfl) (Kn.app (Kn.of rfl) (Kn.app (hkn _ _ _) Kn.nil))))) (h2:=⟨aa _ _ _,Kn.of rfl,Kn.of rfl,trivial⟩) (he:=⟨rfl,rfl,rfl,Go.AM.hs_ren (by simp) (by simp),congrArg some (V.ren_id _).symm,rfl,rfl,trivial⟩) (hh:=⟨⟨_,rfl,.varS rfl⟩,⟨_,rfl,.varS rfl⟩,⟨_,rfl,.arrS (by simp)⟩,⟨_,rfl,.arr⟩,⟨_,rfl,.arr⟩,trivial⟩)
  rintro j ⟨hj,hnos⟩;refine sg rfl (a8 (aA rfl (fun hb=>?_) (fun hb=>?_)))
  ·have hlt:j<(tN tys.length).length:=by
    have:(j:Int)<((tN tys.length).length:Int):=ψ hb;omega
   have ab:j<tys.length:=by omega
   obtain⟨t,ht⟩:=aJ ab;obtain⟨n,Y⟩:=aJ (show j<ns.length by omega);obtain⟨p,Z⟩:=aJ (show nk+j<ps.length by omega);have hd:(ps.drop nk)[j]?=some p:=by rw[An];exact Z
   have ht1:=aXu ab;have hrow:(aU (mkB tys ns (ps.drop nk)))[j]?=some (bJ (.mk n t p)):=dC (v7 ht Y hd);have hstp:ns.take (j+1)=ns.take j++[n]:=by rw[Bi,Y];rfl
   have hq1:((ps.flatMap pfR++ns.take j).map bL).length=(ps.flatMap pfR++ns.take j).length:=θ _;have hql:(ps.flatMap pfR++ns.take j).length≤540000000000:=by rw[τ,Aq];omega
   refine aD (a8 (aB (sgh [(0,.rowR j [.ep 701 j 0 tys.length])] rfl (a8 (sgh [(2,.row j (bJ (.mk n t p)))] rfl (aA rfl (fun hb=>?_) (fun hb=>?_)))))))
   ·have hns:n=s:=ψ hb;have he:dN sb s b ns ps=(ns,ps):=by
     unfold dN;rw[φ fun h=>h.2 (hns▸Ab Y)]
    rw[he];exact aF ⟨.inr rfl,aDa hF (by repeat (first | exact FarEq.raw hF | (refine FarEq.updL hF ?_) | (refine FarEq.upd hF ?_))) ⟨[],[],.nil,.nil,rfl⟩ (fun _ h=>by cases h) tHW.refs (fun i hi=>GW.kf i hi) (fun p hp=>by rcases δ.1 hp with hp | hp;exact(Au.1 (tHW (tys:=tys) (nk:=nk) (ns:=ns) (ps:=ps)).plain) p hp;cases hp)⟩
   have hns:¬n=s:=χ hb;refine aD ?_;generalize ps.flatMap pfR=fm at *;rw[show fm++ns.take j=fm++ns.take j from rfl];generalize hq:fm++ns.take j=q at *;refine ag [(3,.row j (bJ (.mk n t p)))] rfl (AWp.sub (Sub.freeze (id:=720) rfl) ?_);refine ag [] rfl ⟨j+1,⟨hlt,?_⟩,by dsimp only;omega,?_⟩
   ·rw[hstp];intro h;rcases δ.1 h with h | h
    ·exact hnos h
    ·exact hns (ζ.1 h).symm
   dsimp only;rw[hstp,←A0,hq];exact slG tHW (h1:=Kn.app Kn.nil (Kn.app (Kn.of rfl) (Kn.app (Kn.of rfl) (Kn.app (Kn.of rfl) (Kn.app (hkn _ _ _) Kn.nil))))) (h2:=⟨aa _ _ _,Kn.of rfl,Kn.of rfl,trivial⟩) (he:=⟨rfl,rfl,rfl,Go.AM.hs_ren (by simp) (by simp),congrArg some (V.ren_id _).symm,rfl,rfl,trivial⟩) (hh:=⟨⟨_,rfl,.varS rfl⟩,⟨_,rfl,.varS rfl⟩,⟨_,rfl,.arrS (by simp[bL,Bind.name])⟩,⟨_,rfl,.arr⟩,⟨_,rfl,.arr⟩,trivial⟩)
  have hge:j=ns.length:=by
   have:¬(j:Int)<((tN tys.length).length:Int):=χ hb;omega
  subst hge;rw[As] at hnos ⊢;have hput:dN sb s b ns ps=((gSt sb b ns ps ns.length).1,(gSt sb b ns ps ns.length).2.1.map fun p=>sb p s b):=by
   unfold dN;rw[ξ ⟨hin,hnos⟩,aMf]
  have hql:(ps.flatMap pfR++ns).length≤540000000000:=by rw[τ];omega
  have hq1:((ps.flatMap pfR++ns).map bL).length=(ps.flatMap pfR++ns).length:=θ _;have hq2:((pfR b).map bL).length=(pfR b).length:=θ _;have hfar:=hok.far;refine aL (sk 1 rfl (kc hfar ?_));refine kz 1 rfl ?_;have hlq:(ps.flatMap pfR++ns).length+(pfR b).length≤540000000000:=by rw[τ];omega
  refine sg rfl (AWp.sub (Sub.freeze (id:=720) rfl) ?_);refine sg rfl (a8 (sg rfl (aB ?_)));have hall:∀i,i≤ns.length→(gSt sb b ns ps i).2.2.length≤540000000000:=fun i hi=>by
   have h1:=(gY (sb:=sb) (b:=b) (ps:=ps) hi).2.2
   simp only[τ] at h1;omega
  refine aK (fun i:Nat=>mkt [(1,Go.AM.T s),(5,.one (.vp 5 0)),(6,tkV (gSt sb b ns ps i).2.2),(11,bI (pfR b)),(12,.one (.clo 160 [.vp 3 0])),(60,.one (.ras (tN tys.length).length 1 (tN tys.length))),(61,I .i64 (((tN tys.length).length:Nat):Int)),(62,I .i64 i)] ([(3,grO (tN tys.length) (tP nk tys.length)),(5,.var 34 (b8 b)),(720,tkA (gSt sb b ns ps i).2.2)]++tH tys nk (gNs sb b ns ps i) (gSt sb b ns ps i).2.1) []) (fun i=>i≤(tN tys.length).length) (fun i=>(tN tys.length).length-i) 0 (Aj _) ?_ ?_
  ·rw[xI,aGb];exact slG tHW (h1:=Kn.app Kn.nil (Kn.app (Kn.of rfl) (Kn.app (Kn.of rfl) (Kn.app Kn.nil (Kn.app (Kn.of rfl) (Kn.app (hkn _ _ _) Kn.nil)))))) (h2:=⟨aa _ _ _,Kn.of rfl,Kn.of rfl,trivial⟩) (he:=⟨rfl,rfl,Go.AM.hs_ren (by simp only[τ,θ]) (by simp only[τ,θ]),rfl,rfl,congrArg some (V.ren_id _).symm,rfl,rfl,trivial⟩) (hh:=⟨⟨_,rfl,.varS rfl⟩,⟨_,rfl,.varS rfl⟩,⟨_,rfl,.arrS (by simp)⟩,⟨_,rfl,.arr⟩,⟨_,rfl,.arr⟩,trivial⟩)
  intro i hi;have hle:i≤ns.length:=by omega
  refine sg rfl (a8 (aA rfl (fun hb=>?_) (fun hb=>?_)))
  ·have hlt:i<(tN tys.length).length:=by
    have:(i:Int)<((tN tys.length).length:Int):=ψ hb;omega
   have ab:i<tys.length:=by omega
   obtain⟨t,ht⟩:=aJ ab;obtain⟨n,Y⟩:=aJ (show i<ns.length by omega);obtain⟨hg1,hg2,hg3⟩:=gY (sb:=sb) (b:=b) (ps:=ps) hle;have hgl:=aMi (sb:=sb) (b:=b) (ps:=ps) hle;have hga:=aTb (sb:=sb) (b:=b) (ps:=ps) Y;have hP:=aMg hok hle (hall i hle) (fun j hj=>hall j (by omega));have hs3:=hsz1 _ hg2;have hs4:=hsz2 _ _ hgl hg2;have O:=oA (sb:=sb) (b:=b) (ps:=ps) Y;have hnin:=aTa (sb:=sb) (b:=b) (ps:=ps) Y;have hnout:=aMh (sb:=sb) (b:=b) (ps:=ps) Y;have hall0:=hall i hle;have ht1:=aXu ab;have hcf:=bS (pfR b) n (by omega);have hcr:=y8 (gSt sb b ns ps i).2.2 (by omega) fun k hk=>hok.itoa k (by omega)
   generalize gSt sb b ns ps i=G at *;generalize gNs sb b ns ps i=N at *;obtain⟨d0,qs,tk⟩:=G;dsimp only at *;obtain⟨p,Z⟩:=aJ (show nk+i<qs.length by omega);have hd:(qs.drop nk)[i]?=some p:=by rw[An];exact Z
   have hrow:(aU (mkB tys N (qs.drop nk)))[i]?=some (bJ (.mk n t p)):=dC (v7 ht hga hd);refine aD (a8 (aB (sgh [(0,.rowR i [.ep 701 i 0 tys.length])] rfl (skh 4 [(3,.row i (bJ (.mk n t p)))] rfl (kc hcf ?_)))));refine az (aA rfl (fun hb=>?_) (fun hb=>?_))
   ·have hmem:n∈pfR b:=ψ hb;have hnin:=hnin hmem;unfold eZ at O;rw[ξ hmem] at O;dsimp only at O;have hz:(b9 tk).length≤30:=le_trans (jP _ hall0) (by omega);have hca:=aTl tys nk N qs n (vC (b9 tk)) (fun p=>sb p n (vC (b9 tk))) (by omega) (by omega) (by omega) fun p hp=>hok.subz p n _ (hP p hp) hz
    have hcv:=sY (b9 tk);have hqt:(tk.map bL).length=tk.length:=θ _;generalize b9 tk=z at *;refine sk 1 rfl (kc hcr ?_);refine kz 1 rfl (sg rfl (AWp.sub (Sub.freeze (id:=720) rfl) ?_));refine skh 5 [(3,.row i (bJ (.mk n t p)))] rfl (kc hcv ?_);refine kv (caps:=[.vp 3 0]) (args:=[Go.AM.T n,.pa (aC (vC z))]) hca ?_ (hok:=aEy);refine az ?_;have hml:(qs.map fun p=>sb p n (vC z)).length=ps.length:=by rw[θ];exact hg2
    have hd2:((qs.map fun p=>sb p n (vC z)).drop nk)[i]?=some (sb p n (vC z)):=by rw[An,Bg,Z];rfl
    have hrow2:(aU (mkB tys N ((qs.map fun p=>sb p n (vC z)).drop nk)))[i]?=some (bJ (.mk n t (sb p n (vC z)))):=dC (v7 ht hga hd2);have hs5:=hsz1 _ hml;have hs6:=hsz2 _ _ hgl hml;refine ag [(3,.row i (bJ (.mk n t (sb p n (vC z)))))] rfl (ag [] rfl ⟨i+1,hlt,by dsimp only;omega,?_⟩);dsimp only;rw[O,hnin];dsimp only;refine slG tHW (fun i hi=>GW.kf i hi) (h1:=Kn.app Kn.nil (Kn.app (Kn.of rfl) (Kn.app (Kn.of rfl) (Kn.app Kn.nil (Kn.app (Kn.of rfl) (Kn.app (hkn _ _ _) Kn.nil)))))) (h2:=⟨aa _ _ _,Kn.of rfl,Kn.of rfl,trivial⟩) (he:=⟨rfl,rfl,Go.AM.hs_ren (by simp) (by simp),rfl,rfl,congrArg some (V.ren_id _).symm,rfl,rfl,trivial⟩) (hh:=⟨⟨_,rfl,.varS rfl⟩,⟨_,rfl,.varS rfl⟩,⟨_,rfl,.arrS (by simp[bL])⟩,⟨_,rfl,.arrS ?_⟩,⟨_,rfl,.arr⟩,trivial⟩);rw[←aFv z ht hd2 (by omega),←jD];rfl
   ·have hmem:¬n∈pfR b:=χ hb;unfold eZ at O;rw[φ hmem] at O;dsimp only at O;refine aD (ag [] rfl ⟨i+1,hlt,by dsimp only;omega,?_⟩);dsimp only;rw[O,hnout hmem];exact slG tHW (fun i hi=>GW.kf i hi) (h1:=Kn.app Kn.nil (Kn.app (Kn.of rfl) (Kn.app (Kn.of rfl) (Kn.app Kn.nil (Kn.app (Kn.of rfl) (Kn.app (hkn _ _ _) Kn.nil)))))) (h2:=⟨aa _ _ _,Kn.of rfl,Kn.of rfl,trivial⟩)
  have hge:i=ns.length:=by
   have:¬(i:Int)<((tN tys.length).length:Int):=χ hb;omega
  subst hge;have hP:=aMg hok (le_refl ns.length) (hall _ (le_refl _)) (fun j hj=>hall j hj);obtain⟨hg1,hg2,_⟩:=gY (sb:=sb) (b:=b) (ps:=ps) (le_refl ns.length);rw[hput];rw[aMj];generalize gSt sb b ns ps ns.length=G at *;obtain⟨N,qs,tk⟩:=G;dsimp only at *;have hca:=aTl tys nk N qs s b (fun p=>sb p s b) (by omega) (by omega) (by omega) fun p hp=>hok.subb p (hP p hp)
  refine aL (aE mixed (ak 3 [] rfl (kv (caps:=[.vp 3 0]) (args:=[Go.AM.T s,.pa (aC b)]) hca ?_ (hok:=aEy))));exact az ⟨.inl rfl,aDa hF (FarEq.outs hF) ⟨[],[],.nil,.nil,rfl⟩ (fun _ h=>by cases h) tHW.refs (fun i hi=>GW.kf i hi) (fun p hp=>by rcases δ.1 hp with hp | hp;exact(Au.1 (tHW (tys:=tys) (nk:=nk) (ns:=ns) (ps:=ps)).plain) p hp;cases hp)⟩
end Go.Proofs.YtglfogjcijokpaaGreatDoor
