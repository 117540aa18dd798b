/-
  Texts Kn23 to Kn32 in one.
-/
import Derived.Test.YtnjaiimffoninaaGreatDoorM13
open List (all_eq_true append_assoc append_nil cons_append count_le_length drop_eq_getElem_cons drop_eq_nil_of_le drop_length drop_zero foldl_append foldl_cons length_append length_cons length_drop length_erase_of_mem length_map length_nil length_singleton length_take map_append map_cons map_set mem_append mem_cons mem_cons_of_mem mem_cons_self mem_map mem_of_mem_take mem_singleton nil_append nodup_append nodup_nil range_succ set_append_right set_cons_zero take_append_drop take_length take_of_length_le take_succ_cons take_zero)
open Nat (add_zero le_add_left le_add_right le_refl min_eq_left sub_self zero_add zero_le)
namespace Go.Proofs.YtnjaiimffoninaaGreatDoor
open Go Go.AM
set_option maxRecDepth 20000
theorem aK1 (c:Core) (hl:aEh c=true) (hs:aQ c≤4000000):aW Tryz.prog 29 [.pa (aB c)] [] (.tup [bV (aU c),.pa (aB (bR c))]) []:=by
 refine bZ (n:=19) tok Tryz.func29 rfl rfl rfl ?_;refine sg rfl (sg rfl (AWp.sub (Sub.own (t:=4) (id:=500) 9 1 rfl rfl) ?_));refine a8 (aC (aK (fun x:List Str×Core=>mk [(1,.one (.vp 1 0)),(3,.one (.vp 3 0)),(4,.one (.hs 500 0 x.1.length x.1.length))] [(1,.var 30 (bF x.2)),(3,.var 30 dY),(500,.arr 9 1 (x.1.map bA) 0)]) (fun x=>aEh x.2=true∧aU c=x.1++aU x.2∧bR c=bR x.2∧x.1.length+aQ x.2≤aQ c) (fun x=>aQ x.2) ([],c) ⟨hl,rfl,rfl,by simp⟩ sl ?_));rintro⟨pre,f,n,s,t,ks,bs,al⟩ ⟨h1,h2,h3,h4⟩;dsimp only at h1 h2 h3 h4 ⊢;refine a8 (sg rfl (aA rfl (fun hb=>?_) (fun hb=>?_)))
 ·have q:f=5:=ψ hb;refine aD ?_;cases ks with
  | nil=>simp[aEh,q] at h1
  | cons k ks=>
   rw[aEh,κ q] at h1;rw[aU,κ q,dN] at h2;rw[bR,κ q,kI] at h3;rw[aQ,bM] at h4;refine a8 (aC (ag [] rfl (ag [(2,.row 0 (aB k))] rfl ⟨(pre++[s],k),⟨h1,by rw[h2];simp,h3,by simp;omega⟩,by dsimp only;rw[aQ,bM];omega,sl⟩)))
 ·have q:¬f=5:=π hb;rw[aU,θ q,A9] at h2;rw[bR,θ q] at h3;rw[h2,h3];refine aL (sg rfl (AWp.sub (Sub.freeze (id:=500) rfl) ?_));exact aF ⟨.inr rfl,⟨_,_,.tmp rfl (.cell rfl (tg rfl) rfl rfl rfl .nil),.cons (hs_all rfl rfl (by simp) rfl) (.cons .refl .nil),rfl⟩,trivial,rfl⟩
theorem oZ {α:Type}{l:List α}{i:Nat}{x:α}(h:l[i]?=some x):l.set i x=l:=by
 apply Bg;intro j;rw[List.getElem?_set];split
 ·rename_i e;subst e;rw[κ (ξ.1 h).1,h]
 ·rfl
theorem aTz {α:Type}{P l:List α}{i:Nat}{x:α}(hl:i<l.length) (h:P[i]?=some x):(P.take i++l.drop i).set i x=P.take (i+1)++l.drop (i+1):=by
 have hi:i<P.length:=(ξ.1 h).1
 have h1:(P.take i).length=i:=by rw[Ap];omega
 rw[cB h,Bl hl,set_append_right _ _ (by omega),h1,C7,set_cons_zero,Aw];rfl
theorem aK2 (l:List Str) (hl:l.length≤200000) (hs:∀s∈l,s.length≤1000000):aW Tryz.prog 33 [bV l] [] (bV (bG l)) []:=by
 have hM:1000000000≤maxLen:=by decide
 have Z:=mA (l.map bA) (by rw[φ];omega);have O:(bG l).length=l.length:=iW l 0;refine bZ (n:=31) tok Tryz.func33 rfl rfl rfl ?_;refine sg rfl (sk 1 rfl (kc Z ?_));refine kz 1 rfl (a8 (sg rfl ?_));have Y:(l.map bA).length=l.length:=φ _;refine aC (aK (fun i:Nat=>mk [(0,bV l),(3,.one (.hs 710 0 l.length l.length)),(8,bV l),(9,I .i64 ((l.map bA).length:Int)),(10,I .i64 i)] [(710,.arr 9 1 (((bG l).take i++l.drop i).map bA) 0)]) (fun i=>i≤l.length) (fun i=>l.length-i) 0 (Al _) sl ?_);intro i hi;have ad:(((bG l).take i++l.drop i).map bA).length=l.length:=by rw[φ,ε,Ap,Bk];omega
 refine sg rfl (a8 (aA rfl (fun hb=>?_) (fun hb=>?_)))
 ·have y:=ltD hb Y;obtain⟨s,J⟩:=aJ y;have ae:=bT bA J;have ah:=hs s (δ J);have hp:(bG l)[i]?=some (if s∈l.drop (i+1) then s++[64,112]++dec (0+i) else s):=aAl l i 0 s J;rw[Be] at hp;have hh:=s8 (l.drop (i+1)) s (by rw[Bk];omega);have ai:aW Tryz.prog 76 [.one (.c (.sl 1 ((l.map bA).drop (i+1)))),Go.AM.T s] [] (B (decide (s∈l.drop (i+1)))) []:=by rw[←List.map_drop];exact hh
  have hd:=aRr i (by omega);have aj:=rF i;have q:=aTz y hp;have hold:((bG l).take i++l.drop i)[i]?=some s:=by
   rw[Ao (by rw[Ap];omega),Ap,Ci (by omega),C7,Am,B9,J]
  have ab:=bT bA hold;refine aD (a8 (aC (sgh [(1,.row i (bA s))] rfl (a8 (agN [(5,.pc (B (decide (s∈l.drop (i+1)))))] rfl (aA rfl (fun hb=>?_) (fun hb=>?_)))))))
  ·have hm:s∈l.drop (i+1):=ψ hb;rw[κ hm] at q;refine ag [(5,.pc (Go.AM.T (dec i))),(8,.row i (bA s))] rfl (ag [] rfl ?_);have ac:(((bG l).take i++l.drop i).map bA).set i (bA (s++[64,112]++dec i))=((bG l).take (i+1)++l.drop (i+1)).map bA:=by rw[←q,map_set]
   exact⟨i+1,y,by dsimp only;omega,sl⟩
  ·have hm:¬s∈l.drop (i+1):=π hb;rw[θ hm,oZ hold] at q;refine aD (ag [] rfl ⟨i+1,y,by dsimp only;omega,?_⟩);dsimp only;rw[←q];exact sl
 have aa:=geD hb Y hi;subst aa;rw[Cz,A9,show(bG l).take l.length=bG l by rw[←O];exact As] at *;refine aL (sg rfl (AWp.sub (Sub.freeze (id:=710) rfl) ?_));exact aF (rtT (hc:=hs_all rfl rfl (by rw[φ];exact O.symm) rfl))
abbrev CM:=List (Str×Int)
def aMr (p:Str×Int):List C:=[.str p.1,.int .i64 p.2]
def aTf (s:Str):CM→Option Int
 | []=>none
 | (k,n)::m=>if k=s then some n else aTf s m
def aXn (s:Str) (n:Int):CM→CM
 | []=>[(s,n)]
 | (k,x)::m=>if k=s then(s,n)::m else(k,x)::aXn s n m
theorem aD5 (s:Str):∀m:CM,fT s (m.map aMr)=(aTf s m).map fun n=>[.int .i64 n]
 | []=>rfl
 | (k,n)::m=>by
  simp only[At,aMr,fT,aTf];split
  ·rfl
  ·exact aD5 s m
theorem aAu (s:Str) (n:Int):∀m:CM,qO s [.int .i64 n] (m.map aMr)=(aXn s n m).map aMr
 | []=>rfl
 | (k,x)::m=>by
  have q:=aAu s n m;simp only[At,aMr,qO,aXn] at q ⊢;split
  ·rfl
  ·simp only[At,q];rfl
theorem nO:∀m:CM,iF (m.map aMr)
 | []=>trivial
 | _::m=>nO m
theorem aAw (s x:Str) (n:Int):∀m:CM,aTf x (aXn s n m)=if s=x then some n else aTf x m
 | []=>by simp[aXn,aTf]
 | (k,y)::m=>by
  rw[aXn];split
  ·rename_i h;subst h;simp only[aTf];split<;>simp_all
  ·rename_i h;simp only[aTf,aAw s x n m];split<;>split<;>simp_all
def cnt (m:CM) (s:Str):Int:=(aTf s m).getD 0
def inc (s:Str) (m:CM):CM:=aXn s (cnt m s+1) m
def a0g (s:Str) (m:CM):CM:=aXn s (cnt m s-1) m
theorem a0k (s x:Str) (m:CM):cnt (inc s m) x=if s=x then cnt m x+1 else cnt m x:=by
 unfold inc cnt;rw[aAw];split
 ·rename_i h;subst h;rfl
 ·rfl
theorem aVs (s x:Str) (m:CM):cnt (a0g s m) x=if s=x then cnt m x-1 else cnt m x:=by
 unfold a0g cnt;rw[aAw];split
 ·rename_i h;subst h;rfl
 ·rfl
def k9:List Str→CM→CM
 | [],m=>m
 | s::l,m=>k9 l (inc s m)
def decs:List Str→CM→CM
 | [],m=>m
 | s::l,m=>decs l (a0g s m)
def times (s:Str) (l:List Str):Int:=(l.count s:Int)
theorem eI (x:Str):∀(l:List Str) (m:CM),cnt (k9 l m) x=cnt m x+times x l
 | [],m=>by simp[k9,times]
 | s::l,m=>by
  rw[k9,eI x l,a0k];unfold times;rw[List.count_cons];by_cases h:s=x
  ·subst h;simp;omega
  ·simp[h]
theorem aBo (x:Str):∀(l:List Str) (m:CM),cnt (decs l m) x=cnt m x-times x l
 | [],m=>by simp[decs,times]
 | s::l,m=>by
  rw[decs,aBo x l,aVs];unfold times;rw[List.count_cons];by_cases h:s=x
  ·subst h;simp;omega
  ·simp[h]
theorem aKh (s:Str):∀(l:List Str) (m:CM),k9 (l++[s]) m=inc s (k9 l m)
 | [],_=>rfl
 | x::l,m=>by rw[A1,k9,aKh s l];rfl
theorem aKw (s:Str):∀(l:List Str) (m:CM),decs (l++[s]) m=a0g s (decs l m)
 | [],_=>rfl
 | x::l,m=>by rw[A1,decs,aKw s l];rfl
def Cok (m:CM):Prop:=∀s,0≤cnt m s∧cnt m s≤1000000000
def tK (m m':CM):Prop:=∀s,cnt m s=cnt m' s
def eX (m:CM):AObj:=.map false (m.map aMr)
theorem aA1 (m:CM) (s:Str):∃r,fT s (m.map aMr)=r∧((∃n,r=some [.int .i64 n]∧cnt m s=n)∨(r=none∧cnt m s=0)):=by
 refine⟨_,rfl,?_⟩;rw[aD5];unfold cnt;cases aTf s m with
 | none=>exact .inr ⟨rfl,rfl⟩
 | some n=>exact .inl ⟨n,rfl,rfl⟩
theorem aCy:∀l:List R,V.refsL (l.map V.one)=R.refsL l
 | []=>rfl
 | r::l=>by rw[At,V.refsL,aCy l];rfl
theorem tA {k:Nat}{o o':AObj}{h:List (Nat×AObj)}{id:Nat}{x:AObj}(e:Go.AM.look ((k,o)::h) id=some x):upd (Go.AM.look ((k,o')::h)) k (some o) id=some x:=by
 rw[pN] at e ⊢;rw[mE];exact e
theorem aXs {m:CM}{s:Str}{n:Int}(h:cnt m s=n):qO s [.int .i64 (n+1)] (m.map aMr)=(inc s m).map aMr:=by
 rw[aAu,inc,h]
theorem aQ8 {m:CM}{s:Str}{n:Int}(h:cnt m s=n):qO s [.int .i64 (n-1)] (m.map aMr)=(a0g s m).map aMr:=by
 rw[aAu,a0g,h]
theorem kJ (x:Str) (l:List Str) (i:Nat):0≤times x (l.take i)∧times x (l.take i)≤l.length:=by
 unfold times;have h1:=Bp (a:=x) (l:=l.take i);have h2:(l.take i).length≤l.length:=by rw[Ap];omega
 omega
theorem gG {f:FuncId}{caps:List R}(names:List Str) (m m2:CM) (h1 h2:List (Nat×AObj)) (ks:List Nat) (hn:names.length≤8000000) (hm:Cok m) (aj:Cok m2)
  (q:∀x:CM,Wf ks ((800,eX x)::h1)) (Z:∀x:CM,Wf ks ((800,eX x)::h2)) (y:subset (800::R.refsL caps) ks=true) (ai:a6v Tryz.prog f=true)
  (hf:aW Tryz.prog f (caps.map V.one) ((800,eX (k9 names m))::h1) (.tup []) ((800,eX m2)::h2)):
  aW Tryz.prog 30 [.one (.mr 800),bV names,.one (.clo f caps)] ((800,eX m)::h1) (.tup []) ((800,eX (decs names m2))::h2):=by
 have am:∀x,keys ((800,eX x)::h1)=ks:=fun x=>(q x).keys
 have ab:(names.map bA).length=names.length:=φ _;have aa:subset [800] ks=true:=by simp[subset] at y ⊢;exact y.1
 refine bZ (n:=34) tok Tryz.func30 rfl rfl rfl ?_;rw[am];refine a8 (sg rfl (aC (aK (fun i:Nat=>mk [(0,.one (.mr 800)),(1,bV names),(2,.one (.clo f caps)),(10,bV names),(11,I .i64 ((names.map bA).length:Int)),(12,I .i64 i)] ((800,eX (k9 (names.take i) m))::h1)) (fun i=>i≤names.length) (fun i=>names.length-i) 0 (Al _) (Sub.heap (q _) ⟨rfl,rfl,rfl,rfl,rfl,rfl,trivial⟩ (fun _ _ h=>h) (by simpa [jU,V.refs,R.refs,I,bV] using y) (fG _) rfl) ?_)));intro i hi;refine sg rfl (a8 (aA rfl (fun hb=>?_) (fun hb=>?_)))
 ·have J:=ltD hb ab;obtain⟨s,hs⟩:=aJ J;have ap:=bT bA hs;have O:k9 (names.take (i+1)) m=inc s (k9 (names.take i) m):=by rw[cB hs,aKh]
  have ac:=eI s (names.take i) m;have aq:=kJ s names i;have ar:=hm s;have ad:=nO (k9 (names.take i) m);generalize k9 (names.take i) m=x at O ac ad ⊢;obtain⟨r,hr,ae⟩:=aA1 x s;refine aD (a8 (aC (sgh [(0,.row i (bA s))] rfl ?_)));rcases ae with⟨n,rfl,Y⟩ | ⟨rfl,Y⟩
  ·refine ag [(2,.look (some [.int .i64 n]))] rfl (ag [] rfl ⟨i+1,J,by dsimp only;omega,?_⟩);dsimp only;rw[O]
   exact Sub.heap (q _) ⟨rfl,rfl,rfl,rfl,rfl,rfl,trivial⟩ (fun id o h=>by
    have:=tA (o':=eX x) h;unfold eX at this;rw[←aXs Y] at this
    exact this) (by simpa [jU,V.refs,R.refs,I,bV] using y) (fG _) rfl
  ·refine ag [(2,.look none)] rfl (ag [] rfl ⟨i+1,J,by dsimp only;omega,?_⟩);dsimp only;rw[O]
   exact Sub.heap (q _) ⟨rfl,rfl,rfl,rfl,rfl,rfl,trivial⟩ (fun id o h=>by
    have:=tA (o':=eX x) h;unfold eX at this;rw[←aXs Y] at this
    exact this) (by simpa [jU,V.refs,R.refs,I,bV] using y) (fG _) rfl
 have ah:=geD hb ab hi;subst ah;rw[As];refine aL (sk 1 rfl (kv (args:=[]) hf ?_ (hb:=wP ai) (hin':=(q _).all) (hout':=(q _).hout (Z _)) (hok:=(q _).callOk (by rw[A3,aCy];simp[subset] at y ⊢;exact y.2))));refine az (sg rfl (aC ?_))
 refine aK (fun i:Nat=>mk [(0,.one (.mr 800)),(23,bV names),(24,I .i64 ((names.map bA).length:Int)),(25,I .i64 i)] ((800,eX (decs (names.take i) m2))::h2)) (fun i=>i≤names.length) (fun i=>names.length-i) 0 (Al _) (Sub.heap (Z _) ⟨rfl,rfl,rfl,rfl,trivial⟩ (fun id o h=>by
   show updL (Go.AM.look _) (outs ((800,eX m2)::h2)) id=some o;rw[fJ];have h':Go.AM.look ((800,eX m2)::h2) id=some o:=h
   rw[h']) (by simpa [jU,V.refs,R.refs,I,bV] using aa) (fG _) rfl) ?_
 intro i hi;refine sg rfl (a8 (aA rfl (fun hb=>?_) (fun hb=>?_)))
 ·have J:=ltD hb ab;obtain⟨s,hs⟩:=aJ J;have ap:=bT bA hs;have O:decs (names.take (i+1)) m2=a0g s (decs (names.take i) m2):=by rw[cB hs,aKw]
  have ac:=aBo s (names.take i) m2;have aq:=kJ s names i;have ar:=aj s;have ad:=nO (decs (names.take i) m2);generalize decs (names.take i) m2=x at O ac ad ⊢;obtain⟨r,hr,ae⟩:=aA1 x s;refine aD (a8 (aC (sgh [(0,.row i (bA s))] rfl ?_)));rcases ae with⟨n,rfl,Y⟩ | ⟨rfl,Y⟩
  ·refine ag [(2,.look (some [.int .i64 n]))] rfl (ag [] rfl ⟨i+1,J,by dsimp only;omega,?_⟩);dsimp only;rw[O]
   exact Sub.heap (Z _) ⟨rfl,rfl,rfl,rfl,trivial⟩ (fun id o h=>by
    have:=tA (o':=eX x) h;unfold eX at this;rw[←aQ8 Y] at this
    exact this) (by simpa [jU,V.refs,R.refs,I,bV] using aa) (fG _) rfl
  ·refine ag [(2,.look none)] rfl (ag [] rfl ⟨i+1,J,by dsimp only;omega,?_⟩);dsimp only;rw[O]
   exact Sub.heap (Z _) ⟨rfl,rfl,rfl,rfl,trivial⟩ (fun id o h=>by
    have:=tA (o':=eX x) h;unfold eX at this;rw[←aQ8 Y] at this
    exact this) (by simpa [jU,V.refs,R.refs,I,bV] using aa) (fG _) rfl
 have ah:=geD hb ab hi;subst ah;rw[As];exact aL ⟨.inl rfl,Fin.heap (q _) (Z _) (fun _ _ h=>h) .nil .nil rfl⟩
theorem u7 {L:List Nat}:∀{rows:List (List R)},(∀row∈rows,∀x∈R.refsL row,x∈L)→∀x∈dB rows,x∈L
 | [],_,x,hx=>by simp[dB] at hx
 | r::rows,h,x,hx=>by
  rcases ω.1 hx with hx | hx
  ·exact h r η x hx
  ·exact u7 (fun q y=>h q (χ _ y)) x hx
def rU (id fo sz:Nat) (g:List Str) (i:Nat):List R:=[.ep id i fo sz,.c (.sl 1 (g.map bA))]
def jJ (g:List Str) (n k:Nat):List (List R):=(List.range k).map fun i=>rU 701 5 n g i
def j8 (g:List Str) (n k:Nat):List (List R):=(List.range k).map fun i=>rU 702 0 n g i
def tM (al:List Alt) (i:Nat):List Str:=((al[i]?).map Alt.vars).getD []
def jW (g:List Str) (al:List Alt) (k:Nat):List (List R):=(List.range k).map fun i=>rU 703 4 al.length (g++tM al i) i
theorem aMa (g:List Str) (n k:Nat):jJ g n (k+1)=jJ g n k++[rU 701 5 n g k]:=by unfold jJ;rw[range_succ,A6];rfl
theorem aL9 (g:List Str) (n k:Nat):j8 g n (k+1)=j8 g n k++[rU 702 0 n g k]:=by unfold j8;rw[range_succ,A6];rfl
theorem aMb (g:List Str) (al:List Alt) (k:Nat):jW g al (k+1)=jW g al k++[rU 703 4 al.length (g++tM al k) k]:=by unfold jW;rw[range_succ,A6];rfl
theorem iU (g:List Str) (n k:Nat):(jJ g n k).length=k:=by simp[jJ]
theorem kO (g:List Str) (n k:Nat):(j8 g n k).length=k:=by simp[j8]
theorem aC8 (g:List Str) (al:List Alt) (k:Nat):(jW g al k).length=k:=by simp[jW]
def iA:AObj:=.rarr 132 2 [[.ep 701 0 0 0,.ep 702 0 0 0],[.ep 703 0 0 0,.ep 703 0 0 0]]
def aJt (rows:List (List R)):AObj:=.rarr 132 2 rows
theorem uD {id fo sz:Nat}{g:List Str}{i:Nat}:∀x∈R.refsL (rU id fo sz g i),x=id:=by
 intro x hx;simpa [rU,R.refsL,R.refs] using hx
theorem fM {g:List Str}{n m a b k:Nat}{al:List Alt}:∀x∈(aJt (jJ g n a++(j8 g m b++jW g al k))).refs,x∈iA.refs:=by
 refine u7 fun row q x hx=>?_
 show x∈([701,702,703,703]:List Nat);rcases ω.1 q with q | q
 ·obtain⟨i,_,rfl⟩:=Ah.1 q;rw[uD x hx];simp
 ·rcases ω.1 q with q | q
  ·obtain⟨i,_,rfl⟩:=Ah.1 q;rw[uD x hx];simp
  ·obtain⟨i,_,rfl⟩:=Ah.1 q;rw[uD x hx];simp
def aBp (f n:Int) (s:Str) (t:Ty) (nk nb na:Nat):List R:=[.c (.int .i64 f),.c (.int .i64 n),.c (.str s),.c (.int .i64 t.form),.c (.int .i64 t.n),.c (.str t.name),.c (.sl 4 (iK t)),.hs 702 0 nk nk,.hs 701 0 nb nb,.hs 703 0 na na]
def fN (f:Int) (s:Str) (ks:List Core) (bs:List Bind) (al:List Alt):List (List R):=jJ (gvs f s bs) bs.length bs.length++(j8 (gvs f s bs) ks.length ks.length++jW (gvs f s bs) al al.length)
def aO3 (f n:Int) (s:Str) (t:Ty) (ks:List Core) (bs:List Bind) (al:List Alt):List (Nat×AObj):=
 [(700,.var 30 (aBp f n s t ks.length bs.length al.length)),(701,.arr 35 15 (aR bs) 0),(702,.arr 30 10 (aT ks) 0),(703,.arr 73 14 (bP al) 0)]
theorem aBu (f n:Int) (s:Str) (t:Ty) (ks:List Core) (bs:List Bind) (al:List Alt) (aj:aQ (.mk f n s t ks bs al)≤4000000):
  aW Tryz.prog 78 [.one (.vp 700 0)] [(700,.var 30 (bF (.mk f n s t ks bs al)))] (.one (.ra 704 0 (fN f s ks bs al).length (fN f s ks bs al).length)) ((704,aJt (fN f s ks bs al))::aO3 f n s t ks bs al):=by
 obtain⟨ay,aB,aG,aH,aI,aM⟩:= @dL f n s t ks bs al;have O:(aR bs).length=bs.length:=by rw[bC,φ]
 have am:(aT ks).length=ks.length:=by rw[b7,φ]
 have ap:(bP al).length=al.length:=by rw[bN,φ]
 have aa:=vV (aR bs) (by omega);have ab:=vU (aT ks) (by omega);have ac:=wO (bP al) (by omega);rw[O] at aa;rw[am] at ab;rw[ap] at ac;refine bZ (n:=148) tok Tryz.func78 rfl rfl rfl ?_;refine sg rfl (sg rfl ?_);have aq:(if f=5 then [s] else []).length≤1:=by split<;>simp
 refine a8 (AWp.cut (mk [(0,.one (.vp 700 0)),(3,.one (.hs 720 0 (if f=5 then [s] else []).length (if f=5 then [s] else []).length))] [(700,.var 30 (bF (.mk f n s t ks bs al))),(720,.arr 9 1 ((if f=5 then [s] else []).map bA) 0)]) ?_ ?_)
 ·refine sg rfl (aA rfl (fun hb=>?_) (fun hb=>?_))
  ·have h5:f=5:=ψ hb;rw[κ h5];exact ag [(4,.id 720)] rfl sl
  ·have h5:¬f=5:=π hb;rw[θ h5];exact AWp.sub (Sub.own (t:=3) (id:=720) 9 1 rfl rfl) (aD sl)
 have Y:gvs f s bs=(if f=5 then [s] else [])++bs.map Bind.name:=rfl;have ar:=aQd f s bs;generalize (if f=5 then [s] else [])=w at aq Y;refine a8 (sg rfl (aC (aK (fun i:Nat=>mk [(0,.one (.vp 700 0)),(3,.one (.hs 720 0 (w.length+i) (w.length+i))),(23,.one (.c (.sl 15 (aR bs)))),(24,I .i64 ((aR bs).length:Int)),(25,I .i64 i)] [(700,.var 30 (bF (.mk f n s t ks bs al))),(720,.arr 9 1 ((w++(bs.take i).map Bind.name).map bA) 0)]) (fun i=>i≤bs.length) (fun i=>bs.length-i) 0 (Al _) sl ?_)));intro i hi;refine sg rfl (a8 (aA rfl (fun hb=>?_) (fun hb=>?_)))
 ·have q:=ltD hb O;obtain⟨b,ad⟩:=aJ q;have aw:=cR ad;have av:(w++(bs.take i).map Bind.name).map bA++[[.str b.name]]=(w++(bs.take (i+1)).map Bind.name).map bA:=by
   rw[cB ad];simp[bA]
  exact aD (a8 (aC (sgh [(0,.row i (aS b))] rfl (ag [] rfl (ag [] rfl ⟨i+1,q,by dsimp only;omega,sl⟩)))))
 have J:=geD hb O hi;subst J;refine aL ?_;rw[As,←Y];have ae:w.length+bs.length=(gvs f s bs).length:=by rw[Y];simp
 rw[ae];rw[show fN f s ks bs al=jJ (gvs f s bs) bs.length bs.length++(j8 (gvs f s bs) ks.length ks.length++jW (gvs f s bs) al al.length) from rfl];generalize gvs f s bs=g at ar;refine AWp.sub (Sub.freeze (id:=720) rfl) (AWp.sub (cv 3 (g.map bA)) ?_);refine AWp.sub (st2:=mk [(0,.one (.vp 700 0)),(3,bV g)] [(700,.var 30 (bF (.mk f n s t ks bs al)))]) sl ?_;refine sk 7 rfl (kc aa ?_);refine ak 4 [] rfl (kc ab ?_);refine ak 4 [] rfl (kc ac ?_);refine kz 9 rfl (sg rfl (AWp.sub (Sub.ownR (t:=6) (id:=704) 132 2 rfl rfl) ?_));refine a8 (sg rfl (aC (aK (fun i:Nat=>mk [(0,.one (.vp 700 0)),(3,bV g),(6,.one (.ra 704 0 (jJ g bs.length i).length (jJ g bs.length i).length)),(63,I .i64 ((bs.length:Nat):Int)),(64,I .i64 i)] ((704,aJt (jJ g bs.length i))::aO3 f n s t ks bs al)) (fun i=>i≤bs.length) (fun i=>bs.length-i) 0 (Al _) (slR iA (by simpa [j8,jW] using fM (g:=g) (n:=bs.length) (a:=0) (m:=0) (b:=0) (al:=[]) (k:=0)) ⟨_,rfl,.rarrS rfl⟩) ?_)));intro i hi;have aN:=iU g bs.length i;refine sg rfl (a8 (aA rfl (fun hb=>?_) (fun hb=>?_)))
 ·have q:i<bs.length:=by
   have:(i:Int)<(bs.length:Int):=ψ hb;omega
  have y:=aMa g bs.length i;refine aD (a8 (aC (sg rfl (ag [] rfl (ag [] rfl ⟨i+1,q,by dsimp only;omega,?_⟩)))));dsimp only;rw[y];refine slR iA (by rw[←y];simpa [j8,jW] using fM (g:=g) (n:=bs.length) (a:=i+1) (m:=0) (b:=0) (al:=[]) (k:=0)) ⟨_,rfl,.rarrS rfl⟩ (he:=⟨rfl,rfl,?_,rfl,rfl,trivial⟩);show some (V.one (R.ra 704 0 _ _))=some (V.one (R.ra 704 0 _ _));rw[ε];rfl
 have J:i=bs.length:=by
  have:¬(i:Int)<(bs.length:Int):=π hb;omega
 subst J;refine aL (a8 (sg rfl (aC ?_)))
 refine aK (fun i:Nat=>mk [(0,.one (.vp 700 0)),(3,bV g),(6,.one (.ra 704 0 (jJ g bs.length bs.length++j8 g ks.length i).length (jJ g bs.length bs.length++j8 g ks.length i).length)),(84,I .i64 ((ks.length:Nat):Int)),(85,I .i64 i)] ((704,aJt (jJ g bs.length bs.length++j8 g ks.length i))::aO3 f n s t ks bs al)) (fun i=>i≤ks.length) (fun i=>ks.length-i) 0 (Al _) (by
  rw[show j8 g ks.length 0=[] from rfl,A9]
  exact slR iA (by simpa [j8,jW] using fM (g:=g) (n:=bs.length) (a:=bs.length) (m:=0) (b:=0) (al:=[]) (k:=0)) ⟨_,rfl,.rarrS rfl⟩) ?_
 intro i hi;have aO:(jJ g bs.length bs.length++j8 g ks.length i).length=bs.length+i:=by rw[ε,iU,kO]
 refine sg rfl (a8 (aA rfl (fun hb=>?_) (fun hb=>?_)))
 ·have q:i<ks.length:=by
   have:(i:Int)<(ks.length:Int):=ψ hb;omega
  have y:=aL9 g ks.length i;refine aD (a8 (aC (sg rfl (ag [] rfl (ag [] rfl ⟨i+1,q,by dsimp only;omega,?_⟩)))));dsimp only;rw[y,←Aw];refine slR iA (by rw[Aw,←y];simpa [jW] using fM (g:=g) (n:=bs.length) (a:=bs.length) (m:=ks.length) (b:=i+1) (al:=[]) (k:=0)) ⟨_,rfl,.rarrS rfl⟩ (he:=⟨rfl,rfl,?_,rfl,rfl,trivial⟩);show some (V.one (R.ra 704 0 _ _))=some (V.one (R.ra 704 0 _ _));rw[ε (bs:=[rU 702 0 ks.length g i])];rfl
 have J:i=ks.length:=by
  have:¬(i:Int)<(ks.length:Int):=π hb;omega
 subst J;refine aL (a8 (sg rfl (aC ?_)))
 refine aK (fun i:Nat=>mk [(0,.one (.vp 700 0)),(3,bV g),(6,.one (.ra 704 0 (jJ g bs.length bs.length++(j8 g ks.length ks.length++jW g al i)).length (jJ g bs.length bs.length++(j8 g ks.length ks.length++jW g al i)).length)),(104,I .i64 ((al.length:Nat):Int)),(105,I .i64 i)] ((704,aJt (jJ g bs.length bs.length++(j8 g ks.length ks.length++jW g al i)))::aO3 f n s t ks bs al)) (fun i=>i≤al.length) (fun i=>al.length-i) 0 (Al _) (by
  rw[show jW g al 0=[] from rfl,A9]
  exact slR iA (by simpa [jW] using fM (g:=g) (n:=bs.length) (a:=bs.length) (m:=ks.length) (b:=ks.length) (al:=[]) (k:=0)) ⟨_,rfl,.rarrS rfl⟩) ?_
 intro i hi;have aP:(jJ g bs.length bs.length++(j8 g ks.length ks.length++jW g al i)).length=bs.length+(ks.length+i):=by rw[ε,ε,iU,kO,aC8]
 refine sg rfl (a8 (aA rfl (fun hb=>?_) (fun hb=>?_)))
 ·have q:i<al.length:=by
   have:(i:Int)<(al.length:Int):=ψ hb;omega
  obtain⟨a,Z⟩:=aJ q;have ah:=gE Z;have hm:=δ Z;have aU:=jE hm;have aV:=nZ a;have aX:=nK a.vars;have ai:=aj;rw[aQ] at ai;have aY:(a.vars.map bA).length=a.vars.length:=φ _;have aZ:=(mA (a.vars.map bA) (by omega)).plain rfl;have a0:=yO g a.vars (by have:=iO bs;omega);have au:tM al i=a.vars:=by unfold tM;rw[Z];rfl
  have ax:=oZ ah;have y:=aMb g al i;rw[au] at y;refine aD (a8 (aC (sg rfl (sgh [(12,.row i (cO a)),(13,.pc (bV a.vars)),(16,.row i (cO a))] rfl (AWp.sub (st2:=mk [(0,.one (.vp 700 0)),(3,bV g),(6,.one (.ra 704 0 (jJ g bs.length bs.length++(j8 g ks.length ks.length++jW g al i)).length (jJ g bs.length bs.length++(j8 g ks.length ks.length++jW g al i)).length)),(9,I .i64 i),(104,I .i64 ((al.length:Nat):Int)),(105,I .i64 i)] ((704,aJt (jJ g bs.length bs.length++(j8 g ks.length ks.length++jW g al i)))::aO3 f n s t ks bs al)) (slR iA fM ⟨_,rfl,.rarrS rfl⟩) ?_)))));refine ag [(16,.row i (cO a)),(17,.all),(18,.pc (bV (g++a.vars)))] rfl (ag [] rfl ⟨i+1,q,by dsimp only;omega,?_⟩);dsimp only;rw[y,←Aw,←Aw];refine slR iA (by rw[Aw,Aw,←y];exact fM) ⟨_,rfl,.rarrS (by rw[←Aw];rfl)⟩ (he:=⟨rfl,rfl,?_,rfl,rfl,trivial⟩);show some (V.one (R.ra 704 0 _ _))=some (V.one (R.ra 704 0 _ _));rw[ε (bs:=[rU 703 4 al.length (g++a.vars) i]),←Aw];rfl
 have J:i=al.length:=by
  have:¬(i:Int)<(al.length:Int):=π hb;omega
 subst J;refine aL (sg rfl (aF ⟨.inr rfl,?_⟩));exact a9k iA fM ⟨_,_,.tmp rfl .nil,.cons .refl .nil,rfl⟩ ⟨⟨_,rfl,.rarrS rfl⟩,⟨_,rfl,.var rfl⟩,⟨_,rfl,.arr⟩,⟨_,rfl,.arr⟩,⟨_,rfl,.arr⟩,trivial⟩ rfl rfl
def dC (f:Int) (s:Str) (ks:List Core) (bs:List Bind) (al:List Alt):List (List Str×Core):=
 bs.map (fun b=>(gvs f s bs,b.body))++(ks.map (fun k=>(gvs f s bs,k))++al.map (fun a=>(gvs f s bs++a.vars,a.body)))
def sR:List (List Str×Core)→Nat
 | []=>0
 | p::l=>aQ p.2+sR l
theorem pE:∀a b:List (List Str×Core),sR (a++b)=sR a+sR b
 | [],b=>by simp[sR]
 | p::a,b=>by rw[A1,sR,sR,pE a b];omega
theorem aXa (g:List Str):∀l:List Bind,sR (l.map fun b=>(g,b.body))≤c9 l
 | []=>Al _
 | b::l=>by rw[At,sR,c9];have:=aXa g l;have:=yR b;dsimp only;omega
theorem aW9 (g:List Str):∀l:List Core,sR (l.map fun b=>(g,b))≤bM l
 | []=>Al _
 | b::l=>by rw[At,sR,bM];have:=aW9 g l;dsimp only;omega
theorem aXb (g:List Str):∀l:List Alt,sR (l.map fun b=>(g++b.vars,b.body))≤cK l
 | []=>Al _
 | b::l=>by rw[At,sR,cK];have:=aXb g l;have:=nZ b;dsimp only;omega
theorem aUh {f n:Int}{s:Str}{t:Ty}{ks:List Core}{bs:List Bind}{al:List Alt}:sR (dC f s ks bs al)<aQ (.mk f n s t ks bs al):=by
 unfold dC;rw[pE,pE,aQ];have:=aXa (gvs f s bs) bs;have:=aW9 (gvs f s bs) ks;have:=aXb (gvs f s bs) al;omega
theorem aOw {l:List (List Str×Core)}{i:Nat}{p:List Str×Core}(h:l[i]?=some p):sR (l.take i)+aQ p.2≤sR l:=by
 have h1:=Cs (i+1) l;have h2:=pE (l.take (i+1)) (l.drop (i+1));rw[h1,cB h,pE] at h2;simp only[sR] at h2;omega
theorem sS {f n:Int}{s:Str}{t:Ty}{ks:List Core}{bs:List Bind}{al:List Alt}{p:List Str×Core}(h:p∈dC f s ks bs al):aQ p.2<aQ (.mk f n s t ks bs al)∧p.1.length+aQ p.2≤aQ (.mk f n s t ks bs al):=by
 have y:=aQd f s bs;rw[aQ];unfold dC at h;rcases ω.1 h with h | h
 ·obtain⟨b,hb,rfl⟩:=Ah.1 h;obtain⟨i,hi⟩:=Bf hb;have h1:=kY hi;have h2:=yR b;have h3:=iO (bs.take i);have h4:=(ξ.1 hi).1
  rw[Ap] at h3;dsimp only;omega
 ·have q:=iO bs;rcases ω.1 h with h | h
  ·obtain⟨k,hk,rfl⟩:=Ah.1 h;have:=rG hk;dsimp only;omega
  ·obtain⟨a,ha,rfl⟩:=Ah.1 h;have h1:=jE ha;have h2:=nZ a;have h3:=nK a.vars;dsimp only;rw[ε];omega
theorem aG8 (A:Str→Bool) {f n:Int}{s:Str}{t:Ty}{ks:List Core}{bs:List Bind}{al:List Alt}(q:¬f=1) (G:Str→Bool) (out:List Str):eG A (.mk f n s t ks bs al) G out=(dC f s ks bs al).foldl (fun o p=>eG A p.2 (ext G p.1) o) out:=by
 rw[eG,θ q,oQ,oO,oP];unfold dC;rw[Bu,Bu,List.foldl_map,List.foldl_map,List.foldl_map];simp only[aHg]
theorem aEt (A:Str→Bool) (G:Str→Bool):∀(l:List (List Str×Core)) (out:List Str),(l.foldl (fun o p=>eG A p.2 (ext G p.1) o) out).length≤out.length+sR l
 | [],out=>by simp[sR]
 | p::l,out=>by
  rw[Cm,sR];have:=aEt A G l (eG A p.2 (ext G p.1) out);have:=pV A p.2 (ext G p.1) out;omega
def dW (m:CM):Str→Bool:=fun s=>decide (0<cnt m s)
theorem n5 {m:CM}(h:∀s,0≤cnt m s) (g:List Str):dW (k9 g m)=ext (dW m) g:=by
 funext s;unfold dW ext;rw[eI];have h1:=h s;unfold times;rw[Bool.eq_iff_iff];simp only[A4,Bi];have h2:s∈g↔0<g.count s:=List.count_pos_iff.symm;rw[h2];omega
theorem pQ {m q:CM}(h:tK m q):dW m=dW q:=by
 funext s;unfold dW;rw[h s]
theorem uU (m:CM) (s:Str):oL ⟨.int .i64,1,8,[.int .i64 0]⟩ (fT s (m.map aMr))=I .i64 (cnt m s):=by
 obtain⟨r,q,⟨n,h1,h2⟩ | ⟨h1,h2⟩⟩:=aA1 m s
 ·rw[q,h1,h2];rfl
 ·rw[q,h1,h2];rfl
def fH (m a:CM) (out:List Str):List (Nat×AObj):=[(800,eX m),(801,eX a),(802,.var 65 [.hs 900 0 out.length out.length]),(900,a3w out)]
def mT:Nat:=80
def aH8 (c:Core):Prop:=∀(m a:CM) (out:List Str),(∀s,0≤cnt m s∧cnt m s+aQ c≤1000000000)→aQ c≤400000→out.length+aQ c≤1000000→
 ∃m',tK m m'∧aW Tryz.prog 127 [.one (.mr 800),.pa (aB c),.one (.mr 801),.one (.vp 802 0)] (fH m a out) (.tup []) (fH m' a (eG (dW a) c (dW m) out))
def fL (ep:R) (g:List Str) (a:CM) (out:List Str) (ks:List Core) (bs:List Bind) (al:List Alt):List (Nat×AObj):=
 [(4,.var mT [.mr 800]),(9,.var 132 [ep,.c (.sl 1 (g.map bA))]),(6,.var mT [.mr 801]),(7,.var 170 [.vp 802 0]),(701,.arr 35 15 (aR bs) 0),(702,.arr 30 10 (aT ks) 0),(703,.arr 73 14 (bP al) 0),(801,eX a),(802,.var 65 [.hs 900 0 out.length out.length]),(900,a3w out)]
theorem aRw {m y a:CM}{out q:List Str}{ks:List Core}{bs:List Bind}{al:List Alt}(g:List Str) {i:Nat}{b:_}(hx:bs[i]?=some b)
  (I:aW Tryz.prog 127 [.one (.mr 800),.pa (aB b.body),.one (.mr 801),.one (.vp 802 0)] (fH m a out) (.tup []) (fH y a q)):
  aW Tryz.prog 153 ([R.vp 4 0,R.vp 9 0,R.vp 6 0,R.vp 7 0].map V.one) ((800,eX m)::fL (.ep 701 i 5 bs.length) g a out ks bs al) (.tup []) ((800,eX y)::fL (.ep 701 i 5 bs.length) g a q ks bs al):=by
 have J:(aR bs)[i]?=some (aS b):=by first | exact cR hx | exact fA hx | exact gE hx
 have hl:bs.length=(aR bs).length:=by first | rw[bC,φ] | rw[b7,φ] | rw[bN,φ]
 have O:=(ξ.1 hx).1
 refine bZ (n:=12) tok Tryz.func153 rfl rfl rfl ?_;refine aE mixed (ak 7 [(4,.row i (aS b))] rfl (kc I ?_));exact az ⟨.inl rfl,⟨_,_,.nil,.nil,rfl⟩,⟨⟨_,rfl,.map⟩,⟨_,rfl,.var rfl⟩,⟨_,rfl,.var rfl⟩,⟨_,rfl,.var rfl⟩,⟨_,rfl,.var rfl⟩,⟨_,rfl,.arr⟩,⟨_,rfl,.arr⟩,⟨_,rfl,.arr⟩,⟨_,rfl,.map⟩,⟨_,rfl,.var rfl⟩,⟨_,rfl,.arr⟩,trivial⟩,rfl⟩
theorem aRv {m y a:CM}{out q:List Str}{ks:List Core}{bs:List Bind}{al:List Alt}(g:List Str) {i:Nat}{k:_}(hx:ks[i]?=some k)
  (I:aW Tryz.prog 127 [.one (.mr 800),.pa (aB k),.one (.mr 801),.one (.vp 802 0)] (fH m a out) (.tup []) (fH y a q)):
  aW Tryz.prog 153 ([R.vp 4 0,R.vp 9 0,R.vp 6 0,R.vp 7 0].map V.one) ((800,eX m)::fL (.ep 702 i 0 ks.length) g a out ks bs al) (.tup []) ((800,eX y)::fL (.ep 702 i 0 ks.length) g a q ks bs al):=by
 have J:(aT ks)[i]?=some (aB k):=by first | exact cR hx | exact fA hx | exact gE hx
 have hl:ks.length=(aT ks).length:=by first | rw[bC,φ] | rw[b7,φ] | rw[bN,φ]
 have O:=(ξ.1 hx).1
 refine bZ (n:=12) tok Tryz.func153 rfl rfl rfl ?_;refine aE mixed (ak 7 [(4,.row i (aB k))] rfl (kc I ?_));exact az ⟨.inl rfl,⟨_,_,.nil,.nil,rfl⟩,⟨⟨_,rfl,.map⟩,⟨_,rfl,.var rfl⟩,⟨_,rfl,.var rfl⟩,⟨_,rfl,.var rfl⟩,⟨_,rfl,.var rfl⟩,⟨_,rfl,.arr⟩,⟨_,rfl,.arr⟩,⟨_,rfl,.arr⟩,⟨_,rfl,.map⟩,⟨_,rfl,.var rfl⟩,⟨_,rfl,.arr⟩,trivial⟩,rfl⟩
theorem aRx {m I a:CM}{out y:List Str}{ks:List Core}{bs:List Bind}{al:List Alt}(g:List Str) {i:Nat}{q:_}(hx:al[i]?=some q)
  (J:aW Tryz.prog 127 [.one (.mr 800),.pa (aB q.body),.one (.mr 801),.one (.vp 802 0)] (fH m a out) (.tup []) (fH I a y)):
  aW Tryz.prog 153 ([R.vp 4 0,R.vp 9 0,R.vp 6 0,R.vp 7 0].map V.one) ((800,eX m)::fL (.ep 703 i 4 al.length) g a out ks bs al) (.tup []) ((800,eX I)::fL (.ep 703 i 4 al.length) g a y ks bs al):=by
 have O:(bP al)[i]?=some (cO q):=by first | exact cR hx | exact fA hx | exact gE hx
 have hl:al.length=(bP al).length:=by first | rw[bC,φ] | rw[b7,φ] | rw[bN,φ]
 have Y:=(ξ.1 hx).1
 refine bZ (n:=12) tok Tryz.func153 rfl rfl rfl ?_;refine aE mixed (ak 7 [(4,.row i (cO q))] rfl (kc J ?_));exact az ⟨.inl rfl,⟨_,_,.nil,.nil,rfl⟩,⟨⟨_,rfl,.map⟩,⟨_,rfl,.var rfl⟩,⟨_,rfl,.var rfl⟩,⟨_,rfl,.var rfl⟩,⟨_,rfl,.var rfl⟩,⟨_,rfl,.arr⟩,⟨_,rfl,.arr⟩,⟨_,rfl,.arr⟩,⟨_,rfl,.map⟩,⟨_,rfl,.var rfl⟩,⟨_,rfl,.arr⟩,trivial⟩,rfl⟩
theorem tK.decs {m q:CM}{g:List Str}(h:tK (k9 g m) q):tK m (decs g q):=fun s=>by
 have h1:=h s;rw[eI] at h1;rw[aBo,←h1];omega
theorem nW {α:Type}{P:Nat→α→Prop}{R:Nat→α→α→Prop}(q:α) (h0:P 0 q) (h:∀i x,P i x→∃y,P (i+1) y∧R i x y):∃s:Nat→α,s 0=q∧(∀i,P i (s i))∧∀i,R i (s i) (s (i+1)):=by
 let f:(i:Nat)→{ x:α//P i x }:=fun i=>Nat.rec ⟨q,h0⟩ (fun i x=>⟨Classical.choose (h i x.1 x.2),(Ch (h i x.1 x.2)).1⟩) i
 exact⟨fun i=>(f i).1,rfl,fun i=>(f i).2,fun i=>(Ch (h i (f i).1 (f i).2)).2⟩
theorem iX (f:Int) (s:Str) (ks:List Core) (bs:List Bind) (al:List Alt):(fN f s ks bs al).length=bs.length+(ks.length+al.length):=by
 unfold fN;rw[ε,ε,iU,kO,aC8]
theorem qV (f:Int) (s:Str) (ks:List Core) (bs:List Bind) (al:List Alt):(dC f s ks bs al).length=bs.length+(ks.length+al.length):=by
 unfold dC;simp
theorem pH (f:Int) (s:Str) (ks:List Core) (bs:List Bind) (al:List Alt) {i:Nat}(hi:i<(fN f s ks bs al).length):
  (∃j b,bs[j]?=some b∧(fN f s ks bs al)[i]?=some (rU 701 5 bs.length (gvs f s bs) j)∧(dC f s ks bs al)[i]?=some (gvs f s bs,b.body)∧i=j)∨
  (∃j k,ks[j]?=some k∧(fN f s ks bs al)[i]?=some (rU 702 0 ks.length (gvs f s bs) j)∧(dC f s ks bs al)[i]?=some (gvs f s bs,k)∧i=bs.length+j)∨
  (∃j a,al[j]?=some a∧(fN f s ks bs al)[i]?=some (rU 703 4 al.length (gvs f s bs++a.vars) j)∧(dC f s ks bs al)[i]?=some (gvs f s bs++a.vars,a.body)∧i=bs.length+(ks.length+j)):=by
 rw[iX] at hi;have q:∀n j,j<n→(List.range n)[j]?=some j:=fun n j h=>by rw[List.getElem?_range h]
 by_cases h1:i<bs.length
 ·obtain⟨b,hb⟩:=aJ h1;refine .inl ⟨i,b,hb,?_,?_,rfl⟩
  ·unfold fN jJ;rw[Ax (by simpa using h1),Aq,q _ _ h1];rfl
  ·unfold dC;rw[Ax (by simpa using h1),Aq,hb];rfl
 ·by_cases h2:i-bs.length<ks.length
  ·obtain⟨k,hk⟩:=aJ h2;refine .inr (.inl ⟨i-bs.length,k,hk,?_,?_,by omega⟩)
   ·unfold fN;rw[Ao (by rw[iU];omega),iU,Ax (by rw[kO];omega)];unfold j8;rw[Aq,q _ _ h2];rfl
   ·unfold dC;rw[Ao (by rw[φ];omega),φ,Ax (by rw[φ];omega),Aq,hk];rfl
  ·have h3:i-bs.length-ks.length<al.length:=by omega
   obtain⟨a,ha⟩:=aJ h3;refine .inr (.inr ⟨i-bs.length-ks.length,a,ha,?_,?_,by omega⟩)
   ·unfold fN;rw[Ao (by rw[iU];omega),iU,Ao (by rw[kO];omega),kO];unfold jW;rw[Aq,q _ _ h3];show some (rU 703 4 al.length (gvs f s bs++tM al (i-bs.length-ks.length)) _)=_;rw[show tM al (i-bs.length-ks.length)=a.vars by unfold tM;rw[ha];rfl]
   ·unfold dC;rw[Ao (by rw[φ];omega),φ,Ao (by rw[φ];omega),φ,Aq,ha];rfl
theorem wfF (ep:R) (g:List Str) (a:CM) (out:List Str) (ks:List Core) (bs:List Bind) (al:List Alt) (h:ep.refs=[701]∨ep.refs=[702]∨ep.refs=[703]) (x:CM):Wf [800,4,9,6,7,701,702,703,801,802,900] ((800,eX x)::fL ep g a out ks bs al):=by
 refine⟨rfl,?_⟩;rcases h with h | h | h<;>simp[fL,dI,AObj.refs,eX,a3w,R.refsL,R.refs,h,subset,AObj.live,AObj.plain]<;>rfl
theorem wM (c:Core) (ih:∀x,aQ x<aQ c→aH8 x):aH8 c:=by
 intro m a out hm hsz ho;obtain⟨f,n,s,t,ks,bs,al⟩:=c;by_cases hf:f=1
 ·refine⟨m,fun _=>rfl,?_⟩;have hr:eG (dW a) (.mk f n s t ks bs al) (dW m) out=if dW a s&& !dW m s&& !decide (s∈out) then out++[s] else out:=by rw[eG,κ hf]
  rw[hr];have hmo:=nO m;have hao:=nO a;have hlm:=uU m s;have hla:=uU a s;have hco:=s8 out s (by omega);have h0:=(hm s).1
  refine bZ (n:=55) tok Tryz.func127 rfl rfl rfl ?_;refine AWp.sub (Sub.freeze (id:=900) rfl) ?_;refine sgh [(1,.id 700)] rfl (a8 (sg rfl (aA rfl (fun _=>a8 (a8 (agF 6 [(3,.pc (I .i64 (cnt m s))),(9,.pc (I .i64 (cnt a s))),(18,.pc (B (decide (s∈out))))] rfl rfl rfl (aA rfl (fun hb=>?_) (fun hb=>?_))))) (fun hb=>absurd hf (π hb)))))
  ·have hc:(dW a s&& !dW m s&& !decide (s∈out))=true:=by
    unfold dW;by_cases O:cnt m s=0<;>by_cases Z:0<cnt a s<;>by_cases e3:s∈out<;>simp[O,Z,e3] at hb ⊢
   rw[κ hc];exact ag [] rfl (aF ⟨.inr rfl,⟨_,_,.nil,.nil,rfl⟩,⟨⟨_,rfl,.map⟩,⟨_,rfl,.map⟩,⟨_,rfl,.var (by simp[R.renL,R.ren])⟩,⟨_,rfl,by first | exact Go.AM.Ole.arrE (by simp;rfl) | exact Go.AM.Ole.arrS (by simp;rfl)⟩,trivial⟩,rfl⟩)
  ·have hc:¬(dW a s&& !dW m s&& !decide (s∈out))=true:=by
    unfold dW;by_cases O:cnt m s=0
    ·by_cases Z:0<cnt a s<;>by_cases e3:s∈out<;>simp[O,Z,e3] at hb ⊢
    ·have e4:0<cnt m s:=by omega
     simp[e4]
   rw[θ hc];exact aD (aF ⟨.inr rfl,⟨_,_,.nil,.nil,rfl⟩,⟨⟨_,rfl,.map⟩,⟨_,rfl,.map⟩,⟨_,rfl,.var rfl⟩,⟨_,rfl,.arr1⟩,trivial⟩,rfl⟩)
 ·have hm0:∀s,0≤cnt m s:=fun s=>(hm s).1
  rw[aG8 (dW a) hf];have hps:= @aUh f n s t ks bs al;have hN:(fN f s ks bs al).length=(dC f s ks bs al).length:=by rw[iX,qV]
  have hin:∀p∈dC f s ks bs al,_:=fun p hp=> @sS f n s t ks bs al p hp
  have hptk:∀{i p},(dC f s ks bs al)[i]?=some p→_:=fun {i p} h=>aOw h
  have hfl:=fun i=>aEt (dW a) (dW m) ((dC f s ks bs al).take i) out
  have hpt:∀i,∀p,(dC f s ks bs al)[i]?=some p→((dC f s ks bs al).take (i+1)).foldl (fun o p=>eG (dW a) p.2 (ext (dW m) p.1) o) out=eG (dW a) p.2 (ext (dW m) p.1) (((dC f s ks bs al).take i).foldl (fun o p=>eG (dW a) p.2 (ext (dW m) p.1) o) out):=fun i p h=>aQt _ _ h
  have hat:= @pH f s ks bs al;have hcp:=aBu f n s t ks bs al (by omega);have hrr:∀x∈(aJt (fN f s ks bs al)).refs,x∈iA.refs:=fM;have hPN:(dC f s ks bs al).take (fN f s ks bs al).length=dC f s ks bs al:=by rw[hN,As]
  rw[←hPN];generalize dC f s ks bs al=L at hps hN hin hptk hfl hpt hat hPN ⊢;generalize fN f s ks bs al=rows at hN hat hcp hrr hPN ⊢
  obtain⟨sq,hs0,hsP,hsR⟩:=nW (P:=fun _ x=>tK m x) (R:=fun i x y=>∀p,L[i]?=some p→∃Y,y=decs p.1 Y∧tK (k9 p.1 x) Y∧aW Tryz.prog 127 [.one (.mr 800),.pa (aB p.2),.one (.mr 801),.one (.vp 802 0)] (fH (k9 p.1 x) a ((L.take i).foldl (fun o p=>eG (dW a) p.2 (ext (dW m) p.1) o) out)) (.tup []) (fH Y a ((L.take (i+1)).foldl (fun o p=>eG (dW a) p.2 (ext (dW m) p.1) o) out))) m (fun _=>rfl) (fun i x hx=>by
   cases hp:L[i]? with
   | none=>exact⟨x,hx,fun p h=>by cases h⟩
   | some p=>
    obtain⟨q1,q2⟩:=hin p (δ hp);have q3:sR (L.take i)+aQ p.2≤sR L:=hptk hp;have q4:=hfl i;have hx0:∀s,0≤cnt x s:=fun s=>by rw[←hx s];exact hm0 s
    obtain⟨Y,g1,g2⟩:=ih p.2 q1 (k9 p.1 x) a ((L.take i).foldl (fun o p=>eG (dW a) p.2 (ext (dW m) p.1) o) out) (fun s=>by
     have h1:=hm s;have h2:=hx s;have h3:=eI s p.1 x;have h4:0≤times s p.1∧times s p.1≤p.1.length:=by
      unfold times;have:=Bp (a:=s) (l:=p.1);omega
     omega) (by omega) (by omega)
    rw[n5 hx0,←pQ hx,←hpt i p hp] at g2
    exact⟨decs p.1 Y,fun s=>by rw[hx s];exact tK.decs g1 s,fun p' h=>by cases h;exact⟨Y,rfl,g1,g2⟩⟩)
  refine⟨sq rows.length,hsP _,?_⟩;have hrl:rows.length≤800000:=by
   rw[hN];have:∀l:List (List Str×Core),l.length≤sR l:=by
    intro l
    induction l with
    | nil=>exact Al _
    | cons p l ih=>rw[Ai,sR];have:=bH p.2;omega
   have:=this L;omega
  refine bZ (n:=55) tok Tryz.func127 rfl rfl rfl ?_;refine sgh [(1,.id 700)] rfl (a8 (sg rfl (aA rfl (fun hb=>absurd (ψ hb) hf) (fun _=>aD (a8 (aE mixed (kc hcp ?_)))))));refine kz 2 rfl (aC (aK (fun i:Nat=>mk [(4,.one (.vp 4 0)),(6,.one (.vp 6 0)),(7,.one (.vp 7 0)),(43,.one (.ra 704 0 rows.length rows.length)),(44,I .i64 ((rows.length:Nat):Int)),(45,I .i64 i)] ((704,aJt rows)::[(4,.var mT [.mr 800]),(6,.var mT [.mr 801]),(7,.var 170 [.vp 802 0]),(701,.arr 35 15 (aR bs) 0),(702,.arr 30 10 (aT ks) 0),(703,.arr 73 14 (bP al) 0),(800,eX (sq i)),(801,eX a),(802,.var 65 [.hs 900 0 ((L.take i).foldl (fun o p=>eG (dW a) p.2 (ext (dW m) p.1) o) out).length ((L.take i).foldl (fun o p=>eG (dW a) p.2 (ext (dW m) p.1) o) out).length]),(900,a3w ((L.take i).foldl (fun o p=>eG (dW a) p.2 (ext (dW m) p.1) o) out))])) (fun i=>i≤rows.length) (fun i=>rows.length-i) 0 (Al _) (by rw[hs0];exact slR iA hrr ⟨_,rfl,.rarrS rfl⟩) ?_));intro i hi;refine sg rfl (a8 (aA rfl (fun hb=>?_) (fun hb=>?_)))
  ·have hlt:i<rows.length:=by
    have:(i:Int)<(rows.length:Int):=ψ hb;omega
   refine aD (a8 (aC ?_));rcases hat hlt with⟨j,b,hb',hro,q,_⟩ | ⟨j,k,hk',hro,q,_⟩ | ⟨j,al',ha',hro,q,_⟩
   ·obtain⟨Y,O,Z,e3⟩:=hsR i _ q;obtain⟨q1,q2⟩:=hin _ (δ q);have hx:=hsP i;have hc1:=aRw (ks:=ks) (bs:=bs) (al:=al) (gvs f s bs) hb' e3
    have J:=gG (gvs f s bs) (sq i) Y _ _ [800,4,9,6,7,701,702,703,801,802,900] (by dsimp only at q2;omega) (fun u=>by have:=hm u;have:=hx u;omega) (fun u=>by
     have h1:=hm u;have h2:=hx u;have h3:=Z u;rw[eI] at h3;have h4:0≤times u (gvs f s bs)∧times u (gvs f s bs)≤(gvs f s bs).length:=by
      unfold times;have:=Bp (a:=u) (l:=gvs f s bs);omega
     dsimp only at q2 h3
     omega) (wfF _ _ _ _ _ _ _ (by simp[R.refs])) (wfF _ _ _ _ _ _ _ (by simp[R.refs])) rfl (by kernel_rfl) hc1
    dsimp only at O;rw[←O] at J;refine sgh [(1,.rr (rU 701 5 bs.length (gvs f s bs) j))] rfl (aE mixed (ak 4 [] rfl (kc J ?_)));exact az (ag [] rfl ⟨i+1,hlt,by dsimp only;omega,slR iA hrr ⟨_,rfl,.rarrS rfl⟩⟩)
   ·obtain⟨Y,O,Z,e3⟩:=hsR i _ q;obtain⟨q1,q2⟩:=hin _ (δ q);have hx:=hsP i;have hc1:=aRv (ks:=ks) (bs:=bs) (al:=al) (gvs f s bs) hk' e3
    have J:=gG (gvs f s bs) (sq i) Y _ _ [800,4,9,6,7,701,702,703,801,802,900] (by dsimp only at q2;omega) (fun u=>by have:=hm u;have:=hx u;omega) (fun u=>by
     have h1:=hm u;have h2:=hx u;have h3:=Z u;rw[eI] at h3;have h4:0≤times u (gvs f s bs)∧times u (gvs f s bs)≤(gvs f s bs).length:=by
      unfold times;have:=Bp (a:=u) (l:=gvs f s bs);omega
     dsimp only at q2 h3
     omega) (wfF _ _ _ _ _ _ _ (by simp[R.refs])) (wfF _ _ _ _ _ _ _ (by simp[R.refs])) rfl (by kernel_rfl) hc1
    dsimp only at O;rw[←O] at J;refine sgh [(1,.rr (rU 702 0 ks.length (gvs f s bs) j))] rfl (aE mixed (ak 4 [] rfl (kc J ?_)));exact az (ag [] rfl ⟨i+1,hlt,by dsimp only;omega,slR iA hrr ⟨_,rfl,.rarrS rfl⟩⟩)
   ·obtain⟨Y,O,Z,e3⟩:=hsR i _ q;obtain⟨q1,q2⟩:=hin _ (δ q);have hx:=hsP i;have hc1:=aRx (ks:=ks) (bs:=bs) (al:=al) (gvs f s bs++al'.vars) ha' e3
    have J:=gG (gvs f s bs++al'.vars) (sq i) Y _ _ [800,4,9,6,7,701,702,703,801,802,900] (by dsimp only at q2;omega) (fun u=>by have:=hm u;have:=hx u;omega) (fun u=>by
     have h1:=hm u;have h2:=hx u;have h3:=Z u;rw[eI] at h3;have h4:0≤times u (gvs f s bs++al'.vars)∧times u (gvs f s bs++al'.vars)≤(gvs f s bs++al'.vars).length:=by
      unfold times;have:=Bp (a:=u) (l:=gvs f s bs++al'.vars);omega
     dsimp only at q2 h3
     omega) (wfF _ _ _ _ _ _ _ (by simp[R.refs])) (wfF _ _ _ _ _ _ _ (by simp[R.refs])) rfl (by kernel_rfl) hc1
    dsimp only at O;rw[←O] at J;refine sgh [(1,.rr (rU 703 4 al.length (gvs f s bs++al'.vars) j))] rfl (aE mixed (ak 4 [] rfl (kc J ?_)));exact az (ag [] rfl ⟨i+1,hlt,by dsimp only;omega,slR iA hrr ⟨_,rfl,.rarrS rfl⟩⟩)
  have hge:i=rows.length:=by
   have:¬(i:Int)<(rows.length:Int):=π hb;omega
  subst hge;exact aL ⟨.inl rfl,⟨_,_,.nil,.nil,rfl⟩,⟨⟨_,rfl,.map⟩,⟨_,rfl,.map⟩,⟨_,rfl,.var rfl⟩,⟨_,rfl,.arr⟩,trivial⟩,rfl⟩
theorem aFb:∀(n:Nat) (c:Core),aQ c≤n→aH8 c
 | 0,c,h=>by have:=bH c;omega
 | n+1,c,h=>wM c fun x hx=>aFb n x (by omega)
mutual
def bX:Core→Nat
 | .mk f _ _ _ ks bs al=>(if f=5 then 1 else 0)+bK ks+c8 bs+bY al
def bK:List Core→Nat
 | []=>0
 | c::l=>bX c+bK l
def c8:List Bind→Nat
 | []=>0
 | .mk _ _ c::l=>bX c+c8 l
def bY:List Alt→Nat
 | []=>0
 | .mk _ _ _ _ c::l=>bX c+bY l
end
theorem aEc:∀{l:List Core}{i:Nat}{c:Core},l[i]?=some c→bK (l.take i)+bX c≤bK l
 | d::l,0,c,h=>by simp at h;subst h;rw[Cd,bK,bK];omega
 | d::l,i+1,c,h=>by
  have:=aEc (l:=l) (i:=i) (c:=c) (by simpa using h);rw[Bj,bK,bK];omega
theorem aEe:∀{l:List Bind}{i:Nat}{c:Bind},l[i]?=some c→c8 (l.take i)+bX c.body≤c8 l
 | .mk s t d::l,0,c,h=>by simp at h;subst h;rw[Cd,c8,c8];show 0+bX d≤_;omega
 | .mk s t d::l,i+1,c,h=>by
  have:=aEe (l:=l) (i:=i) (c:=c) (by simpa using h);rw[Bj,c8,c8];omega
theorem aEg:∀{l:List Alt}{i:Nat}{c:Alt},l[i]?=some c→bY (l.take i)+bX c.body≤bY l
 | .mk f n s v d::l,0,c,h=>by simp at h;subst h;rw[Cd,bY,bY];show 0+bX d≤_;omega
 | .mk f n s v d::l,i+1,c,h=>by
  have:=aEg (l:=l) (i:=i) (c:=c) (by simpa using h);rw[Bj,bY,bY];omega
theorem uX:∀(l:List Core) (i:Nat),bK (l.take i)≤bK l
 | [],i=>by simp
 | c::l,0=>by rw[Cd,bK];exact Al _
 | c::l,i+1=>by rw[Bj,bK,bK];have:=uX l i;omega
theorem aEd:∀(l:List Bind) (i:Nat),c8 (l.take i)≤c8 l
 | [],i=>by simp
 | c::l,0=>by rw[Cd,c8];exact Al _
 | .mk s t c::l,i+1=>by rw[Bj,c8,c8];have:=aEd l i;omega
theorem aEf:∀(l:List Alt) (i:Nat),bY (l.take i)≤bY l
 | [],i=>by simp
 | c::l,0=>by rw[Cd,bY];exact Al _
 | .mk f n s v c::l,i+1=>by rw[Bj,bY,bY];have:=aEf l i;omega
mutual
theorem pI (of:Str):∀(c:Core) (ch:Bool) (A:Str→Bool) (made:List Sup),(bO of ch c A made).2.length≤made.length+bX c
 | .mk f n s t ks bs al,ch,A,made=>by
  rw[bO,bX];split
  ·split
   ·have:=aDg of ks A made;omega
   ·have hp:=aDg of ks (fun x=>decide (x∈eG A (.mk f n s t ks bs al) (fun _=>false) []++(s::dN ks))) (made++[⟨dX of made.length,bG (eG A (.mk f n s t ks bs al) (fun _=>false) []++(s::dN ks)),gO⟩]);rw[ε,Ct] at hp;dsimp only;rw[fU];omega
  ·have h1:=qZ of bs (ext A (gvs f s bs)) made;have h2:=qY of ks (ext A (gvs f s bs)) (bL of bs (ext A (gvs f s bs)) made).2;have h3:=r4 of al (ext A (gvs f s bs)) (bW of ks (ext A (gvs f s bs)) (bL of bs (ext A (gvs f s bs)) made).2).2;dsimp only;omega
theorem aDg (of:Str):∀(l:List Core) (A:Str→Bool) (made:List Sup),(gQ of l A made).2.length≤made.length+bK l
 | [],_,made=>by rw[gQ];exact B6 _ _
 | c::l,A,made=>by
  rw[gQ,bK];have:=pI of c true A made;omega
theorem qY (of:Str):∀(l:List Core) (A:Str→Bool) (made:List Sup),(bW of l A made).2.length≤made.length+bK l
 | [],_,made=>by rw[bW];exact B6 _ _
 | c::l,A,made=>by
  rw[bW,bK];have h1:=pI of c false A made;have h2:=qY of l A (bO of false c A made).2;dsimp only;omega
theorem qZ (of:Str):∀(l:List Bind) (A:Str→Bool) (made:List Sup),(bL of l A made).2.length≤made.length+c8 l
 | [],_,made=>by rw[bL];exact B6 _ _
 | .mk s t c::l,A,made=>by
  rw[bL,c8];have h1:=pI of c false A made;have h2:=qZ of l A (bO of false c A made).2;dsimp only;omega
theorem r4 (of:Str):∀(l:List Alt) (A:Str→Bool) (made:List Sup),(cD of l A made).2.length≤made.length+bY l
 | [],_,made=>by rw[cD];exact B6 _ _
 | .mk f n s vs c::l,A,made=>by
  rw[cD,bY];have h1:=pI of c false (ext A vs) made;have h2:=r4 of l A (bO of false c (ext A vs) made).2;dsimp only;omega
end
mutual
def nmR:Core→Bool
 | .mk f _ s _ ks bs al=>(if f=5 then decide (s∈nm6) else true)&&(sU ks&&(aAp bs&&aAq al))
def sU:List Core→Bool
 | []=>true
 | c::l=>nmR c&&sU l
def aAp:List Bind→Bool
 | []=>true
 | .mk s _ c::l=>(decide (s∈nm6)&&nmR c)&&aAp l
def aAq:List Alt→Bool
 | []=>true
 | .mk _ _ _ v c::l=>(v.all (fun s=>decide (s∈nm6))&&nmR c)&&aAq l
end
theorem aJw:∀{l:List Core},sU l=true→∀x∈l,nmR x=true
 | c::l,h,x,hx=>by
  rw[sU,ζ] at h;rcases Ac.1 hx with rfl | hx
  ·exact h.1
  ·exact aJw h.2 x hx
theorem aAo:∀{l:List Bind},aAp l=true→∀x∈l,x.name∈nm6∧nmR x.body=true
 | .mk s t c::l,h,x,hx=>by
  simp only[aAp,ζ] at h;rcases Ac.1 hx with rfl | hx
  ·exact⟨ψ h.1.1,h.1.2⟩
  ·exact aAo h.2 x hx
theorem aJx:∀{l:List Alt},aAq l=true→∀x∈l,(∀s∈x.vars,s∈nm6)∧nmR x.body=true
 | .mk f n s v c::l,h,x,hx=>by
  simp only[aAq,ζ] at h;rcases Ac.1 hx with rfl | hx
  ·exact⟨fun u hu=>ψ (Au.1 h.1.1 u hu),h.1.2⟩
  ·exact aJx h.2 x hx
theorem aJu {f n:Int}{s:Str}{t:Ty}{ks:List Core}{bs:List Bind}{al:List Alt}(h:nmR (.mk f n s t ks bs al)=true):∀x∈gvs f s bs,x∈nm6:=by
 simp only[nmR,ζ] at h;intro x hx;rcases ω.1 hx with hx | hx
 ·split at hx
  ·rename_i q;rw[κ q] at h;simp only[Ab] at hx;subst hx;exact ψ h.1
  ·simp at hx
 ·obtain⟨b,hb,rfl⟩:=Ah.1 hx;exact(aAo h.2.2.1 b hb).1
theorem sT:∀(m:Nat) (c:Core),aQ c≤m→wfR c=true→nmR c=true→(∀s∈aU c,s∈nm6)∧nmR (bR c)=true∧(aU c).length+bX (bR c)≤bX c:=by
 intro m
 induction m with
 | zero=>intro c hc;have:=bH c;omega
 | succ m I=>
  intro c hc hw h;obtain⟨f,n,s,t,ks,bs,al⟩:=c;have hn:=h;simp only[wfR,ζ] at hw;simp only[nmR,ζ] at hn;by_cases q:f=5
  ·cases ks with
   | nil=>simp[q] at hw
   | cons k ks=>
    rw[aQ,bM] at hc;have hk:=hw.2.1;rw[fE,ζ] at hk;have y:=hn.2.1;rw[sU,ζ] at y;obtain⟨h1,h2,h3⟩:=I k (by omega) hk.1 y.1;rw[κ q] at hn;rw[aU,bR,κ q,κ q,dN,kI,bX,bK,κ q,Ai];refine⟨fun x hx=>?_,h2,by omega⟩;rcases Ac.1 hx with rfl | hx
    ·exact ψ hn.1
    ·exact h1 x hx
  ·rw[aU,bR,θ q,θ q];exact⟨by simp,h,by simp⟩
mutual
theorem jC (A:Str→Bool):∀(c:Core) (G:Str→Bool) (out:List Str),out.Nodup→(eG A c G out).Nodup
 | .mk f _ x _ ks bs al,G,out,h=>by
  rw[eG];split
  ·split
   ·rename_i hc;simp only[ζ,B1,Br] at hc;rw[C0];exact⟨h,by simp,fun a ha b hb e=>by simp only[Ab] at hb;subst hb;subst e;exact hc.2 ha⟩
   ·exact h
  ·exact vI A al _ _ (vG A ks _ _ (vH A bs _ _ h))
theorem vG (A:Str→Bool):∀(l:List Core) (G:Str→Bool) (out:List Str),out.Nodup→(jQ A l G out).Nodup
 | [],_,_,h=>by rw[jQ];exact h
 | c::l,G,out,h=>by rw[jQ];exact vG A l _ _ (jC A c _ _ h)
theorem vH (A:Str→Bool):∀(l:List Bind) (G:Str→Bool) (out:List Str),out.Nodup→(j5 A l G out).Nodup
 | [],_,_,h=>by rw[j5];exact h
 | .mk _ _ c::l,G,out,h=>by rw[j5];exact vH A l _ _ (jC A c _ _ h)
theorem vI (A:Str→Bool):∀(l:List Alt) (G:Str→Bool) (out:List Str),out.Nodup→(kB A l G out).Nodup
 | [],_,_,h=>by rw[kB];exact h
 | .mk _ _ _ vs c::l,G,out,h=>by rw[kB];exact vI A l _ _ (jC A c _ _ h)
end
theorem uO:∀(N l:List Str),l.Nodup→(∀x∈l,x∈N)→l.length≤N.length
 | [],l,_,h=>by
  cases l with
  | nil=>simp
  | cons x l=>have:=h x η;simp at this
 | y::N,l,hn,h=>by
  have h1:=uO N (l.erase y) (hn.erase y) fun x hx=>by
   have:=(hn.mem_erase_iff).1 hx;rcases Ac.1 (h x this.2) with e | e
   ·exact absurd e this.1
   ·exact e
  by_cases q:y∈l
  ·rw[length_erase_of_mem q] at h1;rw[Ai];omega
  ·rw[List.erase_of_not_mem q] at h1;rw[Ai];omega
def a61 (c:Core) (A:Str→Bool):Prop:=bX c=0∨(nmR c=true∧∀s,A s=true→s∈nm6)
def lfO (of:Str) (made:List Sup):AObj:=.var 78 [.c (.str of),.hs 901 0 made.length made.length]
def wG (k:Nat) (of:Str) (made:List Sup) (a:CM):List (Nat×AObj):=[(k,eX a),(810,lfO of made),(901,r5 made)]
def aF7 (c:Core):Prop:=∀(of:Str) (a:CM) (made:List Sup),wfR c=true→of.length≤1000000→(∀s,0≤cnt a s∧cnt a s+aQ c≤1000000000)→aQ c≤400000→a61 c (dW a)→made.length+bX c≤100000→
 ∃a',tK a a'∧aW Tryz.prog 32 [.one (.vp 810 0),.pa (aB c),.one (.mr 801)] (wG 801 of made a) (.pa (aB (bO of false c (dW a) made).1)) (wG 801 of (bO of false c (dW a) made).2 a')
def eL (k0:Nat) (ep:R) (g:List Str) (of:Str) (made:List Sup) (ks:List Core) (bs:List Bind) (al:List Alt):List (Nat×AObj):=
 [(4,.var mT [.mr k0]),(5,.var 82 [.mth 32 (.vp 810 0)]),(7,.var 132 [ep,.c (.sl 1 (g.map bA))]),(701,.arr 35 15 (aR bs) 0),(702,.arr 30 10 (aT ks) 0),(703,.arr 73 14 (bP al) 0),(810,lfO of made),(901,r5 made)]
theorem aGl {α:Type}(enc:List α→List (List C)) (e:α→List C) (h:∀l,enc l=l.map e) (l:List α) (j:Nat) (x:α):(enc l).set j (e x)=enc (l.set j x):=by rw[h,h,map_set]
theorem aLo (ep:R) (g:List Str) (of:Str) (made:List Sup) (ks:List Core) (bs:List Bind) (al:List Alt) (h:ep.refs=[701]∨ep.refs=[702]∨ep.refs=[703]) (x:CM):Wf [800,4,5,7,701,702,703,810,901] ((800,eX x)::eL 800 ep g of made ks bs al):=by
 refine⟨rfl,?_⟩;rcases h with h | h | h<;>simp[eL,dI,AObj.refs,eX,lfO,r5,R.refsL,R.refs,h,subset,AObj.live,AObj.plain]<;>rfl
theorem aR3 {m I:CM}{of:Str}{made y:List Sup}{ks:List Core}{bs:List Bind}{al:List Alt}{r:Core}(g:List Str) {j:Nat}{b:_}(hx:bs[j]?=some b)
  (J:aW Tryz.prog 32 [.one (.vp 810 0),.pa (aB b.body),.one (.mr 800)] (wG 800 of made m) (.pa (aB r)) (wG 800 of y I)):
  aW Tryz.prog 130 ([R.vp 5 0,R.vp 7 0,R.vp 4 0].map V.one) ((800,eX m)::eL 800 (.ep 701 j 5 bs.length) g of made ks bs al) (.tup []) ((800,eX I)::eL 800 (.ep 701 j 5 bs.length) g of y ks (bs.set j (Bind.mk b.name b.ty r)) al):=by
 have O:(aR bs)[j]?=some (aS b):=by rw[bC];exact bT aS hx
 have hl:bs.length=(aR bs).length:=by rw[bC,φ]
 have Y:=(ξ.1 hx).1
 have q:=aGl aR aS bC bs j (Bind.mk b.name b.ty r);refine bZ (n:=13) tok Tryz.func130 rfl rfl rfl ?_;refine aE mixed (ak 8 [(6,.row j (aS b))] rfl (km (args:=[.pa (aB b.body),.one (.mr 800)]) J ?_));exact ak 2 [(10,.row j (aS b))] rfl (az ⟨.inl rfl,⟨_,_,.nil,.nil,rfl⟩,⟨⟨_,rfl,.map⟩,⟨_,rfl,.var rfl⟩,⟨_,rfl,.var rfl⟩,⟨_,rfl,.var rfl⟩,⟨_,rfl,by first | exact .arr | exact .arrS q⟩,⟨_,rfl,by first | exact .arr | exact .arrS q⟩,⟨_,rfl,by first | exact .arr | exact .arrS q⟩,⟨_,rfl,.var rfl⟩,⟨_,rfl,.arr⟩,trivial⟩,rfl⟩)
theorem aR2 {m I:CM}{of:Str}{made y:List Sup}{ks:List Core}{bs:List Bind}{al:List Alt}{r:Core}(g:List Str) {j:Nat}{k:_}(hx:ks[j]?=some k)
  (J:aW Tryz.prog 32 [.one (.vp 810 0),.pa (aB k),.one (.mr 800)] (wG 800 of made m) (.pa (aB r)) (wG 800 of y I)):
  aW Tryz.prog 130 ([R.vp 5 0,R.vp 7 0,R.vp 4 0].map V.one) ((800,eX m)::eL 800 (.ep 702 j 0 ks.length) g of made ks bs al) (.tup []) ((800,eX I)::eL 800 (.ep 702 j 0 ks.length) g of y (ks.set j (r)) bs al):=by
 have O:(aT ks)[j]?=some (aB k):=by rw[b7];exact bT aB hx
 have hl:ks.length=(aT ks).length:=by rw[b7,φ]
 have Y:=(ξ.1 hx).1
 have q:=aGl aT aB b7 ks j (r);refine bZ (n:=13) tok Tryz.func130 rfl rfl rfl ?_;refine aE mixed (ak 8 [(6,.row j (aB k))] rfl (km (args:=[.pa (aB k),.one (.mr 800)]) J ?_));exact ak 2 [(10,.row j (aB k))] rfl (az ⟨.inl rfl,⟨_,_,.nil,.nil,rfl⟩,⟨⟨_,rfl,.map⟩,⟨_,rfl,.var rfl⟩,⟨_,rfl,.var rfl⟩,⟨_,rfl,.var rfl⟩,⟨_,rfl,by first | exact .arr | exact .arrS q⟩,⟨_,rfl,by first | exact .arr | exact .arrS q⟩,⟨_,rfl,by first | exact .arr | exact .arrS q⟩,⟨_,rfl,.var rfl⟩,⟨_,rfl,.arr⟩,trivial⟩,rfl⟩)
theorem aR4 {m J:CM}{of:Str}{made I:List Sup}{ks:List Core}{bs:List Bind}{al:List Alt}{r:Core}(g:List Str) {j:Nat}{q:_}(hx:al[j]?=some q)
  (O:aW Tryz.prog 32 [.one (.vp 810 0),.pa (aB q.body),.one (.mr 800)] (wG 800 of made m) (.pa (aB r)) (wG 800 of I J)):
  aW Tryz.prog 130 ([R.vp 5 0,R.vp 7 0,R.vp 4 0].map V.one) ((800,eX m)::eL 800 (.ep 703 j 4 al.length) g of made ks bs al) (.tup []) ((800,eX J)::eL 800 (.ep 703 j 4 al.length) g of I ks bs (al.set j (Alt.mk q.form q.n q.name q.vars r))):=by
 have Y:(bP al)[j]?=some (cO q):=by rw[bN];exact bT cO hx
 have hl:al.length=(bP al).length:=by rw[bN,φ]
 have Z:=(ξ.1 hx).1
 have y:=aGl bP cO bN al j (Alt.mk q.form q.n q.name q.vars r);refine bZ (n:=13) tok Tryz.func130 rfl rfl rfl ?_;refine aE mixed (ak 8 [(6,.row j (cO q))] rfl (km (args:=[.pa (aB q.body),.one (.mr 800)]) O ?_));exact ak 2 [(10,.row j (cO q))] rfl (az ⟨.inl rfl,⟨_,_,.nil,.nil,rfl⟩,⟨⟨_,rfl,.map⟩,⟨_,rfl,.var rfl⟩,⟨_,rfl,.var rfl⟩,⟨_,rfl,.var rfl⟩,⟨_,rfl,by first | exact .arr | exact .arrS y⟩,⟨_,rfl,by first | exact .arr | exact .arrS y⟩,⟨_,rfl,by first | exact .arr | exact .arrS y⟩,⟨_,rfl,.var rfl⟩,⟨_,rfl,.arr⟩,trivial⟩,rfl⟩)
structure Pst where
 bs:List Bind
 ks:List Core
 al:List Alt
 made:List Sup
def pst (of:Str) (A:Str→Bool) (ks:List Core) (bs:List Bind) (al:List Alt) (made:List Sup) (i:Nat):Pst:=
 let b:=bL of (bs.take i) A made
 let k:=bW of (ks.take (i-bs.length)) A b.2
 let a:=cD of (al.take (i-bs.length-ks.length)) A k.2
 ⟨b.1++bs.drop i,k.1++ks.drop (i-bs.length),a.1++al.drop (i-bs.length-ks.length),a.2⟩
theorem zS {α:Type}{X l:List α}{i:Nat}{y:α}(hx:X.length=i) (hi:i<l.length):(X++l.drop i).set i y=(X++[y])++l.drop (i+1):=by
 rw[Bl hi,set_append_right _ _ (by omega),hx,C7,set_cons_zero,Aw];rfl
theorem aH0 {α:Type}{X l:List α}{i:Nat}{y:α}(hx:X.length=i) (h:l[i]?=some y):(X++l.drop i)[i]?=some y:=by
 rw[Ao (by omega),hx,C7,Am,B9,h]
theorem zJ {α:Type}{l:List α}{i:Nat}(h:i≤l.length):(l.take i).length=i:=by rw[Ap];omega
section
variable (of:Str) (A:Str→Bool) (ks:List Core) (bs:List Bind) (al:List Alt) (made:List Sup)
theorem a7o:pst of A ks bs al made 0=⟨bs,ks,al,made⟩:=by
 simp[pst,bL,bW,cD]
theorem aZm:pst of A ks bs al made (bs.length+(ks.length+al.length))=⟨(bL of bs A made).1,(bW of ks A (bL of bs A made).2).1,(cD of al A (bW of ks A (bL of bs A made).2).2).1,(cD of al A (bW of ks A (bL of bs A made).2).2).2⟩:=by
 unfold pst;have q:bs.length+(ks.length+al.length)-bs.length=ks.length+al.length:=by omega
 have y:ks.length+al.length-ks.length=al.length:=by omega
 dsimp only;rw[q,y,Az (by omega:bs.length≤_),Az (by omega:ks.length≤_),As,Cc (by omega),Cc (by omega),Cz,A9,A9,A9]
variable {of A ks bs al made}
theorem a7m {i:Nat}{b:Bind}(h:bs[i]?=some b):(pst of A ks bs al made i).bs[i]?=some b∧(pst of A ks bs al made i).bs.length=bs.length∧(pst of A ks bs al made (i+1))=⟨(pst of A ks bs al made i).bs.set i (.mk b.name b.ty (bO of false b.body A (pst of A ks bs al made i).made).1),(pst of A ks bs al made i).ks,(pst of A ks bs al made i).al,(bO of false b.body A (pst of A ks bs al made i).made).2⟩:=by
 have hi:=(ξ.1 h).1
 have hc:=mP of A (bs.take i) made;rw[zJ (by omega)] at hc;have q:i-bs.length=0:=by omega
 have y:i+1-bs.length=0:=by omega
 unfold pst;dsimp only;rw[q,y];simp only[Nat.zero_sub,Cd,bW,cD,A3,B3];rw[cB h,xS];refine⟨aH0 hc h,by rw[ε,hc,Bk];omega,?_⟩;rw[zS hc hi]
theorem a7l {i j:Nat}{k:Core}(hj:i=bs.length+j) (h:ks[j]?=some k):(pst of A ks bs al made i).ks[j]?=some k∧(pst of A ks bs al made i).ks.length=ks.length∧(pst of A ks bs al made (i+1))=⟨(pst of A ks bs al made i).bs,(pst of A ks bs al made i).ks.set j (bO of false k A (pst of A ks bs al made i).made).1,(pst of A ks bs al made i).al,(bO of false k A (pst of A ks bs al made i).made).2⟩:=by
 subst hj;have hi:=(ξ.1 h).1
 have q:bs.length+j-bs.length=j:=by omega
 have y:bs.length+j+1-bs.length=j+1:=by omega
 have I:j-ks.length=0:=by omega
 have J:j+1-ks.length=0:=by omega
 unfold pst;dsimp only;rw[q,y,I,J];simp only[Cd,cD,A3,B3];rw[Az (by omega:bs.length≤bs.length+j),Az (by omega:bs.length≤bs.length+j+1),Cc (by omega:bs.length≤bs.length+j),Cc (by omega:bs.length≤bs.length+j+1)];have hc:=mN of A (ks.take j) (bL of bs A made).2;rw[zJ (by omega)] at hc;rw[cB h,xQ];refine⟨aH0 hc h,by rw[ε,hc,Bk];omega,?_⟩;rw[zS hc hi]
theorem a7n {i j:Nat}{a:Alt}(hj:i=bs.length+(ks.length+j)) (h:al[j]?=some a):(pst of A ks bs al made i).al[j]?=some a∧(pst of A ks bs al made i).al.length=al.length∧(pst of A ks bs al made (i+1))=⟨(pst of A ks bs al made i).bs,(pst of A ks bs al made i).ks,(pst of A ks bs al made i).al.set j (.mk a.form a.n a.name a.vars (bO of false a.body (ext A a.vars) (pst of A ks bs al made i).made).1),(bO of false a.body (ext A a.vars) (pst of A ks bs al made i).made).2⟩:=by
 subst hj;have hi:=(ξ.1 h).1
 have q:bs.length+(ks.length+j)-bs.length=ks.length+j:=by omega
 have y:bs.length+(ks.length+j)+1-bs.length=ks.length+(j+1):=by omega
 have I:ks.length+j-ks.length=j:=by omega
 have J:ks.length+(j+1)-ks.length=j+1:=by omega
 unfold pst;dsimp only;rw[q,y,I,J]
 rw[Az (by omega:bs.length≤bs.length+(ks.length+j)),Az (by omega:bs.length≤bs.length+(ks.length+j)+1),Cc (by omega:bs.length≤bs.length+(ks.length+j)),Cc (by omega:bs.length≤bs.length+(ks.length+j)+1),
  Az (by omega:ks.length≤ks.length+j),Az (by omega:ks.length≤ks.length+(j+1)),Cc (by omega:ks.length≤ks.length+j),Cc (by omega:ks.length≤ks.length+(j+1))]
 have hc:=mQ of A (al.take j) (bW of ks A (bL of bs A made).2).2;rw[zJ (by omega)] at hc;rw[cB h,xU];refine⟨aH0 hc h,by rw[ε,hc,Bk];omega,?_⟩;rw[zS hc hi]
theorem aZl (i:Nat):(pst of A ks bs al made i).made.length≤made.length+c8 (bs.take i)+bK (ks.take (i-bs.length))+bY (al.take (i-bs.length-ks.length)):=by
 unfold pst;dsimp only;have h1:=qZ of (bs.take i) A made;have h2:=qY of (ks.take (i-bs.length)) A (bL of (bs.take i) A made).2;have h3:=r4 of (al.take (i-bs.length-ks.length)) A (bW of (ks.take (i-bs.length)) A (bL of (bs.take i) A made).2).2;omega
theorem aUi (i:Nat) (hi:i≤bs.length+(ks.length+al.length)):(pst of A ks bs al made i).bs.length=bs.length∧(pst of A ks bs al made i).ks.length=ks.length∧(pst of A ks bs al made i).al.length=al.length:=by
 unfold pst;dsimp only;rw[ε,ε,ε,mP,mN,mQ,Ap,Ap,Ap,Bk,Bk,Bk];omega
end
theorem aQ0 {f n:Int}{s:Str}{t:Ty}{ks:List Core}{bs:List Bind}{al:List Alt}(Z:¬f=5) (hw:wfR (.mk f n s t ks bs al)=true) (of:Str) (A:Str→Bool) (made:List Sup) {i:Nat}(hi:i<(fN f s ks bs al).length) {p:List Str×Core}(hp:(dC f s ks bs al)[i]?=some p):
  wfR p.2=true∧bX p.2≤bX (.mk f n s t ks bs al)∧(nmR (.mk f n s t ks bs al)=true→nmR p.2=true∧∀u∈p.1,u∈nm6)∧(pst of A ks bs al made i).made.length+bX p.2≤made.length+bX (.mk f n s t ks bs al):=by
 have I:= @aZl of A ks bs al made i;simp only[wfR,ζ] at hw;have hb0:=aEd bs i;have hk0:=uX ks (i-bs.length);have ha0:=aEf al (i-bs.length-ks.length);rw[bX,θ Z];rcases pH f s ks bs al hi with⟨j,b,hb,_,q,y⟩ | ⟨j,k,hk,_,q,y⟩ | ⟨j,a,ha,_,q,y⟩
 ·rw[q] at hp;cases hp;have hm:=δ hb;have hl:=aEe hb;subst y;have Y:=(ξ.1 hb).1
  have J:i-bs.length=0:=by omega
  rw[J,Cd,Nat.zero_sub,Cd,bK,bY] at I;dsimp only;refine⟨(aIh hw.2.2.1 b hm).2,by omega,fun hn=>⟨?_,aJu hn⟩,by omega⟩;simp only[nmR,ζ] at hn;exact(aAo hn.2.2.1 b hm).2
 ·rw[q] at hp;cases hp;have hm:=δ hk;have hl:=aEc hk;subst y;have Y:=(ξ.1 hk).1
  have J:bs.length+j-bs.length=j:=by omega
  have O:j-ks.length=0:=by omega
  rw[J,O,Cd,bY] at I;dsimp only;refine⟨aId hw.2.1 k hm,by omega,fun hn=>⟨?_,aJu hn⟩,by omega⟩;simp only[nmR,ζ] at hn;exact aJw hn.2.1 k hm
 ·rw[q] at hp;cases hp;have hm:=δ ha;have hl:=aEg ha;subst y;have J:bs.length+(ks.length+j)-bs.length=ks.length+j:=by omega
  have O:ks.length+j-ks.length=j:=by omega
  rw[J,O] at I;have hk1:=uX ks (ks.length+j);dsimp only;refine⟨aIi hw.2.2.2 a hm,by omega,fun hn=>?_,by omega⟩;have hg:=aJu hn;simp only[nmR,ζ] at hn;obtain⟨h1,h2⟩:=aJx hn.2.2.2 a hm;refine⟨h2,fun u hu=>?_⟩;rcases ω.1 hu with hu | hu
  ·exact hg u hu
  ·exact h1 u hu
theorem a5m {f n:Int}{s:Str}{t:Ty}{ks:List Core}{bs:List Bind}{al:List Alt}(hf:¬f=5) (ih:∀x,aQ x<aQ (.mk f n s t ks bs al)→aF7 x) (of:Str) (a:CM) (made:List Sup) (hw:wfR (.mk f n s t ks bs al)=true) (hof:of.length≤1000000) (hm:∀u,0≤cnt a u∧cnt a u+aQ (.mk f n s t ks bs al)≤1000000000) (hsz:aQ (.mk f n s t ks bs al)≤400000) (h5:a61 (.mk f n s t ks bs al) (dW a)) (hmd:made.length+bX (.mk f n s t ks bs al)≤100000):
  ∃a',tK a a'∧aW Tryz.prog 75 [.one (.vp 700 0),.one (.mr 801),.one (.mth 32 (.vp 810 0))] [(801,eX a),(700,.var 30 (bF (.mk f n s t ks bs al))),(810,lfO of made),(901,r5 made)] (.tup [])
   [(801,eX a'),(700,.var 30 (bF (bO of false (.mk f n s t ks bs al) (dW a) made).1)),(810,lfO of (bO of false (.mk f n s t ks bs al) (dW a) made).2),(901,r5 (bO of false (.mk f n s t ks bs al) (dW a) made).2)]:=by
 have hm0:∀u,0≤cnt a u:=fun u=>(hm u).1
 have hfp:=fun {i:Nat} {p:List Str×Core} (hi:i<(fN f s ks bs al).length) (hp:(dC f s ks bs al)[i]?=some p)=>aQ0 hf hw of (ext (dW a) (gvs f s bs)) made hi hp
 have ab:=aZm of (ext (dW a) (gvs f s bs)) ks bs al made;rw[←iX f s ks bs al] at ab;have hpr:bO of false (.mk f n s t ks bs al) (dW a) made=(.mk f n s t (pst of (ext (dW a) (gvs f s bs)) ks bs al made (fN f s ks bs al).length).ks (pst of (ext (dW a) (gvs f s bs)) ks bs al made (fN f s ks bs al).length).bs (pst of (ext (dW a) (gvs f s bs)) ks bs al made (fN f s ks bs al).length).al,(pst of (ext (dW a) (gvs f s bs)) ks bs al made (fN f s ks bs al).length).made):=by
  rw[bO,θ hf,ab]
 rw[hpr];have hp0:=a7o of (ext (dW a) (gvs f s bs)) ks bs al made;have hlen:=fun i=> @aUi of (ext (dW a) (gvs f s bs)) ks bs al made i
 have hN:(fN f s ks bs al).length=(dC f s ks bs al).length:=by rw[iX,qV]
 have hin:∀p∈dC f s ks bs al,_:=fun p hp=> @sS f n s t ks bs al p hp
 have hat:= @pH f s ks bs al;have hcp:=aBu f n s t ks bs al (by omega);have ac:∀x∈(aJt (fN f s ks bs al)).refs,x∈iA.refs:=fM;have hpl:=iX f s ks bs al;obtain⟨hkl,hbl,hal⟩:ks.length<400000∧bs.length<400000∧al.length<400000:=by
  obtain⟨_,_,_,q1,q2,q3⟩:= @dL f n s t ks bs al;omega
 have hrl:(fN f s ks bs al).length≤1200000:=by omega
 obtain⟨J,hs0,hsP,ad⟩:=nW (P:=fun _ x=>tK a x) (R:=fun i x y=>i<(fN f s ks bs al).length→∀p,(dC f s ks bs al)[i]?=some p→∃q,y=decs p.1 q∧tK (k9 p.1 x) q∧
   aW Tryz.prog 32 [.one (.vp 810 0),.pa (aB p.2),.one (.mr 801)] (wG 801 of (pst of (ext (dW a) (gvs f s bs)) ks bs al made i).made (k9 p.1 x)) (.pa (aB (bO of false p.2 (ext (dW a) p.1) (pst of (ext (dW a) (gvs f s bs)) ks bs al made i).made).1)) (wG 801 of (bO of false p.2 (ext (dW a) p.1) (pst of (ext (dW a) (gvs f s bs)) ks bs al made i).made).2 q)) a (fun _=>rfl) (fun i x hx=>by
  by_cases hi:i<(fN f s ks bs al).length
  ·obtain⟨p,hp⟩:=aJ (l:=dC f s ks bs al) (by omega:i<(dC f s ks bs al).length);obtain⟨q1,q2⟩:=hin p (δ hp);obtain⟨w1,w2,w3,w4⟩:=hfp hi hp;have hx0:∀u,0≤cnt x u:=fun u=>by rw[←hx u];exact hm0 u
   have hga:dW (k9 p.1 x)=ext (dW a) p.1:=by rw[n5 hx0,←pQ hx]
   obtain⟨q,g1,g2⟩:=ih p.2 q1 of (k9 p.1 x) (pst of (ext (dW a) (gvs f s bs)) ks bs al made i).made w1 hof (fun u=>by
    have h1:=hm u;have h2:=hx u;have h3:=eI u p.1 x;have h4:0≤times u p.1∧times u p.1≤p.1.length:=by
     unfold times;have:=Bp (a:=u) (l:=p.1);omega
    omega) (by omega) (by
    rw[hga];rcases h5 with h5 | ⟨h5,h6⟩
    ·exact .inl (by omega)
    ·obtain⟨w5,w6⟩:=w3 h5;refine .inr ⟨w5,fun u hu=>?_⟩;simp only[ext,Bi,A4] at hu
     exact hu.elim (h6 u) (w6 u)) (by omega)
   rw[hga] at g2;exact⟨decs p.1 q,fun u=>by rw[hx u];exact tK.decs g1 u,fun _ p' h=>by rw[hp] at h;cases h;exact⟨q,rfl,g1,g2⟩⟩
  ·exact⟨x,hx,fun h=>absurd h hi⟩)
 refine⟨J (fN f s ks bs al).length,hsP _,?_⟩;have hPB:=fun {i:Nat} {b:Bind} (hb:bs[i]?=some b)=>a7m (of:=of) (A:=ext (dW a) (gvs f s bs)) (ks:=ks) (al:=al) (made:=made) hb
 have hPK:=fun {i j:Nat} {k:Core} (O:i=bs.length+j) (hk:ks[j]?=some k)=>a7l (of:=of) (A:=ext (dW a) (gvs f s bs)) (al:=al) (made:=made) O hk
 have hPA:=fun {i j:Nat} {k:Alt} (O:i=bs.length+(ks.length+j)) (hk:al[j]?=some k)=>a7n (of:=of) (A:=ext (dW a) (gvs f s bs)) (made:=made) O hk
 have hext:∀v,ext (ext (dW a) (gvs f s bs)) v=ext (dW a) (gvs f s bs++v):=fun v=>aHg _ _ _
 generalize pst of (ext (dW a) (gvs f s bs)) ks bs al made=PS at hp0 hlen ad hPB hPK hPA ab ⊢;generalize fN f s ks bs al=rows at hN hat hcp ac hrl ad ab hpl ⊢;refine bZ (n:=21) tok Tryz.func75 rfl rfl rfl ?_;refine sg rfl (sk 1 rfl (kc hcp ?_));refine kz 2 rfl (aC (aK (fun i:Nat=>mk [(4,.one (.vp 4 0)),(5,.one (.vp 5 0)),(9,.one (.ra 704 0 rows.length rows.length)),(10,I .i64 ((rows.length:Nat):Int)),(11,I .i64 i)] ((704,aJt rows)::[(4,.var mT [.mr 801]),(5,.var 82 [.mth 32 (.vp 810 0)]),(700,.var 30 (aBp f n s t ks.length bs.length al.length)),(701,.arr 35 15 (aR (PS i).bs) 0),(702,.arr 30 10 (aT (PS i).ks) 0),(703,.arr 73 14 (bP (PS i).al) 0),(801,eX (J i)),(810,lfO of (PS i).made),(901,r5 (PS i).made)])) (fun i=>i≤rows.length) (fun i=>rows.length-i) 0 (Al _) (by rw[hs0,hp0];exact slR iA ac ⟨_,rfl,.rarrS rfl⟩) ?_));intro i hi;refine sg rfl (a8 (aA rfl (fun hb=>?_) (fun hb=>?_)))
 ·have aa:i<rows.length:=by
   have:(i:Int)<(rows.length:Int):=ψ hb;omega
  refine aD (a8 (aC ?_));obtain⟨l1,l2,l3⟩:=hlen i (by omega);rcases hat aa with⟨j,b,hb',hro,Y,O⟩ | ⟨j,k,hk',hro,Y,O⟩ | ⟨j,al',ha',hro,Y,O⟩
  ·subst O;obtain⟨r1,r2,r3⟩:=hPB hb';obtain⟨q,e1,e2,e3⟩:=ad i aa _ Y;obtain⟨q1,q2⟩:=hin _ (δ Y);have hx:=hsP i;dsimp only at e1 e3 q2;have hc0:aW Tryz.prog 32 [.one (.vp 810 0),.pa (aB b.body),.one (.mr 800)] (wG 800 of (PS i).made (k9 (gvs f s bs) (J i))) (.pa (aB (bO of false b.body (ext (dW a) (gvs f s bs)) (PS i).made).1)) (wG 800 of (bO of false b.body (ext (dW a) (gvs f s bs)) (PS i).made).2 q):=e3.swap 801 800;have hc1:=aR3 (ks:=(PS i).ks) (bs:=(PS i).bs) (al:=(PS i).al) (gvs f s bs) r1 hc0
   have hci:=gG (gvs f s bs) (J i) q _ _ [800,4,5,7,701,702,703,810,901] (by omega) (fun u=>by have:=hm u;have:=hx u;omega) (fun u=>by
    have h1:=hm u;have h2:=hx u;have h3:=e2 u;dsimp only at h3;rw[eI] at h3;have h4:0≤times u (gvs f s bs)∧times u (gvs f s bs)≤(gvs f s bs).length:=by
     unfold times;have:=Bp (a:=u) (l:=gvs f s bs);omega
    omega) (aLo _ _ _ _ _ _ _ (by simp[R.refs])) (aLo _ _ _ _ _ _ _ (by simp[R.refs])) rfl (by kernel_rfl) hc1
   have Z:aW Tryz.prog 30 [.one (.mr 801),bV (gvs f s bs),.one (.clo 130 [.vp 5 0,.vp 7 0,.vp 4 0])] ((801,eX (J i))::eL 801 (.ep 701 i 5 (PS i).bs.length) (gvs f s bs) of (PS i).made (PS i).ks (PS i).bs (PS i).al) (.tup []) ((801,eX (J (i+1)))::eL 801 (.ep 701 i 5 (PS i).bs.length) (gvs f s bs) of (PS (i+1)).made (PS (i+1)).ks (PS (i+1)).bs (PS (i+1)).al):=by
    rw[e1,r3];exact hci.swap 800 801
   rw[r2] at Z;refine sgh [(1,.rr (rU 701 5 bs.length (gvs f s bs) i))] rfl (aE mixed (ak 4 [] rfl (kc Z ?_)));exact az (ag [] rfl ⟨i+1,aa,by dsimp only;omega,slR iA ac ⟨_,rfl,.rarrS rfl⟩⟩)
  ·obtain⟨r1,r2,r3⟩:=hPK O hk';obtain⟨q,e1,e2,e3⟩:=ad i aa _ Y;obtain⟨q1,q2⟩:=hin _ (δ Y);have hx:=hsP i;dsimp only at e1 e3 q2;have hc0:aW Tryz.prog 32 [.one (.vp 810 0),.pa (aB k),.one (.mr 800)] (wG 800 of (PS i).made (k9 (gvs f s bs) (J i))) (.pa (aB (bO of false k (ext (dW a) (gvs f s bs)) (PS i).made).1)) (wG 800 of (bO of false k (ext (dW a) (gvs f s bs)) (PS i).made).2 q):=e3.swap 801 800;have hc1:=aR2 (ks:=(PS i).ks) (bs:=(PS i).bs) (al:=(PS i).al) (gvs f s bs) r1 hc0
   have hci:=gG (gvs f s bs) (J i) q _ _ [800,4,5,7,701,702,703,810,901] (by omega) (fun u=>by have:=hm u;have:=hx u;omega) (fun u=>by
    have h1:=hm u;have h2:=hx u;have h3:=e2 u;dsimp only at h3;rw[eI] at h3;have h4:0≤times u (gvs f s bs)∧times u (gvs f s bs)≤(gvs f s bs).length:=by
     unfold times;have:=Bp (a:=u) (l:=gvs f s bs);omega
    omega) (aLo _ _ _ _ _ _ _ (by simp[R.refs])) (aLo _ _ _ _ _ _ _ (by simp[R.refs])) rfl (by kernel_rfl) hc1
   have Z:aW Tryz.prog 30 [.one (.mr 801),bV (gvs f s bs),.one (.clo 130 [.vp 5 0,.vp 7 0,.vp 4 0])] ((801,eX (J i))::eL 801 (.ep 702 j 0 (PS i).ks.length) (gvs f s bs) of (PS i).made (PS i).ks (PS i).bs (PS i).al) (.tup []) ((801,eX (J (i+1)))::eL 801 (.ep 702 j 0 (PS i).ks.length) (gvs f s bs) of (PS (i+1)).made (PS (i+1)).ks (PS (i+1)).bs (PS (i+1)).al):=by
    rw[e1,r3];exact hci.swap 800 801
   rw[r2] at Z;refine sgh [(1,.rr (rU 702 0 ks.length (gvs f s bs) j))] rfl (aE mixed (ak 4 [] rfl (kc Z ?_)));exact az (ag [] rfl ⟨i+1,aa,by dsimp only;omega,slR iA ac ⟨_,rfl,.rarrS rfl⟩⟩)
  ·obtain⟨r1,r2,r3⟩:=hPA O ha';rw[hext] at r3;obtain⟨q,e1,e2,e3⟩:=ad i aa _ Y;obtain⟨q1,q2⟩:=hin _ (δ Y);have hx:=hsP i;dsimp only at e1 e3 q2;have hc0:aW Tryz.prog 32 [.one (.vp 810 0),.pa (aB al'.body),.one (.mr 800)] (wG 800 of (PS i).made (k9 (gvs f s bs++al'.vars) (J i))) (.pa (aB (bO of false al'.body (ext (dW a) (gvs f s bs++al'.vars)) (PS i).made).1)) (wG 800 of (bO of false al'.body (ext (dW a) (gvs f s bs++al'.vars)) (PS i).made).2 q):=e3.swap 801 800;have hc1:=aR4 (ks:=(PS i).ks) (bs:=(PS i).bs) (al:=(PS i).al) (gvs f s bs++al'.vars) r1 hc0
   have hci:=gG (gvs f s bs++al'.vars) (J i) q _ _ [800,4,5,7,701,702,703,810,901] (by omega) (fun u=>by have:=hm u;have:=hx u;omega) (fun u=>by
    have h1:=hm u;have h2:=hx u;have h3:=e2 u;dsimp only at h3;rw[eI] at h3;have h4:0≤times u (gvs f s bs++al'.vars)∧times u (gvs f s bs++al'.vars)≤(gvs f s bs++al'.vars).length:=by
     unfold times;have:=Bp (a:=u) (l:=gvs f s bs++al'.vars);omega
    omega) (aLo _ _ _ _ _ _ _ (by simp[R.refs])) (aLo _ _ _ _ _ _ _ (by simp[R.refs])) rfl (by kernel_rfl) hc1
   have Z:aW Tryz.prog 30 [.one (.mr 801),bV (gvs f s bs++al'.vars),.one (.clo 130 [.vp 5 0,.vp 7 0,.vp 4 0])] ((801,eX (J i))::eL 801 (.ep 703 j 4 (PS i).al.length) (gvs f s bs++al'.vars) of (PS i).made (PS i).ks (PS i).bs (PS i).al) (.tup []) ((801,eX (J (i+1)))::eL 801 (.ep 703 j 4 (PS i).al.length) (gvs f s bs++al'.vars) of (PS (i+1)).made (PS (i+1)).ks (PS (i+1)).bs (PS (i+1)).al):=by
    rw[e1,r3];exact hci.swap 800 801
   rw[r2] at Z;refine sgh [(1,.rr (rU 703 4 al.length (gvs f s bs++al'.vars) j))] rfl (aE mixed (ak 4 [] rfl (kc Z ?_)));exact az (ag [] rfl ⟨i+1,aa,by dsimp only;omega,slR iA ac ⟨_,rfl,.rarrS rfl⟩⟩)
 have hge:i=rows.length:=by
  have:¬(i:Int)<(rows.length:Int):=π hb;omega
 subst hge;obtain⟨l1,l2,l3⟩:=hlen rows.length (by omega);have k1:bs.length=(aR (PS rows.length).bs).length:=by rw[bC,φ];exact l1.symm
 have k2:ks.length=(aT (PS rows.length).ks).length:=by rw[b7,φ];exact l2.symm
 have k3:al.length=(bP (PS rows.length).al).length:=by rw[bN,φ];exact l3.symm
 refine AWp.sub (Sub.freeze (id:=701) rfl) (AWp.sub (Sub.freeze (id:=702) rfl) (AWp.sub (Sub.freeze (id:=703) rfl) (AWp.sub (vp 700 (aB (.mk f n s t (PS rows.length).ks (PS rows.length).bs (PS rows.length).al))) ?_)));exact aL ⟨.inl rfl,⟨_,_,.nil,.nil,rfl⟩,⟨⟨_,rfl,.map⟩,⟨_,rfl,.var rfl⟩,⟨_,rfl,.var rfl⟩,⟨_,rfl,.arr⟩,trivial⟩,rfl⟩
theorem aUp:∀s∈nm6,s.length≤1000000:=by decide
theorem aKi:dW []=fun _=>false:=rfl
theorem iB (l:List Str):dW (k9 l [])=fun x=>decide (x∈l):=by
 rw[n5 (fun _=>Int.le_refl _),aKi];rfl
theorem aRp {m y:CM}{of:Str}{made q:List Sup}{c c':Core}
  (I:aW Tryz.prog 32 [.one (.vp 810 0),.pa (aB c),.one (.mr 800)] (wG 800 of made m) (.pa (aB c')) (wG 800 of q y)):
  aW Tryz.prog 129 ([R.vp 3 0,R.vp 9 0,R.vp 13 0].map V.one) [(800,eX m),(3,.var 76 [.vp 810 0]),(9,.var 30 (bF c)),(13,.var mT [.mr 800]),(810,lfO of made),(901,r5 made)] (.tup []) [(800,eX y),(3,.var 76 [.vp 810 0]),(9,.var 30 (bF c')),(13,.var mT [.mr 800]),(810,lfO of q),(901,r5 q)]:=by
 refine bZ (n:=7) tok Tryz.func129 rfl rfl rfl ?_;refine aE mixed (ak 3 [] rfl (kc I ?_));exact kz 1 rfl ⟨.inl rfl,⟨_,_,.nil,.nil,rfl⟩,⟨⟨_,rfl,.map⟩,⟨_,rfl,.var rfl⟩,⟨_,rfl,.var rfl⟩,⟨_,rfl,.var rfl⟩,⟨_,rfl,.var rfl⟩,⟨_,rfl,.arr⟩,trivial⟩,rfl⟩
theorem aV3 (c:Core) (q:c.form=5) (ih:∀x,aQ x<aQ c→aF7 x) (of:Str) (a:CM) (made:List Sup) (hw:wfR c=true) (hof:of.length≤1000000) (hm:∀u,0≤cnt a u∧cnt a u+aQ c≤1000000000) (hsz:aQ c≤400000) (h5:a61 c (dW a)) (hmd:made.length+bX c≤100000):
  aW Tryz.prog 74 [.one (.vp 810 0),.pa (aB c),.one (.mr 801)] (wG 801 of made a) (.pa (aB (bO of false c (dW a) made).1)) (wG 801 of (bO of false c (dW a) made).2 a):=by
 have hM:1000000000≤maxLen:=by decide
 obtain⟨w1,w2,w3,w4,w5,w6⟩:=sL _ c (le_refl _) hw;have w6:=w6 q;have hl1:1≤bX c:=by
  obtain⟨f,n,s,t,ks,bs,al⟩:=c;have q:f=5:=q;rw[bX,κ q];omega
 obtain⟨h5,h6⟩:nmR c=true∧∀s,dW a s=true→s∈nm6:=by
  rcases h5 with h5 | h5
  ·omega
  ·exact h5
 obtain⟨n1,n2,n3⟩:=sT _ c (le_refl _) hw h5;obtain⟨m',hsm,J⟩:=aFb _ c (le_refl _) [] a [] (fun s=>by show(0:Int)≤0∧(0:Int)+_≤_;omega) hsz (by simp;omega);rw[aKi] at J;have hch:=aK1 c w1 (by omega);have Z:=pW (dW a) c (fun _=>false) [] (fun s hs=>by simp at hs);have aa:=jC (dW a) c (fun _=>false) [] nodup_nil;have hr:bO of false c (dW a) made=(let free:=eG (dW a) c (fun _=>false) [];let all:=free++aU c;let r:=bO of false (bR c) (fun x=>decide (x∈all)) (made++[⟨dX of made.length,bG all,gO⟩]);(gC (varC (dX of made.length)) free,setBody r.2 made.length r.1)):=by
  have hpc:=uJ of _ c (le_refl _) hw;obtain⟨f,n,s,t,ks,bs,al⟩:=c;have q:f=5:=q;rw[bO,κ q,θ An];have hN:aU (.mk f n s t ks bs al)=s::dN ks:=by rw[aU,κ q]
  simp only[hN];have:=hpc (fun x=>decide (x∈eG (dW a) (.mk f n s t ks bs al) (fun _=>false) []++s::dN ks)) (made++[⟨dX of made.length,bG (eG (dW a) (.mk f n s t ks bs al) (fun _=>false) []++s::dN ks),gO⟩]);rw[bO,κ q,κ rfl] at this;rw[this]
 rw[hr];dsimp only;generalize eG (dW a) c (fun _=>false) []=free at J Z aa ⊢;have ab:∀s∈free,s∈nm6:=fun s hs=>h6 s (Z s hs)
 have hfl:free.length≤6:=uO nm6 free aa ab;have hcl:(aU c).length≤100000:=by omega
 have hc1:1≤(aU c).length:=by
  obtain⟨f,n,s,t,ks,bs,al⟩:=c;have q:f=5:=q;rw[aU,κ q];exact le_add_left _ _
 have O:∀s∈free++aU c,s∈nm6:=by
  intro s hs;rcases ω.1 hs with hs | hs
  ·exact ab s hs
  ·exact n1 s hs
 have hwi:=yO free (aU c) (by omega);have hpa:=aK2 (free++aU c) (by rw[ε];omega) fun s hs=>aUp s (O s hs)
 have hdc:=aRr (made.length+1) (by omega);have hdl:=rF (made.length+1);have hal:(free++aU c).length≤200000:=by rw[ε];omega
 generalize hAll:free++aU c=all at hwi hpa hal O ⊢;have ac:∀s,0≤times s all∧times s all≤200000:=fun s=>by
  have:=kJ s all all.length;rw[As] at this;omega
 have ad:∀u,cnt (k9 all []) u=times u all:=fun u=>by rw[eI];show(0:Int)+_=_;omega
 obtain⟨m2,hs2,Y⟩:=ih (bR c) w6 of (k9 all []) (made++[⟨dX of made.length,bG all,gO⟩]) w2 hof (fun u=>by
  have:=ac u;rw[ad u]
  omega) (by omega) (.inr ⟨n2,fun s hs=>by rw[iB] at hs;exact O s (ψ hs)⟩) (by rw[ε,Ct];omega)
 rw[iB] at Y;have ae:=lF of (bR c) false (fun x=>decide (x∈all)) (made++[⟨dX of made.length,bG all,gO⟩]);rw[ε,Ct] at ae;generalize bO of false (bR c) (fun x=>decide (x∈all)) (made++[⟨dX of made.length,bG all,gO⟩])=r at Y ae ⊢;have hp1:=aRp (Y.swap 801 800)
 have hp2:=gG all [] m2 _ _ [800,3,9,13,810,901] (by omega) (fun u=>by show(0:Int)≤(0:Int)∧(0:Int)≤_;omega) (fun u=>by
  have:=ac u;have:=hs2 u;rw[ad u] at this
  omega) (fun x=>⟨rfl,by kernel_rfl⟩) (fun x=>⟨rfl,by kernel_rfl⟩) rfl (by kernel_rfl) hp1
 have hp3:=hp2.swap 800 803;obtain⟨y,hy⟩:=aJ (show made.length<r.2.length by omega);have hy':=bT dA hy;have hset:=tX r.1 r.2 made.length y hy;have hset':r.2.length=(setBody r.2 made.length r.1).length:=(fU _ _ _).symm;have hlg:[R.c (.str of),.hs 901 0 r.2.length r.2.length]=R.renL (fun i=>i) [R.c (.str of),.hs 901 0 (setBody r.2 made.length r.1).length (setBody r.2 made.length r.1).length]:=by rw[fU];rfl
 refine bZ (n:=84) tok Tryz.func74 rfl rfl rfl ?_;refine sg rfl (sgh [(0,.id 802)] rfl (AWp.sub (Sub.ownCell (x:=802) (k:=0) (id:=900) 9 1 rfl rfl rfl) ?_));refine AWp.sub (st2:=mk [(2,.one (.mr 801)),(3,.one (.vp 3 0)),(4,.one (.vp 4 0)),(6,.one (.vp 6 0)),(7,.one (.vp 802 0))] [(3,.var 76 [.vp 810 0]),(4,.var 30 (bF c)),(6,.var 30 dY),(801,eX a),(802,.var 65 [.hs 900 0 0 0]),(900,a3w []),(810,lfO of made),(901,r5 made)]) sl ?_;refine skh 3 [(0,.id 800)] rfl (kc J ?_);refine az (AWp.sub (Sub.freeze (id:=900) rfl) ?_);refine AWp.sub (vp 802 [.sl 1 (free.map bA)] (hp:=.hs rfl (by simp) take_map.symm .nil)) ?_;refine sgh [(1,.pc (.tup [bV (aU c),.pa (aB (bR c))]))] rfl (sgh [(2,.all),(3,.pc (bV all))] rfl (sg rfl (a8 (agN [(7,.pc (Go.AM.T (dec (made.length+1))))] rfl (sgh [(8,.pc (bV (bG all)))] rfl ?_)))));have hmk:made.map dA++[dA (Sup.mk (dX of made.length) (bG all) gO)]=(made++[Sup.mk (dX of made.length) (bG all) gO]).map dA:=by rw[A6];rfl
 have hlf:[R.c (.str of),.hs 901 0 ((made.map dA).length+1) ((made.map dA).length+1)]=R.renL (fun i=>i) [R.c (.str of),.hs 901 0 (made++[Sup.mk (dX of made.length) (bG all) gO]).length (made++[Sup.mk (dX of made.length) (bG all) gO]).length]:=by rw[ε,φ];rfl
 refine AWp.sub (vp 12 (aB (varC (dX of made.length)))) ?_;refine AWp.sub (st2:=mk [(2,.one (.mr 801)),(3,.one (.vp 3 0)),(6,.one (.vp 6 0)),(7,.one (.vp 802 0)),(9,.one (.vp 9 0)),(10,bV all),(11,I .i64 ((made.length:Nat):Int)),(12,.one (.vp 12 0))] [(3,.var 76 [.vp 810 0]),(6,.var 30 dY),(9,.var 30 (bF (bR c))),(12,.var 30 (bF (varC (dX of made.length)))),(801,eX a),(802,.var 65 [.c (.sl 1 (free.map bA))]),(810,lfO of (made++[Sup.mk (dX of made.length) (bG all) gO])),(901,r5 (made++[Sup.mk (dX of made.length) (bG all) gO]))]) (sl (hh:=⟨⟨_,rfl,.var rfl⟩,⟨_,rfl,.var rfl⟩,⟨_,rfl,.var rfl⟩,⟨_,rfl,.var rfl⟩,⟨_,rfl,.map⟩,⟨_,rfl,.var rfl⟩,⟨_,rfl,.var hlf⟩,⟨_,rfl,.arrS hmk⟩,trivial⟩)) ?_;refine sgh [(0,.id 803)] rfl (sk 3 rfl (kc hp3 ?_));refine az (sgh [(8,.row made.length (dA y))] rfl (a8 (sg rfl ?_)));have ah:(free.map bA).length=free.length:=φ _;refine aC ?_
 refine aK (fun i:Nat=>mk [(6,.one (.vp 6 0)),(12,.one (.vp 12 0)),(71,bV free),(72,I .i64 ((free.map bA).length:Int)),(73,I .i64 i)] [(6,.var 30 dY),(12,.var 30 (bF (gC (varC (dX of made.length)) (free.take i)))),(801,eX a),(810,lfO of (setBody r.2 made.length r.1)),(901,r5 (setBody r.2 made.length r.1))]) (fun i=>i≤free.length) (fun i=>free.length-i) 0 (Al _) (by
  exact sl (hh:=⟨⟨_,rfl,.var rfl⟩,⟨_,rfl,.var rfl⟩,⟨_,rfl,.map⟩,⟨_,rfl,.var hlg⟩,⟨_,rfl,.arrS hset.symm⟩,trivial⟩)) ?_
 intro i hi;refine sg rfl (a8 (aA rfl (fun hb=>?_) (fun hb=>?_)))
 ·have ai:=ltD hb ah;obtain⟨s,hs⟩:=aJ ai;have hs':=bT bA hs;refine aD (a8 (aC (sgh [(0,.row i (bA s))] rfl (ag [(3,.all)] rfl (ag [] rfl ⟨i+1,ai,by dsimp only;omega,Sub.trans ?_ (vp 12 (aB (aCf (gC (varC (dX of made.length)) (free.take i)) (varC s))))⟩)))));dsimp only;rw[cB hs,sA];exact sl
 have hge:=geD hb ah hi;subst hge;rw[As];exact aL (sg rfl (aF (rtC trw)))
theorem aE9 (c:Core) (O:∀x,aQ x<aQ c→aF7 x):aF7 c:=by
 intro of a made hw y hm I h5 J;have aa:∀s,0≤cnt a s:=fun s=>(hm s).1
 by_cases q:c.form=5
 ·have h:=aV3 c q O of a made hw y hm I h5 J;refine⟨a,fun _=>rfl,?_⟩;generalize bO of false c (dW a) made=r at h ⊢;refine bZ (n:=19) tok Tryz.func32 rfl rfl rfl ?_;refine sg rfl (a8 (sg rfl (aA rfl (fun _=>sk 3 rfl (kc h ?_)) (fun hb=>absurd q (π hb)))));exact kz 1 rfl (aF (rtC trw))
 ·obtain⟨f,n,s,t,ks,bs,al⟩:=c;have Y:¬f=5:=q;obtain⟨Z,ha,h⟩:=a5m Y O of a made hw y hm I h5 J;refine⟨Z,ha,?_⟩;generalize bO of false (.mk f n s t ks bs al) (dW a) made=r at h ⊢;refine bZ (n:=19) tok Tryz.func32 rfl rfl rfl ?_;refine sgh [(0,.id 700)] rfl (a8 (sg rfl (aA rfl (fun hb=>absurd (ψ hb) q) (fun _=>aD (sk 3 rfl (kc h ?_))))));exact az (sg rfl (aF (rtC trw)))
theorem aRl:∀(n:Nat) (c:Core),aQ c≤n→aF7 c
 | 0,c,h=>by have:=bH c;omega
 | n+1,c,h=>aE9 c fun x hx=>aRl n x (by omega)
theorem a0y {m y:CM}{of:Str}{made q:List Sup}{c c':Core}
  (I:aW Tryz.prog 32 [.one (.vp 810 0),.pa (aB c),.one (.mr 800)] (wG 800 of made m) (.pa (aB c')) (wG 800 of q y)):
  aW Tryz.prog 31 ([R.vp 8 0,R.vp 7 0,R.vp 9 0].map V.one) [(800,eX m),(8,.var 76 [.vp 810 0]),(7,.var 30 (bF c)),(9,.var mT [.mr 800]),(810,lfO of made),(901,r5 made)] (.tup []) [(800,eX y),(8,.var 76 [.vp 810 0]),(7,.var 30 (bF c')),(9,.var mT [.mr 800]),(810,lfO of q),(901,r5 q)]:=by
 refine bZ (n:=7) tok Tryz.func31 rfl rfl rfl ?_;refine aE mixed (ak 3 [] rfl (kc I ?_));exact kz 1 rfl ⟨.inl rfl,⟨_,_,.nil,.nil,rfl⟩,⟨⟨_,rfl,.map⟩,⟨_,rfl,.var rfl⟩,⟨_,rfl,.var rfl⟩,⟨_,rfl,.var rfl⟩,⟨_,rfl,.var rfl⟩,⟨_,rfl,.arr⟩,trivial⟩,rfl⟩
structure POk (b:Bind):Prop where
 ok:BOk b
 few:a61 (bR b.body) (fun x=>decide (x∈aU b.body))
 lams:bX (bR b.body)≤100000
 cn:(aU b.body).length≤200000
theorem aYd (l:List Bind) (hl:l.length≤1000) (h:∀b∈l,POk b):aW Tryz.prog 7 [.one (.c (.sl 15 (l.map aS)))] [] (a8z (fD l)) [(500,a81 (fD l))]:=by
 have hM:1000000000≤maxLen:=by decide
 have hll:=uW fun b hb=>(h b hb).ok
 refine bZ (n:=48) tok Tryz.func7 rfl rfl rfl ?_;refine sg rfl (sg rfl (AWp.sub (Sub.own (t:=3) (id:=500) 85 12 rfl rfl) ?_));refine a8 (sg rfl (aC ?_));have Y:(l.map aS).length=l.length:=φ _;refine aK (fun i:Nat=>mk [(10,.one (.c (.sl 15 (l.map aS)))),(11,I .i64 ((l.map aS).length:Int)),(3,a8z (fD (l.take i))),(12,I .i64 i)] [(500,a81 (fD (l.take i)))]) (fun i=>i≤l.length) (fun i=>l.length-i) 0 (Al _) sl ?_;intro i hi;refine sg rfl (a8 (aA rfl (fun hb=>?_) (fun hb=>?_)))
 ·have Z:=ltD hb Y;obtain⟨b,y⟩:=aJ Z;have au:=bT aS y;have hm:=δ y;obtain⟨⟨hw,hs,hn⟩,ae,hla,ah⟩:=h b hm;obtain⟨w1,w2,w3,w4,w5,w6⟩:=sL _ b.body (le_refl _) hw;have hch:=aK1 b.body w1 (by omega);have ai:a8s (aU b.body):=fun s aj=>by have:=w5 s aj;omega
  have hpa:=aK2 (aU b.body) ah ai;have q:=aMj y;rw[aA3 hw] at q;have aa:=uW (l:=l.take i) fun x hx=>(h x (Bz hx)).ok
  rw[Ap] at aa;have ab:=lF b.name (bR b.body) false (fun x=>decide (x∈aU b.body)) [];simp only[length_nil] at ab;have ac:∀s,0≤times s (aU b.body)∧times s (aU b.body)≤200000:=fun s=>by
   have:=kJ s (aU b.body) (aU b.body).length;rw[As] at this;omega
  have ad:∀u,cnt (k9 (aU b.body) []) u=times u (aU b.body):=fun u=>by rw[eI];show(0:Int)+_=_;omega
  obtain⟨m2,am,J⟩:=aRl _ (bR b.body) (le_refl _) b.name (k9 (aU b.body) []) [] w2 hn (fun u=>by
   have:=ac u;rw[ad u]
   omega) (by omega) (by rw[iB];exact ae) (by simp;omega)
  rw[iB] at J;generalize bO b.name false (bR b.body) (fun x=>decide (x∈aU b.body)) []=r at J q ab;have ap:=a0y (J.swap 801 800)
  have aq:=gG (aU b.body) [] m2 _ _ [800,8,7,9,810,901] (by omega) (fun u=>by show(0:Int)≤(0:Int)∧(0:Int)≤_;omega) (fun u=>by
   have:=ac u;have:=am u;rw[ad u] at this
   omega) (fun x=>⟨rfl,by kernel_rfl⟩) (fun x=>⟨rfl,by kernel_rfl⟩) rfl (by kernel_rfl) ap
  generalize fD (l.take i)=X at q aa ⊢;refine aD (a8 (aC (sgh [(0,.row i (aS b))] rfl (sgh [(2,.pc (.tup [bV (aU b.body),.pa (aB (bR b.body))]))] rfl (sgh [(3,.id 810)] rfl (AWp.sub (Sub.ownCell (x:=810) (k:=1) (id:=901) 85 12 rfl rfl rfl) ?_))))));refine sgh [(0,.id 800)] rfl (sk 3 rfl (kc aq ?_));refine az (sgh [(4,.pc (bV (bG (aU b.body))))] rfl (ag [(5,.all)] rfl (ag [] rfl ⟨i+1,Z,by dsimp only;omega,?_⟩)));dsimp only;rw[q];have O:X.map dA++[dA (Sup.mk b.name (bG (aU b.body)) r.1)]++r.2.map dA=(X++Sup.mk b.name (bG (aU b.body)) r.1::r.2).map dA:=by
   rw[A6,Aw];rfl
  exact sl (he:=⟨rfl,rfl,Go.AM.hs_ren (by simp;omega) (by simp;omega),rfl,trivial⟩) (hh:=⟨⟨_,rfl,.arrS O⟩,trivial⟩)
 have ar:=geD hb Y hi;subst ar;rw[As];exact aL (sg rfl (aF (rtT (hc:=.refl))))
def mB (b:Bind):Bool:=!decide (b.ty.form=0)
theorem aR1 (b:Bind):aW Tryz.prog 104 [.pa (aS b)] [] (B (mB b)) []:=by
 refine bZ (n:=7) tok Tryz.func104 rfl rfl rfl ?_;exact sg rfl (sg rfl (aF rtT))
def rX {α:Type}(p:α→Bool):List α→Nat→Int
 | [],_=> -1
 | x::l,i=>if p x then(i:Int) else rX p l (i+1)
theorem aEk {α:Type}(p:α→Bool):∀(l:List α) (i:Nat),decide (rX p l i≥0)=l.any p
 | [],_=>rfl
 | x::l,i=>by
  rw[rX,List.any_cons];cases h:p x
  ·rw[θ (by simp),aEk p l];rfl
  ·rw[κ rfl,Bool.true_or];simp
theorem vS (l:List Bind) (hl:l.length≤1000000000):aW Tryz.prog 95 [.one (.c (.sl 15 (l.map aS))),.one (.clo 104 [])] [] (I .i64 (rX mB l 0)) []:=by
 have y:(l.map aS).length=l.length:=φ _;refine bZ (n:=19) tok Tryz.func95 rfl rfl rfl ?_;refine sg rfl (a8 (sg rfl (aC (aK (fun i:Nat=>mk [(0,.one (.c (.sl 15 (l.map aS)))),(1,.one (.clo 104 [])),(7,I .i64 ((l.map aS).length:Int)),(8,I .i64 i)] []) (fun i=>i≤l.length∧rX mB l 0=rX mB (l.drop i) i) (fun i=>l.length-i) 0 ⟨Al _,rfl⟩ sl ?_))));intro i ⟨hi,hid⟩;refine sg rfl (a8 (aA rfl (fun hb=>?_) (fun hb=>?_)))
 ·have q:=ltD hb y;obtain⟨b,J⟩:=aJ q;have Z:=bT aS J;have hc:aW Tryz.prog 104 ([.pa (aS b)]++([]:List R).map V.one) [] (B (mB b)) []:=aR1 b;have O:l.drop i=b::l.drop (i+1):=by rw[Bl q,(ξ.1 J).2]
  rw[O,rX] at hid;refine aD (a8 (aC (sg rfl (skh 5 [(3,.row i (aS b))] rfl (kv (args:=[.pa (aS b)]) hc ?_)))));refine az (aA rfl (fun hb=>?_) (fun hb=>?_))
  ·have hb:mB b=true:=hb;rw[κ hb] at hid;rw[hid];exact sg rfl (aF rtT)
  ·have hb:mB b=false:=hb;rw[θ (by rw[hb];exact An)] at hid;exact aD (ag [] rfl ⟨i+1,⟨q,hid⟩,by dsimp only;omega,sl⟩)
 have Y:=geD hb y hi;subst Y;rw[Cz,rX] at hid;rw[hid];exact aL (sg rfl (aF (rtT (v:=I .i64 (-1)) (hc:=.refl))))
theorem qI (l:List Bind) (hl:l.length≤1000000000):aW Tryz.prog 103 [.one (.c (.sl 15 (l.map aS))),.one (.clo 104 [])] [] (B (l.any mB)) []:=by
 have h:=vS l hl;rw[←aEk mB l 0];refine bZ (n:=9) tok Tryz.func103 rfl rfl rfl ?_;refine sg rfl (sk 2 rfl (kc h ?_));exact kz 2 rfl (aF rtT)
def aFk:Nat:=4
def ftL (ep:R) (g:List Str) (ok:Bool) (ks:List Core) (bs:List Bind) (al:List Alt):List (Nat×AObj):=
 [(5,.var aFk [.c (.bool ok)]),(2,.var mT [.mr 800]),(7,.var 132 [ep,.c (.sl 1 (g.map bA))]),(701,.arr 35 15 (aR bs) 0),(702,.arr 30 10 (aT ks) 0),(703,.arr 73 14 (bP al) 0)]
theorem aLn (ep:R) (g:List Str) (ok:Bool) (ks:List Core) (bs:List Bind) (al:List Alt) (h:ep.refs=[701]∨ep.refs=[702]∨ep.refs=[703]) (x:CM):Wf [800,5,2,7,701,702,703] ((800,eX x)::ftL ep g ok ks bs al):=by
 refine⟨rfl,?_⟩;rcases h with h | h | h<;>simp[ftL,dI,AObj.refs,eX,R.refsL,R.refs,h,subset,AObj.live,AObj.plain]<;>rfl
def aB7 (c:Core):Prop:=∀m:CM,(∀s,0≤cnt m s∧cnt m s+aQ c≤1000000000)→aQ c≤4000000→
 ∃m',tK m m'∧aW Tryz.prog 44 [.one (.mr 800),.pa (aB c)] [(800,eX m)] (B (eZ c (dW m))) [(800,eX m')]
theorem aRz {m q:CM}{r:Bool}{ks:List Core}{bs:List Bind}{al:List Alt}(g:List Str) {j:Nat}{y:Bind}(hx:bs[j]?=some y) (ok:Bool) (hm:ok=false→q=m)
  (I:ok=true→aW Tryz.prog 44 [.one (.mr 800),.pa (aB y.body)] [(800,eX m)] (B r) [(800,eX q)]):
  aW Tryz.prog 105 ([R.vp 5 0,R.vp 2 0,R.vp 7 0].map V.one) ((800,eX m)::ftL (.ep 701 j 5 bs.length) g ok ks bs al) (.tup []) ((800,eX q)::ftL (.ep 701 j 5 bs.length) g (ok&&r) ks bs al):=by
 have J:(aR bs)[j]?=some (aS y):=cR hx;have hl:bs.length=(aR bs).length:=by rw[bC,φ]
 have O:=(ξ.1 hx).1
 cases ok with
 | false=>
  rw[hm rfl,Bool.false_and];refine bZ (n:=12) tok Tryz.func105 rfl rfl rfl ?_;exact agN [] rfl ⟨.inl rfl,⟨_,_,.nil,.nil,rfl⟩,⟨⟨_,rfl,.map⟩,⟨_,rfl,.var rfl⟩,⟨_,rfl,.var rfl⟩,⟨_,rfl,.var rfl⟩,⟨_,rfl,.arr⟩,⟨_,rfl,.arr⟩,⟨_,rfl,.arr⟩,trivial⟩,rfl⟩
 | true=>
  have I:=I rfl;rw[Db];refine bZ (n:=12) tok Tryz.func105 rfl rfl rfl ?_;refine aE mixed (ak 7 [(6,.row j (aS y))] rfl (kcG I ?_));exact kz 2 rfl ⟨.inl rfl,⟨_,_,.nil,.nil,rfl⟩,⟨⟨_,rfl,.map⟩,⟨_,rfl,.var rfl⟩,⟨_,rfl,.var rfl⟩,⟨_,rfl,.var rfl⟩,⟨_,rfl,.arr⟩,⟨_,rfl,.arr⟩,⟨_,rfl,.arr⟩,trivial⟩,rfl⟩
theorem aRy {m q:CM}{r:Bool}{ks:List Core}{bs:List Bind}{al:List Alt}(g:List Str) {j:Nat}{y:Core}(hx:ks[j]?=some y) (ok:Bool) (hm:ok=false→q=m)
  (I:ok=true→aW Tryz.prog 44 [.one (.mr 800),.pa (aB y)] [(800,eX m)] (B r) [(800,eX q)]):
  aW Tryz.prog 105 ([R.vp 5 0,R.vp 2 0,R.vp 7 0].map V.one) ((800,eX m)::ftL (.ep 702 j 0 ks.length) g ok ks bs al) (.tup []) ((800,eX q)::ftL (.ep 702 j 0 ks.length) g (ok&&r) ks bs al):=by
 have J:(aT ks)[j]?=some (aB y):=fA hx;have hl:ks.length=(aT ks).length:=by rw[b7,φ]
 have O:=(ξ.1 hx).1
 cases ok with
 | false=>
  rw[hm rfl,Bool.false_and];refine bZ (n:=12) tok Tryz.func105 rfl rfl rfl ?_;exact agN [] rfl ⟨.inl rfl,⟨_,_,.nil,.nil,rfl⟩,⟨⟨_,rfl,.map⟩,⟨_,rfl,.var rfl⟩,⟨_,rfl,.var rfl⟩,⟨_,rfl,.var rfl⟩,⟨_,rfl,.arr⟩,⟨_,rfl,.arr⟩,⟨_,rfl,.arr⟩,trivial⟩,rfl⟩
 | true=>
  have I:=I rfl;rw[Db];refine bZ (n:=12) tok Tryz.func105 rfl rfl rfl ?_;refine aE mixed (ak 7 [(6,.row j (aB y))] rfl (kcG I ?_));exact kz 2 rfl ⟨.inl rfl,⟨_,_,.nil,.nil,rfl⟩,⟨⟨_,rfl,.map⟩,⟨_,rfl,.var rfl⟩,⟨_,rfl,.var rfl⟩,⟨_,rfl,.var rfl⟩,⟨_,rfl,.arr⟩,⟨_,rfl,.arr⟩,⟨_,rfl,.arr⟩,trivial⟩,rfl⟩
theorem aR0 {m q:CM}{r:Bool}{ks:List Core}{bs:List Bind}{al:List Alt}(g:List Str) {j:Nat}{y:Alt}(hx:al[j]?=some y) (ok:Bool) (hm:ok=false→q=m)
  (I:ok=true→aW Tryz.prog 44 [.one (.mr 800),.pa (aB y.body)] [(800,eX m)] (B r) [(800,eX q)]):
  aW Tryz.prog 105 ([R.vp 5 0,R.vp 2 0,R.vp 7 0].map V.one) ((800,eX m)::ftL (.ep 703 j 4 al.length) g ok ks bs al) (.tup []) ((800,eX q)::ftL (.ep 703 j 4 al.length) g (ok&&r) ks bs al):=by
 have J:(bP al)[j]?=some (cO y):=gE hx;have hl:al.length=(bP al).length:=by rw[bN,φ]
 have O:=(ξ.1 hx).1
 cases ok with
 | false=>
  rw[hm rfl,Bool.false_and];refine bZ (n:=12) tok Tryz.func105 rfl rfl rfl ?_;exact agN [] rfl ⟨.inl rfl,⟨_,_,.nil,.nil,rfl⟩,⟨⟨_,rfl,.map⟩,⟨_,rfl,.var rfl⟩,⟨_,rfl,.var rfl⟩,⟨_,rfl,.var rfl⟩,⟨_,rfl,.arr⟩,⟨_,rfl,.arr⟩,⟨_,rfl,.arr⟩,trivial⟩,rfl⟩
 | true=>
  have I:=I rfl;rw[Db];refine bZ (n:=12) tok Tryz.func105 rfl rfl rfl ?_;refine aE mixed (ak 7 [(6,.row j (cO y))] rfl (kcG I ?_));exact kz 2 rfl ⟨.inl rfl,⟨_,_,.nil,.nil,rfl⟩,⟨⟨_,rfl,.map⟩,⟨_,rfl,.var rfl⟩,⟨_,rfl,.var rfl⟩,⟨_,rfl,.var rfl⟩,⟨_,rfl,.arr⟩,⟨_,rfl,.arr⟩,⟨_,rfl,.arr⟩,trivial⟩,rfl⟩
end Go.Proofs.YtnjaiimffoninaaGreatDoor
