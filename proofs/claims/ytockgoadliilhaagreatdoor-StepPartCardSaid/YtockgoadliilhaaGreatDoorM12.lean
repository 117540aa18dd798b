/-
  Texts Lt1 to Lq2 in one.
-/
import Derived.Test.YtockgoadliilhaaGreatDoorM11
open List (append_assoc append_nil drop_left drop_left' drop_length foldl_append foldl_cons length_append length_cons length_eq_one_iff length_eq_zero_iff length_map length_nil length_range length_take map_append map_congr_left map_cons map_id map_map mem_append mem_cons mem_cons_of_mem mem_cons_self mem_flatMap mem_map mem_range mem_singleton nil_append nodup_cons nodup_range of_mem_zip take_add_one take_left take_left' take_length)
open Nat (le_of_eq le_refl le_trans sub_self zero_le)
namespace Go.Proofs.YtockgoadliilhaaGreatDoor
open Go Go.AM
set_option maxRecDepth 20000
def nm6:List Str:=nmL++[[112]]
def mO (l:List Int) (left:Int):List (Nat×AObj):=[(700,.var 71 [.c (.sl 1 (l.map aM8)),.c (.int .i64 left)])]
def sM (l:List Int) (k:Int):Int×List Int:=match l with
 | []=>(0,[])
 | x::l=>(pD x k,l)
structure Ok (l:List Int):Prop where
 nums:aR5 l
 fits:Fits l
theorem aD5 (l:List Int) {k:Int}(hk:0<k):0≤(sM l k).1∧(sM l k).1<k:=by
 cases l with
 | nil=>exact⟨Int.le_refl _,hk⟩
 | cons x l=>exact aAd x hk
theorem pY {l:List Int}(h:Ok l) (k:Int):Ok (sM l k).2:=by
 cases l with
 | nil=>exact h
 | cons x l=>exact⟨h.nums.suf ⟨[x],rfl⟩,h.fits.suf ⟨[x],rfl⟩⟩
theorem aLn (l:List Int) (left k:Int) (hk:1≤k) (h:Ok l):aW Tryz.prog 25 [.one (.vp 700 0),I .i64 k] (mO l left) (I .i64 (sM l k).1) (mO (sM l k).2 left):=by
 obtain⟨hl,hf⟩:=h;unfold Fits at hf;refine bT (n:=29) tok Tryz.func25 rfl rfl rfl ?_;refine sg rfl (a8 (sg rfl ?_));cases l with
 | nil=>
  exact aA rfl (fun hb=>sg rfl (aI rtT)) (fun hb=>by simp at hb)
 | cons x l=>
  refine aA rfl (fun hb=>by simp at hb;omega) (fun hb=>aD (sk 7 rfl (kc (aFe x k (hl x (by simp)) hk) ?_)));exact kz 1 rfl (sg rfl (sg rfl (aI rtT)))
theorem j0 (l:List Int) (left k:Int) (hk:1≤k) (h:Ok l):∃(i:Nat) (l':List Int),(i:Int)<k∧Ok l'∧aW Tryz.prog 25 [.one (.vp 700 0),I .i64 k] (mO l left) (I .i64 i) (mO l' left):=by
 obtain⟨i,hi⟩:=Int.eq_ofNat_of_zero_le (aD5 l (k:=k) (by omega)).1;have h1:=(aD5 l (k:=k) (by omega)).2
 have h2:=aLn l left k hk h;rw[hi] at h1 h2;exact⟨i,_,h1,pY h k,h2⟩
def tvN:List Str:=[[97],[97,39],[98,39],[99,39]]
theorem aYu:∀s∈tvN,s.length≤8:=by decide
inductive GT:Nat→Ty→Prop
 | var (s:Str) (h:s∈tvN):GT 1 (.mk 2 0 s [])
 | con (s:Str) (h:s.length≤8):GT 1 (.mk 3 0 s [])
 | app {m n:Nat} {a b:Ty} (ha:GT m a) (hb:GT n b):GT (m+n+1) (.mk 4 0 [] [a,b])
theorem GT.fn {m n:Nat}{a b:Ty}(ha:GT m a) (hb:GT n b):GT (m+n+3) (iR a b):=by
 have h:=GT.app (GT.app (GT.con arrow (by decide)) ha) hb;rw[show m+n+3=1+m+1+n+1 by omega];exact h
theorem gD (s:Str):aW Tryz.prog 44 [Go.AM.T s] [] (tyV (.mk 3 0 s [])) []:=by
 refine bT (n:=5) tok Tryz.func44 rfl rfl rfl ?_;exact sg rfl (sg rfl (aI ⟨.inr rfl,⟨_,_,.cell rfl (tg rfl) rfl rfl rfl .nil,.cons (.pa (.c .refl (.c .refl (.c .refl (.c .nl .nil))))) .nil,rfl⟩,trivial,rfl⟩))
def rY (x:Str×Ty):List C:=.str x.1::bD x.2
structure Gv where
 l:List (Str×Ty)
 vars:List Str
 deep:Int
def x7 (v:Gv):List C:=[.sl 5 (v.l.map rY),.sl 1 (v.vars.map bO),.int .i64 v.deep]
def dF (v:Gv) (s:Str) (t:Ty):Gv:=⟨v.l++[(s,t)],v.vars,v.deep+1⟩
theorem xD (v:Gv) (s:Str) (t:Ty) (hl:v.l.length≤1000000) (hd:0≤v.deep∧v.deep≤1000000):aW Tryz.prog 60 [.pa (x7 v),Go.AM.T s,tyV t] [] (.pa (x7 (dF v s t))) []:=by
 obtain⟨f,n,x,a⟩:=t;obtain⟨L,vs,d⟩:=v;dsimp only at hl hd;refine bT (n:=24) tok Tryz.func60 rfl rfl rfl ?_;refine sg rfl (sg rfl (sgh [(3,.all)] rfl (sg rfl (sg rfl (sg rfl (AWp.sub (Sub.freeze (id:=11) rfl) ?_))))))
 rw[show x7 (dF ⟨L,vs,d⟩ s (.mk f n x a))=[.sl 5 (L.map rY++[rY (s,.mk f n x a)]),.sl 1 (vs.map bO),.int .i64 (d+1)] by
  unfold x7 dF
  rw[As];rfl]
 exact aI (rtC trw)
theorem fR (a b:Core):aW Tryz.prog 61 [.pa (aB a),.pa (aB b)] [] (.pa (aB (.mk 4 0 [] zTy [a,b] [] []))) []:=by
 obtain⟨f,n,s,⟨tf,tn,ts,W⟩,ks,bs,al⟩:=a;obtain⟨f',n',s',⟨I,J,N,O⟩,ks',bs',al'⟩:=b;refine bT (n:=9) tok Tryz.func61 rfl rfl rfl ?_;refine sg rfl (sg rfl (AWp.sub (Sub.freeze (id:=7) rfl) ?_));exact aI (rtC trw)
def gZ (s:Str) (l:List Ty):Core:=l.foldl (fun c t=>.mk 6 0 [] t [c] [] []) (.mk 2 0 s zTy [] [] [])
theorem nX (s:Str) (l:List Ty) (hl:l.length≤1000000):aW Tryz.prog 65 [Go.AM.T s,.one (.c (.sl 4 (l.map bD)))] [] (.pa (aB (gZ s l))) []:=by
 refine bT (n:=23) tok Tryz.func65 rfl rfl rfl ?_;refine sg rfl (sg rfl (a8 (sg rfl ?_)));have J:(l.map bD).length=l.length:=ξ _;refine AWp.sub (vp 4 (aB aU2)) ?_;refine AWp.sub (vp 5 (aB (gZ s []))) ?_;refine aC (aL (fun i:Nat=>mk [(0,Go.AM.T s),(1,.one (.c (.sl 4 (l.map bD)))),(4,.one (.vp 4 0)),(5,.one (.vp 5 0)),(6,I .i64 i)] [(4,.var 37 (b9 aU2)),(5,.var 37 (b9 (gZ s (l.take i))))]) (fun i=>i≤l.length) (fun i=>l.length-i) 0 (Ak _) sl ?_);intro i hi;refine a8 (sg rfl (aA rfl (fun hb=>?_) (fun hb=>?_)))
 ·have N:=ltD hb J;obtain⟨t,ht⟩:=aK N;have ht':=bJ bD ht;refine aD ?_;obtain⟨tf,tn,ts,W⟩:=t;refine a8 (aC (ag [(2,.row i (bD (.mk tf tn ts W)))] rfl ?_));have O:gZ s (l.take (i+1))=.mk 6 0 [] (.mk tf tn ts W) [gZ s (l.take i)] [] []:=by
   unfold gZ;rw[Bh,ht,B6];rfl
  generalize gZ s (l.take i)=g at O ⊢;obtain⟨gf,gn,gs,⟨Y,Z,aa,ab⟩,gk,gb,ga⟩:=g;refine AWp.sub (Sub.freeze (id:=20) rfl) ?_;refine AWp.sub (vp 5 (aB (.mk 6 0 [] (.mk tf tn ts W) [.mk gf gn gs (.mk Y Z aa ab) gk gb ga] [] []))) ?_;refine ag [] rfl ⟨i+1,N,by dsimp only;omega,?_⟩;dsimp only;rw[O];exact sl
 ·have ac:=geD hb J hi;subst ac;rw[Au];exact aM (sg rfl (aI (rtC trw)))
theorem sZ {f n:Int}{s:Str}{a:List Ty}(hf:¬f=4):aW Tryz.prog 64 [tyV (.mk f n s a)] [] (.tup [tyV (.mk f n s a),.one (.hs 510 0 0 0)]) [(510,.arr 33 4 [] 2)]:=by
 refine bT (n:=26) tok Tryz.func64 rfl rfl rfl ?_;refine sg rfl (a8 (sg rfl (aA rfl (fun _=>sg rfl (AWp.sub (Sub.own (t:=3) (id:=510) 33 4 rfl rfl) (AWp.sub (Sub.freeze (id:=510) rfl) ?_))) (fun hb=>by simp[Ty.form,hf] at hb))));exact aI ⟨.inr rfl,⟨_,_,.cell rfl (tg rfl) rfl rfl rfl (.tmp rfl .nil),.cons .refl (.cons .refl .nil),rfl⟩,⟨⟨_,rfl,.arr⟩,trivial⟩,rfl⟩
def GTs:Nat→List Ty→Prop
 | _,[]=>True
 | n,x::l=>∃k m,GT k x∧GTs m l∧k+m+1≤n
theorem GTs.snoc {k:Nat}{b:Ty}(hb:GT k b):∀{l:List Ty}{n:Nat},GTs n l→GTs (n+k+1) (l++[b])
 | [],n,_=>⟨k,0,hb,trivial,by omega⟩
 | x::l,n,h=>by
  obtain⟨j,m,h1,h2,h3⟩:=h;exact⟨j,m+k+1,h1,GTs.snoc hb h2,by omega⟩
theorem aK8 {n:Nat}{t:Ty}(h:GT n t) (hn:n≤100000):∃(hd:Ty) (l:List Ty),GTs (n-1) l∧l.length≤n∧
  aW Tryz.prog 64 [tyV t] [] (.tup [tyV hd,.one (.hs 510 0 l.length l.length)]) [(510,.arr 33 4 (l.map bD) 2)]:=by
 induction h with
 | var s hs=>exact⟨.mk 2 0 s [],[],trivial,by simp,sZ (by decide)⟩
 | con s hs=>exact⟨.mk 3 0 s [],[],trivial,by simp,sZ (by decide)⟩
 | @app m n a b ha hb I Z=>
  obtain⟨hd,l,h1,h2,h3⟩:=I (by omega);have ab:l.length≤100000:=by omega
  have ac:1≤m:=by cases ha<;>omega
  refine⟨hd,l++[b],?_,by rw[Aa];simp;omega,?_⟩
  ·have:=GTs.snoc hb h1;rw[show m-1+n+1=m+n+1-1 by omega] at this;exact this
  ·obtain⟨ad,ae,ah,ai⟩:=hd;obtain⟨af,an,J,N⟩:=a;obtain⟨O,W,sb,Y⟩:=b;refine bT (n:=26) tok Tryz.func64 rfl rfl rfl ?_;refine sg rfl (a8 (sg rfl (aA rfl (fun hb=>by simp[Ty.form] at hb) (fun _=>aD (skh 4 [(2,.row 0 (bD (.mk af an J N)))] rfl (kc h3 ?_))))));refine kz 6 rfl (sgh [(4,.row 1 (bD (.mk O W sb Y)))] rfl (AWp.sub (Sub.freeze (id:=510) rfl) ?_));exact aI ⟨.inr rfl,⟨_,_,.cell rfl (tg rfl) rfl rfl rfl (.tmp rfl .nil),.cons .refl (.cons .refl .nil),by rw[ξ,Aa];rfl⟩,⟨⟨_,rfl,by rw[As];exact .arr⟩,trivial⟩,rfl⟩
theorem uD {n:Nat}{t:Ty}(h:GT n t):(∃(m1 m2:Nat) (a b:Ty),GT m1 a∧GT m2 b∧n=m1+m2+3∧t=iR a b∧aW Tryz.prog 66 [tyV t] [] (B true) [])∨aW Tryz.prog 66 [tyV t] [] (B false) []:=by
 cases h with
 | var s hs=>
  refine .inr ?_;refine bT (n:=28) tok Tryz.func66 rfl rfl rfl ?_;exact sg rfl (a8 (sg rfl (aA rfl (fun _=>sg rfl (aI rtT)) (fun hb=>by simp[Ty.form] at hb))))
 | con s hs=>
  refine .inr ?_;refine bT (n:=28) tok Tryz.func66 rfl rfl rfl ?_;exact sg rfl (a8 (sg rfl (aA rfl (fun _=>sg rfl (aI rtT)) (fun hb=>by simp[Ty.form] at hb))))
 | @app m k a b ha hb=>
  cases ha with
  | var s hs=>
   refine .inr ?_;refine bT (n:=28) tok Tryz.func66 rfl rfl rfl ?_;exact sg rfl (a8 (sg rfl (aA rfl (fun hb=>by simp[Ty.form] at hb) (fun _=>aD (a8 (sgh [(2,.row 0 (bD (.mk 2 0 s [])))] rfl (aA rfl (fun _=>sg rfl (aI rtT)) (fun hb=>by simp[Ty.form] at hb))))))))
  | con s hs=>
   refine .inr ?_;refine bT (n:=28) tok Tryz.func66 rfl rfl rfl ?_;exact sg rfl (a8 (sg rfl (aA rfl (fun hb=>by simp[Ty.form] at hb) (fun _=>aD (a8 (sgh [(2,.row 0 (bD (.mk 3 0 s [])))] rfl (aA rfl (fun _=>sg rfl (aI rtT)) (fun hb=>by simp[Ty.form] at hb))))))))
  | @app m' k' f I hf ha'=>
   have run:∀r:Bool,(bif decide (f.form=3) then decide (f.name=arrow) else false)=r→aW Tryz.prog 66 [tyV (.mk 4 0 [] [.mk 4 0 [] [f,I],b])] [] (B r) []:=by
    intro r O;obtain⟨J,fn,fs,N⟩:=f;refine bT (n:=28) tok Tryz.func66 rfl rfl rfl ?_;refine sg rfl (a8 (sg rfl (aA rfl (fun hb=>by simp[Ty.form] at hb) (fun _=>aD (a8 (sgh [(2,.row 0 (bD (.mk 4 0 [] [.mk J fn fs N,I])))] rfl (aA rfl (fun hb=>by simp[Ty.form] at hb) (fun _=>aD (sgh [(2,.row 0 (bD (.mk 4 0 [] [.mk J fn fs N,I]))),(5,.row 0 (bD (.mk J fn fs N)))] rfl (a8 (agF 4 [] rfl rfl rfl ?_)))))))))));subst O;exact aI rtT
   cases hf with
   | var s hs=>exact .inr (run false rfl)
   | con s hs=>
    by_cases h1:s=arrow
    ·subst h1;exact .inl ⟨_,_,I,b,ha',hb,by omega,rfl,run true rfl⟩
    ·exact .inr (run false (by simp[Ty.form,Ty.name,h1]))
   | app h1 h2=>exact .inr (run false rfl)
theorem uC {n:Nat}{t:Ty}(h:GT n t) (hn:n≤100000):∃s:Str,s.length≤16*n∧aW Tryz.prog 91 [tyV t,.one (.c .nl)] [] (Go.AM.T s) []:=by
 have hM:1000000000≤maxLen:=by decide
 induction h with
 | var s hs=>
  have hs:=aYu s hs;refine⟨39::s,by rw[Aj];omega,?_⟩;refine bT (n:=91) tok Tryz.func91 rfl rfl rfl ?_;refine sg rfl (a8 (sg rfl (aC (sg rfl (aA rfl (fun hb=>by simp[Ty.form] at hb) (fun _=>sg rfl (aA rfl (fun _=>a8 (sg rfl (aC (aL (fun _:Unit=>mk [(1,.one (.c .nl)),(2,.one (.vp 2 0)),(5,I .i64 (-1))] [(2,.var 33 ((bD (.mk 2 0 s [])).map R.c))]) (fun _=>True) (fun _=>0) () trivial sl ?_)))) (fun hb=>by simp[Ty.form] at hb))))))));intro _ _;refine a8 (sg rfl (aA rfl (fun hb=>by simp at hb) (fun _=>aM (sg rfl ?_ (hc:=by repeat (first | exact trivial | refine⟨by first | rfl | omega | (simp;omega) | (unfold Ty.name;simp;omega) | (simp;done),?_⟩))))));exact aI rtT
 | con s hs=>
  refine⟨s,by omega,?_⟩;refine bT (n:=91) tok Tryz.func91 rfl rfl rfl ?_;exact sg rfl (a8 (sg rfl (aC (sg rfl (aA rfl (fun hb=>by simp[Ty.form] at hb) (fun _=>sg rfl (aA rfl (fun hb=>by simp[Ty.form] at hb) (fun _=>sg rfl (aA rfl (fun _=>sg rfl (aI rtT)) (fun hb=>by simp[Ty.form] at hb))))))))))
 | @app m k a b ha hb J N=>
  obtain⟨s1,h1,O⟩:=J (by omega);obtain⟨s2,h2,W⟩:=N (by omega);refine⟨[40]++s1++[32]++s2++[41],by simp;omega,?_⟩;obtain⟨af,an,Y,Z⟩:=a;obtain⟨bf,bn,sb,ba⟩:=b;refine bT (n:=91) tok Tryz.func91 rfl rfl rfl ?_;refine sg rfl (a8 (sg rfl (aC (sg rfl (aA rfl (fun hb=>by simp[Ty.form] at hb) (fun _=>sg rfl (aA rfl (fun hb=>by simp[Ty.form] at hb) (fun _=>sg rfl (aA rfl (fun hb=>by simp[Ty.form] at hb) (fun _=>sg rfl (aA rfl (fun hb=>by simp[Ty.form] at hb) (fun _=>aD (a8 (a8 (agF 4 [] rfl rfl rfl (aA rfl (fun hb=>by simp[Ty.form,gC,dT] at hb) (fun _=>aD (skh 5 [(2,.row 0 (bD (.mk af an Y Z)))] rfl (kc O ?_)))))))))))))))))));refine ak 7 [(10,.row 1 (bD (.mk bf bn sb ba)))] rfl ?_ (hc:=by repeat (first | exact trivial | refine⟨by first | rfl | omega | (simp;omega) | (unfold Ty.name;simp;omega) | (simp;done),?_⟩));refine kc W ?_;refine ak 3 [] rfl ?_ (hc:=by repeat (first | exact trivial | refine⟨by first | rfl | omega | (simp;omega) | (unfold Ty.name;simp;omega) | (simp;done),?_⟩));exact az (aI rtT)
theorem aXg {n m:Nat}{a b:Ty}(ha:GT n a) (hb:GT m b) (hn:n≤100000) (hm:m≤100000):∃r:Bool,aW Tryz.prog 101 [tyV a,tyV b] [] (B r) []:=by
 obtain⟨s1,h1,I⟩:=uC ha hn;obtain⟨s2,h2,J⟩:=uC hb hm;refine⟨decide (s1=s2),?_⟩;obtain⟨af,an,N,O⟩:=a;obtain⟨W,Y,sb,Z⟩:=b;refine bT (n:=10) tok Tryz.func101 rfl rfl rfl ?_;refine sg rfl (sk 1 rfl (kc I ?_));refine ak 1 [] rfl (kc J ?_);exact kz 2 rfl (aI rtT)
theorem aTr (L:List (Str×Ty)) (i:Nat) (hi:i<L.length) (hl:L.length≤1000000):∃r:Bool,aW Tryz.prog 102 [.one (.c (.sl 5 (L.map rY))),I .i64 i] [] (B r) []:=by
 obtain⟨x,hx⟩:=aK hi;have W:=bJ rY hx;have J:(L.map rY).length=L.length:=ξ _;refine⟨@decide (∀(j:Nat) (y:Str×Ty),i<j→L[j]?=some y→¬y.1=x.1) (Classical.propDecidable _),?_⟩;generalize O: @decide (∀(j:Nat) (y:Str×Ty),i<j→L[j]?=some y→¬y.1=x.1) (Classical.propDecidable _)=r;refine bT (n:=25) tok Tryz.func102 rfl rfl rfl ?_;refine sg rfl (a8 (a8 (agN [] rfl ?_ (hc:=by repeat (first | exact trivial | refine⟨by first | rfl | omega | (simp;omega) | (unfold Ty.name;simp;omega) | (simp;done),?_⟩)))));refine aC (aL (fun k:Nat=>mk [(0,.one (.c (.sl 5 (L.map rY)))),(1,I .i64 i),(4,B false),(5,I .i64 k)] []) (fun k=>i<k∧k≤L.length∧∀(j:Nat) (y:Str×Ty),i<j→j<k→L[j]?=some y→¬y.1=x.1) (fun k=>L.length-k) (i+1) ⟨by omega,by omega,fun j y h1 h2=>by omega⟩ sl ?_);intro k ⟨h1,h2,h3⟩;refine a8 (sg rfl (aA rfl (fun hb=>?_) (fun hb=>?_)))
 ·have N:=ltD hb J;obtain⟨y,hy⟩:=aK N;have Y:=bJ rY hy;refine aD (a8 (aC (sgh [(2,.row k (rY y)),(7,.row i (rY x))] rfl (aA rfl (fun hb=>?_) (fun hb=>?_)))))
  ·have he:y.1=x.1:=by simpa using hb
   refine sg rfl ?_;have:r=false:=by
    rw[←O];simp only[Cs];exact fun h=>h k y h1 hy he
   rw[this];exact aI rtT
  ·have he:¬y.1=x.1:=by simpa using hb
   refine aD (ag [] rfl ⟨k+1,⟨by omega,N,fun j z g1 g2 g3=>?_⟩,by dsimp only;omega,sl⟩);by_cases hj:j=k
   ·rw[hj,hy,Option.some.injEq] at g3;rw[←g3];exact he
   ·exact h3 j z g1 (by omega) g3
 ·have Z:=geD hb J h2;refine aM (sg rfl ?_);have:r=true:=by
   rw[←O];simp only[decide_eq_true_eq];exact fun j y g1 g2=>h3 j y g1 (by have:=(ε.1 g2).1;omega) g2
  rw[this];exact aI rtT
theorem aE3 (l:List Int) (left:Int) (v:Gv) (h:Ok l):∃(s:Str) (l':List Int),s∈nmL∧Ok l'∧aW Tryz.prog 59 [.one (.vp 700 0),.pa (x7 v)] (mO l left) (Go.AM.T s) (mO l' left):=by
 obtain⟨i,l',hi,I,hc⟩:=j0 l left 5 (by decide) h;have hi:i<5:=by omega
 obtain⟨s,hs⟩:∃s,([[120],[121],[122,64,49],[97],[98]]:List Str)[i]?=some s:=aK (by simpa using hi);have J:=bJ bO hs;refine⟨s,l',?_,I,?_⟩
 ·have:i=0∨i=1∨i=2∨i=3∨i=4:=by omega
  rcases this with rfl | rfl | rfl | rfl | rfl<;>(simp at hs;subst hs;decide)
 ·refine bT (n:=10) tok Tryz.func59 rfl rfl rfl ?_;refine sg rfl (sk 2 rfl (kc hc ?_));exact ak 3 [(3,.row i []),(4,.row i (bO s))] rfl (az (aI rtT))
def aSe:Ty:=.mk 3 0 [66,111,111,108] []
def aYx (l:List Str):V:=.one (.c (.sl 1 (l.map bO)))
def Sh8 (l:List Str):Prop:=∀s∈l,s∈tvN
def tsz:Nat→Nat
 | 0=>1
 | f+1=>2*tsz f+3
def aUk (vars:List Str) (dp:Int) (m:Nat):Prop:=∀(l:List Int) (left:Int),Ok l→
  ∃(t:Ty) (l':List Int) (n:Nat),GT n t∧n≤m∧Ok l'∧aW Tryz.prog 24 [.one (.vp 700 0),aYx vars,I .i64 dp] (mO l left) (tyV t) (mO l' left)
theorem GT.nm {s:Str}(h:s.length≤8):GT 1 (.mk 3 0 s []):=.con s h
theorem aCs (vars:List Str) (hv:Sh8 vars) (hvl:vars.length≤1000000) (I:Int) (h0:0≤I) (hd3:I≤3) (m M:Nat) (h1:1≤M) (hM:I≤2→2*m+3≤M) (ih:I≤2→aUk vars (I+1) m):aUk vars I M:=by
 intro l left h;obtain⟨i,l1,hi,N,hc⟩:=j0 l left 8 (by decide) h;have hi:i<8:=by omega
 have hvk:(vars.map bO).length=vars.length:=ξ _;by_cases hA:5<i∧0<vars.length
 ·obtain⟨j,W,hj,J,ab⟩:=j0 l1 left vars.length (by omega) N;have hj:j<vars.length:=by omega
  obtain⟨x,hx⟩:=aK hj;have hx':=bJ bO hx;refine⟨.mk 2 0 x [],W,1,.var x (hv x (η hx)),by omega,J,?_⟩;refine bT (n:=68) tok Tryz.func24 rfl rfl rfl ?_;refine sg rfl (sk 1 rfl (kc hc ?_));refine kz 1 rfl (a8 (a8 (agF 3 [] rfl rfl rfl ?_)));have g1:(5:Int)<i:=by omega
  have g2:(0:Int)<((vars.map bO).length:Nat):=by omega
  refine aA rfl (fun _=>sk 4 rfl ?_) (fun hb=>by rw[Ai g1,Ai g2] at hb;cases hb);rw[←hvk] at ab;refine kc ab ?_;exact ak 4 [(5,.row j (bO x))] rfl (az (aI (rtC trw)))
 ·by_cases hB:i<3∨2<I
  ·have O:∃(k:Nat) (t:Ty),k<2∧(i:Int)%2=k∧GT 1 t∧[bD aG5,bD aSe][k]?=some (bD t):=by
    have:i%2=0∨i%2=1:=by omega
    rcases this with e | e
    ·exact⟨0,aG5,by omega,by omega,.con _ (by decide),rfl⟩
    ·exact⟨1,aSe,by omega,by omega,.con _ (by decide),rfl⟩
   obtain⟨k,t,hk,hik,ht,O⟩:=O;refine⟨t,l1,1,ht,by omega,N,?_⟩;obtain⟨tf,tn,ts,ta⟩:=t;refine bT (n:=68) tok Tryz.func24 rfl rfl rfl ?_;refine sg rfl (sk 1 rfl (kc hc ?_));refine kz 1 rfl (a8 (a8 (agF 3 [] rfl rfl rfl (aA rfl (fun hb=>by simp at hb;omega) (fun _=>aD (a8 (a8 (agF 3 [] rfl rfl rfl (aA rfl (fun _=>a8 (aE mixed (kc (gD [73,110,116]) ?_))) (fun hb=>by simp at hb;omega))))))))));refine kc (gD [66,111,111,108]) ?_;exact ak 6 [(5,.row k []),(6,.row k (bD (.mk tf tn ts ta)))] rfl (az (aI (rtC trw)))
  ·have hM:=hM (by omega);obtain⟨⟨af,an,Y,Z⟩,W,na,ga,hna,J,ca⟩:=ih (by omega) l1 left N;by_cases hC:i=3
   ·refine⟨.mk 4 0 [] [.mk 3 0 [76] [],.mk af an Y Z],W,1+na+1,.app (.nm (by decide)) ga,by omega,J,?_⟩;refine bT (n:=68) tok Tryz.func24 rfl rfl rfl ?_;refine sg rfl (sk 1 rfl (kc hc ?_));refine kz 1 rfl (a8 (a8 (agF 3 [] rfl rfl rfl (aA rfl (fun hb=>by simp at hb;omega) (fun _=>aD (a8 (a8 (agF 3 [] rfl rfl rfl (aA rfl (fun hb=>by simp at hb;omega) (fun _=>aD (sk 4 rfl ?_ (hc:=by repeat (first | exact trivial | refine⟨by first | rfl | omega | (simp;omega) | (unfold Ty.name;simp;omega) | (simp;done),?_⟩)))))))))))));refine kc ca ?_;refine kz 2 rfl (a8 (sg rfl (aA rfl (fun _=>a8 (aE mixed (kc (gD [76]) ?_))) (fun hb=>by simp at hb;omega))));refine kz 4 rfl (AWp.sub (Sub.freeze (id:=49) rfl) ?_);exact aI (rtC trw)
   ·obtain⟨⟨bf,bn,sb,ba⟩,l3,nb,gb,hnb,ac,cb⟩:=ih (by omega) W left J;by_cases hD:i=4
    ·refine⟨iR (.mk af an Y Z) (.mk bf bn sb ba),l3,na+nb+3,ga.fn gb,by omega,ac,?_⟩;refine bT (n:=68) tok Tryz.func24 rfl rfl rfl ?_;refine sg rfl (sk 1 rfl (kc hc ?_));refine kz 1 rfl (a8 (a8 (agF 3 [] rfl rfl rfl (aA rfl (fun hb=>by simp at hb;omega) (fun _=>aD (a8 (a8 (agF 3 [] rfl rfl rfl (aA rfl (fun hb=>by simp at hb;omega) (fun _=>aD (sk 4 rfl ?_ (hc:=by repeat (first | exact trivial | refine⟨by first | rfl | omega | (simp;omega) | (unfold Ty.name;simp;omega) | (simp;done),?_⟩)))))))))))));refine kc ca ?_;refine kz 2 rfl (a8 (sg rfl (aA rfl (fun hb=>by simp at hb;omega) (fun _=>aD (sk 4 rfl ?_ (hc:=by repeat (first | exact trivial | refine⟨by first | rfl | omega | (simp;omega) | (unfold Ty.name;simp;omega) | (simp;done),?_⟩)))))));refine kc cb ?_;refine kz 2 rfl (a8 (sg rfl (aA rfl (fun _=>sk 2 rfl (kc (sP (.mk af an Y Z) (.mk bf bn sb ba)) ?_)) (fun hb=>by simp at hb;omega))));exact kz 1 rfl (aI (rtC trw))
    ·refine⟨.mk 4 0 [] [.mk 4 0 [] [.mk 3 0 [80] [],.mk af an Y Z],.mk bf bn sb ba],l3,1+na+1+nb+1,.app (.app (.nm (by decide)) ga) gb,by omega,ac,?_⟩;refine bT (n:=68) tok Tryz.func24 rfl rfl rfl ?_;refine sg rfl (sk 1 rfl (kc hc ?_));refine kz 1 rfl (a8 (a8 (agF 3 [] rfl rfl rfl (aA rfl (fun hb=>by simp at hb;omega) (fun _=>aD (a8 (a8 (agF 3 [] rfl rfl rfl (aA rfl (fun hb=>by simp at hb;omega) (fun _=>aD (sk 4 rfl ?_ (hc:=by repeat (first | exact trivial | refine⟨by first | rfl | omega | (simp;omega) | (unfold Ty.name;simp;omega) | (simp;done),?_⟩)))))))))))));refine kc ca ?_;refine kz 2 rfl (a8 (sg rfl (aA rfl (fun hb=>by simp at hb;omega) (fun _=>aD (sk 4 rfl ?_ (hc:=by repeat (first | exact trivial | refine⟨by first | rfl | omega | (simp;omega) | (unfold Ty.name;simp;omega) | (simp;done),?_⟩)))))));refine kc cb ?_;refine kz 2 rfl (a8 (sg rfl (aA rfl (fun hb=>by simp at hb;omega) (fun _=>aD (a8 (aE mixed (kc (gD [80]) ?_)))))));exact ak 7 [(2,.all),(5,.all)] rfl (az (aI (rtC trw)))
theorem aHs:∀f,1≤tsz f
 | 0=>le_refl _
 | f+1=>by rw[tsz];omega
theorem x8 (vars:List Str) (hv:Sh8 vars) (J:vars.length≤1000000):∀(f:Nat) (I:Int),I+f=3→0≤I→aUk vars I (tsz f)
 | 0,I,hd,h0=>aCs vars hv J I h0 (by omega) 0 (tsz 0) (aHs 0) (fun h=>by omega) (fun h=>by omega)
 | f+1,I,hd,h0=>aCs vars hv J I h0 (by omega) (tsz f) (tsz (f+1)) (aHs _) (fun _=>le_refl _) (fun _=>x8 vars hv J f (I+1) (by omega) (by omega))
inductive GC (z:Bool):List Str→Nat→Core→Prop
 | var {L:List Str} {s:Str} (h:s∈nm6) (hL:s∈L):GC z L 4 (.mk 1 0 s zTy [] [] [])
 | con {L:List Str} {s:Str} (h:s.length≤8):GC z L 9 (.mk 2 0 s zTy [] [] [])
 | int {L:List Str} {n:Int} (h: -100≤n∧n≤100):GC z L 1 (.mk 3 n [] zTy [] [] [])
 | app {L:List Str} {m n:Nat} {a b:Core} (ha:GC z L m a) (hb:GC z L n b):GC z L (m+n+1) (.mk 4 0 [] zTy [a,b] [] [])
 | lam {L:List Str} {m k:Nat} {s:Str} {t:Ty} {a:Core} (h:s∈nm6) (ht:GT k t) (hk:k≤100) (ha:GC z (L++[s]) m a):GC z L (m+4) (.mk 5 0 s t [a] [] [])
 | tc {L:List Str} {k:Nat} {t:Ty} {s:Str} (h:s.length≤8) (ht:GT k t) (hk:k≤100):GC z L (9+1) (.mk 6 0 [] t [.mk 2 0 s zTy [] [] []] [] [])
 | tc2 {L:List Str} {j k:Nat} {u t:Ty} {s:Str} (h:s.length≤8) (hu:GT j u) (hj:j≤100) (ht:GT k t) (hk:k≤100):GC z L (9+1+1) (.mk 6 0 [] t [.mk 6 0 [] u [.mk 2 0 s zTy [] [] []] [] []] [] [])
 | tr {L:List Str} {m n j k:Nat} {u t:Ty} {s x:Str} {a b:Core} (hu:GT j u) (hj:j≤100) (hs:s∈tvN) (hx:x∈nm6) (ht:GT k t) (hk:k≤100) (ha:GC z (L++[x]) m a) (hb:GC z L n b):GC z L (m+4+20+1+n+1) (.mk 4 0 [] zTy [.mk 6 0 [] u [.mk 7 0 s zTy [.mk 5 0 x t [a] [] []] [] []] [] [],b] [] [])
 | tlam {L:List Str} {m:Nat} {s:Str} {a:Core} (hz:z=true) (h:s∈tvN) (ha:GC z L m a):GC z L (m+20) (.mk 7 0 s zTy [a] [] [])
 | lt {L:List Str} {m n k:Nat} {s:Str} {t:Ty} {a b:Core} (h:s∈nm6) (ht:GT k t) (hk:k≤100) (ha:GC z (L++[s]) m a) (hb:GC z (L++[s]) n b):GC z L (m+n+5) (.mk 8 0 [] zTy [a] [.mk s t b] [])
 | case1 {L:List Str} {m n k:Nat} {t:Ty} {a b:Core} {f i:Int} {s:Str} {vs:List Str} (ht:GT k t) (hk:k≤100) (ha:GC z L m a) (hb:GC z (L++vs) n b) (h1:1≤f∧f≤3) (h2: -100≤i∧i≤100) (h3:s.length≤8) (h4:∀x∈vs,x∈nm6) (h5:vs.length≤2) (h6:f=1∨vs=[]):GC z L (m+n+20) (.mk 9 0 [] t [a] [] [.mk f i s vs b])
 | case2 {L:List Str} {m n o k:Nat} {t:Ty} {a b c:Core} {f i:Int} {s:Str} {vs:List Str} {f' i':Int} {s':Str} {vs':List Str} (ht:GT k t) (hk:k≤100) (ha:GC z L m a) (hb:GC z (L++vs) n b) (hc:GC z (L++vs') o c) (h1:1≤f∧f≤3) (h2: -100≤i∧i≤100) (h3:s.length≤8) (h4:∀x∈vs,x∈nm6) (h5:vs.length≤2) (h6:f=1∨vs=[]) (h1':1≤f'∧f'≤3) (h2': -100≤i'∧i'≤100) (h3':s'.length≤8) (h4':∀x∈vs',x∈nm6) (h5':vs'.length≤2) (h6':f'=1∨vs'=[]):GC z L (m+n+o+40) (.mk 9 0 [] t [a] [] [.mk f i s vs b,.mk f' i' s' vs' c])
 | prim {L:List Str} {m n:Nat} {s:Str} {a b:Core} (h:s∈aOa) (ha:GC z L m a) (hb:GC z L n b):GC z L (m+n+5) (.mk 10 0 s zTy [a,b] [] [])
 | fail {L:List Str} {k:Nat} {t:Ty} (ht:GT k t) (hk:k≤100):GC z L 1 (.mk 11 0 [] t [] [] [])
theorem mV {L L' vs:List Str}(h:∀s∈nm6,s∈L→s∈L'):∀s∈nm6,s∈L++vs→s∈L'++vs:=fun s hs hx=>(ω.1 hx).elim (fun hx=>ω.2 (.inl (h s hs hx))) fun hx=>ω.2 (.inr hx)
theorem GC.mono {z:Bool}{L:List Str}{m:Nat}{c:Core}(h:GC z L m c):∀{L':List Str},(∀s∈nm6,s∈L→s∈L')→GC z L' m c:=by
 induction h with
 | var h hL=>exact fun hm=>.var h (hm _ h hL)
 | con h=>exact fun _=>.con h
 | int h=>exact fun _=>.int h
 | app _ _ I J=>exact fun hm=>.app (I hm) (J hm)
 | lam h ht hk _ I=>exact fun hm=>.lam h ht hk (I (mV hm))
 | tc h ht hk=>exact fun _=>.tc h ht hk
 | tc2 h hu hj ht hk=>exact fun _=>.tc2 h hu hj ht hk
 | tr hu hj hs hx ht hk _ _ I J=>exact fun hm=>.tr hu hj hs hx ht hk (I (mV hm)) (J hm)
 | tlam hz h _ I=>exact fun hm=>.tlam hz h (I hm)
 | lt h ht hk _ _ I J=>exact fun hm=>.lt h ht hk (I (mV hm)) (J (mV hm))
 | case1 ht hk _ _ h1 h2 h3 h4 h5 h6 I J=>exact fun hm=>.case1 ht hk (I hm) (J (mV hm)) h1 h2 h3 h4 h5 h6
 | case2 ht hk _ _ _ h1 h2 h3 h4 h5 h6 h1' h2' h3' h4' h5' h6' I J N=>exact fun hm=>.case2 ht hk (I hm) (J (mV hm)) (N (mV hm)) h1 h2 h3 h4 h5 h6 h1' h2' h3' h4' h5' h6'
 | prim h _ _ I J=>exact fun hm=>.prim h (I hm) (J hm)
 | fail ht hk=>exact fun _=>.fail ht hk
def nmG (v:Gv):List Str:=v.l.map (·.1)
theorem aD4 {v:Gv}{s:Str}{t:Ty}:nmG (dF v s t)=nmG v++[s]:=by
 unfold nmG dF;rw[As];rfl
theorem GC.within {z:Bool}{v:Gv}{s:Str}{t:Ty}{m:Nat}{c:Core}(h:GC z (nmG (dF v s t)) m c):GC z (nmG v++[s]) m c:=by rwa [aD4] at h
theorem GC.less {z:Bool}{v:Gv}{t:Ty}{m:Nat}{c:Core}(h:GC z (nmG (dF v [] t)) m c):GC z (nmG v) m c:=h.within.mono fun s hs hx=>(ω.1 hx).resolve_right fun e=>by
 rw[Ac.1 e] at hs;exact absurd hs (by decide)
theorem GC.less0 {z:Bool}{v:Gv}{t:Ty}{m:Nat}{c:Core}(h:GC z (nmG (dF v [] t)) m c):GC z (nmG v++[]) m c:=by rw[A8];exact h.less
theorem GC.in2 {z:Bool}{v:Gv}{s s':Str}{t t':Ty}{m:Nat}{c:Core}(h:GC z (nmG (dF (dF v s t) s' t')) m c):GC z (nmG v++[s,s']) m c:=by
 have:=h.within;rw[aD4,Aw] at this;exact this
structure Gok (v:Gv):Prop where
 all:∀x∈v.l,(x.1=[]∨x.1∈nm6)∧∃k,k≤100∧GT k x.2
 vars:Sh8 v.vars
 d0:0≤v.deep
 len:(v.l.length:Int)≤v.deep
 vlen:(v.vars.length:Int)≤v.deep+1
theorem Gok.more {v:Gv}(h:Gok v) {s:Str}{t:Ty}{k:Nat}(hs:s=[]∨s∈nm6) (ht:GT k t) (hk:k≤100):Gok (dF v s t):=by
 obtain⟨h1,h2,h3,h4,h5⟩:=h;refine⟨fun x hx=>?_,h2,by show 0≤v.deep+1;omega,?_,by show(v.vars.length:Int)≤v.deep+1+1;omega⟩
 ·rcases ω.1 hx with hx | hx
  ·exact h1 x hx
  ·rw[Ac.1 hx];exact⟨hs,k,hk,ht⟩
 ·show((v.l++[(s,t)]).length:Int)≤v.deep+1;rw[Aa];simp only[Bk,List.length_nil];omega
def aHu (L:List (Str×Ty)) (f g:Nat→Bool):Nat→List Int→Option Str×List Int
 | 0,l=>(none,l)
 | k+1,l=>if ¬(L[k]?.getD ([],zTy)).1=[]∧f k=true∧g k=true then(if 0<(sM l 3).1 then(some (L[k]?.getD ([],zTy)).1,(sM l 3).2) else aHu L f g k (sM l 3).2) else aHu L f g k l
theorem aAv (L:List (Str×Ty)) (f g:Nat→Bool):∀(k:Nat) (l:List Int),k≤L.length→Ok l→Ok (aHu L f g k l).2∧∀s,(aHu L f g k l).1=some s→¬s=[]∧∃x∈L,x.1=s
 | 0,l,_,h=>⟨h,fun s hs=>by simp[aHu] at hs⟩
 | k+1,l,hk,h=>by
  rw[aHu];split
  ·rename_i hc;split
   ·refine⟨pY h 3,fun s hs=>?_⟩;simp only[Option.some.injEq] at hs;subst hs;obtain⟨x,hx⟩:=aK (l:=L) (k:=k) (by omega);rw[hx] at hc ⊢;exact⟨hc.1,x,η hx,rfl⟩
   ·exact aAv L f g k _ (by omega) (pY h 3)
  ·exact aAv L f g k _ (by omega) h
def vRt (v:Gv):List R:=(x7 v).map R.c
def tR (t:Ty):List R:=(bD t).map R.c
def bb (f:Int) (s a:Str):Bool:=bif decide (f=3) then decide (s=a) else false
theorem oP {f:Int}{s a:Str}(h:bb f s a=true):f=3∧s=a:=by
 unfold bb at h;by_cases h1:f=3
 ·by_cases h2:s=a
  ·exact⟨h1,h2⟩
  ·simp[h2] at h
 ·simp[h1] at h
theorem aFh {f:Int}{s a:Str}{n k:Nat}(h:(bif decide (f=3) then bif decide (s=a) then decide ((n:Int)=(k:Int)) else false else bif false then decide ((n:Int)=(k:Int)) else false)=true):bb f s a=true∧n=k:=by
 unfold bb;by_cases h1:f=3
 ·by_cases h2:s=a
  ·simp[h1,h2] at h ⊢;omega
  ·simp[h2] at h
 ·simp[h1] at h
def xQ (n:Nat) (t:Ty):Prop:=∀(v:Gv) (l:List Int) (left:Int),Gok v→v.deep+n≤200→Ok l→
 ∃(c:Core) (l':List Int) (m:Nat),GC false (nmG v) m c∧m≤20*n∧Ok l'∧aW Tryz.prog 58 [.one (.vp 700 0),.pa (x7 v),tyV t] (mO l left) (.pa (aB c)) (mO l' left)
def aZ5:Code→Code | .seq _ b=>b | c=>c
noncomputable def aZe:Code:=aZ5 (aZ5 (Tryz.f58.body.getD .skip))
theorem iL (v:Gv) (t:Ty) (l:List Int) (left:Int) (f g:Nat→Bool) (out:Option Str×List Int) (hl:Ok l) (hL:v.l.length≤200) (hf:∀k x,v.l[k]?=some x→aW Tryz.prog 101 [tyV x.2,tyV t] [] (B (f k)) [])
  (ac:∀k,k<v.l.length→aW Tryz.prog 102 [.one (.c (.sl 5 (v.l.map rY))),I .i64 k] [] (B (g k)) []) (hout:aHu v.l f g v.l.length l=out) {res:V} {hout':List (Nat×AObj)}
  (ad:∀s Z,out=(some s,Z)→res=.pa (aB (.mk 1 0 s zTy [] [] []))∧hout'=mO Z left)
  (ae:∀Z,out=(none,Z)→AWp none Tryz.prog 166 (keys (mO l left)) aZe (mk [(0,.one (.vp 700 0)),(4,.one (.vp 4 0)),(5,.one (.vp 5 0)),(6,.one (.vp 6 0))] ([(4,.var 78 (vRt v)),(5,.var 33 (tR t)),(6,.var 37 bM)]++mO Z left)) (fun ex st=>(ex=.normal∨ex=.ret)∧Fin tr.flat Tryz.f58 st (mO l left) res hout')):
  aW Tryz.prog 58 [.one (.vp 700 0),.pa (x7 v),tyV t] (mO l left) res hout':=by
 have ah:(v.l.map rY).length=v.l.length:=ξ _;refine bT (n:=166) tok Tryz.func58 rfl rfl rfl ?_;refine sg rfl (a8 (sg rfl (aC (aL (fun x:Nat×List Int=>mk [(0,.one (.vp 700 0)),(4,.one (.vp 4 0)),(5,.one (.vp 5 0)),(6,.one (.vp 6 0)),(7,I .i64 ((x.1:Int)-1))] ([(4,.var 78 (vRt v)),(5,.var 33 (tR t)),(6,.var 37 [.c (.int .i64 0),.c (.int .i64 0),.c (.str []),.c (.int .i64 0),.c (.int .i64 0),.c (.str []),.c .nl,.c .nl,.c .nl,.c .nl])]++mO x.2 left)) (fun x=>x.1≤v.l.length∧Ok x.2∧aHu v.l f g x.1 x.2=out) (fun x=>x.1) (v.l.length,l) ⟨le_refl _,hl,hout⟩ (sl (he:=⟨rfl,rfl,rfl,rfl,by rw[←ah];rfl,trivial⟩)) ?_))));rintro⟨k,lk⟩ ⟨hk,N,J⟩;dsimp only at hk N J ⊢;refine a8 (sg rfl (aA rfl (fun hb=>?_) (fun hb=>?_)))
 ·have ab:0<k:=by have:=φ hb;omega
  obtain⟨k,rfl⟩:∃j,k=j+1:=⟨k-1,by omega⟩
  obtain⟨⟨xs,W⟩,hx⟩:=aK (l:=v.l) (k:=k) (by omega);have am:=bJ rY hx;have ai:((k+1:Nat):Int)-1=(k:Int):=by omega
  rw[ai];rw[aHu,hx] at J;dsimp only[Option.getD] at J;have O:=hf k _ hx;have Y:=ac k (by omega);have aj:=aLn lk left 3 (by decide) N;dsimp only at O;refine aD (a8 (aC (a8 ?_)));by_cases h1:xs=[]
  ·rw[ψ (fun h=>h.1 h1)] at J;have h1':(!decide (xs=[]))=false:=by rw[Ai h1];rfl
   exact ag [(3,.row k (rY (xs,W))),(7,.bv false),(16,.bv false)] rfl (aA rfl nofun (fun _=>aD (ag [] rfl ⟨(k,lk),⟨by dsimp only;omega,N,J⟩,by dsimp only;omega,sl⟩)))
  have h1':(!decide (xs=[]))=true:=by rw[Am h1];rfl
  cases h2:f k with
  | false=>
   rw[ψ (fun h=>by rw[h2] at h;cases h.2.1)] at J;rw[h2] at O;refine aE mixed (ak 15 [(3,.row k (rY (xs,W))),(7,.bv true),(11,.row k (rY (xs,W)))] rfl (kcG O ?_ (hw:=h1')));exact ak 12 [(16,.bv true)] rfl (az (aA rfl nofun (fun _=>aD (ag [] rfl ⟨(k,lk),⟨by dsimp only;omega,N,J⟩,by dsimp only;omega,sl⟩))))
  | true=>
  rw[h2] at O;cases h3:g k with
  | false=>
   rw[ψ (fun h=>by rw[h3] at h;cases h.2.2)] at J;rw[h3] at Y;refine aE mixed (ak 15 [(3,.row k (rY (xs,W))),(7,.bv true),(11,.row k (rY (xs,W)))] rfl (kcG O ?_ (hw:=h1')));refine ak 5 [(16,.bv true)] rfl (kcG Y ?_);exact kz 6 rfl (aA rfl nofun (fun _=>aD (ag [] rfl ⟨(k,lk),⟨by dsimp only;omega,N,J⟩,by dsimp only;omega,sl⟩)))
  | true=>
  rw[θ ⟨h1,h2,h3⟩] at J;rw[h3] at Y;refine aE mixed (ak 15 [(3,.row k (rY (xs,W))),(7,.bv true),(11,.row k (rY (xs,W)))] rfl (kcG O ?_ (hw:=h1')));refine ak 5 [(16,.bv true)] rfl (kcG Y ?_);refine ak 3 [] rfl (kcG aj ?_);refine kz 2 rfl (aA rfl (fun hb=>?_) (fun hb=>?_))
  ·have aa:0<(sM lk 3).1:=φ hb;rw[θ aa] at J;obtain⟨s1,Z⟩:=out;simp only[Prod.mk.injEq] at J;obtain⟨rfl,rfl⟩:=J;obtain⟨rfl,rfl⟩:=ad _ _ rfl;exact sgh [(3,.row k (rY (xs,W)))] rfl (aI (rtC trw))
  ·have aa:¬0<(sM lk 3).1:=δ hb;rw[ψ aa] at J;exact aD (ag [] rfl ⟨(k,_),⟨by dsimp only;omega,pY N 3,J⟩,by dsimp only;omega,sl⟩)
 have ab:k=0:=by have:=δ hb;omega
 subst ab;rw[aHu] at J;exact aM (AWp.sub sl (ae lk J.symm))
theorem aKe (n:Nat) (t:Ty) (hg:GT n t) (hn:n≤100) (ih:∀(k:Nat) (u:Ty),k<n→GT k u→xQ k u):xQ n t:=by
 intro v l left hv hd hl;have hL:v.l.length≤200:=by have:=hv.len;omega
 have hS:∀k:Nat,∃b:Bool,∀x,v.l[k]?=some x→aW Tryz.prog 101 [tyV x.2,tyV t] [] (B b) []:=fun k=>by
  cases hx:v.l[k]? with
  | none=>exact⟨false,fun x h=>by cases h⟩
  | some x=>
   obtain⟨_,k',hk',hx'⟩:=hv.all x (η hx);obtain⟨r,hr⟩:=aXg hx' hg (by omega) (by omega);exact⟨r,fun y hy=>by cases hy;exact hr⟩
 have hH:∀k:Nat,∃b:Bool,k<v.l.length→aW Tryz.prog 102 [.one (.c (.sl 5 (v.l.map rY))),I .i64 k] [] (B b) []:=fun k=>by
  by_cases hk:k<v.l.length
  ·obtain⟨r,hr⟩:=aTr v.l k hk (by omega);exact⟨r,fun _=>hr⟩
  ·exact⟨false,fun h=>absurd h hk⟩
 obtain⟨f,hf⟩:=Classical.axiomOfChoice hS;obtain⟨g,N⟩:=Classical.axiomOfChoice hH;obtain⟨hok,W⟩:=aAv v.l f g v.l.length l (le_refl _) hl;have hkl:(v.l.map rY).length=v.l.length:=ξ _;generalize hout:aHu v.l f g v.l.length l=out at hok W;obtain⟨so,Y⟩:=out;cases so with
 | some s=>
  obtain⟨hs0,x,hx,hxs⟩:=W s rfl;have hs6:s∈nm6:=by
   rcases(hv.all x hx).1 with h | h
   ·rw[hxs] at h;exact absurd h hs0
   ·rw[hxs] at h;exact h
  refine⟨.mk 1 0 s zTy [] [] [],Y,4,.var hs6 (Ad.2 ⟨x,hx,hxs⟩),by cases hg<;>omega,hok,?_⟩;exact iL v t l left f g _ hl hL hf N hout (fun s' l' e=>by cases e;exact⟨rfl,rfl⟩) (fun l' e=>by cases e)
 | none=>
  clear W hS hH;have hok:Ok Y:=hok;rcases uD hg with⟨m1,m2,a,b,ga,gb,hnm,rfl,Z⟩ | Z
  ·obtain⟨s,l2,hs,O,cN⟩:=aE3 Y left v hok;have hs6:s∈nm6:=ω.2 (.inl hs);obtain⟨c,l3,m,gc,hm,hl3,cL⟩:=ih m2 b (by omega) gb (dF v s a) l2 left (hv.more (.inr hs6) ga (by omega)) (by show v.deep+1+(m2:Int)≤200;omega) O;have cM:=xD v s a (by omega) ⟨hv.d0,by omega⟩;refine⟨.mk 5 0 s a [c] [] [],l3,m+4,.lam hs6 ga (by omega) gc.within,by omega,hl3,?_⟩;refine iL v (iR a b) l left f g _ hl hL hf N hout (fun s' l' e=>by cases e) (fun l' e=>?_);cases e;refine a8 (sk 1 rfl (kc Z ?_));refine az (aA rfl (fun _=>sk 2 rfl (kc cN ?_)) nofun);refine kz 1 rfl (skh 18 [(3,.row 0 (bD (aM6 (.mk 3 0 arrow []) a))),(6,.row 1 (bD a)),(13,.row 0 (bD (aM6 (.mk 3 0 arrow []) a))),(16,.row 1 (bD a))] rfl (kc cM ?_));refine ak 4 [(21,.row 1 (bD b))] rfl (kc cL ?_);exact ak 3 [(24,.all)] rfl (az (aI (rtC trw)))
  obtain⟨J,L,hLg,hLn,cS⟩:=aK8 hg (by omega);by_cases hI:bb J.form J.name [73,110,116]=true
  ·obtain⟨i,l2,hi,O,cN⟩:=j0 Y left 7 (by decide) hok;refine⟨.mk 3 ((i:Int)-2) [] zTy [] [] [],l2,1,.int (by omega),by cases hg<;>omega,O,?_⟩;refine iL v t l left f g _ hl hL hf N hout (fun s' l' e=>by cases e) (fun l' e=>?_);cases e;refine a8 (sk 1 rfl (kc Z ?_));refine az (aA rfl nofun (fun _=>aD (sk 1 rfl (kc cS ?_))));refine kz 6 rfl (a8 (aC (a8 (agF 4 [] rfl rfl rfl (aA rfl (fun _=>sk 1 rfl (kc cN ?_)) (fun hb=>by have:=hI.symm.trans hb;cases this))))));refine ak 3 [] rfl ?_ (hc:=by repeat (first | exact trivial | refine⟨by first | rfl | omega | (simp;omega) | (unfold Ty.name;simp;omega) | (simp;done),?_⟩));exact az (aI (rtC trw))
  by_cases hB:bb J.form J.name [66,111,111,108]=true
  ·obtain⟨i,l2,hi,O,cN⟩:=j0 Y left 2 (by decide) hok;have hi:i<2:=by omega
   obtain⟨s,hs⟩:∃s,([[70,97,108,115,101],[84,114,117,101]]:List Str)[i]?=some s:=aK (by simpa using hi);have hs':=bJ bO hs;have hs8:s.length≤8:=by
    have:i=0∨i=1:=by omega
    rcases this with rfl | rfl<;>(simp at hs;subst hs;decide)
   refine⟨.mk 2 0 s zTy [] [] [],l2,9,.con hs8,by cases hg<;>omega,O,?_⟩;refine iL v t l left f g _ hl hL hf N hout (fun s' l' e=>by cases e) (fun l' e=>?_);cases e;refine a8 (sk 1 rfl (kc Z ?_));refine az (aA rfl nofun (fun _=>aD (sk 1 rfl (kc cS ?_))));refine kz 6 rfl (a8 (aC (a8 (agF 4 [] rfl rfl rfl (aA rfl (fun hb=>absurd hb hI) (fun _=>a8 (agF 4 [] rfl rfl rfl (aA rfl (fun _=>sk 2 rfl (kc cN ?_)) (fun hb=>by have:=hB.symm.trans hb;cases this)))))))));exact ak 4 [(3,.row i []),(4,.row i (bO s))] rfl (az (aI (rtC trw)))
  by_cases hX:bb J.form J.name [76]=true∧L.length=1
  ·obtain⟨x,rfl⟩:∃x,L=[x]:=Bp.1 hX.2;obtain⟨k,_,gx,_,hk⟩:=hLg;have cG:=nX [78] [x] (by simp);refine⟨.mk 6 0 [] x [.mk 2 0 [78] zTy [] [] []] [] [],Y,9+1,.tc (by decide) gx (by omega),by cases hg<;>omega,hok,?_⟩;refine iL v t l left f g _ hl hL hf N hout (fun s' l' e=>by cases e) (fun l' e=>?_);cases e;refine a8 (sk 1 rfl (kc Z ?_));refine az (aA rfl nofun (fun _=>aD (sk 1 rfl (kc cS ?_))));refine kz 6 rfl (a8 (aC (a8 (agF 4 [] rfl rfl rfl (aA rfl (fun hb=>absurd hb hI) (fun _=>a8 (agF 4 [] rfl rfl rfl (aA rfl (fun hb=>absurd hb hB) (fun _=>a8 (agF 4 [] rfl rfl rfl (aA rfl (fun _=>?_) (fun hb=>?_))))))))))))
   ·refine sk 1 rfl (kc cG ?_);exact kz 1 rfl (aI (rtC trw))
   ·exfalso;obtain⟨h3,h4⟩:=oP hX.1;simp[h3,h4] at hb
  by_cases hP:bb J.form J.name [80]=true∧L.length=2
  ·obtain⟨x,y,rfl⟩:∃x y,L=[x,y]:=by
    match L,hP.2 with
    | [x,y],_=>exact⟨x,y,rfl⟩
   obtain⟨k1,m1,gx,⟨k2,m2,gy,_,hk2⟩,hk1⟩:=hLg;have cG:=nX [80] [x,y] (by simp);obtain⟨c1,l2,w1,gc1,hw1,O,cL1⟩:=ih k1 x (by omega) gx v Y left hv (by omega) hok;obtain⟨c2,l3,w2,gc2,hw2,hl3,cL2⟩:=ih k2 y (by omega) gy v l2 left hv (by omega) O;have cA1:=fR (gZ [80] [x,y]) c1;have cA2:=fR (.mk 4 0 [] zTy [gZ [80] [x,y],c1] [] []) c2;refine⟨.mk 4 0 [] zTy [.mk 4 0 [] zTy [gZ [80] [x,y],c1] [] [],c2] [] [],l3,(9+1+1)+w1+1+w2+1,.app (.app (.tc2 (by decide) gx (by omega) gy (by omega)) gc1) gc2,by omega,hl3,?_⟩;refine iL v t l left f g _ hl hL hf N hout (fun s' l' e=>by cases e) (fun l' e=>?_);cases e;refine a8 (sk 1 rfl (kc Z ?_));refine az (aA rfl nofun (fun _=>aD (sk 1 rfl (kc cS ?_))));refine kz 6 rfl (a8 (aC (a8 (agF 4 [] rfl rfl rfl (aA rfl (fun hb=>absurd hb hI) (fun _=>a8 (agF 4 [] rfl rfl rfl (aA rfl (fun hb=>absurd hb hB) (fun _=>a8 (agF 4 [] rfl rfl rfl (aA rfl (fun hb=>?_) (fun _=>?_))))))))))))
   ·exfalso;simp at hb
   refine a8 (agF 4 [] rfl rfl rfl (aA rfl (fun _=>?_) (fun hb=>?_)))
   ·refine sk 1 rfl (kc cG ?_);refine ak 5 [(5,.row 0 []),(6,.row 0 (bD x))] rfl (kc cL1 ?_);refine kc cA1 ?_;refine ak 5 [(12,.row 1 []),(13,.row 1 (bD y))] rfl (kc cL2 ?_);refine kc cA2 ?_;exact kz 1 rfl (aI (rtC trw))
   ·exfalso;obtain⟨h3,h4⟩:=oP hP.1;simp[h3,h4] at hb
  ·refine⟨.mk 11 0 [] t [] [] [],Y,1,.fail hg hn,by cases hg<;>omega,hok,?_⟩;refine iL v t l left f g _ hl hL hf N hout (fun s' l' e=>by cases e) (fun l' e=>?_);cases e;refine a8 (sk 1 rfl (kc Z ?_));refine az (aA rfl nofun (fun _=>aD (sk 1 rfl (kc cS ?_))));refine kz 6 rfl (a8 (aC (a8 (agF 4 [] rfl rfl rfl (aA rfl (fun hb=>absurd hb hI) (fun _=>a8 (agF 4 [] rfl rfl rfl (aA rfl (fun hb=>absurd hb hB) (fun _=>a8 (agF 4 [] rfl rfl rfl (aA rfl (fun hb=>?_) (fun _=>?_))))))))))))
   ·exfalso;exact hX (aFh hb)
   refine a8 (agF 4 [] rfl rfl rfl (aA rfl (fun hb=>?_) (fun _=>?_)))
   ·exfalso;exact hP (aFh hb)
   exact aD (sg rfl (aI (rtC trw)))
theorem aE4:∀(N n:Nat) (t:Ty),n≤N→GT n t→n≤100→xQ n t
 | 0,n,t,h,hg,_=>by cases hg<;>omega
 | N+1,n,t,h,hg,hn=>aKe n t hg hn fun k u hk hu=>aE4 N k u (by omega) hu (by omega)
set_option maxHeartbeats 4000000
noncomputable def unR (y:Str) (b:Core):Nat→Core→Core
 | 0,c=>c
 | k+1,.mk f n s t ks bs al=>if eqB (.mk f n s t ks bs al) b=true then vC y else if f=4∨f=10 then .mk f n s t (ks.map (unR y b k)) bs al else .mk f n s t ks bs al
theorem aDn {α:Type}:∀(a:List α) (x y:α) (d:List α),(a++x::d).set a.length y=a++y::d
 | [],x,y,d=>rfl
 | z::a,x,y,d=>by
  show z::(a++x::d).set a.length y=_;rw[aDn a x y d];rfl
theorem x9 {α:Type}:∀{l:List α}{i:Nat}{x:α},l[i]?=some x→l.drop i=x::l.drop (i+1)
 | z::l,0,x,h=>by rw[Option.some.inj h];rfl
 | z::l,i+1,x,h=>x9 (l:=l) (i:=i) (by simpa using h)
 | [],i,x,h=>by cases h
theorem aLx (y:Str) (b:Core):∀(k:Nat) (c:Core),aU c≤k→aU c≤500000000→allT (fun t=>tn t≤1000000000) c→aW Tryz.prog 21 [.pa (aB c),Go.AM.T y,.pa (aB b)] [] (.pa (aB (unR y b k c))) []:=by
 intro k
 induction k with
 | zero=>intro c h;have:=bR c;omega
 | succ k ih=>
 intro c h ab hT;have hq:=aZy (aU c) c b (le_refl _) ab hT;obtain⟨f,n,s,t,ks,bs,al⟩:=c;obtain⟨z1,z2,z3,hkl,hbl,hal⟩:= @dW f n s t ks bs al;obtain⟨hT1,hT2,hT3,hT4⟩:=aMk hT;have W:(aQ ks).length=ks.length:=by rw[aZ,ξ]
 rw[unR];refine bT (n:=57) tok Tryz.func21 rfl rfl rfl ?_;refine sg rfl (a8 (sk 2 rfl (kc hq ?_)));refine az ?_;cases he:eqB (.mk f n s t ks bs al) b with
 | true=>
  rw[θ rfl];exact aA rfl (fun _=>sg rfl (aI (rtC trw))) nofun
 | false=>
 rw[ψ Ar];refine aA rfl nofun (fun _=>aD (sg rfl (AWp.sub (Sub.own (t:=7) (id:=720) 37 10 rfl rfl) ?_)));refine a8 (sg rfl (aC (aL (fun i:Nat=>mk [(1,Go.AM.T y),(3,.one (.vp 3 0)),(5,.one (.vp 5 0)),(6,.one (.vp 6 0)),(7,.one (.hs 720 0 i i)),(8,I .i64 i)] [(3,.var 37 (b9 (.mk f n s t ks bs al))),(5,.var 37 (b9 b)),(6,.var 37 bM),(720,.arr 37 10 ((ks.take i).map aB) 0)]) (fun i=>i≤ks.length) (fun i=>ks.length-i) 0 (Ak _) sl ?_)));intro i hi;refine a8 (sg rfl (aA rfl (fun hb=>?_) (fun hb=>?_)))
 ·have J:i<ks.length:=ltD hb W;obtain⟨x,hx⟩:=aK J;have hx':(aQ ks)[i]?=some (aB x):=by rw[aZ];exact bJ aB hx
  have hrows:=qT aB hx;exact aD (a8 (aC (ag [(4,.row i (aB x)),(6,.all)] rfl (ag [] rfl ⟨i+1,J,by dsimp only;omega,sl⟩))))
 have O:=geD hb W hi;subst O;rw[Au];refine aM (a8 (AWp.cut (mk [(3,.one (.vp 3 0)),(6,.one (.vp 6 0)),(7,.one (.hs 720 0 ks.length ks.length))] [(3,.var 37 (b9 (.mk f n s t ks bs al))),(6,.var 37 bM),(720,.arr 37 10 ((if f=4∨f=10 then ks.map (unR y b k) else ks).map aB) 0)]) ?_ ?_))
 ·refine a8 (agF 4 [] rfl rfl rfl (aA rfl (fun hb=>?_) (fun hb=>?_)))
  ·have hf:f=4∨f=10:=by
    by_cases h4:f=4
    ·exact .inl h4
    ·by_cases N:f=10
     ·exact .inr N
     ·simp[Core.form,h4,N] at hb
   rw[θ hf];refine sg rfl (aC (aL (fun i:Nat=>mk [(1,Go.AM.T y),(3,.one (.vp 3 0)),(5,.one (.vp 5 0)),(6,.one (.vp 6 0)),(7,.one (.hs 720 0 ks.length ks.length)),(9,I .i64 i)] [(3,.var 37 (b9 (.mk f n s t ks bs al))),(5,.var 37 (b9 b)),(6,.var 37 bM),(720,.arr 37 10 (((ks.take i).map (unR y b k)++ks.drop i).map aB) 0)]) (fun i=>i≤ks.length) (fun i=>ks.length-i) 0 (Ak _) sl ?_));intro i hi;refine a8 (sg rfl (aA rfl (fun hb=>?_) (fun hb=>?_)))
   ·have J:i<ks.length:=by have:=φ hb;omega
    obtain⟨x,hx⟩:=aK J;have hm:=η hx;have hc:=ih x (by have:=z1 x hm;omega) (by have:=z1 x hm;omega) (hT2 x hm);have Y:((ks.take i).map (unR y b k)).length=i:=by rw[ξ,At];omega
    have hold:(((ks.take i).map (unR y b k)++ks.drop i).map aB)[i]?=some (aB x):=by
     rw[A5,Ay (by omega),Y,sub_self,x9 hx];rfl
    have Z:(((ks.take i).map (unR y b k)++ks.drop i).map aB).set i (aB (unR y b k x))=((ks.take (i+1)).map (unR y b k)++ks.drop (i+1)).map aB:=by
     rw[x9 hx,aIc];congr 1;have:=aDn ((ks.take i).map (unR y b k)) x (unR y b k x) (ks.drop (i+1));rw[Y] at this;rw[this,Bh,hx,As,Aw];rfl
    refine aD (a8 (aC (aE mixed (ak 8 [(5,.row i (aB x))] rfl (kc hc ?_)))));refine ak 2 [(10,.row i (aB x))] rfl (az (ag [] rfl ⟨i+1,J,by dsimp only;omega,?_⟩));dsimp only;rw[←Z];exact sl
   have O:i=ks.length:=by have:=δ hb;omega
   subst O;rw[Au,drop_length,A8];exact aM sl
  ·have hf:¬(f=4∨f=10):=by
    rintro(h4 | N)
    ·simp[Core.form,h4] at hb
    ·simp[Core.form,N] at hb
   rw[ψ hf];exact aD sl
 have hlen:(if f=4∨f=10 then ks.map (unR y b k) else ks).length=ks.length:=by split<;>simp
 have aa:(if f=4∨f=10 then Core.mk f n s t (ks.map (unR y b k)) bs al else .mk f n s t ks bs al)=.mk f n s t (if f=4∨f=10 then ks.map (unR y b k) else ks) bs al:=by split<;>rfl
 rw[aa];generalize (if f=4∨f=10 then ks.map (unR y b k) else ks)=l at hlen;rw[←aZ];have hl2:ks.length=(aQ l).length:=by rw[aZ,ξ,hlen]
 refine AWp.sub (Sub.freeze (id:=720) rfl) (AWp.sub (cv 7 (aQ l)) ?_);exact sg rfl (sg rfl (aI (rtC trw)))
mutual
def nS:Core→Str→Core→Core
 | .mk f n nm t ks bs al,x,b=>if f=1 then(if nm=x then b else .mk f n nm t ks bs al)
  else .mk f n nm t (if x∈gvN f nm bs then ks else nSs ks x b) (if x∈gvN f nm bs then bs else nSb bs x b) (nSa al x b)
def nSs:List Core→Str→Core→List Core
 | [],_,_=>[]
 | c::l,x,b=>nS c x b::nSs l x b
def nSb:List Bind→Str→Core→List Bind
 | [],_,_=>[]
 | .mk s t c::l,x,b=>.mk s t (nS c x b)::nSb l x b
def nSa:List Alt→Str→Core→List Alt
 | [],_,_=>[]
 | .mk f n s v c::l,x,b=>.mk f n s v (if x∈v then c else nS c x b)::nSa l x b
end
def nSA (x:Str) (b:Core) (a:Alt):Alt:=.mk a.form a.n a.name a.vars (if x∈a.vars then a.body else nS a.body x b)
def nSB (x:Str) (b:Core) (a:Bind):Bind:=.mk a.name a.ty (nS a.body x b)
section
variable {x:Str}{b:Core}
theorem aJm:∀l:List Core,nSs l x b=l.map fun c=>nS c x b
 | []=>by rw[nSs];rfl
 | c::l=>by rw[nSs,aJm l];rfl
theorem aJn:∀l:List Bind,nSb l x b=l.map (nSB x b)
 | []=>by rw[nSb];rfl
 | .mk s t c::l=>by rw[nSb,aJn l];rfl
theorem aJo:∀l:List Alt,nSa l x b=l.map (nSA x b)
 | []=>by rw[nSa];rfl
 | .mk f n s v c::l=>by rw[nSa,aJo l];rfl
theorem oF {f n:Int}{nm:Str}{t:Ty}{ks:List Core}{bs:List Bind}{al:List Alt}(hf:¬f=1):nS (.mk f n nm t ks bs al) x b=
  .mk f n nm t (if x∈gvN f nm bs then ks else ks.map fun c=>nS c x b) (if x∈gvN f nm bs then bs else bs.map (nSB x b)) (al.map (nSA x b)):=by
 rw[nS,ψ hf,aJm,aJn,aJo]
theorem sN:∀(k:Nat) (c:Core),aU c≤k→¬x∈pfR c→nS c x b=c
 | 0,c,h,_=>by have:=bR c;omega
 | k+1,.mk f n nm t ks bs al,h,hx=>by
  obtain⟨J,N,O,_⟩:= @dW f n nm t ks bs al;by_cases h1:f=1
  ·rw[nS,θ h1,ψ];intro e;rw[pfR,θ h1] at hx;exact hx (by rw[e];exact Ac.2 rfl)
  ·have hx:=fun h=>hx ((gO h1).2 h)
   rw[oF h1];have W:(if x∈gvN f nm bs then ks else ks.map fun c=>nS c x b)=ks:=by
    split
    ·rfl
    ·rename_i hg;exact dV fun c hc=>sN k c (by have:=J c hc;omega) fun I=>hx (.inl ⟨c,ω.2 (.inl hc),I,hg⟩)
   have Y:(if x∈gvN f nm bs then bs else bs.map (nSB x b))=bs:=by
    split
    ·rfl
    ·rename_i hg;exact dV fun c hc=>by
      unfold nSB;rw[sN k c.body (by have:=N c hc;omega) fun I=>hx (.inl ⟨c.body,ω.2 (.inr (Ad.2 ⟨c,hc,rfl⟩)),I,hg⟩)];cases c;rfl
   have Z:al.map (nSA x b)=al:=dV fun a ha=>by
    unfold nSA;by_cases hv:x∈a.vars
    ·rw[θ hv];cases a;rfl
    ·rw[ψ hv,sN k a.body (by have:=O a ha;omega) fun I=>hx (.inr ⟨a,ha,I,hv⟩)];cases a;rfl
   rw[W,Y,Z]
end
section
variable {sb:Core→Str→Core→Core}
theorem wV {far:List Str}:∀{ns:List Str}{st:List Str×List Core×List Str},(∀n∈ns,¬n∈far)→kC sb far ns st=(st.1++ns,st.2.1,st.2.2)
 | [],st,_=>by unfold kC;simp
 | n::ns,st,h=>by
  have e:eG sb far st n=(st.1++[n],st.2.1,st.2.2):=by unfold eG;rw[ψ (h n ζ)]
  have:=wV (far:=far) (ns:=ns) (st:=eG sb far st n) fun m hm=>h m (κ _ hm)
  unfold kC at this ⊢;rw[foldl_cons,this,e];simp
theorem aDy {s:Str}{b:Core}{ns:List Str}{ps:List Core}(hf:∀n∈ns,¬n∈pfR b) (hs:∀p∈ps,sb p s b=nS p s b):cD sb s b ns ps=(ns,if s∈ns then ps else ps.map fun p=>nS p s b):=by
 unfold cD;split
 ·rename_i h;rw[wV hf,ψ h.2];simp only[Be];rw[A6 hs]
 ·rename_i h;by_cases hn:s∈ns
  ·rw[θ hn]
  ·rw[ψ hn];have e:(ps.map fun p=>nS p s b)=ps:=dV fun p hp=>sN _ p (le_refl _) fun hx=>h ⟨Ck.2 ⟨p,hp,hx⟩,hn⟩
   rw[e]
end
theorem aQv {x:Str}{b:Core}:∀bs:List Bind,mkB (bs.map Bind.ty) (bs.map Bind.name) (bs.map fun a=>nS a.body x b)=bs.map (nSB x b)
 | []=>rfl
 | .mk s t c::l=>by
  rw[Al,Al,Al,Al,mkB,aQv l];rfl
theorem vH {X:Nat}{s:Str}{b:Core}(hb:∀z∈pfR b,¬nh z) (ht:tyR b=[]):∀(k:Nat) (c:Core),m30 c≤k→cB (QL X) c→dA k c s b=nS c s b:=by
 intro k
 induction k with
 | zero=>intro c h;have:=dX c;omega
 | succ k N=>
 intro c h J;obtain⟨f,n,nm,t,ks,bs,al⟩:=c;rw[dA];by_cases h1:f=1
 ·obtain⟨rfl,rfl,rfl⟩:=sI J h1;rw[nS,θ h1];by_cases hs:nm=s
  ·rw[θ ⟨h1,hs⟩,θ hs]
  ·rw[ψ fun e=>hs e.2,ψ hs,ψ (fun e=>by have:f=7:=e.1;omega),oQ];unfold zNm zKs zBs;rw[ψ (by omega)];simp[mkB]
 ·have W:(if Core.form (.mk f n nm t ks bs al)=7∧s∈pfR (.mk f n nm t ks bs al) then aB2 (.mk f n nm t ks bs al) (tyR b) else .mk f n nm t ks bs al)=.mk f n nm t ks bs al:=by
   split
   ·rw[ht,aB2,ψ (by simp)]
   ·rfl
  rw[ψ (fun e=>h1 e.1),W,oF h1,oQ];obtain⟨⟨q1,q2,q3,q4,q5,Z,q7,q8⟩,k1,k2,k3⟩:=aS.1 J;rw[m30] at h
  have hg:∀y∈gvN f nm bs,¬y∈pfR b:=fun y hy I=>hb y I (by
   unfold gvN at hy;rcases ω.1 hy with hy | hy
   ·by_cases h5:f=5
    ·rw[θ h5] at hy;rw[Ac.1 hy];exact Z h5
    ·rw[ψ h5] at hy;cases hy
   ·obtain⟨z,hz,rfl⟩:=Ad.1 hy
    exact q7 (bhd z) (Ad.2 ⟨z,hz,rfl⟩))
  have hP:=aDy (sb:=dA k) (s:=s) (b:=b) (ns:=gvN f nm bs) (ps:=ks++bs.map Bind.body) hg fun p hp=>by
   rcases ω.1 hp with hp | hp
   ·exact N p (by have:=fE hp;omega) (k1 p hp)
   ·obtain⟨z,hz,rfl⟩:=Ad.1 hp;exact N z.body (by have:=lY hz;omega) (k2 z hz)
  have hA:al.map (lV (dA k) s b)=al.map (nSA s b):=A6 fun a ha=>by
   have hv:∀y∈a.vars,¬y∈pfR b:=fun y hy I=>hb y I (q8 (ahd a) (Ad.2 ⟨a,ha,rfl⟩) y hy)
   have Y:=aDy (sb:=dA k) (s:=s) (b:=b) (ns:=a.vars) (ps:=[a.body]) hv fun p hp=>by
    rw[Ac.1 hp];exact N a.body (by have:=i7 ha;omega) (k3 a ha)
   unfold lV nSA;rw[Y];by_cases hx:s∈a.vars
   ·rw[θ hx,θ hx];rfl
   ·rw[ψ hx,ψ hx];rfl
  rw[hA];unfold zNm zKs zBs;rw[hP];have e1:(if f=5 then(gvN f nm bs).headD nm else nm)=nm:=by
   split
   ·rename_i h5;unfold gvN;rw[θ h5];rfl
   ·rfl
  dsimp only;rw[e1];by_cases hx:s∈gvN f nm bs
  ·rw[θ hx,θ hx,θ hx,take_left,drop_left];by_cases h5:f=5
   ·obtain⟨_,rfl,rfl⟩:=dD J (.inl h5);rfl
   ·have O:gvN f nm bs=bs.map Bind.name:=by unfold gvN;rw[ψ h5];rfl
    rw[O,aEd]
  ·rw[ψ hx,ψ hx,ψ hx,As,take_left' (by rw[ξ]),drop_left' (by rw[ξ])];by_cases h5:f=5
   ·obtain⟨_,rfl,rfl⟩:=dD J (.inl h5);rfl
   ·have O:gvN f nm bs=bs.map Bind.name:=by unfold gvN;rw[ψ h5];rfl
    rw[O,A1];have e3:=aQv (x:=s) (b:=b) bs;rw[show((fun p=>nS p s b)∘Bind.body)=fun a:Bind=>nS a.body s b from rfl,e3]
section
variable {a:Str}{u:Ty}
end
theorem aWh (z:Str):pfR (vC z)=[z]:=by unfold vC;rw[pfR,θ rfl]
section
variable {X:Nat}
theorem aM2 {f n:Int}{nm:Str}{t:Ty}{ks:List Core}{bs:List Bind}{al:List Alt}(I:cB (QL X) (.mk f n nm t ks bs al)):(∀y∈gvN f nm bs,nh y)∧∀a∈al,∀y∈a.vars,nh y:=by
 obtain⟨⟨_,_,_,_,_,J,N,O⟩,_⟩:=aS.1 I;refine⟨fun y hy=>?_,fun a ha y hy=>O (ahd a) (Ad.2 ⟨a,ha,rfl⟩) y hy⟩;unfold gvN at hy;rcases ω.1 hy with hy | hy
 ·by_cases h5:f=5
  ·rw[θ h5] at hy;rw[Ac.1 hy];exact J h5
  ·rw[ψ h5] at hy;cases hy
 ·obtain⟨z,hz,rfl⟩:=Ad.1 hy;exact N (bhd z) (Ad.2 ⟨z,hz,rfl⟩)
theorem aD6 {f:Int}{nm x:Str}{b:Core}{bs:List Bind}{p:Prop} [Decidable p]:gvN f nm (if p then bs else bs.map (nSB x b))=gvN f nm bs:=by
 split
 ·rfl
 ·unfold gvN;rw[A1];rfl
theorem wE {x z:Str}{b:Core}(hz:¬nh z):∀(k:Nat) (c:Core),aU c≤k→cB (QL X) c→¬z∈pfR c→nS (nS c x (vC z)) z b=nS c x b
 | 0,c,h,_,_=>by have:=bR c;omega
 | k+1,.mk f n nm t ks bs al,h,W,hx=>by
  obtain⟨Y,Z,aa,_⟩:= @dW f n nm t ks bs al;obtain⟨_,q2,q3,q4⟩:=aS.1 W;obtain⟨hg,hv⟩:=aM2 W;by_cases h1:f=1
  ·rw[pfR,θ h1] at hx;rw[nS,θ h1,nS,θ h1];by_cases e:nm=x
   ·rw[θ e,θ e];unfold vC;rw[nS,θ rfl,θ rfl]
   ·rw[ψ e,ψ e,nS,θ h1,ψ fun e'=>hx (by rw[e'];exact Ac.2 rfl)]
  ·have hx:=fun h=>hx ((gO h1).2 h)
   have J:¬z∈gvN f nm bs:=fun e=>hz (hg z e)
   rw[oF h1,oF h1,oF h1,aD6,ψ J,ψ J];congr 1
   ·by_cases e:x∈gvN f nm bs
    ·rw[θ e,θ e];exact dV fun c hc=>sN _ c (le_refl _) fun I=>hx (.inl ⟨c,ω.2 (.inl hc),I,J⟩)
    ·rw[ψ e,ψ e,A1];exact A6 fun c hc=>wE hz k c (by have:=Y c hc;omega) (q2 c hc) fun I=>hx (.inl ⟨c,ω.2 (.inl hc),I,J⟩)
   ·have hp:∀c∈bs,¬z∈pfR c.body:=fun c hc I=>hx (.inl ⟨c.body,ω.2 (.inr (Ad.2 ⟨c,hc,rfl⟩)),I,J⟩)
    by_cases e:x∈gvN f nm bs
    ·rw[θ e,θ e];exact dV fun c hc=>by unfold nSB;rw[sN _ c.body (le_refl _) (hp c hc)];cases c;rfl
    ·rw[ψ e,ψ e,A1];refine A6 fun c hc=>?_
     show nSB z b (nSB x (vC z) c)=nSB x b c;unfold nSB;show Bind.mk c.name c.ty (nS (nS c.body x (vC z)) z b)=_;rw[wE hz k c.body (by have:=Z c hc;omega) (q3 c hc) (hp c hc)]
   ·rw[A1];refine A6 fun a ha=>?_
    have N:¬z∈a.vars:=fun e=>hz (hv a ha z e)
    have O:¬z∈pfR a.body:=fun I=>hx (.inr ⟨a,ha,I,N⟩)
    show nSA z b (nSA x (vC z) a)=nSA x b a;unfold nSA;show Alt.mk a.form a.n a.name a.vars (if z∈a.vars then(if x∈a.vars then a.body else nS a.body x (vC z)) else nS (if x∈a.vars then a.body else nS a.body x (vC z)) z b)=_;rw[ψ N];by_cases e:x∈a.vars
    ·rw[θ e,θ e,sN _ a.body (le_refl _) O]
    ·rw[ψ e,ψ e,wE hz k a.body (by have:=aa a ha;omega) (q4 a ha) O]
theorem wD {y w z:Str}{b:Core}(hz:¬nh z) (hy:¬y=z) (hw:¬w=z) (hb:pfR b=[]):∀(k:Nat) (c:Core),aU c≤k→cB (QL X) c→nS (nS c y (vC w)) z b=nS (nS c z b) y (vC w)
 | 0,c,h,_=>by have:=bR c;omega
 | k+1,.mk f n nm t ks bs al,h,O=>by
  obtain⟨W,Y,Z,_⟩:= @dW f n nm t ks bs al;obtain⟨_,q2,q3,q4⟩:=aS.1 O;obtain⟨hg,hv⟩:=aM2 O;by_cases h1:f=1
  ·rw[nS,θ h1,nS,θ h1];by_cases e:nm=y
   ·have J:¬nm=z:=fun e'=>hy (e.symm.trans e')
    rw[θ e,ψ J,nS,θ h1,θ e];unfold vC;rw[nS,θ rfl,ψ hw]
   ·rw[ψ e,nS,θ h1];by_cases J:nm=z
    ·rw[θ J,sN _ b (le_refl _) (by rw[hb];simp)]
    ·rw[ψ J,nS,θ h1,ψ e]
  ·have I:¬z∈gvN f nm bs:=fun e=>hz (hg z e)
   rw[oF h1,oF h1,oF h1,oF h1,aD6,aD6,ψ I,ψ I,ψ I,ψ I];congr 1
   ·by_cases e:y∈gvN f nm bs
    ·rw[θ e,θ e]
    ·rw[ψ e,ψ e,A1,A1];exact A6 fun c hc=>wD hz hy hw hb k c (by have:=W c hc;omega) (q2 c hc)
   ·by_cases e:y∈gvN f nm bs
    ·rw[θ e,θ e]
    ·rw[ψ e,ψ e,A1,A1];refine A6 fun c hc=>?_
     show Bind.mk c.name c.ty (nS (nS c.body y (vC w)) z b)=Bind.mk c.name c.ty (nS (nS c.body z b) y (vC w));rw[wD hz hy hw hb k c.body (by have:=Y c hc;omega) (q3 c hc)]
   ·rw[A1,A1];refine A6 fun a ha=>?_
    have N:¬z∈a.vars:=fun e=>hz (hv a ha z e)
    show Alt.mk a.form a.n a.name a.vars (if z∈a.vars then(if y∈a.vars then a.body else nS a.body y (vC w)) else nS (if y∈a.vars then a.body else nS a.body y (vC w)) z b)=
     Alt.mk a.form a.n a.name a.vars (if y∈a.vars then(if z∈a.vars then a.body else nS a.body z b) else nS (if z∈a.vars then a.body else nS a.body z b) y (vC w))
    rw[ψ N,ψ N];by_cases e:y∈a.vars
    ·rw[θ e,θ e]
    ·rw[ψ e,ψ e,wD hz hy hw hb k a.body (by have:=Z a ha;omega) (q4 a ha)]
end
theorem aSg {X:Nat}(j:Nat):∀(c:Core) (s:Str) (b:Core),cB (QL X) c→¬s∈pfR c→dA (j+1) c s b=c
 | .mk f n nm t ks bs al,s,b,hw,hs=>by
  rw[dA,ψ (fun h:(Core.mk f n nm t ks bs al).form=7∧s∈pfR (Core.mk f n nm t ks bs al)=>hs h.2)];by_cases h1:f=1
  ·obtain⟨rfl,rfl,rfl⟩:=sI hw h1;have J:¬nm=s:=fun h=>hs (by rw[pfR,θ h1,h];exact ζ)
   rw[ψ (fun h:(Core.mk f n nm t [] [] []).form=1∧(Core.mk f n nm t [] [] []).name=s=>J h.2),oQ];unfold zNm zKs zBs;rw[ψ (show ¬f=5 by omega)];have I:cD (dA j) s b (gvN f nm []) ([]++([]:List Bind).map Bind.body)=(gvN f nm [],[]):=by
    unfold cD;rw[ψ]
    ·rfl
    ·exact fun h=>by cases h.1
   rw[I];rfl
  ·rw[ψ (fun h:(Core.mk f n nm t ks bs al).form=1∧_=>h1 h.1),oQ];unfold zNm zKs zBs;have I:cD (dA j) s b (gvN f nm bs) (ks++bs.map Bind.body)=(gvN f nm bs,ks++bs.map Bind.body):=by
    unfold cD;rw[ψ];exact fun h=>hs (aS0 h1 h.1 h.2)
   rw[I];have N:al.map (lV (dA j) s b)=al:=by
    conv=>rhs;rw[←map_id al]
    refine A6 fun a ha=>?_
    have O:cD (dA j) s b a.vars [a.body]=(a.vars,[a.body]):=by
     unfold cD;rw[ψ];exact fun h=>hs (aWj h1 ha (by simpa using h.1) h.2)
    unfold lV;rw[O];cases a;rfl
   rw[N];dsimp only;rw[take_left,drop_left];by_cases h5:f=5
   ·obtain⟨_,rfl,rfl⟩:=dD hw (.inl h5);rw[θ h5];have:(gvN f nm []).headD nm=nm:=by unfold gvN;rw[θ h5];rfl
    rw[this];rfl
   ·rw[ψ h5];have:gvN f nm bs=bs.map Bind.name:=by unfold gvN;rw[ψ h5,Be]
    rw[this,aEd]
theorem aNq {X k:Nat}{c:Core}{s:Str}{b:Core}(hk:m30 c≤k) (h:cB (QL X) c) (hs:¬s∈pfR c):dA k c s b=c:=by
 obtain⟨j,rfl⟩:∃j,k=j+1:=⟨k-1,by have:=dX c;omega⟩
 exact aSg j c s b h hs
theorem aJj {tk:List Str}(h:∀x∈tk,nh x) (k:Nat):o6 tk k=(List.range k).map pcN:=by
 have key:∀n,lS tk n=(List.range n).map pcN:=fun n=>by
  unfold lS;rw[List.filter_eq_self];intro x hx;obtain⟨i,_,rfl⟩:=Ad.1 hx;exact Ai fun hin=>j9 i (h _ hin)
 have hl:=pX tk k;unfold o6 at hl ⊢;rw[key,ξ,length_range] at hl;rw[key,hl]
section
variable {π:Str→Str}
end
theorem aS8 {x:Str}{b:Core}(bs:List Bind):(bs.map (nSB x b)).map bhd=bs.map bhd:=by rw[A1];rfl
theorem aS9 {x:Str}{b:Core}(al:List Alt):(al.map (nSA x b)).map ahd=al.map ahd:=by rw[A1];rfl
theorem j4 {q:Loc}{x:Str}{b:Core}(hb:cB q b):∀(k:Nat) (c:Core),aU c≤k→cB q c→cB q (nS c x b)
 | 0,c,h,_=>by have:=bR c;omega
 | k+1,.mk f n nm t ks bs al,h,I=>by
  obtain⟨J,N,O,_⟩:= @dW f n nm t ks bs al;obtain⟨q1,W,Y,Z⟩:=aS.1 I;by_cases h1:f=1
  ·rw[nS,θ h1];split
   ·exact hb
   ·exact I
  ·rw[oF h1];refine aS.2 ⟨?_,fun y hy=>?_,fun y hy=>?_,fun y hy=>?_⟩
   ·have e1:(if x∈gvN f nm bs then ks else ks.map fun c=>nS c x b).length=ks.length:=by split<;>simp
    have e2:(if x∈gvN f nm bs then bs else bs.map (nSB x b)).map bhd=bs.map bhd:=by
     split
     ·rfl
     ·exact aS8 bs
    rw[e1,e2,aS9];exact q1
   ·split at hy
    ·exact W y hy
    ·obtain⟨z,hz,rfl⟩:=Ad.1 hy;exact j4 hb k z (by have:=J z hz;omega) (W z hz)
   ·split at hy
    ·exact Y y hy
    ·obtain⟨z,hz,rfl⟩:=Ad.1 hy;exact j4 hb k z.body (by have:=N z hz;omega) (Y z hz)
   ·obtain⟨z,hz,rfl⟩:=Ad.1 hy;show cB q (if x∈z.vars then z.body else nS z.body x b);split
    ·exact Z z hz
    ·exact j4 hb k z.body (by have:=O z hz;omega) (Z z hz)
theorem aOb {x y:Str}{b:Core}:∀(k:Nat) (c:Core),aU c≤k→y∈pfR (nS c x b)→(y∈pfR c∧¬y=x)∨y∈pfR b
 | 0,c,h,_=>by have:=bR c;omega
 | k+1,.mk f n nm t ks bs al,h,hy=>by
  obtain⟨J,N,O,_⟩:= @dW f n nm t ks bs al;by_cases h1:f=1
  ·rw[nS,θ h1] at hy;split at hy
   ·exact .inr hy
   ·rename_i e;refine .inl ⟨hy,?_⟩;rw[pfR,θ h1] at hy;rw[Ac.1 hy];exact e
  ·rw[oF h1] at hy;rcases(gO h1).1 hy with⟨p,hp,hyp,hg⟩ | ⟨a,ha,I,hv⟩
   ·rw[aD6] at hg;by_cases hx:x∈gvN f nm bs
    ·rw[θ hx,θ hx] at hp;exact .inl ⟨(gO h1).2 (.inl ⟨p,hp,hyp,hg⟩),fun e=>hg (by rw[e];exact hx)⟩
    ·rw[ψ hx,ψ hx] at hp;rcases ω.1 hp with hp | hp
     ·obtain⟨z,hz,rfl⟩:=Ad.1 hp;rcases aOb k z (by have:=J z hz;omega) hyp with⟨g1,g2⟩ | g
      ·exact .inl ⟨(gO h1).2 (.inl ⟨z,ω.2 (.inl hz),g1,hg⟩),g2⟩
      ·exact .inr g
     ·obtain⟨Y,W,rfl⟩:=Ad.1 hp;obtain⟨z,hz,rfl⟩:=Ad.1 W;rcases aOb k z.body (by have:=N z hz;omega) hyp with⟨g1,g2⟩ | g
      ·exact .inl ⟨(gO h1).2 (.inl ⟨z.body,ω.2 (.inr (Ad.2 ⟨z,hz,rfl⟩)),g1,hg⟩),g2⟩
      ·exact .inr g
   ·obtain⟨z,hz,rfl⟩:=Ad.1 ha;have hv:¬y∈z.vars:=hv;have I:y∈pfR (if x∈z.vars then z.body else nS z.body x b):=I;by_cases hx:x∈z.vars
    ·rw[θ hx] at I;exact .inl ⟨(gO h1).2 (.inr ⟨z,hz,I,hv⟩),fun e=>hv (by rw[e];exact hx)⟩
    ·rw[ψ hx] at I;rcases aOb k z.body (by have:=O z hz;omega) I with⟨g1,g2⟩ | g
     ·exact .inl ⟨(gO h1).2 (.inr ⟨z,hz,g1,hv⟩),g2⟩
     ·exact .inr g
def fS (c:Core) (l:List (Str×Core)):Core:=l.foldl (fun c p=>nS c p.1 p.2) c
theorem aMo {q:Loc}:∀{l:List (Str×Core)}{c:Core},cB q c→(∀p∈l,cB q p.2)→cB q (fS c l)
 | [],c,h,_=>h
 | p::l,c,h,hl=>aMo (l:=l) (j4 (hl p ζ) _ c (le_refl _) h) fun q I=>hl q (κ _ I)
section
variable {X:Nat}
theorem aM0 (I:31≤X) {z:Str}(hz:z.length≤30):cB (QL X) (vC z):=by
 have hw:w30 z=30:=by unfold w30;omega
 exact aS.2 ⟨⟨rfl,fun h=>(by cases h),rfl,by simp,by unfold lw;rw[hw];simpa using I,fun h=>(by cases h),by simp,by simp⟩,by simp,by simp,by simp⟩
theorem vX (I:31≤X):∀(ps:List (Str×Str)) (c:Core),cB (QL X) c→(∀p∈ps,¬nh p.2∧p.2.length≤30)→fY c ps=fS c (ps.map fun p=>(p.1,vC p.2))
 | [],c,_,_=>rfl
 | p::ps,c,hc,hp=>by
  obtain⟨h1,h2⟩:=hp p ζ;have e:=vH (X:=X) (s:=p.1) (b:=vC p.2) (fun z hz=>by rw[aWh,Ac] at hz;rw[hz];exact h1) aNf (m30 c) c (le_refl _) hc;have:=vX I ps (nS c p.1 (vC p.2)) (j4 (aM0 I h2) _ c (le_refl _) hc) fun q J=>hp q (κ _ J)
  unfold fY fS at this ⊢;rw[foldl_cons,e,this,Al,foldl_cons]
theorem aK5 {z:Str}{b:Core}(I:31≤X) (hz:¬nh z) (hb:pfR b=[]) (J:cB (QL X) b):∀(ps:List (Str×Str)) (c:Core),cB (QL X) c→(∀p∈ps,nh p.1∧¬p.2=z∧p.2.length≤30)→
  nS (fS c (ps.map fun p=>(p.1,vC p.2))) z b=fS (nS c z b) (ps.map fun p=>(p.1,vC p.2))
 | [],c,_,_=>rfl
 | p::ps,c,hc,hp=>by
  obtain⟨h1,h2,h3⟩:=hp p ζ;have e:=wD (X:=X) (y:=p.1) (w:=p.2) (z:=z) (b:=b) hz (fun e=>hz (by rw[←e];exact h1)) h2 hb _ c (le_refl _) hc;have:=aK5 I hz hb J ps (nS c p.1 (vC p.2)) (j4 (aM0 I h3) _ c (le_refl _) hc) fun q N=>hp q (κ _ N)
  rw[e] at this;exact this
theorem aQs (J:31≤X):∀(names own:List Str) (l:List Core) (c:Core),names.length=l.length→own.length=l.length→own.Nodup→(∀z∈own,¬nh z∧z.length≤30∧¬z∈pfR c)→(∀x∈names,nh x)→cB (QL X) c→
  (∀b∈l,cB (QL X) b∧pfR b=[]∧tyR b=[])→kN (fY c (names.zip own)) (own.zip l)=fS c (names.zip l)
 | [],own,l,c,h1,h2,_,_,_,_,_=>by
  have hl:l=[]:=Bl.1 h1.symm;subst hl;have N:own=[]:=Bl.1 h2;subst N;rfl
 | x::ns,[],l,c,h1,h2,_,_,_,_,_=>by rw[←h1] at h2;cases h2
 | x::ns,z::os,[],c,h1,_,_,_,_,_,_=>by cases h1
 | x::ns,z::os,b::bs,c,h1,h2,hnd,N,hn,hc,hl=>by
  obtain⟨Y,z2,z3⟩:=N z ζ;obtain⟨b1,Z,b3⟩:=hl b ζ;have hx:=hn x ζ;obtain⟨hzo,aa⟩:=Bq.1 hnd;have I:∀p∈ns.zip os,nh p.1∧¬p.2=z∧p.2.length≤30∧¬nh p.2:=fun p hp=>by
   obtain⟨g1,g2⟩:=of_mem_zip (a:=p.1) (b:=p.2) hp;obtain⟨k1,k2,_⟩:=N p.2 (κ _ g2);exact⟨hn p.1 (κ _ g1),fun e=>hzo (by rw[←e];exact g2),k2,k1⟩
  have O:cB (QL X) (nS c x (vC z)):=j4 (aM0 J z2) _ c (le_refl _) hc;have e1:fY c ((x::ns).zip (z::os))=fS (nS c x (vC z)) ((ns.zip os).map fun p=>(p.1,vC p.2)):=by
   rw[vX J _ c hc (fun p hp=>by
    rcases Ao.1 hp with rfl | hp
    ·exact⟨Y,z2⟩
    ·exact⟨(I p hp).2.2.2,(I p hp).2.2.1⟩)]
   rfl
  have hqF:cB (QL X) (fS (nS c x (vC z)) ((ns.zip os).map fun p=>(p.1,vC p.2))):=aMo O fun p hp=>by
   obtain⟨q,hq,rfl⟩:=Ad.1 hp;exact aM0 J (I q hq).2.2.1
  rw[e1];have e2:kN (fS (nS c x (vC z)) ((ns.zip os).map fun p=>(p.1,vC p.2))) ((z::os).zip (b::bs))=kN (fS (nS c x b) ((ns.zip os).map fun p=>(p.1,vC p.2))) (os.zip bs):=by
   have e:=vH (X:=X) (s:=z) (b:=b) (by rw[Z];simp) b3 (m30 (fS (nS c x (vC z)) ((ns.zip os).map fun p=>(p.1,vC p.2)))) _ (le_refl _) hqF;rw[aK5 J Y Z b1 (ns.zip os) _ O fun p hp=>⟨(I p hp).1,(I p hp).2.1,(I p hp).2.2.1⟩,wE (X:=X) Y _ c (le_refl _) hc z3] at e;unfold kN;rw[List.zip_cons_cons,foldl_cons];dsimp only;rw[e]
  rw[e2];have W:cB (QL X) (nS c x b):=j4 b1 _ c (le_refl _) hc;have e3:fS (nS c x b) ((ns.zip os).map fun p=>(p.1,vC p.2))=fY (nS c x b) (ns.zip os):=(vX J _ _ W fun p hp=>⟨(I p hp).2.2.2,(I p hp).2.2.1⟩).symm
  rw[e3,aQs J ns os bs (nS c x b) (by simpa using h1) (by simpa using h2) aa (fun w hw=>by
   obtain⟨k1,k2,k3⟩:=N w (κ _ hw);refine⟨k1,k2,fun hin=>?_⟩;rcases aOb _ c (le_refl _) hin with⟨g,_⟩ | g
   ·exact k3 g
   ·rw[Z] at g;cases g) (fun y hy=>hn y (κ _ hy)) W fun y hy=>hl y (κ _ hy)]
  rfl
theorem aZ6 {n:Nat}(h:n<10000):(pcN n).length≤30:=by
 unfold pcN;have:=aLb 3 n (by omega);simp only[Aj];omega
theorem aSx (N:31≤X) (c:Core) (names:List Str) (l:List Core) (h1:names.length=l.length) (h2:names.length≤1000) (hn:∀x∈names,nh x) (hc:cB (QL X) c) (hp:∀x∈pfR c,nh x)
  (hl:∀b∈l,cB (QL X) b∧pfR b=[]∧tyR b=[]):xR c names l=fS c (names.zip l):=by
 have ht:∀x∈fN c l,nh x:=fun x hx=>by
  rcases ω.1 hx with hx | hx
  ·exact hp x hx
  ·obtain⟨b,hb,hx⟩:=Ck.1 hx;rw[(hl b hb).2.1] at hx;cases hx
 have I:=aJj ht names.length;unfold xR;rw[I];refine aQs N names _ l c h1 (by simp[h1]) ?_ (fun z hz=>?_) hn hc hl
 ·have J:(List.range names.length).Nodup:=nodup_range;exact List.Pairwise.map pcN (fun a b h e=>h (aJe a b e)) J
 ·obtain⟨m,hm,rfl⟩:=Ad.1 hz;have hm:=mem_range.1 hm;exact⟨j9 m,aZ6 (by omega),fun h=>j9 m (hp _ h)⟩
end
mutual
def tE:Core→Core
 | .mk f n s _ ks bs al=>.mk f n (if f=7 then [97] else s) zTy (tEs ks) (tEb bs) (tEa al)
def tEs:List Core→List Core
 | []=>[]
 | c::l=>tE c::tEs l
def tEb:List Bind→List Bind
 | []=>[]
 | .mk s _ c::l=>.mk s zTy (tE c)::tEb l
def tEa:List Alt→List Alt
 | []=>[]
 | .mk f n s v c::l=>.mk f n s v (tE c)::tEa l
end
def tEB (b:Bind):Bind:=.mk b.name zTy (tE b.body)
def tEA (a:Alt):Alt:=.mk a.form a.n a.name a.vars (tE a.body)
theorem aA5:∀l:List Core,tEs l=l.map tE
 | []=>by rw[tEs];rfl
 | c::l=>by rw[tEs,aA5 l];rfl
theorem vB:∀l:List Bind,tEb l=l.map tEB
 | []=>by rw[tEb];rfl
 | .mk s t c::l=>by rw[tEb,vB l];rfl
theorem aH7:∀l:List Alt,tEa l=l.map tEA
 | []=>by rw[tEa];rfl
 | .mk f n s v c::l=>by rw[tEa,aH7 l];rfl
section
variable {f n:Int}{s:Str}{t:Ty}{ks:List Core}{bs:List Bind}{al:List Alt}
theorem iE:tE (.mk f n s t ks bs al)=.mk f n (if f=7 then [97] else s) zTy (ks.map tE) (bs.map tEB) (al.map tEA):=by rw[tE,aA5,vB,aH7]
theorem qW:gvN f (if f=7 then [97] else s) (bs.map tEB)=gvN f s bs:=by
 unfold gvN;rw[A1];by_cases h:f=5
 ·rw[θ h,θ h,ψ (by omega)];rfl
 ·rw[ψ h,ψ h];rfl
end
theorem aA6 (c:Core):(tE c).form=c.form:=by obtain⟨f,n,s,t,ks,bs,al⟩:=c;rw[tE];rfl
mutual
theorem mU:∀c:Core,pfR (tE c)=pfR c
 | .mk f n s t ks bs al=>by
  rw[tE,pfR,pfR];by_cases h1:f=1
  ·rw[θ h1,θ h1,ψ (by omega)]
  ·rw[ψ h1,ψ h1,vB,qW,←vB,aI8,aJa,aJc]
theorem aI8:∀(l:List Core) (G o:List Str),o5 G (tEs l) o=o5 G l o
 | [],G,o=>by rw[tEs]
 | c::l,G,o=>by rw[tEs,o5,o5,mU c,aI8 l]
theorem aJa:∀(l:List Bind) (G o:List Str),oX G (tEb l) o=oX G l o
 | [],G,o=>by rw[tEb]
 | .mk s t c::l,G,o=>by rw[tEb,oX,oX,mU c,aJa l]
theorem aJc:∀(l:List Alt) (o:List Str),pJ (tEa l) o=pJ l o
 | [],o=>by rw[tEa]
 | .mk f n s v c::l,o=>by rw[tEa,pJ,pJ,mU c,aJc l]
end
mutual
theorem aHf:∀c:Core,tyR (tE c)=[]
 | .mk f n s t ks bs al=>by rw[tE,tyR,aP8,aP9,aQa];rfl
theorem aP8 {f:Int}{s:Str}:∀(l:List Core) (o:List Str),mR f s (tEs l) o=o
 | [],o=>by rw[tEs,mR]
 | c::l,o=>by
  rw[tEs,mR,aHf c,aP8 l];unfold aAp;simp
theorem aP9:∀(l:List Bind) (o:List Str),lQ (tEb l) o=o
 | [],o=>by rw[tEb,lQ]
 | .mk s t c::l,o=>by rw[tEb,lQ,aHf c,aP9 l];rfl
theorem aQa:∀(l:List Alt) (o:List Str),mH (tEa l) o=o
 | [],o=>by rw[tEa,mH]
 | .mk f n s v c::l,o=>by rw[tEa,mH,aHf c,aQa l];rfl
end
mutual
theorem aEl:∀c:Core,m30 (tE c)≤m30 c
 | .mk f n s t ks bs al=>by
  rw[tE,m30,m30];have:=aJ2 ks;have:=aJ4 bs;have:=aJ6 al;have h:w30 (if f=7 then [97] else s)≤w30 s:=by
   split
   ·exact xT (by decide)
   ·exact le_refl _
  omega
theorem aJ2:∀l:List Core,cE (tEs l)≤cE l
 | []=>by rw[tEs];exact le_refl _
 | c::l=>by
  rw[tEs,cE,cE];have:=aEl c;have:=aJ2 l;omega
theorem aJ4:∀l:List Bind,fF (tEb l)≤fF l
 | []=>by rw[tEb];exact le_refl _
 | .mk s t c::l=>by
  rw[tEb,fF,fF];have:=aEl c;have:=aJ4 l;omega
theorem aJ6:∀l:List Alt,gP (tEa l)≤gP l
 | []=>by rw[tEa];exact le_refl _
 | .mk f n s v c::l=>by
  rw[tEa,gP,gP];have:=aEl c;have:=aJ6 l;omega
end
theorem y4:∀(k:Nat) (c:Core) (a:Str) (u:Ty),tE (sTR k c a u)=tE c
 | 0,c,a,u=>by rw[sTR]
 | k+1,.mk f n s t ks bs al,a,u=>by
  have I:(bs.map fun b=>Bind.mk b.name (kB b.ty [(a,u)]) (sTR k b.body a u)).map tEB=bs.map tEB:=by
   rw[A1];exact A6 fun b _=>by show Bind.mk b.name zTy (tE (sTR k b.body a u))=_;rw[y4 k];rfl
  have J:(al.map fun b=>Alt.mk b.form b.n b.name b.vars (sTR k b.body a u)).map tEA=al.map tEA:=by
   rw[A1];exact A6 fun b _=>by show Alt.mk b.form b.n b.name b.vars (tE (sTR k b.body a u))=_;rw[y4 k];rfl
  have N:∀g:Core→Core,(∀x,tE (g x)=tE x)→(ks.map g).map tE=ks.map tE:=fun g hg=>by rw[A1];exact A6 fun x _=>hg x
  rw[sTR];split
  ·rfl
  ·split
   ·rename_i h7;rw[gU,iE,iE,I,J,θ h7.1,θ h7.1,A1,A1];congr 1;exact A6 fun x _=>(y4 k _ _ _).trans (y4 k _ _ _)
   ·rw[gU,iE,iE,I,J,N _ fun x=>y4 k _ _ _]
theorem aQi {c:Core}(h7:c.form=7) (far:List Str):tE (aB2 c far)=tE c:=by
 obtain⟨f,n,s,t,ks,bs,al⟩:=c;have h7:f=7:=h7;rw[aB2];split
 ·rw[iE,iE,A1,θ h7,θ h7];congr 1;exact A6 fun x _=>y4 _ x _ _
 ·rfl
theorem xO {X:Nat}:∀(k:Nat) (c:Core),aU c≤k→cB (QL X) c→cB (QL X) (tE c)
 | 0,c,h,_=>by have:=bR c;omega
 | k+1,.mk f n s t ks bs al,h,I=>by
  obtain⟨⟨J,q2,q3,q4,q5,N,O,W⟩,Y,Z,k3⟩:=aS.1 I;obtain⟨z1,z2,z3,_⟩:= @dW f n s t ks bs al;have hb:∀p∈(bs.map tEB).map bhd,wfS p.2=true∧∃b∈bs,p.1=b.name:=fun p hp=>by
   obtain⟨y,hy,rfl⟩:=Ad.1 hp;obtain⟨b,hb,rfl⟩:=Ad.1 hy;exact⟨rfl,b,hb,rfl⟩
  have ha:(al.map tEA).map ahd=al.map ahd:=by rw[A1];rfl
  have hl:lw (if f=7 then [97] else s) ((bs.map tEB).map bhd) (al.map ahd)≤lw s (bs.map bhd) (al.map ahd):=by
   have h1:w30 (if f=7 then [97] else s)≤w30 s:=by
    split
    ·exact xT (by decide)
    ·exact le_refl _
   unfold lw;have h2:((bs.map tEB).map bhd).map (fun p=>1+w30 p.1)=(bs.map bhd).map fun p=>1+w30 p.1:=by rw[A1,A1,A1];rfl
   rw[h2];omega
  rw[iE];refine aS.2 ⟨⟨?_,fun h7=>⟨rfl,by rw[θ h7];decide⟩,rfl,fun p hp=>(hb p hp).1,?_,fun h5=>?_,fun p hp=>?_,?_⟩,fun x hx=>?_,fun x hx=>?_,fun x hx=>?_⟩
  ·simpa using J
  ·rw[ha];omega
  ·rw[ψ (by omega)];exact N h5
  ·obtain⟨b,hb,e⟩:=(hb p hp).2
   rw[e];exact O (bhd b) (Ad.2 ⟨b,hb,rfl⟩)
  ·rw[ha];exact W
  ·obtain⟨y,hy,rfl⟩:=Ad.1 hx;exact xO k y (by have:=z1 y hy;omega) (Y y hy)
  ·obtain⟨y,hy,rfl⟩:=Ad.1 hx;exact xO k y.body (by have:=z2 y hy;omega) (Z y hy)
  ·obtain⟨y,hy,rfl⟩:=Ad.1 hx;exact xO k y.body (by have:=z3 y hy;omega) (k3 y hy)
inductive CF (s:Str) (b:Core):Core→Prop
 | mk {f n:Int} {nm:Str} {t:Ty} {ks:List Core} {bs:List Bind} {al:List Alt} (hg:(∀y∈gvN f nm bs,¬y∈pfR b)∨∀p∈ks++bs.map Bind.body,¬s∈pfR p)
   (hk:∀x∈ks,CF s b x) (hb:∀x∈bs,CF s b x.body) (ha:∀a∈al,(∀y∈a.vars,¬y∈pfR b)∨¬s∈pfR a.body) (ha':∀a∈al,CF s b a.body):CF s b (.mk f n nm t ks bs al)
theorem CF.of {X:Nat}{s:Str}{b:Core}(hb:∀z∈pfR b,¬nh z):∀(k:Nat) (c:Core),aU c≤k→cB (QL X) c→CF s b c
 | 0,c,h,_=>by have:=bR c;omega
 | k+1,.mk f n nm t ks bs al,h,J=>by
  obtain⟨N,z2,z3,_⟩:= @dW f n nm t ks bs al;obtain⟨_,O,W,Y⟩:=aS.1 J;obtain⟨g1,g2⟩:=aM2 J;exact .mk (.inl fun y hy I=>hb y I (g1 y hy)) (fun x hx=>CF.of hb k x (by have:=N x hx;omega) (O x hx)) (fun x hx=>CF.of hb k x.body (by have:=z2 x hx;omega) (W x hx))
   (fun a ha=>.inl fun y hy I=>hb y I (g2 a ha y hy)) fun a ha=>CF.of hb k a.body (by have:=z3 a ha;omega) (Y a ha)
theorem aI0 {sb:Core→Str→Core→Core}{s:Str}{b:Core}{ns:List Str}{ps:List Core}(hf:(∀n∈ns,¬n∈pfR b)∨∀p∈ps,¬s∈pfR p) (hs:∀p∈ps,tE (sb p s b)=nS (tE p) s (tE b)):
  (cD sb s b ns ps).1=ns∧(cD sb s b ns ps).2.map tE=(if s∈ns then ps.map tE else(ps.map tE).map fun p=>nS p s (tE b)):=by
 unfold cD;split
 ·rename_i h;have hf:∀n∈ns,¬n∈pfR b:=hf.resolve_right fun hf=>by
   obtain⟨p,hp,hx⟩:=Ck.1 h.1;exact hf p hp hx
  rw[wV hf,ψ h.2];refine⟨rfl,?_⟩;rw[A1,A1];exact A6 hs
 ·rename_i h;refine⟨rfl,?_⟩;by_cases hn:s∈ns
  ·rw[θ hn]
  ·rw[ψ hn]
   exact(dV fun q I=>by
    obtain⟨p,hp,rfl⟩:=Ad.1 I
    exact sN _ _ (le_refl _) fun hx=>h ⟨Ck.2 ⟨p,hp,by rw[mU] at hx;exact hx⟩,hn⟩).symm
theorem aQu {x:Str}{b:Core}:∀(bs:List Bind) (l:List Core),l.map tE=bs.map (fun a=>nS (tE a.body) x b)→(mkB (bs.map Bind.ty) (bs.map Bind.name) l).map tEB=(bs.map tEB).map (nSB x b)
 | [],l,_=>by simp[mkB]
 | .mk s t c::bs,[],h=>by cases h
 | .mk s t c::bs,y::l,h=>by
  rw[Al,Al] at h;obtain⟨h1,h2⟩:=List.cons.inj h;rw[Al,Al,mkB,Al,aQu bs l h2,Al,Al];congr 1;exact congrArg (Bind.mk s zTy) h1
theorem aEb:∀(bs:List Bind) (l:List Core),l.map tE=bs.map (fun a=>tE a.body)→(mkB (bs.map Bind.ty) (bs.map Bind.name) l).map tEB=bs.map tEB
 | [],l,_=>by simp[mkB]
 | .mk s t c::bs,[],h=>by cases h
 | .mk s t c::bs,y::l,h=>by
  rw[Al,Al] at h;obtain⟨h1,h2⟩:=List.cons.inj h;rw[Al,Al,mkB,Al,aEb bs l h2,Al];congr 1;exact congrArg (Bind.mk s zTy) h1
theorem aVj {X:Nat}{s:Str}{b:Core}:∀(k:Nat) (c:Core),aU (tE c)≤k→cB (QL X) (tE c)→CF s b (tE c)→tE (dA k c s b)=nS (tE c) s (tE b):=by
 intro k
 induction k with
 | zero=>intro c h;have:=bR (tE c);omega
 | succ k ih=>
 intro c h N O;rw[dA];by_cases hv:c.form=1∧c.name=s
 ·rw[θ hv];obtain⟨f,n,nm,t,ks,bs,al⟩:=c;obtain⟨h1,h2⟩:=hv;have h1:f=1:=h1;have h2:nm=s:=h2;rw[iE,ψ (show ¬f=7 by omega),nS,θ h1,θ h2]
 rw[ψ hv];have W:tE (if c.form=7∧s∈pfR c then aB2 c (tyR b) else c)=tE c:=by
  split
  ·rename_i h7;exact aQi h7.1 _
  ·rfl
 have aa:¬((if c.form=7∧s∈pfR c then aB2 c (tyR b) else c).form=1∧(if c.form=7∧s∈pfR c then aB2 c (tyR b) else c).name=s):=by
  split
  ·rename_i h7;intro e;have:=aA6 (aB2 c (tyR b));rw[aQi h7.1,aA6] at this;omega
  ·exact hv
 generalize (if c.form=7∧s∈pfR c then aB2 c (tyR b) else c)=d at W aa;rw[←W] at h N O ⊢;clear W hv;obtain⟨f,n,nm,t,ks,bs,al⟩:=d;rw[iE] at h N O;by_cases h1:f=1
 ·obtain⟨Z,Y,e3⟩:=sI N h1;rw[List.map_eq_nil_iff] at Z Y e3;subst Z Y e3;have hn:¬nm=s:=fun e=>aa ⟨h1,e⟩
  rw[iE,nS,θ h1,ψ (show ¬(if f=7 then [97] else nm)=s by rw[ψ (by omega)];exact hn),oQ,iE];unfold zNm zKs zBs;rw[ψ (show ¬f=5 by omega)];simp[mkB]
 obtain⟨_,k1,k2,k3⟩:=aS.1 N;obtain⟨z1,z2,z3,_⟩:= @dW f n (if f=7 then [97] else nm) zTy (ks.map tE) (bs.map tEB) (al.map tEA);obtain⟨hg,f1,f2,f3,f4⟩:((∀y∈gvN f nm bs,¬y∈pfR b)∨∀p∈ks++bs.map Bind.body,¬s∈pfR p)∧(∀x∈ks,CF s b (tE x))∧(∀x∈bs,CF s b (tE x.body))∧(∀a∈al,(∀y∈a.vars,¬y∈pfR b)∨¬s∈pfR a.body)∧∀a∈al,CF s b (tE a.body):=by
  cases O with
  | mk hg hk hb ha ha'=>
   rw[qW] at hg;refine⟨hg.imp (fun h=>h) fun h p hp hs=>?_,fun x hx=>hk _ (Ad.2 ⟨x,hx,rfl⟩),fun x hx=>hb _ (Ad.2 ⟨x,hx,rfl⟩),fun a h=>?_,fun a h=>ha' _ (Ad.2 ⟨a,h,rfl⟩)⟩
   ·refine h (tE p) ?_ (by rw[mU];exact hs);rcases ω.1 hp with hp | hp
    ·exact ω.2 (.inl (Ad.2 ⟨p,hp,rfl⟩))
    ·obtain⟨y,hy,rfl⟩:=Ad.1 hp;exact ω.2 (.inr (Ad.2 ⟨tEB y,Ad.2 ⟨y,hy,rfl⟩,rfl⟩))
   ·have:=ha _ (Ad.2 ⟨a,h,rfl⟩);exact this.imp (fun h=>h) fun h hs=>h (by show s∈pfR (tE a.body);rw[mU];exact hs)
 have ik:∀p∈ks,tE (dA k p s b)=nS (tE p) s (tE b):=fun p hp=>ih p (by have:=z1 (tE p) (Ad.2 ⟨p,hp,rfl⟩);omega) (k1 _ (Ad.2 ⟨p,hp,rfl⟩)) (f1 p hp)
 have ib:∀p∈bs,tE (dA k p.body s b)=nS (tE p.body) s (tE b):=fun p hp=>ih p.body (by have:=z2 (tEB p) (Ad.2 ⟨p,hp,rfl⟩);have:aU (tEB p).body=aU (tE p.body):=rfl;omega) (k2 _ (Ad.2 ⟨p,hp,rfl⟩)) (f2 p hp)
 have ia:∀p∈al,tE (dA k p.body s b)=nS (tE p.body) s (tE b):=fun p hp=>ih p.body (by have:=z3 (tEA p) (Ad.2 ⟨p,hp,rfl⟩);have:aU (tEA p).body=aU (tE p.body):=rfl;omega) (k3 _ (Ad.2 ⟨p,hp,rfl⟩)) (f4 p hp)
 obtain⟨p1,p2⟩:=aI0 (sb:=dA k) (s:=s) (b:=b) (ns:=gvN f nm bs) (ps:=ks++bs.map Bind.body) hg fun p hp=>by
  rcases ω.1 hp with hp | hp
  ·exact ik p hp
  ·obtain⟨z,hz,rfl⟩:=Ad.1 hp;exact ib z hz
 have hA:(al.map (lV (dA k) s b)).map tEA=(al.map tEA).map (nSA s (tE b)):=by
  rw[A1,A1];refine A6 fun a ha=>?_
  have hv:(∀y∈a.vars,¬y∈pfR b)∨∀p∈[a.body],¬s∈pfR p:=(f3 a ha).imp (fun h=>h) fun h p hp=>by rw[Ac.1 hp];exact h
  obtain⟨r1,r2⟩:=aI0 (sb:=dA k) (s:=s) (b:=b) (ns:=a.vars) (ps:=[a.body]) hv fun p hp=>by rw[Ac.1 hp];exact ia a ha
  obtain⟨af,an,am,J,ac⟩:=a;show Alt.mk af an am (cD (dA k) s b J [ac]).1 (tE ((cD (dA k) s b J [ac]).2.headD ac))=Alt.mk af an am J (if s∈J then tE ac else nS (tE ac) s (tE b));have r1:(cD (dA k) s b J [ac]).1=J:=r1;have r2:(cD (dA k) s b J [ac]).2.map tE=if s∈J then [tE ac] else [nS (tE ac) s (tE b)]:=r2
  have hl:tE ((cD (dA k) s b J [ac]).2.headD ac)=((cD (dA k) s b J [ac]).2.map tE).headD (tE ac):=by
   cases (cD (dA k) s b J [ac]).2<;>rfl
  rw[r1,hl,r2];by_cases hx:s∈J
  ·rw[θ hx,θ hx];rfl
  ·rw[ψ hx,ψ hx];rfl
 rw[oQ,iE,iE,oF h1,qW,hA];unfold zNm zKs zBs;have Z:(if f=5 then(cD (dA k) s b (gvN f nm bs) (ks++bs.map Bind.body)).1.headD nm else nm)=nm:=by
  rw[p1];split
  ·rename_i h5;unfold gvN;rw[θ h5];rfl
  ·rfl
 dsimp only;rw[Z,p1];have hlen:((cD (dA k) s b (gvN f nm bs) (ks++bs.map Bind.body)).2.take ks.length).map tE=((cD (dA k) s b (gvN f nm bs) (ks++bs.map Bind.body)).2.map tE).take ks.length:=List.map_take;have I:((cD (dA k) s b (gvN f nm bs) (ks++bs.map Bind.body)).2.drop ks.length).map tE=((cD (dA k) s b (gvN f nm bs) (ks++bs.map Bind.body)).2.map tE).drop ks.length:=List.map_drop;rw[hlen,p2];have hB:(mkB (bs.map Bind.ty) (gvN f nm bs) ((cD (dA k) s b (gvN f nm bs) (ks++bs.map Bind.body)).2.drop ks.length)).map tEB=if s∈gvN f nm bs then bs.map tEB else(bs.map tEB).map (nSB s (tE b)):=by
  by_cases h5:f=5
  ·obtain⟨_,e,_⟩:=dD N (.inl h5);rw[List.map_eq_nil_iff] at e;subst e;simp[mkB]
  ·have Y:gvN f nm bs=bs.map Bind.name:=by unfold gvN;rw[ψ h5];rfl
   rw[p2] at I;by_cases hx:s∈gvN f nm bs
   ·rw[θ hx] at I ⊢;rw[As,drop_left' (ξ _),A1] at I;rw[Y] at I ⊢;exact aEb bs _ I
   ·rw[ψ hx] at I ⊢;rw[As,As,drop_left' (by rw[ξ,ξ]),A1,A1] at I;rw[Y] at I ⊢;exact aQu bs _ I
 rw[hB];by_cases hx:s∈gvN f nm bs
 ·rw[θ hx,θ hx,θ hx,As,take_left' (ξ _)]
 ·rw[ψ hx,ψ hx,ψ hx,As,As,take_left' (by rw[ξ,ξ])]
section
variable {X:Nat}
theorem vD {c b:Core}{s:Str}(hb:∀z∈pfR b,¬nh z) (I:cB (QL X) (tE c)):tE (dA (m30 c) c s b)=nS (tE c) s (tE b):=
 aVj _ c (le_trans (bZ _) (aEl c)) I (CF.of hb _ _ (le_refl _) I)
theorem aVi (z:Str):tE (vC z)=vC z:=by unfold vC;rw[iE];rfl
theorem aVl (J:31≤X):∀(ps:List (Str×Str)) (c:Core),cB (QL X) (tE c)→(∀p∈ps,¬nh p.2∧p.2.length≤30)→tE (fY c ps)=fY (tE c) ps∧cB (QL X) (tE (fY c ps))
 | [],c,h,_=>⟨rfl,h⟩
 | p::ps,c,h,hp=>by
  obtain⟨h1,h2⟩:=hp p ζ;have hf:∀z∈pfR (vC p.2),¬nh z:=fun z hz=>by rw[aWh,Ac] at hz;rw[hz];exact h1
  have I:=vD (c:=c) (s:=p.1) hf h;rw[aVi] at I;have N:=vH (X:=X) (s:=p.1) hf aNf (m30 (tE c)) (tE c) (le_refl _) h;have:=aVl J ps (dA (m30 c) c p.1 (vC p.2)) (by rw[I];exact j4 (aM0 J h2) _ _ (le_refl _) h) fun q O=>hp q (κ _ O)
  rw[I,←N] at this;exact this
theorem aVk:∀(ps:List (Str×Core)) (c:Core),cB (QL X) (tE c)→(∀p∈ps,cB (QL X) (tE p.2)∧pfR p.2=[])→tE (kN c ps)=kN (tE c) (ps.map fun p=>(p.1,tE p.2))
 | [],c,_,_=>rfl
 | p::ps,c,h,hp=>by
  obtain⟨h1,h2⟩:=hp p ζ;have I:=vD (c:=c) (s:=p.1) (b:=p.2) (by rw[h2];simp) h;have J:=vH (X:=X) (s:=p.1) (b:=tE p.2) (by rw[mU,h2];simp) (aHf _) (m30 (tE c)) (tE c) (le_refl _) h;have:=aVk ps (dA (m30 c) c p.1 p.2) (by rw[I];exact j4 h1 _ _ (le_refl _) h) fun q N=>hp q (κ _ N)
  rw[I,←J] at this;exact this
theorem aQh (J:31≤X) {c:Core}{names:List Str}{l:List Core}(h1:names.length=l.length) (h2:names.length≤1000) (hn:∀x∈names,nh x) (hc:cB (QL X) (tE c)) (hp:∀x∈pfR c,nh x)
  (hl:∀b∈l,cB (QL X) (tE b)∧pfR b=[]):tE (xR c names l)=fS (tE c) (names.zip (l.map tE)):=by
 have ht:∀x∈fN c l,nh x:=fun x hx=>by
  rcases ω.1 hx with hx | hx
  ·exact hp x hx
  ·obtain⟨b,hb,hx⟩:=Ck.1 hx;rw[(hl b hb).2] at hx;cases hx
 have N:fN (tE c) (l.map tE)=fN c l:=by
  unfold fN;simp only[List.flatMap_map,mU]
 have I:=aJj ht names.length;have e:=aSx J (tE c) names (l.map tE) (by rw[h1,ξ]) h2 hn hc (by rw[mU];exact hp) fun b hb=>by
  obtain⟨y,hy,rfl⟩:=Ad.1 hb;exact⟨(hl y hy).1,by rw[mU];exact(hl y hy).2,aHf y⟩
 rw[←e];unfold xR;rw[N,I];have hw:∀p∈names.zip ((List.range names.length).map pcN),¬nh p.2∧p.2.length≤30:=fun p hp=>by
  obtain⟨m,hm,e⟩:=Ad.1 (of_mem_zip (a:=p.1) (b:=p.2) hp).2;have hm:=mem_range.1 hm;rw[←e];exact⟨j9 m,aZ6 (by omega)⟩
 obtain⟨f1,f2⟩:=aVl J _ c hc hw;rw[aVk _ _ f2 fun p hp=>hl p.2 (of_mem_zip (a:=p.1) (b:=p.2) hp).2,f1];congr 1;rw[List.zip_map_right];rfl
end
inductive AV:List (Str×Str)→Str→Str→Prop
 | here {ρ:List (Str×Str)} {x y:Str}:AV ((x,y)::ρ) x y
 | there {ρ:List (Str×Str)} {x y a b:Str} (hx:¬x=a) (hy:¬y=b) (h:AV ρ x y):AV ((a,b)::ρ) x y
theorem AV.app {ρ τ:List (Str×Str)}{x y:Str}(h:AV ρ x y):AV (ρ++τ) x y:=by
 induction h with
 | here=>exact .here
 | there hx hy _ I=>exact .there hx hy I
theorem AV.mem {ρ:List (Str×Str)}{x y:Str}(h:AV ρ x y):x∈ρ.map (·.1)∧y∈ρ.map (·.2):=by
 induction h with
 | here=>exact⟨ζ,ζ⟩
 | there hx hy _ I=>exact⟨κ _ I.1,κ _ I.2⟩
theorem AV.mid:∀{ρ τ:List (Str×Str)}{x y:Str},¬x∈ρ.map (·.1)→¬y∈ρ.map (·.2)→AV τ x y→AV (ρ++τ) x y
 | [],_,_,_,_,_,h=>h
 | (a,b)::ρ,_,_,_,hx,hy,h=>.there (fun e=>hx (by rw[e];exact ζ)) (fun e=>hy (by rw[e];exact ζ))
  (AV.mid (fun e=>hx (κ _ e)) (fun e=>hy (κ _ e)) h)
theorem AV.split:∀{ρ τ:List (Str×Str)}{s s' x y:Str},AV (ρ++(s,s')::τ) x y→AV ρ x y∨(¬x∈ρ.map (·.1)∧¬y∈ρ.map (·.2)∧((x=s∧y=s')∨(¬x=s∧¬y=s'∧AV τ x y)))
 | [],τ,s,s',x,y,h=>by
  refine .inr ⟨by simp,by simp,?_⟩;cases h with
  | here=>exact .inl ⟨rfl,rfl⟩
  | there hx hy h=>exact .inr ⟨hx,hy,h⟩
 | (a,b)::ρ,τ,s,s',x,y,h=>by
  cases h with
  | here=>exact .inl .here
  | there hx hy h=>
   rcases AV.split (ρ:=ρ) h with g | ⟨g1,g2,g3⟩
   ·exact .inl (.there hx hy g)
   ·refine .inr ⟨fun e=>?_,fun e=>?_,g3⟩
    ·rcases Ao.1 e with e | e
     ·exact hx e
     ·exact g1 e
    ·rcases Ao.1 e with e | e
     ·exact hy e
     ·exact g2 e
def AH (x y:Alt):Prop:=x.form=y.form∧x.n=y.n∧x.name=y.name∧x.vars.length=y.vars.length∧(x.form=1∨x.vars=[])
inductive RA (H:Core→Core→Prop):List (Str×Str)→Core→Core→Prop
 | hole {ρ:List (Str×Str)} {b x:Core} (h:H b x):RA H ρ b x
 | var {ρ:List (Str×Str)} {n n':Int} {s s':Str} {t t':Ty} (h:AV ρ s s'):RA H ρ (.mk 1 n s t [] [] []) (.mk 1 n' s' t' [] [] [])
 | node {ρ:List (Str×Str)} {f n:Int} {s s':Str} {t t':Ty} {ks ks':List Core} {bs bs':List Bind} {al al':List Alt} (h1:¬f=1) (hs:f=5∨f=7∨s=s')
   (lk:ks.length=ks'.length) (lb:bs.length=bs'.length) (la:al.length=al'.length)
   (hk:∀(i:Nat) (x y:Core),ks[i]?=some x→ks'[i]?=some y→RA H ((gvN f s bs).zip (gvN f s' bs')++ρ) x y)
   (hb:∀(i:Nat) (x y:Bind),bs[i]?=some x→bs'[i]?=some y→RA H ((gvN f s bs).zip (gvN f s' bs')++ρ) x.body y.body)
   (ha:∀(i:Nat) (x y:Alt),al[i]?=some x→al'[i]?=some y→AH x y)
   (ha':∀(i:Nat) (x y:Alt),al[i]?=some x→al'[i]?=some y→RA H (x.vars.zip y.vars++ρ) x.body y.body):RA H ρ (.mk f n s t ks bs al) (.mk f n s' t' ks' bs' al')
theorem dH {α β:Type}{g:α→β}{l:List α}{i:Nat}{y:β}(h:(l.map g)[i]?=some y):∃x,l[i]?=some x∧y=g x:=by
 rw[A5] at h;obtain⟨x,h1,h2⟩:=Bz.1 h;exact⟨x,h1,h2.symm⟩
section
variable {H:Core→Core→Prop}{ρ τ:List (Str×Str)}{c c' b b':Core}
theorem RA.app (h:RA H ρ c c'):RA H (ρ++τ) c c':=by
 induction h with
 | hole h=>exact .hole h
 | var h=>exact .var h.app
 | node h1 hs lk lb la _ _ ha _ I J N=>
  exact .node h1 hs lk lb la (fun i x y hx hy=>by have:=I i x y hx hy;rwa [Aw] at this) (fun i x y hx hy=>by have:=J i x y hx hy;rwa [Aw] at this) ha
   fun i x y hx hy=>by have:=N i x y hx hy;rwa [Aw] at this
theorem RA.nil (h:RA H [] c c'):RA H ρ c c':=h.app (ρ:=[]) (τ:=ρ)
def gS (l:List Str) (s:Str) (b c:Core):Core:=if s∈l then c else nS c s b
theorem aW9 {l:List Str}{f n:Int}{s nm:Str}{t:Ty}{ks:List Core}{bs:List Bind}{al:List Alt}(h1:¬f=1):gS l s b (.mk f n nm t ks bs al)=
  .mk f n nm t (ks.map (gS (gvN f nm bs++l) s b)) (bs.map fun x=>.mk x.name x.ty (gS (gvN f nm bs++l) s b x.body)) (al.map fun a=>.mk a.form a.n a.name a.vars (gS (a.vars++l) s b a.body)):=by
 unfold gS;by_cases h:s∈l
 ·have e:∀m:List Str,s∈m++l:=fun m=>ω.2 (.inr h)
  rw[θ h];congr 1
  ·exact(dV fun x _=>θ (e _)).symm
  ·exact(dV fun x _=>by rw[θ (e _)];obtain⟨_,_,_⟩:=x;rfl).symm
  ·exact(dV fun x _=>by rw[θ (e _)];obtain⟨_,_,_,_,_⟩:=x;rfl).symm
 ·have e:∀m:List Str,s∈m++l↔s∈m:=fun m=>by rw[ω];exact or_iff_left h
  rw[ψ h,oF h1];congr 1
  ·by_cases hx:s∈gvN f nm bs
   ·rw[θ hx];exact(dV fun x _=>θ ((e _).2 hx)).symm
   ·rw[ψ hx];exact A6 fun x _=>(ψ fun h=>hx ((e _).1 h)).symm
  ·by_cases hx:s∈gvN f nm bs
   ·rw[θ hx];exact(dV fun x _=>by rw[θ ((e _).2 hx)];obtain⟨_,_,_⟩:=x;rfl).symm
   ·rw[ψ hx];exact A6 fun x _=>by rw[ψ fun h=>hx ((e _).1 h)];rfl
  ·refine A6 fun x _=>?_
   unfold nSA;congr 1;by_cases hx:s∈x.vars
   ·rw[θ hx,θ ((e _).2 hx)]
   ·rw[ψ hx,ψ fun h=>hx ((e _).1 h)]
theorem aO2 {f:Int}{nm:Str}{bs:List Bind}{g:Core→Core}:gvN f nm (bs.map fun x=>.mk x.name x.ty (g x.body))=gvN f nm bs:=by
 unfold gvN;rw[A1];rfl
theorem aQ6 {f:Int}{s s':Str}{bs bs':List Bind}(h:bs.length=bs'.length):(gvN f s bs).length=(gvN f s' bs').length:=by
 unfold gvN;rw[Aa,Aa,ξ,ξ,h];congr 1;split<;>rfl
theorem zip_fst {l m:List Str}(h:l.length=m.length):(l.zip m).map (·.1)=l:=List.map_fst_zip (le_of_eq h)
theorem o7 {l m:List Str}(h:l.length=m.length):(l.zip m).map (·.2)=m:=List.map_snd_zip (le_of_eq h.symm)
theorem RA.sub (hc:∀b x,H b x→pfR b=[]∧pfR x=[]) (Y:RA H [] b b') {Z:List (Str×Str)}(h:RA H Z c c'):∀{ρ τ:List (Str×Str)}{s s':Str},Z=ρ++(s,s')::τ→
  RA H (ρ++τ) (gS (ρ.map (·.1)) s b c) (gS (ρ.map (·.2)) s' b' c'):=by
 induction h with
 | @hole _ p q h=>
  intro ρ τ s s' _;obtain⟨h1,h2⟩:=hc _ _ h;have e:∀(l:List Str) (s:Str) (b c:Core),pfR c=[]→gS l s b c=c:=fun l s b c h=>by
   unfold gS;split
   ·rfl
   ·exact sN _ c (le_refl _) (by rw[h];simp)
  rw[e _ _ _ _ h1,e _ _ _ _ h2];exact .hole h
 | @var _ n n' x y t t' h=>
  intro ρ τ s s' he;subst he;have W:∀(l:List Str) (s:Str) (b:Core) (n:Int) (x:Str) (t:Ty),¬x=s∨s∈l→gS l s b (.mk 1 n x t [] [] [])=.mk 1 n x t [] [] []:=fun l s b n x t h=>by
   unfold gS;split
   ·rfl
   ·rename_i hl;rw[nS,θ rfl,ψ (h.resolve_right hl)]
  rcases h.split with g | ⟨g1,g2,⟨rfl,rfl⟩ | ⟨g3,g4,g5⟩⟩
  ·obtain⟨m1,m2⟩:=g.mem;rw[W _ _ _ _ _ _ ?_,W _ _ _ _ _ _ ?_]
   ·exact .var g.app
   ·by_cases e:y=s'
    ·exact .inr (e▸m2)
    ·exact .inl e
   ·by_cases e:x=s
    ·exact .inr (e▸m1)
    ·exact .inl e
  ·unfold gS;rw[ψ g1,ψ g2,nS,θ rfl,θ rfl,nS,θ rfl,θ rfl];exact Y.nil
  ·rw[W _ _ _ _ _ _ (.inl g3),W _ _ _ _ _ _ (.inl g4)];exact .var (g5.mid g1 g2)
 | @node _ f n x y t t' ks ks' bs bs' al al' h1 hs lk lb la _ _ ha _ ik ib ia=>
  intro ρ τ s s' he;subst he;have hz:=aQ6 (f:=f) (s:=x) (s':=y) lb;have em:(((gvN f x bs).zip (gvN f y bs')++ρ).map (·.1))=gvN f x bs++ρ.map (·.1):=by rw[As,zip_fst hz]
  have en:(((gvN f x bs).zip (gvN f y bs')++ρ).map (·.2))=gvN f y bs'++ρ.map (·.2):=by rw[As,o7 hz]
  have assoc:∀N:List (Str×Str),N++(ρ++(s,s')::τ)=(N++ρ)++(s,s')::τ:=fun N=>(Aw _ _ _).symm
  rw[aW9 h1,aW9 h1];refine .node h1 hs (by rw[ξ,ξ];exact lk) (by rw[ξ,ξ];exact lb) (by rw[ξ,ξ];exact la) (fun i p q hp O=>?_) (fun i p q hp O=>?_) (fun i p q hp O=>?_) (fun i p q hp O=>?_)
  ·obtain⟨p,I,rfl⟩:=dH hp;obtain⟨q,J,rfl⟩:=dH O;have:=ik i p q I J (assoc _);rw[em,en,Aw] at this;rw[aO2,aO2];exact this
  ·obtain⟨p,I,rfl⟩:=dH hp;obtain⟨q,J,rfl⟩:=dH O;have:=ib i p q I J (assoc _);rw[em,en,Aw] at this;rw[aO2,aO2];exact this
  ·obtain⟨p,I,rfl⟩:=dH hp;obtain⟨q,J,rfl⟩:=dH O;exact ha i p q I J
  ·obtain⟨p,I,rfl⟩:=dH hp;obtain⟨q,J,rfl⟩:=dH O;have:=ia i p q I J (assoc _);have hl:=(ha i p q I J).2.2.2.1
   rw[As,As,zip_fst hl,o7 hl,Aw] at this;exact this
theorem RA.nS (hc:∀b x,H b x→pfR b=[]∧pfR x=[]) (I:RA H [] b b') {s s':Str}(h:RA H ((s,s')::τ) c c'):RA H τ (nS c s b) (nS c' s' b'):=RA.sub hc I h (ρ:=[]) rfl
theorem RA.fS (hc:∀b x,H b x→pfR b=[]∧pfR x=[]):∀{ns ns':List Str}{l l':List Core}{c c':Core},ns.length=l.length→ns'.length=l'.length→ns.length=ns'.length→(∀(i:Nat) (x y:Core),l[i]?=some x→l'[i]?=some y→RA H [] x y)→
  RA H (ns.zip ns'++τ) c c'→RA H τ (fS c (ns.zip l)) (fS c' (ns'.zip l'))
 | [],[],_,_,c,c',_,_,_,_,h=>h
 | [],_::_,_,_,_,_,_,_,h,_,_=>by cases h
 | _::_,[],_,_,_,_,_,_,h,_,_=>by cases h
 | _::_,_::_,[],_,_,_,h,_,_,_,_=>by cases h
 | _::_,_::_,_::_,[],_,_,_,h,_,_,_=>by cases h
 | s::ns,s'::ns',x::l,y::l',c,c',h1,h2,h3,hl,h=>by
  have h:RA H ((s,s')::(ns.zip ns'++τ)) c c':=h;exact RA.fS hc (ns:=ns) (ns':=ns') (l:=l) (l':=l') (by simpa using h1) (by simpa using h2) (by simpa using h3) (fun i p q hp I=>hl (i+1) p q hp I) (RA.nS hc (hl 0 x y rfl rfl) h)
end
end Go.Proofs.YtockgoadliilhaaGreatDoor
