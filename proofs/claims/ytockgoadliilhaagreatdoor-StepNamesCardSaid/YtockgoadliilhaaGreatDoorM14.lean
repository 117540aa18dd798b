/-
  Texts Lt4 to Ly20 in one.
-/
import Derived.Test.YtockgoadliilhaaGreatDoorM13
open List (append_assoc append_nil cons_append drop_eq_getElem_cons drop_length length_append length_cons length_eq_one_iff length_map length_nil length_take map_append map_cons map_map mem_append mem_cons mem_cons_of_mem mem_cons_self mem_map mem_singleton sum_cons take_add_one take_append_drop take_length)
open Nat (add_mul le_refl mul_le_mul_right sub_self zero_add zero_le)
namespace Go.Proofs.YtockgoadliilhaaGreatDoor
open Go Go.AM
set_option maxRecDepth 20000
inductive GC:List Str→Nat→Core→Prop
 | var {L:List Str} {s:Str} (h:s∈nm6) (hL:s∈L):GC L 4 (.mk 1 0 s zTy [] [] [])
 | con {L:List Str} {s:Str} (h:s.length≤8):GC L 9 (.mk 2 0 s zTy [] [] [])
 | int {L:List Str} {n:Int} (h: -100≤n∧n≤100):GC L 1 (.mk 3 n [] zTy [] [] [])
 | app {L:List Str} {m n:Nat} {a b:Core} (ha:GC L m a) (hb:GC L n b):GC L (m+n+1) (.mk 4 0 [] zTy [a,b] [] [])
 | lam {L:List Str} {m k:Nat} {s:Str} {t:Ty} {a:Core} (h:s∈nm6) (ht:GT k t) (hk:k≤100) (ha:GC (L++[s]) m a):GC L (m+4) (.mk 5 0 s t [a] [] [])
 | tc {L:List Str} {k:Nat} {t:Ty} {s:Str} (h:s.length≤8) (ht:GT k t) (hk:k≤100):GC L (9+1) (.mk 6 0 [] t [.mk 2 0 s zTy [] [] []] [] [])
 | tc2 {L:List Str} {j k:Nat} {u t:Ty} {s:Str} (h:s.length≤8) (hu:GT j u) (hj:j≤100) (ht:GT k t) (hk:k≤100):GC L (9+1+1) (.mk 6 0 [] t [.mk 6 0 [] u [.mk 2 0 s zTy [] [] []] [] []] [] [])
 | tr {L:List Str} {m n j k:Nat} {u t:Ty} {s x:Str} {a b:Core} (hu:GT j u) (hj:j≤100) (hs:s∈tvN) (hx:x∈nm6) (ht:GT k t) (hk:k≤100) (ha:GC (L++[x]) m a) (hb:GC L n b):GC L (m+4+20+1+n+1) (.mk 4 0 [] zTy [.mk 6 0 [] u [.mk 7 0 s zTy [.mk 5 0 x t [a] [] []] [] []] [] [],b] [] [])
 | tlam {L:List Str} {m:Nat} {s:Str} {a:Core} (h:s∈tvN) (ha:GC L m a):GC L (m+20) (.mk 7 0 s zTy [a] [] [])
 | lt {L:List Str} {m n k:Nat} {s:Str} {t:Ty} {a b:Core} (h:s∈nm6) (ht:GT k t) (hk:k≤100) (ha:GC (L++[s]) m a) (hb:GC (L++[s]) n b):GC L (m+n+5) (.mk 8 0 [] zTy [a] [.mk s t b] [])
 | case1 {L:List Str} {m n k:Nat} {t:Ty} {a b:Core} {f i:Int} {s:Str} {vs:List Str} (ht:GT k t) (hk:k≤100) (ha:GC L m a) (hb:GC (L++vs) n b) (h1:1≤f∧f≤3) (h2: -100≤i∧i≤100) (h3:s.length≤8) (h4:∀x∈vs,x∈nm6) (h5:vs.length≤2) (h6:f=1∨vs=[]):GC L (m+n+20) (.mk 9 0 [] t [a] [] [.mk f i s vs b])
 | case2 {L:List Str} {m n o k:Nat} {t:Ty} {a b c:Core} {f i:Int} {s:Str} {vs:List Str} {f' i':Int} {s':Str} {vs':List Str} (ht:GT k t) (hk:k≤100) (ha:GC L m a) (hb:GC (L++vs) n b) (hc:GC (L++vs') o c) (h1:1≤f∧f≤3) (h2: -100≤i∧i≤100) (h3:s.length≤8) (h4:∀x∈vs,x∈nm6) (h5:vs.length≤2) (h6:f=1∨vs=[]) (h1':1≤f'∧f'≤3) (h2': -100≤i'∧i'≤100) (h3':s'.length≤8) (h4':∀x∈vs',x∈nm6) (h5':vs'.length≤2) (h6':f'=1∨vs'=[]):GC L (m+n+o+40) (.mk 9 0 [] t [a] [] [.mk f i s vs b,.mk f' i' s' vs' c])
 | prim {L:List Str} {m n:Nat} {s:Str} {a b:Core} (h:s∈aO3) (ha:GC L m a) (hb:GC L n b):GC L (m+n+5) (.mk 10 0 s zTy [a,b] [] [])
 | fail {L:List Str} {k:Nat} {t:Ty} (ht:GT k t) (hk:k≤100):GC L 1 (.mk 11 0 [] t [] [] [])
theorem nA {L L' vs:List Str}(h:∀s∈nm6,s∈L→s∈L'):∀s∈nm6,s∈L++vs→s∈L'++vs:=fun s hs hx=>(χ.1 hx).elim (fun hx=>χ.2 (.inl (h s hs hx))) fun hx=>χ.2 (.inr hx)
theorem GC.mono {L:List Str}{m:Nat}{c:Core}(h:GC L m c):∀{L':List Str},(∀s∈nm6,s∈L→s∈L')→GC L' m c:=by
 induction h with
 | var h hL=>exact fun hm=>.var h (hm _ h hL)
 | con h=>exact fun _=>.con h
 | int h=>exact fun _=>.int h
 | app _ _ q I=>exact fun hm=>.app (q hm) (I hm)
 | lam h ht hk _ q=>exact fun hm=>.lam h ht hk (q (nA hm))
 | tc h ht hk=>exact fun _=>.tc h ht hk
 | tc2 h hu hj ht hk=>exact fun _=>.tc2 h hu hj ht hk
 | tr hu hj hs hx ht hk _ _ q I=>exact fun hm=>.tr hu hj hs hx ht hk (q (nA hm)) (I hm)
 | tlam h _ q=>exact fun hm=>.tlam h (q hm)
 | lt h ht hk _ _ q I=>exact fun hm=>.lt h ht hk (q (nA hm)) (I (nA hm))
 | case1 ht hk _ _ h1 h2 h3 h4 h5 h6 q I=>exact fun hm=>.case1 ht hk (q hm) (I (nA hm)) h1 h2 h3 h4 h5 h6
 | case2 ht hk _ _ _ h1 h2 h3 h4 h5 h6 h1' h2' h3' h4' h5' h6' q I J=>exact fun hm=>.case2 ht hk (q hm) (I (nA hm)) (J (nA hm)) h1 h2 h3 h4 h5 h6 h1' h2' h3' h4' h5' h6'
 | prim h _ _ q I=>exact fun hm=>.prim h (q hm) (I hm)
 | fail ht hk=>exact fun _=>.fail ht hk
def nmG (v:Gv):List Str:=v.l.map (·.1)
theorem aE3 {v:Gv}{s:Str}{t:Ty}:nmG (dI v s t)=nmG v++[s]:=by
 unfold nmG dI;rw[Ar];rfl
theorem GC.within {v:Gv}{s:Str}{t:Ty}{m:Nat}{c:Core}(h:GC (nmG (dI v s t)) m c):GC (nmG v++[s]) m c:=by rwa [aE3] at h
theorem GC.less {v:Gv}{t:Ty}{m:Nat}{c:Core}(h:GC (nmG (dI v [] t)) m c):GC (nmG v) m c:=h.within.mono fun s hs hx=>(χ.1 hx).resolve_right fun e=>by
 rw[Aa.1 e] at hs;exact absurd hs (by decide)
theorem GC.less0 {v:Gv}{t:Ty}{m:Nat}{c:Core}(h:GC (nmG (dI v [] t)) m c):GC (nmG v++[]) m c:=by rw[A0];exact h.less
theorem GC.in2 {v:Gv}{s s':Str}{t t':Ty}{m:Nat}{c:Core}(h:GC (nmG (dI (dI v s t) s' t')) m c):GC (nmG v++[s,s']) m c:=by
 have:=h.within;rw[aE3,At] at this;exact this
structure Gok (v:Gv):Prop where
 all:∀x∈v.l,(x.1=[]∨x.1∈nm6)∧∃k,k≤100∧GT k x.2
 vars:Sh8 v.vars
 d0:0≤v.deep
 len:(v.l.length:Int)≤v.deep
 vlen:(v.vars.length:Int)≤v.deep+1
theorem Gok.more {v:Gv}(h:Gok v) {s:Str}{t:Ty}{k:Nat}(hs:s=[]∨s∈nm6) (ht:GT k t) (hk:k≤100):Gok (dI v s t):=by
 obtain⟨h1,h2,h3,h4,h5⟩:=h;refine⟨fun x hx=>?_,h2,by show 0≤v.deep+1;omega,?_,by show(v.vars.length:Int)≤v.deep+1+1;omega⟩
 ·rcases χ.1 hx with hx | hx
  ·exact h1 x hx
  ·rw[Aa.1 hx];exact⟨hs,k,hk,ht⟩
 ·show((v.l++[(s,t)]).length:Int)≤v.deep+1;rw[ω];simp only[Bm,List.length_nil];omega
def aIv (L:List (Str×Ty)) (f g:Nat→Bool):Nat→List Int→Option Str×List Int
 | 0,l=>(none,l)
 | k+1,l=>if ¬(L[k]?.getD ([],zTy)).1=[]∧f k=true∧g k=true then(if 0<(tK l 3).1 then(some (L[k]?.getD ([],zTy)).1,(tK l 3).2) else aIv L f g k (tK l 3).2) else aIv L f g k l
theorem aBr (L:List (Str×Ty)) (f g:Nat→Bool):∀(k:Nat) (l:List Int),k≤L.length→Ok l→Ok (aIv L f g k l).2∧∀s,(aIv L f g k l).1=some s→¬s=[]∧∃x∈L,x.1=s
 | 0,l,_,h=>⟨h,fun s hs=>by simp[aIv] at hs⟩
 | k+1,l,hk,h=>by
  rw[aIv];split
  ·rename_i hc;split
   ·refine⟨qO h 3,fun s hs=>?_⟩;simp only[Option.some.injEq] at hs;subst hs;obtain⟨x,hx⟩:=aJ (l:=L) (k:=k) (by omega);rw[hx] at hc ⊢;exact⟨hc.1,x,η hx,rfl⟩
   ·exact aBr L f g k _ (by omega) (qO h 3)
  ·exact aBr L f g k _ (by omega) h
def vRt (v:Gv):List R:=(xR v).map R.c
def tR (t:Ty):List R:=(b8 t).map R.c
def bb (f:Int) (s a:Str):Bool:=bif decide (f=3) then decide (s=a) else false
theorem pI {f:Int}{s a:Str}(h:bb f s a=true):f=3∧s=a:=by
 unfold bb at h;by_cases h1:f=3
 ·by_cases h2:s=a
  ·exact⟨h1,h2⟩
  ·simp[h2] at h
 ·simp[h1] at h
theorem aGh {f:Int}{s a:Str}{n k:Nat}(h:(bif decide (f=3) then bif decide (s=a) then decide ((n:Int)=(k:Int)) else false else bif false then decide ((n:Int)=(k:Int)) else false)=true):bb f s a=true∧n=k:=by
 unfold bb;by_cases h1:f=3
 ·by_cases h2:s=a
  ·simp[h1,h2] at h ⊢;omega
  ·simp[h2] at h
 ·simp[h1] at h
def yA (n:Nat) (t:Ty):Prop:=∀(v:Gv) (l:List Int) (left:Int),Gok v→v.deep+n≤200→Ok l→
 ∃(c:Core) (l':List Int) (m:Nat),GC (nmG v) m c∧m≤20*n∧Ok l'∧aU Tryz.prog 58 [.one (.vp 700 0),.pa (xR v),tyV t] (mO l left) (.pa (aB c)) (mO l' left)
def a09:Code→Code | .seq _ b=>b | c=>c
noncomputable def a0l:Code:=a09 (a09 (Tryz.f58.body.getD .skip))
theorem j5 (v:Gv) (t:Ty) (l:List Int) (left:Int) (f g:Nat→Bool) (out:Option Str×List Int) (hl:Ok l) (hL:v.l.length≤200) (hf:∀k x,v.l[k]?=some x→aU Tryz.prog 101 [tyV x.2,tyV t] [] (B (f k)) [])
  (ab:∀k,k<v.l.length→aU Tryz.prog 102 [.one (.c (.sl 5 (v.l.map sP))),I .i64 k] [] (B (g k)) []) (hout:aIv v.l f g v.l.length l=out) {res:V} {hout':List (Nat×AObj)}
  (ac:∀s Y,out=(some s,Y)→res=.pa (aB (.mk 1 0 s zTy [] [] []))∧hout'=mO Y left)
  (ad:∀Y,out=(none,Y)→AWp none Tryz.prog 166 (keys (mO l left)) a0l (mk [(0,.one (.vp 700 0)),(4,.one (.vp 4 0)),(5,.one (.vp 5 0)),(6,.one (.vp 6 0))] ([(4,.var 78 (vRt v)),(5,.var 33 (tR t)),(6,.var 37 bL)]++mO Y left)) (fun ex st=>(ex=.normal∨ex=.ret)∧Fin tr.flat Tryz.f58 st (mO l left) res hout')):
  aU Tryz.prog 58 [.one (.vp 700 0),.pa (xR v),tyV t] (mO l left) res hout':=by
 have ae:(v.l.map sP).length=v.l.length:=θ _;refine bO (n:=166) tok Tryz.func58 rfl rfl rfl ?_;refine sg rfl (a8 (sg rfl (aC (aL (fun x:Nat×List Int=>mk [(0,.one (.vp 700 0)),(4,.one (.vp 4 0)),(5,.one (.vp 5 0)),(6,.one (.vp 6 0)),(7,I .i64 ((x.1:Int)-1))] ([(4,.var 78 (vRt v)),(5,.var 33 (tR t)),(6,.var 37 [.c (.int .i64 0),.c (.int .i64 0),.c (.str []),.c (.int .i64 0),.c (.int .i64 0),.c (.str []),.c .nl,.c .nl,.c .nl,.c .nl])]++mO x.2 left)) (fun x=>x.1≤v.l.length∧Ok x.2∧aIv v.l f g x.1 x.2=out) (fun x=>x.1) (v.l.length,l) ⟨le_refl _,hl,hout⟩ (sl (he:=⟨rfl,rfl,rfl,rfl,by rw[←ae];rfl,trivial⟩)) ?_))));rintro⟨k,lk⟩ ⟨hk,J,q⟩;dsimp only at hk J q ⊢;refine a8 (sg rfl (aA rfl (fun hb=>?_) (fun hb=>?_)))
 ·have aa:0<k:=by have:=ψ hb;omega
  obtain⟨k,rfl⟩:∃j,k=j+1:=⟨k-1,by omega⟩
  obtain⟨⟨xs,O⟩,hx⟩:=aJ (l:=v.l) (k:=k) (by omega);have aj:=bM sP hx;have ah:((k+1:Nat):Int)-1=(k:Int):=by omega
  rw[ah];rw[aIv,hx] at q;dsimp only[Option.getD] at q;have N:=hf k _ hx;have W:=ab k (by omega);have ai:=aMm lk left 3 (by decide) J;dsimp only at N;refine aD (a8 (aC (a8 ?_)));by_cases h1:xs=[]
  ·rw[φ (fun h=>h.1 h1)] at q;have h1':(!decide (xs=[]))=false:=by rw[Ak h1];rfl
   exact ag [(3,.row k (sP (xs,O))),(7,.bv false),(16,.bv false)] rfl (aA rfl nofun (fun _=>aD (ag [] rfl ⟨(k,lk),⟨by dsimp only;omega,J,q⟩,by dsimp only;omega,sl⟩)))
  have h1':(!decide (xs=[]))=true:=by rw[Al h1];rfl
  cases h2:f k with
  | false=>
   rw[φ (fun h=>by rw[h2] at h;cases h.2.1)] at q;rw[h2] at N;refine aE mixed (ak 15 [(3,.row k (sP (xs,O))),(7,.bv true),(11,.row k (sP (xs,O)))] rfl (kcG N ?_ (hw:=h1')));exact ak 12 [(16,.bv true)] rfl (az (aA rfl nofun (fun _=>aD (ag [] rfl ⟨(k,lk),⟨by dsimp only;omega,J,q⟩,by dsimp only;omega,sl⟩))))
  | true=>
  rw[h2] at N;cases h3:g k with
  | false=>
   rw[φ (fun h=>by rw[h3] at h;cases h.2.2)] at q;rw[h3] at W;refine aE mixed (ak 15 [(3,.row k (sP (xs,O))),(7,.bv true),(11,.row k (sP (xs,O)))] rfl (kcG N ?_ (hw:=h1')));refine ak 5 [(16,.bv true)] rfl (kcG W ?_);exact kz 6 rfl (aA rfl nofun (fun _=>aD (ag [] rfl ⟨(k,lk),⟨by dsimp only;omega,J,q⟩,by dsimp only;omega,sl⟩)))
  | true=>
  rw[ξ ⟨h1,h2,h3⟩] at q;rw[h3] at W;refine aE mixed (ak 15 [(3,.row k (sP (xs,O))),(7,.bv true),(11,.row k (sP (xs,O)))] rfl (kcG N ?_ (hw:=h1')));refine ak 5 [(16,.bv true)] rfl (kcG W ?_);refine ak 3 [] rfl (kcG ai ?_);refine kz 2 rfl (aA rfl (fun hb=>?_) (fun hb=>?_))
  ·have Z:0<(tK lk 3).1:=ψ hb;rw[ξ Z] at q;obtain⟨s1,Y⟩:=out;simp only[Prod.mk.injEq] at q;obtain⟨rfl,rfl⟩:=q;obtain⟨rfl,rfl⟩:=ac _ _ rfl;exact sgh [(3,.row k (sP (xs,O)))] rfl (aI (rtC trw))
  ·have Z:¬0<(tK lk 3).1:=δ hb;rw[φ Z] at q;exact aD (ag [] rfl ⟨(k,_),⟨by dsimp only;omega,qO J 3,q⟩,by dsimp only;omega,sl⟩)
 have aa:k=0:=by have:=δ hb;omega
 subst aa;rw[aIv] at q;exact aO (AWp.sub sl (ad lk q.symm))
theorem aLh (n:Nat) (t:Ty) (hg:GT n t) (hn:n≤100) (ih:∀(k:Nat) (u:Ty),k<n→GT k u→yA k u):yA n t:=by
 intro v l left hv hd hl;have hL:v.l.length≤200:=by have:=hv.len;omega
 have hS:∀k:Nat,∃b:Bool,∀x,v.l[k]?=some x→aU Tryz.prog 101 [tyV x.2,tyV t] [] (B b) []:=fun k=>by
  cases hx:v.l[k]? with
  | none=>exact⟨false,fun x h=>by cases h⟩
  | some x=>
   obtain⟨_,k',hk',hx'⟩:=hv.all x (η hx);obtain⟨r,hr⟩:=aYl hx' hg (by omega) (by omega);exact⟨r,fun y hy=>by cases hy;exact hr⟩
 have hH:∀k:Nat,∃b:Bool,k<v.l.length→aU Tryz.prog 102 [.one (.c (.sl 5 (v.l.map sP))),I .i64 k] [] (B b) []:=fun k=>by
  by_cases hk:k<v.l.length
  ·obtain⟨r,hr⟩:=aUq v.l k hk (by omega);exact⟨r,fun _=>hr⟩
  ·exact⟨false,fun h=>absurd h hk⟩
 obtain⟨f,hf⟩:=Classical.axiomOfChoice hS;obtain⟨g,J⟩:=Classical.axiomOfChoice hH;obtain⟨hok,O⟩:=aBr v.l f g v.l.length l (le_refl _) hl;have hkl:(v.l.map sP).length=v.l.length:=θ _;generalize hout:aIv v.l f g v.l.length l=out at hok O;obtain⟨so,W⟩:=out;cases so with
 | some s=>
  obtain⟨hs0,x,hx,ab⟩:=O s rfl;have aa:s∈nm6:=by
   rcases(hv.all x hx).1 with h | h
   ·rw[ab] at h;exact absurd h hs0
   ·rw[ab] at h;exact h
  refine⟨.mk 1 0 s zTy [] [] [],W,4,.var aa (Ad.2 ⟨x,hx,ab⟩),by cases hg<;>omega,hok,?_⟩;exact j5 v t l left f g _ hl hL hf J hout (fun s' l' e=>by cases e;exact⟨rfl,rfl⟩) (fun l' e=>by cases e)
 | none=>
  clear O hS hH;have hok:Ok W:=hok;rcases uZ hg with⟨m1,m2,a,b,ga,gb,hnm,rfl,Y⟩ | Y
  ·obtain⟨s,Z,hs,N,cN⟩:=aF2 W left v hok;have aa:s∈nm6:=χ.2 (.inl hs);obtain⟨c,l3,m,gc,hm,hl3,cL⟩:=ih m2 b (by omega) gb (dI v s a) Z left (hv.more (.inr aa) ga (by omega)) (by show v.deep+1+(m2:Int)≤200;omega) N;have cM:=xX v s a (by omega) ⟨hv.d0,by omega⟩;refine⟨.mk 5 0 s a [c] [] [],l3,m+4,.lam aa ga (by omega) gc.within,by omega,hl3,?_⟩;refine j5 v (jA a b) l left f g _ hl hL hf J hout (fun s' l' e=>by cases e) (fun l' e=>?_);cases e;refine a8 (sk 1 rfl (kc Y ?_));refine az (aA rfl (fun _=>sk 2 rfl (kc cN ?_)) nofun);refine kz 1 rfl (skh 18 [(3,.row 0 (b8 (aN2 (.mk 3 0 arrow []) a))),(6,.row 1 (b8 a)),(13,.row 0 (b8 (aN2 (.mk 3 0 arrow []) a))),(16,.row 1 (b8 a))] rfl (kc cM ?_));refine ak 4 [(21,.row 1 (b8 b))] rfl (kc cL ?_);exact ak 3 [(24,.all)] rfl (az (aI (rtC trw)))
  obtain⟨q,L,hLg,hLn,cS⟩:=aL8 hg (by omega);by_cases hI:bb q.form q.name [73,110,116]=true
  ·obtain⟨i,Z,hi,N,cN⟩:=jI W left 7 (by decide) hok;refine⟨.mk 3 ((i:Int)-2) [] zTy [] [] [],Z,1,.int (by omega),by cases hg<;>omega,N,?_⟩;refine j5 v t l left f g _ hl hL hf J hout (fun s' l' e=>by cases e) (fun l' e=>?_);cases e;refine a8 (sk 1 rfl (kc Y ?_));refine az (aA rfl nofun (fun _=>aD (sk 1 rfl (kc cS ?_))));refine kz 6 rfl (a8 (aC (a8 (agF 4 [] rfl rfl rfl (aA rfl (fun _=>sk 1 rfl (kc cN ?_)) (fun hb=>by have:=hI.symm.trans hb;cases this))))));refine ak 3 [] rfl ?_ (hc:=by repeat (first | exact trivial | refine⟨by first | rfl | omega | (simp;omega) | (unfold Ty.name;simp;omega) | (simp;done),?_⟩));exact az (aI (rtC trw))
  by_cases hB:bb q.form q.name [66,111,111,108]=true
  ·obtain⟨i,Z,hi,N,cN⟩:=jI W left 2 (by decide) hok;have hi:i<2:=by omega
   obtain⟨s,hs⟩:∃s,([[70,97,108,115,101],[84,114,117,101]]:List Str)[i]?=some s:=aJ (by simpa using hi);have hs':=bM bD hs;have hs8:s.length≤8:=by
    have:i=0∨i=1:=by omega
    rcases this with rfl | rfl<;>(simp at hs;subst hs;decide)
   refine⟨.mk 2 0 s zTy [] [] [],Z,9,.con hs8,by cases hg<;>omega,N,?_⟩;refine j5 v t l left f g _ hl hL hf J hout (fun s' l' e=>by cases e) (fun l' e=>?_);cases e;refine a8 (sk 1 rfl (kc Y ?_));refine az (aA rfl nofun (fun _=>aD (sk 1 rfl (kc cS ?_))));refine kz 6 rfl (a8 (aC (a8 (agF 4 [] rfl rfl rfl (aA rfl (fun hb=>absurd hb hI) (fun _=>a8 (agF 4 [] rfl rfl rfl (aA rfl (fun _=>sk 2 rfl (kc cN ?_)) (fun hb=>by have:=hB.symm.trans hb;cases this)))))))));exact ak 4 [(3,.row i []),(4,.row i (bD s))] rfl (az (aI (rtC trw)))
  by_cases hX:bb q.form q.name [76]=true∧L.length=1
  ·obtain⟨x,rfl⟩:∃x,L=[x]:=Bk.1 hX.2;obtain⟨k,_,gx,_,hk⟩:=hLg;have cG:=oG [78] [x] (by simp);refine⟨.mk 6 0 [] x [.mk 2 0 [78] zTy [] [] []] [] [],W,9+1,.tc (by decide) gx (by omega),by cases hg<;>omega,hok,?_⟩;refine j5 v t l left f g _ hl hL hf J hout (fun s' l' e=>by cases e) (fun l' e=>?_);cases e;refine a8 (sk 1 rfl (kc Y ?_));refine az (aA rfl nofun (fun _=>aD (sk 1 rfl (kc cS ?_))));refine kz 6 rfl (a8 (aC (a8 (agF 4 [] rfl rfl rfl (aA rfl (fun hb=>absurd hb hI) (fun _=>a8 (agF 4 [] rfl rfl rfl (aA rfl (fun hb=>absurd hb hB) (fun _=>a8 (agF 4 [] rfl rfl rfl (aA rfl (fun _=>?_) (fun hb=>?_))))))))))))
   ·refine sk 1 rfl (kc cG ?_);exact kz 1 rfl (aI (rtC trw))
   ·exfalso;obtain⟨h3,h4⟩:=pI hX.1;simp[h3,h4] at hb
  by_cases hP:bb q.form q.name [80]=true∧L.length=2
  ·obtain⟨x,y,rfl⟩:∃x y,L=[x,y]:=by
    match L,hP.2 with
    | [x,y],_=>exact⟨x,y,rfl⟩
   obtain⟨k1,m1,gx,⟨k2,m2,gy,_,hk2⟩,hk1⟩:=hLg;have cG:=oG [80] [x,y] (by simp);obtain⟨c1,Z,w1,gc1,hw1,N,cL1⟩:=ih k1 x (by omega) gx v W left hv (by omega) hok;obtain⟨c2,l3,w2,gc2,hw2,hl3,cL2⟩:=ih k2 y (by omega) gy v Z left hv (by omega) N;have cA1:=gG (iK [80] [x,y]) c1;have cA2:=gG (.mk 4 0 [] zTy [iK [80] [x,y],c1] [] []) c2;refine⟨.mk 4 0 [] zTy [.mk 4 0 [] zTy [iK [80] [x,y],c1] [] [],c2] [] [],l3,(9+1+1)+w1+1+w2+1,.app (.app (.tc2 (by decide) gx (by omega) gy (by omega)) gc1) gc2,by omega,hl3,?_⟩;refine j5 v t l left f g _ hl hL hf J hout (fun s' l' e=>by cases e) (fun l' e=>?_);cases e;refine a8 (sk 1 rfl (kc Y ?_));refine az (aA rfl nofun (fun _=>aD (sk 1 rfl (kc cS ?_))));refine kz 6 rfl (a8 (aC (a8 (agF 4 [] rfl rfl rfl (aA rfl (fun hb=>absurd hb hI) (fun _=>a8 (agF 4 [] rfl rfl rfl (aA rfl (fun hb=>absurd hb hB) (fun _=>a8 (agF 4 [] rfl rfl rfl (aA rfl (fun hb=>?_) (fun _=>?_))))))))))))
   ·exfalso;simp at hb
   refine a8 (agF 4 [] rfl rfl rfl (aA rfl (fun _=>?_) (fun hb=>?_)))
   ·refine sk 1 rfl (kc cG ?_);refine ak 5 [(5,.row 0 []),(6,.row 0 (b8 x))] rfl (kc cL1 ?_);refine kc cA1 ?_;refine ak 5 [(12,.row 1 []),(13,.row 1 (b8 y))] rfl (kc cL2 ?_);refine kc cA2 ?_;exact kz 1 rfl (aI (rtC trw))
   ·exfalso;obtain⟨h3,h4⟩:=pI hP.1;simp[h3,h4] at hb
  ·refine⟨.mk 11 0 [] t [] [] [],W,1,.fail hg hn,by cases hg<;>omega,hok,?_⟩;refine j5 v t l left f g _ hl hL hf J hout (fun s' l' e=>by cases e) (fun l' e=>?_);cases e;refine a8 (sk 1 rfl (kc Y ?_));refine az (aA rfl nofun (fun _=>aD (sk 1 rfl (kc cS ?_))));refine kz 6 rfl (a8 (aC (a8 (agF 4 [] rfl rfl rfl (aA rfl (fun hb=>absurd hb hI) (fun _=>a8 (agF 4 [] rfl rfl rfl (aA rfl (fun hb=>absurd hb hB) (fun _=>a8 (agF 4 [] rfl rfl rfl (aA rfl (fun hb=>?_) (fun _=>?_))))))))))))
   ·exfalso;exact hX (aGh hb)
   refine a8 (agF 4 [] rfl rfl rfl (aA rfl (fun hb=>?_) (fun _=>?_)))
   ·exfalso;exact hP (aGh hb)
   exact aD (sg rfl (aI (rtC trw)))
theorem aF3:∀(N n:Nat) (t:Ty),n≤N→GT n t→n≤100→yA n t
 | 0,n,t,h,hg,_=>by cases hg<;>omega
 | N+1,n,t,h,hg,hn=>aLh n t hg hn fun k u hk hu=>aF3 N k u (by omega) hu (by omega)
set_option maxHeartbeats 4000000
def PP (u:Str) (a b:Str):Prop:=a∈nm6∧(b=a∨b=a++u)
def UO (u:Str):Prop:=∀s∈nm6,¬s++u∈nm6
section
variable {u:Str}
theorem PP.same {a x:Str}(hu:UO u) (h:PP u a x) (hx:x∈nm6):a=x:=by
 obtain⟨h1,h2 | h2⟩:=h
 ·exact h2.symm
 ·rw[h2] at hx;exact absurd hx (hu a h1)
theorem PP.of {a x:Str}(hu:UO u) (h:PP u a (x++u)) (hx:x∈nm6):a=x:=by
 obtain⟨h1,h2 | h2⟩:=h
 ·rw[←h2] at h1;exact absurd h1 (hu x hx)
 ·exact(List.append_cancel_right h2).symm
inductive RV (u:Str):List (Str×Str)→Core→Core→Prop
 | var {ρ:List (Str×Str)} {n n':Int} {s s':Str} {t t':Ty} (h:AV ρ s s'):RV u ρ (.mk 1 n s t [] [] []) (.mk 1 n' s' t' [] [] [])
 | node {ρ:List (Str×Str)} {f n:Int} {s s':Str} {t t':Ty} {ks ks':List Core} {bs bs':List Bind} {al al':List Alt} (h1:¬f=1) (h5:f=5→PP u s s'∧bs=[]) (hs:f=5∨f=7∨s=s')
   (lk:ks.length=ks'.length) (lb:bs.map Bind.name=bs'.map Bind.name) (la:al.length=al'.length) (hbn:∀b∈bs,b.name∈nm6)
   (hk:∀(i:Nat) (x y:Core),ks[i]?=some x→ks'[i]?=some y→RV u ((gvN f s bs).zip (gvN f s' bs')++ρ) x y)
   (hb:∀(i:Nat) (x y:Bind),bs[i]?=some x→bs'[i]?=some y→RV u ((gvN f s bs).zip (gvN f s' bs')++ρ) x.body y.body)
   (ha:∀(i:Nat) (x y:Alt),al[i]?=some x→al'[i]?=some y→AH x y∧x.vars=y.vars∧∀v∈x.vars,v∈nm6)
   (ha':∀(i:Nat) (x y:Alt),al[i]?=some x→al'[i]?=some y→RV u (x.vars.zip y.vars++ρ) x.body y.body):RV u ρ (.mk f n s t ks bs al) (.mk f n s' t' ks' bs' al')
theorem lE {bs bs':List Bind}(h:bs.map Bind.name=bs'.map Bind.name):bs.length=bs'.length:=by
 have:=congrArg List.length h;rwa [θ,θ] at this
theorem RV.ra {H:Core→Core→Prop}{ρ:List (Str×Str)}{c c':Core}(h:RV u ρ c c'):RA H ρ c c':=by
 induction h with
 | var h=>exact .var h
 | node h1 h5 hs lk lb la hbn _ _ ha _ q I J=>exact .node h1 hs lk (lE lb) la q I (fun i x y hx hy=>(ha i x y hx hy).1) J
theorem AV.pair {ρ:List (Str×Str)}{x y:Str}(h:AV ρ x y):(x,y)∈ρ:=by
 induction h with
 | here=>exact ζ
 | there _ _ _ q=>exact κ _ q
theorem AV.out:∀{ρ τ:List (Str×Str)}{x y:Str},¬y∈ρ.map (·.2)→AV (ρ++τ) x y→AV τ x y
 | [],_,_,_,_,h=>h
 | (a,b)::ρ,τ,x,y,hy,h=>by
  cases h with
  | here=>exact absurd ζ hy
  | there h1 h2 h=>exact AV.out (fun e=>hy (κ _ e)) h
theorem AV.inv {ρ:List (Str×Str)}{a b x y:Str}(h:AV ((a,b)::ρ) x y):(x=a∧y=b)∨(¬x=a∧¬y=b∧AV ρ x y):=by
 cases h with
 | here=>exact .inl ⟨rfl,rfl⟩
 | there h1 h2 h=>exact .inr ⟨h1,h2,h⟩
theorem qF:∀l:List Str,(∀x∈l,x∈nm6)→∀p∈l.zip l,PP u p.1 p.2
 | [],_,p,h=>by cases h
 | a::l,hl,p,h=>by
  rcases Ao.1 h with rfl | h
  ·exact⟨hl a ζ,.inl rfl⟩
  ·exact qF l (fun x hx=>hl x (κ _ hx)) p h
theorem aX5 {f:Int}{s s':Str}{bs bs':List Bind}(h5:f=5→PP u s s'∧bs=[]) (lb:bs.map Bind.name=bs'.map Bind.name) (hbn:∀b∈bs,b.name∈nm6):∀p∈(gvN f s bs).zip (gvN f s' bs'),PP u p.1 p.2:=by
 intro p hp;unfold gvN at hp;rw[←lb] at hp;by_cases hf:f=5
 ·obtain⟨g1,rfl⟩:=h5 hf;rw[ξ hf,ξ hf] at hp;obtain rfl:=Aa.1 hp;exact g1
 ·rw[φ hf,φ hf] at hp;exact qF _ (fun x hx=>by obtain⟨b,hb,rfl⟩:=Ad.1 hx;exact hbn b hb) p hp
theorem aBa {N τ:List (Str×Str)}(h1:∀p∈N,PP u p.1 p.2) (h2:∀p∈τ,PP u p.1 p.2):∀p∈N++τ,PP u p.1 p.2:=fun p hp=>(χ.1 hp).elim (h1 p) (h2 p)
theorem aR4 {l:List Str}{s:Str}{b:Core}{n:Int}{x:Str}{t:Ty}(h:¬x=s∨s∈l):gS l s b (.mk 1 n x t [] [] [])=.mk 1 n x t [] [] []:=by
 unfold gS;split
 ·rfl
 ·rename_i hl;rw[nS,ξ rfl,φ (h.resolve_right hl)]
theorem RV.ren (hu:UO u) {x:Str}(hx:x∈nm6) {Z:List (Str×Str)}{c c':Core}(h:RV u Z c c'):∀{τ ρ:List (Str×Str)},Z=τ++(x,x)::ρ→(∀p∈τ,PP u p.1 p.2)→¬x++u∈ρ.map (·.2)→
  RV u (τ++(x,x++u)::ρ) c (gS (τ.map (·.2)) x (vC (x++u)) c'):=by
 induction h with
 | @var _ n n' a b t t' h=>
  intro τ ρ he O W;subst he;rcases h.split with g | ⟨g1,g2,⟨rfl,rfl⟩ | ⟨g3,g4,g5⟩⟩
  ·obtain⟨_,m2⟩:=g.mem;rw[aR4]
   ·exact .var g.app
   ·by_cases e:b=x
    ·exact .inr (e▸m2)
    ·exact .inl e
  ·unfold gS;rw[φ g2,nS,ξ rfl,ξ rfl];refine .var (AV.mid g1 (fun e=>?_) .here);obtain⟨p,hp,e⟩:=Ad.1 e;have Y:=O p hp;rw[e] at Y;exact g1 (Ad.2 ⟨p,hp,Y.of hu hx⟩)
  ·rw[aR4 (.inl g4)];exact .var (AV.mid g1 g2 (.there g3 (fun e=>W (e▸g5.mem.2)) g5))
 | @node _ f n s s' t t' ks ks' bs bs' al al' h1 h5 hs lk lb la hbn _ _ ha _ ik ib ia=>
  intro τ ρ he O W;subst he;have hz:=aFp (f:=f) (s:=s) (s':=s') (lE lb);have hN:=aX5 (f:=f) (s:=s) (s':=s') h5 lb hbn;have en:(((gvN f s bs).zip (gvN f s' bs')++τ).map (·.2))=gvN f s' bs'++τ.map (·.2):=by rw[Ar,iW hz]
  have assoc:∀N:List (Str×Str),N++(τ++(x,x)::ρ)=(N++τ)++(x,x)::ρ:=fun N=>(At _ _ _).symm
  rw[aUk h1];refine .node h1 h5 hs (by rw[θ];exact lk) (by rw[A1];exact lb) (by rw[θ];exact la) hbn (fun i p q hp J=>?_) (fun i p q hp J=>?_) (fun i p q hp J=>?_) (fun i p q hp J=>?_)
  ·obtain⟨q,I,rfl⟩:=cV J;have:=ik i p q hp I (assoc _) (aBa hN O) W;rw[en,At] at this;rw[aHn];exact this
  ·obtain⟨q,I,rfl⟩:=cV J;have:=ib i p q hp I (assoc _) (aBa hN O) W;rw[en,At] at this;rw[aHn];exact this
  ·obtain⟨q,I,rfl⟩:=cV J;exact ha i p q hp I
  ·obtain⟨q,I,rfl⟩:=cV J;obtain⟨g1,g2,g3⟩:=ha i p q hp I;have:=ia i p q hp I (assoc _) (aBa (by rw[←g2];exact qF _ g3) O) W;rw[Ar,iW g1.2.2.2.1,At] at this;exact this
theorem RV.free {ρ:List (Str×Str)}{c c':Core}(h:RV u ρ c c'):∀x∈pfR c',∃a,AV ρ a x:=by
 induction h with
 | var h=>intro x hx;rw[pfR,ξ rfl,Aa] at hx;rw[hx];exact⟨_,h⟩
 | @node ρ f n x y t t' ks ks' bs bs' al al' h1 h5 hs lk lb la hbn _ _ ha _ Y Z ia=>
  have O:=aFp (f:=f) (s:=x) (s':=y) (lE lb);intro z W;rcases(gM h1).1 W with⟨q,I,J,N⟩ | ⟨q,I,J,N⟩
  ·rcases χ.1 I with I | I
   ·obtain⟨i,hi⟩:=List.mem_iff_getElem?.1 I;obtain⟨p,hp⟩:=eZ lk.symm hi;obtain⟨a,g⟩:=Y i p q hp hi z J;exact⟨a,g.out (by rw[iW O];exact N)⟩
   ·obtain⟨q,kq,rfl⟩:=Ad.1 I;obtain⟨i,hi⟩:=List.mem_iff_getElem?.1 kq;obtain⟨p,hp⟩:=eZ (lE lb).symm hi;obtain⟨a,g⟩:=Z i p q hp hi z J;exact⟨a,g.out (by rw[iW O];exact N)⟩
  ·obtain⟨i,hi⟩:=List.mem_iff_getElem?.1 I;obtain⟨p,hp⟩:=eZ la.symm hi;obtain⟨a,g⟩:=ia i p q hp hi z J;exact⟨a,g.out (by rw[iW (ha i p q hp hi).1.2.2.2.1];exact N)⟩
theorem RV.cf (hu:UO u) {x:Str}(hx:x∈nm6) {ρ:List (Str×Str)}{c c':Core}(h:RV u ρ c c'):(∀p∈ρ,PP u p.1 p.2)→CF x (vC (x++u)) c':=by
 have W:¬x=x++u:=fun e=>by
  have:=hu x hx;rw[←e] at this;exact this hx
 induction h with
 | var h=>exact fun _=>.mk (.inr fun p hp=>by cases hp) (fun y hy=>by cases hy) (fun y hy=>by cases hy) (fun y hy=>by cases hy) (fun y hy=>by cases hy)
 | @node ρ f n s s' t t' ks ks' bs bs' al al' h1 h5 hs lk lb la hbn hk hb ha _ ik ib ia=>
  intro Y;have hN:=aX5 (f:=f) (s:=s) (s':=s') h5 lb hbn;have J:=aBa hN Y;refine .mk ?_ (fun y hy=>?_) (fun y hy=>?_) (fun a hy=>?_) (fun a hy=>?_)
  ·rw[aO4];by_cases hf:f=5
   ·obtain⟨g1,rfl⟩:=h5 hf;have Z:bs'=[]:=List.map_eq_nil_iff.1 (lb.symm.trans rfl);subst Z;have e:∀s,gvN f s []=[s]:=fun s=>by unfold gvN;rw[ξ hf];rfl
    rw[e];by_cases N:s'=x++u
    ·right;intro p hp aa;have hp:p∈ks':=by simpa using hp
     obtain⟨i,hi⟩:=List.mem_iff_getElem?.1 hp;obtain⟨q,hq⟩:=eZ lk.symm hi;obtain⟨a,O⟩:=(hk i q p hq hi).free x aa;have ha:a=x:=(J _ O.pair).same hu hx;have ab:s=x:=by rw[N] at g1;exact g1.of hu hx
     rw[ha,e,e,ab,N] at O;rcases AV.inv O with⟨_,e⟩ | ⟨e,_⟩
     ·exact W e
     ·exact e rfl
    ·left;intro y hy I;rw[Aa.1 hy,Aa] at I;exact N I
   ·left;intro y hy I;rw[Aa.1 I] at hy;unfold gvN at hy;rw[φ hf,←lb] at hy;obtain⟨b,hb,e⟩:=Ad.1 hy;have:=hbn b hb;rw[e] at this;exact hu x hx this
  ·obtain⟨i,hi⟩:=List.mem_iff_getElem?.1 hy;obtain⟨p,hp⟩:=eZ lk.symm hi;exact ik i p y hp hi J
  ·obtain⟨i,hi⟩:=List.mem_iff_getElem?.1 hy;obtain⟨p,hp⟩:=eZ (lE lb).symm hi;exact ib i p y hp hi J
  ·left;obtain⟨i,hi⟩:=List.mem_iff_getElem?.1 hy;obtain⟨p,hp⟩:=eZ la.symm hi;obtain⟨_,g2,g3⟩:=ha i p a hp hi;intro y hy I;rw[aO4,Aa] at I;rw[←g2,I] at hy;exact hu x hx (g3 _ hy)
  ·obtain⟨i,hi⟩:=List.mem_iff_getElem?.1 hy;obtain⟨p,hp⟩:=eZ la.symm hi;obtain⟨_,g2,g3⟩:=ha i p a hp hi;exact ia i p a hp hi (aBa (by rw[←g2];exact qF _ g3) Y)
end
def iG (k:Nat):Str:=39::Lib.decDigits k
theorem mU (k:Nat) (hk:k≤100) {f n:Int}{s:Str}{t:Ty}{ks rs:List Core}{bs:List Bind}{al:List Alt}{res:Core}(hs:s.length≤1000) (hl:ks.length≤1000) (Z:rs.length=ks.length)
  (hc:∀(i:Nat) (x r:Core),ks[i]?=some x→rs[i]?=some r→aU Tryz.prog 15 [.pa (aB x),I .i64 (k:Int)] [] (.pa (aB r)) [])
  (h5:f=5→∃r d,rs=[r]∧aU Tryz.prog 33 [.pa (aB r),Go.AM.T s,.pa (aB (vC (s++iG k)))] [] (.pa (aB d)) []∧res=.mk 5 n (s++iG k) t [d] bs al)
  (h7:f=7→∃r d,rs=[r]∧aU Tryz.prog 34 [.pa (aB r),Go.AM.T s,tyV (vT (s++iG k))] [] (.pa (aB d)) []∧res=.mk 7 n (s++iG k) t [d] bs al)
  (hn:¬f=5→¬f=7→res=.mk f n s t rs bs al):aU Tryz.prog 15 [.pa (aB (.mk f n s t ks bs al)),I .i64 (k:Int)] [] (.pa (aB res)) []:=by
 have J:(aM ks).length=ks.length:=by rw[aR,θ]
 have hrl:(aM rs).length=rs.length:=by rw[aR,θ]
 have hd:=aSl k (by omega);have hdl:=nI k (by omega);have N:s++[39]++Lib.decDigits k=s++iG k:=by unfold iG;rw[At];rfl
 have hM:600000000000≤maxLen:=by decide
 have O:s.length+1≤maxLen:=by omega
 have W:(s++[39]).length+(Lib.decDigits k).length≤maxLen:=by rw[ω];show s.length+1+_≤_;omega
 refine bO (n:=73) tok Tryz.func15 rfl rfl rfl ?_;refine sg rfl (sg rfl (AWp.sub (Sub.own (t:=5) (id:=720) 37 10 rfl rfl) ?_));refine a8 (sg rfl (aC (aL (fun i:Nat=>mk [(1,I .i64 (k:Int)),(2,.one (.vp 2 0)),(4,.one (.vp 4 0)),(5,.one (.hs 720 0 i i)),(6,I .i64 i)] [(2,.var 37 (bA (.mk f n s t ks bs al))),(4,.var 37 bL),(720,.arr 37 10 ((rs.take i).map aB) 0)]) (fun i=>i≤ks.length) (fun i=>ks.length-i) 0 (Aj _) sl ?_)));intro i hi;refine a8 (sg rfl (aA rfl (fun hb=>?_) (fun hb=>?_)))
 ·have Y:i<ks.length:=ltD hb J;obtain⟨x,hx⟩:=aJ Y;obtain⟨r,hr⟩:=aJ (l:=rs) (k:=i) (by omega);have hx':(aM ks)[i]?=some (aB x):=by rw[aR];exact bM aB hx
  have hcx:=hc i x r hx hr;have hrows:=eC aB hr;refine aD (a8 (aC (aE mixed (ak 7 [(4,.row i (aB x))] rfl (kc hcx ?_)))));exact ak 3 [(8,.all)] rfl (az (ag [] rfl ⟨i+1,Y,by dsimp only;omega,sl⟩))
 have hge:=geD hb J hi;subst hge;have hKs:(rs.take ks.length).map aB=aM rs:=by rw[←Z,An,aR]
 rw[hKs];have hl2:ks.length=(aM rs).length:=by omega
 refine aO (AWp.sub (Sub.freeze (id:=720) rfl) (AWp.sub (cv 5 (aM rs)) ?_));refine sg rfl (a8 (sg rfl (aA rfl (fun hb=>?_) (fun hb=>?_))))
 ·have hf:f=5:=ψ hb;subst hf;obtain⟨r,d,rfl,q,rfl⟩:=h5 rfl;rw[←N] at q ⊢;refine sk 4 rfl (kc hd ?_) (hc:=⟨O,trivial⟩);refine kz 2 rfl (skh 8 [(2,.row 0 (aB r))] rfl (kc q ?_)) (hc:=⟨W,trivial⟩);exact ak 3 [(9,.all)] rfl (az (ag [] rfl (a8 (sg rfl (aA rfl nofun (fun _=>aD (sg rfl (aI (rtC trw)))))))))
 have h5':¬f=5:=δ hb;refine aD (a8 (sg rfl (aA rfl (fun hb=>?_) (fun hb=>?_))))
 ·have hf:f=7:=ψ hb;subst hf;obtain⟨r,d,rfl,q,rfl⟩:=h7 rfl;rw[←N] at q ⊢;refine sk 4 rfl (kc hd ?_) (hc:=⟨O,trivial⟩);refine kz 2 rfl (skh 8 [(2,.row 0 (aB r))] rfl (kc q ?_)) (hc:=⟨W,trivial⟩);exact ak 3 [(9,.all)] rfl (az (ag [] rfl (sg rfl (aI (rtC trw)))))
 have h7':¬f=7:=δ hb;rw[hn h5' h7'];exact aD (sg rfl (aI (rtC trw)))
structure TM (V:List Str) (k:Nat) (t:Ty):Prop where
 wf:wfS t=true
 w:∀E ρ,(∀x,ρ x≤E)→tW fD t ρ≤k+E
 v:∀x∈tfR t,x∈V
structure MW (V:List Str) (c:Core):Prop where
 q:cE (QL 403) c
 w:∀E ρ,(∀x,ρ x≤E)→cw fD E c ρ≤3+E
 v:∀x∈tyR c,x∈V
section
variable {V:List Str}{k:Nat}
theorem TM.var {s:Str}(h:s∈V):TM V k (.mk 2 0 s []):=⟨rfl,fun E ρ q=>by rw[tW,ξ rfl];have:=q s;omega,fun x hx=>by
 have:tfR (.mk 2 0 s [])=[s]:=by rw[tfR,ξ rfl]
 rw[this] at hx;rw[Aa.1 hx];exact h⟩
theorem TM.con {s:Str}:TM V k (.mk 3 0 s []):=⟨rfl,fun E ρ q=>by
 have:tW fD (.mk 3 0 s []) ρ=0:=by rw[tW,φ (by decide),φ (by decide),tWs];rfl
 omega,fun x hx=>by
 obtain⟨u,hu,_⟩:=yM (by decide) hx
 cases hu⟩
theorem TM.z:TM V k zTy:=⟨rfl,fun E ρ q=>by
 have:tW fD zTy ρ=0:=by unfold zTy;rw[tW,φ (by decide),φ (by decide),tWs];rfl
 omega,fun x hx=>by
 have:tfR zTy=[]:=rfl
 rw[this] at hx;cases hx⟩
theorem TM.app {a b:Ty}(ha:TM V k a) (hb:TM V k b):TM V k (.mk 4 0 [] [a,b]):=⟨by rw[wfS,aGu,aGu,aGu,ha.wf,hb.wf];rfl,fun E ρ q=>by
 have h1:=ha.w E ρ q;have h2:=hb.w E ρ q;have:tW fD (.mk 4 0 [] [a,b]) ρ=max (tW fD a ρ) (max (tW fD b ρ) 0):=by rw[tW,φ (by decide),φ (by decide),tWs,tWs,tWs];rfl
 omega,fun x hx=>by
 obtain⟨u,hu,hy,_⟩:=yM (by decide) hx;have:u=a∨u=b:=by simpa using hu
 rcases this with rfl | rfl
 ·exact ha.v x hy
 ·exact hb.v x hy⟩
theorem pL {f n:Int}{s:Str}{t:Ty}{ks:List Core}{bs:List Bind}{al:List Alt}(J:QL 403 f s t ks.length (bs.map bhd) (al.map ahd)) (ht:TM V 3 t) (hk:∀x∈ks,MW V x) (hb:∀b∈bs,TM V 3 b.ty∧MW V b.body) (ha:∀a∈al,MW V a.body):MW V (.mk f n s t ks bs al):=by
 refine⟨aT.2 ⟨J,fun x hx=>(hk x hx).q,fun x hx=>(hb x hx).2.q,fun x hx=>(ha x hx).q⟩,fun E ρ I=>fG.2 ⟨by rw[dK];omega,ht.w E ρ I,fun x hx=>(hk x hx).w E _ fun y=>?_,fun x hx=>⟨(hb x hx).1.w E ρ I,(hb x hx).2.w E ρ I⟩,fun x hx=>(ha x hx).w E ρ I⟩,fun x hx=>?_⟩
 ·split
  ·unfold fP;split
   ·exact le_refl _
   ·exact I y
  ·exact I y
 ·rcases bK.1 hx with h | ⟨y,hy,h,_⟩ | ⟨y,hy,h | h⟩ | ⟨y,hy,h⟩
  ·exact ht.v x h
  ·exact(hk y hy).v x h
  ·exact(hb y hy).1.v x h
  ·exact(hb y hy).2.v x h
  ·exact(ha y hy).v x h
theorem aGv {s:Str}(h:s.length≤30):w30 s=30:=by unfold w30;omega
theorem eL {f:Int}{s:Str}{t:Ty}{nk:Nat}(hf:okF f nk 0 0=true) (h7:f=7→t=zTy∧¬s=[]) (ht:wfS t=true) (hs:s.length≤30) (h5:f=5→nh s):QL 403 f s t nk [] []:=
 ⟨hf,h7,ht,by simp,by unfold lw;rw[aGv hs];decide,h5,by simp,by simp⟩
theorem ST.of {c:Core}(h:MW V c) (ht:tlC c≤6000) (hs:m30 c≤3500000) (n:Nat):ST n V c:=
 ⟨h.q,fun E _=>h.w E r0 fun _=>Aj _,h.v,ht,hs⟩
end
theorem aCg:∀s∈aO3,s.length≤30:=by decide
theorem vL {p q:Prop} [Decidable p] [Decidable q] (h:(bif decide p then decide q else false)=true):p∧q:=by
 by_cases hp:p
 ·rw[Ak hp] at h;exact⟨hp,ψ h⟩
 ·rw[Al hp] at h;cases h
theorem RowsLe.snoc {r r':List C}(h:CsLe r r'):∀l:List (List C),RowsLe (l++[r]) (l++[r'])
 | []=>.cons h .nil
 | x::l=>.cons (CsLe.refl x) (RowsLe.snoc h l)
def aFo {α:Type}(p:α→Bool):List α→Nat→Int
 | [],_=> -1
 | x::l,i=>if p x=true then(i:Int) else aFo p l (i+1)
theorem sG {α:Type}(p:α→Bool):∀(l:List α) (i:Nat),(∃(k:Nat) (x:α),aFo p l i=((i+k:Nat):Int)∧l[k]?=some x∧l.find? p=some x)∨(aFo p l i= -1∧l.find? p=none)
 | [],i=>.inr ⟨rfl,rfl⟩
 | x::l,i=>by
  rw[aFo,List.find?_cons];cases h:p x with
  | true=>rw[ξ rfl];exact .inl ⟨0,x,rfl,rfl,rfl⟩
  | false=>
   rw[φ Aw];rcases sG p l (i+1) with⟨k,y,h1,h2,h3⟩ | h
   ·exact .inl ⟨k+1,y,by rw[h1];congr 1;omega,h2,h3⟩
   ·exact .inr h
theorem aVc (b:Bind) (f n:Int) (s:Str) (t:Ty) (ks:List Core) (bs:List Bind) (al:List Alt):aU Tryz.prog 105 ([.pa (bB b)]++[R.vp 3 0].map V.one) [(3,.var 37 (bA (.mk f n s t ks bs al)))] (B (decide (b.name=s))) [(3,.var 37 (bA (.mk f n s t ks bs al)))]:=by
 refine bO (n:=9) tok Tryz.func105 rfl rfl rfl ?_;exact sgh [(0,.id 12)] rfl (sg rfl (aI rtT))
theorem aMp (l:List Bind) (hl:l.length≤1000000000) (f n:Int) (s:Str) (t:Ty) (ks:List Core) (bs:List Bind) (al:List Alt):aU Tryz.prog 104 [.one (.c (.sl 15 (l.map bB))),.one (.clo 105 [.vp 3 0])] [(3,.var 37 (bA (.mk f n s t ks bs al)))] (I .i64 (aFo (fun b:Bind=>decide (b.name=s)) l 0)) [(3,.var 37 (bA (.mk f n s t ks bs al)))]:=by
 have J:(l.map bB).length=l.length:=θ _;refine bO (n:=19) tok Tryz.func104 rfl rfl rfl ?_;refine sg rfl (a8 (sg rfl (aC (aL (fun i:Nat=>mk [(0,.one (.c (.sl 15 (l.map bB)))),(1,.one (.clo 105 [.vp 3 0])),(7,I .i64 ((l.map bB).length:Int)),(8,I .i64 i)] [(3,.var 37 (bA (.mk f n s t ks bs al)))]) (fun i=>i≤l.length∧aFo (fun b:Bind=>decide (b.name=s)) l 0=aFo (fun b:Bind=>decide (b.name=s)) (l.drop i) i) (fun i=>l.length-i) 0 ⟨Aj _,rfl⟩ sl ?_))));intro i ⟨hi,hid⟩;refine sg rfl (a8 (aA rfl (fun hb=>?_) (fun hb=>?_)))
 ·have q:=ltD hb J;obtain⟨b,N⟩:=aJ q;have Y:=bM bB N;have hc:=aVc b f n s t ks bs al;have O:l.drop i=b::l.drop (i+1):=by rw[Bz q,(Ab.1 N).2]
  rw[O,aFo] at hid;refine aD (a8 (aC (sg rfl (skh 5 [(3,.row i (bB b))] rfl (kv (args:=[.pa (bB b)]) hc ?_)))));refine az (aA rfl (fun hb=>?_) (fun hb=>?_))
  ·rw[ξ hb] at hid;rw[hid];exact sg rfl (aI rtT)
  ·rw[φ (by rw[show decide (b.name=s)=false from hb];exact Aw)] at hid;exact aD (ag [] rfl ⟨i+1,⟨q,hid⟩,by dsimp only;omega,sl⟩)
 have W:=geD hb J hi;subst W;rw[drop_length,aFo] at hid;rw[hid];exact aO (sg rfl (aI rtT))
theorem aUw (m:Mod) (hm:m.binds.length≤1000000000) (f n:Int) (s:Str) (t:Ty) (ks:List Core) (bs:List Bind) (al:List Alt):
  aU Tryz.prog 68 [.pa (mQ m),.pa (aB (.mk f n s t ks bs al))] [] (fK (match m.binds.find? fun b=>decide (b.name=s) with | some b=>(b.body,0) | none=>(zC,51))) []:=by
 have q:=aMp m.binds hm f n s t ks bs al;rcases sG (fun b:Bind=>decide (b.name=s)) m.binds 0 with⟨k,b,h1,h2,h3⟩ | ⟨h1,h3⟩
 ·rw[h1,Be] at q;rw[h3];have I:=bM bB h2;have J:=(Ab.1 h2).1
  refine bO (n:=22) tok Tryz.func68 rfl rfl rfl ?_;refine sg rfl (sk 4 rfl (kc q ?_));exact kz 1 rfl (a8 (sg rfl (aA rfl (fun hb=>absurd (ψ hb) (by omega)) (fun _=>aD (sgh [(4,.row k (bB b))] rfl (aI (iT trw)))))))
 ·rw[h1] at q;rw[h3];refine bO (n:=22) tok Tryz.func68 rfl rfl rfl ?_;refine sg rfl (sk 4 rfl (kc q ?_));exact kz 1 rfl (a8 (sg rfl (aA rfl (fun _=>sg rfl (aI (iT trw))) (fun hb=>absurd hb (by decide)))))
section
variable {n:Nat}{U:List Str}
theorem aZa (I:cQ 540000000000) (hn:n≤99) (J:U.length≤480000) (m:Mod) (i:Int) (s:Str) (t:Ty) (body b:Core) (i':Int) (s':Str) (t':Ty) (h:ST n U (.mk 4 i s t [.mk 5 i' s' t' [body] [] [],b] [] [])):
  aU Tryz.prog 69 [.pa (mQ m),.pa (aB (.mk 4 i s t [.mk 5 i' s' t' [body] [] [],b] [] []))] [] (fK (cB (m30 body) body s' b,0)) []:=by
 have ka:=h.kid (by decide) (x:=.mk 5 i' s' t' [body] [] []) ζ;have kb:=h.kid (by decide) (x:=b) (κ _ ζ);have q:=ka.kid (by decide) (x:=body) ζ;have N:=(aS0 I hn J q kb (nm:=s') (s:=m30 body+m30 b) (le_refl _)).1.imp;refine bO (n:=54) tok Tryz.func69 rfl rfl rfl ?_;refine sg rfl (sgh [(2,.row 0 (aB (.mk 5 i' s' t' [body] [] [])))] rfl (a8 (aC (a8 (agF 4 [] rfl rfl rfl (aA rfl (fun _=>skh 10 [(2,.row 0 (aB body)),(8,.row 1 (aB b))] rfl (kc N ?_)) (fun hb=>absurd hb (by simp[Core.form]))))))));exact kz 2 rfl (aI (iT trw))
theorem aY9 (q:cQ 540000000000) (hn:n≤99) (I:U.length≤480000) (m:Mod) (i:Int) (s:Str) (t:Ty) (body:Core) (i':Int) (s':Str) (t':Ty) (h:ST n U (.mk 6 i s t [.mk 7 i' s' t' [body] [] []] [] [])):
  aU Tryz.prog 69 [.pa (mQ m),.pa (aB (.mk 6 i s t [.mk 7 i' s' t' [body] [] []] [] []))] [] (fK (sTR (m30 body) body s' t,0)) []:=by
 have J:=(aNo q hn I h (w:=0)).1.imp;refine bO (n:=54) tok Tryz.func69 rfl rfl rfl ?_;refine sg rfl (sgh [(2,.row 0 (aB (.mk 7 i' s' t' [body] [] [])))] rfl (a8 (aC (a8 (agF 4 [] rfl rfl rfl (aA rfl (fun hb=>absurd hb (by simp[Core.form])) (fun _=>a8 (agF 4 [] rfl rfl rfl (aA rfl (fun _=>skh 8 [(2,.row 0 (aB body))] rfl (kc J ?_)) (fun hb=>absurd hb (by simp[Core.form])))))))))));exact kz 2 rfl (aI (iT trw))
theorem aY8 (m:Mod) (f i:Int) (s:Str) (t:Ty) (a:Core) (ks:List Core) (bs:List Bind) (al:List Alt) (p:CE) (h1:¬(f=4∧a.form=5)) (h2:¬(f=6∧a.form=7))
  (hk:aU Tryz.prog 107 [.pa (mQ m),.pa (aB (.mk f i s t (a::ks) bs al)),I .i64 (0:Nat)] [] (fK p) []):
  aU Tryz.prog 69 [.pa (mQ m),.pa (aB (.mk f i s t (a::ks) bs al))] [] (fK p) []:=by
 refine bO (n:=54) tok Tryz.func69 rfl rfl rfl ?_;refine sg rfl (sgh [(2,.row 0 (aB a))] rfl (a8 (AWp.cut (mk [(2,.one (.vp 2 0)),(3,.one (.vp 3 0)),(4,.one (.vp 4 0))] [(2,.var 82 ((mQ m).map .c)),(3,.var 37 (bA (.mk f i s t (a::ks) bs al))),(4,.var 37 bL)]) ?_ ?_)))
 ·exact aC (a8 (agF 4 [] rfl rfl rfl (aA rfl (fun hb=>(h1 (vL hb)).elim) (fun _=>a8 (agF 4 [] rfl rfl rfl (aA rfl (fun hb=>(h2 (vL hb)).elim) (fun _=>aD sl)))))))
 refine sk 2 rfl (kc hk ?_);exact kz 4 rfl (aI (iT trw))
theorem a01 (hI:cQ 540000000000) (hn:n≤99) (hU:U.length≤480000) (m:Mod) (i:Int) (s:Str) (t:Ty) (a:Core) (bs:List Bind) (h:ST n U (.mk 8 i s t [a] bs [])):
  aU Tryz.prog 70 [.pa (mQ m),.pa (aB (.mk 8 i s t [a] bs []))] [] (fK (zB a (bs.map Bind.name) (bs.map (n0 bs)),0)) []:=by
 have h12:=(vP h.q).2.2
 have Y:=(aP9 hI (by decide) (by decide) a (bs.map Bind.name) (bs.map (n0 bs)) (by rw[θ,θ]) (by rw[θ];omega) (aSz hn hU h).1).1
 have O:(aS bs).length=bs.length:=by rw[bI,θ]
 refine bO (n:=39) tok Tryz.func70 rfl rfl rfl ?_;refine sg rfl (sg rfl (sg rfl (AWp.sub (Sub.own (t:=6) (id:=720) 9 1 rfl rfl) ?_)));refine AWp.sub (Sub.own (t:=7) (id:=721) 37 10 rfl rfl) ?_;refine a8 (sg rfl (aC (aL (fun k:Nat=>mk [(3,.one (.vp 3 0)),(4,.one (.vp 4 0)),(6,.one (.hs 720 0 ((bs.take k).map Bind.name).length ((bs.take k).map Bind.name).length)),(7,.one (.hs 721 0 ((bs.take k).map (n0 bs)).length ((bs.take k).map (n0 bs)).length)),(11,.one (.c (.sl 15 (aS bs)))),(12,I .i64 ((aS bs).length:Int)),(13,I .i64 k)] [(3,.var 37 (bA (.mk 8 i s t [a] bs []))),(4,.var 37 bL),(720,.arr 9 1 (((bs.take k).map Bind.name).map bD) 0),(721,.arr 37 10 (((bs.take k).map (n0 bs)).map aB) 0)]) (fun k=>k≤bs.length) (fun k=>bs.length-k) 0 (Aj _) sl ?_)));intro k hk;refine sg rfl (a8 (aA rfl (fun hb=>?_) (fun hb=>?_)))
 ·have W:=ltD hb O;obtain⟨b,J⟩:=aJ W;have hbi':=bT J;have e1:(bs.take (k+1)).map Bind.name=(bs.take k).map Bind.name++[b.name]:=by rw[Bh,J,Ar];rfl
  have e2:(bs.take (k+1)).map (n0 bs)=(bs.take k).map (n0 bs)++[n0 bs b]:=by rw[Bh,J,Ar];rfl
  have hl1:((bs.take k).map Bind.name).length≤12:=by rw[θ,Au];omega
  have hl2:((bs.take k).map (n0 bs)).length≤12:=by rw[θ,Au];omega
  have hx1:(((bs.take k).map Bind.name).map bD).length=((bs.take k).map Bind.name).length:=θ _;have hx2:(((bs.take k).map (n0 bs)).map aB).length=((bs.take k).map (n0 bs)).length:=θ _;generalize (bs.take k).map Bind.name=N at *;generalize (bs.take k).map (n0 bs)=L at *;refine aD (a8 (aC (sgh [(0,.row k (bB b))] rfl (sgh [(3,.all)] rfl (ag [(5,.all),(7,.all)] rfl (AWp.sub (Sub.arrWeak (x:=721) rfl (RowsLe.snoc (r':=aB (n0 bs b)) ?_ (L.map aB))) ?_))))))
  ·repeat (first | exact .nil | apply Go.AM.CsLe.cons .refl | apply Go.AM.CsLe.cons .nl)
  refine ag [] rfl ⟨k+1,W,by dsimp only;omega,?_⟩;dsimp only;rw[e1,e2];exact sl
 have Z:=geD hb O hk;subst Z;rw[An];refine aO (AWp.sub (Sub.freeze (id:=720) rfl) ?_);refine AWp.sub (Sub.freeze (id:=721) rfl) ?_;refine skh 6 [(2,.row 0 (aB a))] rfl (kc Y ?_);exact kz 2 rfl (aI (iT trw))
end
noncomputable def tkP (a:Alt) (c:Core):Core×Bool:=
 if a.form=3 then(a.body,true)
 else if a.form=2 then(a.body,decide (c.form=3)&&decide (c.n=a.n))
 else match gvC c with
  | some (s,l)=>if s=a.name∧l.length=a.vars.length then(zB a.body a.vars l,true) else(zC,false)
  | none=>(zC,false)
theorem aI6 (a:Alt) (c:Core):gJ a c=if(tkP a c).2=true then some (tkP a c).1 else none:=by
 unfold gJ tkP;by_cases h3:a.form=3
 ·rw[ξ h3,ξ h3];rfl
 rw[φ h3,φ h3];by_cases h2:a.form=2
 ·rw[ξ h2,ξ h2];by_cases h:c.form=3∧c.n=a.n
  ·rw[ξ h,ξ (by simp[h.1,h.2])]
  ·rw[φ h,φ (by simpa using h)]
 rw[φ h2,φ h2];cases gvC c with
 | none=>rfl
 | some p=>
  obtain⟨s,l⟩:=p;dsimp only;by_cases h:s=a.name∧l.length=a.vars.length
  ·simp[ξ h]
  ·simp[φ h]
theorem aWh {f i:Int}{s:Str}{vs:List Str}{body:Core}{cf q:Int}{cs:Str}{I:Ty}{ks:List Core}{bs:List Bind}{al:List Alt}:tkP (.mk f i s vs body) (.mk cf q cs I ks bs al)=
  if f=3 then(body,true)
  else if f=2 then(body,decide (cf=3)&&decide (q=i))
  else match gvC (.mk cf q cs I ks bs al) with
   | some (s1,l)=>if s1=s∧l.length=vs.length then(zB body vs l,true) else(zC,false)
   | none=>(zC,false):=rfl
theorem aU2 (a:Alt) (c:Core) (hl:b7 c≤570000000000) (hg:aU Tryz.prog 67 [.pa (aB c)] [] (xG (gvC c)) [])
  (hp:∀s l,gvC c=some (s,l)→l.length=a.vars.length→aU Tryz.prog 108 [.pa (aB a.body),aY a.vars,.one (.c (.sl 10 (l.map aB)))] [] (.pa (aB (zB a.body a.vars l))) []):
  aU Tryz.prog 109 [.pa (c7 a),.pa (aB c)] [] (.tup [.pa (aB (tkP a c).1),B (tkP a c).2]) []:=by
 obtain⟨f,i,s,vs,body⟩:=a;obtain⟨cf,I,cs,N,ks,bs,al⟩:=c;rw[aWh];refine bO (n:=58) tok Tryz.func109 rfl rfl rfl ?_;refine sg rfl (a8 (sg rfl ?_));by_cases h3:f=3
 ·subst h3;rw[ξ rfl];exact aC (sg rfl (aA rfl (fun _=>sg rfl (aI (iT trw))) (fun hb=>by simp[Alt.form] at hb)))
 rw[φ h3];by_cases h2:f=2
 ·subst h2;rw[ξ rfl];refine aC (sg rfl (aA rfl (fun hb=>by simp[Alt.form] at hb) (fun _=>sg rfl (aA rfl (fun _=>?_) (fun hb=>by simp[Alt.form] at hb)))));by_cases hc:cf=3
  ·have hd:decide (cf=3)=true:=Ak hc;have e:(decide (cf=3)&&decide (I=i))=decide (I=i):=by rw[hd];rfl
   rw[e];exact sgh [(5,.bv true),(11,.bv true)] rfl (aI (iT trw))
  ·have hd:decide (cf=3)=false:=Al hc;have e:(decide (cf=3)&&decide (I=i))=false:=by rw[hd];rfl
   rw[e];exact sgh [(5,.bv false),(11,.bv false)] rfl (aI (iT trw))
 rw[φ h2];refine AWp.cut (mk [(2,.one (.vp 2 0)),(3,.one (.vp 3 0)),(4,.one (.vp 4 0))] [(2,.var 88 ((c7 (.mk f i s vs body)).map .c)),(3,.var 37 (bA (.mk cf I cs N ks bs al))),(4,.var 37 bL)]) ?_ ?_
 ·exact aC (sg rfl (aA rfl (fun hb=>absurd (ψ hb) h3) (fun _=>sg rfl (aA rfl (fun hb=>absurd (ψ hb) h2) (fun _=>aD sl)))))
 cases J:gvC (.mk cf I cs N ks bs al) with
 | none=>
  rw[J] at hg;exact sgh [(1,.pc (xG none))] rfl (a8 (a8 (agF 3 [] rfl rfl rfl (aA rfl (fun _=>sg rfl (aI (iT trw))) (fun hb=>by simp[Alt.form] at hb)))))
 | some p=>
  obtain⟨s1,q⟩:=p;rw[J] at hg;have W:(q.map aB).length=q.length:=θ _;have Y:(vs.map bD).length=vs.length:=θ _;dsimp only;refine sgh [(1,.pc (xG (some (s1,q))))] rfl (a8 (a8 (agF 3 [] rfl rfl rfl (aA rfl (fun hb=>?_) (fun hb=>?_)))))
  ·have hn:¬(s1=s∧q.length=vs.length):=by
    rintro⟨rfl,h⟩;simp[h,Alt.name,Alt.vars] at hb
   rw[φ hn];exact sg rfl (aI (iT trw))
  ·have hy:s1=s∧q.length=vs.length:=by
    simp at hb;have h2:(q.length:Int)=(vs.length:Int):=hb.2;exact⟨hb.1,by omega⟩
   rw[ξ hy];have O:=hp s1 q J hy.2;refine aD (sk 5 rfl (kc O ?_));exact kz 2 rfl (aI (iT trw))
theorem aVf (m:Mod) (i:Int) (s:Str) (t:Ty) (a:Core) (al:List Alt) (p:CE) (hl:al.length≤12) (O:aU Tryz.prog 29 [.pa (aB a)] [] (B (shC a)) [])
  (hk:shC a=false→aU Tryz.prog 107 [.pa (mQ m),.pa (aB (.mk 9 i s t [a] [] al)),I .i64 (0:Nat)] [] (fK p) [])
  (W:∀x∈al,aU Tryz.prog 109 [.pa (c7 x),.pa (aB a)] [] (.tup [.pa (aB (tkP x a).1),B (tkP x a).2]) []):
  aU Tryz.prog 71 [.pa (mQ m),.pa (aB (.mk 9 i s t [a] [] al))] [] (fK (if shC a=true then(match al.findSome? fun x=>gJ x a with | some r=>(r,0) | none=>(zC,52)) else p)) []:=by
 have N:(bS al).length=al.length:=by rw[bQ,θ]
 refine bO (n:=41) tok Tryz.func71 rfl rfl rfl ?_;refine sg rfl (a8 (skh 4 [(2,.row 0 (aB a))] rfl (kc O ?_)));refine kz 1 rfl ?_;cases hs:shC a with
 | false=>
  have hk:=hk hs;rw[φ Aw];refine aA rfl (fun _=>sk 2 rfl (kc hk ?_)) nofun;exact kz 4 rfl (aI (iT trw))
 | true=>
  rw[ξ rfl];refine aA rfl nofun (fun _=>aD (a8 (sg rfl (aC (aL (fun k:Nat=>mk [(3,.one (.vp 3 0)),(4,.one (.vp 4 0)),(22,.one (.c (.sl 14 (bS al)))),(23,I .i64 ((bS al).length:Int)),(24,I .i64 k)] [(3,.var 37 (bA (.mk 9 i s t [a] [] al))),(4,.var 37 bL)]) (fun k=>k≤al.length∧(al.findSome? fun x=>gJ x a)=(al.drop k).findSome? fun x=>gJ x a) (fun k=>al.length-k) 0 ⟨Aj _,rfl⟩ sl ?_)))));intro k ⟨hi,hid⟩;refine sg rfl (a8 (aA rfl (fun hb=>?_) (fun hb=>?_)))
  ·have J:=ltD hb N;obtain⟨x,hx⟩:=aJ J;have hx':(bS al)[k]?=some (c7 x):=by rw[bQ];exact bM c7 hx
   have ht:=W x (η hx);have Y:al.drop k=x::al.drop (k+1):=by rw[Bz J,(Ab.1 hx).2]
   rw[Y,Cr,aI6] at hid;generalize tkP x a=q at *;obtain⟨qc,qb⟩:=q;refine aD (a8 (aC (sgh [(0,.row k (c7 x))] rfl (skh 5 [(3,.row 0 (aB a))] rfl (kc ht ?_)))));refine kz 6 rfl (sg rfl ?_);cases qb with
   | true=>
    rw[ξ rfl] at hid;dsimp only at hid;rw[hid];exact aA rfl (fun _=>sg rfl (aI (iT trw))) nofun
   | false=>
    rw[φ Aw] at hid;dsimp only at hid;exact aA rfl nofun (fun _=>aD (ag [] rfl ⟨k+1,⟨J,hid⟩,by dsimp only;omega,sl⟩))
  have Z:=geD hb N hi;subst Z;rw[drop_length,List.findSome?_nil] at hid;rw[hid];exact aO (sg rfl (aI (iT trw)))
theorem aTy (s:Str) (a b:Int):(jC s uK=none∧mZ s a b=(zC,51))∨
  ∃(fn:FuncId) (r:Core),pV Tryz.prog fn∧jC s uK=some [.fn fn]∧(s=aPb→b=0→mZ s a b=(zC,53))∧(¬(s=aPb∧b=0)→mZ s a b=(r,0)∧aU Tryz.prog fn [I .i64 a,I .i64 b] [] (.pa (aB r)) []):=by
 by_cases h1:s=aCj
 ·subst h1;exact .inr ⟨_,_,aN5 (by kernel_rfl),rfl,fun h=>absurd h (by decide),fun _=>⟨rfl,aY2 a b⟩⟩
 by_cases h2:s=aXq
 ·subst h2;exact .inr ⟨_,_,aN5 (by kernel_rfl),rfl,fun h=>absurd h (by decide),fun _=>⟨rfl,aYz a b⟩⟩
 by_cases h3:s=aVz
 ·subst h3;exact .inr ⟨_,_,aN5 (by kernel_rfl),rfl,fun h=>absurd h (by decide),fun _=>⟨rfl,aY0 a b⟩⟩
 by_cases h4:s=aPb
 ·subst h4;refine .inr ⟨133,jS (IntKind.i64.wrap (a.tdiv b)),aN5 (by kernel_rfl),rfl,fun _ h=>?_,fun h=>?_⟩
  ·subst h;rfl
  ·have hb:¬b=0:=fun e=>h ⟨rfl,e⟩
   refine⟨?_,aY1 a b hb⟩;unfold mZ;rw[φ (by decide),φ (by decide),φ (by decide),ξ rfl,φ hb]
 by_cases h5:s=nEq
 ·subst h5;exact .inr ⟨_,_,aN5 (by kernel_rfl),rfl,fun h=>absurd h (by decide),fun _=>⟨rfl,a0z a b⟩⟩
 by_cases h6:s=nLt
 ·subst h6;exact .inr ⟨_,_,aN5 (by kernel_rfl),rfl,fun h=>absurd h (by decide),fun _=>⟨rfl,a0y a b⟩⟩
 refine .inl ⟨?_,?_⟩
 ·unfold uK;simp only[jC];rw[φ (fun e=>h1 e.symm),φ (fun e=>h2 e.symm),φ (fun e=>h3 e.symm),φ (fun e=>h4 e.symm),φ (fun e=>h5 e.symm),φ (fun e=>h6 e.symm)]
 ·unfold mZ;rw[φ h1,φ h2,φ h3,φ h4,φ h5,φ h6]
theorem aUv (m:Mod) (i:Int) (s:Str) (t:Ty) (a b:Core) (pa pb:CE) (hsa:aU Tryz.prog 29 [.pa (aB a)] [] (B (shC a)) []) (hsb:aU Tryz.prog 29 [.pa (aB b)] [] (B (shC b)) [])
  (N:shC a=false→aU Tryz.prog 107 [.pa (mQ m),.pa (aB (.mk 10 i s t [a,b] [] [])),I .i64 (0:Nat)] [] (fK pa) [])
  (O:shC b=false→aU Tryz.prog 107 [.pa (mQ m),.pa (aB (.mk 10 i s t [a,b] [] [])),I .i64 (1:Nat)] [] (fK pb) []):
  aU Tryz.prog 72 [.pa (mQ m),.pa (aB (.mk 10 i s t [a,b] [] []))] [] (fK (if ¬shC a=true then pa else if ¬shC b=true then pb else if a.form=3∧b.form=3 then mZ s a.n b.n else(zC,51))) []:=by
 refine bO (n:=76) tok Tryz.func72 rfl rfl rfl ?_;refine sg rfl (a8 (sg rfl (aC (aL (fun k:Nat=>mk [(2,.one (.vp 2 0)),(3,.one (.vp 3 0)),(4,.one (.vp 4 0)),(11,.one (.c (.sl 10 (aM [a,b])))),(12,I .i64 (2:Nat)),(13,I .i64 k)] [(2,.var 82 ((mQ m).map .c)),(3,.var 37 (bA (.mk 10 i s t [a,b] [] []))),(4,.var 37 bL)]) (fun k=>k≤2∧(0<k→shC a=true)∧(1<k→shC b=true)) (fun k=>2-k) 0 ⟨by omega,fun h=>absurd h (by omega),fun h=>absurd h (by omega)⟩ sl ?_))));rintro k ⟨hk,g1,g2⟩;refine sg rfl (a8 (aA rfl (fun hb=>?_) (fun hb=>?_)))
 ·have hlt:k<2:=by have:=ψ hb;omega
  refine aD (a8 (aC ?_));by_cases h0:k=0
  ·subst h0;refine sgh [(1,.row 0 (aB a))] rfl (sk 1 rfl (kc hsa ?_));refine kz 1 rfl ?_;cases hs:shC a with
   | false=>
    have N:=N hs;rw[ξ Aw];refine aA rfl (fun _=>sk 3 rfl (kc N ?_)) (fun hb=>absurd hb (by decide));exact kz 4 rfl (aI (iT trw))
   | true=>
    exact aA rfl (fun hb=>absurd hb (by decide)) (fun _=>aD (ag [] rfl ⟨1,⟨by omega,fun _=>rfl,fun h=>absurd h (by omega)⟩,by dsimp only;omega,sl⟩))
  ·have h1:k=1:=by omega
   subst h1;have q:=g1 (by omega);refine sgh [(1,.row 1 (aB b))] rfl (sk 1 rfl (kc hsb ?_));refine kz 1 rfl ?_;cases hs:shC b with
   | false=>
    have O:=O hs;rw[φ (fun h=>h q),ξ Aw];refine aA rfl (fun _=>sk 3 rfl (kc O ?_)) (fun hb=>absurd hb (by decide));exact kz 4 rfl (aI (iT trw))
   | true=>
    exact aA rfl (fun hb=>absurd hb (by decide)) (fun _=>aD (ag [] rfl ⟨2,⟨by omega,fun _=>q,fun _=>rfl⟩,by dsimp only;omega,sl⟩))
 have hk2:k=2:=by have:=δ hb;omega
 subst hk2;have q:=g1 (by omega);have Z:=g2 (by omega);rw[φ (fun h=>h q),φ (fun h=>h Z)];refine aO (a8 (aE mixed (kc aVb ?_)));have hmp:kL uK:=zF;rcases aTy s a.n b.n with⟨hfd,hr⟩ | ⟨fn,r,Y,hfd,hdz,hok⟩
 ·--no such name
  refine ak 8 [(3,.look none)] rfl (az ?_);rw[hr,ite_self];exact a8 (aC (a8 (sg rfl (aA rfl (fun _=>aD (aA rfl (fun _=>sg rfl (aI (iT trw))) (fun hb=>absurd hb (by decide)))) (fun hb=>absurd hb (by decide))))))
 ·refine ak 8 [(3,.look (some [.fn fn]))] rfl (az (a8 (aC (a8 (sg rfl (aA rfl (fun hb=>by simp[aHh] at hb) (fun _=>sgh [(2,.row 0 (aB a))] rfl ?_)))))));by_cases ha:a.form=3
  ·refine aA rfl (fun hb=>absurd hb (by simp[ha])) (fun _=>ag [(2,.row 1 (aB b))] rfl ?_);by_cases J:b.form=3
   ·rw[ξ ⟨ha,J⟩];refine aA rfl (fun hb=>absurd hb (by simp[J])) (fun _=>?_);by_cases hd:s=aPb
    ·subst hd;refine sgh [(3,.bv true),(6,.row 1 (aB b)),(10,.bv true)] rfl ?_;by_cases W:b.n=0
     ·rw[hdz rfl W];exact aA rfl (fun _=>sg rfl (aI (iT trw))) (fun hb=>absurd W (δ hb))
     ·obtain⟨e,hc⟩:=hok fun h=>W h.2
      rw[e];refine aA rfl (fun hb=>absurd (ψ hb) W) (fun _=>aD (AWp.sub (Sub.fnClo 8 rfl) ?_));refine skh 11 [(3,.row 0 (aB a)),(8,.row 1 (aB b))] rfl (kv (args:=[I .i64 a.n,I .i64 b.n]) (caps:=[]) hc ?_ Y);exact kz 2 rfl (aI (iT trw))
    ·obtain⟨e,hc⟩:=hok fun h=>hd h.1
     rw[e];have hd':decide (s=aPb)=false:=Al hd;refine sgh [(3,.bv false),(10,.bv false)] rfl (aA rfl nofun (fun _=>aD (AWp.sub (Sub.fnClo 8 rfl) ?_)));refine skh 11 [(3,.row 0 (aB a)),(8,.row 1 (aB b))] rfl (kv (args:=[I .i64 a.n,I .i64 b.n]) (caps:=[]) hc ?_ Y);exact kz 2 rfl (aI (iT trw))
   ·rw[φ fun h=>J h.2];exact aA rfl (fun _=>sg rfl (aI (iT trw))) (fun hb=>absurd hb (by simp[J]))
  ·rw[φ fun h=>ha h.1];exact aA rfl (fun _=>aD (aA rfl (fun _=>sg rfl (aI (iT trw))) (fun hb=>absurd hb (by simp[ha])))) (fun hb=>absurd hb (by simp[ha]))
section
variable {m:Mod}{f i:Int}{s:Str}{t:Ty}{ks:List Core}{bs:List Bind}{al:List Alt}{p:CE}
theorem a0w (h:aU Tryz.prog 68 [.pa (mQ m),.pa (aB (.mk 1 i s t ks bs al))] [] (fK p) []):aU Tryz.prog 30 [.pa (mQ m),.pa (aB (.mk 1 i s t ks bs al))] [] (fK p) []:=by
 refine bO (n:=48) tok Tryz.func30 rfl rfl rfl ?_;refine sg rfl (a8 (sg rfl (aC (sg rfl (aA rfl (fun _=>sk 2 rfl (kc h ?_)) (fun hb=>by simp[Core.form] at hb))))));exact kz 4 rfl (aI (iT trw))
theorem aU3 (hf:f=4∨f=6) (h:aU Tryz.prog 69 [.pa (mQ m),.pa (aB (.mk f i s t ks bs al))] [] (fK p) []):aU Tryz.prog 30 [.pa (mQ m),.pa (aB (.mk f i s t ks bs al))] [] (fK p) []:=by
 refine bO (n:=48) tok Tryz.func30 rfl rfl rfl ?_;refine sg rfl (a8 (sg rfl (aC (sg rfl (aA rfl (fun hb=>by have h0:f=1:=ψ hb;omega) (fun _=>a8 (sg rfl ?_)))))));rcases hf with rfl | rfl
 ·refine aA rfl (fun _=>aD (aA rfl (fun _=>sk 2 rfl (kc h ?_)) (fun hb=>by simp[Core.form] at hb))) (fun hb=>by simp[Core.form] at hb);exact kz 4 rfl (aI (iT trw))
 ·refine aA rfl (fun hb=>by simp[Core.form] at hb) (fun _=>ag [] rfl (aA rfl (fun _=>sk 2 rfl (kc h ?_)) (fun hb=>by simp[Core.form] at hb)));exact kz 4 rfl (aI (iT trw))
theorem a0v (h:aU Tryz.prog 70 [.pa (mQ m),.pa (aB (.mk 8 i s t ks bs al))] [] (fK p) []):aU Tryz.prog 30 [.pa (mQ m),.pa (aB (.mk 8 i s t ks bs al))] [] (fK p) []:=by
 refine bO (n:=48) tok Tryz.func30 rfl rfl rfl ?_;refine sg rfl (a8 (sg rfl (aC (sg rfl (aA rfl (fun hb=>by simp[Core.form] at hb) (fun _=>a8 (sg rfl (aA rfl (fun hb=>by simp[Core.form] at hb) (fun _=>ag [] rfl (aA rfl (fun hb=>by simp[Core.form] at hb) (fun _=>sg rfl (aA rfl (fun _=>sk 2 rfl (kc h ?_)) (fun hb=>by simp[Core.form] at hb)))))))))))));exact kz 4 rfl (aI (iT trw))
theorem a0u (h:aU Tryz.prog 71 [.pa (mQ m),.pa (aB (.mk 9 i s t ks bs al))] [] (fK p) []):aU Tryz.prog 30 [.pa (mQ m),.pa (aB (.mk 9 i s t ks bs al))] [] (fK p) []:=by
 refine bO (n:=48) tok Tryz.func30 rfl rfl rfl ?_;refine sg rfl (a8 (sg rfl (aC (sg rfl (aA rfl (fun hb=>by simp[Core.form] at hb) (fun _=>a8 (sg rfl (aA rfl (fun hb=>by simp[Core.form] at hb) (fun _=>ag [] rfl (aA rfl (fun hb=>by simp[Core.form] at hb) (fun _=>sg rfl (aA rfl (fun hb=>by simp[Core.form] at hb) (fun _=>sg rfl (aA rfl (fun _=>sk 2 rfl (kc h ?_)) (fun hb=>by simp[Core.form] at hb)))))))))))))));exact kz 4 rfl (aI (iT trw))
theorem aYt (h:aU Tryz.prog 72 [.pa (mQ m),.pa (aB (.mk 10 i s t ks bs al))] [] (fK p) []):aU Tryz.prog 30 [.pa (mQ m),.pa (aB (.mk 10 i s t ks bs al))] [] (fK p) []:=by
 refine bO (n:=48) tok Tryz.func30 rfl rfl rfl ?_;refine sg rfl (a8 (sg rfl (aC (sg rfl (aA rfl (fun hb=>by simp[Core.form] at hb) (fun _=>a8 (sg rfl (aA rfl (fun hb=>by simp[Core.form] at hb) (fun _=>ag [] rfl (aA rfl (fun hb=>by simp[Core.form] at hb) (fun _=>sg rfl (aA rfl (fun hb=>by simp[Core.form] at hb) (fun _=>sg rfl (aA rfl (fun hb=>by simp[Core.form] at hb) (fun _=>sg rfl (aA rfl (fun _=>sk 2 rfl (kc h ?_)) (fun hb=>by simp[Core.form] at hb)))))))))))))))));exact kz 4 rfl (aI (iT trw))
theorem a0x (h1:¬f=1) (h4:¬f=4) (h6:¬f=6) (J:¬f=8) (N:¬f=9) (I:¬f=10):aU Tryz.prog 30 [.pa (mQ m),.pa (aB (.mk f i s t ks bs al))] [] (fK (if f=11 then(zC,52) else(zC,51))) []:=by
 refine bO (n:=48) tok Tryz.func30 rfl rfl rfl ?_;refine sg rfl (a8 (sg rfl (aC (sg rfl (aA rfl (fun hb=>absurd (ψ hb) h1) (fun _=>a8 (sg rfl (aA rfl (fun hb=>absurd (ψ hb) h4) (fun _=>ag [] rfl (aA rfl (fun hb=>absurd (ψ hb) h6) (fun _=>sg rfl (aA rfl (fun hb=>absurd (ψ hb) J) (fun _=>sg rfl (aA rfl (fun hb=>absurd (ψ hb) N) (fun _=>sg rfl (aA rfl (fun hb=>absurd (ψ hb) I) (fun _=>sg rfl ?_)))))))))))))))));by_cases q:f=11
 ·subst q;rw[ξ rfl];exact aA rfl (fun _=>sg rfl (aI (iT trw))) (fun hb=>by simp[Core.form] at hb)
 ·rw[φ q];exact aA rfl (fun hb=>absurd (ψ hb) q) (fun _=>aD (sg rfl (aI (iT trw))))
end
theorem aSi (hI:cQ 540000000000) {n:Nat}{U:List Str}(hn:n≤99) (hU:U.length≤480000) {m:Mod}(hB:BI U m.binds):∀(k:Nat) (c:Core),m30 c≤k→ST n U c→
  aU Tryz.prog 30 [.pa (mQ m),.pa (aB c)] [] (fK (dC m.binds k c)) []:=by
 intro k
 induction k with
 | zero=>intro c h;have:=dF c;omega
 | succ k ih=>
 intro c h hc;obtain⟨f,i,s,t,ks,bs,al⟩:=c;have hsz:=hc.sz;have hm:∀x∈ks,m30 x<m30 (.mk f i s t ks bs al):=fun x hx=>by have:=fJ hx;rw[m30];omega
 have Y:∀x∈ks,b7 x≤570000000000:=fun x hx=>by have:=bV x;have:=hm x hx;omega
 have Z:∀x∈ks,¬f=7→aU Tryz.prog 29 [.pa (aB x)] [] (B (shC x)) []:=fun x hx h7=>xW 403 x (hc.kid h7 hx).q (Y x hx)
 have N:∀(j:Nat) (x:Core),ks[j]?=some x→¬f=7→ks.length≤2→aU Tryz.prog 107 [.pa (mQ m),.pa (aB (.mk f i s t ks bs al)),I .i64 (j:Nat)] [] (fK (nB (dC m.binds k) (.mk f i s t ks bs al) j)) []:=fun j x hx h7 hl=>by
  have O:=η hx;exact a02 m 403 (.mk f i s t ks bs al) x j (dC m.binds k) hx (by show ks.length≤_;omega) (hc.kid h7 O).q (Y x O) fun _=>ih x (by have:=hm x O;omega) (hc.kid h7 O)
 rw[nQ];by_cases h1:f=1
 ·subst h1;rw[ξ rfl];exact a0w (aUw m (by have:=hB.len;omega) 1 i s t ks bs al)
 rw[φ h1];by_cases J:f=4∨f=6
 ·rw[ξ J];by_cases ha:f=4∧(ks.headD zC).form=5
  ·rw[ξ ha];obtain⟨rfl,ha⟩:=ha;obtain⟨⟨a,b,rfl⟩,rfl,rfl⟩:=iN hc.q (.inl rfl);have ka:=hc.kid (by decide) (x:=a) ζ;obtain⟨f',i',s',t',ks',bs',al'⟩:=a;have ha:f'=5:=ha;subst ha;obtain⟨⟨body,rfl⟩,rfl,rfl⟩:=cO ka.q (.inl rfl);exact aU3 (.inl rfl) (aZa hI hn hU m i s t body b i' s' t' hc)
  rw[φ ha];by_cases hb:f=6∧(ks.headD zC).form=7
  ·rw[ξ hb];obtain⟨rfl,hb⟩:=hb;obtain⟨⟨a,rfl⟩,rfl,rfl⟩:=cO hc.q (.inr (.inl rfl));have ka:=hc.kid (by decide) (x:=a) ζ;obtain⟨f',i',s',t',ks',bs',al'⟩:=a;have hb:f'=7:=hb;subst hb;obtain⟨⟨body,rfl⟩,rfl,rfl⟩:=cO ka.q (.inr (.inr rfl));exact aU3 (.inr rfl) (aY9 hI hn hU m i s t body i' s' t' hc)
  rw[φ hb];have hex:∃a ks1,ks=a::ks1∧ks.length≤2:=by
   rcases J with rfl | rfl
   ·obtain⟨⟨a,b,rfl⟩,_⟩:=iN hc.q (.inl rfl);exact⟨a,[b],rfl,le_refl _⟩
   ·obtain⟨⟨a,rfl⟩,_⟩:=cO hc.q (.inr (.inl rfl));exact⟨a,[],rfl,by simp⟩
  obtain⟨a,ks1,rfl,hl⟩:=hex;exact aU3 J (aY8 m f i s t a ks1 bs al _ ha hb (N 0 a rfl (by omega) hl))
 rw[φ J];by_cases h8:f=8
 ·rw[ξ h8];subst h8;obtain⟨⟨a,rfl⟩,rfl,h12⟩:=vP hc.q;exact a0v (a01 hI hn hU m i s t a bs hc)
 rw[φ h8];by_cases h9:f=9
 ·rw[ξ h9];subst h9;obtain⟨⟨a,rfl⟩,rfl,h12,hv⟩:=y9 hc.q;have ka:=hc.kid (by decide) (x:=a) ζ;have hca:=Y a ζ;have hcc:=aVf m i s t a al (nB (dC m.binds k) (.mk 9 i s t [a] [] al) 0) h12 (Z a ζ (by decide)) (fun _=>N 0 a rfl (by decide) (by simp)) fun x hx=>by
   refine aU2 x a hca (aC1 403 a ka.q hca) fun s1 l1 hg hlv=>?_
   have kx:=hc.alt hx;have hm':=i6 hx;obtain⟨g1,_⟩:=aNp hn hU (s:=m30 (.mk 9 i s t [a] [] al)) (by rw[m30,cK,cK];omega) hsz kx ka (hv x hx) hg hlv;exact(aP9 hI (by decide) (by decide) x.body _ _ hlv.symm (by have:=hv x hx;omega) g1).1
  exact a0u hcc
 rw[φ h9];by_cases W:f=10
 ·rw[ξ W];subst W;obtain⟨⟨a,b,rfl⟩,rfl,rfl⟩:=iN hc.q (.inr rfl);exact aYt (aUv m i s t a b _ _ (Z a ζ (by decide)) (Z b (κ _ ζ) (by decide)) (fun _=>N 0 a rfl (by decide) (le_refl _)) (fun _=>N 1 b rfl (by decide) (le_refl _)))
 rw[φ W];exact a0x h1 (fun e=>J (.inl e)) (fun e=>J (.inr e)) h8 h9 W
theorem aZ0:UOk zTy:=⟨by decide,by unfold zTy;rw[fvm];decide⟩
noncomputable def aJb (bd:List Bind) (c:Core):CE:=if shC c=true then(zC,21) else if(dC bd (m30 c) c).2=0 then((dC bd (m30 c) c).1,0) else(zC,(dC bd (m30 c) c).2)
theorem aSh (J:cQ 540000000000) {D M X:Nat}(I:M+D≤700000) {c:Core}(hc:CG D M X c) (N:¬([]:Str)∈tyR c):aU Tryz.prog 31 [.pa (aB c),Go.AM.T [],tyV zTy] [] (.pa (aB c)) []:=by
 have h:=(tQ J I (m30 c) c (le_refl _) hc [] zTy aZ0).imp;rwa [aWx (m30 c) c (le_refl _) hc.q N] at h
section
variable {n:Nat}{U:List Str}
theorem aSq (I:cQ 540000000000) (hn:n≤99) (J:U.length≤480000) (hz:¬([]:Str)∈U) {m:Mod}(N:BI U m.binds) {c:Core}(hc:ST n U c):
  aU Tryz.prog 9 [.pa (mQ m),.pa (aB c)] [] (fK (aJb m.binds c)) []:=by
 have hcs:=bV c;have O:=hc.sz;have W:=xW 403 c hc.q (by omega);have Y:=aSi I hn J N (m30 c) c (le_refl _) hc;have hok:=nP I hn J N (m30 c) c (le_refl _) hc;unfold aJb;generalize dC m.binds (m30 c) c=p at *;refine bO (n:=25) tok Tryz.func9 rfl rfl rfl ?_;refine sg rfl (a8 (sk 1 rfl (kc W ?_)));refine az ?_;cases hs:shC c with
 | true=>
  rw[ξ rfl];exact aA rfl (fun _=>sg rfl (aI (iT trw))) nofun
 | false=>
  rw[φ Aw];refine aA rfl nofun (fun _=>aD (sk 3 rfl (kc Y ?_)));refine kz 6 rfl ?_;obtain⟨r,e⟩:=p;dsimp only at hok ⊢;by_cases he:e=0
  ·subst he;have Z:=hok rfl;have aa:=aSh I (by decide) (Z.cg (n:=n+1) (by omega) O J) (fun h=>hz (Z.ty _ h));rw[ξ rfl];refine a8 (sg rfl (aA rfl (fun hb=>absurd hb (by decide)) (fun _=>aD (sk 2 rfl (kc aa ?_)))));exact kz 2 rfl (aI (iT trw))
  ·rw[φ he];exact a8 (sg rfl (aA rfl (fun _=>sg rfl (aI (iT trw))) (fun hb=>absurd hb (by simp[he]))))
theorem aBn (q:cQ 540000000000) (I:U.length≤480000) {bd:List Bind}(J:BI U bd):∀(k j:Nat) (c:Core),n+j+k≤99→ST (n+j) U c→(bN bd k j c).2.2=0→
  ST (n+(bN bd k j c).2.1) U (bN bd k j c).1∧shC (bN bd k j c).1=true∧((bN bd k j c).2.1=j→(bN bd k j c).1=c)
 | 0,j,c,hn,hc,h=>by
  rw[bN] at h ⊢;by_cases hs:shC c=true
  ·rw[ξ hs];exact⟨hc,hs,fun _=>rfl⟩
  ·rw[φ hs] at h;cases h
 | k+1,j,c,hn,hc,h=>by
  rw[bN] at h ⊢;by_cases hs:shC c=true
  ·rw[ξ hs];exact⟨hc,hs,fun _=>rfl⟩
  rw[φ hs] at h ⊢;by_cases h1:(dC bd (m30 c) c).2=0
  ·rw[ξ h1] at h ⊢;by_cases h2:6000<dQ (dC bd (m30 c) c).1
   ·rw[ξ h2] at h;cases h
   ·rw[φ h2] at h ⊢;have N:=(nP q (by omega) I J (m30 c) c (le_refl _) hc h1).st (by omega);obtain⟨g1,g2,g3⟩:=aBn q I J k (j+1) _ (by omega) N h;have:=(vS k (j+1) _ h).1
    exact⟨g1,g2,fun e=>by omega⟩
  ·rw[φ h1] at h;exact absurd h h1
def whV (w:Core×Nat×Int):V:=.tup [.pa (aB w.1),I .i64 w.2.1,I .i64 w.2.2]
theorem aSp (W:cQ 540000000000) (Y:U.length≤480000) (hz:¬([]:Str)∈U) {m:Mod}(Z:BI U m.binds) (F:Nat) (hn:n+F≤99) {c:Core}(hc:ST n U c):
  aU Tryz.prog 43 [.pa (mQ m),.pa (aB c),I .i64 F] [] (whV (bN m.binds F 0 c)) []:=by
 refine bO (n:=43) tok Tryz.func43 rfl rfl rfl ?_;refine sg rfl (sg rfl (aC (aL (fun p:Nat×Core=>mk [(2,I .i64 F),(3,.one (.vp 3 0)),(4,.one (.vp 4 0)),(6,.one (.vp 6 0)),(9,I .i64 p.1)] [(3,.var 27 ((mQ m).map .c)),(4,.var 37 (bA p.2)),(6,.var 37 bL)]) (fun p=>p.1≤F∧ST (n+p.1) U p.2∧bN m.binds F 0 c=bN m.binds (F-p.1) p.1 p.2) (fun p=>F-p.1) (0,c) ⟨Aj _,hc,rfl⟩ sl ?_)));rintro⟨j,x⟩ ⟨hj,hx,hw⟩;dsimp only at hj hx hw ⊢;have hcs:=bV x;have aa:=hx.sz;have ab:=xW 403 x hx.q (by omega);refine a8 (aC (a8 (sk 1 rfl (kc ab ?_))));refine az ?_;cases hs:shC x with
 | true=>
  have e:bN m.binds F 0 c=(x,j,0):=by
   rw[hw];cases F-j with
   | zero=>rw[bN,ξ hs]
   | succ k=>rw[bN,ξ hs]
  have ac:=aSh W (by decide) (hx.cg (by omega) Y) (fun h=>hz (hx.ty _ h));rw[e];refine aA rfl (fun _=>sk 2 rfl (kc ac ?_)) nofun;exact kz 4 rfl (aI (aZp trw))
 | false=>
  have O:¬shC x=true:=by rw[hs];exact Aw
  refine aA rfl nofun (fun _=>aD (a8 (sg rfl (aA rfl (fun hb=>?_) (fun hb=>?_)))))
  ·have J:j=F:=by have:=ψ hb;omega
   have e:bN m.binds F 0 c=(zC,0,3):=by rw[hw,J,sub_self,bN,φ (by rw[←J] at *;exact O)]
   rw[e];exact sg rfl (aI (aZp trw))
  have J:j<F:=by have:=δ hb;omega
  obtain⟨k,hk⟩:∃k,F-j=k+1:=⟨F-j-1,by omega⟩
  have ad:=aSi W (n:=n+j) (by omega) Y Z (m30 x) x (le_refl _) hx;have hok:=nP W (n:=n+j) (by omega) Y Z (m30 x) x (le_refl _) hx;rw[hk,bN,φ O] at hw;generalize dC m.binds (m30 x) x=p at *;obtain⟨r,e⟩:=p;dsimp only at hok hw ⊢;refine aD (sk 3 rfl (kc ad ?_));refine kz 6 rfl ?_;by_cases he:e=0
  ·subst he;have hr:=hok rfl;have hrb:=hr.big aa;have hcr:=bV r;have hB2:Big=250000000000:=rfl;have hze:=aSj (b7 r) r (le_refl _) (by omega);rw[ξ rfl] at hw;refine a8 (sgh [(2,.bv true),(4,.pc (I .i64 (dQ r:Nat))),(6,.bv true)] rfl ?_);by_cases N:6000<dQ r
   ·rw[ξ N] at hw;rw[hw];exact aA rfl (fun _=>ag [] rfl (a8 (sg rfl (aA rfl (fun _=>sg rfl (aI (aZp trw))) (fun hb=>absurd hb (by decide)))))) (fun hb=>absurd hb (by simp;omega))
   ·rw[φ N] at hw;exact aA rfl (fun hb=>absurd hb (by simp;omega)) (fun _=>aD (a8 (sg rfl (aA rfl (fun hb=>by simp at hb) (fun _=>aD (ag [] rfl (ag [] rfl ⟨(j+1,r),⟨J,hr.st (by omega),by rw[hw];congr 1;omega⟩,by dsimp only;omega,sl⟩)))))))
  ·rw[φ he] at hw;rw[hw];have hd:decide (e=0)=false:=Al he;exact a8 (sgh [(2,.bv false),(6,.bv false)] rfl (aA rfl nofun (fun _=>aD (a8 (sg rfl (aA rfl (fun _=>sg rfl (aI (aZp trw))) (fun hb=>absurd hb (by simp[he]))))))))
end
theorem u1 {f:Nat→Core→VE}{x:Core}:∀(l:List Core) (F:Nat),(dB f F l).2.2=0→dB f F (l++[x])=
  if(f (dB f F l).2.1 x).2.2=0 then((dB f F l).1++[(f (dB f F l).2.1 x).1],(f (dB f F l).2.1 x).2.1,0) else([],(f (dB f F l).2.1 x).2.1,(f (dB f F l).2.1 x).2.2)
 | [],F,_=>by
  by_cases h:(f F x).2.2=0<;>simp[dB,h]
 | c::l,F,h=>by
  rw[dB] at h;by_cases h1:(f F c).2.2=0
  ·rw[ξ h1] at h;by_cases h2:(dB f (f F c).2.1 l).2.2=0
   ·have q:=u1 (f:=f) (x:=x) l (f F c).2.1 h2;rw[Ba,dB,ξ h1,dB,ξ h1,ξ h2,q];dsimp only;by_cases h3:(f (dB f (f F c).2.1 l).2.1 x).2.2=0
    ·rw[ξ h3,ξ rfl,ξ h3];rfl
    ·rw[φ h3,φ h3,φ h3]
   ·rw[φ h2] at h;exact absurd h h2
  ·rw[φ h1] at h;exact absurd h h1
theorem yO {f:Nat→Core→VE}{r:List Core}:∀(l:List Core) (F:Nat),¬(dB f F l).2.2=0→dB f F (l++r)=dB f F l
 | [],F,h=>absurd rfl h
 | c::l,F,h=>by
  rw[dB] at h;by_cases h1:(f F c).2.2=0
  ·rw[ξ h1] at h;have h2:¬(dB f (f F c).2.1 l).2.2=0:=fun e=>by rw[ξ e] at h;exact h rfl
   have q:=yO (f:=f) (r:=r) l (f F c).2.1 h2;rw[Ba,dB,dB,q]
  ·rw[Ba,dB,dB,φ h1,φ h1]
theorem r9 {f:Nat→Core→VE}:∀(l:List Core) (F:Nat),(dB f F l).2.2=0→(dB f F l).1.length=l.length
 | [],_,_=>rfl
 | c::l,F,h=>by
  rw[dB] at h ⊢;by_cases h1:(f F c).2.2=0
  ·rw[ξ h1] at h ⊢;by_cases h2:(dB f (f F c).2.1 l).2.2=0
   ·rw[ξ h2,Ag,Ag,r9 l _ h2]
   ·rw[φ h2] at h;exact absurd h h2
  ·rw[φ h1] at h;exact absurd h h1
theorem aLg:∀l:List Core,l.length≤(l.map m30).sum
 | []=>by simp
 | c::l=>by
  have h1:=aLg l;have h2:=dF c;rw[Am,Cd,Ag];omega
def MZ:Nat:=3500001
theorem aZl {a b:Nat}(h:a≤b):a*MZ≤b*MZ:=Ay _ h
theorem a08 {a b:Nat}(h:a<b):a*MZ+MZ≤b*MZ:=by
 have:=aZl (show a+1≤b from h);rwa [A5,Nat.one_mul] at this
theorem aX4 {n:Nat}{U:List Str}:∀(k:Nat) (c:Core),m30 c≤k→ST n U c→∀(s:Str) (l:List Core),gvC c=some (s,l)→∀x∈l,tlC x≤tlC c:=by
 intro k
 induction k with
 | zero=>intro c h;have:=dF c;omega
 | succ k O=>
 intro c h hc s l hg;obtain⟨f,i,nm,t,ks,bs,al⟩:=c;have I:=kW (f:=f) (n:=i) (s:=nm) (t:=t) (ks:=ks) (bs:=bs) (al:=al);rw[gvC] at hg;by_cases h2:f=2
 ·rw[ξ h2] at hg;cases hg;simp
 rw[φ h2] at hg;by_cases h4:f=4
 ·rw[ξ h4] at hg;obtain⟨⟨a,b,rfl⟩,rfl,rfl⟩:=iN hc.q (.inl h4);have ha:=hc.kid (by omega) (x:=a) ζ;rw[m30,cK,cK,cK] at h;have N:=I.1 a ζ;have Y:=I.1 b (κ _ ζ);rw[φ (by omega)] at N Y;rw[gvH] at hg;cases J:gvC a with
  | none=>rw[J] at hg;cases hg
  | some p=>
   rw[J] at hg;obtain⟨s1,W⟩:=p;have g1:=O a (by omega) ha s1 W J;have hg:=Option.some.inj hg;have e:l=W++[b]:=(congrArg Prod.snd hg).symm;rw[e];intro x hx;rcases χ.1 hx with hx | hx
   ·have:=g1 x hx;omega
   ·rw[Aa.1 hx];omega
 rw[φ h4] at hg;by_cases h6:f=6
 ·rw[ξ h6] at hg;obtain⟨⟨a,rfl⟩,rfl,rfl⟩:=cO hc.q (.inr (.inl h6));have ha:=hc.kid (by omega) (x:=a) ζ;rw[m30,cK,cK] at h;have N:=I.1 a ζ;rw[φ (by omega)] at N;rw[gvH] at hg;intro x hx;have:=O a (by omega) ha s l hg x hx;omega
 ·rw[φ h6] at hg;cases hg
theorem ST.monoU {n:Nat}{U V:List Str}{c:Core}(h:ST n U c) (I:∀x∈U,x∈V):ST n V c:=⟨h.q,h.cw,fun x hx=>I x (h.ty x hx),h.tl,h.sz⟩
theorem BI.monoU {U V:List Str}{bd:List Bind}(h:BI U bd) (q:∀x∈U,x∈V):BI V bd:=⟨h.len,fun b hb=>(h.all b hb).monoU q⟩
theorem aQd (x:Fld) (s:Str):aU Tryz.prog 94 ([.pa (j8 x)]++[R.vp 10 0].map V.one) [(10,.var 9 [.c (.str s)])] (B (decide (x.name=s))) [(10,.var 9 [.c (.str s)])]:=by
 refine bO (n:=8) tok Tryz.func94 rfl rfl rfl ?_;exact sgh [(0,.id 12)] rfl (sg rfl (aI rtT))
theorem aAs (l:List Fld) (hl:l.length≤1000000000) (s:Str):aU Tryz.prog 93 [.one (.c (.sl 8 (l.map j8))),.one (.clo 94 [.vp 10 0])] [(10,.var 9 [.c (.str s)])] (I .i64 (aFo (fun x:Fld=>decide (x.name=s)) l 0)) [(10,.var 9 [.c (.str s)])]:=by
 have J:(l.map j8).length=l.length:=θ _;refine bO (n:=19) tok Tryz.func93 rfl rfl rfl ?_;refine sg rfl (a8 (sg rfl (aC (aL (fun i:Nat=>mk [(0,.one (.c (.sl 8 (l.map j8)))),(1,.one (.clo 94 [.vp 10 0])),(7,I .i64 ((l.map j8).length:Int)),(8,I .i64 i)] [(10,.var 9 [.c (.str s)])]) (fun i=>i≤l.length∧aFo (fun x:Fld=>decide (x.name=s)) l 0=aFo (fun x:Fld=>decide (x.name=s)) (l.drop i) i) (fun i=>l.length-i) 0 ⟨Aj _,rfl⟩ sl ?_))));intro i ⟨hi,hid⟩;refine sg rfl (a8 (aA rfl (fun hb=>?_) (fun hb=>?_)))
 ·have q:=ltD hb J;obtain⟨b,N⟩:=aJ q;have Y:=bM j8 N;have hc:=aQd b s;have O:l.drop i=b::l.drop (i+1):=by rw[Bz q,(Ab.1 N).2]
  rw[O,aFo] at hid;refine aD (a8 (aC (sg rfl (skh 5 [(3,.row i (j8 b))] rfl (kv (args:=[.pa (j8 b)]) hc ?_)))));refine az (aA rfl (fun hb=>?_) (fun hb=>?_))
  ·rw[ξ hb] at hid;rw[hid];exact sg rfl (aI rtT)
  ·rw[φ (by rw[show decide (b.name=s)=false from hb];exact Aw)] at hid;exact aD (ag [] rfl ⟨i+1,⟨q,hid⟩,by dsimp only;omega,sl⟩)
 have W:=geD hb J hi;subst W;rw[drop_length,aFo] at hid;rw[hid];exact aO (sg rfl (aI rtT))
def tO (m:Mod) (F:Nat):List (Nat×AObj):=[(900,.var 99 [.c (.sl 8 (m.fields.map j8)),.c (.sl 15 (m.binds.map bB)),.c (.int .i64 F)])]
def veV (r:VE):V:=.tup [.pa (kP r.1),I .i64 r.2.2]
structure VG (m:Mod) (n:Nat) (U:List Str) (F:Nat) (c:Core):Prop where
 nF:n+F≤99
 st:ST n U c
 z:¬([]:Str)∈U
 bi:BI U m.binds
 u:U.length+tlC c+6000*F≤480000
theorem aUy (hI:cQ 540000000000) {m:Mod}(hf:m.fields.length≤1000):∀(g d n F:Nat) (U:List Str) (c:Core),d≤100→VG m n U F c→F*MZ+m30 c+d<g→
  aU Tryz.prog 46 [.one (.vp 900 0),.pa (aB c),I .i64 d] (tO m F) (veV (eO m g d F c)) (tO m (eO m g d F c).2.1):=by
 intro g
 induction g with
 | zero=>intro d n F U c _ _ h;omega
 | succ g ih=>
 intro d n F U c hd hv hg;have hU:U.length≤480000:=by have:=hv.u;omega
 have hwh:=aSp hI hU hv.z hv.bi F hv.nF hv.st;have hok:=aBn (n:=n) hI hU hv.bi F 0 c (by have:=hv.nF;omega) hv.st;have hle:=vS (bd:=m.binds) F 0 c;rw[eO];unfold tO;by_cases aa:d=0
 ·rw[ξ aa];subst aa;refine bO (n:=128) tok Tryz.func46 rfl rfl rfl ?_;exact sg rfl (a8 (sg rfl (aA rfl (fun _=>sg rfl (aI (iT trw))) (fun hb=>absurd hb (by decide)))))
 rw[φ aa];generalize bN m.binds F 0 c=w at *;obtain⟨x,j,e⟩:=w;dsimp only at hok hle ⊢;by_cases he:¬e=0
 ·rw[ξ he];refine bO (n:=128) tok Tryz.func46 rfl rfl rfl ?_;refine sg rfl (a8 (sg rfl (aA rfl (fun hb=>absurd (ψ hb) (by omega)) (fun _=>aD (sk 9 rfl (kc hwh ?_))))));exact kz 7 rfl (a8 (sg rfl (aA rfl (fun _=>sg rfl (aI (iT trw))) (fun hb=>absurd hb (by simp[he])))))
 rw[φ he];obtain rfl:e=0:=by omega
 obtain⟨hx,hsx,hxc⟩:=hok rfl;obtain⟨_,hjF⟩:=hle rfl;obtain⟨G,hG⟩:∃G,F=G+j:=⟨F-j,by omega⟩
 have hGs:F-j=G:=by omega
 rw[hGs];have hnG:n+j+G≤99:=by have:=hv.nF;omega
 have hbud:U.length+tlC x+6000*G≤480000∧(G*MZ+m30 x≤F*MZ+m30 c):=by
  have h1:=hv.u;by_cases h0:j=0
  ·have e:G=F:=by omega
   rw[hxc h0,e];exact⟨by omega,le_refl _⟩
  ·have h2:=hx.tl;have h3:=hx.sz;have h4:G*MZ+MZ≤F*MZ:=a08 (by omega);have h5:MZ=3500001:=rfl;exact⟨by omega,by omega⟩
 obtain⟨hbu,hbm⟩:=hbud;have hcsx:=bV x;have hszx:=hx.sz;have hgv:=aC1 403 x hx.q (by omega);subst hG;have hGi:(((G+j:Nat):Int))-((j:Nat):Int)=((G:Nat):Int):=by omega
 have hdi:((d:Nat):Int)-1=(((d-1:Nat):Nat):Int):=by omega
 clear hok hle hxc;have ab:∀(W:Nat) (V:List Str) (y:Core) (G':Nat),W≤d→G'≤G→(∀v∈U,v∈V)→V.length+tlC y≤U.length+tlC x→¬([]:Str)∈V→ST (n+j) V y→m30 y+W<m30 x+d→aU Tryz.prog 46 [.one (.vp 900 0),.pa (aB y),I .i64 W] (tO m G') (veV (eO m g W G' y)) (tO m (eO m g W G' y).2.1):=by
  intro W V y G' hd' hG' hUV hlen hzV hst hm;refine ih W (n+j) G' V y (by omega) ⟨by omega,hst,hzV,hv.bi.monoU hUV,by omega⟩ ?_;have:=aZl hG';omega
 unfold tO at ab;obtain⟨R,hR⟩:∃R,R=(if x.form=3 then(aZy x.n,G,0) else if x.form=7 then eO m g d G (x.kids.headD zC) else aBy m.fields (fun F c=>eO m g (d-1) F c) G (gvC x):VE):=⟨_,rfl⟩
 rw[←hR];have hR3:x.form=3→R=(aZy x.n,G,0):=fun h=>by rw[hR,ξ h]
 have hR7:¬x.form=3→x.form=7→R=eO m g d G (x.kids.headD zC):=fun h h'=>by rw[hR,φ h,ξ h']
 have hRk:¬x.form=3→¬x.form=7→R=aBy m.fields (fun F c=>eO m g (d-1) F c) G (gvC x):=fun h h'=>by rw[hR,φ h,φ h']
 clear hR;obtain⟨f,i,s,t,ks,bs,al⟩:=x;refine bO (n:=128) tok Tryz.func46 rfl rfl rfl ?_;refine sg rfl (a8 (sg rfl (aA rfl (fun hb=>absurd (ψ hb) (by omega)) (fun _=>aD (sk 9 rfl (kc hwh ?_))))));refine kz 7 rfl (a8 (sg rfl (aA rfl (fun hb=>by simp at hb) (fun _=>aD (sg rfl ?_)))));rw[hGi];refine a8 (sg rfl ?_);by_cases h3:f=3
 ·rw[hR3 h3];exact aC (sg rfl (aA rfl (fun _=>sg rfl (aI (iT trw))) (fun hb=>absurd h3 (δ hb))))
 by_cases h7:f=7
 ·rw[hR7 h3 h7];subst h7;obtain⟨⟨kid,rfl⟩,rfl,rfl⟩:=cO hx.q (.inr (.inr rfl));obtain⟨k1,k2,k3⟩:=hx.tkid (x:=kid) ζ;have hs0:¬s=[]:=((aT.1 hx.q).1.2.1 rfl).2
  have hk:=ab d (s::U) kid G (le_refl _) (le_refl _) (fun v hv=>κ _ hv) (by rw[Ag];omega) (fun h=>(Ao.1 h).elim (fun e=>hs0 e.symm) hv.z) k1 (by omega);refine aC (sg rfl (aA rfl (fun hb=>absurd (ψ hb) h3) (fun _=>sg rfl (aA rfl (fun _=>skh 6 [(3,.row 0 (aB kid))] rfl (kc hk ?_)) (fun hb=>by simp[Core.form] at hb)))));exact kz 4 rfl (aI (iT trw))
 rw[hRk h3 h7];clear hR3 hR7 hRk;refine AWp.cut (mk [(0,.one (.vp 900 0)),(2,I .i64 d),(4,.one (.vp 4 0)),(6,.one (.vp 6 0))] [(900,.var 99 [.c (.sl 8 (m.fields.map j8)),.c (.sl 15 (m.binds.map bB)),.c (.int .i64 G)]),(4,.var 37 (bA (.mk f i s t ks bs al))),(6,.var 54 [.c (.int .i64 0),.c (.int .i64 0),.c (.str []),.c .nl])]) ?_ ?_
 ·exact aC (sg rfl (aA rfl (fun hb=>absurd (ψ hb) h3) (fun _=>sg rfl (aA rfl (fun hb=>absurd (ψ hb) h7) (fun _=>aD sl)))))
 cases Y:gvC (.mk f i s t ks bs al) with
 | none=>
  rw[Y] at hgv;have N:=aAs m.fields (by omega) [];refine sgh [(1,.pc (xG none))] rfl (sk 6 rfl (kc N ?_));exact kz 1 rfl (a8 (sgh [(2,.bv true),(5,.bv true),(6,.bv true),(19,.bv true)] rfl (aA rfl (fun _=>sg rfl (aI (iT trw))) nofun)))
 | some p=>
  obtain⟨cs,l⟩:=p;obtain⟨gst,o4⟩:=aUf _ _ (le_refl _) hx cs l Y;have gtl:=aX4 _ _ (le_refl _) hx cs l Y;rw[Y] at hgv;have N:=aAs m.fields (by omega) cs;unfold aBy;dsimp only;rcases sG (fun x:Fld=>decide (x.name=cs)) m.fields 0 with⟨k,fl,h1,h2,h3'⟩ | ⟨h1,h3'⟩
  ·rw[h1,Be] at N;rw[h3'];dsimp only;have hfl':=bM j8 h2;have hk0:decide (((k:Nat):Int)<0)=false:=Al (by omega);have hlk:(l.map aB).length=l.length:=θ _;have hkf:=(Ab.1 h2).1
   refine sgh [(1,.pc (xG (some (cs,l))))] rfl (sk 6 rfl (kc N ?_));refine kz 1 rfl (a8 (sgh [(2,.bv false),(5,.bv false),(6,.bv false),(15,.row k (j8 fl)),(19,.bv false)] rfl ?_));by_cases ha:¬(l.length:Int)=fl.arity
   ·rw[ξ ha];exact aA rfl (fun _=>sg rfl (aI (iT trw))) (fun hb=>absurd hb (by simp[hlk,ha]))
   rw[φ ha];have ha:(l.length:Int)=fl.arity:=by omega
   refine aA rfl (fun hb=>absurd hb (by simp[ha])) (fun _=>aD ?_);have hlen:l.length≤10000000:=by have:=aLg l;omega
   have hvl:=fun k=>r9 (f:=fun F c=>eO m g (d-1) F c) (l.take k) G
   refine sg rfl (AWp.sub (Sub.ownCell (x:=14) (k:=3) (id:=720) 54 4 rfl rfl rfl) ?_);refine a8 (sg rfl (aC (aL (fun k:Nat=>mk [(0,.one (.vp 900 0)),(2,I .i64 d),(6,.one (.vp 6 0)),(14,.one (.vp 14 0)),(102,.one (.c (.sl 10 (l.map aB)))),(103,I .i64 ((l.map aB).length:Int)),(104,I .i64 k)] [(900,.var 99 [.c (.sl 8 (m.fields.map j8)),.c (.sl 15 (m.binds.map bB)),.c (.int .i64 ((dB (fun F c=>eO m g (d-1) F c) G (l.take k)).2.1:Nat))]),(6,.var 54 [.c (.int .i64 0),.c (.int .i64 0),.c (.str []),.c .nl]),(14,.var 54 [.c (.int .i64 1),.c (.int .i64 0),.c (.str cs),.hs 720 0 (dB (fun F c=>eO m g (d-1) F c) G (l.take k)).1.length (dB (fun F c=>eO m g (d-1) F c) G (l.take k)).1.length]),(720,.arr 54 4 ((dB (fun F c=>eO m g (d-1) F c) G (l.take k)).1.map kP) 0)]) (fun k=>k≤l.length∧(dB (fun F c=>eO m g (d-1) F c) G (l.take k)).2.2=0) (fun k=>l.length-k) 0 ⟨Aj _,rfl⟩ sl ?_)));rintro q ⟨hq,Z⟩;refine sg rfl (a8 (aA rfl (fun hb=>?_) (fun hb=>?_)))
   ·have hlt:=ltD hb hlk;obtain⟨y,hy⟩:=aJ hlt;have hy':=bM aB hy;have hym:=η hy;have hle2:=vZ (fun F c=>w3 (md:=m) g (d-1) F c) (l.take q) G;have hk:=ab (d-1) U y (dB (fun F c=>eO m g (d-1) F c) G (l.take q)).2.1 (by omega) hle2 (fun v hv=>hv) (by have:=gtl y hym;omega) hv.z (gst y hym) (by have:=wD (g:=m30) hym;omega);rw[←hdi] at hk;have J:=u1 (f:=fun F c=>eO m g (d-1) F c) (x:=y) (l.take q) G Z;have htk:l.take (q+1)=l.take q++[y]:=by rw[Bh,hy];rfl
    rw[←htk] at J;have hvlq:=hvl q Z;rw[Au] at hvlq;generalize dB (fun F c=>eO m g (d-1) F c) G (l.take q)=T at *;obtain⟨vs,Fq,eq⟩:=T;dsimp only at hk J hvlq hle2 ⊢;generalize hT:eO m g (d-1) Fq y=r at *;obtain⟨rv,rF,re⟩:=r;dsimp only at hk J ⊢;have hmk:(vs.map kP).length=vs.length:=θ _;refine aD (a8 (aC (sgh [(0,.row q (aB y))] rfl (sk 4 rfl (kc hk ?_)))));refine kz 6 rfl ?_;by_cases O:re=0
    ·subst O;rw[ξ rfl] at J;refine a8 (sg rfl (aA rfl (fun hb=>by simp at hb) (fun _=>aD (ag [(3,.all)] rfl (ag [] rfl ⟨q+1,⟨hlt,by rw[J]⟩,by dsimp only;omega,?_⟩)))));dsimp only;rw[J];exact sl
    ·rw[φ O] at J;have htl:dB (fun F c=>eO m g (d-1) F c) G l=([],rF,re):=by
      have:=yO (f:=fun F c=>eO m g (d-1) F c) (r:=l.drop (q+1)) (l.take (q+1)) G (by rw[J];exact O);rwa [take_append_drop,J] at this
     rw[htl,φ O];exact a8 (sg rfl (aA rfl (fun _=>sg rfl (aI (iT trw))) (fun hb=>absurd hb (by simp[O]))))
   have hge:=geD hb hlk hq;subst hge;rw[An] at Z ⊢;rw[ξ Z];generalize dB (fun F c=>eO m g (d-1) F c) G l=T at *;obtain⟨vs,Fq,eq⟩:=T;dsimp only;have hmk:vs.length=(lU vs).length:=by rw[j7,θ]
   rw[←j7];refine aO (AWp.sub (Sub.freeze (id:=720) rfl) ?_);exact sg rfl (aI (iT trw))
  ·rw[h1] at N;rw[h3'];refine sgh [(1,.pc (xG (some (cs,l))))] rfl (sk 6 rfl (kc N ?_));exact kz 1 rfl (a8 (sgh [(2,.bv false),(5,.bv false),(6,.bv true),(19,.bv true)] rfl (aA rfl (fun _=>sg rfl (aI (iT trw))) nofun)))
end Go.Proofs.YtockgoadliilhaaGreatDoor
