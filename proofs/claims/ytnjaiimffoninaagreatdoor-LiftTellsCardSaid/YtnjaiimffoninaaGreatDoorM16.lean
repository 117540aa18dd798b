/-
  Texts Kt7 to Kt15 in one.
-/
import Derived.Test.YtnjaiimffoninaaGreatDoorM15
open List (all_eq_true append_assoc append_nil drop_length length_append length_cons length_eq_zero_iff length_map length_nil length_pos_of_mem length_set length_take map_append map_cons map_nil mem_append mem_cons mem_cons_of_mem mem_cons_self mem_flatMap mem_map mem_or_eq_of_mem_set mem_singleton nil_append nodup_append nodup_cons set_cons_succ set_cons_zero sum_nil take_length)
open Nat (le_add_right le_refl le_trans mul_le_mul mul_le_mul_left mul_le_mul_right not_lt zero_le)
namespace Go.Proofs.YtnjaiimffoninaaGreatDoor
open Go Go.AM
set_option maxRecDepth 20000
set_option maxHeartbeats 4000000
theorem aXi {y:Str}:∀{l:List (Str×Core)}{c:Core},(∀p∈l,ClF p.2)→y∈pfR (fS c l)→(y∈pfR c∧∀p∈l,¬y=p.1)∨Fc y
 | [],c,_,h=>.inl ⟨h,fun p hp=>(by cases hp)⟩
 | p::l,c,hl,h=>by
  rcases aXi (l:=l) (c:=nS c p.1 p.2) (fun q I=>hl q (χ _ I)) h with⟨g1,g2⟩ | g
  ·rcases pF _ c (le_refl _) g1 with⟨g3,g4⟩ | g3
   ·exact .inl ⟨g3,fun q I=>(Ac.1 I).elim (fun e=>by rw[e];exact g4) (g2 q)⟩
   ·exact .inr (hl p η _ g3)
  ·exact .inr g
theorem RL.fS2 {W:Wt}(hW:WOk W):∀(ns:List Str) (l l':List Core) (c c':Core),LR (RL W) l l'→(∀b∈l,pfR b=[])→(∀b∈l',ClF b)→(∀s∈ns,¬Fc s)→RL W c c'→RL W (fS c (ns.zip l)) (fS c' (ns.zip l'))
 | [],_,_,_,_,_,_,_,_,h=>h
 | _::_,[],l',_,_,hl,_,_,_,h=>by
  have:l'=[]:=Bc.1 hl.1.symm;subst this;exact h
 | s::ns,b::l,[],_,_,hl,_,_,_,_=>absurd hl.1 (by simp)
 | s::ns,b::l,b'::l',c,c',hl,h1,h2,hs,h=>by
  have hb:=hl.2 0 b b' rfl rfl;exact RL.fS2 hW ns l l' _ _ ⟨by simpa using hl.1,fun i x y hx q=>hl.2 (i+1) x y hx q⟩ (fun x hx=>h1 x (χ _ hx)) (fun x hx=>h2 x (χ _ hx)) (fun x hx=>hs x (χ _ hx))
   (RL.nS hW hb (h1 b η) (h2 b' η) (hs s η) h)
theorem aNe {names:List Str}{l:List Core}(h:names.length=l.length) {z:Str}(hz:z∈names):∃p∈names.zip l,z=p.1:=by
 obtain⟨i,hi⟩:=Bf hz;obtain⟨b,hb⟩:=aJ (l:=l) (k:=i) (by rw[←h];exact(ξ.1 hi).1);exact⟨(z,b),δ (i:=i) (by rw[Bo];exact⟨hi,hb⟩),rfl⟩
theorem a6a {N:Str→Prop}{l:List (Str×Core)}{c:Core}(hc:bU (LQ N) c) (hl:∀p∈l,bU (LQ N) p.2):bU (LQ N) (fS c l):=aH3 hc hl
theorem aOr {W:Wt}(hW:WOk W) {names:List Str}{l l':List Core}{c c':Core}(h1:names.length=l.length) (I:names.length≤12) (hn:∀x∈names,N6 x) (J:LR (RL W) l l') (hc:bU (LQ N6) c) (O:bU (LQ N7) c') (hf:∀z∈pfR c,z∈names) (Z:∀z∈pfR c',z∈names∨Fc z) (hm:m30 c≤500000000) (hm':m30 c'≤500000000)
  (hl:∀b∈l,bU (LQ N6) b∧pfR b=[]∧iN b) (q:∀b∈l',bU (LQ N7) b∧ClF b∧(pfR b).length≤1100000000) (hi:iN c) (h:RL W c c'):
  RL W (qM c names l) (qM c' names l')∧(bU (LQ N6) (qM c names l)∧pfR (qM c names l)=[]∧iN (qM c names l))∧bU (LQ N7) (qM c' names l')∧ClF (qM c' names l'):=by
 have h1':names.length=l'.length:=h1.trans J.1;have e:=aJh h1 I hn (sK (aCb _ _ (le_refl _) hc)) (le_trans (aDc c) (by omega)) fun b hb=>⟨sK (aCb _ _ (le_refl _) (hl b hb).1),.nil (hl b hb).2.1,aS6 (hl b hb).1,by rw[(hl b hb).2.1];simp⟩
 have e':=aJh h1' I hn (sK O) (le_trans (aDc c') (by omega)) fun b hb=>⟨sK (q b hb).1,(q b hb).2.1,aS6 (q b hb).1,(q b hb).2.2⟩
 have hz:∀p∈names.zip l,p.2∈l:=fun p hp=>(List.of_mem_zip (a:=p.1) (b:=p.2) hp).2
 have Y:∀p∈names.zip l',p.2∈l':=fun p hp=>(List.of_mem_zip (a:=p.1) (b:=p.2) hp).2
 rw[e,e'];refine⟨RL.fS2 hW names l l' c c' J (fun b hb=>(hl b hb).2.1) (fun b hb=>(q b hb).2.1) (fun s hs=>(aF8 (hn s hs)).2) h,⟨a6a hc fun p hp=>(hl _ (hz p hp)).1,pM fun z y=>?_,a4b _ _ hi fun p hp=>(hl _ (hz p hp)).2.2⟩,a6a O fun p hp=>(q _ (Y p hp)).1,fun z y=>?_⟩
 ·obtain⟨g1,g2⟩:=a3s (fun p hp=>(hl _ (hz p hp)).2.1) y;obtain⟨p,hp,e⟩:=aNe h1 (hf z g1);exact g2 p hp e
 ·rcases aXi (fun p hp=>(q _ (Y p hp)).2.1) y with⟨g1,g2⟩ | g
  ·rcases Z z g1 with g | g
   ·obtain⟨p,hp,e⟩:=aNe h1' g;exact absurd e (g2 p hp)
   ·exact g
  ·exact g
section
variable {W:Wt}{w bx:List Bind}
theorem RL.lam_inv {n:Int}{s:Str}{t:Ty}{d z:Core}(h:RL W (.mk 5 n s t [d] [] []) z) (hz:z.form=5):∃n' s' t' q,z=.mk 5 n' s' t' [q] [] []∧(s=s'∨(¬s∈pfR d∧¬s'∈pfR q∧¬Fc s'))∧RL W d q:=by
 generalize hx:Core.mk 5 n s t [d] [] []=x at h;cases h with
 | var s=>cases hz
 | node h1 h5=>exact absurd hz h5
 | lam hs hb=>cases hx;exact⟨_,_,_,_,rfl,hs,hb⟩
 | comb hW hl ha hY=>
  rename_i f args ps b;rcases vZ args (vC f) (.inl rfl) with g | g<;>rw[g] at hz<;>exact absurd hz (by decide)
theorem aQ7 {bd:List Bind}{n:Int}{s:Str}{t:Ty}{a b:Core}(h5:¬a.form=5) (hs:shE a=true):Det bd (.mk 4 n s t [a,b] [] []) (zC,51):=by
 intro j hj;obtain⟨i,rfl⟩:=jS hj;rw[iJ,θ (by decide),κ rfl];show(if a.form=5 then _ else if ¬shE a=true then _ else(zC,(51:Int)))=_;rw[θ h5,θ (by rw[hs];simp)]
theorem aQ6 {bd:List Bind}{n:Int}{s:Str}{t:Ty}{a:Core}{bs:List Bind}:Det bd (.mk 8 n s t [a] bs []) (qM a (bs.map Bind.name) (bs.map (lM bs)),0):=by
 intro j hj;obtain⟨i,rfl⟩:=jS hj;rw[iJ,θ (by decide),θ (by decide),κ rfl];rfl
theorem qA {bd:List Bind}{n:Int}{s:Str}{t:Ty}{a:Core}{al:List Alt}(hs:shE a=true):Det bd (.mk 9 n s t [a] [] al) (match al.findSome? fun x=>tkE qM x a with | some r=>(r,0) | none=>(zC,52)):=by
 intro j hj;obtain⟨i,rfl⟩:=jS hj;rw[iJ,θ (by decide),θ (by decide),θ (by decide),κ rfl];show(if ¬shE a=true then _ else _)=_;rw[θ (by rw[hs];simp)];rfl
theorem aBl {bd:List Bind}{n:Int}{s:Str}{t:Ty}{a b:Core}(ha:shE a=true) (hb:shE b=true):Det bd (.mk 10 n s t [a,b] [] []) (if a.form=3∧b.form=3 then gP s a.n b.n else(zC,51)):=by
 intro j hj;obtain⟨i,rfl⟩:=jS hj;rw[iJ,θ (by decide),θ (by decide),θ (by decide),θ (by decide),κ rfl];show(if ¬shE a=true then _ else if ¬shE b=true then _ else _)=_;rw[θ (by rw[ha];simp),θ (by rw[hb];simp)];rfl
theorem aE5 {bd:List Bind}{f n:Int}{s:Str}{t:Ty}{ks:List Core}{bs:List Bind}{al:List Alt}(h1:¬f=1) (h4:¬f=4) (y:¬f=8) (I:¬f=9) (q:¬f=10):Det bd (.mk f n s t ks bs al) (zC,if f=11 then 52 else 51):=by
 intro j hj;obtain⟨i,rfl⟩:=jS hj;rw[iJ,θ h1,θ h4,θ y,θ I,θ q];split<;>rfl
theorem Det.eq {bd:List Bind}{c:Core}{p q:CE}(h:Det bd c p) (k:Det bd c q):p=q:=(h _ (le_refl _)).symm.trans (k _ (le_refl _))
theorem Sm.bind {x y:Core}{p:CE}(hd:Det bx x p) (h:Rto w (fun z=>Sm W w bx x z) y):Sm W w bx x y:=by
 obtain⟨r,e⟩:=p;refine⟨r,e,hd,fun he=>?_,fun he=>?_⟩
 ·by_cases hb:6000<eO r
  ·exact .inl hb
  ·refine .inr (h.bind fun z ⟨I,J,q,g1,_⟩=>?_);have:=hd.eq q;cases this;exact(g1 he).resolve_left hb
 ·refine h.bind fun z ⟨I,J,q,_,g2⟩=>?_
  have:=hd.eq q;cases this;exact g2 he
theorem XO.of' {r:Core}(h:bU (LQ N6) r∧pfR r=[]∧iN r) (hb:¬6000<eO r):XO r:=.of h.1 h.2.1 h.2.2 (not_lt.1 hb)
theorem aUj {s:Str}{a b:Int}(h:(gP s a b).2=0):RL W (gP s a b).1 (gP s a b).1∧XO (gP s a b).1∧YO (gP s a b).1:=by
 have leaf:∀(f n:Int) (z:Str),¬f=1→¬f=5→¬f=6→¬f=7→¬f=4→¬f=10→¬f=8→¬f=9→z.length≤30→(f=3→i64 n)→RL W (.mk f n z zTy [] [] []) (.mk f n z zTy [] [] [])∧XO (.mk f n z zTy [] [] [])∧YO (.mk f n z zTy [] [] []):=by
  intro f n z g1 g5 g6 g7 g4 g10 g8 g9 I J;have q:∀N:Str→Prop,bU (LQ N) (.mk f n z zTy [] [] []):=fun N=>by
   refine aM.2 ⟨⟨⟨⟨?_,fun e=>absurd e g7,rfl,by simp,?_,fun e=>absurd e g5,by simp,by simp⟩,fun e=>absurd e g5,by simp,by simp⟩,⟨g7,rfl,by simp⟩,g6⟩,by simp,by simp,by simp⟩
   ·simp only[length_nil,Co];unfold okF;rw[θ (by omega),θ (by omega),θ g8,θ g9];rfl
   ·have:=aNi I;unfold lw;simp only[Co,sum_nil];omega
  have hp:pfR (.mk f n z zTy [] [] [])=[]:=pM fun y O=>by
   rcases(cZ g1).1 O with⟨p,hp,_⟩ | ⟨a,ha,_⟩
   ·cases hp
   ·cases ha
  have hs:eO (.mk f n z zTy [] [] [])≤6000:=by simp only[eO,dO,mF,mG];omega
  exact⟨.node g1 g5 rfl (fun i x y hx=>(by cases hx)) rfl (fun i x y hx=>(by cases hx)) rfl (fun i x y hx=>(by cases hx)) (fun i x y hx=>(by cases hx)),.of (q _) hp (jP.2 ⟨J,by simp,by simp,by simp⟩) hs,.of (q _) (.nil hp) hs⟩
 have hi:∀m,RL W (aGb (IntKind.i64.wrap m)) (aGb (IntKind.i64.wrap m))∧XO (aGb (IntKind.i64.wrap m))∧YO (aGb (IntKind.i64.wrap m)):=fun m=>leaf 3 _ [] (by decide) (by decide) (by decide) (by decide) (by decide) (by decide) (by decide) (by decide) (by decide) fun _=>by
  rw[IntKind.wrap_i64];unfold i64
  try unfold RowKit.wrap64
  omega
 have ht:∀c,RL W (aNm c) (aNm c)∧XO (aNm c)∧YO (aNm c):=fun c=>by cases c<;>exact leaf 2 0 _ (by decide) (by decide) (by decide) (by decide) (by decide) (by decide) (by decide) (by decide) (by decide) fun e=>absurd e (by decide)
 unfold gP at h ⊢
 repeat' split
 all_goals first | exact hi _ | exact ht _ | (exfalso;simp_all)
end
theorem aX0 {α β:Type}{R:β→β→Prop}{g q:α→Option β}:∀{l l':List α},l.length=l'.length→(∀(i:Nat) (x y:α),l[i]?=some x→l'[i]?=some y→(g x=none∧q y=none)∨∃r r',g x=some r∧q y=some r'∧R r r')→
  (l.findSome? g=none∧l'.findSome? q=none)∨∃r r',l.findSome? g=some r∧l'.findSome? q=some r'∧R r r'
 | [],[],_,_=>.inl ⟨rfl,rfl⟩
 | [],_::_,h,_=>by cases h
 | _::_,[],h,_=>by cases h
 | x::l,y::l',h,I=>by
  rcases I 0 x y rfl rfl with⟨h1,h2⟩ | ⟨r,r',h1,h2,h3⟩
  ·rw[C5,C5,h1,h2];exact aX0 (by simpa using h) fun i x y hx J=>I (i+1) x y hx J
  ·rw[C5,C5,h1,h2];exact .inr ⟨r,r',rfl,rfl,h3⟩
theorem aNy {N:Str→Prop}:∀(k:Nat) (x:Core),aQ x≤k→bU (LQ N) x→∀a∈spA x,bU (LQ N) a∧(∀z∈pfR a,z∈pfR x)∧m30 a≤m30 x∧(iN x→iN a)
 | 0,x,h,_=>by have:=bH x;omega
 | k+1,.mk f n s t ks bs al,h,y=>by
  intro c hc;obtain⟨I,_⟩:= @dL f n s t ks bs al;by_cases h4:f=4
  ·subst h4;obtain⟨⟨a,b,rfl⟩,rfl,rfl⟩:=zA y (.inl rfl);have J:spA (.mk 4 n s t [a,b] [] [])=spA a++[b]:=by rw[spA,κ rfl,a1v]
   rw[J] at hc;have hm:∀x∈[a,b],m30 x≤m30 (.mk 4 n s t [a,b] [] []):=fun x hx=>by have:=iR hx;rw[m30];omega
   have hp:∀x∈[a,b],∀z∈pfR x,z∈pfR (.mk 4 n s t [a,b] [] []):=fun x hx z hz=>(cZ (by decide)).2 (.inl ⟨x,by simpa using hx,hz,by simp[gvN]⟩)
   have q:=(aM.1 y).2.1
   rcases ω.1 hc with hc | hc
   ·obtain⟨g1,g2,g3,g4⟩:=aNy k a (by have:=I a η;omega) (q a η) c hc;exact⟨g1,fun z hz=>hp a η z (g2 z hz),le_trans g3 (hm a η),fun hi=>g4 ((jP.1 hi).2.1 a η)⟩
   ·rw[Ab.1 hc];exact⟨q b (by simp),hp b (by simp),hm b (by simp),fun hi=>(jP.1 hi).2.1 b (by simp)⟩
  ·rw[spA,θ h4] at hc;cases hc
section
variable {W:Wt}{w bx:List Bind}
theorem a2l (hW:WOk W) {n n':Int}{s s':Str}{t t':Ty}{a z:Core}{al al':List Alt}(hx:XO (.mk 9 n s t [a] [] al)) (hy:YO (.mk 9 n' s' t' [z] [] al')) (hA:AR (RL W) al al') (ha:shE a=true) (hz:RL W a z) (hf:z.form=a.form) (hn:a.form=3→z.n=a.n):
  (al.findSome? (fun x=>tkE qM x a)=none∧al'.findSome? (fun x=>tkE qM x z)=none)∨∃r r',al.findSome? (fun x=>tkE qM x a)=some r∧al'.findSome? (fun x=>tkE qM x z)=some r'∧(RL W r r'∧(bU (LQ N6) r∧pfR r=[]∧iN r)∧bU (LQ N7) r'∧ClF r'):=by
 have Y:XO a:=hx.kid (by decide) rfl η;have aa:YO z:=hy.kid (by decide) rfl η;obtain⟨_,_,_,hv⟩:=aB6 (oA hx.q);obtain⟨qx1,_,_,qx4⟩:=aM.1 hx.q;obtain⟨_,_,_,qy4⟩:=aM.1 hy.q;obtain⟨_,_,_,ab⟩:=jP.1 hx.i;refine aX0 hA.1 fun i x y ac ad=>?_
 have I:=δ ac;have Z:=δ ad;obtain⟨h1,h2,h3,h4⟩:=hA.2.1 i x y ac ad;have hr:=hA.2.2 i x y ac ad;have hpx:∀u∈pfR x.body,u∈x.vars:=fun u hu=>Classical.byContradiction fun hno=>by
  have:u∈pfR (.mk 9 n s t [a] [] al):=(cZ (by decide)).2 (.inr ⟨x,I,hu,hno⟩)
  rw[hx.c] at this;cases this
 have hpy:∀u∈pfR y.body,u∈x.vars∨Fc u:=fun u hu=>by
  by_cases e:u∈y.vars
  ·exact .inl (by rw[h4];exact e)
  ·exact .inr (hy.c u ((cZ (by decide)).2 (.inr ⟨y,Z,hu,e⟩)))
 have eS:tkS y z=tkS x a:=by
  unfold tkS;rw[h1,h2,hf];by_cases e:a.form=3
  ·rw[hn e]
  ·rw[Ag e];simp
 unfold tkE;rw[eS];by_cases J:tkS x a=true
 ·rw[κ J,κ J];have hv0:x.vars=[]:=by
   rcases(ab x I).1 with g | g
   ·unfold tkS at J;rw[g] at J;exact absurd J (by simp)
   ·exact g
  refine .inr ⟨x.body,y.body,rfl,rfl,hr,⟨qx4 x I,pM fun u hu=>(by have:=hpx u hu;rw[hv0] at this;cases this),(ab x I).2⟩,qy4 y Z,fun u hu=>(hpy u hu).resolve_left (by rw[hv0];simp)⟩
 rw[θ J,θ J];by_cases e2:(spH a).form=2
 ·obtain⟨g1,g2,g3⟩:=aCm _ a (le_refl _) Y.q z hz e2;have eC:tkC y z=tkC x a:=by
   unfold tkC;rw[h1,g1,g2,h3,h4,e2,←g3.1]
  rw[eC];by_cases O:tkC x a=true
  ·rw[κ O,κ O];have hl:(spA a).length=x.vars.length:=by
    unfold tkC at O;simp only[ζ,A4] at O;exact O.2.2.2
   have hmx:=k7 I;have hmy:=k7 Z;have hM:=hx.m;have hM':=hy.m;rw[m30] at hM hM';have hput:=aOr hW (names:=x.vars) (l:=spA a) (l':=spA z) (c:=x.body) (c':=y.body) hl.symm (hv x I) (fun v hv'=>(aM8 (sK hx.q)).2 x I v hv') g3 (qx4 x I) (qy4 y Z) hpx hpy (by omega) (by omega)
    (fun b hb=>by
     obtain⟨k1,k2,_,k4⟩:=aNy _ a (le_refl _) Y.q b hb
     exact⟨k1,pM fun u hu=>(by have:=k2 u hu;rw[Y.c] at this;cases this),k4 Y.i⟩)
    (fun b hb=>by
     obtain⟨k1,k2,k3,_⟩:=aNy _ z (le_refl _) aa.q b hb
     exact⟨k1,fun u hu=>aa.c u (k2 u hu),by have:=aDc b;have:=aa.m;omega⟩) (ab x I).2 hr
   rw[←h4];exact .inr ⟨_,_,rfl,rfl,hput⟩
  ·rw[θ O,θ O];exact .inl ⟨rfl,rfl⟩
 ·have hzf:¬(spH z).form=2:=by
   have h35:a.form=5∨a.form=3:=by
    rcases aTy ha with g | g | g
    ·exact .inl g
    ·exact .inr g
    ·exact absurd g e2
   obtain⟨f0,n0,s0,t0,k0,b0,a0⟩:=z;have hf:f0=a.form:=hf;rw[spH,θ (by rcases h35 with g | g<;>omega)];show ¬f0=2;rcases h35 with g | g<;>omega
  have c1:tkC x a=false:=by unfold tkC;rw[Ag e2];simp
  have c2:tkC y z=false:=by unfold tkC;rw[Ag hzf];simp
  rw[c1,c2];exact .inl ⟨rfl,rfl⟩
theorem aP4 {N:Str→Prop}{i:Int}{s:Str}{t:Ty}{ks:List Core}{bs:List Bind}{al:List Alt}(h:bU (LQ N) (.mk 8 i s t ks bs al)) {b:Bind}(hb:b∈bs):bU (LQ N) (lM bs b):=by
 obtain⟨⟨⟨⟨g1,g2,g3,g4,g5,g6,g7,g8⟩,J,I,O⟩,⟨Y,z2,z3⟩,Z⟩,_,q,_⟩:=aM.1 h;have y:w30 ([]:Str)=30:=rfl;unfold lM;refine aM.2 ⟨⟨⟨⟨by simp[okF],fun e=>absurd e (by decide),rfl,g4,?_,fun e=>absurd e (by decide),g7,by simp⟩,fun e=>absurd e (by decide),I,by simp⟩,⟨by decide,rfl,z3⟩,by decide⟩,fun x hx=>by rw[Ab.1 hx];exact q b hb,q,by simp⟩;unfold lw at g5 ⊢;rw[y];have:=i6 s;simp only[Co,sum_nil];omega
theorem aP3 {i:Int}{s:Str}{t:Ty}{ks:List Core}{bs:List Bind}{b:Bind}(hb:b∈bs) {z:Str}(hz:z∈pfR (lM bs b)):z∈pfR (.mk 8 i s t ks bs []):=by
 unfold lM at hz;rcases(cZ (by decide)).1 hz with⟨p,hp,h1,h2⟩ | ⟨a,ha,_⟩
 ·refine(cZ (by decide)).2 (.inl ⟨p,?_,h1,by simpa [gvN] using h2⟩);rcases ω.1 hp with hp | hp
  ·rw[Ab.1 hp];exact ω.2 (.inr (Ah.2 ⟨b,hb,rfl⟩))
  ·exact ω.2 (.inr hp)
 ·cases ha
theorem a36 {bs:List Bind}{b:Bind}(hb:b∈bs):m30 (lM bs b)≤31+j9 bs+j9 bs:=by
 have q:w30 ([]:Str)=30:=rfl;have:=nQ hb;unfold lM;rw[m30,gM,gM,l7,q];omega
theorem sim (hW:WBk W w):∀(k:Nat) (x y:Core),m30 x≤k→RL W x y→XO x→YO y→shE x=false→Sm W w bx x y
 | 0,x,_,h,_,_,_,_=>by have:=jM x;omega
 | k+1,.mk f n s t ks bs al,y,hk,hr,hx,J,hs=>by
  obtain⟨s5,s3,s2⟩:=aY4 hs;have s5:¬f=5:=s5;have s3:¬f=3:=s3;have h1:¬f=1:=fun e=>by
   subst e;obtain⟨rfl,rfl,rfl⟩:=aLj hx.q;have:=hx.c;rw[pfR,κ rfl] at this;cases this
  obtain⟨t',ks',bs',al',rfl,hn⟩:=hr.inv h1 s5;by_cases h4:f=4
  ·subst h4;obtain⟨⟨a,b,rfl⟩,rfl,rfl⟩:=zA hx.q (.inl rfl);obtain⟨⟨Z,b',rfl⟩,rfl,rfl⟩:=zA J.q (.inl rfl);obtain⟨_,_,e,ra,rb⟩:=hn.k.two;cases e;have xa:=hx.kid (by decide) rfl (x:=a) η;have xb:=hx.kid (by decide) rfl (x:=b) (by simp);have ya:=J.kid (by decide) rfl (x:=Z) η;have yb:=J.kid (by decide) rfl (x:=b') (by simp);by_cases h5:a.form=5
   ·obtain⟨fa,na,sa,ta,kas,ba,ala⟩:=a;have h5:fa=5:=h5;subst h5;obtain⟨⟨d,rfl⟩,rfl,rfl,hsa⟩:=zB xa.q;have qd:=(aM.1 xa.q).2.1 d η;have id_:=(jP.1 xa.i).2.1 d η;have hpd:∀z∈pfR d,z=sa:=fun z hz=>Classical.byContradiction fun hno=>by
     have:z∈pfR (.mk 5 na sa ta [d] [] []):=(cZ (by decide)).2 (.inl ⟨d,by simp,hz,by simpa [gvN] using hno⟩)
     rw[xa.c] at this;cases this
    have O:Det bx (.mk 4 n s t [.mk 5 na sa ta [d] [] [],b] [] []) (nS d sa b,0):=aBm (sK qd) (fun z hz=>by rw[xb.c] at hz;cases hz) (aS6 xb.q);refine⟨nS d sa b,0,O,fun _=>?_,fun h=>absurd rfl h⟩;by_cases ac:6000<eO (nS d sa b)
    ·exact .inl ac
    ·refine .inr ?_
     have hxr:XO (nS d sa b):=.of (a1n qd xb.q) (pM fun z hz=>by
      rcases pF _ d (le_refl _) hz with⟨g1,g2⟩ | g
      ·exact g2 (hpd z g1)
      ·rw[xb.c] at g;cases g) (aQb xb.i _ d (le_refl _) id_) (not_lt.1 ac)
     refine(aKy hW ra rfl ya).ctx2 (a5t (w:=w) n s t' b') fun z ⟨z5,zr,zy⟩ _=>?_
     obtain⟨n2,s2,t2,d2,rfl,hss,hdd⟩:=zr.lam_inv z5;have qd2:=(aM.1 zy.q).2.1 d2 η;have hcl2:ClF (nS d2 s2 b'):=fun u hu=>by
      rcases pF _ d2 (le_refl _) hu with⟨g1,g2⟩ | g
      ·exact zy.c u ((cZ (by decide)).2 (.inl ⟨d2,by simp,g1,by simpa [gvN] using g2⟩))
      ·exact yb.c u g
     refine .one aN2 (aBm (sK qd2) yb.c.n7 (aS6 yb.q)) fun hsz2=>.done ⟨?_,.of (a1n qd2 yb.q) hcl2 hsz2,hxr⟩
     rcases hss with rfl | ⟨g1,g2,g3⟩
     ·exact RL.nS hW.ok rb xb.c yb.c (aF8 hsa).2 hdd
     ·rw[kG _ d (le_refl _) g1,kG _ d2 (le_refl _) g2];exact hdd
   ·cases I:shE a with
    | false=>
     exact aA4 (j:=0) (by decide) (by decide) hn hx J rfl rfl I (a5t n s t b) (a5t n s t' b') (sim hW k a Z (mW η hk) ra xa ya I)
    | true=>
     have h3:a.form=3:=by
      rcases aTy I with g | g | g
      ·exact absurd g h5
      ·exact g
      ·rw[zR] at s2;exact absurd g s2
     refine⟨zC,51,aQ7 h5 I,fun e=>absurd e (by decide),fun _=>?_⟩;obtain⟨fa,na,sa,ta,kas,ba,ala⟩:=a;have h3:fa=3:=h3;subst h3;obtain⟨t3,k3,b3,a3,rfl,_⟩:=ra.inv (by decide) (by decide);exact .done ⟨by rw[shA,spH,θ (by decide)];rfl,zC,aQ7 (by show ¬(3:Int)=5;decide) (by unfold shE;simp[Core.form])⟩
  by_cases h8:f=8
  ·subst h8;obtain⟨⟨a,rfl⟩,rfl,h12⟩:=aS5 (oA hx.q);obtain⟨⟨Z,rfl⟩,rfl,_⟩:=aS5 (oA J.q);obtain⟨_,e,ra⟩:=hn.k.one;cases e;have hbl:bs.length=bs'.length:=by have:=congrArg List.length hn.bn;rwa [φ,φ] at this
   obtain⟨_,qx2,qx3,_⟩:=aM.1 hx.q;obtain⟨_,qy2,qy3,_⟩:=aM.1 J.q;obtain⟨_,ix2,ix3,_⟩:=jP.1 hx.i;have hM:=hx.m;have hM':=J.m;rw[m30,gM,gM] at hM hM';have hLR:LR (RL W) (bs.map (lM bs)) (bs'.map (lM bs')):=by
    refine⟨by rw[φ,φ];exact hbl,fun i u v hu hv=>?_⟩;rw[Aq] at hu hv;obtain⟨b0,ab,rfl⟩:=Ar.1 hu;obtain⟨b1,hb1,rfl⟩:=Ar.1 hv;unfold lM
    exact .node (by decide) (by decide) rfl (fun i x y hx J=>by
     cases i with
     | zero=>cases hx;cases J;exact hn.b _ _ _ ab hb1
     | succ i=>cases hx) hn.bn hn.b rfl (fun i x y hx=>(by cases hx)) fun i x y hx=>(by cases hx)
   have hput:=aOr hW.ok (names:=bs.map Bind.name) (l:=bs.map (lM bs)) (l':=bs'.map (lM bs')) (c:=a) (c':=Z) (by rw[φ,φ]) (by rw[φ];exact h12) (fun v hv=>(aM8 (sK hx.q)).1 v (by simpa [gvN] using hv)) hLR (qx2 a η) (qy2 Z η)
    (fun z hz=>Classical.byContradiction fun hno=>by
     have:z∈pfR (.mk 8 n s t [a] bs []):=(cZ (by decide)).2 (.inl ⟨a,by simp,hz,by simpa [gvN] using hno⟩)
     rw[hx.c] at this;cases this)
    (fun z hz=>by
     by_cases e:z∈bs.map Bind.name
     ·exact .inl e
     ·exact .inr (J.c z ((cZ (by decide)).2 (.inl ⟨Z,by simp,hz,by rw[←tC hn.bn];simpa [gvN] using e⟩)))) (by omega) (by omega)
    (fun u hu=>by
     obtain⟨b0,ab,rfl⟩:=Ah.1 hu
     exact⟨aP4 hx.q ab,pM fun z hz=>(by have:=aP3 (i:=n) (s:=s) (t:=t) (ks:=[a]) ab hz;rw[hx.c] at this;cases this),by unfold lM;exact jP.2 ⟨fun e=>absurd e (by decide),fun x hx=>by rw[Ab.1 hx];exact ix3 b0 ab,ix3,by simp⟩⟩)
    (fun u hu=>by
     obtain⟨b0,ab,rfl⟩:=Ah.1 hu
     exact⟨aP4 J.q ab,fun z hz=>J.c z (aP3 ab hz),by have:=aDc (lM bs' b0);have:=a36 ab;omega⟩) (ix2 a η) ra
   rw[show bs.map Bind.name=bs'.map Bind.name from hn.bn] at hput;have O:Det bx (.mk 8 n s t [a] bs []) (qM a (bs'.map Bind.name) (bs.map (lM bs)),0):=by rw[←hn.bn];exact aQ6
   refine⟨_,0,O,fun _=>?_,fun h=>absurd rfl h⟩;by_cases ac:6000<eO (qM a (bs'.map Bind.name) (bs.map (lM bs)))
   ·exact .inl ac
   ·exact .inr (.one (shN (by decide) (by decide) (by decide) (by decide)) aQ6 fun hsz2=>.done ⟨hput.1,.of hput.2.2.1 hput.2.2.2 hsz2,.of' hput.2.1 ac⟩)
  by_cases h9:f=9
  ·subst h9;obtain⟨⟨a,rfl⟩,rfl,_,_⟩:=aB6 (oA hx.q);obtain⟨⟨Z,rfl⟩,rfl,_,_⟩:=aB6 (oA J.q);obtain⟨_,e,ra⟩:=hn.k.one;cases e;have xa:=hx.kid (by decide) rfl (x:=a) η;have ya:=J.kid (by decide) rfl (x:=Z) η;cases I:shE a with
   | false=>exact aA4 (j:=0) (by decide) (by decide) hn hx J rfl rfl I (a0z n s t al) (a0z n s t' al') (sim hW k a Z (mW η hk) ra xa ya I)
   | true=>
    have hyz:∀z,YO z→(z=Z∨eO (.mk 9 n s t' [z] [] al')≤6000)→YO (.mk 9 n s t' [z] [] al'):=fun z hz Y=>by
     rcases Y with rfl | Y
     ·exact J
     ·exact .of (aLk (j:=0) (ks:=[Z]) J.q hz.q) (fun u hu=>(aJj (j:=0) (ks:=[Z]) (r:=z) (by decide) hu).elim (J.c u) (hz.c u)) Y
    have hsu:=tV hW ra xa ya I;refine Sm.bind (qA I) (hsu.ctx2 (a0z (w:=w) n s t' al') fun z ⟨z1,z2,z3,z4,z5⟩ Y=>.done ?_);have hnz:a.form=3→z.n=a.n:=fun e=>by rw[z3,θ (by rw[e];decide)]
    have hYz:=hyz z z5 Y;rcases a2l hW.ok hx hYz hn.a I z4 z2 hnz with⟨g1,g2⟩ | ⟨r,r',g1,g2,g3,g4,g5,g6⟩
    ·have O:=qA (bd:=bx) (n:=n) (s:=s) (t:=t) (al:=al) I;have aa:=qA (bd:=w) (n:=n) (s:=s) (t:=t') (al:=al') z1;rw[g1] at O;rw[g2] at aa;exact⟨zC,52,O,fun e=>absurd e (by decide),fun _=>.done ⟨shN (by decide) (by decide) (by decide) (by decide),zC,aa⟩⟩
    ·have O:=qA (bd:=bx) (n:=n) (s:=s) (t:=t) (al:=al) I;have aa:=qA (bd:=w) (n:=n) (s:=s) (t:=t') (al:=al') z1;rw[g1] at O;rw[g2] at aa;refine⟨r,0,O,fun _=>?_,fun h=>absurd rfl h⟩;by_cases ac:6000<eO r
     ·exact .inl ac
     ·exact .inr (.one (shN (by decide) (by decide) (by decide) (by decide)) aa fun hsz2=>.done ⟨g3,.of g5 g6 hsz2,.of' g4 ac⟩)
  by_cases h10:f=10
  ·subst h10;obtain⟨⟨a,b,rfl⟩,rfl,rfl⟩:=zA hx.q (.inr rfl);obtain⟨⟨Z,b',rfl⟩,rfl,rfl⟩:=zA J.q (.inr rfl);obtain⟨_,_,e,ra,rb⟩:=hn.k.two;cases e;have xa:=hx.kid (by decide) rfl (x:=a) η;have xb:=hx.kid (by decide) rfl (x:=b) (by simp);have ya:=J.kid (by decide) rfl (x:=Z) η;have yb:=J.kid (by decide) rfl (x:=b') (by simp);cases I:shE a with
   | false=>exact aA4 (j:=0) (by decide) (by decide) hn hx J rfl rfl I (aV8 n s t b) (aV8 n s t' b') (sim hW k a Z (mW η hk) ra xa ya I)
   | true=>
    have hy1:∀z,YO z→(z=Z∨eO (.mk 10 n s t' [z,b'] [] [])≤6000)→YO (.mk 10 n s t' [z,b'] [] []):=fun z hz Y=>by
     rcases Y with rfl | Y
     ·exact J
     ·exact .of (aLk (j:=0) (ks:=[Z,b']) J.q hz.q) (fun u hu=>(aJj (j:=0) (ks:=[Z,b']) (r:=z) (by decide) hu).elim (J.c u) (hz.c u)) Y
    have hsu:=tV hW ra xa ya I;cases hsb:shE b with
    | false=>
     have ihb:∀y',RL W b y'→YO y'→Sm W w bx b y':=fun y' hr J=>sim hW k b y' (mW (by simp) hk) hr xb J hsb
     obtain⟨r,e,hd,_⟩:=ihb b' rb yb;have O:Det bx (.mk 10 n s t [a,b] [] []) _:=(aK5 (w:=bx) n s t I).st b _ hsb hd;refine Sm.bind O (hsu.ctx2 (aV8 (w:=w) n s t' b') fun z ⟨z1,z2,z3,z4,z5⟩ Y=>.done ?_);have hYz:=hy1 z z5 Y;exact aA4 (j:=1) (by decide) (by decide) ⟨LR.set (j:=0) hn.k z4,hn.bn,hn.b,hn.a⟩ hx hYz rfl rfl hsb (aK5 n s t I) (aK5 n s t' z1) (ihb b' rb yb)
    | true=>
     refine Sm.bind (aBl I hsb) (hsu.ctx2 (aV8 (w:=w) n s t' b') fun z ⟨z1,z2,z3,z4,z5⟩ Y=>?_);have hYz:=hy1 z z5 Y;refine(tV hW rb xb yb hsb).ctx2 (aK5 (w:=w) n s t' z1) fun u ⟨u1,u2,u3,u4,u5⟩ hor2=>.done ?_
     have O:=aBl (bd:=bx) (n:=n) (s:=s) (t:=t) I hsb;have aa:=aBl (bd:=w) (n:=n) (s:=s) (t:=t') z1 u1;have hsY:shE (.mk 10 n s t' [z,u] [] [])=false:=shN (by decide) (by decide) (by decide) (by decide);by_cases h33:a.form=3∧b.form=3
     ·have en:z.n=a.n:=by rw[z3,θ (by rw[h33.1];decide)]
      have em:u.n=b.n:=by rw[u3,θ (by rw[h33.2];decide)]
      rw[κ h33] at O;rw[κ (by rw[z2,u2];exact h33),en,em] at aa;refine⟨(gP s a.n b.n).1,(gP s a.n b.n).2,O,fun e=>?_,fun e=>.done ⟨hsY,_,aa⟩⟩;obtain⟨o1,o2,o3⟩:=aUj (W:=W) e;have hdy':Det w (.mk 10 n s t' [z,u] [] []) ((gP s a.n b.n).1,0):=by rw[←e];exact aa
      exact .inr (.one hsY hdy' fun _=>.done ⟨o1,o3,o2⟩)
     ·rw[θ h33] at O;rw[θ (by rw[z2,u2];exact h33)] at aa;exact⟨zC,51,O,fun e=>absurd e (by decide),fun _=>.done ⟨hsY,zC,aa⟩⟩
  have s2':¬f=2:=by rw[spH,θ h4] at s2;exact s2
  refine⟨zC,if f=11 then 52 else 51,aE5 h1 h4 h8 h9 h10,fun e=>?_,fun _=>.done ⟨shN s5 s3 h4 s2',zC,aE5 h1 h4 h8 h9 h10⟩⟩;split at e<;>exact absurd e (by decide)
end
section
variable {W:Wt}{w bx:List Bind}
theorem zE {sf:Core→CE}{k n:Nat}{c:Core}(h:shE c=true):whE sf k n c=(c,n,0):=by
 cases k<;>rw[whE,κ h]
theorem aLm {sf:Core→CE}{k n:Nat}{c:Core}(h:shE c=false):whE sf (k+1) n c=if(sf c).2=0 then(if 6000<eO (sf c).1 then(zC,0,2) else whE sf k (n+1) (sf c).1) else(zC,0,(sf c).2):=by
 rw[whE,θ (by rw[h];exact An)]
theorem a6g {sf:Core→CE}{n:Nat}{c:Core}(h:shE c=false):whE sf 0 n c=(zC,0,3):=by
 rw[whE,θ (by rw[h];exact An)]
theorem aIa {P:Core→Prop}{y:Core}(h:Rto w P y):∀k m:Nat,(whE (sfE w) k m y).2.2=3∨(whE (sfE w) k m y).2.2=2∨∃k' q z,P z∧whE (sfE w) k m y=whE (sfE w) k' q z:=by
 induction h with
 | done h=>exact fun k m=>.inr (.inr ⟨k,m,_,h,rfl⟩)
 | @long y d hs hd hb=>
  intro k m;cases k with
  | zero=>rw[a6g hs];exact .inl rfl
  | succ k=>
   rw[aLm hs,hd.sf,κ rfl,κ hb];exact .inr (.inl rfl)
 | @step y d hs hd hb _ I=>
  intro k m;cases k with
  | zero=>rw[a6g hs];exact .inl rfl
  | succ k=>
   rw[aLm hs,hd.sf,κ rfl,θ (by show ¬6000<eO d;omega)];exact I k (m+1)
def ShS (a b:Core):Prop:=shE a=true∧bU (LQ N6) a∧iN a∧bU (LQ N7) b∧m30 a≤500000000∧m30 b≤500000000∧b.form=a.form∧(a.form=3→b.n=a.n)∧((spH a).form=2→(spH b).form=2∧(spH b).name=(spH a).name)
def aLl (X Y:Core×Nat×Int):Prop:=X.2.2=2∨X.2.2=3∨Y.2.2=2∨Y.2.2=3∨(X.2.2=Y.2.2∧(X.2.2=0→ShS X.1 Y.1))
theorem a14 (hW:WBk W w):∀(k n:Nat) (x y:Core),RL W x y→XO x→YO y→∀k' m:Nat,aLl (whE (sfE bx) k n x) (whE (sfE w) k' m y):=by
 intro k
 induction k with
 | zero=>
  intro n x y J hx O k' m;cases hs:shE x with
  | false=>rw[a6g hs];exact .inr (.inl rfl)
  | true=>
   rw[zE hs];rcases aIa (tV hW J hx O hs) k' m with h | h | ⟨k2,m2,z,⟨I,z2,z3,z4,z5⟩,h⟩
   ·exact .inr (.inr (.inr (.inl h)))
   ·exact .inr (.inr (.inl h))
   ·rw[h,zE I]
    exact .inr (.inr (.inr (.inr ⟨rfl,fun _=>⟨hs,hx.q,hx.i,z5.q,hx.m,z5.m,z2,fun e=>by have e:x.form=3:=e;rw[z3,θ (by rw[e];decide)],fun e=>by
     obtain⟨g1,g2,_⟩:=aCm _ x (le_refl _) hx.q z z4 e
     exact⟨g1,g2⟩⟩⟩)))
 | succ k Z=>
  intro n x y J hx O k' m;cases hs:shE x with
  | true=>
   rw[zE hs];rcases aIa (tV hW J hx O hs) k' m with h | h | ⟨k2,m2,z,⟨I,z2,z3,z4,z5⟩,h⟩
   ·exact .inr (.inr (.inr (.inl h)))
   ·exact .inr (.inr (.inl h))
   ·rw[h,zE I]
    exact .inr (.inr (.inr (.inr ⟨rfl,fun _=>⟨hs,hx.q,hx.i,z5.q,hx.m,z5.m,z2,fun e=>by have e:x.form=3:=e;rw[z3,θ (by rw[e];decide)],fun e=>by
     obtain⟨g1,g2,_⟩:=aCm _ x (le_refl _) hx.q z z4 e
     exact⟨g1,g2⟩⟩⟩)))
  | false=>
   obtain⟨r,e,hd,h0,h1⟩:=sim (bx:=bx) hW _ x y (le_refl _) J hx O hs;rw[aLm hs,hd.sf];by_cases he:e=0
   ·subst he;rw[κ rfl];rcases h0 rfl with hb | Y
    ·rw[κ hb];exact .inl rfl
    ·by_cases hb:6000<eO r
     ·rw[κ hb];exact .inl rfl
     ·rw[θ hb];rcases aIa Y k' m with h | h | ⟨k2,m2,z,⟨I,z2,z3⟩,h⟩
      ·exact .inr (.inr (.inr (.inl h)))
      ·exact .inr (.inr (.inl h))
      ·rw[h];exact Z (n+1) r z I z3 z2 k2 m2
   ·rw[θ he];rcases aIa (h1 he) k' m with h | h | ⟨k2,m2,z,⟨I,q,z2⟩,h⟩
    ·exact .inr (.inr (.inr (.inl h)))
    ·exact .inr (.inr (.inl h))
    ·rw[h];cases k2 with
     | zero=>rw[a6g I];exact .inr (.inr (.inr (.inl rfl)))
     | succ k2=>
      rw[aLm I,z2.sf,θ he];exact .inr (.inr (.inr (.inr ⟨rfl,fun h=>absurd h he⟩)))
theorem aTl (hW:WBk W w) {f:Str}{b c:Bind}(hb:bx.find? (fun b=>decide (b.name=f))=some b) (hc:w.find? (fun b=>decide (b.name=f))=some c) (y:RL W b.body c.body) (hx:bU (LQ N6) b.body∧pfR b.body=[]∧iN b.body) (q:bU (LQ N7) c.body∧ClF c.body) (k k':Nat):aLl (whE (sfE bx) (k+1) 0 (vC f)) (whE (sfE w) (k'+1) 0 (vC f)):=by
 have hs:shE (vC f)=false:=shN (by decide) (by decide) (by decide) (by decide);rw[aLm hs,aLm hs,(aHl (w:=bx) hb).sf,(aHl (w:=w) hc).sf,κ rfl,κ rfl];by_cases h1:6000<eO b.body
 ·rw[κ h1];exact .inl rfl
 by_cases h2:6000<eO c.body
 ·rw[κ h2];exact .inr (.inr (.inl rfl))
 rw[θ h1,θ h2];exact a14 hW k 1 _ _ y (.of' hx h1) (.of q.1 q.2 (not_lt.1 h2)) k' 1
end
def NmI (of:Str) (l:List Sup):Prop:=∀(i:Nat) (x:Sup),l[i]?=some x→x.name=dX of i
theorem NmI.snoc {of:Str}{l:List Sup}(h:NmI of l) (ps:List Str) (c:Core):NmI of (l++[⟨dX of l.length,ps,c⟩]):=fun i x hx=>by
 by_cases hi:i<l.length
 ·rw[Ax hi] at hx;exact h i x hx
 ·rw[Ao (by omega)] at hx;cases hj:i-l.length with
  | zero=>
   rw[hj] at hx;cases hx;show dX of l.length=dX of i;rw[show i=l.length by omega]
  | succ j=>rw[hj] at hx;cases hx
theorem xB {c:Core}:∀{l:List Sup}{k i:Nat}{x:Sup},(setBody l k c)[i]?=some x→∃y,l[i]?=some y∧x.name=y.name
 | [],k,i,x,h=>by rw[setBody] at h;cases h
 | y::l,0,i,x,h=>by
  rw[setBody] at h;cases i with
  | zero=>cases h;exact⟨y,rfl,rfl⟩
  | succ i=>exact⟨x,by simpa using h,rfl⟩
 | y::l,k+1,i,x,h=>by
  rw[setBody] at h;cases i with
  | zero=>cases h;exact⟨y,rfl,rfl⟩
  | succ i=>
   have h:(setBody l k c)[i]?=some x:=by simpa using h
   obtain⟨z,hz,e⟩:=xB h;exact⟨z,by simpa using hz,e⟩
theorem NmI.set {of:Str}{l:List Sup}(h:NmI of l) (k:Nat) (c:Core):NmI of (setBody l k c):=fun i x hx=>by
 obtain⟨y,q,e⟩:=xB hx;rw[e];exact h i y q
mutual
theorem uH (of:Str):∀(c:Core) (ch:Bool) (A:Str→Bool) (made:List Sup),NmI of made→NmI of (bO of ch c A made).2
 | .mk f n s t ks bs al,ch,A,made,h=>by
  rw[bO];split
  ·split
   ·exact aJr of ks A made h
   ·exact(aJr of ks _ _ (h.snoc _ _)).set _ _
  ·exact aDv of al _ _ (aDj of ks _ _ (aDp of bs _ _ h))
theorem aJr (of:Str):∀(l:List Core) (A:Str→Bool) (made:List Sup),NmI of made→NmI of (gQ of l A made).2
 | [],_,made,h=>by rw[gQ];exact h
 | c::_,A,made,h=>by rw[gQ];exact uH of c true A made h
theorem aDj (of:Str):∀(l:List Core) (A:Str→Bool) (made:List Sup),NmI of made→NmI of (bW of l A made).2
 | [],_,made,h=>by rw[bW];exact h
 | c::l,A,made,h=>by rw[bW];exact aDj of l A _ (uH of c false A made h)
theorem aDp (of:Str):∀(l:List Bind) (A:Str→Bool) (made:List Sup),NmI of made→NmI of (bL of l A made).2
 | [],_,made,h=>by rw[bL];exact h
 | .mk s t c::l,A,made,h=>by rw[bL];exact aDp of l A _ (uH of c false A made h)
theorem aDv (of:Str):∀(l:List Alt) (A:Str→Bool) (made:List Sup),NmI of made→NmI of (cD of l A made).2
 | [],_,made,h=>by rw[cD];exact h
 | .mk f n s vs c::l,A,made,h=>by rw[cD];exact aDv of l A _ (uH of c false _ made h)
end
theorem aBa {N:Str→Prop}:∀(k:Nat) (c:Core),aQ c≤k→bU (LQ N) c→ll c=true→∀G:Str→Bool,(∀z∈pfR c,G z=true)→eZ c G=true
 | 0,c,h,_=>by have:=bH c;omega
 | k+1,.mk f n s t ks bs al,h,Z=>by
  intro hl G I;obtain⟨J,O,Y,_⟩:= @dL f n s t ks bs al;obtain⟨⟨_,⟨z1,z2,z3⟩,e6⟩,q2,q3,q4⟩:=aM.1 Z;simp only[ll,ζ,B1,Br] at hl;obtain⟨l5,l1,l2,l3⟩:=hl;have lc:∀(l:List Core),aPx l=true→∀x∈l,ll x=true:=fun l=>by
   induction l with
   | nil=>intro _ x hx;cases hx
   | cons y l q=>
    intro h x hx;rw[aPx,ζ] at h;exact(Ac.1 hx).elim (fun e=>by rw[e];exact h.1) (q h.2 x)
  have lb:∀(l:List Bind),aPy l=true→∀x∈l,ll x.body=true:=fun l=>by
   induction l with
   | nil=>intro _ x hx;cases hx
   | cons y l q=>
    intro h x hx;obtain⟨a,b,c⟩:=y;rw[aPy,ζ] at h;exact(Ac.1 hx).elim (fun e=>by rw[e];exact h.1) (q h.2 x)
  have la:∀(l:List Alt),aPz l=true→∀x∈l,ll x.body=true:=fun l=>by
   induction l with
   | nil=>intro _ x hx;cases hx
   | cons y l q=>
    intro h x hx;obtain⟨a,b,c,d,e⟩:=y;rw[aPz,ζ] at h;exact(Ac.1 hx).elim (fun e=>by rw[e];exact h.1) (q h.2 x)
  rw[eZ,θ (by rw[z2];simp[l5,z1,e6,zTy,Ty.form])];by_cases h1:f=1
  ·rw[κ h1];exact I s (by rw[pfR,κ h1];exact Ab.2 rfl)
  ·rw[θ h1,rB,rA,rC];have hgv:gvs f s bs=gvN f s bs:=rfl;have hin:∀{p:Core} {z:Str},p∈ks++bs.map Bind.body→z∈pfR p→ext G (gvs f s bs) z=true:=fun {p z} hp hz=>by
    unfold ext;simp only[Bi,A4];by_cases e:z∈gvs f s bs
    ·exact .inr e
    ·exact .inl (I z ((cZ h1).2 (.inl ⟨p,hp,hz,e⟩)))
   simp only[ζ];refine⟨Au.2 fun b hb=>?_,Au.2 fun c hc=>?_,Au.2 fun a ha=>?_⟩
   ·rw[ζ];refine⟨aBa k b.body (by have:=O b hb;omega) (q3 b hb) (lb bs l2 b hb) _ fun z hz=>hin (ω.2 (.inr (Ah.2 ⟨b,hb,rfl⟩))) hz,Ae ?_⟩;have:=z3 (bhd b) (Ah.2 ⟨b,hb,rfl⟩);rw[show b.ty=(bhd b).2 from rfl,this];rfl
   ·exact aBa k c (by have:=J c hc;omega) (q2 c hc) (lc ks l1 c hc) _ fun z hz=>hin (ω.2 (.inl hc)) hz
   ·refine aBa k a.body (by have:=Y a ha;omega) (q4 a ha) (la al l3 a ha) _ fun z hz=>?_
    unfold ext;simp only[Bi,A4];by_cases e:z∈a.vars
    ·exact .inr e
    ·exact .inl (.inl (I z ((cZ h1).2 (.inr ⟨a,ha,hz,e⟩))))
section
variable {f n:Int}{s:Str}{t:Ty}{ks:List Core}{bs:List Bind}{al:List Alt}{L:List Str}
theorem q9 (h6:¬f=6) (q:¬f=7):aZ (.mk f n s t ks bs al)=.mk f n s zTy (ks.map aZ) (bs.map iC) (al.map pZ):=by
 rw[aZ,θ (fun h=>h.1.elim h6 q),lR,oS,lS]
theorem aMq {k:Core}(h:f=6∨f=7):aZ (.mk f n s t [k] bs al)=aZ k:=by
 rw[aZ,κ ⟨h,by simp⟩,dM];rfl
theorem aPf:∀s∈nm6,nh s:=by unfold nh;decide
def Er (L:List Str) (c:Core):Prop:=bU (LQ N6) c∧(∀x∈pfR c,x∈L)∧iN c
theorem Er.node (h1:¬f=1) (hl:LQ N6 f s zTy ks.length (bs.map bhd) (al.map ahd)) (hi:f=3→i64 n) (hk:∀x∈ks,Er (L++gvN f s bs) x) (hb:∀x∈bs,Er (L++gvN f s bs) x.body)
  (ha:∀a∈al,(a.form=1∨a.vars=[])∧Er (L++a.vars) a.body):Er L (.mk f n s zTy ks bs al):=by
 refine⟨aM.2 ⟨hl,fun x hx=>(hk x hx).1,fun x hx=>(hb x hx).1,fun x hx=>(ha x hx).2.1⟩,fun z hz=>?_,jP.2 ⟨hi,fun x hx=>(hk x hx).2.2,fun x hx=>(hb x hx).2.2,fun x hx=>⟨(ha x hx).1,(ha x hx).2.2.2⟩⟩⟩;rcases(cZ h1).1 hz with⟨p,hp,h2,h3⟩ | ⟨a,hm,h2,h3⟩
 ·have:z∈L++gvN f s bs:=by
   rcases ω.1 hp with hp | hp
   ·exact(hk p hp).2.1 z h2
   ·obtain⟨b,q,rfl⟩:=Ah.1 hp;exact(hb b q).2.1 z h2
  exact(ω.1 this).resolve_right h3
 ·exact(ω.1 ((ha a hm).2.2.1 z h2)).resolve_right h3
theorem a60 {nk:Nat}(hok:okF f nk 0 0=true) (q:¬f=7) (h6:¬f=6) (hs:s.length≤30) (h5:f=5→N6 s):LQ N6 f s zTy nk [] []:=by
 refine⟨⟨⟨hok,fun e=>absurd e q,rfl,by simp,?_,fun e=>aPf _ (h5 e),by simp,by simp⟩,h5,by simp,by simp⟩,⟨q,rfl,by simp⟩,h6⟩;have:=a1q hs;unfold lw;simp;omega
theorem Er.leaf (hok:okF f 0 0 0=true) (h1:¬f=1) (q:¬f=7) (h6:¬f=6) (h5:¬f=5) (hs:s.length≤30) (hi:f=3→i64 n):Er L (.mk f n s zTy [] [] []):=
 .node h1 (a60 hok q h6 hs fun e=>absurd e h5) hi (by simp) (by simp) (by simp)
theorem Er.two {a b:Core}(q:f=4∨f=10) (hs:s.length≤30) (ha:Er L a) (hb:Er L b):Er L (.mk f n s zTy [a,b] [] []):=by
 have y:gvN f s []=[]:=by unfold gvN;rw[θ (by omega)];rfl
 refine .node (by omega) (a60 (by unfold okF;rw[κ q];rfl) (by omega) (by omega) hs (by omega)) (by omega) (fun x hx=>?_) (by simp) (by simp);rw[y,A9];rcases Ac.1 hx with rfl | hx
 ·exact ha
 ·rw[Ab.1 hx];exact hb
theorem Er.lam {a:Core}(h:s∈nm6) (ha:Er (L++[s]) a):Er L (.mk 5 n s zTy [a] [] []):=by
 refine .node (by decide) (a60 rfl (by decide) (by decide) (by have:=pL s h;omega) fun _=>h) (fun e=>absurd e (by decide)) (fun x hx=>?_) (by simp) (by simp);rw[Ab.1 hx];exact ha
theorem a9x {s:Str}{vs:List Str}(h3:s.length≤8) (h4:∀x∈vs,x∈nm6) (h5:vs.length≤2):1+w30 s+(vs.map fun v=>1+w30 v).sum≤93:=by
 have y:=a1q (show s.length≤30 by omega);have I:=aGh (g:=fun v:Str=>1+w30 v) (K:=31) (l:=vs) fun v q=>by
  have:=a1q (show v.length≤30 by have:=pL _ (h4 v q);omega);omega
 omega
structure GA (a:Alt):Prop where
 s:a.name.length≤8
 v:∀x∈a.vars,x∈nm6
 l:a.vars.length≤2
 f:a.form=1∨a.vars=[]
theorem Er.case {a:Core}(ha:Er L a) (hl:al.length≤2) (q:∀x∈al,GA x∧Er (L++x.vars) x.body):Er L (.mk 9 0 [] zTy [a] [] al):=by
 refine .node (by decide) ⟨⟨⟨rfl,fun e=>absurd e (by decide),rfl,by simp,?_,fun e=>absurd e (by decide),by simp,fun p hp v y=>?_⟩,fun e=>absurd e (by decide),by simp,fun p hp v y=>?_⟩,⟨by decide,rfl,by simp⟩,by decide⟩ (fun e=>absurd e (by decide)) (fun x hx=>?_) (by simp) (fun x hx=>⟨(q x hx).1.f,(q x hx).2⟩)
 ·have:=aGh (g:=fun p:Str×List Str=>1+w30 p.1+(p.2.map fun v=>1+w30 v).sum) (K:=93) (l:=al.map ahd) fun p hp=>by
   obtain⟨x,hx,rfl⟩:=Ah.1 hp;exact a9x (q x hx).1.s (q x hx).1.v (q x hx).1.l
  rw[φ] at this;have I:93*al.length≤93*2:=Cy _ hl;unfold lw;show 1+w30 []+0+_≤403;have:w30 ([]:Str)=30:=rfl;omega
 ·obtain⟨x,hx,rfl⟩:=Ah.1 hp;exact aPf _ ((q x hx).1.v v y)
 ·obtain⟨x,hx,rfl⟩:=Ah.1 hp;exact(q x hx).1.v v y
 ·rw[Ab.1 hx];show Er (L++[]) a;rw[A9];exact ha
end
theorem GC.era {z:Bool}{L:List Str}{m:Nat}{c:Core}(h:GC z L m c):Er L (aZ c):=by
 induction h with
 | @var L s h hL=>
  rw[q9 (by decide) (by decide)];refine⟨aM.2 ⟨a60 rfl (by decide) (by decide) (by have:=pL s h;omega) (fun e=>absurd e (by decide)),by simp,by simp,by simp⟩,fun x hx=>?_,jP.2 ⟨fun e=>absurd e (by decide),by simp,by simp,by simp⟩⟩;rw[pfR,κ rfl] at hx;rw[Ab.1 hx];exact hL
 | con h=>rw[q9 (by decide) (by decide)];exact .leaf rfl (by decide) (by decide) (by decide) (by decide) (by omega) fun e=>absurd e (by decide)
 | int h=>rw[q9 (by decide) (by decide)];exact .leaf rfl (by decide) (by decide) (by decide) (by decide) (by simp) fun _=>by unfold i64;omega
 | app ha hb q y=>rw[q9 (by decide) (by decide)];exact .two (.inl rfl) (by simp) q y
 | lam h ht hk ha q=>rw[q9 (by decide) (by decide)];exact .lam h q
 | tc h ht hk=>rw[aMq (.inl rfl),q9 (by decide) (by decide)];exact .leaf rfl (by decide) (by decide) (by decide) (by decide) (by omega) fun e=>absurd e (by decide)
 | tc2 h hu hj ht hk=>rw[aMq (.inl rfl),aMq (.inl rfl),q9 (by decide) (by decide)];exact .leaf rfl (by decide) (by decide) (by decide) (by decide) (by omega) fun e=>absurd e (by decide)
 | tr hu hj hs hx ht hk ha hb q y=>
  rw[q9 (by decide) (by decide),At,At,aMq (.inl rfl),aMq (.inr rfl),q9 (by decide) (by decide)];exact .two (.inl rfl) (by simp) (.lam hx q) y
 | tlam _ h ha q=>rw[aMq (.inr rfl)];exact q
 | @lt L m n k s t a b h ht hk ha hb q y=>
  rw[q9 (by decide) (by decide)];have J:=a1q (show s.length≤30 by have:=pL s h;omega);refine .node (by decide) ⟨⟨⟨rfl,fun e=>absurd e (by decide),rfl,fun p hp=>?_,?_,fun e=>absurd e (by decide),fun p hp=>?_,by simp⟩,fun e=>absurd e (by decide),fun p hp=>?_,by simp⟩,⟨by decide,rfl,fun p hp=>?_⟩,by decide⟩ (fun e=>absurd e (by decide)) (fun x hx=>?_) (fun x hx=>?_) (by simp)
  ·rw[Ab.1 hp];rfl
  ·unfold lw;show 1+w30 []+(1+w30 s+0)+0≤403;have:w30 ([]:Str)=30:=rfl;omega
  ·rw[Ab.1 hp];exact aPf _ h
  ·rw[Ab.1 hp];exact h
  ·rw[Ab.1 hp];rfl
  ·rw[Ab.1 hx];exact q
  ·rw[Ab.1 hx];exact y
 | @case1 L m n k t a b f i s vs ht hk ha hb h1 h2 h3 h4 h5 h6 q y=>
  rw[q9 (by decide) (by decide)];refine .case q (by simp) fun x hx=>?_
  rw[Ab.1 hx];exact⟨⟨h3,h4,h5,h6⟩,y⟩
 | @case2 L m n o k t a b c f i s vs f' i' s' vs' ht hk ha hb hc h1 h2 h3 h4 h5 h6 h1' h2' h3' h4' h5' h6' q y I=>
  rw[q9 (by decide) (by decide)];refine .case q (by simp) fun x hx=>?_
  rcases Ac.1 hx with rfl | hx
  ·exact⟨⟨h3,h4,h5,h6⟩,y⟩
  ·rw[Ab.1 hx];exact⟨⟨h3',h4',h5',h6'⟩,I⟩
 | @prim L m n s a b h ha hb q y=>rw[q9 (by decide) (by decide)];exact .two (.inr rfl) (by have:=aC9 s h;omega) q y
 | fail ht hk=>rw[q9 (by decide) (by decide)];exact .leaf rfl (by decide) (by decide) (by decide) (by decide) (by simp) fun e=>absurd e (by decide)
def Fn (of:Str) (hi:Nat) (z:Str):Prop:=∃i,i<hi∧z=dX of i
theorem Fn.mono {of:Str}{a b:Nat}{z:Str}(h:Fn of a z) (k:a≤b):Fn of b z:=by
 obtain⟨i,h1,h2⟩:=h;exact⟨i,by omega,h2⟩
def FrN (of:Str) (hi:Nat) (new:List Sup):Prop:=∀x∈new,∀z∈pfR x.body,z∈x.params∨Fn of hi z
theorem FrN.mono {of:Str}{a b:Nat}{l:List Sup}(h:FrN of a l) (k:a≤b):FrN of b l:=fun x hx z hz=>(h x hx z hz).imp id fun h=>h.mono k
def FrR (of:Str) (p:Nat→Prop) (made out:List Sup):Prop:=∃new,out=made++new∧p out.length∧FrN of out.length new
theorem FrR.trans {of:Str}{p q:Nat→Prop}(hp:∀a b,a≤b→p a→p b) {a b c:List Sup}(h:FrR of p a b) (k:FrR of q b c):FrR of (fun n=>p n∧q n) a c:=by
 obtain⟨I,J,h1,f1⟩:=h;obtain⟨O,y,h2,f2⟩:=k;have hl:b.length≤c.length:=by rw[y,ε];omega
 refine⟨I++O,by rw[y,J,Aw],⟨hp _ _ hl h1,h2⟩,fun x hx=>?_⟩;rcases ω.1 hx with hx | hx
 ·exact f1.mono hl x hx
 ·exact f2 x hx
theorem FrR.imp {of:Str}{p q:Nat→Prop}{a b:List Sup}(h:FrR of p a b) (k:∀n,p n→q n):FrR of q a b:=by
 obtain⟨n,e,h1,f1⟩:=h;exact⟨n,e,k _ h1,f1⟩
theorem FrR.nil {of:Str}{p:Nat→Prop}{a:List Sup}(h:p a.length):FrR of p a a:=⟨[],by simp,h,by simp[FrN]⟩
mutual
theorem qW (of:Str):∀(c:Core) (ch:Bool) (A:Str→Bool) (made:List Sup),bU (LQ N6) c→(∀z∈pfR (if ch=true then bR c else c),A z=true)→
  FrR of (fun n=>∀z∈pfR (bO of ch c A made).1,A z=true∨Fn of n z) made (bO of ch c A made).2
 | .mk f n s t ks bs al,ch,A,made,h,q=>by
  by_cases h5:f=5
  ·subst h5;obtain⟨⟨k,ab⟩,ad,Y,hs⟩:=zB h;cases ks with
   | nil=>cases ab
   | cons I ks=>
    obtain⟨rfl,rfl⟩:=List.cons.inj ab;subst ad Y;have hk:=(aM.1 h).2.1 I η;have hN:aU (.mk 5 n s t [I] [] [])=s::aU I:=by rw[aU,κ rfl,dN]
    have hB:bR (.mk 5 n s t [I] [] [])=bR I:=by rw[bR,κ rfl,kI]
    cases ch with
    | true=>
     rw[κ rfl,hB] at q;rw[bO,κ rfl,κ rfl,gQ];exact qW of I true A made hk (by rw[κ rfl];exact q)
    | false=>
     rw[θ An] at q;rw[bO,κ rfl,θ An];dsimp only[gQ,dN];have Z:∀x,x∈eG A (.mk 5 n s t [I] [] []) (fun _=>false) []↔x∈pfR (.mk 5 n s t [I] [] []):=fun x=>by
      rw[pU _ _ (le_refl _) h];constructor
      ·rintro(O | O)
       ·cases O
       ·exact O.1
      ·exact fun O=>.inr ⟨O,q x O,rfl⟩
     generalize eG A (.mk 5 n s t [I] [] []) (fun _=>false) []=free at Z ⊢;have ac:=qB _ _ (le_refl _) h;rw[hN,hB] at ac;have hin:∀z∈pfR (bR I),z∈free++s::aU I:=fun z hz=>by
      by_cases hm:z∈s::aU I
      ·exact ω.2 (.inr hm)
      ·exact ω.2 (.inl ((Z z).2 ((ac z).2 ⟨hz,hm⟩)))
     obtain⟨new,e1,p1,fr⟩:=qW of I true (fun x=>decide (x∈free++s::aU I)) (made++[⟨dX of made.length,bG (free++s::aU I),gO⟩]) hk (by rw[κ rfl];exact fun z hz=>Ae (hin z hz));have hlen:made.length<(bO of true I (fun x=>decide (x∈free++s::aU I)) (made++[⟨dX of made.length,bG (free++s::aU I),gO⟩])).2.length:=by
      rw[e1];simp
     refine⟨[⟨dX of made.length,bG (free++s::aU I),(bO of true I (fun x=>decide (x∈free++s::aU I)) (made++[⟨dX of made.length,bG (free++s::aU I),gO⟩])).1⟩]++new,by rw[e1,qT,Aw],?_,?_⟩
     ·dsimp only;rw[fU];intro z hz;rw[nD,oT] at hz;rcases hz with hz | ⟨a,ha,hz⟩
      ·rw[show varC (dX of made.length)=vC (dX of made.length) from rfl,wH,Ab] at hz;exact .inr ⟨_,hlen,hz⟩
      ·obtain⟨y,hy,rfl⟩:=Ah.1 ha;rw[wH,Ab] at hz;exact .inl (by rw[hz];exact q y ((Z y).1 hy))
     ·rw[fU];intro x hx;rcases ω.1 hx with hx | hx
      ·rw[Ab.1 hx];exact fun z hz=>(p1 z hz).imp (fun g=>iV _ 0 z (ψ g)) id
      ·exact fr x hx
  ·have hcB:(if ch=true then bR (.mk f n s t ks bs al) else(.mk f n s t ks bs al))=.mk f n s t ks bs al:=by
    split
    ·rw[bR,θ h5]
    ·rfl
   rw[hcB] at q;rw[bO,θ h5];by_cases h1:f=1
   ·subst h1;obtain⟨rfl,rfl,rfl⟩:=aLj h;simp only[bW,bL,cD];exact FrR.nil fun z hz=>.inl (q z hz)
   ·obtain⟨_,q2,q3,q4⟩:=aM.1 h;have hin:∀{p:Core} {z:Str},p∈ks++bs.map Bind.body→z∈pfR p→ext A (gvs f s bs) z=true:=fun {p z} hp hz=>by
     unfold ext;simp only[Bi,A4];by_cases e:z∈gvs f s bs
     ·exact .inr e
     ·exact .inl (q z ((cZ h1).2 (.inl ⟨p,hp,hz,e⟩)))
    have g1:=aDr of bs (ext A (gvs f s bs)) made q3 (fun x hx z hz=>hin (ω.2 (.inr (Ah.2 ⟨x,hx,rfl⟩))) hz);have g2:=aDl of ks (ext A (gvs f s bs)) (bL of bs (ext A (gvs f s bs)) made).2 q2 (fun x hx z hz=>hin (ω.2 (.inl hx)) hz)
    have g3:=aDx of al (ext A (gvs f s bs)) (bW of ks (ext A (gvs f s bs)) (bL of bs (ext A (gvs f s bs)) made).2).2 q4 (fun x hx z hz=>by
     unfold ext;simp only[Bi,A4];by_cases e:z∈x.vars
     ·exact .inr e
     ·exact .inl (.inl (q z ((cZ h1).2 (.inr ⟨x,hx,hz,e⟩)))))
    have hnm:=rW of bs (ext A (gvs f s bs)) made;refine((g1.trans (fun a b J h x hx z hz=>(h x hx z hz).imp id fun h=>h.mono J) (g2.trans (fun a b J h x hx z hz=>(h x hx z hz).imp id fun h=>h.mono J) g3)).imp fun m ⟨a,b,c⟩ z hz=>?_);have aa:∀{z:Str},¬z∈gvN f s bs→ext A (gvs f s bs) z=true→A z=true:=fun {z} hn he=>by
     unfold ext at he;simp only[Bi,A4] at he;exact he.resolve_right hn
    rcases(cZ h1).1 hz with⟨p,hp,h2,h3⟩ | ⟨x,hx,h2,h3⟩
    ·rw[tC hnm] at h3;rcases ω.1 hp with hp | hp
     ·exact(b p hp z h2).imp (aa h3) id
     ·obtain⟨x,hx,rfl⟩:=Ah.1 hp;exact(a x hx z h2).imp (aa h3) id
    ·have Y:gvN f s bs=[]:=by
      cases al with
      | nil=>rw[cD] at hx;cases hx
      | cons a0 al=>exact(a6c h η).1
     exact((c x hx z h2).resolve_left h3).imp (aa (by rw[Y];simp)) id
theorem aDl (of:Str):∀(l:List Core) (A:Str→Bool) (made:List Sup),(∀x∈l,bU (LQ N6) x)→(∀x∈l,∀z∈pfR x,A z=true)→
  FrR of (fun n=>∀x∈(bW of l A made).1,∀z∈pfR x,A z=true∨Fn of n z) made (bW of l A made).2
 | [],A,made,_,_=>by
  rw[bW];exact FrR.nil (by simp)
 | c::l,A,made,h,q=>by
  rw[bW];have g1:=qW of c false A made (h c η) (by rw[θ An];exact q c η);have g2:=aDl of l A (bO of false c A made).2 (fun x hx=>h x (χ _ hx)) (fun x hx=>q x (χ _ hx));refine(g1.trans (fun a b J h z hz=>(h z hz).imp id fun h=>h.mono J) g2).imp fun n ⟨a,b⟩ x hx=>?_
  rcases Ac.1 hx with rfl | hx
  ·exact a
  ·exact b x hx
theorem aDr (of:Str):∀(l:List Bind) (A:Str→Bool) (made:List Sup),(∀x∈l,bU (LQ N6) x.body)→(∀x∈l,∀z∈pfR x.body,A z=true)→
  FrR of (fun n=>∀x∈(bL of l A made).1,∀z∈pfR x.body,A z=true∨Fn of n z) made (bL of l A made).2
 | [],A,made,_,_=>by
  rw[bL];exact FrR.nil (by simp)
 | .mk s t c::l,A,made,h,q=>by
  rw[bL];have g1:=qW of c false A made (h (.mk s t c) η) (by rw[θ An];exact q (.mk s t c) η);have g2:=aDr of l A (bO of false c A made).2 (fun x hx=>h x (χ _ hx)) (fun x hx=>q x (χ _ hx));refine(g1.trans (fun a b J h z hz=>(h z hz).imp id fun h=>h.mono J) g2).imp fun n ⟨a,b⟩ x hx=>?_
  rcases Ac.1 hx with rfl | hx
  ·exact a
  ·exact b x hx
theorem aDx (of:Str):∀(l:List Alt) (A:Str→Bool) (made:List Sup),(∀x∈l,bU (LQ N6) x.body)→(∀x∈l,∀z∈pfR x.body,ext A x.vars z=true)→
  FrR of (fun n=>∀x∈(cD of l A made).1,∀z∈pfR x.body,z∈x.vars∨A z=true∨Fn of n z) made (cD of l A made).2
 | [],A,made,_,_=>by
  rw[cD];exact FrR.nil (by simp)
 | .mk f n s vs c::l,A,made,h,q=>by
  rw[cD];have g1:=qW of c false (ext A vs) made (h (.mk f n s vs c) η) (by rw[θ An];exact q (.mk f n s vs c) η);have g2:=aDx of l A (bO of false c (ext A vs) made).2 (fun x hx=>h x (χ _ hx)) (fun x hx=>q x (χ _ hx));refine(g1.trans (fun a b J h z hz=>(h z hz).imp id fun h=>h.mono J) g2).imp fun m ⟨a,b⟩ x hx=>?_
  rcases Ac.1 hx with rfl | hx
  ·intro z hz;rcases a z hz with g | g
   ·unfold ext at g;simp only[Bi,A4] at g;exact g.elim (fun g=>.inr (.inl g)) .inl
   ·exact .inr (.inr g)
  ·exact b x hx
end
structure BB (b:Bind):Prop where
 n:Fc b.name
 l:b.name.length≤8
 e:Er [] b.body
 s:aQ b.body<1000000
theorem BB.pf {b:Bind}(h:BB b):pfR b.body=[]:=pM fun z hz=>by
 have:=h.e.2.1 z hz;cases this
theorem BB.ne {b:Bind}(h:BB b):b.name≠[]:=fun e=>by
 have:=h.n;unfold Fc at this;rw[e] at this;rcases this with h | h<;>cases h
theorem nT {W:Wt}{b:Bind}(hW:WOk W) (hb:BB b):∃r new,kS b=⟨b.name,bG (aU b.body),r⟩::new∧(∀x∈kS b,SP x∧ll x.body=true)∧(∀(i:Nat) x,new[i]?=some x→x.name=dX b.name i)∧new.length<1000000∧
  (∀x∈kS b,∀z∈pfR x.body,z∈x.params∨z∈(kS b).map (·.name))∧(WS W new→RL W b.body (eW r (bG (aU b.body)))):=by
 have I:=hb.e.1;have hc:=qB _ _ (le_refl _) I;obtain⟨q1,O,q3,q4⟩:=aHm _ _ (le_refl _) I;have hin:∀z∈pfR (bR b.body),z∈aU b.body:=fun z hz=>by
  by_cases hm:z∈aU b.body
  ·exact hm
  ·have:=(hc z).2 ⟨hz,hm⟩
   rw[hb.pf] at this;cases this
 have hin':∀z∈pfR (if true=true then bR b.body else b.body),decide (z∈aU b.body)=true:=by
  rw[κ rfl];exact fun z hz=>Ae (hin z hz)
 obtain⟨new,Y,⟨p1,J⟩,hsp,q⟩:=qX (W:=W) (of:=b.name) ⟨hb.n,hb.l,hW⟩ b.body true (fun x=>decide (x∈aU b.body)) [] I hb.s hin' (fun x hx=>O x (ψ hx));obtain⟨new',Z,g1,g2⟩:=qW b.name b.body true (fun x=>decide (x∈aU b.body)) [] I hin';have hl:=uI b.name b.body true (fun x=>decide (x∈aU b.body)) [] (fun x hx=>by simp at hx);have hn:=uH b.name b.body true (fun x=>decide (x∈aU b.body)) [] (fun i x hx=>by cases hx);have hlb:kS b=⟨b.name,bG (aU b.body),(bO b.name true b.body (fun x=>decide (x∈aU b.body)) []).1⟩::(bO b.name true b.body (fun x=>decide (x∈aU b.body)) []).2:=rfl;rw[hlb];rw[κ rfl] at J q;generalize bO b.name true b.body (fun x=>decide (x∈aU b.body)) []=p at Y p1 J q Z g1 g2 hl hn ⊢;obtain⟨r,out⟩:=p;rw[A3] at Y Z;dsimp only at Y p1 J q Z g1 g2 hl hn ⊢;subst Y;subst Z;have hsz:=hb.s;have hnl:out.length<1000000:=by have:=hl.2.2;simp only[length_nil] at this;omega
 have aa:∀z,Fn b.name out.length z→z∈(⟨b.name,bG (aU b.body),r⟩::out:List Sup).map (·.name):=fun z ⟨i,hi,e⟩=>by
  obtain⟨y,hy⟩:=aJ hi;rw[e,←hn i y hy];exact Ah.2 ⟨y,χ _ (δ hy),rfl⟩
 refine⟨r,out,rfl,fun x hx=>?_,hn,hnl,fun x hx z hz=>?_,fun hw=>?_⟩
 ·rcases Ac.1 hx with rfl | hx
  ·exact⟨⟨hb.n,oJ _ 0 O (by omega),aDz O,fun z hz=>(J z hz).imp (fun g=>iV _ 0 z (hin z g)) id,p1⟩,hl.1⟩
  ·exact⟨hsp x hx,hl.2.1 x hx⟩
 ·rcases Ac.1 hx with rfl | hx
  ·exact(g1 z hz).imp (fun g=>iV _ 0 z (ψ g)) (aa z)
  ·exact(g2 x hx z hz).imp id (aa z)
 ·exact uY _ _ (le_refl _) I _ 0 (q hw) fun z hz=>(J z hz).imp (fun g=>O z (hin z g)) id
theorem aEz {l:List Sup}(h:(l.map (·.name)).Nodup):∀x∈l,l.find? (fun y=>decide (y.name=x.name))=some x:=by
 induction l with
 | nil=>intro x hx;cases hx
 | cons y l q=>
  rw[At,Bq] at h;intro x hx;rw[List.find?_cons];rcases Ac.1 hx with rfl | hx
  ·rw[Ae rfl]
  ·have:¬y.name=x.name:=fun e=>h.1 (Ah.2 ⟨x,hx,e.symm⟩)
   rw[Ag this];exact q h.2 x hx
def lkW (l:List Sup):Wt:=fun f=>(l.find? fun y=>decide (y.name=f)).map fun x=>(x.params,x.body)
theorem aP0 {l:List Sup}{f:Str}{ps:List Str}{b:Core}(h:lkW l f=some (ps,b)):∃x,l.find? (fun y=>decide (y.name=f))=some x∧x∈l∧x.name=f∧x.params=ps∧x.body=b:=by
 unfold lkW at h;obtain⟨x,hx,e⟩:=Ar.1 h;cases e;exact⟨x,hx,List.mem_of_find?_eq_some hx,ψ (List.find?_some hx:),rfl,rfl⟩
theorem a55 {l:List Sup}(h:∀x∈l,SP x):WBk (lkW l) (gV l):=by
 refine⟨⟨fun f ps b q=>?_⟩,fun f ps b q=>?_,fun f ps b q=>?_⟩
 ·obtain⟨x,_,hx,rfl,rfl,rfl⟩:=aP0 q;obtain⟨h1,h2,h3,h4,h5⟩:=h x hx;exact⟨h1,h2,fun p hp I=>aWq I (h3 p hp),h4⟩
 ·obtain⟨x,_,hx,rfl,rfl,rfl⟩:=aP0 q;obtain⟨h1,h2,h3,h4,h5⟩:=h x hx;exact⟨h3,h5⟩
 ·obtain⟨x,hx,_,_,rfl,rfl⟩:=aP0 q;refine⟨.mk x.name zTy (eW x.body x.params),?_,rfl⟩;unfold gV;rw[List.find?_map,show((fun b:Bind=>decide (b.name=f))∘fun x:Sup=>Bind.mk x.name zTy (eW x.body x.params))=fun y:Sup=>decide (y.name=f) from rfl,hx];rfl
theorem a35 {l:List Sup}(h:(l.map (·.name)).Nodup):WS (lkW l) l:=fun x hx=>by
 unfold lkW;rw[aEz h x hx];rfl
theorem aKf {b:Bind}(hb:BB b):((kS b).map (·.name)).Nodup∧∀x∈kS b,x.name.head?=b.name.head?:=by
 obtain⟨r,new,e,_,hn,hl,_,_⟩:=nT (W:=fun _=>none) ⟨fun f ps b h=>by cases h⟩ hb;rw[e,At,Bq];refine⟨⟨fun hm=>?_,?_⟩,fun x hx=>?_⟩
 ·obtain⟨x,hx,he⟩:=Ah.1 hm;obtain⟨i,hi⟩:=Bf hx;exact aVi b.name i (he.symm.trans (hn i x hi))
 ·refine List.pairwise_iff_getElem.2 fun i j hi hj y e=>?_
  rw[φ] at hi hj;have hx:new[i]?=some new[i]:=List.getElem?_eq_getElem hi;have q:new[j]?=some new[j]:=List.getElem?_eq_getElem hj;rw[List.getElem_map,List.getElem_map,hn i _ hx,hn j _ q] at e;have:=aQv (by omega) (by omega) e;omega
 ·rcases Ac.1 hx with rfl | hx
  ·rfl
  ·obtain⟨i,hi⟩:=Bf hx;rw[hn i x hi,yD hb.ne]
theorem aU7 (a b:Bind):fD [a,b]=kS a++kS b:=by unfold fD;simp
theorem aU6 {a b:Bind}(ha:BB a) (hb:BB b) (q:a.name.head?≠b.name.head?):((fD [a,b]).map (·.name)).Nodup:=by
 obtain⟨a1,a2⟩:=aKf ha;obtain⟨b1,b2⟩:=aKf hb;rw[aU7,A6,C0];refine⟨a1,b1,fun x hx y I e=>?_⟩;subst e;obtain⟨u,hu,J⟩:=Ah.1 hx;obtain⟨v,O,Y⟩:=Ah.1 I;exact q (by rw[←a2 u hu,←b2 v O,J,Y])
theorem aP2 {a b:Bind}(ha:BB a) (hb:BB b) (Y:a.name.head?≠b.name.head?):yM (fD [a,b])=true∧(∀x∈fD [a,b],SP x)∧
  ∀c,c=a∨c=b→∀k k',aLl (whE (sfE [a,b]) (k+1) 0 (vC c.name)) (whE (sfE (gV (fD [a,b]))) (k'+1) 0 (vC c.name)):=by
 have J:=aU6 ha hb Y;have h0:WOk (fun _=>none):=⟨fun f ps b h=>by cases h⟩
 obtain⟨r,new,e,f1,f2,f3,f4,_⟩:=nT h0 ha;obtain⟨r',ag,e',Z,f2',f3',ab,_⟩:=nT h0 hb;have q:∀x∈fD [a,b],SP x∧ll x.body=true∧∀z∈pfR x.body,z∈x.params∨z∈(fD [a,b]).map (·.name):=fun x hx=>by
  rw[aU7] at hx ⊢;rcases ω.1 hx with hx | hx
  ·exact⟨(f1 x hx).1,(f1 x hx).2,fun z hz=>(f4 x hx z hz).imp id fun h=>by rw[A6];exact ω.2 (.inl h)⟩
  ·exact⟨(Z x hx).1,(Z x hx).2,fun z hz=>(ab x hx z hz).imp id fun h=>by rw[A6];exact ω.2 (.inr h)⟩
 have aa:=a55 fun x hx=>(q x hx).1
 have ac:=a35 J;refine⟨?_,fun x hx=>(q x hx).1,fun c hc k k'=>?_⟩
 ·rw[yM,ζ];refine⟨(uM _).2 J,Au.2 fun x hx=>?_⟩;obtain⟨⟨h1,h2,h3,h4,h5⟩,h6,h7⟩:=q x hx;rw[ζ];refine⟨(uM _).2 h2,aBa _ _ (le_refl _) h5 h6 _ fun z hz=>?_⟩;unfold ext;simp only[Bi,A4];exact(h7 z hz).elim .inr .inl
 ·have I:BB c:=hc.elim (fun e=>by rw[e];exact ha) fun e=>by rw[e];exact hb
  have O:∀x∈kS c,x∈fD [a,b]:=fun x hx=>by
   rw[aU7];rcases hc with rfl | rfl
   ·exact ω.2 (.inl hx)
   ·exact ω.2 (.inr hx)
  obtain⟨s,new,e,g1,g2,g3,g4,g5⟩:=nT aa.ok I;have hm:(⟨c.name,bG (aU c.body),s⟩:Sup)∈fD [a,b]:=O _ (by rw[e];exact η);have hr:=g5 fun x hx=>ac x (O x (by rw[e];exact χ _ hx))
  obtain⟨h1,h2,h3,h4,h5⟩:=(q _ hm).1
  have ad:[a,b].find? (fun y=>decide (y.name=c.name))=some c:=by
   rcases hc with rfl | rfl
   ·rw[List.find?_cons,Ae rfl]
   ·have:¬a.name=c.name:=fun e=>Y (by rw[e])
    rw[List.find?_cons,Ag this];dsimp only;rw[List.find?_cons,Ae rfl]
  have ae:(gV (fD [a,b])).find? (fun y=>decide (y.name=c.name))=some (.mk c.name zTy (eW s (bG (aU c.body)))):=by
   have:=aEz J _ hm;unfold gV;rw[List.find?_map,show((fun b:Bind=>decide (b.name=c.name))∘fun x:Sup=>Bind.mk x.name zTy (eW x.body x.params))=fun y:Sup=>decide (y.name=c.name) from rfl,this];rfl
  exact aTl aa ad ae hr ⟨I.e.1,I.pf,I.e.2.2⟩ ⟨rP h3 h5,fun z hz=>by
   obtain⟨z1,z2⟩:=(oM _ _).1 hz
   exact(h4 z z1).resolve_left z2⟩ k k'
structure SOB (c r:Core):Prop where
 q:bU (QL 403) r
 z:bU ZL r
 m:m30 r≤m30 c*m30 c+500000000
theorem SO.sob {c r:Core}(h:SO c r):SOB c r:=⟨h.q,h.z,le_trans h.m (B6 _ _)⟩
theorem a1k {f i:Int}{s:Str}{t:Ty}{ks:List Core}{bs:List Bind}{al:List Alt}(h:CB (.mk f i s t ks bs al)) {j:Nat}{x r:Core}(hx:ks[j]?=some x) (J:SOB x r):SOB (.mk f i s t ks bs al) (aCe (.mk f i s t ks bs al) j r):=by
 have hin:∀y∈ks.set j r,y=r∨y∈ks:=fun y I=>(Cj I).symm
 obtain⟨g1,g2,g3,g4⟩:=aM.1 h.q;obtain⟨k1,k2,O,Y⟩:=aM.1 h.z;have hs:∀(l:List Core) (j:Nat),l[j]?=some x→gM (l.set j r)+m30 x=gM l+m30 r:=by
  intro l
  induction l with
  | nil=>intro j h;cases h
  | cons y l Z=>
   intro j h;cases j with
   | zero=>
    have e:y=x:=by simpa using h
    rw[set_cons_zero,gM,gM,e];omega
   | succ j=>
    have h':l[j]?=some x:=by simpa using h
    have:=Z j h';rw[C3,gM,gM];omega
 have e:=hs ks j hx;unfold aCe;refine⟨aM.2 ⟨by rw[Cn];exact g1,fun y I=>?_,g3,g4⟩,aM.2 ⟨k1,fun y I=>?_,O,Y⟩,?_⟩
 ·rcases hin y I with rfl | I
  ·exact J.q
  ·exact g2 y I
 ·rcases hin y I with rfl | I
  ·exact J.z
  ·exact k2 y I
 ·show m30 (.mk f i s t (ks.set j r) bs al)≤_;have hm:=J.m;have hmx:=iR (δ hx);have e1:m30 (.mk f i s t (ks.set j r) bs al)=1+w30 s+gM (ks.set j r)+j9 bs+l7 al:=by rw[m30]
  have e2:m30 (.mk f i s t ks bs al)=1+w30 s+gM ks+j9 bs+l7 al:=by rw[m30]
  have hw:=i6 s;rcases a2v (a:=m30 x) (b:=1+w30 s+(gM ks-m30 x)+j9 bs+l7 al) (x:=m30 (.mk f i s t ks bs al)) (by omega) with h | h
  ·omega
  ·omega
theorem a8e {bd:List Bind}(hl:bd.length≤1000000000) (hbd:∀b∈bd,CB b.body) (hI:j2 540000000000):∀(k:Nat) (c:Core),m30 c≤k→CB c→
  aW Tryz.prog 38 [.pa (n9 bd),.pa (aB c)] [] (l9 (iJ bd k c)) []∧((iJ bd k c).2=0→SOB c (iJ bd k c).1):=by
 intro k
 induction k with
 | zero=>intro c h;have:=jM c;omega
 | succ k ih=>
 intro c h hc;obtain⟨f,i,s,t,ks,bs,al⟩:=c;have hsz:=hc.m;have aa:∀x,CB x→aW Tryz.prog 37 [.pa (aB x)] [] (B (shE x)) []:=fun x hx=>aK0 403 x hx.q (by have:=fZ x;have:=hx.m;omega)
 have Y:∀x∈ks,m30 x≤k:=fun x hx=>by have:=iR hx;rw[m30] at h;omega
 have O:∀(j:Nat) (x:Core),ks[j]?=some x→(sI false (iJ bd k x) (aCe (.mk f i s t ks bs al) j)).2=0→SOB (.mk f i s t ks bs al) (sI false (iJ bd k x) (aCe (.mk f i s t ks bs al) j)).1:=fun j x hx he=>by
  obtain⟨_,e2,e3⟩:=aU8 he;rw[e3];have hxm:=δ hx;exact a1k hc hx ((ih x (Y x hxm) (hc.kid hxm)).2 e2)
 rw[iJ];by_cases h1:f=1
 ·rw[κ h1];subst h1;refine⟨a9w hl,fun he=>?_⟩;cases hfd:bd.find? fun b=>decide (b.name=s) with
  | none=>rw[hfd] at he;cases he
  | some b=>
   have hb:=hbd b (List.mem_of_find?_eq_some hfd);exact⟨hb.q,hb.z,by have:=hb.m;show m30 b.body≤_;omega⟩
 rw[θ h1];by_cases h4:f=4
 ·rw[κ h4];subst h4;obtain⟨⟨a,b,rfl⟩,rfl,rfl⟩:=z8 hc.q (.inl rfl);have I:=hc.kid (x:=a) η;have Z:=hc.kid (x:=b) (χ _ η);have e0:([a,b]:List Core).headD zC=a:=rfl;have e1:([a,b]:List Core).getD 1 zC=b:=rfl;rw[e0,e1];by_cases h5:a.form=5
  ·rw[κ h5];obtain⟨f',i',s',t',ks',bs',al'⟩:=a;have h5:f'=5:=h5;subst h5;obtain⟨⟨body,rfl⟩,rfl,rfl⟩:=nH I.q (.inl rfl);have kbo:=I.kid (x:=body) η;have g:=aRh hI (X:=403) (F1:=500000000) (by decide) (by decide) (m30 body) body (le_refl _) kbo.cf s' b 500000000 Z.cf (by decide) (by decide);refine⟨a8i g.tb.imp,fun _=>SO.sob ⟨g.tb.rx.q,g.z,?_⟩⟩;have g2:=g.tb.sz (m30 b/31+1) (by omega) (by omega);show m30 (fR (m30 body) body s' b)≤_;have hm:m30 (.mk 4 i s t [.mk 5 i' s' t' [body] [] [],b] [] [])=1+w30 s+(1+w30 s'+m30 body+m30 b):=by
    simp only[m30,gM,j9,l7];omega
   refine le_trans g2 (C8 (by omega) (by omega))
  ·rw[θ h5];refine⟨a8j h5 (aa a I) fun _=>(ih a (Y a η) I).1,fun he=>?_⟩;by_cases hs:¬shE a=true
   ·rw[κ hs] at he ⊢;exact O 0 a rfl he
   ·rw[θ hs] at he;cases he
 rw[θ h4];by_cases h8:f=8
 ·rw[κ h8];subst h8;obtain⟨⟨a,rfl⟩,rfl,h12⟩:=aS5 hc.q;have I:=hc.kid (x:=a) η;have hm:=hsz;rw[m30,gM,gM,l7] at hm;obtain⟨⟨_,_,zbt⟩,_,zb,_⟩:=aM.1 hc.z;have hw0:w30 ([]:Str)=30:=rfl;have hlm:∀b∈bs,m30 (lM bs b)=31+m30 b.body+j9 bs:=fun b _=>by
   unfold lM;rw[m30,gM,gM,l7,hw0];omega
  have hL:∀b∈bs.map (lM bs),CF 403 500000000 b∧m30 b≤31+j9 bs+j9 bs:=fun x hx=>by
   obtain⟨b,hb,rfl⟩:=Ah.1 hx;have h1:=hlm b hb;have h2:=nQ hb;have Z:=hc.bind hb;refine⟨?_,by omega⟩;have hqL:bU (QL 403) (lM bs b):=by
    obtain⟨⟨g1,g2,g3,g4,g5,g6,g7,g8⟩,_,q3,_⟩:=aM.1 hc.q;unfold lM;refine aM.2 ⟨⟨by simp[okF],fun e=>absurd e (by decide),rfl,g4,?_,fun e=>absurd e (by decide),g7,by simp⟩,by simpa using Z.q,q3,by simp⟩;unfold lw at g5 ⊢;rw[hw0];have:=i6 s;simp only[Co,sum_nil];omega
   have hzL:bU ZL (lM bs b):=by
    unfold lM;exact aM.2 ⟨⟨by decide,rfl,zbt⟩,by simpa using Z.z,zb,by simp⟩
   refine⟨hqL,hzL,?_⟩;unfold lM;have hcf:=hc.cf.fl;cases hcf with
   | mk a1 a2 a3 a4=>
    refine .mk ?_ (fun x hx=>by rw[Ab.1 hx];exact a3 b hb) a3 (fun x hx=>by cases hx);have g1:=lJ (pfR (.mk 8 0 [] zTy [b.body] bs [])) (pfR b.body++(bs.map Bind.body).flatMap pfR) (aUl _) fun x hx=>by
     rcases(cZ (by decide)).1 hx with⟨p,hp,h1,_⟩ | ⟨a,ha,_⟩
     ·rcases ω.1 hp with hp | hp
      ·rw[Ab.1 hp] at h1;exact ω.2 (.inl h1)
      ·exact ω.2 (.inr (Ce.2 ⟨p,hp,h1⟩))
     ·cases ha
    rw[ε] at g1;have g2:=aDc b.body;have g3:=aXz (bs.map Bind.body);have g4:=aPu bs;have g5:1≤bs.length:=length_pos_of_mem hb;by_cases hbig:j9 bs+j9 bs≤500000000
    ·omega
    ·--each name that is free in one body is free in all of them together
     have g6:=lJ (pfR (.mk 8 0 [] zTy [b.body] bs [])) ((bs.map Bind.body).flatMap pfR) (aUl _) fun x hx=>by
      rcases(cZ (by decide)).1 hx with⟨p,hp,h1,_⟩ | ⟨a,ha,_⟩
      ·rcases ω.1 hp with hp | hp
       ·rw[Ab.1 hp] at h1;exact Ce.2 ⟨b.body,Ah.2 ⟨b,hb,rfl⟩,h1⟩
       ·exact Ce.2 ⟨p,hp,h1⟩
      ·cases ha
     omega
  have y:=aX8 hI (F:=500000000) (B:=m30 (.mk 8 i s t [a] bs [])) a (bs.map Bind.name) (bs.map (lM bs)) (by rw[φ,φ]) (by rw[φ];omega) (fun x hx=>by
   obtain⟨b,hb,rfl⟩:=Ah.1 hx;obtain⟨⟨_,_,_,_,g5,_⟩,_⟩:=aM.1 hc.q
   exact a7x g5 (p:=bhd b) (Ah.2 ⟨b,hb,rfl⟩)) (by decide) (by decide) (by have:=jM (.mk 8 i s t [a] bs []);omega) I.cf (fun b hb=>(hL b hb).1) (fun b hb=>by
    have:=(hL b hb).2
    rw[m30,gM,gM,l7];omega)
  refine⟨a9v h12 y.1,fun _=>SO.sob ⟨y.2.1.q,y.2.1.z,le_trans y.2.2 (A0 _ ?_)⟩⟩;rw[m30,gM,gM,l7];omega
 rw[θ h8];by_cases h9:f=9
 ·rw[κ h9];subst h9;obtain⟨⟨a,rfl⟩,rfl,h12,hv⟩:=aB6 hc.q;have I:=hc.kid (x:=a) η;have e0:([a]:List Core).headD zC=a:=rfl;rw[e0];have hcsa:aQ a≤570000000000:=by have:=fZ a;have:=I.m;omega
  have hsp:=a67 _ a (le_refl _) I;have hma:m30 a≤m30 (.mk 9 i s t [a] [] al):=by rw[m30,gM,gM];omega
  have y:∀x∈al,tkC x a=true→aW Tryz.prog 138 [.pa (aB x.body),eE x.vars,.one (.c (.sl 10 ((spA a).map aB)))] [] (.pa (aB (qM x.body x.vars (spA a)))) []∧SO (.mk 9 i s t [a] [] al) (qM x.body x.vars (spA a)):=fun x hx hk=>by
   have kx:=hc.alt hx;have hm':=k7 hx;have hvl:(spA a).length=x.vars.length:=by
    unfold tkC at hk;simp only[ζ,A4] at hk;exact hk.2.2.2
   have y:=aX8 hI (F:=500000000) (B:=m30 (.mk 9 i s t [a] [] al)) x.body x.vars (spA a) hvl.symm (by have:=hv x hx;omega) (fun v hv'=>by
    obtain⟨⟨_,_,_,_,g5,_⟩,_⟩:=aM.1 hc.q
    exact a7z g5 (p:=ahd x) (Ah.2 ⟨x,hx,rfl⟩) hv') (by decide) (by decide) (by have:=jM (.mk 9 i s t [a] [] al);omega) kx.cf (fun b hb=>(hsp b hb).1.cf) (fun b hb=>by have:=(hsp b hb).2;omega)
   refine⟨y.1,⟨y.2.1.q,y.2.1.z,le_trans y.2.2 (A0 _ ?_)⟩⟩;rw[m30];omega
  have htk:=a0o qM 403 al a I.q hcsa h12 fun x hx hk=>(y x hx hk).1
  refine⟨a9u (aa a I) (fun _=>(ih a (Y a η) I).1) fun _=>htk,fun he=>?_⟩;by_cases hs:¬shE a=true
  ·rw[κ hs] at he ⊢;exact O 0 a rfl he
  ·rw[θ hs] at he ⊢;cases hfs:al.findSome? fun x=>tkE qM x a with
   | none=>rw[hfs] at he;cases he
   | some r=>
    obtain⟨x,hx,J⟩:=List.exists_of_findSome?_eq_some hfs;have kx:=hc.alt hx;refine SO.sob ?_;show SO _ r;unfold tkE at J;by_cases e1:tkS x a=true
    ·rw[κ e1] at J;cases J;have hm':=k7 hx;exact aYl kx.q kx.z (by rw[m30];omega)
    rw[θ e1] at J;by_cases e2:tkC x a=true
    ·rw[κ e2] at J;cases J;exact(y x hx e2).2
    ·rw[θ e2] at J;cases J
 rw[θ h9];by_cases ab:f=10
 ·rw[κ ab];subst ab;obtain⟨⟨a,b,rfl⟩,rfl,rfl⟩:=z8 hc.q (.inr rfl);have I:=hc.kid (x:=a) η;have Z:=hc.kid (x:=b) (χ _ η);have e0:([a,b]:List Core).headD zC=a:=rfl;have e1:([a,b]:List Core).getD 1 zC=b:=rfl;rw[e0,e1];refine⟨a8k (aa a I) (aa b Z) (fun _=>(ih a (Y a η) I).1) fun _=>(ih b (Y b (χ _ η)) Z).1,fun he=>?_⟩;by_cases g1:¬shE a=true
  ·rw[κ g1] at he ⊢;exact O 0 a rfl he
  rw[θ g1] at he ⊢;by_cases g2:¬shE b=true
  ·rw[κ g2] at he ⊢;exact O 1 b rfl he
  rw[θ g2] at he ⊢;by_cases g3:a.form=3∧b.form=3
  ·rw[κ g3] at he ⊢;refine SO.sob ?_;exact aYl (a1j (n:=0) (w:=0) (U:=[]) he).q (a3r _ _ _) (le_trans (aU4 _ _ _) (jM _))
  ·rw[θ g3] at he;cases he
 rw[θ ab];refine⟨a9t h1 h4 h8 h9 ab,fun he=>?_⟩;by_cases h11:f=11
 ·rw[κ h11] at he;cases he
 ·rw[θ h11] at he;cases he
theorem SOB.cb {c r:Core}(h:SOB c r) (hs:eO r≤6000):CB r:=⟨h.q,h.z,by have:=kR r h.q;have:403*eO r≤403*6000:=Cy _ hs;omega⟩
theorem SOB.size {c r:Core}(hc:CB c) (h:SOB c r):LC r∧eO r≤9000000000000000000:=by
 have h1:=fZ r;have h2:=size_le r;have h3:=h.m;have h4:m30 c*m30 c≤500000000*500000000:=C8 hc.m hc.m;exact⟨aF6 (by decide) _ r (le_refl _) h.q,by omega⟩
theorem a45 {bd:List Bind}(hl:bd.length≤1000000000) (y:∀b∈bd,CB b.body) (J:j2 540000000000) (F:Nat) (O:F≤1000) (c:Core) (h:CB c):
  aW Tryz.prog 9 [.one (.c (.sl 15 (bd.map aS))),.pa (aB c),I .i64 F] [] (a6h (whE (sfE bd) F 0 c)) []:=by
 refine a0x (sfE bd) bd F (fun _ x=>CB x) c O h (fun j x hj hx=>?_) (fun j x hj hx hs=>?_)
 ·exact⟨hx.q,by have:=fZ x;have:=hx.m;omega,hx.own J⟩
 ·obtain⟨g1,g2⟩:=a8e hl y J (m30 x) x (le_refl _) hx;exact⟨g1,fun he=>⟨(g2 he).size hx,fun h4=>(g2 he).cb (not_lt.1 h4)⟩⟩
def a83:Str:=[102,117,110,99,116,105,111,110]
def a1w (D:Str) (c:Core):Str:=if(spH c).form=2 then(spH c).name else if(spH c).form=3 then D else a83
theorem rJ {X:Nat}{D:Str}(c:Core) (J:bU (QL X) c) (q:(spH c).form=3→aW Tryz.prog 102 [I .i64 (spH c).n] [] (Go.AM.T D) []):aW Tryz.prog 40 [.pa (aB c)] [] (Go.AM.T (a1w D c)) []:=by
 refine bZ (n:=21) tok Tryz.func40 rfl rfl rfl ?_;refine sg rfl (a8 (aC (aK (fun x:Core=>mk [(1,.one (.vp 1 0))] [(1,.var 30 (bF x))]) (fun x=>bU (QL X) x∧spH c=spH x) (fun x=>aQ x) c ⟨J,rfl⟩ sl ?_)));rintro x ⟨hx,y⟩;obtain⟨f,n,s,t,ks,bs,al⟩:=x;refine a8 (sg rfl (aA rfl (fun hb=>?_) (fun hb=>?_)))
 ·have h4:f=4:=ψ hb;subst h4;obtain⟨⟨a,b,rfl⟩,rfl,rfl⟩:=z8 hx (.inl rfl);refine aD (aC (ag [(3,.row 0 (aB a))] rfl ⟨a,⟨(aM.1 hx).2.1 a (by simp),by rw[y,spH,κ rfl,a6l]⟩,?_,sl⟩));dsimp only;rw[aQ,bM,bM,bM];omega
 have h4:¬f=4:=π hb;rw[spH,θ h4] at y;rw[y] at q;have hw:a1w D c=(if f=2 then s else if f=3 then D else a83):=by unfold a1w;rw[y];rfl
 rw[hw];refine aL (a8 (sg rfl (aA rfl (fun hb=>?_) (fun hb=>?_))))
 ·have h2:f=2:=ψ hb;rw[κ h2];exact sg rfl (aF rtT)
 have h2:¬f=2:=π hb;rw[θ h2];refine aD (a8 (sg rfl (aA rfl (fun hb=>?_) (fun hb=>?_))))
 ·have h3:f=3:=ψ hb;rw[κ h3];have q:=q h3;refine sk 2 rfl (kc q ?_);exact kz 1 rfl (aF rtT)
 have h3:¬f=3:=π hb;rw[θ h3];exact aD (sg rfl (aF rtT))
theorem aVy {a b:Core}{e e':Int}(h:e=2∨e=3∨e'=2∨e'=3∨(e=e'∧(e=0→∃s,aW Tryz.prog 40 [.pa (aB a)] [] (Go.AM.T s) []∧aW Tryz.prog 40 [.pa (aB b)] [] (Go.AM.T s) []))):
  aW Tryz.prog 11 [.pa (aB a),I .i64 e,.pa (aB b),I .i64 e'] [] (B true) []:=by
 refine bZ (n:=47) tok Tryz.func11 rfl rfl rfl ?_;refine sg rfl ?_;by_cases g1:e=3
 ·have d1:decide (e=3)=true:=Ae g1;exact a8 (sgh [(2,.bv true),(5,.bv true),(6,.bv true),(9,.bv true),(10,.bv true),(13,.bv true)] rfl (aA rfl (fun _=>sg rfl (aF rtT)) (fun hb=>absurd hb (by decide))))
 have d1:decide (e=3)=false:=Ag g1;by_cases g2:e'=3
 ·have d2:decide (e'=3)=true:=Ae g2;exact a8 (sgh [(2,.bv false),(5,.bv false),(6,.bv true),(9,.bv true),(10,.bv true),(13,.bv true)] rfl (aA rfl (fun _=>sg rfl (aF rtT)) (fun hb=>absurd hb (by decide))))
 have d2:decide (e'=3)=false:=Ag g2;by_cases g3:e=2
 ·have d3:decide (e=2)=true:=Ae g3;exact a8 (sgh [(2,.bv false),(5,.bv false),(6,.bv false),(9,.bv false),(10,.bv true),(13,.bv true)] rfl (aA rfl (fun _=>sg rfl (aF rtT)) (fun hb=>absurd hb (by decide))))
 have d3:decide (e=2)=false:=Ag g3;refine a8 (sgh [(2,.bv false),(5,.bv false),(6,.bv false),(9,.bv false),(10,.bv false),(13,.bv false)] rfl (aA rfl (fun _=>?_) (fun hb=>?_)))
 ·exact sg rfl (aF rtT)
 have g4:¬e'=2:=π hb;obtain⟨rfl,hs⟩:=(((h.resolve_left g3).resolve_left g1).resolve_left g4).resolve_left g2;have q:decide (e=e)=true:=Ae rfl;refine aD ?_;by_cases h0:e=0
 ·obtain⟨s,ha,hb⟩:=hs h0;have d0:(!decide (e=0))=false:=by rw[Ae h0];rfl
  have y:decide (s=s)=true:=Ae rfl;refine a8 (aE mixed (akN 8 [(3,.bv true),(6,.bv false)] rfl (kcG ha ?_)));refine akN 1 [(3,.bv true),(6,.bv false)] rfl (kcG hb ?_);exact akN 14 [(3,.bv true),(6,.bv false),(12,.bv false),(13,.bv true),(17,.bv true),(18,.bv true),(22,.bv true),(23,.bv true)] rfl (az (aF rtT))
 ·have d0:(!decide (e=0))=true:=by rw[Ag h0];rfl
  exact a8 (agN [(3,.bv true),(6,.bv true),(12,.bv true),(13,.bv true),(17,.bv true),(18,.bv true),(22,.bv true),(23,.bv true)] rfl (aF rtT))
def aTa (c:Core):Prop:=aQ c≤4000000→aW Tryz.prog 34 [.pa (aB c)] [] (.pa (aB c)) []
theorem aBx (c:Core) (ih:∀x,aQ x<aQ c→aTa x):aTa c:=by
 intro hsz;obtain⟨f,n,s,t,ks,bs,al⟩:=c;have hin:∀p∈dC f s ks bs al,_:=fun p hp=> @sS f n s t ks bs al p hp
 have hat:= @pH f s ks bs al;have hcp:=aBu f n s t ks bs al hsz;have y:∀x∈(aJt (fN f s ks bs al)).refs,x∈iA.refs:=fM;have hpl:=iX f s ks bs al;obtain⟨hkl,hbl,hal⟩:ks.length<4000000∧bs.length<4000000∧al.length<4000000:=by
  obtain⟨_,_,_,Z,q2,q3⟩:= @dL f n s t ks bs al;omega
 have hrl:(fN f s ks bs al).length≤12000000:=by omega
 have k1:bs.length=(aR bs).length:=by rw[bC,φ]
 have k2:ks.length=(aT ks).length:=by rw[b7,φ]
 have k3:al.length=(bP al).length:=by rw[bN,φ]
 generalize dC f s ks bs al=L at hin hat;generalize fN f s ks bs al=rows at hat hcp y hrl hpl;refine bZ (n:=21) tok Tryz.func34 rfl rfl rfl ?_;refine sgh [(0,.id 700)] rfl (a8 (a8 (aE mixed (kc hcp ?_))));refine kz 2 rfl (aC (aK (fun i:Nat=>mk [(1,.one (.vp 700 0)),(2,.one (.vp 2 0)),(5,.one (.ra 704 0 rows.length rows.length)),(6,I .i64 ((rows.length:Nat):Int)),(7,I .i64 i)] ((704,aJt rows)::[(2,.var 30 dY),(700,.var 30 (aBp f n s t ks.length bs.length al.length)),(701,.arr 35 15 (aR bs) 0),(702,.arr 30 10 (aT ks) 0),(703,.arr 73 14 (bP al) 0)])) (fun i=>i≤rows.length) (fun i=>rows.length-i) 0 (Al _) (slR iA y ⟨_,rfl,.rarrS rfl⟩) ?_));intro i hi;refine sg rfl (a8 (aA rfl (fun hb=>?_) (fun hb=>?_)))
 ·have Y:i<rows.length:=by
   have:(i:Int)<(rows.length:Int):=ψ hb;omega
  refine aD (a8 (aC ?_));rcases hat Y with⟨j,b,hb',hro,J,_⟩ | ⟨j,k,hk',hro,J,_⟩ | ⟨j,al',ha',hro,J,_⟩
  ·obtain⟨Z,q2⟩:=hin _ (δ J);have hc:=ih b.body Z (by dsimp only at q2;omega);have O:=cR hb';have hlt2:=(ξ.1 hb').1
   have q:=oZ O;refine sgh [(1,.rr (rU 701 5 bs.length (gvs f s bs) j))] rfl (aE mixed (ak 6 [(5,.row j (aS b))] rfl (kc hc ?_)));exact ak 2 [(8,.row j (aS b))] rfl (az (ag [] rfl ⟨i+1,Y,by dsimp only;omega,slR iA y ⟨_,rfl,.rarrS rfl⟩ (hh:=⟨⟨_,rfl,.var rfl⟩,⟨_,rfl,.var rfl⟩,⟨_,rfl,by first | exact .arr | exact .arrS q⟩,⟨_,rfl,by first | exact .arr | exact .arrS q⟩,⟨_,rfl,by first | exact .arr | exact .arrS q⟩,trivial⟩)⟩))
  ·obtain⟨Z,q2⟩:=hin _ (δ J);have hc:=ih k Z (by dsimp only at q2;omega);have O:=fA hk';have hlt2:=(ξ.1 hk').1
   have q:=oZ O;refine sgh [(1,.rr (rU 702 0 ks.length (gvs f s bs) j))] rfl (aE mixed (ak 6 [(5,.row j (aB k))] rfl (kc hc ?_)));exact ak 2 [(8,.row j (aB k))] rfl (az (ag [] rfl ⟨i+1,Y,by dsimp only;omega,slR iA y ⟨_,rfl,.rarrS rfl⟩ (hh:=⟨⟨_,rfl,.var rfl⟩,⟨_,rfl,.var rfl⟩,⟨_,rfl,by first | exact .arr | exact .arrS q⟩,⟨_,rfl,by first | exact .arr | exact .arrS q⟩,⟨_,rfl,by first | exact .arr | exact .arrS q⟩,trivial⟩)⟩))
  ·obtain⟨Z,q2⟩:=hin _ (δ J);have hc:=ih al'.body Z (by dsimp only at q2;omega);have O:=gE ha';have hlt2:=(ξ.1 ha').1
   have q:=oZ O;refine sgh [(1,.rr (rU 703 4 al.length (gvs f s bs++al'.vars) j))] rfl (aE mixed (ak 6 [(5,.row j (cO al'))] rfl (kc hc ?_)));exact ak 2 [(8,.row j (cO al'))] rfl (az (ag [] rfl ⟨i+1,Y,by dsimp only;omega,slR iA y ⟨_,rfl,.rarrS rfl⟩ (hh:=⟨⟨_,rfl,.var rfl⟩,⟨_,rfl,.var rfl⟩,⟨_,rfl,by first | exact .arr | exact .arrS q⟩,⟨_,rfl,by first | exact .arr | exact .arrS q⟩,⟨_,rfl,by first | exact .arr | exact .arrS q⟩,trivial⟩)⟩))
 have hge:i=rows.length:=by
  have:¬(i:Int)<(rows.length:Int):=π hb;omega
 subst hge;refine aL (AWp.sub (Sub.freeze (id:=701) rfl) (AWp.sub (Sub.freeze (id:=702) rfl) (AWp.sub (Sub.freeze (id:=703) rfl) (AWp.sub (vp 700 (aB (.mk f n s t ks bs al))) ?_))));exact sg rfl (aF (rtC trw))
theorem aK4:∀(n:Nat) (c:Core),aQ c≤n→aTa c
 | 0,c,h=>by have:=bH c;omega
 | n+1,c,h=>aBx c fun x hx=>aK4 n x (by omega)
theorem aMy (l:List Str):aW Tryz.prog 35 [bV l] [] (.one (.clo 79 [.vp 771 0])) [(771,.var 65 [.c (.sl 1 (l.map bA))])]:=by
 refine bZ (n:=4) tok Tryz.func35 rfl rfl rfl ?_;exact sgh [(0,.id 771)] rfl (sg rfl (aF ⟨.inr rfl,⟨_,_,.tmp rfl .nil,.cons .refl .nil,rfl⟩,⟨⟨_,rfl,.var rfl⟩,trivial⟩,rfl⟩))
def bkO (l:List Str):AObj:=.var 65 [.c (.sl 1 (l.map bA))]
theorem aHr (l:List Str) (hl:l.length≤1000000) (q:Nat) (ks:List Nat) (H:Nat→List (Nat×AObj)) (hw:∀k,Wf ks ((771,bkO l)::H k)) (y:subset [q,771] ks=true)
  (Y:∀k s,l[k]?=some s→aTi Tryz.prog q [I .i64 (k:Nat),Go.AM.T s] ((771,bkO l)::H (k+1)) true ((771,bkO l)::H k)):aW Tryz.prog 79 [.one (.yl q),.one (.vp 771 0)] ((771,bkO l)::H l.length) (.tup []) ((771,bkO l)::H 0):=by
 have J:keys ((771,bkO l)::H l.length)=ks:=(hw _).keys;have O:(l.map bA).length=l.length:=φ _;refine bZ (n:=19) tok Tryz.func79 rfl rfl rfl ?_;rw[J];refine sg rfl (aC (aK (fun k:Nat=>mk [(0,.one (.yl q)),(1,.one (.vp 771 0)),(3,I .i64 ((k:Int)-1))] ((771,bkO l)::H k)) (fun k=>k≤l.length) (fun k=>k) l.length (le_refl _) (Sub.heap (hw _) ⟨rfl,rfl,by show some (I .i64 (((l.map bA).length:Int)-1))=_;rw[O],trivial⟩ (fun _ _ h=>h) (by simpa [jU,V.refs,R.refs,I] using y) (fG _) rfl) ?_));intro k hk;refine a8 (sg rfl (aA rfl (fun hb=>?_) (fun hb=>?_)))
 ·have Z:0≤(k:Int)-1:=by simpa using hb
  obtain⟨m,rfl⟩:∃m,k=m+1:=⟨k-1,by omega⟩
  rw[show((m+1:Nat):Int)-1=(m:Nat) by omega];obtain⟨s,hs⟩:=aJ (show m<l.length by omega);have aa:=bT bA hs;refine aD (a8 (aC (skh 6 [(4,.row m (bA s))] rfl (k_ (g_ rfl rfl (aZa (d:=17) ((771,bkO l)::H (m+1)) ((771,bkO l)::H m) rfl rfl (gB rfl) rfl (Y m s hs) (.cons rfl .refl (.cons rfl .refl .nil)) (hw _).all ((hw _).hout (hw _)) ((hw _).callOk (by have:=y;simp[subset,V.refs,V.refsL,R.refs] at this ⊢;exact this.1)))) ?_))));refine kz 1 rfl (aA rfl nofun (fun _=>aD (ag [] rfl ?_)))
  exact⟨m,by omega,by dsimp only;omega,Sub.heap (hw _) ⟨rfl,rfl,rfl,trivial⟩ (fun id o h=>by
   show updL (Go.AM.look ((771,bkO l)::H (m+1))) (outs ((771,bkO l)::H m)) id=some o
   rw[fJ,h]) (by simpa [jU,V.refs,R.refs,I] using y) (fG _) rfl⟩
 ·refine aL ?_;obtain rfl:k=0:=by
   have:¬0≤(k:Int)-1:=by simpa using hb
   omega
  exact⟨.inl rfl,Fin.heap (hw _) (hw _) (fun _ _ h=>h) .nil .nil rfl⟩
theorem a03:iI Tryz.prog 79:=wP (by kernel_rfl)
def coV (c:Core):AObj:=.var 30 (bF c)
theorem aVz (l:List Sup) (hl:l.length≤1000000) (hp:∀x∈l,x.params.length≤1000000∧aQ x.body≤4000000):aW Tryz.prog 8 [zN l] [] (.one (.c (.sl 15 ((gV l).map aS)))) []:=by
 refine bZ (n:=36) tok Tryz.func8 rfl rfl rfl ?_;refine sg rfl (sg rfl (AWp.sub (Sub.own (t:=3) (id:=500) 35 15 rfl rfl) ?_));refine a8 (sg rfl (aC ?_));have J:(l.map dA).length=l.length:=φ _;refine aK (fun i:Nat=>mkm [(9,zN l),(10,I .i64 ((l.map dA).length:Int)),(3,.one (.hs 500 0 i i)),(11,I .i64 i)] [(500,.arr 35 15 ((gV (l.take i)).map aS) 0)] i) (fun i=>i≤l.length) (fun i=>l.length-i) 0 (Al _) (Sub.listM ⟨rfl,rfl,rfl,rfl,trivial⟩ ⟨⟨_,rfl,.arr⟩,trivial⟩ rfl (fun i hi=>absurd hi (Nat.not_lt_zero i)) rfl) ?_;intro i hi;have O:(gV (l.take i)).length=i:=by unfold gV;rw[φ,Ap];omega
 refine sg rfl (a8 (aA rfl (fun hb=>?_) (fun hb=>?_)))
 ·have Y:=ltD hb J;obtain⟨x,hx⟩:=aJ Y;have ac:=bT dA hx;obtain⟨ad,Z⟩:=hp x (δ hx);have ae:=aK4 _ x.body (le_refl _) Z;have aa:=aMy x.params;refine aD (a8 (aC (sgh [(0,.row i (dA x))] rfl (sgh [(2,.pc (.pa (aB x.body)))] rfl (a8 (sk 2 rfl (kc aa ?_)))))));refine az (aC ?_);refine aSn (st':=.ready) (j:=none) (hin:=[(771,bkO x.params),(6,coV (eW x.body (x.params.drop x.params.length)))]) (hout:=[(771,bkO x.params),(6,coV (eW x.body (x.params.drop 0)))]) 900 (1000+i) [(6,.one (.vp 6 0))]
   (mkm [(9,zN l),(10,I .i64 ((l.map dA).length:Int)),(3,.one (.hs 500 0 i i)),(11,I .i64 i),(5,.one (.vp 5 0)),(6,.one (.vp 6 0))] [(500,.arr 35 15 ((gV (l.take i)).map aS) 0),(5,.var 85 ((dA x).map R.c)),(6,coV (eW x.body x.params))] (i+1))
   a03 rfl ⟨rfl,trivial⟩ ⟨rfl,by rw[Cz];rfl,trivial⟩ ⟨.inl (by simp[keys]),.inl (by simp[keys]),trivial⟩ rfl ?_
   (aW.row (aHr x.params (by omega) 900 [771,900,6] (fun k=>[(900,.lp .ready none ⟨36,_,_,_⟩ [(6,.one (.vp 6 0))]),(6,coV (eW x.body (x.params.drop k)))]) (fun k=>⟨rfl,rfl⟩) rfl ?_) pO pO) ?_ (by simp) ?_ ?_
  ·repeat first | exact q aX2 | exact aHe aX2 | refine aHd ?_ | refine aBb ?_
  ·intro k s hs;have hd:=aMl x.body hs;refine aTi.row ?_ pO pO;refine aTi.of (j:=none) (fun l=>?_) rfl;refine ag [] rfl ⟨rfl,?_⟩;refine aC (AWp.cut (mk [] [(771,bkO x.params),(6,coV (oE s (eW x.body (x.params.drop (k+1)))))]) (ag [(2,.all)] rfl (Sub.trans sl (vp 6 (aB (oE s (eW x.body (x.params.drop (k+1)))))))) ?_);rw[hd];exact⟨rfl,⟨⟨_,rfl,.var rfl⟩,⟨_,rfl,.var rfl⟩,trivial⟩,rfl⟩
  ·exact a4p rfl
  ·exact Sub.rangeM ⟨rfl,rfl,rfl,rfl,rfl,rfl,trivial⟩ ⟨⟨_,rfl,.arr⟩,⟨_,rfl,.var rfl⟩,⟨_,rfl,.var rfl⟩,trivial⟩ rfl (fun j hj=>by repeat first | exact q (aVq hj) | exact aHe (aVq hj) | refine aHd ?_ | refine aBb ?_) rfl rfl
  refine ag [(5,.all)] rfl (ag [] rfl ?_);have y:(gV (l.take i)).map aS++[aS (Bind.mk x.name zTy (eW x.body x.params))]=(gV (l.take (i+1))).map aS:=by
   unfold gV;rw[cB hx];simp
  exact⟨i+1,Y,by dsimp only;omega,Sub.listM ⟨rfl,rfl,Go.AM.hs_ren (by simp;omega) (by simp;omega),rfl,trivial⟩ ⟨⟨_,rfl,.arrS y⟩,trivial⟩ rfl (fun j hj=>by repeat first | exact q (aVq hj) | exact aHe (aVq hj) | refine aHd ?_ | refine aBb ?_) rfl⟩
 ·have ab:=geD hb J hi;subst ab;rw[As] at O ⊢;refine aL (sg rfl (AWp.sub (Sub.freeze (id:=500) rfl) ?_));exact aF (rtT (hc:=hs_all rfl rfl (by rw[φ];exact O.symm) rfl))
theorem aWv {n B:Int}(h1: -(10*B)<n) (h2:n<10*B): -B<n.tdiv 10∧n.tdiv 10<B:=by
 rcases Int.le_total 0 n with h | h
 ·rw[Int.tdiv_eq_ediv_of_nonneg h];omega
 ·obtain⟨m,rfl⟩:∃m,n= -m:=⟨-n,by omega⟩
  rw[Int.neg_tdiv,Int.tdiv_eq_ediv_of_nonneg (by omega)];omega
theorem a2j (n:Int): -10<n.tmod 10∧n.tmod 10<10:=by
 rcases Int.le_total 0 n with h | h
 ·rw[Int.tmod_eq_emod_of_nonneg h];omega
 ·obtain⟨m,rfl⟩:∃m,n= -m:=⟨-n,by omega⟩
  rw[Int.neg_tmod,Int.tmod_eq_emod_of_nonneg (by omega)];omega
theorem aVa {n:Int}(h:i64 n):i64 (n.tdiv 10):=by
 have:=aWv (n:=n) (B:=922337203685477581) (by unfold i64 at h;omega) (by unfold i64 at h;omega);unfold i64;omega
theorem a4w (k:Nat) (y:∀n:Int,-((10:Int)^k)<n→n<(10:Int)^k→i64 n→k≤30→1≤k→∃s:Str,s.length≤k+1∧aW Tryz.prog 102 [I .i64 n] [] (Go.AM.T s) []) (n:Int) (h1: -((10:Int)^(k+1))<n) (h2:n<(10:Int)^(k+1)) (hn:i64 n) (hk:k+1≤30):
  ∃s:Str,s.length≤k+2∧aW Tryz.prog 102 [I .i64 n] [] (Go.AM.T s) []:=by
 obtain⟨r1,r2⟩:=a2j n;have J:=aVa hn;have hM:1000000000≤maxLen:=by decide
 obtain⟨r',q,hr0⟩:∃r':Int,(r'=if n.tmod 10<0 then 0-n.tmod 10 else n.tmod 10)∧0≤r'∧r'<10:=⟨_,rfl,by split<;>omega⟩
 obtain⟨d,hd⟩:∃d:UInt8,d=UInt8.ofNat (IntKind.u8.wrap (48+r')).toNat:=⟨_,rfl⟩
 by_cases O: -10<n∧n<10
 ·refine⟨if n<0 then [45,d] else [d],by split<;>simp,?_⟩;refine bZ (n:=32) tok Tryz.func102 rfl rfl rfl ?_;refine sg rfl (sk 1 rfl (kw (op:=.rem) (a:=n) (b:=10) (n.tmod 10) rfl ?_));refine kz 1 rfl (a8 (sg rfl (AWp.cut (mk [(0,I .i64 n),(3,I .i64 r')] []) ?_ ?_)))
  ·refine aA rfl (fun hb=>?_) (fun hb=>?_)
   ·have hb:n.tmod 10<0:=ψ hb;rw[κ hb] at q;subst q;exact ag [] rfl sl
   ·have hb:¬n.tmod 10<0:=π hb;rw[θ hb] at q;subst q;exact aD sl
  refine sg rfl (AWp.sub (st2:=mk [(0,I .i64 n),(4,Go.AM.T [d])] []) (sl (he:=⟨rfl,by rw[hd];rfl,trivial⟩)) ?_);refine a8 (a8 (agF 3 [] rfl rfl rfl (aA rfl (fun _=>a8 (sg rfl ?_)) (fun hb=>by simp at hb;omega))));by_cases h0:n<0
  ·rw[κ h0];exact aA rfl (fun _=>sg rfl (aF rtT)) (fun hb=>absurd h0 (π hb))
  ·rw[θ h0];exact aA rfl (fun hb=>absurd (ψ hb) h0) (fun _=>aD (sg rfl (aF rtT)))
 ·have Y:1≤k:=by
   cases k with
   | zero=>simp at h1 h2;omega
   | succ k=>omega
  have Z:(10:Int)^(k+1)=10*(10:Int)^k:=by rw[Int.pow_succ,Int.mul_comm]
  rw[Z] at h1 h2;obtain⟨q1,q2⟩:=aWv h1 h2;obtain⟨s,hs,hc⟩:=y (n.tdiv 10) q1 q2 J (by omega) Y;refine⟨s++[d],by rw[ε];simp;omega,?_⟩;refine bZ (n:=32) tok Tryz.func102 rfl rfl rfl ?_;refine sg rfl (sk 1 rfl (kw (op:=.rem) (a:=n) (b:=10) (n.tmod 10) rfl ?_));refine kz 1 rfl (a8 (sg rfl (AWp.cut (mk [(0,I .i64 n),(3,I .i64 r')] []) ?_ ?_)))
  ·refine aA rfl (fun hb=>?_) (fun hb=>?_)
   ·have hb:n.tmod 10<0:=ψ hb;rw[κ hb] at q;subst q;exact ag [] rfl sl
   ·have hb:¬n.tmod 10<0:=π hb;rw[θ hb] at q;subst q;exact aD sl
  refine sg rfl (AWp.sub (st2:=mk [(0,I .i64 n),(4,Go.AM.T [d])] []) (sl (he:=⟨rfl,by rw[hd];rfl,trivial⟩)) ?_);refine a8 (a8 (agF 3 [] rfl rfl rfl (aA rfl (fun hb=>by simp at hb;exact absurd ⟨hb.1,hb.2⟩ O) (fun _=>aD (sk 1 rfl (kw (op:=.quo) (a:=n) (b:=10) (n.tdiv 10) (by show(if(10:Int)=0 then none else some (IntKind.i64.wrap (n.tdiv 10)))=some (n.tdiv 10);rw[θ (by decide),Ck _ J]) ?_))))));refine kc hc ?_;exact kz 3 rfl (aF (rtT (hc:=.refl)))
theorem a4y:∀(k:Nat) (n:Int),-((10:Int)^k)<n→n<(10:Int)^k→i64 n→k≤30→1≤k→∃s:Str,s.length≤k+1∧aW Tryz.prog 102 [I .i64 n] [] (Go.AM.T s) []
 | 0,n,_,_,_,_,h=>absurd h (by decide)
 | k+1,n,h1,h2,h3,h4,_=>a4w k (fun n=>a4y k n) n h1 h2 h3 h4
theorem a4x (n:Int) (h:i64 n):∃s:Str,s.length≤21∧aW Tryz.prog 102 [I .i64 n] [] (Go.AM.T s) []:=by
 have y:(10:Int)^20=100000000000000000000:=rfl;have q:=h;unfold i64 at q;exact a4y 20 n (by omega) (by omega) h (by omega) (by omega)
theorem aI0 {c:Core}(h:¬c.form=4):spH c=c:=by
 obtain⟨f,n,s,t,ks,bs,al⟩:=c;have h:¬f=4:=h;rw[spH,θ h]
theorem a4a {c:Core}(h:iN c):c.form=3→i64 c.n:=by
 obtain⟨f,n,s,t,ks,bs,al⟩:=c;exact(jP.1 h).1
theorem aN1 {a b:Core}(h:ShS a b):∃s,aW Tryz.prog 40 [.pa (aB a)] [] (Go.AM.T s) []∧aW Tryz.prog 40 [.pa (aB b)] [] (Go.AM.T s) []:=by
 obtain⟨h1,h2,h3,h4,_,_,h5,h6,J⟩:=h;rcases aTy h1 with e | e | e
 ·have q:=aI0 (c:=a) (by omega);have y:=aI0 (c:=b) (by omega);have g1:=rJ (D:=[]) a (oA h2) (by rw[q];omega);have g2:=rJ (D:=[]) b (oA h4) (by rw[y];omega);unfold a1w at g1 g2;rw[q,θ (by omega),θ (by omega)] at g1;rw[y,θ (by omega),θ (by omega)] at g2;exact⟨_,g1,g2⟩
 ·have q:=aI0 (c:=a) (by omega);have y:=aI0 (c:=b) (by omega);obtain⟨D,_,I⟩:=a4x a.n (a4a h3 e);have g1:=rJ (D:=D) a (oA h2) (by rw[q];exact fun _=>I);have g2:=rJ (D:=D) b (oA h4) (by rw[y,h6 e];exact fun _=>I);unfold a1w at g1 g2;rw[q,θ (by omega),κ e] at g1;rw[y,θ (by omega),κ (by omega)] at g2;exact⟨_,g1,g2⟩
 ·obtain⟨g3,g4⟩:=J e;have g1:=rJ (D:=[]) a (oA h2) (by omega);have g2:=rJ (D:=[]) b (oA h4) (by omega);unfold a1w at g1 g2;rw[κ e] at g1;rw[κ g3,g4] at g2;exact⟨_,g1,g2⟩
def aG1:Str:=[109,97,105,110]
def aZs:Str:=[111,116,104,101,114]
def tb (x y:Core):List Bind:=[.mk aG1 zTy x,.mk aZs zTy y]
theorem a4h {z:Bool}{m:Nat}{c:Core}(h:GC z [] m c) (hm:m≤110000) {s:Str}(hs:Fc s) (hl:s.length≤8):BB (.mk s zTy (aZ c))∧EB (.mk s zTy (aZ c)):=by
 obtain⟨f1,f2,f3,f4,f5⟩:=h.facts;exact⟨⟨hs,hl,h.era,by show aQ (aZ c)<_;omega⟩,⟨by show aQ (aZ c)≤_;omega,f3,f4,nX _,by show bX (aZ c)≤_;omega,hl⟩⟩
theorem aKc {b:Core}:∀{l:List Str},(∀p∈l,p.length≤30)→m30 (eW b l)≤31*l.length+m30 b
 | [],_=>by simp[eW]
 | p::l,h=>by
  have h1:=a1q (h p η);have h2:=aKc (b:=b) (l:=l) fun q y=>h q (χ _ y)
  rw[eW,m30,gM,gM,j9,l7,Ai];omega
theorem a1p {N:Str→Prop}{c:Core}(h:bU (LQ N) c) (hm:m30 c≤500000000):CB c:=⟨oA h,a9b h,hm⟩
theorem a44 {s:Str}(h:s.length≤8):CB (vC s):=by
 refine a1p (N:=N6) (a1m (by omega)) ?_;unfold vC;rw[m30,gM,j9,l7,a1q (by omega)];omega
theorem aXr:j2 540000000000:=fun k hk=>aRs k (by omega)
theorem aHt (l0 l1:List Int) (n0:aWp l0) (f0:Fits l0) (n1:aWp l1) (f1:Fits l1):
  aW Tryz.prog 3 [.one (.c (.sl 1 (l0.map aNc))),.one (.c (.sl 1 (l1.map aNc)))] [] (B true) []:=by
 obtain⟨c,tc,mc,gc,hmc,_,hTc⟩:=aQ3 l0 n0 f0;obtain⟨d,td,md,gd,hmd,_,hTd⟩:=aQ3 l1 n1 f1;obtain⟨bc,ec⟩:=a4h gc hmc (s:=aG1) (.inl rfl) (by decide);obtain⟨Y,ed⟩:=a4h gd hmd (s:=aZs) (.inr rfl) (by decide);have hEc:aW Tryz.prog 6 [.pa (aB c)] [] (.pa (aB (aZ c))) []:=aHq _ c (le_refl _) (by have:=gc.facts.1;omega);have hEd:aW Tryz.prog 6 [.pa (aB d)] [] (.pa (aB (aZ d))) []:=aHq _ d (le_refl _) (by have:=gd.facts.1;omega);obtain⟨O,hsp,hag⟩:=aP2 bc Y (show aG1.head?≠aZs.head? by decide);have q:∀b∈tb (aZ c) (aZ d),BB b∧EB b:=fun b hb=>by
  rcases Ac.1 hb with rfl | hb
  ·exact⟨bc,ec⟩
  ·rw[Ab.1 hb];exact⟨Y,ed⟩
 have J:∀x∈fD (tb (aZ c) (aZ d)),aQ x.body≤4000000∧x.params.length≤200000:=fun x hx=>by
  obtain⟨b,hb,hx'⟩:=Ce.1 hx;exact((q b hb).2.lift.2 x hx').2
 have hLl:(fD (tb (aZ c) (aZ d))).length≤55002:=by
  have e:fD (tb (aZ c) (aZ d))=kS (.mk aG1 zTy (aZ c))++kS (.mk aZs zTy (aZ d)):=aU7 _ _;have h1:=ec.lift.1;have h2:=ed.lift.1;rw[e,ε];omega
 have hLf:aW Tryz.prog 7 [.one (.c (.sl 15 ((tb (aZ c) (aZ d)).map aS)))] [] (zN (fD (tb (aZ c) (aZ d)))) []:=aW.plain (aYd (tb (aZ c) (aZ d)) (by show 2≤1000;decide) fun b hb=>(q b hb).2.pok) (φ _).symm;have hBd:=aVz (fD (tb (aZ c) (aZ d))) (by omega) fun x hx=>⟨by have:=(J x hx).2;omega,(J x hx).1⟩
 have hCk:=aR6 (fD (tb (aZ c) (aZ d))) (by omega) J;have O:yM (fD (tb (aZ c) (aZ d)))=true:=O;rw[O] at hCk;have hlv:=a0s;have hB1:∀b∈tb (aZ c) (aZ d),CB b.body:=fun b hb=>a1p (q b hb).1.e.1 (by have:=mX b.body;have:=(q b hb).2.sz;omega)
 have hB2:∀b∈gV (fD (tb (aZ c) (aZ d))),CB b.body:=fun b hb=>by
  obtain⟨x,hx,rfl⟩:=Ah.1 hb;obtain⟨h1,h2,h3,h4,h5⟩:=hsp x hx;refine a1p (rP h3 h5) ?_;have g1:=aKc (b:=x.body) (l:=x.params) fun p hp=>(a57 (h3 p hp)).2
  have g2:=mX x.body;have g3:=J x hx;show m30 (eW x.body x.params)≤_;omega
 have hbl:(gV (fD (tb (aZ c) (aZ d)))).length≤1000000000:=by unfold gV;rw[φ];omega
 have hW1:∀s:Str,s.length≤8→aW Tryz.prog 9 [.one (.c (.sl 15 ((tb (aZ c) (aZ d)).map aS))),.pa (aB (varC s)),I .i64 60] [] (a6h (whE (sfE (tb (aZ c) (aZ d))) 60 0 (vC s))) []:=fun s hs=>a45 (by show 2≤1000000000;decide) hB1 aXr 60 (by decide) _ (a44 hs)
 have hW2:∀s:Str,s.length≤8→aW Tryz.prog 9 [.one (.c (.sl 15 ((gV (fD (tb (aZ c) (aZ d)))).map aS))),.pa (aB (varC s)),I .i64 200] [] (a6h (whE (sfE (gV (fD (tb (aZ c) (aZ d))))) 200 0 (vC s))) []:=fun s hs=>a45 hbl hB2 aXr 200 (by decide) _ (a44 hs)
 have hSm:∀b∈tb (aZ c) (aZ d),∀W1 W2,W1=whE (sfE (tb (aZ c) (aZ d))) 60 0 (vC b.name)→W2=whE (sfE (gV (fD (tb (aZ c) (aZ d))))) 200 0 (vC b.name)→aW Tryz.prog 11 [.pa (aB W1.1),I .i64 W1.2.2,.pa (aB W2.1),I .i64 W2.2.2] [] (B true) []:=fun b hb W1 W2 e1 e2=>by
  have h:aLl W1 W2:=by
   rw[e1,e2];refine hag b ?_ 59 199;rcases Ac.1 hb with rfl | hb
   ·exact .inl rfl
   ·exact .inr (Ab.1 hb)
  refine aVy ?_;rcases h with h | h | h | h | ⟨h,k⟩
  ·exact .inl h
  ·exact .inr (.inl h)
  ·exact .inr (.inr (.inl h))
  ·exact .inr (.inr (.inr (.inl h)))
  ·exact .inr (.inr (.inr (.inr ⟨h,fun e=>aN1 (k e)⟩)))
 have hnl:∀b∈tb (aZ c) (aZ d),b.name.length≤8:=fun b hb=>(q b hb).1.l
 have htb:(tb (aZ c) (aZ d)).map aS=[aS (.mk aG1 zTy (aZ c)),aS (.mk aZs zTy (aZ d))]:=rfl;have aEm:∀i:Nat,i<2→∃b,(tb (aZ c) (aZ d))[i]?=some b∧b∈tb (aZ c) (aZ d):=fun i hi=>by
  obtain⟨b,hb⟩:=aJ (l:=tb (aZ c) (aZ d)) (k:=i) hi;exact⟨b,hb,δ hb⟩
 clear hag hsp J hLl hB1 hB2 hbl q O bc Y ec ed gc gd;generalize aZ c=x at *;generalize aZ d=y at *;generalize fD (tb x y)=L at *;generalize gV L=B at *;have hrows:[aS (.mk aG1 zTy x),aS (.mk aZs zTy y)]=(tb x y).map aS:=rfl;refine bZ (n:=79) tok Tryz.func3 rfl rfl rfl ?_;refine sg rfl (sk 1 rfl (kc hTc ?_));refine kz 7 rfl (sk 1 rfl (kc hTd ?_));refine kz 7 rfl (a8 (aE mixed (akN 1 [] rfl (kc hEc ?_))));refine akN 2 [(2,.pc (.pa (aS (.mk aG1 zTy x))))] rfl (kc hEd ?_);refine akN 3 [(5,.pc (.pa (aS (.mk aZs zTy y)))),(6,.all)] rfl (az (sk 1 rfl (kc hLf ?_)));refine kz 1 rfl (sk 1 rfl (kc hBd ?_));refine kz 1 rfl (a8 (sg rfl (aC (aK (fun i:Nat=>mk [(9,.one (.c (.sl 15 ((tb x y).map aS)))),(10,zN L),(11,.one (.c (.sl 15 (B.map aS)))),(12,I .i64 i)] []) (fun i=>i≤2) (fun i=>2-i) 0 (Al _) sl ?_))));intro i hi;refine a8 (sg rfl (aA rfl (fun hb=>?_) (fun hb=>?_)))
 ·have hlt:i<2:=by have:=ψ hb;omega
  obtain⟨b,hbi,Z⟩:=aEm i hlt;have hbi':=bT aS hbi;have hv:=c_v b.name;have w1:=hW1 b.name (hnl b Z);have w2:=hW2 b.name (hnl b Z);have hs:=hSm b Z _ _ rfl rfl;generalize whE (sfE (tb x y)) 60 0 (vC b.name)=W1 at w1 hs;generalize whE (sfE B) 200 0 (vC b.name)=W2 at w2 hs;generalize tb x y=A at *;obtain⟨v1,k1,e1⟩:=W1;obtain⟨v2,k2,e2⟩:=W2;dsimp only at hs;refine aD (a8 (aC (skh 6 [(3,.row i (aS b))] rfl (kc hv ?_))));refine kc w1 ?_;refine kz 8 rfl (skh 6 [(3,.row i (aS b))] rfl (kc hv ?_));refine kc w2 ?_;refine kz 8 rfl (sk 4 rfl (kc hs ?_));exact kz 1 rfl (aA rfl (fun hb=>absurd hb (by decide)) (fun _=>aD (ag [] rfl ⟨i+1,hlt,by dsimp only;omega,sl⟩)))
 refine aL (sk 1 rfl (kc hCk ?_));refine ak 1 [] rfl (kcG hlv ?_);exact kz 2 rfl (aF rtT)
end Go.Proofs.YtnjaiimffoninaaGreatDoor
