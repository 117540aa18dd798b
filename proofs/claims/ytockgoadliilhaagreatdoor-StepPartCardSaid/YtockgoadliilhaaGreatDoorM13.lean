/-
  Texts Lq3 to Lq8 in one.
-/
import Derived.Test.YtockgoadliilhaaGreatDoorM12
open List (append_nil cons_append drop_eq_getElem_cons drop_left' drop_length length_cons length_map length_set length_take map_append map_cons map_id map_map map_nil mem_append mem_cons mem_cons_of_mem mem_cons_self mem_map mem_of_mem_drop mem_or_eq_of_mem_set mem_singleton of_mem_zip set_cons_succ sum_cons sum_nil take_add_one take_append_drop take_left' take_length)
open Nat (add_mul le_refl le_trans mul_le_mul_right sub_le sub_self zero_add zero_le)
namespace Go.Proofs.YtockgoadliilhaaGreatDoor
open Go Go.AM
set_option maxRecDepth 20000
set_option maxHeartbeats 4000000
def gE (p:Str×List Core):Str×List Core:=(p.1,p.2.map tE)
mutual
theorem aTe:∀c:Core,gvC (tE c)=(gvC c).map gE
 | .mk f n s t ks bs al=>by
  rw[tE,gvC,gvC,aW1 ks];by_cases h2:f=2
  ·rw[θ h2,θ h2,ψ (show ¬f=7 by omega)];rfl
  rw[ψ h2,ψ h2];by_cases h4:f=4
  ·rw[θ h4,θ h4,aA5];cases gvH ks with
   | none=>rfl
   | some p=>simp[gE]
  rw[ψ h4,ψ h4];by_cases h6:f=6
  ·rw[θ h6,θ h6]
  ·rw[ψ h6,ψ h6];rfl
theorem aW1:∀l:List Core,gvH (tEs l)=(gvH l).map gE
 | []=>by rw[tEs,gvH];rfl
 | c::l=>by rw[tEs,gvH,gvH,aTe c]
end
theorem aA8 (c:Core):shC (tE c)=shC c:=by
 unfold shC;rw[aA6,aTe,Option.isSome_map]
section
variable {H:Core→Core→Prop}{ρ:List (Str×Str)}
structure ND (H:Core→Core→Prop) (ρ:List (Str×Str)) (f n:Int) (s:Str) (ks:List Core) (bs:List Bind) (al:List Alt) (f' n':Int) (s':Str) (ks':List Core) (bs':List Bind) (al':List Alt):Prop where
 ef:f=f'
 en:n=n'
 es:f=5∨f=7∨s=s'
 lk:ks.length=ks'.length
 lb:bs.length=bs'.length
 la:al.length=al'.length
 kk:∀(i:Nat) (x y:Core),ks[i]?=some x→ks'[i]?=some y→RA H ((gvN f s bs).zip (gvN f s' bs')++ρ) (tE x) (tE y)
 kb:∀(i:Nat) (x y:Bind),bs[i]?=some x→bs'[i]?=some y→RA H ((gvN f s bs).zip (gvN f s' bs')++ρ) (tE x.body) (tE y.body)
 ka:∀(i:Nat) (x y:Alt),al[i]?=some x→al'[i]?=some y→AH x y∧RA H (x.vars.zip y.vars++ρ) (tE x.body) (tE y.body)
theorem ND.ra {f n:Int}{s:Str}{t:Ty}{ks:List Core}{bs:List Bind}{al:List Alt}{f' n':Int}{s':Str}{t':Ty}{ks':List Core}{bs':List Bind}{al':List Alt}(h1:¬f=1) (h:ND H ρ f n s ks bs al f' n' s' ks' bs' al'):
  RA H ρ (tE (.mk f n s t ks bs al)) (tE (.mk f' n' s' t' ks' bs' al')):=by
 obtain⟨rfl,rfl,hs,lk,lb,la,k,b,a⟩:=h;rw[iE,iE];refine .node h1 ?_ (by rw[ξ,ξ];exact lk) (by rw[ξ,ξ];exact lb) (by rw[ξ,ξ];exact la) (fun i p q hp I=>?_) (fun i p q hp I=>?_) (fun i p q hp I=>?_) (fun i p q hp I=>?_)
 ·rcases hs with h | h | h
  ·exact .inl h
  ·exact .inr (.inl h)
  ·exact .inr (.inr (by rw[h]))
 ·obtain⟨p,J,rfl⟩:=dH hp;obtain⟨q,N,rfl⟩:=dH I;rw[qW,qW];exact k i p q J N
 ·obtain⟨p,J,rfl⟩:=dH hp;obtain⟨q,N,rfl⟩:=dH I;rw[qW,qW];exact b i p q J N
 ·obtain⟨p,J,rfl⟩:=dH hp;obtain⟨q,N,rfl⟩:=dH I;exact(a i p q J N).1
 ·obtain⟨p,J,rfl⟩:=dH hp;obtain⟨q,N,rfl⟩:=dH I;exact(a i p q J N).2
theorem RA.inv {f n:Int}{s:Str}{t:Ty}{ks:List Core}{bs:List Bind}{al:List Alt}{f' n':Int}{s':Str}{t':Ty}{ks':List Core}{bs':List Bind}{al':List Alt}(h:RA H ρ (tE (.mk f n s t ks bs al)) (tE (.mk f' n' s' t' ks' bs' al'))):
  H (tE (.mk f n s t ks bs al)) (tE (.mk f' n' s' t' ks' bs' al'))∨(f=1∧AV ρ s s')∨(¬f=1∧ND H ρ f n s ks bs al f' n' s' ks' bs' al'):=by
 rw[iE,iE] at h ⊢;generalize hx:Core.mk f n (if f=7 then [97] else s) zTy (ks.map tE) (bs.map tEB) (al.map tEA)=x at h;generalize hy:Core.mk f' n' (if f'=7 then [97] else s') zTy (ks'.map tE) (bs'.map tEB) (al'.map tEA)=y at h;cases h with
 | hole h=>exact .inl h
 | var h=>
  injection hx with N O I e4 W Y Z;injection hy with g1 g2 g3 g4 g5 g6 g7;rw[ψ (by omega)] at I g3;exact .inr (.inl ⟨N,by rw[I,g3];exact h⟩)
 | node h1 hs lk lb la hk hb ha ha'=>
  injection hx with N O I e4 W Y Z;injection hy with g1 g2 g3 g4 g5 g6 g7;subst N O W Y Z g5 g6 g7;obtain rfl:=g1;obtain rfl:=g2;rw[ξ,ξ] at lk lb la;refine .inr (.inr ⟨h1,rfl,rfl,?_,lk,lb,la,fun i p q hp J=>?_,fun i p q hp J=>?_,fun i p q hp J=>⟨?_,?_⟩⟩)
  ·rcases hs with h | h | h
   ·exact .inl h
   ·exact .inr (.inl h)
   ·by_cases h7:f'=7
    ·exact .inr (.inl h7)
    ·rw[←I,←g3,ψ h7,ψ h7] at h;exact .inr (.inr h)
  ·have:=hk i (tE p) (tE q) (by rw[A5,hp];rfl) (by rw[A5,J];rfl);rwa [←I,←g3,qW,qW] at this
  ·have:=hb i (tEB p) (tEB q) (by rw[A5,hp];rfl) (by rw[A5,J];rfl);rwa [←I,←g3,qW,qW] at this
  ·exact ha i (tEA p) (tEA q) (by rw[A5,hp];rfl) (by rw[A5,J];rfl)
  ·exact ha' i (tEA p) (tEA q) (by rw[A5,hp];rfl) (by rw[A5,J];rfl)
theorem AV.nil {x y:Str}(h:AV [] x y):False:=by cases h
theorem kX {α β:Type}{l:List α}{m:List β}(h:l.length=m.length) {i:Nat}{x:α}(hx:l[i]?=some x):∃y,m[i]?=some y:=by
 have:=(ε.1 hx).1
 exact⟨m[i]'(by omega),List.getElem?_eq_getElem _⟩
theorem RA.free (hc:∀b x,H b x→pfR b=[]∧pfR x=[]) {c c':Core}(h:RA H ρ c c'):(∀x∈pfR c,x∈ρ.map (·.1))∧∀x∈pfR c',x∈ρ.map (·.2):=by
 induction h with
 | hole h=>
  obtain⟨h1,h2⟩:=hc _ _ h;rw[h1,h2];simp
 | var h=>
  obtain⟨h1,h2⟩:=h.mem;refine⟨fun x hx=>?_,fun x hx=>?_⟩
  ·rw[pfR,θ rfl,Ac] at hx;rw[hx];exact h1
  ·rw[pfR,θ rfl,Ac] at hx;rw[hx];exact h2
 | @node ρ f n x y t t' ks ks' bs bs' al al' h1 hs lk lb la _ _ ha _ W Y Z=>
  have hz:=aQ6 (f:=f) (s:=x) (s':=y) lb;refine⟨fun z O=>?_,fun z O=>?_⟩
  ·rcases(gO h1).1 O with⟨p,hp,I,J⟩ | ⟨p,hp,I,J⟩
   ·rcases ω.1 hp with hp | hp
    ·obtain⟨i,hi⟩:=List.mem_iff_getElem?.1 hp;obtain⟨q,N⟩:=kX lk hi;have:=(W i p q hi N).1 z I;rw[As,zip_fst hz] at this;exact(ω.1 this).resolve_left J
    ·obtain⟨p,kp,rfl⟩:=Ad.1 hp;obtain⟨i,hi⟩:=List.mem_iff_getElem?.1 kp;obtain⟨q,N⟩:=kX lb hi;have:=(Y i p q hi N).1 z I;rw[As,zip_fst hz] at this;exact(ω.1 this).resolve_left J
   ·obtain⟨i,hi⟩:=List.mem_iff_getElem?.1 hp;obtain⟨q,N⟩:=kX la hi;have:=(Z i p q hi N).1 z I;rw[As,zip_fst (ha i p q hi N).2.2.2.1] at this;exact(ω.1 this).resolve_left J
  ·rcases(gO h1).1 O with⟨q,N,I,J⟩ | ⟨q,N,I,J⟩
   ·rcases ω.1 N with N | N
    ·obtain⟨i,hi⟩:=List.mem_iff_getElem?.1 N;obtain⟨p,hp⟩:=kX lk.symm hi;have:=(W i p q hp hi).2 z I;rw[As,o7 hz] at this;exact(ω.1 this).resolve_left J
    ·obtain⟨q,kq,rfl⟩:=Ad.1 N;obtain⟨i,hi⟩:=List.mem_iff_getElem?.1 kq;obtain⟨p,hp⟩:=kX lb.symm hi;have:=(Y i p q hp hi).2 z I;rw[As,o7 hz] at this;exact(ω.1 this).resolve_left J
   ·obtain⟨i,hi⟩:=List.mem_iff_getElem?.1 N;obtain⟨p,hp⟩:=kX la.symm hi;have:=(Z i p q hp hi).2 z I;rw[As,o7 (ha i p q hp hi).2.2.2.1] at this;exact(ω.1 this).resolve_left J
theorem RA.closed (hc:∀b x,H b x→pfR b=[]∧pfR x=[]) {c c':Core}(h:RA H [] (tE c) (tE c')):pfR c=[]∧pfR c'=[]:=by
 obtain⟨h1,h2⟩:=h.free hc;rw[mU] at h1 h2;exact⟨List.eq_nil_iff_forall_not_mem.2 fun x hx=>(by have:=h1 x hx;cases this),List.eq_nil_iff_forall_not_mem.2 fun x hx=>(by have:=h2 x hx;cases this)⟩
theorem RA.mono {H':Core→Core→Prop}(I:∀b x,H b x→H' b x) {c c':Core}(h:RA H ρ c c'):RA H' ρ c c':=by
 induction h with
 | hole h=>exact .hole (I _ _ h)
 | var h=>exact .var h
 | node h1 hs lk lb la _ _ ha _ J N O=>exact .node h1 hs lk lb la J N ha O
theorem RA.gv (hh:∀b x,H b x→gvC b=none):∀(k:Nat) (c c':Core),aU c≤k→cB (QL 403) c→RA H [] (tE c) (tE c')→∀(s:Str) (l:List Core),gvC c=some (s,l)→
  ∃l',gvC c'=some (s,l')∧l.length=l'.length∧∀(i:Nat) (p q:Core),l[i]?=some p→l'[i]?=some q→RA H [] (tE p) (tE q)
 | 0,c,c',h,_,_=>by have:=bR c;omega
 | k+1,.mk f n nm t ks bs al,.mk f' n' nm' t' ks' bs' al',h,I,J=>by
  intro s l hg;obtain⟨Y,_⟩:= @dW f n nm t ks bs al;obtain⟨_,Z,_⟩:=aS.1 I;rcases J.inv with J | ⟨_,J⟩ | ⟨_,J⟩
  ·have:=hh _ _ J;rw[aTe,hg] at this;cases this
  ·exact J.nil.elim
  obtain⟨rfl,rfl,hs,lk,lb,la,hk,_⟩:=J;rw[gvC] at hg ⊢;by_cases h2:f=2
  ·rw[θ h2] at hg ⊢;obtain⟨rfl,rfl⟩:=Prod.mk.inj (Option.some.inj hg);rw[hs.resolve_left (by omega) |>.resolve_left (by omega)];exact⟨[],rfl,rfl,fun i p q hp=>by cases hp⟩
  rw[ψ h2] at hg ⊢;by_cases h4:f=4
  ·rw[θ h4] at hg ⊢;obtain⟨⟨a,b,rfl⟩,rfl,rfl⟩:=hY I (.inl h4);have N:gvN f nm []=[]:=by unfold gvN;rw[ψ (by omega)];rfl
   rw[N] at hk
   match ks',lk with
   | [O,b'],_=>
    have ra:=hk 0 a O rfl rfl;have rb:=hk 1 b b' rfl rfl;rw[gvH] at hg ⊢;cases e:gvC a with
    | none=>rw[e] at hg;cases hg
    | some p=>
     rw[e] at hg;obtain⟨s1,W⟩:=p;obtain⟨l2,e1,e2,e3⟩:=RA.gv hh k a O (by have:=Y a ζ;omega) (Z a ζ) ra s1 W e;have hg:=Option.some.inj hg;obtain⟨rfl,rfl⟩:=Prod.mk.inj hg;rw[e1];refine⟨l2++[b'],rfl,by simp[e2],fun i p q hp I=>?_⟩;by_cases hi:i<W.length
     ·have hp:(W++[b])[i]?=some p:=hp;rw[A7 hi] at hp;rw[A7 (by omega)] at I;exact e3 i p q hp I
     ·have hp:(W++[b])[i]?=some p:=hp;rw[Ay (by omega)] at hp;rw[Ay (by omega),←e2] at I;cases hj:i-W.length with
      | zero=>
       rw[hj] at hp I;obtain rfl:=Option.some.inj hp;obtain rfl:=Option.some.inj I;exact rb
      | succ j=>rw[hj] at hp;cases hp
  rw[ψ h4] at hg ⊢;by_cases h6:f=6
  ·rw[θ h6] at hg ⊢;obtain⟨⟨a,rfl⟩,rfl,rfl⟩:=dD I (.inr (.inl h6));have N:gvN f nm []=[]:=by unfold gvN;rw[ψ (by omega)];rfl
   rw[N] at hk
   match ks',lk with
   | [O],_=>
    rw[gvH] at hg ⊢;exact RA.gv hh k a O (by have:=Y a ζ;omega) (Z a ζ) (hk 0 a O rfl rfl) s l hg
  ·rw[ψ h6] at hg;cases hg
theorem kI {c:Core}:shC c=true↔c.form=5∨c.form=7∨c.form=3∨∃p,gvC c=some p:=by
 unfold shC;rw[Bool.or_eq_true,Bool.or_eq_true,Bool.or_eq_true,decide_eq_true_iff,decide_eq_true_iff,decide_eq_true_iff,Option.isSome_iff_exists]
theorem RA.sh (hh:∀b x,H b x→shC b=false) {c c':Core}(J:cB (QL 403) c) (h:RA H [] (tE c) (tE c')) (hs:shC c=true):shC c'=true∧c.form=c'.form∧c.n=c'.n:=by
 have I:∀b x,H b x→gvC b=none:=fun b x h=>by
  have:=hh b x h;cases e:gvC b with
  | none=>rfl
  | some p=>rw[kI.2 (.inr (.inr (.inr ⟨p,e⟩)))] at this;cases this
 have g:=RA.gv I _ c c' (le_refl _) J h;obtain⟨f,n,s,t,ks,bs,al⟩:=c;obtain⟨f',n',s',t',ks',bs',al'⟩:=c';rcases h.inv with h | ⟨_,h⟩ | ⟨_,h⟩
 ·have:=hh _ _ h;rw[aA8,hs] at this;cases this
 ·exact h.nil.elim
 obtain⟨rfl,rfl,_⟩:=h;refine⟨kI.2 ?_,rfl,rfl⟩;rcases kI.1 hs with h | h | h | ⟨⟨s,l⟩,h⟩
 ·exact .inl h
 ·exact .inr (.inl h)
 ·exact .inr (.inr (.inl h))
 ·obtain⟨l',e,_⟩:=g s l h;exact .inr (.inr (.inr ⟨_,e⟩))
end
inductive Val where
 | mk (form n:Int) (name:Str) (kids:List Val)
def Val.form:Val→Int | .mk f _ _ _=>f
def Val.n:Val→Int | .mk _ n _ _=>n
def Val.name:Val→Str | .mk _ _ s _=>s
mutual
def aE1:Val→List (List C)
 | .mk _ _ _ l=>l8 l
def l8:List Val→List (List C)
 | []=>[]
 | v::l=>[.int .i64 v.form,.int .i64 v.n,.str v.name,.sl 4 (aE1 v)]::l8 l
end
def k8 (v:Val):List C:=[.int .i64 v.form,.int .i64 v.n,.str v.name,.sl 4 (aE1 v)]
theorem iN:∀l:List Val,l8 l=l.map k8
 | []=>by simp[l8]
 | v::l=>by rw[l8,iN l];rfl
def zV:Val:=.mk 0 0 [] []
noncomputable def b7 (bd:List Bind):Nat→Nat→Core→Core×Nat×Int
 | 0,n,c=>if shC c=true then(c,n,0) else(zC,0,3)
 | k+1,n,c=>if shC c=true then(c,n,0) else
  if(bK bd (m30 c) c).2=0 then(if 6000<eX (bK bd (m30 c) c).1 then(zC,0,2) else b7 bd k (n+1) (bK bd (m30 c) c).1) else(zC,0,(bK bd (m30 c) c).2)
abbrev VE:Type:=Val×Nat×Int
def bV (f:Nat→Core→VE):Nat→List Core→List Val×Nat×Int
 | F,[]=>([],F,0)
 | F,c::l=>
  if(f F c).2.2=0 then
   (if(bV f (f F c).2.1 l).2.2=0 then((f F c).1::(bV f (f F c).2.1 l).1,(bV f (f F c).2.1 l).2.1,0) else([],(bV f (f F c).2.1 l).2.1,(bV f (f F c).2.1 l).2.2))
  else([],(f F c).2.1,(f F c).2.2)
def aYo:Val:=.mk 4 0 [] []
def aYq:Val:=.mk 3 0 [] []
def aYp (n:Int):Val:=.mk 2 n [] []
def aA2 (fs:List Fld) (f:Nat→Core→VE) (F:Nat):Option (Str×List Core)→VE
 | none=>(aYq,F,0)
 | some (s,l)=>match fs.find? fun x=>decide (x.name=s) with
  | none=>(aYq,F,0)
  | some x=>if ¬(l.length:Int)=x.arity then(aYq,F,0) else
   if(bV f F l).2.2=0 then(.mk 1 0 s (bV f F l).1,(bV f F l).2.1,0) else(zV,(bV f F l).2.1,(bV f F l).2.2)
noncomputable def cZ (md:Mod):Nat→Nat→Nat→Core→VE
 | 0,_,F,_=>(zV,F,3)
 | g+1,d,F,c=>
  if d=0 then(aYo,F,0)
  else if ¬(b7 md.binds F 0 c).2.2=0 then(zV,F,(b7 md.binds F 0 c).2.2)
  else if(b7 md.binds F 0 c).1.form=3 then(aYp (b7 md.binds F 0 c).1.n,F-(b7 md.binds F 0 c).2.1,0)
  else if(b7 md.binds F 0 c).1.form=7 then cZ md g d (F-(b7 md.binds F 0 c).2.1) ((b7 md.binds F 0 c).1.kids.headD zC)
  else aA2 md.fields (fun F c=>cZ md g (d-1) F c) (F-(b7 md.binds F 0 c).2.1) (gvC (b7 md.binds F 0 c).1)
theorem qK {bd:List Bind}:∀(k n:Nat) (c:Core),(b7 bd k n c).2.2=0→n≤(b7 bd k n c).2.1∧(b7 bd k n c).2.1≤n+k
 | 0,n,c,h=>by
  rw[b7] at h ⊢;by_cases hs:shC c=true
  ·rw[θ hs];exact⟨le_refl _,le_refl _⟩
  ·rw[ψ hs] at h;cases h
 | k+1,n,c,h=>by
  rw[b7] at h ⊢;by_cases hs:shC c=true
  ·rw[θ hs];exact⟨le_refl _,Nat.le_add_right _ _⟩
  rw[ψ hs] at h ⊢;by_cases h1:(bK bd (m30 c) c).2=0
  ·rw[θ h1] at h ⊢;by_cases h2:6000<eX (bK bd (m30 c) c).1
   ·rw[θ h2] at h;cases h
   ·rw[ψ h2] at h ⊢;have:=qK k (n+1) _ h;omega
  ·rw[ψ h1] at h;exact absurd h h1
theorem uY {f:Nat→Core→VE}(hf:∀F c,(f F c).2.1≤F):∀(l:List Core) (F:Nat),(bV f F l).2.1≤F
 | [],F=>le_refl _
 | c::l,F=>by
  rw[bV];have h1:=hf F c;have h2:=uY hf l (f F c).2.1;by_cases I:(f F c).2.2=0
  ·rw[θ I];by_cases J:(bV f (f F c).2.1 l).2.2=0
   ·rw[θ J];exact le_trans h2 h1
   ·rw[ψ J];exact le_trans h2 h1
  ·rw[ψ I];exact h1
theorem qR {md:Mod}:∀(g d F:Nat) (c:Core),(cZ md g d F c).2.1≤F
 | 0,d,F,c=>le_refl _
 | g+1,d,F,c=>by
  rw[cZ];by_cases hd:d=0
  ·rw[θ hd];exact le_refl _
  rw[ψ hd];by_cases h0:¬(b7 md.binds F 0 c).2.2=0
  ·rw[θ h0];exact le_refl _
  rw[ψ h0];by_cases h3:(b7 md.binds F 0 c).1.form=3
  ·rw[θ h3];exact sub_le _ _
  rw[ψ h3];by_cases h7:(b7 md.binds F 0 c).1.form=7
  ·rw[θ h7];exact le_trans (qR g d _ _) (sub_le _ _)
  rw[ψ h7];refine le_trans (m:=F-(b7 md.binds F 0 c).2.1) ?_ (sub_le _ _);generalize F-(b7 md.binds F 0 c).2.1=F';cases gvC (b7 md.binds F 0 c).1 with
  | none=>exact le_refl _
  | some p=>
   obtain⟨s,l⟩:=p;unfold aA2;dsimp only;cases hx:md.fields.find? fun x=>decide (x.name=s) with
   | none=>exact le_refl _
   | some x=>
    dsimp only;have hl:=uY (fun F c=>qR (md:=md) g (d-1) F c) l F';split
    ·exact le_refl _
    ·split
     ·exact hl
     ·exact hl
structure HOK (H:Core→Core→Prop) (bd:List Bind):Prop where
 cl:∀b x,H b x→pfR b=[]∧pfR x=[]
 sh:∀b x,H b x→shC b=false
 st:∀(c c':Core) (k:Nat),H (tE c) (tE c')→cB (QL 403) c→m30 c≤k→(bK bd k c).2=0∧RA H [] (tE (bK bd k c).1) (tE c')
def SO (H:Core→Core→Prop) (p p':CE) (c':Core):Prop:=(shC c'=false∧p.2=p'.2∧(p.2=0→RA H [] (tE p.1) (tE p'.1)))∨((∃b x,H b x)∧p.2=0∧RA H [] (tE p.1) (tE c'))
theorem aDm {α:Type}:∀{l:List α}{j:Nat}{y:α},l[j]?=some y→l.set j y=l
 | x::l,0,y,h=>by rw[List.set_cons_zero];congr 1;exact(Option.some.inj h).symm
 | x::l,j+1,y,h=>by rw[Cp,aDm (l:=l) (j:=j) (by simpa using h)]
 | [],j,y,h=>by cases h
section
variable {H:Core→Core→Prop}{f n:Int}{s:Str}{t:Ty}{ks:List Core}{bs:List Bind}{al:List Alt}{f' n':Int}{s':Str}{t':Ty}{ks':List Core}{bs':List Bind}{al':List Alt}{j:Nat}{x y r r':Core}{p':CE}{st st':Core→CE}
theorem ND.set (h:ND H [] f n s ks bs al f' n' s' ks' bs' al') (hg:gvN f s bs=[]) (J:RA H [] (tE r) (tE r')):ND H [] f n s (ks.set j r) bs al f' n' s' (ks'.set j r') bs' al':=by
 obtain⟨N,O,hs,lk,lb,la,k,b,a⟩:=h;refine⟨N,O,hs,by rw[B0,B0];exact lk,lb,la,fun i p q hp I=>?_,b,a⟩;by_cases e:j=i
 ·subst e;rw[Cj (by have:=(ε.1 hp).1;rwa [B0] at this)] at hp;rw[Cj (by have:=(ε.1 I).1;rwa [B0] at this)] at I;obtain rfl:=Option.some.inj hp;obtain rfl:=Option.some.inj I;rw[hg];exact J
 ·rw[List.getElem?_set_ne e] at hp I;exact k i p q hp I
theorem SO.kidB (h1:¬f=1) (h:ND H [] f n s ks bs al f' n' s' ks' bs' al') (hg:gvN f s bs=[]) (hx:ks[j]?=some x) (hy:ks'[j]?=some y) (hs:shC x=false) (he:∃b x,H b x) (h0:(st x).2=0) (I:RA H [] (tE (st x).1) (tE y)):
  SO H (mA st (.mk f n s t ks bs al) j) p' (.mk f' n' s' t' ks' bs' al'):=by
 have e:mA st (.mk f n s t ks bs al) j=(.mk f n s t (ks.set j (st x).1) bs al,0):=by
  unfold mA;rw[show(Core.mk f n s t ks bs al).kids[j]?=some x from hx];unfold aGk aG6;dsimp only;rw[hs,ψ Ar,θ h0]
 rw[e];have:=(h.set (j:=j) hg I).ra (t:=t) (t':=t') h1;rw[aDm hy] at this;exact .inr ⟨he,rfl,this⟩
theorem SO.kidA (h1:¬f=1) (h:ND H [] f n s ks bs al f' n' s' ks' bs' al') (hg:gvN f s bs=[]) (hx:ks[j]?=some x) (hy:ks'[j]?=some y) (hs:shC x=false) (I:shC y=false) (h0:(st x).2=(st' y).2) (J:(st x).2=0→RA H [] (tE (st x).1) (tE (st' y).1))
  (hc:shC (.mk f' n' s' t' ks' bs' al')=false):SO H (mA st (.mk f n s t ks bs al) j) (mA st' (.mk f' n' s' t' ks' bs' al') j) (.mk f' n' s' t' ks' bs' al'):=by
 refine .inl ⟨hc,?_⟩;unfold mA;rw[show(Core.mk f n s t ks bs al).kids[j]?=some x from hx,show(Core.mk f' n' s' t' ks' bs' al').kids[j]?=some y from hy];unfold aGk aG6;dsimp only;rw[hs,I,ψ Ar,ψ Ar,←h0];by_cases e:(st x).2=0
 ·rw[θ e,θ e];exact⟨rfl,fun _=>(h.set (j:=j) hg (J e)).ra (t:=t) (t':=t') h1⟩
 ·rw[ψ e,ψ e];exact⟨rfl,fun h=>absurd h e⟩
theorem SO.kidS (hx:ks[j]?=some x) (hy:ks'[j]?=some y) (hs:shC x=true) (I:shC y=true) (hc:shC (.mk f' n' s' t' ks' bs' al')=false):
  SO H (mA st (.mk f n s t ks bs al) j) (mA st' (.mk f' n' s' t' ks' bs' al') j) (.mk f' n' s' t' ks' bs' al'):=by
 refine .inl ⟨hc,?_⟩;unfold mA;rw[show(Core.mk f n s t ks bs al).kids[j]?=some x from hx,show(Core.mk f' n' s' t' ks' bs' al').kids[j]?=some y from hy];unfold aGk;dsimp only;rw[hs,I,θ rfl,θ rfl];exact⟨rfl,fun h=>by cases h⟩
theorem RA.leaf {ρ:List (Str×Str)}(h1:¬f=1):RA H ρ (tE (.mk f n s t [] [] [])) (tE (.mk f n s t' [] [] [])):=by
 refine ND.ra h1 ⟨rfl,rfl,.inr (.inr rfl),rfl,rfl,rfl,?_,?_,?_⟩
 ·intro i x y hx;cases hx
 ·intro i x y hx;cases hx
 ·intro i x y hx;cases hx
theorem RA.int {ρ:List (Str×Str)}{m:Int}:RA H ρ (tE (j5 m)) (tE (j5 m)):=RA.leaf (by decide)
theorem RA.tru {ρ:List (Str×Str)}{m:Bool}:RA H ρ (tE (aNi m)) (tE (aNi m)):=RA.leaf (by decide)
theorem aSz {a b:Int}(h:(jO s a b).2=0):RA H [] (tE (jO s a b).1) (tE (jO s a b).1):=by
 unfold jO at h ⊢;by_cases h1:s=aBn
 ·rw[θ h1];exact .int
 rw[ψ h1] at h ⊢;by_cases h1:s=aWm
 ·rw[θ h1];exact .int
 rw[ψ h1] at h ⊢;by_cases h1:s=aUt
 ·rw[θ h1];exact .int
 rw[ψ h1] at h ⊢;by_cases h1:s=aOi
 ·rw[θ h1] at h ⊢;by_cases h0:b=0
  ·rw[θ h0] at h;cases h
  ·rw[ψ h0];exact .int
 rw[ψ h1] at h ⊢;by_cases h1:s=nEq
 ·rw[θ h1];exact .tru
 rw[ψ h1] at h ⊢;by_cases h1:s=nLt
 ·rw[θ h1];exact .tru
 ·rw[ψ h1] at h;cases h
theorem rQ {c:Core}(h:c.form=5∨c.form=7∨c.form=3):gvC c=none:=by
 obtain⟨f,n,s,t,ks,bs,al⟩:=c;have h:f=5∨f=7∨f=3:=h;rw[gvC,ψ (by omega),ψ (by omega),ψ (by omega)]
theorem aNt {c:Core}(h:shC c=false):gvC c=none:=by
 cases e:gvC c with
 | none=>rfl
 | some p=>rw[kI.2 (.inr (.inr (.inr ⟨p,e⟩)))] at h;cases h
theorem aA9 {c:Core}(h:shC c=false):¬c.form=5∧¬c.form=7∧¬c.form=3:=by
 refine⟨fun e=>?_,fun e=>?_,fun e=>?_⟩
 ·rw[kI.2 (.inl e)] at h;cases h
 ·rw[kI.2 (.inr (.inl e))] at h;cases h
 ·rw[kI.2 (.inr (.inr (.inl e)))] at h;cases h
theorem aVp {c:Core}(h:¬c.form=5∧¬c.form=7∧¬c.form=3) (hg:gvC c=none):shC c=false:=by
 cases e:shC c with
 | false=>rfl
 | true=>
  rcases kI.1 e with I | I | I | ⟨p,I⟩
  ·exact absurd I h.1
  ·exact absurd I h.2.1
  ·exact absurd I h.2.2
  ·rw[hg] at I;cases I
theorem aR4 {names I:List Str}{l l':List Core}{c c':Core}(hc:∀b x,H b x→pfR b=[]∧pfR x=[]) (h12:l.length≤1000) (h1:names.length=l.length) (h2:I.length=l'.length) (h3:names.length=I.length)
  (hn:∀x∈names,nh x) (O:∀x∈I,nh x) (J:cB (QL 403) c) (W:cB (QL 403) c') (hl:∀b∈l,cB (QL 403) b) (Y:∀b∈l',cB (QL 403) b)
  (Z:RA H (names.zip I) (tE c) (tE c')) (N:∀(i:Nat) (p q:Core),l[i]?=some p→l'[i]?=some q→RA H [] (tE p) (tE q)):RA H [] (tE (xR c names l)) (tE (xR c' I l')):=by
 obtain⟨g1,g2⟩:=Z.free hc;rw[mU,zip_fst h3] at g1;rw[mU,o7 h3] at g2;have ll:l.length=l'.length:=by omega
 rw[aQh (X:=403) (by decide) h1 (by omega) hn (xO _ c (le_refl _) J) (fun x hx=>hn x (g1 x hx)) fun b hb=>?_,aQh (X:=403) (by decide) h2 (by omega) O (xO _ c' (le_refl _) W) (fun x hx=>O x (g2 x hx)) fun b hb=>?_]
 ·refine RA.fS hc (by rw[ξ];exact h1) (by rw[ξ];exact h2) h3 (fun i p q hp J=>?_) (by rw[A8];exact Z);obtain⟨p,kp,rfl⟩:=dH hp;obtain⟨q,kq,rfl⟩:=dH J;exact N i p q kp kq
 ·obtain⟨i,hi⟩:=List.mem_iff_getElem?.1 hb;obtain⟨p,hp⟩:=kX ll.symm hi;exact⟨xO _ b (le_refl _) (Y b hb),((N i p b hp hi).closed hc).2⟩
 ·obtain⟨i,hi⟩:=List.mem_iff_getElem?.1 hb;obtain⟨q,J⟩:=kX ll hi;exact⟨xO _ b (le_refl _) (hl b hb),((N i b q hi J).closed hc).1⟩
end
theorem aM1 {i:Int}{s:Str}{t:Ty}{ks:List Core}{bs:List Bind}{al:List Alt}(h:cB (QL 403) (.mk 8 i s t ks bs al)) {b:Bind}(hb:b∈bs):cB (QL 403) (mJ bs b):=by
 obtain⟨⟨g1,g2,g3,g4,g5,g6,g7,g8⟩,_,I,_⟩:=aS.1 h;have J:w30 ([]:Str)=30:=rfl;unfold mJ;refine aS.2 ⟨⟨by simp[okF],fun e=>absurd e (by decide),rfl,g4,?_,fun e=>absurd e (by decide),g7,by simp⟩,by simpa using I b hb,I,by simp⟩;unfold lw at g5 ⊢;rw[J];have:=jT s;simp only[By,sum_nil];omega
section
variable {H:Core→Core→Prop}
theorem aPz (hc:∀b x,H b x→pfR b=[]∧pfR x=[]) (hh:∀b x,H b x→shC b=false) {c c':Core}(W:cB (QL 403) c) (Y:RA H [] (tE c) (tE c')) (hs:shC c=true)
  (Z:∀s l,gvC c=some (s,l)→∀x∈l,cB (QL 403) x) (N:∀s l,gvC c'=some (s,l)→∀x∈l,cB (QL 403) x)
  {a I:Alt} (h12:a.vars.length≤1000) (hn:∀x∈a.vars,nh x) (aa:∀x∈I.vars,nh x) (ab:cB (QL 403) a.body) (O:cB (QL 403) I.body) (ha:AH a I) (hb:RA H (a.vars.zip I.vars) (tE a.body) (tE I.body)):
  (fI a c=none∧fI I c'=none)∨∃r r',fI a c=some r∧fI I c'=some r'∧RA H [] (tE r) (tE r'):=by
 obtain⟨s1,s2,s3⟩:=RA.sh hh W Y hs;have ac:∀b x,H b x→gvC b=none:=fun b x h=>aNt (hh b x h)
 have g:=RA.gv ac _ c c' (le_refl _) W Y;obtain⟨a1,a2,a3,a4,a5⟩:=ha;have J:¬a.form=1→RA H [] (tE a.body) (tE I.body):=fun h1=>by
  have e:=a5.resolve_left h1;rw[e] at hb;exact hb
 unfold fI;rw[←a1];by_cases h3:a.form=3
 ·rw[θ h3,θ h3];exact .inr ⟨_,_,rfl,rfl,J (by omega)⟩
 rw[ψ h3,ψ h3];by_cases h2:a.form=2
 ·rw[θ h2,θ h2,←s2,←s3,←a2];by_cases e:c.form=3∧c.n=a.n
  ·rw[θ e,θ e];exact .inr ⟨_,_,rfl,rfl,J (by omega)⟩
  ·rw[ψ e,ψ e];exact .inl ⟨rfl,rfl⟩
 rw[ψ h2,ψ h2];cases hg:gvC c with
 | none=>
  have hf:c.form=5∨c.form=7∨c.form=3:=by
   rcases kI.1 hs with h | h | h | ⟨p,h⟩
   ·exact .inl h
   ·exact .inr (.inl h)
   ·exact .inr (.inr h)
   ·rw[hg] at h;cases h
  rw[s2] at hf;rw[rQ hf];exact .inl ⟨rfl,rfl⟩
 | some p=>
  obtain⟨s,l⟩:=p;obtain⟨l',g1,g2,g3⟩:=g s l hg;rw[g1];dsimp only;rw[←a3,←a4,←g2];by_cases e:s=a.name∧l.length=a.vars.length
  ·rw[θ e,θ e];exact .inr ⟨_,_,rfl,rfl,aR4 hc (by omega) e.2.symm (by omega) a4 hn aa ab O (Z s l hg) (N s l' g1) hb g3⟩
  ·rw[ψ e,ψ e];exact .inl ⟨rfl,rfl⟩
theorem aEx {α β:Type}{R:β→β→Prop}{g g':α→Option β}:∀{l l':List α},l.length=l'.length→(∀(i:Nat) (x y:α),l[i]?=some x→l'[i]?=some y→(g x=none∧g' y=none)∨∃r r',g x=some r∧g' y=some r'∧R r r')→
  (l.findSome? g=none∧l'.findSome? g'=none)∨∃r r',l.findSome? g=some r∧l'.findSome? g'=some r'∧R r r'
 | [],[],_,_=>.inl ⟨rfl,rfl⟩
 | [],_::_,h,_=>by cases h
 | _::_,[],h,_=>by cases h
 | x::l,y::l',h,hg=>by
  rcases hg 0 x y rfl rfl with⟨h1,h2⟩ | ⟨r,r',h1,h2,h3⟩
  ·rw[Cq,Cq,h1,h2];exact aEx (by simpa using h) fun i x y hx hy=>hg (i+1) x y hx hy
  ·rw[Cq,Cq,h1,h2];exact .inr ⟨r,r',rfl,rfl,h3⟩
theorem aOy:∀(k:Nat) (c:Core),aU c≤k→cB (QL 403) c→∀(s:Str) (l:List Core),gvC c=some (s,l)→∀x∈l,cB (QL 403) x
 | 0,c,h,_=>by have:=bR c;omega
 | k+1,.mk f n nm t ks bs al,h,I=>by
  intro s l hg;obtain⟨N,_⟩:= @dW f n nm t ks bs al;obtain⟨_,J,_⟩:=aS.1 I;rw[gvC] at hg;by_cases h2:f=2
  ·rw[θ h2] at hg;obtain⟨rfl,rfl⟩:=Prod.mk.inj (Option.some.inj hg);intro x hx;cases hx
  rw[ψ h2] at hg;by_cases h4:f=4
  ·rw[θ h4] at hg;obtain⟨⟨a,b,rfl⟩,rfl,rfl⟩:=hY I (.inl h4);rw[gvH] at hg;cases e:gvC a with
   | none=>rw[e] at hg;cases hg
   | some p=>
    rw[e] at hg;obtain⟨s1,O⟩:=p;have g:=aOy k a (by have:=N a ζ;omega) (J a ζ) s1 O e;obtain⟨rfl,rfl⟩:=Prod.mk.inj (Option.some.inj hg);intro x hx;rcases ω.1 hx with hx | hx
    ·exact g x hx
    ·exact J x (κ _ hx)
  rw[ψ h4] at hg;by_cases h6:f=6
  ·rw[θ h6] at hg;obtain⟨⟨a,rfl⟩,rfl,rfl⟩:=dD I (.inr (.inl h6));rw[gvH] at hg;exact aOy k a (by have:=N a ζ;omega) (J a ζ) s l hg
  ·rw[ψ h6] at hg;cases hg
end
section
variable {H:Core→Core→Prop}{bd bd':List Bind}
theorem u5 {c:Core}(hs:shC c=true) (hg:gvC c=none):c.form=5∨c.form=7∨c.form=3:=by
 rcases kI.1 hs with h | h | h | ⟨p,h⟩
 ·exact .inl h
 ·exact .inr (.inl h)
 ·exact .inr (.inr h)
 ·rw[hg] at h;cases h
noncomputable def apS (st:Core→CE) (f:Int) (c x b:Core) (t:Ty):CE:=if f=4∧x.form=5 then(dA (m30 (x.kids.headD zC)) (x.kids.headD zC) x.name b,0) else if f=6∧x.form=7 then(sTR (m30 (x.kids.headD zC)) (x.kids.headD zC) x.name t,0) else mA st c 0
noncomputable def csS (st:Core→CE) (c x:Core) (al:List Alt):CE:=if shC x=true then(match al.findSome? fun a=>fI a x with | some r=>(r,0) | none=>(zC,52)) else mA st c 0
noncomputable def prS (st:Core→CE) (c x z:Core) (s:Str):CE:=if ¬shC x=true then mA st c 0 else if ¬shC z=true then mA st c 1 else if x.form=3∧z.form=3 then jO s x.n z.n else(zC,51)
theorem vO {k k':Nat}(O:∀(c c':Core) (k':Nat),m30 c≤k→m30 c'≤k'→cB (QL 403) c→cB (QL 403) c'→RA H [] (tE c) (tE c')→shC c=false→SO H (bK bd k c) (bK bd' k' c') c')
  {f n:Int} {s:Str} {t:Ty} {ks:List Core} {bs:List Bind} {al:List Alt} {f' n':Int} {s':Str} {t':Ty} {ks':List Core} {bs':List Bind} {al':List Alt} {j:Nat} {x y:Core} {p':CE}
  (h1:¬f=1) (h:ND H [] f n s ks bs al f' n' s' ks' bs' al') (hg:gvN f s bs=[]) (hx:ks[j]?=some x) (hy:ks'[j]?=some y) (hk:m30 x≤k) (I:m30 y≤k') (W:cB (QL 403) x) (J:cB (QL 403) y) (hs:shC x=false)
  (hp:shC y=false→p'=mA (bK bd' k') (.mk f' n' s' t' ks' bs' al') j∧shC (.mk f' n' s' t' ks' bs' al')=false):
  SO H (mA (bK bd k) (.mk f n s t ks bs al) j) p' (.mk f' n' s' t' ks' bs' al'):=by
 have N:=h.kk j x y hx hy;have e:(gvN f s bs).zip (gvN f s' bs')=[]:=by rw[hg];rfl
 rw[e] at N;rcases O x y k' hk I W J N hs with⟨g1,g2,g3⟩ | ⟨g0,g1,g2⟩
 ·obtain⟨e,hc⟩:=hp g1;rw[e];exact SO.kidA h1 h hg hx hy hs g1 g2 g3 hc
 ·exact SO.kidB h1 h hg hx hy hs g0 g1 g2
theorem vN (hH:HOK H bd):∀(k:Nat) (c c':Core) (k':Nat),m30 c≤k→m30 c'≤k'→cB (QL 403) c→cB (QL 403) c'→RA H [] (tE c) (tE c')→shC c=false→SO H (bK bd k c) (bK bd' k' c') c':=by
 intro k
 induction k with
 | zero=>intro c c' k' h;have:=dX c;omega
 | succ k ih=>
 intro c c' k' hk hk' N O hr hs;obtain⟨k',rfl⟩:∃j,k'=j+1:=⟨k'-1,by have:=dX c';omega⟩
 obtain⟨f,n,s,t,ks,bs,al⟩:=c;obtain⟨f',n',s',t',ks',bs',al'⟩:=c';rcases hr.inv with hh | ⟨_,h⟩ | ⟨h1,h⟩
 ·obtain⟨g1,g2⟩:=hH.st _ _ (k+1) hh N hk;exact .inr ⟨⟨_,_,hh⟩,g1,g2⟩
 ·exact h.nil.elim
 have hnd:=h;obtain⟨rfl,rfl,es,lk,lb,la,kk,kb,ka⟩:=h;have hm:∀x∈ks,m30 x≤k:=fun x hx=>by have:=fE hx;rw[m30] at hk;omega
 have hm':∀x∈ks',m30 x≤k':=fun x hx=>by have:=fE hx;rw[m30] at hk';omega
 obtain⟨_,q1,q2,q3⟩:=aS.1 N;obtain⟨_,q1',q2',q3'⟩:=aS.1 O;obtain⟨b1,b2⟩:=aM2 N;obtain⟨b1',b2'⟩:=aM2 O;have hf:=aA9 hs;have Y:=aNt hs;have hf:¬f=5∧¬f=7∧¬f=3:=hf;have f2:¬f=2:=fun e=>by rw[gvC,θ e] at Y;cases Y
 have shn:(f=4∨f=6→gvH ks'=none)→shC (.mk f n s' t' ks' bs' al')=false:=fun hg=>aVp hf (by
  rw[gvC,ψ f2];by_cases h4:f=4
  ·rw[θ h4,hg (.inl h4)];rfl
  rw[ψ h4];by_cases h6:f=6
  ·rw[θ h6,hg (.inr h6)]
  ·rw[ψ h6])
 have ss:s=s':=es.resolve_left hf.1 |>.resolve_left hf.2.1;subst ss;rw[jJ,jJ,ψ h1,ψ h1];by_cases Z:f=4∨f=6
 ·rw[θ Z,θ Z];have hb0:bs=[]∧bs'=[]:=by
   rcases Z with h4 | h6
   ·exact⟨(hY N (.inl h4)).2.1,(hY O (.inl h4)).2.1⟩
   ·exact⟨(dD N (.inr (.inl h6))).2.1,(dD O (.inr (.inl h6))).2.1⟩
  obtain⟨rfl,rfl⟩:=hb0;have hg0:gvN f s []=[]:=by unfold gvN;rw[ψ (show ¬f=5 from hf.1)];rfl
  obtain⟨x,l,rfl⟩:∃x l,ks=x::l:=by
   rcases Z with h4 | h6
   ·obtain⟨⟨a,b,e⟩,_⟩:=hY N (.inl h4);exact⟨a,[b],e⟩
   ·obtain⟨⟨a,e⟩,_⟩:=dD N (.inr (.inl h6));exact⟨a,[],e⟩
  obtain⟨y,l',rfl⟩:∃y l',ks'=y::l':=by
   cases ks' with
   | nil=>cases lk
   | cons y l'=>exact⟨y,l',rfl⟩
  have I:=kk 0 x y rfl rfl;rw[hg0] at I;have I:RA H [] (tE x) (tE y):=I;have W:=q1 x ζ;have qy:=q1' y ζ;show SO H (apS (bK bd k) f (.mk f n s t (x::l) [] al) x ((x::l).getD 1 zC) t) (apS (bK bd' k') f (.mk f n s t' (y::l') [] al') y ((y::l').getD 1 zC) t') _;unfold apS;have hgx:gvC x=none:=by
   rw[gvC,ψ f2] at Y;rcases Z with h4 | h6
   ·rw[θ h4,gvH] at Y;cases e:gvC x with
    | none=>rfl
    | some p=>rw[e] at Y;cases Y
   ·rw[ψ (by omega),θ h6,gvH] at Y;exact Y
  cases J:shC x with
  | false=>
   have nx:=aA9 J;rw[ψ (fun e=>nx.1 e.2),ψ (fun e=>nx.2.1 e.2)];refine vO ih h1 hnd hg0 (j:=0) (x:=x) (y:=y) rfl rfl (hm x ζ) (hm' y ζ) W qy J fun hy=>?_
   have ny:=aA9 hy;rw[ψ (fun e=>ny.1 e.2),ψ (fun e=>ny.2.1 e.2)];exact⟨rfl,shn fun _=>aNt hy⟩
  | true=>
   obtain⟨hsy,exy,_⟩:=RA.sh hH.sh W I J;have hfx:=u5 J hgx;have hc:shC (.mk f n s t' (y::l') [] al')=false:=shn fun _=>rQ (by rw[←exy];exact hfx)
   rw[←exy];by_cases ha:f=4∧x.form=5
   ·rw[θ ha,θ ha];obtain⟨rfl,hx5⟩:=ha;obtain⟨⟨a0,b,e⟩,_,rfl⟩:=hY N (.inl rfl);obtain⟨⟨a0',b',e'⟩,_,rfl⟩:=hY O (.inl rfl);obtain⟨rfl,rfl⟩:=List.cons.inj e;obtain⟨rfl,rfl⟩:=List.cons.inj e';have hbb:=kk 1 b b' rfl rfl;rw[hg0] at hbb;have hbb:RA H [] (tE b) (tE b'):=hbb;obtain⟨fx,nx,sx,tx,kx,bx,ax⟩:=x;obtain⟨fy,ny,sy,ty',ky,by',ay⟩:=y;have hx5:fx=5:=hx5;have hy5:fy=5:=by have:fx=fy:=exy;omega
    subst hx5 hy5;obtain⟨⟨u,rfl⟩,rfl,rfl⟩:=dD W (.inl rfl);obtain⟨⟨u',rfl⟩,rfl,rfl⟩:=dD qy (.inl rfl);rcases I.inv with hh | ⟨h0,_⟩ | ⟨_,hxn⟩
    ·have:=hH.sh _ _ hh;rw[aA8,J] at this;cases this
    ·cases h0
    have huu:=hxn.kk 0 u u' rfl rfl;have huu:RA H [(sx,sy)] (tE u) (tE u'):=huu;obtain⟨cb,cb'⟩:=hbb.closed hH.cl;have qu:=(aS.1 W).2.1 u ζ;have qu':=(aS.1 qy).2.1 u' ζ;refine .inl ⟨hc,rfl,fun _=>?_⟩;show RA H [] (tE (dA (m30 u) u sx b)) (tE (dA (m30 u') u' sy b'));rw[vD (X:=403) (by rw[cb];simp) (xO _ u (le_refl _) qu),vD (X:=403) (by rw[cb'];simp) (xO _ u' (le_refl _) qu')];exact RA.nS hH.cl hbb huu
   rw[ψ ha,ψ ha];by_cases hb:f=6∧x.form=7
   ·rw[θ hb,θ hb];obtain⟨rfl,hx7⟩:=hb;obtain⟨fx,nx,sx,tx,kx,bx,ax⟩:=x;obtain⟨fy,ny,sy,ty',ky,by',ay⟩:=y;have hx7:fx=7:=hx7;have hy7:fy=7:=by have:fx=fy:=exy;omega
    subst hx7 hy7;obtain⟨⟨u,rfl⟩,rfl,rfl⟩:=dD W (.inr (.inr rfl));obtain⟨⟨u',rfl⟩,rfl,rfl⟩:=dD qy (.inr (.inr rfl));rcases I.inv with hh | ⟨h0,_⟩ | ⟨_,hxn⟩
    ·have:=hH.sh _ _ hh;rw[aA8,J] at this;cases this
    ·cases h0
    have huu:=hxn.kk 0 u u' rfl rfl;have huu:RA H [] (tE u) (tE u'):=huu;refine .inl ⟨hc,rfl,fun _=>?_⟩;show RA H [] (tE (sTR (m30 u) u sx t)) (tE (sTR (m30 u') u' sy t'));rw[y4,y4];exact huu
   rw[ψ hb,ψ hb];exact SO.kidS rfl rfl J hsy hc
 rw[ψ Z,ψ Z];have hc:shC (.mk f n s t' ks' bs' al')=false:=shn fun e=>absurd e Z
 by_cases h8:f=8
 ·rw[θ h8,θ h8];subst h8;obtain⟨⟨x,rfl⟩,rfl,l12⟩:=uU N;obtain⟨⟨y,rfl⟩,rfl,l12'⟩:=uU O;have eg:∀l:List Bind,gvN 8 s l=l.map Bind.name:=fun l=>rfl
  have I:=kk 0 x y rfl rfl;rw[eg,eg,A8] at I;have lbl:(bs.map Bind.name).length=(bs'.map Bind.name).length:=by rw[ξ,ξ];exact lb
  refine .inl ⟨hc,rfl,fun _=>?_⟩;refine aR4 hH.cl (by rw[ξ];omega) (by rw[ξ,ξ]) (by rw[ξ,ξ]) lbl b1 b1' (q1 x ζ) (q1' y ζ) (fun b hb=>?_) (fun b hb=>?_) I fun i p q hp N=>?_
  ·obtain⟨b,kb,rfl⟩:=Ad.1 hb;exact aM1 N kb
  ·obtain⟨b,kb,rfl⟩:=Ad.1 hb;exact aM1 O kb
  ·obtain⟨b,kp,rfl⟩:=dH hp;obtain⟨b',kq,rfl⟩:=dH N;refine ND.ra (by decide) ⟨rfl,rfl,.inr (.inr rfl),rfl,lb,rfl,fun i x y hx hy=>?_,fun i x y hx hy=>kb i x y hx hy,fun i x y hx=>by cases hx⟩;cases i with
   | zero=>
    obtain rfl:=Option.some.inj hx;obtain rfl:=Option.some.inj hy;exact kb _ b b' kp kq
   | succ i=>cases hx
 rw[ψ h8,ψ h8];by_cases h9:f=9
 ·rw[θ h9,θ h9];subst h9;obtain⟨⟨x,rfl⟩,rfl,l12,v12⟩:=xP N;obtain⟨⟨y,rfl⟩,rfl,_,_⟩:=xP O;have I:=kk 0 x y rfl rfl;have I:RA H [] (tE x) (tE y):=I;have W:=q1 x ζ;have qy:=q1' y ζ;show SO H (csS (bK bd k) (.mk 9 n s t [x] [] al) x al) (csS (bK bd' k') (.mk 9 n s t' [y] [] al') y al') _;unfold csS;cases J:shC x with
  | false=>
   rw[ψ Ar];refine vO ih h1 hnd rfl (j:=0) (x:=x) (y:=y) rfl rfl (hm x ζ) (hm' y ζ) W qy J fun hy=>?_
   rw[hy,ψ Ar];exact⟨rfl,hc⟩
  | true=>
   obtain⟨hsy,_⟩:=RA.sh hH.sh W I J;rw[hsy,θ rfl,θ rfl];have ht:=aEx (R:=fun r r'=>RA H [] (tE r) (tE r')) (g:=fun a=>fI a x) (g':=fun a=>fI a y) la fun i a a' ha ha'=>aPz hH.cl hH.sh W I J (aOy _ x (le_refl _) W) (aOy _ y (le_refl _) qy) (by have:=v12 a (η ha);omega) (b2 a (η ha)) (b2' a' (η ha'))
    (q3 a (η ha)) (q3' a' (η ha')) (ka i a a' ha ha').1 (by have:=(ka i a a' ha ha').2;rwa [A8] at this)
   rcases ht with⟨e1,e2⟩ | ⟨r,r',e1,e2,e3⟩
   ·rw[e1,e2];exact .inl ⟨hc,rfl,fun h=>by cases h⟩
   ·rw[e1,e2];exact .inl ⟨hc,rfl,fun _=>e3⟩
 rw[ψ h9,ψ h9];by_cases h10:f=10
 ·rw[θ h10,θ h10];subst h10;obtain⟨⟨x,z,rfl⟩,rfl,rfl⟩:=hY N (.inr rfl);obtain⟨⟨y,w,rfl⟩,rfl,rfl⟩:=hY O (.inr rfl);have I:=kk 0 x y rfl rfl;have I:RA H [] (tE x) (tE y):=I;have hzw:=kk 1 z w rfl rfl;have hzw:RA H [] (tE z) (tE w):=hzw;have W:=q1 x ζ;have qy:=q1' y ζ;have qz:=q1 z (κ _ ζ);have qw:=q1' w (κ _ ζ);show SO H (prS (bK bd k) (.mk 10 n s t [x,z] [] []) x z s) (prS (bK bd' k') (.mk 10 n s t' [y,w] [] []) y w s) _;unfold prS;cases J:shC x with
  | false=>
   rw[θ Ar];refine vO ih h1 hnd rfl (j:=0) (x:=x) (y:=y) rfl rfl (hm x ζ) (hm' y ζ) W qy J fun hy=>?_
   rw[hy,θ Ar];exact⟨rfl,hc⟩
  | true=>
   obtain⟨hsy,e1,e2⟩:=RA.sh hH.sh W I J;rw[hsy,ψ (show ¬¬(true=true) from fun h=>h rfl),ψ (show ¬¬(true=true) from fun h=>h rfl)];cases hsz:shC z with
   | false=>
    rw[θ Ar];refine vO ih h1 hnd rfl (j:=1) (x:=z) (y:=w) rfl rfl (hm z (κ _ ζ)) (hm' w (κ _ ζ)) qz qw hsz fun hy=>?_
    rw[hy,θ Ar];exact⟨rfl,hc⟩
   | true=>
    obtain⟨hsw,e3,e4⟩:=RA.sh hH.sh qz hzw hsz;rw[hsw,ψ (show ¬¬(true=true) from fun h=>h rfl),ψ (show ¬¬(true=true) from fun h=>h rfl),←e1,←e2,←e3,←e4];by_cases h33:x.form=3∧z.form=3
    ·rw[θ h33];exact .inl ⟨hc,rfl,fun h=>aSz h⟩
    ·rw[ψ h33];exact .inl ⟨hc,rfl,fun h=>by cases h⟩
 rw[ψ h10,ψ h10];by_cases h11:f=11
 ·rw[θ h11];exact .inl ⟨hc,rfl,fun h=>by cases h⟩
 ·rw[ψ h11];exact .inl ⟨hc,rfl,fun h=>by cases h⟩
end
theorem aSy (s:Str) (a b:Int):(iT s tS=none∧jO s a b=(zC,51))∨
  ∃(fn:FuncId) (r:Core),pC Tryz.prog fn∧iT s tS=some [.fn fn]∧(s=aOi→b=0→jO s a b=(zC,53))∧(¬(s=aOi∧b=0)→jO s a b=(r,0)∧aW Tryz.prog fn [I .i64 a,I .i64 b] [] (.pa (aB r)) []):=by
 by_cases h1:s=aBn
 ·subst h1;exact .inr ⟨_,_,aM9 (by kernel_rfl),rfl,fun h=>absurd h (by decide),fun _=>⟨rfl,aXv a b⟩⟩
 by_cases h2:s=aWm
 ·subst h2;exact .inr ⟨_,_,aM9 (by kernel_rfl),rfl,fun h=>absurd h (by decide),fun _=>⟨rfl,aXs a b⟩⟩
 by_cases h3:s=aUt
 ·subst h3;exact .inr ⟨_,_,aM9 (by kernel_rfl),rfl,fun h=>absurd h (by decide),fun _=>⟨rfl,aXt a b⟩⟩
 by_cases h4:s=aOi
 ·subst h4;refine .inr ⟨133,j5 (IntKind.i64.wrap (a.tdiv b)),aM9 (by kernel_rfl),rfl,fun _ h=>?_,fun h=>?_⟩
  ·subst h;rfl
  ·have hb:¬b=0:=fun e=>h ⟨rfl,e⟩
   refine⟨?_,aXu a b hb⟩;unfold jO;rw[ψ (by decide),ψ (by decide),ψ (by decide),θ rfl,ψ hb]
 by_cases h5:s=nEq
 ·subst h5;exact .inr ⟨_,_,aM9 (by kernel_rfl),rfl,fun h=>absurd h (by decide),fun _=>⟨rfl,aZt a b⟩⟩
 by_cases h6:s=nLt
 ·subst h6;exact .inr ⟨_,_,aM9 (by kernel_rfl),rfl,fun h=>absurd h (by decide),fun _=>⟨rfl,aZs a b⟩⟩
 refine .inl ⟨?_,?_⟩
 ·unfold tS;simp only[iT];rw[ψ (fun e=>h1 e.symm),ψ (fun e=>h2 e.symm),ψ (fun e=>h3 e.symm),ψ (fun e=>h4 e.symm),ψ (fun e=>h5 e.symm),ψ (fun e=>h6 e.symm)]
 ·unfold jO;rw[ψ h1,ψ h2,ψ h3,ψ h4,ψ h5,ψ h6]
theorem aTw (m:Mod) (i:Int) (s:Str) (t:Ty) (a b:Core) (pa pb:CE) (hsa:aW Tryz.prog 29 [.pa (aB a)] [] (B (shC a)) []) (hsb:aW Tryz.prog 29 [.pa (aB b)] [] (B (shC b)) [])
  (O:shC a=false→aW Tryz.prog 107 [.pa (kD m),.pa (aB (.mk 10 i s t [a,b] [] [])),I .i64 (0:Nat)] [] (eW pa) [])
  (W:shC b=false→aW Tryz.prog 107 [.pa (kD m),.pa (aB (.mk 10 i s t [a,b] [] [])),I .i64 (1:Nat)] [] (eW pb) []):
  aW Tryz.prog 72 [.pa (kD m),.pa (aB (.mk 10 i s t [a,b] [] []))] [] (eW (if ¬shC a=true then pa else if ¬shC b=true then pb else if a.form=3∧b.form=3 then jO s a.n b.n else(zC,51))) []:=by
 refine bT (n:=76) tok Tryz.func72 rfl rfl rfl ?_;refine sg rfl (a8 (sg rfl (aC (aL (fun k:Nat=>mk [(2,.one (.vp 2 0)),(3,.one (.vp 3 0)),(4,.one (.vp 4 0)),(11,.one (.c (.sl 10 (aQ [a,b])))),(12,I .i64 (2:Nat)),(13,I .i64 k)] [(2,.var 82 ((kD m).map .c)),(3,.var 37 (b9 (.mk 10 i s t [a,b] [] []))),(4,.var 37 bM)]) (fun k=>k≤2∧(0<k→shC a=true)∧(1<k→shC b=true)) (fun k=>2-k) 0 ⟨by omega,fun h=>absurd h (by omega),fun h=>absurd h (by omega)⟩ sl ?_))));rintro k ⟨hk,g1,g2⟩;refine sg rfl (a8 (aA rfl (fun hb=>?_) (fun hb=>?_)))
 ·have hlt:k<2:=by have:=φ hb;omega
  refine aD (a8 (aC ?_));by_cases h0:k=0
  ·subst h0;refine sgh [(1,.row 0 (aB a))] rfl (sk 1 rfl (kc hsa ?_));refine kz 1 rfl ?_;cases hs:shC a with
   | false=>
    have O:=O hs;rw[θ Ar];refine aA rfl (fun _=>sk 3 rfl (kc O ?_)) (fun hb=>absurd hb (by decide));exact kz 4 rfl (aI (iB trw))
   | true=>
    exact aA rfl (fun hb=>absurd hb (by decide)) (fun _=>aD (ag [] rfl ⟨1,⟨by omega,fun _=>rfl,fun h=>absurd h (by omega)⟩,by dsimp only;omega,sl⟩))
  ·have h1:k=1:=by omega
   subst h1;have J:=g1 (by omega);refine sgh [(1,.row 1 (aB b))] rfl (sk 1 rfl (kc hsb ?_));refine kz 1 rfl ?_;cases hs:shC b with
   | false=>
    have W:=W hs;rw[ψ (fun h=>h J),θ Ar];refine aA rfl (fun _=>sk 3 rfl (kc W ?_)) (fun hb=>absurd hb (by decide));exact kz 4 rfl (aI (iB trw))
   | true=>
    exact aA rfl (fun hb=>absurd hb (by decide)) (fun _=>aD (ag [] rfl ⟨2,⟨by omega,fun _=>J,fun _=>rfl⟩,by dsimp only;omega,sl⟩))
 have hk2:k=2:=by have:=δ hb;omega
 subst hk2;have J:=g1 (by omega);have Z:=g2 (by omega);rw[ψ (fun h=>h J),ψ (fun h=>h Z)];refine aM (a8 (aE mixed (kc aT4 ?_)));have hmp:jY tS:=yK;rcases aSy s a.n b.n with⟨hfd,hr⟩ | ⟨fn,r,Y,hfd,hdz,hok⟩
 ·--no such name
  refine ak 8 [(3,.look none)] rfl (az ?_);rw[hr,ite_self];exact a8 (aC (a8 (sg rfl (aA rfl (fun _=>aD (aA rfl (fun _=>sg rfl (aI (iB trw))) (fun hb=>absurd hb (by decide)))) (fun hb=>absurd hb (by decide))))))
 ·refine ak 8 [(3,.look (some [.fn fn]))] rfl (az (a8 (aC (a8 (sg rfl (aA rfl (fun hb=>by simp[aGf] at hb) (fun _=>sgh [(2,.row 0 (aB a))] rfl ?_)))))));by_cases ha:a.form=3
  ·refine aA rfl (fun hb=>absurd hb (by simp[ha])) (fun _=>ag [(2,.row 1 (aB b))] rfl ?_);by_cases N:b.form=3
   ·rw[θ ⟨ha,N⟩];refine aA rfl (fun hb=>absurd hb (by simp[N])) (fun _=>?_);by_cases hd:s=aOi
    ·subst hd;refine sgh [(3,.bv true),(6,.row 1 (aB b)),(10,.bv true)] rfl ?_;by_cases hz:b.n=0
     ·rw[hdz rfl hz];exact aA rfl (fun _=>sg rfl (aI (iB trw))) (fun hb=>absurd hz (δ hb))
     ·obtain⟨e,hc⟩:=hok fun h=>hz h.2
      rw[e];refine aA rfl (fun hb=>absurd (φ hb) hz) (fun _=>aD (AWp.sub (Sub.fnClo 8 rfl) ?_));refine skh 11 [(3,.row 0 (aB a)),(8,.row 1 (aB b))] rfl (kv (args:=[I .i64 a.n,I .i64 b.n]) (caps:=[]) hc ?_ Y);exact kz 2 rfl (aI (iB trw))
    ·obtain⟨e,hc⟩:=hok fun h=>hd h.1
     rw[e];have hd':decide (s=aOi)=false:=Am hd;refine sgh [(3,.bv false),(10,.bv false)] rfl (aA rfl nofun (fun _=>aD (AWp.sub (Sub.fnClo 8 rfl) ?_)));refine skh 11 [(3,.row 0 (aB a)),(8,.row 1 (aB b))] rfl (kv (args:=[I .i64 a.n,I .i64 b.n]) (caps:=[]) hc ?_ Y);exact kz 2 rfl (aI (iB trw))
   ·rw[ψ fun h=>N h.2];exact aA rfl (fun _=>sg rfl (aI (iB trw))) (fun hb=>absurd hb (by simp[N]))
  ·rw[ψ fun h=>ha h.1];exact aA rfl (fun _=>aD (aA rfl (fun _=>sg rfl (aI (iB trw))) (fun hb=>absurd hb (by simp[ha])))) (fun hb=>absurd hb (by simp[ha]))
section
variable {m:Mod}{f i:Int}{s:Str}{t:Ty}{ks:List Core}{bs:List Bind}{al:List Alt}{p:CE}
theorem aZq (h:aW Tryz.prog 68 [.pa (kD m),.pa (aB (.mk 1 i s t ks bs al))] [] (eW p) []):aW Tryz.prog 30 [.pa (kD m),.pa (aB (.mk 1 i s t ks bs al))] [] (eW p) []:=by
 refine bT (n:=48) tok Tryz.func30 rfl rfl rfl ?_;refine sg rfl (a8 (sg rfl (aC (sg rfl (aA rfl (fun _=>sk 2 rfl (kc h ?_)) (fun hb=>by simp[Core.form] at hb))))));exact kz 4 rfl (aI (iB trw))
theorem aPe (hf:f=4∨f=6) (h:aW Tryz.prog 69 [.pa (kD m),.pa (aB (.mk f i s t ks bs al))] [] (eW p) []):aW Tryz.prog 30 [.pa (kD m),.pa (aB (.mk f i s t ks bs al))] [] (eW p) []:=by
 refine bT (n:=48) tok Tryz.func30 rfl rfl rfl ?_;refine sg rfl (a8 (sg rfl (aC (sg rfl (aA rfl (fun hb=>by have h0:f=1:=φ hb;omega) (fun _=>a8 (sg rfl ?_)))))));rcases hf with rfl | rfl
 ·refine aA rfl (fun _=>aD (aA rfl (fun _=>sk 2 rfl (kc h ?_)) (fun hb=>by simp[Core.form] at hb))) (fun hb=>by simp[Core.form] at hb);exact kz 4 rfl (aI (iB trw))
 ·refine aA rfl (fun hb=>by simp[Core.form] at hb) (fun _=>ag [] rfl (aA rfl (fun _=>sk 2 rfl (kc h ?_)) (fun hb=>by simp[Core.form] at hb)));exact kz 4 rfl (aI (iB trw))
theorem aZp (h:aW Tryz.prog 70 [.pa (kD m),.pa (aB (.mk 8 i s t ks bs al))] [] (eW p) []):aW Tryz.prog 30 [.pa (kD m),.pa (aB (.mk 8 i s t ks bs al))] [] (eW p) []:=by
 refine bT (n:=48) tok Tryz.func30 rfl rfl rfl ?_;refine sg rfl (a8 (sg rfl (aC (sg rfl (aA rfl (fun hb=>by simp[Core.form] at hb) (fun _=>a8 (sg rfl (aA rfl (fun hb=>by simp[Core.form] at hb) (fun _=>ag [] rfl (aA rfl (fun hb=>by simp[Core.form] at hb) (fun _=>sg rfl (aA rfl (fun _=>sk 2 rfl (kc h ?_)) (fun hb=>by simp[Core.form] at hb)))))))))))));exact kz 4 rfl (aI (iB trw))
theorem aZo (h:aW Tryz.prog 71 [.pa (kD m),.pa (aB (.mk 9 i s t ks bs al))] [] (eW p) []):aW Tryz.prog 30 [.pa (kD m),.pa (aB (.mk 9 i s t ks bs al))] [] (eW p) []:=by
 refine bT (n:=48) tok Tryz.func30 rfl rfl rfl ?_;refine sg rfl (a8 (sg rfl (aC (sg rfl (aA rfl (fun hb=>by simp[Core.form] at hb) (fun _=>a8 (sg rfl (aA rfl (fun hb=>by simp[Core.form] at hb) (fun _=>ag [] rfl (aA rfl (fun hb=>by simp[Core.form] at hb) (fun _=>sg rfl (aA rfl (fun hb=>by simp[Core.form] at hb) (fun _=>sg rfl (aA rfl (fun _=>sk 2 rfl (kc h ?_)) (fun hb=>by simp[Core.form] at hb)))))))))))))));exact kz 4 rfl (aI (iB trw))
theorem aXo (h:aW Tryz.prog 72 [.pa (kD m),.pa (aB (.mk 10 i s t ks bs al))] [] (eW p) []):aW Tryz.prog 30 [.pa (kD m),.pa (aB (.mk 10 i s t ks bs al))] [] (eW p) []:=by
 refine bT (n:=48) tok Tryz.func30 rfl rfl rfl ?_;refine sg rfl (a8 (sg rfl (aC (sg rfl (aA rfl (fun hb=>by simp[Core.form] at hb) (fun _=>a8 (sg rfl (aA rfl (fun hb=>by simp[Core.form] at hb) (fun _=>ag [] rfl (aA rfl (fun hb=>by simp[Core.form] at hb) (fun _=>sg rfl (aA rfl (fun hb=>by simp[Core.form] at hb) (fun _=>sg rfl (aA rfl (fun hb=>by simp[Core.form] at hb) (fun _=>sg rfl (aA rfl (fun _=>sk 2 rfl (kc h ?_)) (fun hb=>by simp[Core.form] at hb)))))))))))))))));exact kz 4 rfl (aI (iB trw))
theorem aZr (h1:¬f=1) (h4:¬f=4) (h6:¬f=6) (N:¬f=8) (O:¬f=9) (J:¬f=10):aW Tryz.prog 30 [.pa (kD m),.pa (aB (.mk f i s t ks bs al))] [] (eW (if f=11 then(zC,52) else(zC,51))) []:=by
 refine bT (n:=48) tok Tryz.func30 rfl rfl rfl ?_;refine sg rfl (a8 (sg rfl (aC (sg rfl (aA rfl (fun hb=>absurd (φ hb) h1) (fun _=>a8 (sg rfl (aA rfl (fun hb=>absurd (φ hb) h4) (fun _=>ag [] rfl (aA rfl (fun hb=>absurd (φ hb) h6) (fun _=>sg rfl (aA rfl (fun hb=>absurd (φ hb) N) (fun _=>sg rfl (aA rfl (fun hb=>absurd (φ hb) O) (fun _=>sg rfl (aA rfl (fun hb=>absurd (φ hb) J) (fun _=>sg rfl ?_)))))))))))))))));by_cases I:f=11
 ·subst I;rw[θ rfl];exact aA rfl (fun _=>sg rfl (aI (iB trw))) (fun hb=>by simp[Core.form] at hb)
 ·rw[ψ I];exact aA rfl (fun hb=>absurd (φ hb) I) (fun _=>aD (sg rfl (aI (iB trw))))
end
theorem aRo (hI:cK 540000000000) {n:Nat}{U:List Str}(hn:n≤299) (hU:U.length≤480000) {m:Mod}(hB:BI U m.binds):∀(k:Nat) (c:Core),m30 c≤k→ST n U c→
  aW Tryz.prog 30 [.pa (kD m),.pa (aB c)] [] (eW (bK m.binds k c)) []:=by
 intro k
 induction k with
 | zero=>intro c h;have:=dX c;omega
 | succ k ih=>
 intro c h hc;obtain⟨f,i,s,t,ks,bs,al⟩:=c;have hsz:=hc.sz;have hm:∀x∈ks,m30 x<m30 (.mk f i s t ks bs al):=fun x hx=>by have:=fE hx;rw[m30];omega
 have Y:∀x∈ks,aU x≤570000000000:=fun x hx=>by have:=bZ x;have:=hm x hx;omega
 have Z:∀x∈ks,¬f=7→aW Tryz.prog 29 [.pa (aB x)] [] (B (shC x)) []:=fun x hx h7=>xC 403 x (hc.kid h7 hx).q (Y x hx)
 have N:∀(j:Nat) (x:Core),ks[j]?=some x→¬f=7→ks.length≤2→aW Tryz.prog 107 [.pa (kD m),.pa (aB (.mk f i s t ks bs al)),I .i64 (j:Nat)] [] (eW (mA (bK m.binds k) (.mk f i s t ks bs al) j)) []:=fun j x hx h7 hl=>by
  have O:=η hx;exact aZw m 403 (.mk f i s t ks bs al) x j (bK m.binds k) hx (by show ks.length≤_;omega) (hc.kid h7 O).q (Y x O) fun _=>ih x (by have:=hm x O;omega) (hc.kid h7 O)
 rw[jJ];by_cases h1:f=1
 ·subst h1;rw[θ rfl];exact aZq (aTx m (by have:=hB.len;omega) 1 i s t ks bs al)
 rw[ψ h1];by_cases J:f=4∨f=6
 ·rw[θ J];by_cases ha:f=4∧(ks.headD zC).form=5
  ·rw[θ ha];obtain⟨rfl,ha⟩:=ha;obtain⟨⟨a,b,rfl⟩,rfl,rfl⟩:=hY hc.q (.inl rfl);have ka:=hc.kid (by decide) (x:=a) ζ;obtain⟨f',i',s',t',ks',bs',al'⟩:=a;have ha:f'=5:=ha;subst ha;obtain⟨⟨body,rfl⟩,rfl,rfl⟩:=dD ka.q (.inl rfl);exact aPe (.inl rfl) (aX2 hI hn hU m i s t body b i' s' t' hc)
  rw[ψ ha];by_cases hb:f=6∧(ks.headD zC).form=7
  ·rw[θ hb];obtain⟨rfl,hb⟩:=hb;obtain⟨⟨a,rfl⟩,rfl,rfl⟩:=dD hc.q (.inr (.inl rfl));have ka:=hc.kid (by decide) (x:=a) ζ;obtain⟨f',i',s',t',ks',bs',al'⟩:=a;have hb:f'=7:=hb;subst hb;obtain⟨⟨body,rfl⟩,rfl,rfl⟩:=dD ka.q (.inr (.inr rfl));exact aPe (.inr rfl) (aX1 hI hn hU m i s t body i' s' t' hc)
  rw[ψ hb];have hex:∃a ks1,ks=a::ks1∧ks.length≤2:=by
   rcases J with rfl | rfl
   ·obtain⟨⟨a,b,rfl⟩,_⟩:=hY hc.q (.inl rfl);exact⟨a,[b],rfl,le_refl _⟩
   ·obtain⟨⟨a,rfl⟩,_⟩:=dD hc.q (.inr (.inl rfl));exact⟨a,[],rfl,by simp⟩
  obtain⟨a,ks1,rfl,hl⟩:=hex;exact aPe J (aX0 m f i s t a ks1 bs al _ ha hb (N 0 a rfl (by omega) hl))
 rw[ψ J];by_cases h8:f=8
 ·rw[θ h8];subst h8;obtain⟨⟨a,rfl⟩,rfl,h12⟩:=uU hc.q;exact aZp (aZv hI hn hU m i s t a bs hc)
 rw[ψ h8];by_cases h9:f=9
 ·rw[θ h9];subst h9;obtain⟨⟨a,rfl⟩,rfl,h12,hv⟩:=xP hc.q;have ka:=hc.kid (by decide) (x:=a) ζ;have hca:=Y a ζ;have hcc:=aT7 m i s t a al (mA (bK m.binds k) (.mk 9 i s t [a] [] al) 0) h12 (Z a ζ (by decide)) (fun _=>N 0 a rfl (by decide) (by simp)) fun x hx=>by
   refine aT1 x a hca (aB6 403 a ka.q hca) fun s1 l1 hg hlv=>?_
   have kx:=hc.alt hx;have hm':=i7 hx;obtain⟨g1,_⟩:=aMw hn hU (s:=m30 (.mk 9 i s t [a] [] al)) (by rw[m30,cE,cE];omega) hsz kx ka (hv x hx) hg hlv;exact(aPg hI (by decide) (by decide) x.body _ _ hlv.symm (by have:=hv x hx;omega) g1).1
  exact aZo hcc
 rw[ψ h9];by_cases W:f=10
 ·rw[θ W];subst W;obtain⟨⟨a,b,rfl⟩,rfl,rfl⟩:=hY hc.q (.inr rfl);exact aXo (aTw m i s t a b _ _ (Z a ζ (by decide)) (Z b (κ _ ζ) (by decide)) (fun _=>N 0 a rfl (by decide) (le_refl _)) (fun _=>N 1 b rfl (by decide) (le_refl _)))
 rw[ψ W];exact aZr h1 (fun e=>J (.inl e)) (fun e=>J (.inr e)) h8 h9 W
theorem aYr:UOk zTy:=⟨by decide,by unfold zTy;rw[fvm];decide⟩
noncomputable def oB (bd:List Bind) (c:Core):CE:=if shC c=true then(zC,21) else if(bK bd (m30 c) c).2=0 then((bK bd (m30 c) c).1,0) else(zC,(bK bd (m30 c) c).2)
theorem aRn (J:cK 540000000000) {D M X:Nat}(I:M+D≤700000) {c:Core}(hc:CG D M X c) (hz:¬([]:Str)∈tyR c):aW Tryz.prog 31 [.pa (aB c),Go.AM.T [],tyV zTy] [] (.pa (aB c)) []:=by
 have h:=(aB5 J I (m30 c) c (le_refl _) hc [] zTy aYr).imp;rwa [aVr (m30 c) c (le_refl _) hc.q hz] at h
section
variable {n:Nat}{U:List Str}
theorem aLy (I:cK 540000000000) (hn:n≤299) (J:U.length≤480000) (hz:¬([]:Str)∈U) {m:Mod}(N:BI U m.binds) {c:Core}(hc:ST n U c):
  aW Tryz.prog 9 [.pa (kD m),.pa (aB c)] [] (eW (oB m.binds c)) []:=by
 have ab:=bZ c;have O:=hc.sz;have W:=xC 403 c hc.q (by omega);have Y:=aRo I hn J N (m30 c) c (le_refl _) hc;have hok:=nB I hn J N (m30 c) c (le_refl _) hc;unfold oB;generalize bK m.binds (m30 c) c=p at *;refine bT (n:=25) tok Tryz.func9 rfl rfl rfl ?_;refine sg rfl (a8 (sk 1 rfl (kc W ?_)));refine az ?_;cases hs:shC c with
 | true=>
  rw[θ rfl];exact aA rfl (fun _=>sg rfl (aI (iB trw))) nofun
 | false=>
  rw[ψ Ar];refine aA rfl nofun (fun _=>aD (sk 3 rfl (kc Y ?_)));refine kz 6 rfl ?_;obtain⟨r,e⟩:=p;dsimp only at hok ⊢;by_cases he:e=0
  ·subst he;have Z:=hok rfl;have aa:=aRn I (by decide) (Z.cg (n:=n+1) (by omega) O J) (fun h=>hz (Z.ty _ h));rw[θ rfl];refine a8 (sg rfl (aA rfl (fun hb=>absurd hb (by decide)) (fun _=>aD (sk 2 rfl (kc aa ?_)))));exact kz 2 rfl (aI (iB trw))
  ·rw[ψ he];exact a8 (sg rfl (aA rfl (fun _=>sg rfl (aI (iB trw))) (fun hb=>absurd hb (by simp[he]))))
theorem aAr (I:cK 540000000000) (J:U.length≤480000) {bd:List Bind}(N:BI U bd):∀(k j:Nat) (c:Core),n+j+k≤299→ST (n+j) U c→(b7 bd k j c).2.2=0→
  ST (n+(b7 bd k j c).2.1) U (b7 bd k j c).1∧shC (b7 bd k j c).1=true∧((b7 bd k j c).2.1=j→(b7 bd k j c).1=c)
 | 0,j,c,hn,hc,h=>by
  rw[b7] at h ⊢;by_cases hs:shC c=true
  ·rw[θ hs];exact⟨hc,hs,fun _=>rfl⟩
  ·rw[ψ hs] at h;cases h
 | k+1,j,c,hn,hc,h=>by
  rw[b7] at h ⊢;by_cases hs:shC c=true
  ·rw[θ hs];exact⟨hc,hs,fun _=>rfl⟩
  rw[ψ hs] at h ⊢;by_cases h1:(bK bd (m30 c) c).2=0
  ·rw[θ h1] at h ⊢;by_cases h2:6000<eX (bK bd (m30 c) c).1
   ·rw[θ h2] at h;cases h
   ·rw[ψ h2] at h ⊢;have O:=(nB I (by omega) J N (m30 c) c (le_refl _) hc h1).st (by omega);obtain⟨g1,g2,g3⟩:=aAr I J N k (j+1) _ (by omega) O h;have:=(qK k (j+1) _ h).1
    exact⟨g1,g2,fun e=>by omega⟩
  ·rw[ψ h1] at h;exact absurd h h1
def whV (w:Core×Nat×Int):V:=.tup [.pa (aB w.1),I .i64 w.2.1,I .i64 w.2.2]
end
structure SG (m:Mod) (n:Nat) (U:List Str) (c:Core):Prop where
 q:cB (QL 403) c
 sz:aU c≤570000000000
 sh:shC c=true→ST n U c
 st:shC c=false→aW Tryz.prog 30 [.pa (kD m),.pa (aB c)] [] (eW (bK m.binds (m30 c) c)) []
 ok:shC c=false→(bK m.binds (m30 c) c).2=0→LC (bK m.binds (m30 c) c).1∧eX (bK m.binds (m30 c) c).1≤9000000000000000000∧(eX (bK m.binds (m30 c) c).1≤6000→ST (n+1) U (bK m.binds (m30 c) c).1)
section
variable {n:Nat}{U:List Str}
theorem SG.of (I:cK 540000000000) (hn:n≤299) (J:U.length≤480000) {m:Mod}(N:BI U m.binds) {c:Core}(hc:ST n U c):SG m n U c:=by
 have Y:=bZ c;have O:=hc.sz;refine⟨hc.q,by omega,fun _=>hc,fun _=>aRo I hn J N (m30 c) c (le_refl _) hc,fun _ h=>?_⟩;have W:=nB I hn J N (m30 c) c (le_refl _) hc h;have Z:=W.big O;have aa:=bZ (bK m.binds (m30 c) c).1;have h3:=size_le (bK m.binds (m30 c) c).1;have ab:Big=250000000000:=rfl;exact⟨LC.of _ _ (le_refl _) (by omega),by omega,W.st⟩
theorem pN (J:cK 540000000000) (N:U.length≤480000) {m:Mod}(O:BI U m.binds) (k:Nat) {c:Core}(hn:n+k≤299) (hc:SG m n U c) (h:(b7 m.binds k 0 c).2.2=0):
  ST (n+(b7 m.binds k 0 c).2.1) U (b7 m.binds k 0 c).1∧shC (b7 m.binds k 0 c).1=true∧((b7 m.binds k 0 c).2.1=0→(b7 m.binds k 0 c).1=c):=by
 cases hs:shC c with
 | true=>exact aAr (n:=n) J N O k 0 c (by omega) (hc.sh hs) h
 | false=>
 have I:¬shC c=true:=by rw[hs];exact Ar
 cases k with
 | zero=>rw[b7,ψ I] at h;cases h
 | succ k=>
  rw[b7,ψ I] at h ⊢;by_cases h1:(bK m.binds (m30 c) c).2=0
  ·rw[θ h1] at h ⊢;by_cases h2:6000<eX (bK m.binds (m30 c) c).1
   ·rw[θ h2] at h;cases h
   ·rw[ψ h2] at h ⊢;have W:=(hc.ok hs h1).2.2 (by omega)
    obtain⟨g1,g2,g3⟩:=aAr (n:=n) J N O k (0+1) _ (by omega) W h;have:=(qK k (0+1) _ h).1
    exact⟨g1,g2,fun e=>by omega⟩
  ·rw[ψ h1] at h;exact absurd h h1
theorem aRt (Z:cK 540000000000) (hU:U.length≤480000) (hz:¬([]:Str)∈U) {m:Mod}(hB:BI U m.binds) (F:Nat) (hn:n+F≤299) {c:Core}(hc:SG m n U c):
  aW Tryz.prog 43 [.pa (kD m),.pa (aB c),I .i64 F] [] (whV (b7 m.binds F 0 c)) []:=by
 refine bT (n:=43) tok Tryz.func43 rfl rfl rfl ?_;refine sg rfl (sg rfl (aC (aL (fun p:Nat×Core=>mk [(2,I .i64 F),(3,.one (.vp 3 0)),(4,.one (.vp 4 0)),(6,.one (.vp 6 0)),(9,I .i64 p.1)] [(3,.var 27 ((kD m).map .c)),(4,.var 37 (b9 p.2)),(6,.var 37 bM)]) (fun p=>p.1≤F∧SG m (n+p.1) U p.2∧b7 m.binds F 0 c=b7 m.binds (F-p.1) p.1 p.2) (fun p=>F-p.1) (0,c) ⟨Ak _,hc,rfl⟩ sl ?_)));rintro⟨j,x⟩ ⟨hj,hx,hw⟩;dsimp only at hj hx hw ⊢;have hsh:=xC 403 x hx.q hx.sz;refine a8 (aC (a8 (sk 1 rfl (kc hsh ?_))));refine az ?_;cases hs:shC x with
 | true=>
  have O:=hx.sh hs;have e:b7 m.binds F 0 c=(x,j,0):=by
   rw[hw];cases F-j with
   | zero=>rw[b7,θ hs]
   | succ k=>rw[b7,θ hs]
  have hzz:=aRn Z (by decide) (O.cg (by omega) hU) (fun h=>hz (O.ty _ h));rw[e];refine aA rfl (fun _=>sk 2 rfl (kc hzz ?_)) nofun;exact kz 4 rfl (aI (aYg trw))
 | false=>
  have W:¬shC x=true:=by rw[hs];exact Ar
  refine aA rfl nofun (fun _=>aD (a8 (sg rfl (aA rfl (fun hb=>?_) (fun hb=>?_)))))
  ·have J:j=F:=by have:=φ hb;omega
   have e:b7 m.binds F 0 c=(zC,0,3):=by rw[hw,J,sub_self,b7,ψ (by rw[←J] at *;exact W)]
   rw[e];exact sg rfl (aI (aYg trw))
  have J:j<F:=by have:=δ hb;omega
  obtain⟨k,hk⟩:∃k,F-j=k+1:=⟨F-j-1,by omega⟩
  have hst:=hx.st hs;have hok:=hx.ok hs;rw[hk,b7,ψ W] at hw;generalize bK m.binds (m30 x) x=p at *;obtain⟨r,e⟩:=p;dsimp only at hok hw ⊢;refine aD (sk 3 rfl (kc hst ?_));refine kz 6 rfl ?_;by_cases he:e=0
  ·subst he;have Y:=hok rfl;have hze:=aLk (aU r) r (le_refl _) Y.1 Y.2.1;rw[θ rfl] at hw;refine a8 (sgh [(2,.bv true),(4,.pc (I .i64 (eX r:Nat))),(6,.bv true)] rfl ?_);by_cases N:6000<eX r
   ·rw[θ N] at hw;rw[hw];exact aA rfl (fun _=>ag [] rfl (a8 (sg rfl (aA rfl (fun _=>sg rfl (aI (aYg trw))) (fun hb=>absurd hb (by decide)))))) (fun hb=>absurd hb (by simp;omega))
   ·rw[ψ N] at hw;exact aA rfl (fun hb=>absurd hb (by simp;omega)) (fun _=>aD (a8 (sg rfl (aA rfl (fun hb=>by simp at hb) (fun _=>aD (ag [] rfl (ag [] rfl ⟨(j+1,r),⟨J,SG.of Z (by omega) hU hB (Y.2.2 (by omega)),by rw[hw];congr 1;omega⟩,by dsimp only;omega,sl⟩)))))))
  ·rw[ψ he] at hw;rw[hw];have hd:decide (e=0)=false:=Am he;exact a8 (sgh [(2,.bv false),(6,.bv false)] rfl (aA rfl nofun (fun _=>aD (a8 (sg rfl (aA rfl (fun _=>sg rfl (aI (aYg trw))) (fun hb=>absurd hb (by simp[he]))))))))
end
theorem sY {f:Nat→Core→VE}{x:Core}:∀(l:List Core) (F:Nat),(bV f F l).2.2=0→bV f F (l++[x])=
  if(f (bV f F l).2.1 x).2.2=0 then((bV f F l).1++[(f (bV f F l).2.1 x).1],(f (bV f F l).2.1 x).2.1,0) else([],(f (bV f F l).2.1 x).2.1,(f (bV f F l).2.1 x).2.2)
 | [],F,_=>by
  by_cases h:(f F x).2.2=0<;>simp[bV,h]
 | c::l,F,h=>by
  rw[bV] at h;by_cases h1:(f F c).2.2=0
  ·rw[θ h1] at h;by_cases h2:(bV f (f F c).2.1 l).2.2=0
   ·have I:=sY (f:=f) (x:=x) l (f F c).2.1 h2;rw[A9,bV,θ h1,bV,θ h1,θ h2,I];dsimp only;by_cases h3:(f (bV f (f F c).2.1 l).2.1 x).2.2=0
    ·rw[θ h3,θ rfl,θ h3];rfl
    ·rw[ψ h3,ψ h3,ψ h3]
   ·rw[ψ h2] at h;exact absurd h h2
  ·rw[ψ h1] at h;exact absurd h h1
theorem y3 {f:Nat→Core→VE}{r:List Core}:∀(l:List Core) (F:Nat),¬(bV f F l).2.2=0→bV f F (l++r)=bV f F l
 | [],F,h=>absurd rfl h
 | c::l,F,h=>by
  rw[bV] at h;by_cases h1:(f F c).2.2=0
  ·rw[θ h1] at h;have h2:¬(bV f (f F c).2.1 l).2.2=0:=fun e=>by rw[θ e] at h;exact h rfl
   have I:=y3 (f:=f) (r:=r) l (f F c).2.1 h2;rw[A9,bV,bV,I]
  ·rw[A9,bV,bV,ψ h1,ψ h1]
theorem qQ {f:Nat→Core→VE}:∀(l:List Core) (F:Nat),(bV f F l).2.2=0→(bV f F l).1.length=l.length
 | [],_,_=>rfl
 | c::l,F,h=>by
  rw[bV] at h ⊢;by_cases h1:(f F c).2.2=0
  ·rw[θ h1] at h ⊢;by_cases h2:(bV f (f F c).2.1 l).2.2=0
   ·rw[θ h2,Aj,Aj,qQ l _ h2]
   ·rw[ψ h2] at h;exact absurd h h2
  ·rw[ψ h1] at h;exact absurd h h1
theorem aKd:∀l:List Core,l.length≤(l.map m30).sum
 | []=>by simp
 | c::l=>by
  have h1:=aKd l;have h2:=dX c;rw[Al,Cb,Aj];omega
def MZ:Nat:=3500001
theorem aYd {a b:Nat}(h:a≤b):a*MZ≤b*MZ:=Ax _ h
theorem aZ3 {a b:Nat}(h:a<b):a*MZ+MZ≤b*MZ:=by
 have:=aYd (show a+1≤b from h);rwa [A0,Nat.one_mul] at this
theorem ST.monoU {n:Nat}{U V:List Str}{c:Core}(h:ST n U c) (I:∀x∈U,x∈V):ST n V c:=⟨h.q,h.cw,fun x hx=>I x (h.ty x hx),h.tl,h.sz⟩
theorem BI.monoU {U V:List Str}{bd:List Bind}(h:BI U bd) (I:∀x∈U,x∈V):BI V bd:=⟨h.len,fun b hb=>(h.all b hb).monoU I⟩
theorem aPk (x:Fld) (s:Str):aW Tryz.prog 94 ([.pa (iO x)]++[R.vp 10 0].map V.one) [(10,.var 9 [.c (.str s)])] (B (decide (x.name=s))) [(10,.var 9 [.c (.str s)])]:=by
 refine bT (n:=8) tok Tryz.func94 rfl rfl rfl ?_;exact sgh [(0,.id 12)] rfl (sg rfl (aI rtT))
theorem zN (l:List Fld) (hl:l.length≤1000000000) (s:Str):aW Tryz.prog 93 [.one (.c (.sl 8 (l.map iO))),.one (.clo 94 [.vp 10 0])] [(10,.var 9 [.c (.str s)])] (I .i64 (aEq (fun x:Fld=>decide (x.name=s)) l 0)) [(10,.var 9 [.c (.str s)])]:=by
 have N:(l.map iO).length=l.length:=ξ _;refine bT (n:=19) tok Tryz.func93 rfl rfl rfl ?_;refine sg rfl (a8 (sg rfl (aC (aL (fun i:Nat=>mk [(0,.one (.c (.sl 8 (l.map iO)))),(1,.one (.clo 94 [.vp 10 0])),(7,I .i64 ((l.map iO).length:Int)),(8,I .i64 i)] [(10,.var 9 [.c (.str s)])]) (fun i=>i≤l.length∧aEq (fun x:Fld=>decide (x.name=s)) l 0=aEq (fun x:Fld=>decide (x.name=s)) (l.drop i) i) (fun i=>l.length-i) 0 ⟨Ak _,rfl⟩ sl ?_))));intro i ⟨hi,hid⟩;refine sg rfl (a8 (aA rfl (fun hb=>?_) (fun hb=>?_)))
 ·have J:=ltD hb N;obtain⟨b,O⟩:=aK J;have Z:=bJ iO O;have hc:=aPk b s;have W:l.drop i=b::l.drop (i+1):=by rw[Ca J,(ε.1 O).2]
  rw[W,aEq] at hid;refine aD (a8 (aC (sg rfl (skh 5 [(3,.row i (iO b))] rfl (kv (args:=[.pa (iO b)]) hc ?_)))));refine az (aA rfl (fun hb=>?_) (fun hb=>?_))
  ·rw[θ hb] at hid;rw[hid];exact sg rfl (aI rtT)
  ·rw[ψ (by rw[show decide (b.name=s)=false from hb];exact Ar)] at hid;exact aD (ag [] rfl ⟨i+1,⟨J,hid⟩,by dsimp only;omega,sl⟩)
 have Y:=geD hb N hi;subst Y;rw[drop_length,aEq] at hid;rw[hid];exact aM (sg rfl (aI rtT))
def tO (m:Mod) (F:Nat):List (Nat×AObj):=[(900,.var 99 [.c (.sl 8 (m.fields.map iO)),.c (.sl 15 (m.binds.map bC)),.c (.int .i64 F)])]
def veV (r:VE):V:=.tup [.pa (k8 r.1),I .i64 r.2.2]
structure VC (m:Mod) (P:Nat→Core→Prop):Prop where
 base:∀F c,P F c→∃n U,n+F≤299∧SG m n U c∧U.length≤480000∧¬([]:Str)∈U∧BI U m.binds
 k7:∀F c,P F c→(b7 m.binds F 0 c).2.2=0→(b7 m.binds F 0 c).1.form=7→P (F-(b7 m.binds F 0 c).2.1) ((b7 m.binds F 0 c).1.kids.headD zC)
 kk:∀F c,P F c→(b7 m.binds F 0 c).2.2=0→∀s l,gvC (b7 m.binds F 0 c).1=some (s,l)→∀y∈l,∀G,G≤F-(b7 m.binds F 0 c).2.1→P G y
theorem aTy (hI:cK 540000000000) {m:Mod}(hf:m.fields.length≤1000) {P:Nat→Core→Prop}(hV:VC m P):∀(g d F:Nat) (c:Core),d≤100→P F c→F*MZ+m30 c+d<g→
  aW Tryz.prog 46 [.one (.vp 900 0),.pa (aB c),I .i64 d] (tO m F) (veV (cZ m g d F c)) (tO m (cZ m g d F c).2.1):=by
 intro g
 induction g with
 | zero=>intro d F c _ _ h;omega
 | succ g ih=>
 intro d F c hd hv hg;obtain⟨n,U,hnF,hst,hU,hUz,hbi⟩:=hV.base F c hv;have hwh:=aRt hI hU hUz hbi F hnF hst;have hok:=pN (n:=n) hI hU hbi F hnF hst;have hle:=qK (bd:=m.binds) F 0 c;have O:=hV.k7 F c hv;have W:=hV.kk F c hv;rw[cZ];unfold tO;by_cases ad:d=0
 ·rw[θ ad];subst ad;refine bT (n:=128) tok Tryz.func46 rfl rfl rfl ?_;exact sg rfl (a8 (sg rfl (aA rfl (fun _=>sg rfl (aI (iB trw))) (fun hb=>absurd hb (by decide)))))
 rw[ψ ad];generalize b7 m.binds F 0 c=w at *;obtain⟨x,j,e⟩:=w;dsimp only at hok hle O W ⊢;by_cases he:¬e=0
 ·rw[θ he];refine bT (n:=128) tok Tryz.func46 rfl rfl rfl ?_;refine sg rfl (a8 (sg rfl (aA rfl (fun hb=>absurd (φ hb) (by omega)) (fun _=>aD (sk 9 rfl (kc hwh ?_))))));exact kz 7 rfl (a8 (sg rfl (aA rfl (fun _=>sg rfl (aI (iB trw))) (fun hb=>absurd hb (by simp[he])))))
 rw[ψ he];obtain rfl:e=0:=by omega
 obtain⟨hx,hsx,hxc⟩:=hok rfl;obtain⟨_,hjF⟩:=hle rfl
 replace O:=O rfl
 replace W:=W rfl
 obtain⟨G,hG⟩:∃G,F=G+j:=⟨F-j,by omega⟩
 have hGs:F-j=G:=by omega
 rw[hGs] at O W ⊢;have hnG:n+j+G≤299:=by omega
 have hbm:G*MZ+m30 x≤F*MZ+m30 c:=by
  by_cases h0:j=0
  ·have e:G=F:=by omega
   rw[hxc h0,e];exact le_refl _
  ·have h3:=hx.sz;have h4:G*MZ+MZ≤F*MZ:=aZ3 (by omega);have h5:MZ=3500001:=rfl;omega
 have hcsx:=bZ x;have hszx:=hx.sz;have hgv:=aB6 403 x hx.q (by omega);subst hG;have hGi:(((G+j:Nat):Int))-((j:Nat):Int)=((G:Nat):Int):=by omega
 have hdi:((d:Nat):Int)-1=(((d-1:Nat):Nat):Int):=by omega
 clear hok hle hxc;have ae:∀(Z:Nat) (y:Core) (G':Nat),Z≤d→G'≤G→P G' y→m30 y+Z<m30 x+d→aW Tryz.prog 46 [.one (.vp 900 0),.pa (aB y),I .i64 Z] (tO m G') (veV (cZ m g Z G' y)) (tO m (cZ m g Z G' y).2.1):=by
  intro Z y G' hd' hG' hP hm;refine ih Z G' y (by omega) hP ?_;have:=aYd hG';omega
 unfold tO at ae;obtain⟨R,hR⟩:∃R,R=(if x.form=3 then(aYp x.n,G,0) else if x.form=7 then cZ m g d G (x.kids.headD zC) else aA2 m.fields (fun F c=>cZ m g (d-1) F c) G (gvC x):VE):=⟨_,rfl⟩
 rw[←hR];have hR3:x.form=3→R=(aYp x.n,G,0):=fun h=>by rw[hR,θ h]
 have hR7:¬x.form=3→x.form=7→R=cZ m g d G (x.kids.headD zC):=fun h h'=>by rw[hR,ψ h,θ h']
 have hRk:¬x.form=3→¬x.form=7→R=aA2 m.fields (fun F c=>cZ m g (d-1) F c) G (gvC x):=fun h h'=>by rw[hR,ψ h,ψ h']
 clear hR;obtain⟨f,i,s,t,ks,bs,al⟩:=x;refine bT (n:=128) tok Tryz.func46 rfl rfl rfl ?_;refine sg rfl (a8 (sg rfl (aA rfl (fun hb=>absurd (φ hb) (by omega)) (fun _=>aD (sk 9 rfl (kc hwh ?_))))));refine kz 7 rfl (a8 (sg rfl (aA rfl (fun hb=>by simp at hb) (fun _=>aD (sg rfl ?_)))));rw[hGi];refine a8 (sg rfl ?_);by_cases h3:f=3
 ·rw[hR3 h3];exact aC (sg rfl (aA rfl (fun _=>sg rfl (aI (iB trw))) (fun hb=>absurd h3 (δ hb))))
 by_cases h7:f=7
 ·rw[hR7 h3 h7];subst h7;obtain⟨⟨kid,rfl⟩,rfl,rfl⟩:=dD hx.q (.inr (.inr rfl));obtain⟨k1,k2,k3⟩:=hx.tkid (x:=kid) ζ;have hk:=ae d kid G (le_refl _) (le_refl _) (O rfl) (by omega);refine aC (sg rfl (aA rfl (fun hb=>absurd (φ hb) h3) (fun _=>sg rfl (aA rfl (fun _=>skh 6 [(3,.row 0 (aB kid))] rfl (kc hk ?_)) (fun hb=>by simp[Core.form] at hb)))));exact kz 4 rfl (aI (iB trw))
 rw[hRk h3 h7];clear hR3 hR7 hRk;refine AWp.cut (mk [(0,.one (.vp 900 0)),(2,I .i64 d),(4,.one (.vp 4 0)),(6,.one (.vp 6 0))] [(900,.var 99 [.c (.sl 8 (m.fields.map iO)),.c (.sl 15 (m.binds.map bC)),.c (.int .i64 G)]),(4,.var 37 (b9 (.mk f i s t ks bs al))),(6,.var 54 [.c (.int .i64 0),.c (.int .i64 0),.c (.str []),.c .nl])]) ?_ ?_
 ·exact aC (sg rfl (aA rfl (fun hb=>absurd (φ hb) h3) (fun _=>sg rfl (aA rfl (fun hb=>absurd (φ hb) h7) (fun _=>aD sl)))))
 cases ab:gvC (.mk f i s t ks bs al) with
 | none=>
  rw[ab] at hgv;have N:=zN m.fields (by omega) [];refine sgh [(1,.pc (wQ none))] rfl (sk 6 rfl (kc N ?_));exact kz 1 rfl (a8 (sgh [(2,.bv true),(5,.bv true),(6,.bv true),(19,.bv true)] rfl (aA rfl (fun _=>sg rfl (aI (iB trw))) nofun)))
 | some p=>
  obtain⟨cs,l⟩:=p;obtain⟨gst,nK⟩:=aTf _ _ (le_refl _) hx cs l ab;rw[ab] at hgv;have N:=zN m.fields (by omega) cs;unfold aA2;dsimp only;rcases rP (fun x:Fld=>decide (x.name=cs)) m.fields 0 with⟨k,fl,h1,h2,h3'⟩ | ⟨h1,h3'⟩
  ·rw[h1,Bd] at N;rw[h3'];dsimp only;have hfl':=bJ iO h2;have hk0:decide (((k:Nat):Int)<0)=false:=Am (by omega);have hlk:(l.map aB).length=l.length:=ξ _;have hkf:=(ε.1 h2).1
   refine sgh [(1,.pc (wQ (some (cs,l))))] rfl (sk 6 rfl (kc N ?_));refine kz 1 rfl (a8 (sgh [(2,.bv false),(5,.bv false),(6,.bv false),(15,.row k (iO fl)),(19,.bv false)] rfl ?_));by_cases ha:¬(l.length:Int)=fl.arity
   ·rw[θ ha];exact aA rfl (fun _=>sg rfl (aI (iB trw))) (fun hb=>absurd hb (by simp[hlk,ha]))
   rw[ψ ha];have ha:(l.length:Int)=fl.arity:=by omega
   refine aA rfl (fun hb=>absurd hb (by simp[ha])) (fun _=>aD ?_);have hlen:l.length≤10000000:=by have:=aKd l;omega
   have hvl:=fun k=>qQ (f:=fun F c=>cZ m g (d-1) F c) (l.take k) G
   refine sg rfl (AWp.sub (Sub.ownCell (x:=14) (k:=3) (id:=720) 54 4 rfl rfl rfl) ?_);refine a8 (sg rfl (aC (aL (fun k:Nat=>mk [(0,.one (.vp 900 0)),(2,I .i64 d),(6,.one (.vp 6 0)),(14,.one (.vp 14 0)),(102,.one (.c (.sl 10 (l.map aB)))),(103,I .i64 ((l.map aB).length:Int)),(104,I .i64 k)] [(900,.var 99 [.c (.sl 8 (m.fields.map iO)),.c (.sl 15 (m.binds.map bC)),.c (.int .i64 ((bV (fun F c=>cZ m g (d-1) F c) G (l.take k)).2.1:Nat))]),(6,.var 54 [.c (.int .i64 0),.c (.int .i64 0),.c (.str []),.c .nl]),(14,.var 54 [.c (.int .i64 1),.c (.int .i64 0),.c (.str cs),.hs 720 0 (bV (fun F c=>cZ m g (d-1) F c) G (l.take k)).1.length (bV (fun F c=>cZ m g (d-1) F c) G (l.take k)).1.length]),(720,.arr 54 4 ((bV (fun F c=>cZ m g (d-1) F c) G (l.take k)).1.map k8) 0)]) (fun k=>k≤l.length∧(bV (fun F c=>cZ m g (d-1) F c) G (l.take k)).2.2=0) (fun k=>l.length-k) 0 ⟨Ak _,rfl⟩ sl ?_)));rintro q ⟨hq,ac⟩;refine sg rfl (a8 (aA rfl (fun hb=>?_) (fun hb=>?_)))
   ·have hlt:=ltD hb hlk;obtain⟨y,hy⟩:=aK hlt;have hy':=bJ aB hy;have hym:=η hy;have aa:=uY (fun F c=>qR (md:=m) g (d-1) F c) (l.take q) G;have hk:=ae (d-1) y (bV (fun F c=>cZ m g (d-1) F c) G (l.take q)).2.1 (by omega) aa (W cs l ab y hym _ aa) (by have:=vF (g:=m30) hym;omega);rw[←hdi] at hk;have J:=sY (f:=fun F c=>cZ m g (d-1) F c) (x:=y) (l.take q) G ac;have htk:l.take (q+1)=l.take q++[y]:=by rw[Bh,hy];rfl
    rw[←htk] at J;have hvlq:=hvl q ac;rw[At] at hvlq;generalize bV (fun F c=>cZ m g (d-1) F c) G (l.take q)=T at *;obtain⟨vs,Fq,eq⟩:=T;dsimp only at hk J hvlq aa ⊢;generalize hT:cZ m g (d-1) Fq y=r at *;obtain⟨rv,rF,re⟩:=r;dsimp only at hk J ⊢;have hmk:(vs.map k8).length=vs.length:=ξ _;refine aD (a8 (aC (sgh [(0,.row q (aB y))] rfl (sk 4 rfl (kc hk ?_)))));refine kz 6 rfl ?_;by_cases Y:re=0
    ·subst Y;rw[θ rfl] at J;refine a8 (sg rfl (aA rfl (fun hb=>by simp at hb) (fun _=>aD (ag [(3,.all)] rfl (ag [] rfl ⟨q+1,⟨hlt,by rw[J]⟩,by dsimp only;omega,?_⟩)))));dsimp only;rw[J];exact sl
    ·rw[ψ Y] at J;have htl:bV (fun F c=>cZ m g (d-1) F c) G l=([],rF,re):=by
      have:=y3 (f:=fun F c=>cZ m g (d-1) F c) (r:=l.drop (q+1)) (l.take (q+1)) G (by rw[J];exact Y);rwa [take_append_drop,J] at this
     rw[htl,ψ Y];exact a8 (sg rfl (aA rfl (fun _=>sg rfl (aI (iB trw))) (fun hb=>absurd hb (by simp[Y]))))
   have hge:=geD hb hlk hq;subst hge;rw[Au] at ac ⊢;rw[θ ac];generalize bV (fun F c=>cZ m g (d-1) F c) G l=T at *;obtain⟨vs,Fq,eq⟩:=T;dsimp only;have hmk:vs.length=(l8 vs).length:=by rw[iN,ξ]
   rw[←iN];refine aM (AWp.sub (Sub.freeze (id:=720) rfl) ?_);exact sg rfl (aI (iB trw))
  ·rw[h1] at N;rw[h3'];refine sgh [(1,.pc (wQ (some (cs,l))))] rfl (sk 6 rfl (kc N ?_));exact kz 1 rfl (a8 (sgh [(2,.bv false),(5,.bv false),(6,.bv true),(19,.bv true)] rfl (aA rfl (fun _=>sg rfl (aI (iB trw))) nofun)))
section
variable {H:Core→Core→Prop}
theorem nsh {c:Core}(h:shC c=false):¬shC c=true:=by rw[h];exact Ar
variable {m m':Mod}{U U':List Str}{n n':Nat}
theorem aNc (Z:cK 540000000000) (hH:HOK H m.binds) (hU:U.length≤480000) (hU':U'.length≤480000) (hB:BI U m.binds) (hB':BI U' m'.binds):∀(k k' j I:Nat) (c c':Core),n+j+k≤299→n'+I+k'≤299→SG m (n+j) U c→SG m' (n'+I) U' c'→RA H [] (tE c) (tE c')→
  ¬(b7 m.binds k j c).2.2=2→¬(b7 m.binds k j c).2.2=3→¬(b7 m'.binds k' I c').2.2=2→¬(b7 m'.binds k' I c').2.2=3→
  (b7 m.binds k j c).2.2=(b7 m'.binds k' I c').2.2∧((b7 m.binds k j c).2.2=0→RA H [] (tE (b7 m.binds k j c).1) (tE (b7 m'.binds k' I c').1)):=by
 have N:∀(k k' j I:Nat) (c c':Core),SG m (n+j) U c→RA H [] (tE c) (tE c')→shC c=true→(b7 m.binds k j c).2.2=(b7 m'.binds k' I c').2.2∧((b7 m.binds k j c).2.2=0→RA H [] (tE (b7 m.binds k j c).1) (tE (b7 m'.binds k' I c').1)):=fun k k' j I c c' hc J hs=>by
  obtain⟨hs',_⟩:=RA.sh hH.sh hc.q J hs;have e:b7 m.binds k j c=(c,j,0):=by cases k<;>rw[b7,θ hs]
  have e':b7 m'.binds k' I c'=(c',I,0):=by cases k'<;>rw[b7,θ hs']
  rw[e,e'];exact⟨rfl,fun _=>J⟩
 intro k
 induction k with
 | zero=>
  intro k' j I c c' _ _ hc _ J _ h3 _ _;cases hs:shC c with
  | true=>exact N 0 k' j I c c' hc J hs
  | false=>exact absurd (by rw[b7,ψ (nsh hs)]) h3
 | succ k ih=>
 intro k' j I c c' hn hn' hc O J h2 h3 h2' h3';cases hs:shC c with
 | true=>exact N (k+1) k' j I c c' hc J hs
 | false=>
 have aa:=vN (bd':=m'.binds) hH (m30 c) c c' (m30 c') (le_refl _) (le_refl _) hc.q O.q J hs;have W:=hc.ok hs;rw[b7,ψ (nsh hs)] at h2 h3 ⊢;rcases aa with⟨g1,g2,g3⟩ | ⟨_,g1,g2⟩
 ·cases k' with
  | zero=>exact absurd (by rw[b7,ψ (nsh g1)]) h3'
  | succ k'=>
  have ab:=O.ok g1;rw[b7,ψ (nsh g1)] at h2' h3' ⊢;rw[←g2] at h2' h3' ⊢;by_cases e:(bK m.binds (m30 c) c).2=0
  ·rw[θ e] at h2 h3 h2' h3' ⊢;rw[θ e];by_cases hz:6000<eX (bK m.binds (m30 c) c).1
   ·rw[θ hz] at h2;exact absurd rfl h2
   by_cases Y:6000<eX (bK m'.binds (m30 c') c').1
   ·rw[θ Y] at h2';exact absurd rfl h2'
   rw[ψ hz] at h2 h3 ⊢;rw[ψ Y] at h2' h3' ⊢;exact ih k' (j+1) (I+1) _ _ (by omega) (by omega) (SG.of Z (by omega) hU hB ((W e).2.2 (by omega))) (SG.of Z (by omega) hU' hB' ((ab (by rw[←g2];exact e)).2.2 (by omega))) (g3 e) h2 h3 h2' h3'
  ·rw[ψ e,ψ e];exact⟨rfl,fun h=>absurd h e⟩
 ·rw[θ g1] at h2 h3 ⊢;by_cases hz:6000<eX (bK m.binds (m30 c) c).1
  ·rw[θ hz] at h2;exact absurd rfl h2
  rw[ψ hz] at h2 h3 ⊢;exact ih k' (j+1) I _ _ (by omega) hn' (SG.of Z (by omega) hU hB ((W g1).2.2 (by omega))) O g2 h2 h3 h2' h3'
end
section
variable {H:Core→Core→Prop}
theorem aUn (hh:∀b x,H b x→shC b=false) {x x':Core}(O:cB (QL 403) x) (J:cB (QL 403) x') (W:RA H [] (tE x) (tE x')) (h7:x.form=7) (I:x'.form=7):RA H [] (tE (x.kids.headD zC)) (tE (x'.kids.headD zC)):=by
 obtain⟨Y,nx,sx,tx,kx,bx,ax⟩:=x;obtain⟨Z,ny,sy,ty',ky,by',ay⟩:=x';have h7:Y=7:=h7;have I:Z=7:=I;subst h7 I;obtain⟨⟨u,rfl⟩,rfl,rfl⟩:=dD O (.inr (.inr rfl));obtain⟨⟨u',rfl⟩,rfl,rfl⟩:=dD J (.inr (.inr rfl));rcases W.inv with h | ⟨h0,_⟩ | ⟨_,N⟩
 ·have:=hh _ _ h;rw[aA8] at this;cases this
 ·cases h0
 ·exact N.kk 0 u u' rfl rfl
end
def nt (e:Int):Prop:=¬e=2∧¬e=3
theorem nt0 {e:Int}(h:e=0):nt e:=by unfold nt;omega
section
variable {H:Core→Core→Prop}
theorem y1 {f f':Nat→Core→VE}{R:Nat→Nat→Core→Core→Prop}(hf:∀F F' c c',R F F' c c'→nt (f F c).2.2→nt (f' F' c').2.2→(f F c).1=(f' F' c').1∧(f F c).2.2=(f' F' c').2.2) (hle:∀F c,(f F c).2.1≤F) (I:∀F c,(f' F c).2.1≤F):
  ∀(l l':List Core) (F F':Nat),l.length=l'.length→(∀(i:Nat) (p q:Core),l[i]?=some p→l'[i]?=some q→∀G G',G≤F→G'≤F'→R G G' p q)→nt (bV f F l).2.2→nt (bV f' F' l').2.2→
   (bV f F l).1=(bV f' F' l').1∧(bV f F l).2.2=(bV f' F' l').2.2
 | [],[],_,_,_,_,_,_=>⟨rfl,rfl⟩
 | [],_::_,_,_,h,_,_,_=>by cases h
 | _::_,[],_,_,h,_,_,_=>by cases h
 | c::l,c'::l',F,F',h,hl,h1,h2=>by
  rw[bV] at h1 ⊢;rw[bV] at h2 ⊢;have W:=hl 0 c c' rfl rfl F F' (le_refl _) (le_refl _);have Y:nt (f F c).2.2:=by
   by_cases e:(f F c).2.2=0
   ·exact nt0 e
   ·rw[ψ e] at h1;exact h1
  have Z:nt (f' F' c').2.2:=by
   by_cases e:(f' F' c').2.2=0
   ·exact nt0 e
   ·rw[ψ e] at h2;exact h2
  obtain⟨e1,N⟩:=hf F F' c c' W Y Z;by_cases e:(f F c).2.2=0
  ·have e':(f' F' c').2.2=0:=by rw[←N];exact e
   rw[θ e] at h1 ⊢;rw[θ e'] at h2 ⊢;have m1:nt (bV f (f F c).2.1 l).2.2:=by
    by_cases e:(bV f (f F c).2.1 l).2.2=0
    ·exact nt0 e
    ·rw[ψ e] at h1;exact h1
   have m2:nt (bV f' (f' F' c').2.1 l').2.2:=by
    by_cases e:(bV f' (f' F' c').2.1 l').2.2=0
    ·exact nt0 e
    ·rw[ψ e] at h2;exact h2
   obtain⟨i1,i2⟩:=y1 hf hle I l l' (f F c).2.1 (f' F' c').2.1 (by simpa using h) (fun i p q hp hq G G' hG O=>hl (i+1) p q hp hq G G' (le_trans hG (hle F c)) (le_trans O (I F' c'))) m1 m2;rw[←i2,i1,e1];by_cases J:(bV f (f F c).2.1 l).2.2=0
   ·rw[θ J,θ J];exact⟨rfl,rfl⟩
   ·rw[ψ J,ψ J];exact⟨rfl,rfl⟩
  ·have e':¬(f' F' c').2.2=0:=by rw[←N];exact e
   rw[ψ e,ψ e',N];exact⟨rfl,rfl⟩
theorem uZ (Y:cK 540000000000) {m m':Mod}{P P':Nat→Core→Prop}(Z:VC m P) (N:VC m' P') (W:HOK H m.binds) (hf:m.fields=m'.fields):∀(g g' d F F':Nat) (c c':Core),P F c→P' F' c'→RA H [] (tE c) (tE c')→
  nt (cZ m g d F c).2.2→nt (cZ m' g' d F' c').2.2→(cZ m g d F c).1=(cZ m' g' d F' c').1∧(cZ m g d F c).2.2=(cZ m' g' d F' c').2.2
 | 0,g',d,F,F',c,c',_,_,_,h,_=>absurd rfl h.2
 | g+1,0,d,F,F',c,c',_,_,_,_,h=>absurd rfl h.2
 | g+1,g'+1,d,F,F',c,c',hv,aa,hr,J,I=>by
  obtain⟨n,U,a1,a2,a3,_,a4⟩:=Z.base F c hv;obtain⟨n',U',b1,b2,b3,_,b4⟩:=N.base F' c' aa;have hw:=aNc (n:=n) (n':=n') Y W a3 b3 a4 b4 F F' 0 0 c c' (by omega) (by omega) a2 b2 hr;have o1:=pN (n:=n) Y a3 a4 F a1 a2;have o2:=pN (n:=n') Y b3 b4 F' b1 b2;have k7:=Z.k7 F c hv;have kk:=Z.kk F c hv;have k7':=N.k7 F' c' aa;have kk':=N.kk F' c' aa;rw[cZ] at J ⊢;rw[cZ] at I ⊢;by_cases hd:d=0
  ·rw[θ hd,θ hd];exact⟨rfl,rfl⟩
  rw[ψ hd] at J I ⊢;rw[ψ hd];have m1:nt (b7 m.binds F 0 c).2.2:=by
   by_cases e:(b7 m.binds F 0 c).2.2=0
   ·exact nt0 e
   ·rw[θ e] at J;exact J
  have m2:nt (b7 m'.binds F' 0 c').2.2:=by
   by_cases e:(b7 m'.binds F' 0 c').2.2=0
   ·exact nt0 e
   ·rw[θ e] at I;exact I
  obtain⟨e1,e2⟩:=hw m1.1 m1.2 m2.1 m2.2;rw[←e1] at I ⊢;by_cases h0:¬(b7 m.binds F 0 c).2.2=0
  ·rw[θ h0,θ h0];exact⟨rfl,rfl⟩
  rw[ψ h0] at J I ⊢;rw[ψ h0];have h0:(b7 m.binds F 0 c).2.2=0:=by omega
  have ab:(b7 m'.binds F' 0 c').2.2=0:=by rw[←e1];exact h0
  obtain⟨t1,q2,_⟩:=o1 h0;obtain⟨t2,_,_⟩:=o2 ab;have q1:=t1.q;have p1:=t2.q;have q3:=k7 h0;have q4:=kk h0;have p3:=k7' ab;have p4:=kk' ab;have ac:=e2 h0;clear o1 o2 k7 kk k7' kk' t1 t2 hw m1 m2 e2;obtain⟨_,s1,s2⟩:=RA.sh W.sh q1 ac q2;have hgv:∀b x,H b x→gvC b=none:=fun b x h=>aNt (W.sh b x h)
  have hg:=RA.gv hgv _ _ _ (le_refl _) q1 ac;have h7r:=aUn W.sh q1 p1 ac;generalize b7 m'.binds F' 0 c'=w' at *;generalize b7 m.binds F 0 c=w at *;obtain⟨x,j,e⟩:=w;obtain⟨x',j',e'⟩:=w';dsimp only at *;rw[←s1] at p3 h7r I ⊢;by_cases h3:x.form=3
  ·rw[θ h3,θ h3,s2];exact⟨rfl,rfl⟩
  rw[ψ h3] at J I ⊢;rw[ψ h3];by_cases h7:x.form=7
  ·rw[θ h7] at J I ⊢;rw[θ h7];exact uZ Y Z N W hf g g' d (F-j) (F'-j') _ _ (q3 h7) (p3 h7) (h7r h7 h7) J I
  rw[ψ h7] at J I ⊢;rw[ψ h7];cases O:gvC x with
  | none=>
   have hfx:=u5 q2 O;rw[rQ (by rw[←s1];exact hfx)];exact⟨rfl,rfl⟩
  | some p=>
   obtain⟨s,l⟩:=p;obtain⟨l',g1,g2,g3⟩:=hg s l O;rw[O] at J;rw[g1] at I ⊢;unfold aA2 at J I ⊢;dsimp only at J I ⊢;rw[←hf,←g2] at I ⊢;cases hx:m.fields.find? fun x=>decide (x.name=s) with
   | none=>exact⟨rfl,rfl⟩
   | some fl=>
    rw[hx] at J I;dsimp only at J I ⊢;by_cases ha:¬(l.length:Int)=fl.arity
    ·rw[θ ha,θ ha];exact⟨rfl,rfl⟩
    rw[ψ ha] at J I ⊢;rw[ψ ha];have c1:nt (bV (fun F c=>cZ m g (d-1) F c) (F-j) l).2.2:=by
     by_cases e:(bV (fun F c=>cZ m g (d-1) F c) (F-j) l).2.2=0
     ·exact nt0 e
     ·rw[ψ e] at J;exact J
    have c2:nt (bV (fun F c=>cZ m' g' (d-1) F c) (F'-j') l').2.2:=by
     by_cases e:(bV (fun F c=>cZ m' g' (d-1) F c) (F'-j') l').2.2=0
     ·exact nt0 e
     ·rw[ψ e] at I;exact I
    obtain⟨d1,d2⟩:=y1 (f:=fun F c=>cZ m g (d-1) F c) (f':=fun F c=>cZ m' g' (d-1) F c) (R:=fun G G' p q=>P G p∧P' G' q∧RA H [] (tE p) (tE q)) (fun G G' p q h h1 h2=>uZ Y Z N W hf g g' (d-1) G G' p q h.1 h.2.1 h.2.2 h1 h2) (fun G p=>qR g (d-1) G p) (fun G p=>qR g' (d-1) G p)
     l l' (F-j) (F'-j') g2 (fun i p q hp hq G G' hG hG'=>⟨q4 s l O p (η hp) G hG,p4 s l' g1 q (η hq) G' hG',g3 i p q hp hq⟩) c1 c2
    rw[←d2,d1];by_cases e3:(bV (fun F c=>cZ m g (d-1) F c) (F-j) l).2.2=0
    ·rw[θ e3,θ e3];exact⟨rfl,rfl⟩
    ·rw[ψ e3,ψ e3];exact⟨rfl,rfl⟩
end
inductive N0:Core→Prop
 | mk {f n:Int} {s:Str} {t:Ty} {ks:List Core} {bs:List Bind} {al:List Alt} (h7:f=7→(ks.headD zC).form=5) (hk:∀x∈ks,N0 x) (hb:∀b∈bs,N0 b.body) (ha:∀a∈al,N0 a.body):N0 (.mk f n s t ks bs al)
def TN (p q:Core):Prop:=N0 p→N0 q∧(¬p.form=1→q.form=p.form)
section
variable {f n:Int}{s:Str}{t:Ty}{ks:List Core}{bs:List Bind}{al:List Alt}{p q r b c:Core}{sb:Core→Str→Core→Core}
theorem N0.inv (h:N0 (.mk f n s t ks bs al)):(f=7→(ks.headD zC).form=5)∧(∀x∈ks,N0 x)∧(∀b∈bs,N0 b.body)∧∀a∈al,N0 a.body:=by
 cases h with
 | mk h7 hk hb ha=>exact⟨h7,hk,hb,ha⟩
theorem N0.leaf (h7:¬f=7:=by decide):N0 (.mk f n s t [] [] []):=.mk (fun e=>absurd e h7) (fun x hx=>by cases hx) (fun x hx=>by cases hx) fun x hx=>by cases hx
theorem TN.refl (p:Core):TN p p:=fun h=>⟨h,fun _=>rfl⟩
theorem TN.trans (h1:TN p q) (h2:TN q r):TN p r:=fun h=>by
 obtain⟨I,a2⟩:=h1 h;obtain⟨J,N⟩:=h2 I;exact⟨J,fun h=>by have e:=a2 h;rw[N (by rw[e];exact h),e]⟩
theorem xN {n':Int}{s':Str}{t':Ty}{bs':List Bind}{al':List Alt}(h:Core→Core) (hk:∀x∈ks,TN x (h x))
  (hb:(∀b∈bs,N0 b.body)→∀b∈bs',N0 b.body) (ha:(∀a∈al,N0 a.body)→∀a∈al',N0 a.body):TN (.mk f n s t ks bs al) (.mk f n' s' t' (ks.map h) bs' al'):=fun hp=>by
 obtain⟨J,I,N,O⟩:=hp.inv;refine⟨.mk (fun e=>?_) (fun y hy=>?_) (hb N) (ha O),fun _=>rfl⟩
 ·have g:=J e;cases ks with
  | nil=>exact g
  | cons x l=>
   have g:x.form=5:=g;show(h x).form=5;rw[(hk x ζ (I x ζ)).2 (by omega),g]
 ·obtain⟨x,hx,rfl⟩:=Ad.1 hy;exact(hk x hx (I x hx)).1
theorem aCh:∀(k:Nat) (c:Core) (a:Str) (u:Ty),TN c (sTR k c a u)
 | 0,c,a,u=>by rw[sTR];exact .refl c
 | k+1,.mk f n s t ks bs al,a,u=>by
  have I:(∀b∈bs,N0 b.body)→∀b∈bs.map (fun b=>Bind.mk b.name (kB b.ty [(a,u)]) (sTR k b.body a u)),N0 b.body:=fun h b hm=>by
   obtain⟨y,hy,rfl⟩:=Ad.1 hm;exact(aCh k y.body a u (h y hy)).1
  have J:(∀b∈al,N0 b.body)→∀b∈al.map (fun b=>Alt.mk b.form b.n b.name b.vars (sTR k b.body a u)),N0 b.body:=fun h b hm=>by
   obtain⟨y,hy,rfl⟩:=Ad.1 hm;exact(aCh k y.body a u (h y hy)).1
  rw[sTR];split
  ·exact .refl _
  ·split
   ·rw[gU,A1];exact xN _ (fun x _=>(aCh k x _ _).trans (aCh k _ _ _)) I J
   ·exact xN _ (fun x _=>aCh k x _ _) I J
theorem aYa (far:List Str):TN c (aB2 c far):=by
 obtain⟨f,n,s,t,ks,bs,al⟩:=c;rw[aB2];split
 ·exact xN _ (fun x _=>aCh _ x _ _) id id
 ·exact .refl _
theorem aMt (hs:∀p n z,N0 z→TN p (sb p n z)) {far:List Str}:∀(ns:List Str) (st:List Str×List Core×List Str),∃h:Core→Core,(∀x,TN x (h x))∧(kC sb far ns st).2.1=st.2.1.map h
 | [],st=>⟨id,.refl,(map_id _).symm⟩
 | n::ns,st=>by
  obtain⟨h,h1,h2⟩:=aMt hs ns (eG sb far st n);have h2:(kC sb far (n::ns) st).2.1=(eG sb far st n).2.1.map h:=h2;rw[h2];unfold eG;split
  ·exact⟨_,fun x=>(hs x n _ N0.leaf).trans (h1 _),A1⟩
  ·exact⟨h,h1,rfl⟩
theorem aMs (hs:∀p n z,N0 z→TN p (sb p n z)) (hb:N0 b) (ns:List Str) (ps:List Core):∃h:Core→Core,(∀x,TN x (h x))∧(cD sb s b ns ps).2=ps.map h:=by
 unfold cD;split
 ·obtain⟨h,h1,h2⟩:=aMt hs (far:=pfR b) ns ([],ps,ps.flatMap pfR++ns++pfR b);dsimp only at h2 ⊢;rw[h2];exact⟨_,fun x=>(h1 x).trans (hs _ _ _ hb),A1⟩
 ·exact⟨id,.refl,(map_id _).symm⟩
theorem aUl (hs:∀p n z,N0 z→TN p (sb p n z)) (hb:N0 b):TN c (oQ sb s b c):=by
 obtain⟨f,n,nm,t,ks,bs,al⟩:=c;rw[oQ];unfold zNm zKs zBs;obtain⟨h,h1,h2⟩:=aMs (s:=s) hs hb (gvN f nm bs) (ks++bs.map Bind.body);rw[h2,As,take_left' (ξ _),drop_left' (ξ _)];refine xN h (fun x _=>h1 x) (fun hp x hx=>?_) (fun hp x hx=>?_)
 ·obtain⟨y,hy,e⟩:=Ad.1 (mX hx).1;obtain⟨z,hz,rfl⟩:=Ad.1 hy;rw[←e];exact(h1 _ (hp z hz)).1
 ·obtain⟨y,hy,rfl⟩:=Ad.1 hx;obtain⟨g,g1,g2⟩:=aMs (s:=s) hs hb y.vars [y.body];show N0 ((cD sb s b y.vars [y.body]).2.headD y.body);rw[g2];exact(g1 _ (hp y hy)).1
theorem aFq:∀(k:Nat) (c:Core) (s:Str) (b:Core),N0 b→TN c (dA k c s b)
 | 0,c,s,b,_=>by rw[dA];exact .refl c
 | k+1,c,s,b,hb=>by
  rw[dA];split
  ·rename_i h1;exact fun _=>⟨hb,fun h=>absurd h1.1 h⟩
  ·refine TN.trans (q:=if c.form=7∧s∈pfR c then aB2 c (tyR b) else c) ?_ (aUl (fun p n z h=>aFq k p n z h) hb);split
   ·exact aYa _
   ·exact .refl c
theorem aR6 (names:List Str) (l:List Core) (hc:N0 c) (hl:∀b∈l,N0 b):N0 (xR c names l):=by
 have h1:∀(ps:List (Str×Str)) (c:Core),N0 c→N0 (fY c ps):=by
  intro ps
  induction ps with
  | nil=>intro c h;exact h
  | cons p ps I=>intro c h;exact I _ (aFq _ c _ (vC _) N0.leaf h).1
 have h2:∀(ps:List (Str×Core)) (c:Core),(∀p∈ps,N0 p.2)→N0 c→N0 (kN c ps):=by
  intro ps
  induction ps with
  | nil=>intro c _ h;exact h
  | cons p ps I=>intro c hp h;exact I _ (fun q J=>hp q (κ _ J)) (aFq _ c _ _ (hp p ζ) h).1
 exact h2 _ _ (fun p hp=>hl p.2 (of_mem_zip (a:=p.1) (b:=p.2) hp).2) (h1 _ _ hc)
end
mutual
theorem aTg:∀c:Core,N0 c→∀(s:Str) (l:List Core),gvC c=some (s,l)→∀x∈l,N0 x
 | .mk f n s t ks bs al,h,nm,l,hg=>by
  obtain⟨_,I,_,_⟩:=h.inv;rw[gvC] at hg;by_cases h2:f=2
  ·rw[θ h2] at hg;cases hg;exact fun x hx=>by cases hx
  rw[ψ h2] at hg;by_cases h4:f=4
  ·rw[θ h4] at hg;obtain⟨⟨O,l'⟩,J,N⟩:=Bz.1 hg;cases N;intro x hx;rcases ω.1 hx with hx | hx
   ·exact aQ7 ks I _ _ J x hx
   ·exact I x (Cx hx)
  rw[ψ h4] at hg;by_cases h6:f=6
  ·rw[θ h6] at hg;exact aQ7 ks I _ _ hg
  ·rw[ψ h6] at hg;cases hg
theorem aQ7:∀l:List Core,(∀x∈l,N0 x)→∀(s:Str) (m:List Core),gvH l=some (s,m)→∀x∈m,N0 x
 | [],_,_,_,hg=>by rw[gvH] at hg;cases hg
 | c::l,h,s,m,hg=>by rw[gvH] at hg;exact aTg c (h c ζ) s m hg
end
theorem aUo {s:Str}{a b:Int}(h:(jO s a b).2=0):N0 (jO s a b).1:=by
 have ht:∀c,N0 (aNi c):=fun c=>N0.leaf
 unfold jO at h ⊢
 repeat' split
 all_goals first | exact N0.leaf | exact ht _
theorem aZ2 {l:List Core}(h:∀x∈l,N0 x) (j:Nat):N0 (l.getD j zC):=by
 rw[List.getD_eq_getElem?_getD];cases e:l[j]? with
 | none=>exact N0.leaf
 | some x=>exact h x (η e)
theorem aG2 {l:List Core}(h:∀x∈l,N0 x):N0 (l.headD zC):=by
 cases l with
 | nil=>exact N0.leaf
 | cons x l=>exact h x ζ
theorem N0.kids {c:Core}(h:N0 c):∀x∈c.kids,N0 x:=by obtain⟨f,n,s,t,ks,bs,al⟩:=c;exact h.inv.2.1
theorem aDi {bd:List Bind}(hbd:∀b∈bd,N0 b.body):∀(k:Nat) (c:Core),N0 c→(bK bd k c).2=0→N0 (bK bd k c).1:=by
 intro k
 induction k with
 | zero=>intro c _ he;rw[bK] at he;cases he
 | succ k ih=>
 intro c h he;obtain⟨f,i,s,t,ks,bs,al⟩:=c;obtain⟨p1,N,p3,W⟩:=h.inv;have J:∀j,¬f=7→(mA (bK bd k) (.mk f i s t ks bs al) j).2=0→N0 (mA (bK bd k) (.mk f i s t ks bs al) j).1:=fun j h7 he=>by
  unfold mA at he ⊢;cases hx:ks[j]? with
  | none=>
   have O:(Core.mk f i s t ks bs al).kids[j]?=none:=hx;rw[O] at he;cases he
  | some x=>
   have O:(Core.mk f i s t ks bs al).kids[j]?=some x:=hx;rw[O] at he ⊢;dsimp only at he ⊢;obtain⟨_,e2,e3⟩:=aEp he;rw[e3];have hg:=ih x (N x (η hx)) e2;exact .mk (fun e=>absurd e h7) (fun y hy=>(mem_or_eq_of_mem_set hy).elim (N y) fun e=>by rw[e];exact hg) p3 W
 rw[jJ] at he ⊢;by_cases h1:f=1
 ·rw[θ h1] at he ⊢;cases hf:bd.find? fun b=>decide (b.name=s) with
  | none=>rw[hf] at he;cases he
  | some b=>exact hbd b (B3 hf)
 rw[ψ h1] at he ⊢;by_cases Y:f=4∨f=6
 ·rw[θ Y] at he ⊢;by_cases ha:f=4∧(ks.headD zC).form=5
  ·rw[θ ha];exact(aFq _ _ _ _ (aZ2 N 1) (aG2 (aG2 N).kids)).1
  rw[ψ ha] at he ⊢;by_cases hb:f=6∧(ks.headD zC).form=7
  ·rw[θ hb];exact(aCh _ _ _ _ (aG2 (aG2 N).kids)).1
  rw[ψ hb] at he ⊢;exact J 0 (by omega) he
 rw[ψ Y] at he ⊢;by_cases h8:f=8
 ·rw[θ h8];refine aR6 _ _ (aG2 N) fun b hb=>?_
  obtain⟨y,hy,rfl⟩:=Ad.1 hb;exact .mk (fun e=>by cases e) (fun x hx=>by rw[Ac.1 hx];exact p3 y hy) p3 fun x hx=>by cases hx
 rw[ψ h8] at he ⊢;by_cases h9:f=9
 ·rw[θ h9] at he ⊢;by_cases hs:shC (ks.headD zC)=true
  ·rw[θ hs] at he ⊢;cases hf:al.findSome? fun a=>fI a (ks.headD zC) with
   | none=>rw[hf] at he;cases he
   | some r=>
    obtain⟨a,ha,I⟩:=List.exists_of_findSome?_eq_some hf;dsimp only;unfold fI at I;by_cases h3:a.form=3
    ·rw[θ h3] at I;rw[←Option.some.inj I];exact W a ha
    rw[ψ h3] at I;by_cases h2:a.form=2
    ·rw[θ h2] at I;by_cases e:(ks.headD zC).form=3∧(ks.headD zC).n=a.n
     ·rw[θ e] at I;rw[←Option.some.inj I];exact W a ha
     ·rw[ψ e] at I;cases I
    rw[ψ h2] at I;cases hg:gvC (ks.headD zC) with
    | none=>rw[hg] at I;cases I
    | some p=>
     obtain⟨nm,l⟩:=p;rw[hg] at I;dsimp only at I;by_cases e:nm=a.name∧l.length=a.vars.length
     ·rw[θ e] at I;rw[←Option.some.inj I];exact aR6 _ _ (W a ha) (aTg _ (aG2 N) nm l hg)
     ·rw[ψ e] at I;cases I
  ·rw[ψ hs] at he ⊢;exact J 0 (by omega) he
 rw[ψ h9] at he ⊢;by_cases Z:f=10
 ·rw[θ Z] at he ⊢;split at he
  ·rename_i e;rw[θ e];exact J 0 (by omega) he
  ·rename_i e;rw[ψ e];split at he
   ·rename_i e;rw[θ e];exact J 1 (by omega) he
   ·rename_i e;rw[ψ e];split at he
    ·rename_i e;rw[θ e];exact aUo he
    ·cases he
 rw[ψ Z] at he ⊢;split at he<;>cases he
theorem aHb {bd:List Bind}(I:∀b∈bd,N0 b.body):∀(k j:Nat) (c:Core),N0 c→(b7 bd k j c).2.2=0→N0 (b7 bd k j c).1
 | 0,j,c,hc,h=>by
  rw[b7] at h ⊢;by_cases hs:shC c=true
  ·rw[θ hs];exact hc
  ·rw[ψ hs] at h;cases h
 | k+1,j,c,hc,h=>by
  rw[b7] at h ⊢;by_cases hs:shC c=true
  ·rw[θ hs];exact hc
  rw[ψ hs] at h ⊢;by_cases h1:(bK bd (m30 c) c).2=0
  ·rw[θ h1] at h ⊢;by_cases h2:6000<eX (bK bd (m30 c) c).1
   ·rw[θ h2] at h;cases h
   ·rw[ψ h2] at h ⊢;exact aHb I k (j+1) _ (aDi I _ _ hc h1) h
  ·rw[ψ h1] at h;exact absurd h h1
structure NG (m:Mod) (n:Nat) (U:List Str) (F:Nat) (c:Core):Prop where
 nF:n+F≤299
 sg:SG m n U c
 z:¬([]:Str)∈U
 bi:BI U m.binds
 n0:N0 c
 u:U.length+(if c.form=5 then 0 else 1)≤1000
def NH (m:Mod) (F:Nat) (c:Core):Prop:=∃n U,NG m n U F c
theorem NH.vc (N:cK 540000000000) {m:Mod}(W:∀b∈m.binds,N0 b.body):VC m (NH m):=by
 have key:∀F c,NH m F c→(b7 m.binds F 0 c).2.2=0→((b7 m.binds F 0 c).1.form=7→NH m (F-(b7 m.binds F 0 c).2.1) ((b7 m.binds F 0 c).1.kids.headD zC))∧
   ∀s l,gvC (b7 m.binds F 0 c).1=some (s,l)→∀y∈l,∀G,G≤F-(b7 m.binds F 0 c).2.1→NH m G y:=by
  rintro F c ⟨n,U,hv⟩ h0;have hu:=hv.u;have Y:U.length≤480000:=by omega
  obtain⟨g1,g2,g3⟩:=pN (n:=n) N Y hv.bi F hv.nF hv.sg h0;obtain⟨_,Z⟩:=qK (bd:=m.binds) F 0 c h0;have O:=aHb W F 0 c hv.n0 h0;have h5:c.form=5→(b7 m.binds F 0 c).1=c:=fun e=>by
   have hs:shC c=true:=kI.2 (.inl e);cases F<;>rw[b7,θ hs]
  generalize b7 m.binds F 0 c=w at *;obtain⟨x,j,e⟩:=w;dsimp only at g1 g2 g3 Z O h5 ⊢;have hnF:=hv.nF;have hb:=hv.bi;have I:¬x.form=5→U.length+1≤1000:=fun hx=>by
   by_cases e:c.form=5
   ·rw[h5 e] at hx;exact absurd e hx
   ·rw[ψ e] at hu;exact hu
  refine⟨fun h7=>?_,fun s l hg y hy G hG=>?_⟩
  ·have aa:=I (by omega);obtain⟨f,i,s,t,ks,bs,al⟩:=x;have h7:f=7:=h7;subst h7;obtain⟨⟨a,rfl⟩,rfl,rfl⟩:=dD g1.q (.inr (.inr rfl));obtain⟨t1,t2,_⟩:=g1.tkid (x:=a) ζ;have hs:¬s=[]:=((aS.1 g1.q).1.2.1 rfl).2
   obtain⟨p1,p2,_⟩:=O.inv;have ab:a.form=5:=p1 rfl;have J:BI (s::U) m.binds:=hb.monoU fun v hv=>κ _ hv
   refine⟨n+j,s::U,by omega,SG.of N (by omega) (by rw[Aj];omega) J t1,fun hm=>?_,J,p2 a ζ,?_⟩
   ·rcases Ao.1 hm with e | hm
    ·exact hs e.symm
    ·exact hv.z hm
   ·show(s::U).length+(if a.form=5 then 0 else 1)≤1000;rw[θ ab,Aj];omega
  ·have aa:=I (fun e=>by rw[rQ (.inl e)] at hg;cases hg);obtain⟨k1,_⟩:=aTf _ _ (le_refl _) g1 s l hg;refine⟨n+j,U,by omega,SG.of N (by omega) Y hb (k1 y hy),hv.z,hb,aTg _ O s l hg y hy,?_⟩;split<;>omega
 refine⟨fun F c h=>?_,fun F c h h0=>(key F c h h0).1,fun F c h h0=>(key F c h h0).2⟩;obtain⟨n,U,hv⟩:=h;have h2:=hv.u;exact⟨n,U,hv.nF,hv.sg,by omega,hv.z,hv.bi⟩
def PP (u:Str) (a b:Str):Prop:=a∈nm6∧(b=a∨b=a++u)
section
variable {u:Str}
inductive RV (u:Str):List (Str×Str)→Core→Core→Prop
 | var {ρ:List (Str×Str)} {n n':Int} {s s':Str} {t t':Ty} (h:AV ρ s s'):RV u ρ (.mk 1 n s t [] [] []) (.mk 1 n' s' t' [] [] [])
 | node {ρ:List (Str×Str)} {f n:Int} {s s':Str} {t t':Ty} {ks ks':List Core} {bs bs':List Bind} {al al':List Alt} (h1:¬f=1) (h5:f=5→PP u s s'∧bs=[]) (hs:f=5∨f=7∨s=s')
   (lk:ks.length=ks'.length) (lb:bs.map Bind.name=bs'.map Bind.name) (la:al.length=al'.length) (hbn:∀b∈bs,b.name∈nm6)
   (hk:∀(i:Nat) (x y:Core),ks[i]?=some x→ks'[i]?=some y→RV u ((gvN f s bs).zip (gvN f s' bs')++ρ) x y)
   (hb:∀(i:Nat) (x y:Bind),bs[i]?=some x→bs'[i]?=some y→RV u ((gvN f s bs).zip (gvN f s' bs')++ρ) x.body y.body)
   (ha:∀(i:Nat) (x y:Alt),al[i]?=some x→al'[i]?=some y→AH x y∧x.vars=y.vars∧∀v∈x.vars,v∈nm6)
   (ha':∀(i:Nat) (x y:Alt),al[i]?=some x→al'[i]?=some y→RV u (x.vars.zip y.vars++ρ) x.body y.body):RV u ρ (.mk f n s t ks bs al) (.mk f n s' t' ks' bs' al')
theorem aJl {bs bs':List Bind}(h:bs.map Bind.name=bs'.map Bind.name):bs.length=bs'.length:=by
 have:=congrArg List.length h;rwa [ξ,ξ] at this
theorem RV.ra {H:Core→Core→Prop}{ρ:List (Str×Str)}{c c':Core}(h:RV u ρ c c'):RA H ρ c c':=by
 induction h with
 | var h=>exact .var h
 | node h1 h5 hs lk lb la hbn _ _ ha _ I J N=>exact .node h1 hs lk (aJl lb) la I J (fun i x y hx hy=>(ha i x y hx hy).1) N
end
end Go.Proofs.YtockgoadliilhaaGreatDoor
