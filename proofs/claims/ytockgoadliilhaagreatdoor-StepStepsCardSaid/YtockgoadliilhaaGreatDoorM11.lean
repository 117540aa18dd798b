/-
  Texts Lg23 to Lr6 in one.
-/
import Derived.Test.YtockgoadliilhaaGreatDoorM10
open List (append_nil drop_eq_getElem_cons drop_left drop_length eq_nil_of_length_eq_zero flatMap_append length_append length_cons length_eq_one_iff length_eq_zero_iff length_filter_le length_map length_nil length_take map_append map_cons map_map map_nil map_take mem_append mem_cons mem_cons_of_mem mem_cons_self mem_flatMap mem_map mem_of_mem_drop mem_of_mem_take mem_singleton nil_append nodup_nil take_left take_length take_succ_cons take_zero)
open Nat (add_assoc add_mul le_antisymm le_max_left le_max_right le_mul_of_pos_right le_of_eq le_refl le_trans max_le mul_le_mul_right zero_le)
namespace Go.Proofs.YtockgoadliilhaaGreatDoor
open Go Go.AM
set_option maxRecDepth 20000
theorem aYh {o:List Str}{x y:Str}(h:y∈o):y∈r8 o x:=by
 unfold r8;split
 ·exact h
 ·exact τ.2 (.inl h)
theorem aTc {o:List Str}{x:Str}:x∈r8 o x:=by
 unfold r8;split
 ·assumption
 ·exact τ.2 (.inr (by simp))
theorem a18 {G o:List Str}{x y:Str}(h:y∈o):y∈pfG G o x:=by
 unfold pfG;split
 ·exact h
 ·exact aYh h
theorem aBy {G:List Str}:∀{l o:List Str}{y:Str},y∈o→y∈pfP G o l
 | [],_,_,h=>h
 | x::l,o,y,h=>aBy (G:=G) (l:=l) (o:=pfG G o x) (a18 h)
theorem uA {G:List Str}:∀{l o:List Str}{y:Str},y∈l→¬y∈G→y∈pfP G o l
 | x::l,o,y,h,u=>by
  rcases Ap.1 h with rfl | h
  ·refine aBy (G:=G) (l:=l) (o:=pfG G o y) ?_;unfold pfG;rw[φ u];exact aTc
  ·exact uA (l:=l) (o:=pfG G o x) h u
theorem aNz {G:List Str}:∀{l:List Core}{o:List Str}{y:Str},y∈o→y∈jS G l o
 | [],_,_,h=>by rw[jS];exact h
 | c::l,o,y,h=>by rw[jS];exact aNz (aBy h)
theorem yY {G:List Str}:∀{l:List Bind}{o:List Str}{y:Str},y∈o→y∈kP G l o
 | [],_,_,h=>by rw[kP];exact h
 | .mk s t c::l,o,y,h=>by rw[kP];exact yY (aBy h)
theorem z7:∀{l:List Alt}{o:List Str}{y:Str},y∈o→y∈jQ l o
 | [],_,_,h=>by rw[jQ];exact h
 | .mk f n s vs c::l,o,y,h=>by rw[jQ];exact z7 (aBy h)
theorem yW {G:List Str}:∀{l:List Core}{o:List Str}{y:Str}{c:Core},c∈l→y∈pfR c→¬y∈G→y∈jS G l o
 | d::l,o,y,c,h,u,I=>by
  rw[jS];rcases Ap.1 h with rfl | h
  ·exact aNz (uA u I)
  ·exact yW h u I
theorem yX {G:List Str}:∀{l:List Bind}{o:List Str}{y:Str}{c:Bind},c∈l→y∈pfR c.body→¬y∈G→y∈kP G l o
 | .mk s t d::l,o,y,c,h,u,I=>by
  rw[kP];rcases Ap.1 h with rfl | h
  ·exact yY (uA u I)
  ·exact yX h u I
theorem z6:∀{l:List Alt}{o:List Str}{y:Str}{c:Alt},c∈l→y∈pfR c.body→¬y∈c.vars→y∈jQ l o
 | .mk f n s vs d::l,o,y,c,h,u,I=>by
  rw[jQ];rcases Ap.1 h with rfl | h
  ·exact z7 (uA u I)
  ·exact z6 h u I
theorem aX9 {f n:Int}{nm:Str}{t:Ty}{ks:List Core}{bs:List Bind}{al:List Alt}(hf:f≠1) {y:Str}(h:y∈(ks++bs.map Bind.body).flatMap pfR) (u:¬y∈gvN f nm bs):y∈pfR (.mk f n nm t ks bs al):=by
 rw[pfR,φ hf];refine z7 ?_;obtain⟨c,hc,I⟩:=C6.1 h;rcases τ.1 hc with hc | hc
 ·exact yY (yW hc I u)
 ·obtain⟨b,hb,rfl⟩:=Af.1 hc;exact yX hb I u
theorem a17 {f n:Int}{nm:Str}{t:Ty}{ks:List Core}{bs:List Bind}{al:List Alt}(hf:f≠1) {a:Alt}(ha:a∈al) {y:Str}(h:y∈pfR a.body) (u:¬y∈a.vars):y∈pfR (.mk f n nm t ks bs al):=by
 rw[pfR,φ hf];exact z6 ha h u
section
variable {sb sb':Core→Str→Core→Core}{P:Core→Prop}{e:Core→Core}
end
structure PK (B:Nat) (T:Ty→Prop) (ns:List Str) (ps:List Core) (r:List Str×List Core):Prop where
 len1:r.1.length=ns.length
 len2:r.2.length=ps.length
 wf:∀q∈r.2,wfC q=true∧allT T q
 sm:A2 (fun p q=>m30 q≤m30 p*B) ps r.2
 nm:A2 NR ns r.1
theorem aEv {sb:Core→Str→Core→Core}{P:Core→Prop}{B:Nat}{T:Ty→Prop}{s:Str}{b:Core}{ns:List Str}{ps:List Core}(hB:1≤B) (O:∀p∈ps,P p)
  (hz:∀p n z,P p→z.length≤30→P (sb p n (vC z))∧m30 (sb p n (vC z))≤m30 p) (aa:∀p,P p→wfC p=true∧allT T p) (hs:∀p,P p→wfC (sb p s b)=true∧allT T (sb p s b)∧m30 (sb p s b)≤m30 p*B)
  (hl:(ps.flatMap pfR).length+2*ns.length+(pfR b).length≤540000000000):PK B T ns ps (cE sb s b ns ps):=by
 obtain⟨Y,Z⟩:=nQ (sb:=sb) (s:=s) (b:=b) (ns:=ns) (ps:=ps);obtain⟨⟨I,h1,h2⟩,h3⟩:=aHc (sb:=sb) (Rel:=fun p q=>P p→(P q∧m30 q≤m30 p)) (fun p h=>⟨h,le_refl _⟩)
  (fun p q r J ab h=>by
   obtain⟨a1,a2⟩:=J h;obtain⟨b1,b2⟩:=ab a1
   exact⟨b1,le_trans b2 a2⟩) (s:=s) (b:=b) (ns:=ns) (ps:=ps) (fun p n z ac h=>hz p n z h ac) hl
 have u:∀q∈I,P q:=fun q u=>by
  obtain⟨p,hp,J⟩:=h1.mem q u;exact(J (O p hp)).1
 have hA:A2 (fun p q=>m30 q≤m30 p) ps I:=by
  clear h2 u hl h3 Y Z
  induction h1 with
  | nil=>exact .nil
  | cons r _ ih2=>exact .cons (r (O _ ζ)).2 (ih2 fun p hp=>O p (ω _ hp))
 have hup:∀k:Nat,k≤k*B:=fun k=>A7 _ hB
 refine⟨Y,Z,fun x hx=>?_,?_,h3⟩
 ·rcases h2 with h2 | h2
  ·rw[h2] at hx;exact aa x (u x hx)
  ·rw[h2] at hx;obtain⟨q,N,rfl⟩:=Af.1 hx;exact⟨(hs q (u q N)).1,(hs q (u q N)).2.1⟩
 ·rcases h2 with h2 | h2
  ·rw[h2];exact A2.mono (fun p q h=>le_trans h (hup _)) hA
  ·rw[h2];clear h2 h3 Y Z hl h1;have key:∀{ps I:List Core},A2 (fun p q=>m30 q≤m30 p) ps I→(∀q∈I,P q)→A2 (fun p q=>m30 q≤m30 p*B) ps (I.map fun p=>sb p s b):=by
    intro ps I h
    induction h with
    | nil=>intro _;exact .nil
    | cons r _ ih=>exact fun u=>.cons (le_trans (hs _ (u _ ζ)).2.2 (Aw _ r)) (ih fun q h=>u q (ω _ h))
   exact key hA u
theorem aH2 {B:Nat}{ps u:List Core}(h:A2 (fun p q=>m30 q≤m30 p*B) ps u):dA u≤dA ps*B:=by
 induction h with
 | nil=>rw[dA];exact Ag _
 | cons r _ I=>rw[dA,dA,A1];omega
theorem aHw {B:Nat}(u:1≤B):∀{ts:List Ty}{ns:List Str}{ps:List Core}{bs:List Bind},A2 (fun(b:Bind) n=>w30 n≤w30 b.name) bs ns→A2 (fun(b:Bind) p=>m30 p≤m30 b.body*B) bs ps→fT (mkB ts ns ps)≤fT bs*B
 | [],_,_,_,_,_=>by unfold mkB;rw[fT];exact Ag _
 | t::ts,_,_,_,.nil,.nil=>by unfold mkB;rw[fT];exact Ag _
 | t::ts,n::ns,p::ps,.mk s ty c::bs,.cons h1 h2,.cons h3 h4=>by
  unfold mkB;rw[fT,fT];have:=aHw u (ts:=ts) h2 h4;have h1:w30 n≤w30 s:=h1;have h3:m30 p≤m30 c*B:=h3;have h5:1+w30 s≤(1+w30 s)*B:=A7 _ u;rw[A1,A1];omega
section
variable {sb:Core→Str→Core→Core}{B:Nat}{T:Ty→Prop}{f n:Int}{nm:Str}{t:Ty}{ks:List Core}{bs:List Bind}{al:List Alt}{s:Str}{b:Core}
theorem aTa (J:1≤B) {l:List Alt}(h:∀a∈l,A2 (fun p q=>m30 q≤m30 p*B) [a.body] (cE sb s b a.vars [a.body]).2∧A2 NR a.vars (cE sb s b a.vars [a.body]).1):gY (l.map (kY sb s b))≤gY l*B:=by
 induction l with
 | nil=>exact Ag _
 | cons a l I=>
  obtain⟨af,an,anm,vs,u⟩:=a;obtain⟨g1,g2⟩:=h _ ζ;have:=I fun x hx=>h x (ω _ hx)
  have g1:A2 (fun p q=>m30 q≤m30 p*B) [u] (cE sb s b vs [u]).2:=g1;have g2:A2 NR vs (cE sb s b vs [u]).1:=g2;have g4:=aGu g2;have g3:m30 ((cE sb s b vs [u]).2.headD u)≤m30 u*B:=by
   cases hx:(cE sb s b vs [u]).2 with
   | nil=>rw[hx] at g1;cases g1
   | cons y l'=>
    rw[hx] at g1;cases g1 with
    | cons h _=>exact h
  have e:kY sb s b (Alt.mk af an anm vs u)=.mk af an anm (cE sb s b vs [u]).1 ((cE sb s b vs [u]).2.headD u):=rfl;rw[Am,e,gY,gY];have g5:1+w30 anm+(vs.map fun v=>1+w30 v).sum≤(1+w30 anm+(vs.map fun v=>1+w30 v).sum)*B:=A7 _ J;rw[A1,A1 (1+w30 anm+_)];omega
theorem aRe (N:1≤B) (Y:PK B T (gvN f nm bs) (ks++bs.map Bind.body) (cE sb s b (gvN f nm bs) (ks++bs.map Bind.body))) (ha:∀a∈al,PK B T a.vars [a.body] (cE sb s b a.vars [a.body]))
  (h0:T t) (hb:∀x∈bs,T x.ty) (Z:f=5∨f=6∨f=7→(∃k,ks=[k])∧bs=[]∧al=[]) (w0:f=1→ks=[]∧bs=[]∧al=[]):
  wfC (oL sb s b (.mk f n nm t ks bs al))=true∧allT T (oL sb s b (.mk f n nm t ks bs al))∧m30 (oL sb s b (.mk f n nm t ks bs al))≤m30 (.mk f n nm t ks bs al)*B:=by
 have hN:∀a∈al,wfC (kY sb s b a).body=true∧allT T (kY sb s b a).body:=fun a ha'=>by
  show wfC ((cE sb s b a.vars [a.body]).2.headD a.body)=true∧allT T ((cE sb s b a.vars [a.body]).2.headD a.body);obtain⟨y,u⟩:=Bm.1 (ha a ha').len2;rw[u];exact(ha a ha').wf y (by rw[u];exact ε.2 rfl)
 have e4:gY (al.map (kY sb s b))≤gY al*B:=aTa N fun a ha'=>⟨(ha a ha').sm,(ha a ha').nm⟩
 rw[oL];unfold zNm zKs zBs;generalize cE sb s b (gvN f nm bs) (ks++bs.map Bind.body)=r at Y ⊢;obtain⟨r1,O⟩:=r;obtain⟨l1,l2,I,q1,J⟩:=Y;dsimp only at *;refine⟨aU3 (fun hf=>?_) (fun hf=>?_) (fun x hx=>(I x (Bb hx)).1) (fun x hx=>(I _ (B0 (lC hx).1)).1) (fun x hx=>?_),?_,?_⟩
 ·obtain⟨⟨y,rfl⟩,rfl,rfl⟩:=Z hf;obtain⟨y',rfl⟩:=Bm.1 (show O.length=1 from l2);exact⟨⟨y',rfl⟩,rfl,rfl⟩
 ·obtain⟨rfl,rfl,rfl⟩:=w0 hf;exact⟨rfl,rfl,rfl⟩
 ·obtain⟨a,ha',rfl⟩:=Af.1 hx;exact(hN a ha').1
 ·rw[allT];refine⟨h0,vI.2 fun x hx=>(I x (Bb hx)).2,nK.2 fun x hx=>?_,nL.2 fun x hx=>?_⟩
  ·obtain⟨h1,h2⟩:=lC hx;obtain⟨y,u,hyt⟩:=Af.1 h2;exact⟨by rw[←hyt];exact hb y u,(I _ (B0 h1)).2⟩
  ·obtain⟨a,ha',rfl⟩:=Af.1 hx;exact(hN a ha').2
 ·rw[m30,m30];have e1:w30 (if f=5 then r1.headD nm else nm)≤w30 nm:=by
   split
   ·rename_i hf;unfold gvN at J;rw[ξ hf] at J;cases J with
    | cons h _=>exact h.w
   ·exact le_refl _
  have e2:dA (O.take ks.length)≤dA ks*B:=by
   have:=(q1.take ks.length)
   rw[take_left] at this;exact aH2 this
  have e3:fT (mkB (bs.map Bind.ty) r1 (O.drop ks.length))≤fT bs*B:=by
   by_cases hf:f=5
   ·obtain⟨_,rfl,_⟩:=Z (.inl hf);show fT (mkB [] _ _)≤_;unfold mkB;rw[fT];exact Ag _
   ·have h4:=J;unfold gvN at h4;rw[φ hf,A0] at h4;have h5:=q1.drop ks.length;rw[drop_left] at h5;exact aHw N (A2.mapL (A2.mono (fun a b h=>h.w) h4)) (A2.mapL h5)
  have e5:1+w30 nm≤(1+w30 nm)*B:=A7 _ N;rw[A1,A1,A1];omega
end
abbrev Loc:Type:=Int→Str→Ty→Nat→List (Str×Ty)→List (Str×List Str)→Prop
def bhd (b:Bind):Str×Ty:=(b.name,b.ty)
def ahd (a:Alt):Str×List Str:=(a.name,a.vars)
mutual
def eJ (q:Loc):Core→Prop
 | .mk f _ s t ks bs al=>q f s t ks.length (bs.map bhd) (al.map ahd)∧w7 q ks∧w8 q bs∧w9 q al
def w7 (q:Loc):List Core→Prop
 | []=>True
 | c::l=>eJ q c∧w7 q l
def w8 (q:Loc):List Bind→Prop
 | []=>True
 | .mk _ _ c::l=>eJ q c∧w8 q l
def w9 (q:Loc):List Alt→Prop
 | []=>True
 | .mk _ _ _ _ c::l=>eJ q c∧w9 q l
end
theorem aDn {q:Loc}:∀{l:List Core},w7 q l↔∀x∈l,eJ q x
 | []=>by simp[w7]
 | c::l=>by rw[w7,aDn (l:=l)];simp
theorem aDo {q:Loc}:∀{l:List Bind},w8 q l↔∀x∈l,eJ q x.body
 | []=>by simp[w8]
 | .mk s t c::l=>by rw[w8,aDo (l:=l)];simp[Bind.body]
theorem aDp {q:Loc}:∀{l:List Alt},w9 q l↔∀x∈l,eJ q x.body
 | []=>by simp[w9]
 | .mk f n s v c::l=>by rw[w9,aDp (l:=l)];simp[Alt.body]
theorem bB {q:Loc}{f n:Int}{s:Str}{t:Ty}{ks:List Core}{bs:List Bind}{al:List Alt}:
  eJ q (.mk f n s t ks bs al)↔q f s t ks.length (bs.map bhd) (al.map ahd)∧(∀x∈ks,eJ q x)∧(∀x∈bs,eJ q x.body)∧∀x∈al,eJ q x.body:=by
 rw[eJ,aDn,aDo,aDp]
def okF (f:Int) (nk nb na:Nat):Bool:=
 if f=4∨f=10 then decide (nk=2∧nb=0∧na=0)
 else if f=5∨f=6∨f=7 then decide (nk=1∧nb=0∧na=0)
 else if f=8 then decide (nk=1∧na=0)
 else if f=9 then decide (nk=1∧nb=0)
 else decide (nk=0∧nb=0∧na=0)
def lw (s:Str) (bh:List (Str×Ty)) (ah:List (Str×List Str)):Nat:=
 1+w30 s+(bh.map fun p=>1+w30 p.1).sum+(ah.map fun p=>1+w30 p.1+(p.2.map fun v=>1+w30 v).sum).sum
theorem aKh (n:Nat):¬bK n=[]:=by unfold bK;split<;>simp
theorem zQ (l:List Str):¬bA l=[]:=aKh _
def QL (X:Nat):Loc:=fun f s t nk bh ah=>okF f nk bh.length ah.length=true∧(f=7→t=zTy∧¬s=[])∧wfS t=true∧(∀p∈bh,wfS p.2=true)∧lw s bh ah≤X∧(f=5→nh s)∧(∀p∈bh,nh p.1)∧∀p∈ah,∀v∈p.2,nh v
theorem aN6 {f:Int}{nk nb u:Nat}(h:okF f nk nb u=true):(f=5∨f=6∨f=7→nk=1∧nb=0∧u=0)∧(f=1→nk=0∧nb=0∧u=0):=by
 unfold okF at h;refine⟨fun hf=>?_,fun hf=>?_⟩
 ·rw[φ (by omega),ξ hf] at h;exact ψ h
 ·rw[φ (by omega),φ (by omega),φ (by omega),φ (by omega)] at h;exact ψ h
section
variable {X:Nat}{f n:Int}{s:Str}{t:Ty}{ks:List Core}{bs:List Bind}{al:List Alt}
theorem dR (h:eJ (QL X) (.mk f n s t ks bs al)) (hf:f=5∨f=6∨f=7):(∃k,ks=[k])∧bs=[]∧al=[]:=by
 obtain⟨h1,_⟩:=bB.1 h;obtain⟨g1,g2,g3⟩:=(aN6 h1.1).1 hf;rw[θ] at g2 g3;exact⟨Bm.1 g1,Bv.1 g2,Bv.1 g3⟩
theorem vM (h:eJ (QL X) (.mk f n s t ks bs al)) (hf:f=1):ks=[]∧bs=[]∧al=[]:=by
 obtain⟨h1,_⟩:=bB.1 h;obtain⟨g1,g2,g3⟩:=(aN6 h1.1).2 hf;rw[θ] at g2 g3;exact⟨Bv.1 g1,Bv.1 g2,Bv.1 g3⟩
end
mutual
theorem aDu {X:Nat}:∀c:Core,eJ (QL X) c→wfC c=true
 | .mk f n s t ks bs al,h=>by
  obtain⟨h1,h2,h3,h4⟩:=bB.1 h;exact aU3 (fun hf=>dR h hf) (fun hf=>vM h hf) (fun x hx=>aRq ks h2 x hx) (fun x hx=>aRr bs h3 x hx) (fun x hx=>aRs al h4 x hx)
theorem aRq {X:Nat}:∀l:List Core,(∀x∈l,eJ (QL X) x)→∀x∈l,wfC x=true
 | c::l,h,x,hx=>by
  rcases Ap.1 hx with e | hx
  ·rw[e];exact aDu c (h _ ζ)
  ·exact aRq l (fun x hx=>h x (ω _ hx)) x hx
theorem aRr {X:Nat}:∀l:List Bind,(∀x∈l,eJ (QL X) x.body)→∀x∈l,wfC x.body=true
 | .mk s t c::l,h,x,hx=>by
  rcases Ap.1 hx with e | hx
  ·rw[e];exact aDu c (h _ ζ)
  ·exact aRr l (fun x hx=>h x (ω _ hx)) x hx
theorem aRs {X:Nat}:∀l:List Alt,(∀x∈l,eJ (QL X) x.body)→∀x∈l,wfC x.body=true
 | .mk f n s v c::l,h,x,hx=>by
  rcases Ap.1 hx with e | hx
  ·rw[e];exact aDu c (h _ ζ)
  ·exact aRs l (fun x hx=>h x (ω _ hx)) x hx
end
theorem zE {o:List Str}{x y:Str}:y∈r8 o x↔y∈o∨y=x:=by
 unfold r8;split
 ·rename_i h;exact⟨.inl,fun u=>u.elim id fun e=>by rw[e];exact h⟩
 ·rw[τ,ε]
theorem nW {y:Str}:∀{l o:List Str},y∈lQ o l↔y∈o∨y∈l
 | [],o=>by simp[lQ]
 | x::l,o=>by
  show y∈lQ (r8 o x) l↔_;rw[nW (l:=l),zE,Ap,or_assoc]
theorem aGd {f:Int}{s y:Str}:∀{l o:List Str},y∈aA1 f s o l↔y∈o∨(y∈l∧(¬f=7∨¬y=s))
 | [],o=>by simp[aA1]
 | x::l,o=>by
  show y∈aA1 f s (oO f s o x) l↔_;rw[aGd (l:=l)];unfold oO;split
  ·rename_i h;rw[nW,ε,Ap];constructor
   ·rintro((h1 | h1) | h1)
    ·exact .inl h1
    ·exact .inr ⟨.inl h1,by rw[h1];exact h⟩
    ·exact .inr ⟨.inr h1.1,h1.2⟩
   ·rintro(h1 | ⟨h1 | h1,h2⟩)
    ·exact .inl (.inl h1)
    ·exact .inl (.inr h1)
    ·exact .inr ⟨h1,h2⟩
  ·rename_i h;rw[Ap];constructor
   ·rintro(h1 | h1)
    ·exact .inl h1
    ·exact .inr ⟨.inr h1.1,h1.2⟩
   ·rintro(h1 | ⟨h1 | h1,h2⟩)
    ·exact .inl h1
    ·exact absurd (by rw[←h1];exact h2) h
    ·exact .inr ⟨h1,h2⟩
theorem aGb {f:Int}{s y:Str}:∀{l:List Core}{o:List Str},y∈j4 f s l o↔y∈o∨∃k∈l,y∈tyR k∧(¬f=7∨¬y=s)
 | [],o=>by rw[j4];simp
 | c::l,o=>by
  rw[j4,aGb (l:=l),aGd,or_assoc];simp
theorem aGe {y:Str}:∀{l:List Bind}{o:List Str},y∈j5 l o↔y∈o∨∃b∈l,y∈tfR b.ty∨y∈tyR b.body
 | [],o=>by rw[j5];simp
 | .mk s t c::l,o=>by
  rw[j5,aGe (l:=l),nW,nW];simp only[Ap,exists_eq_or_imp,Bind.ty,Bind.body,or_assoc]
theorem aGf {y:Str}:∀{l:List Alt}{o:List Str},y∈kD l o↔y∈o∨∃a∈l,y∈tyR a.body
 | [],o=>by rw[kD];simp
 | .mk f n s v c::l,o=>by
  rw[kD,aGf (l:=l),nW];simp only[Ap,exists_eq_or_imp,Alt.body,or_assoc]
theorem bU {f n:Int}{s:Str}{t:Ty}{ks:List Core}{bs:List Bind}{al:List Alt}{y:Str}:
  y∈tyR (.mk f n s t ks bs al)↔y∈tfR t∨(∃k∈ks,y∈tyR k∧(¬f=7∨¬y=s))∨(∃b∈bs,y∈tfR b.ty∨y∈tyR b.body)∨∃a∈al,y∈tyR a.body:=by
 rw[tyR,aGf,aGe,aGb,nW];simp[or_assoc]
theorem r7:∀{l o:List Str},o.Nodup→(lQ o l).Nodup
 | [],_,h=>h
 | x::l,o,h=>r7 (l:=l) (o:=r8 o x) (aOb h)
theorem aLq {f:Int}{s:Str}:∀{l o:List Str},o.Nodup→(aA1 f s o l).Nodup
 | [],_,h=>h
 | x::l,o,h=>aLq (l:=l) (o:=oO f s o x) (by unfold oO;split;exact r7 h;exact h)
theorem aLo {f:Int}{s:Str}:∀{l:List Core}{o:List Str},o.Nodup→(j4 f s l o).Nodup
 | [],o,h=>by rw[j4];exact h
 | c::l,o,h=>by rw[j4];exact aLo (aLq h)
theorem aLs:∀{l:List Bind}{o:List Str},o.Nodup→(j5 l o).Nodup
 | [],o,h=>by rw[j5];exact h
 | .mk s t c::l,o,h=>by rw[j5];exact aLs (r7 (r7 h))
theorem aLt:∀{l:List Alt}{o:List Str},o.Nodup→(kD l o).Nodup
 | [],o,h=>by rw[kD];exact h
 | .mk f n s v c::l,o,h=>by rw[kD];exact aLt (r7 h)
theorem aXk (c:Core):(tyR c).Nodup:=by
 obtain⟨f,n,s,t,ks,bs,al⟩:=c;rw[tyR];exact aLt (aLs (aLo (r7 nodup_nil)))
theorem dL {a:List Str}{c:Core}(h:∀x∈tyR c,x∈a):(tyR c).length≤a.length:=iA _ _ (aXk c) h
mutual
def tlC:Core→Nat
 | .mk f _ _ _ ks bs al=>(if f=7 then 1 else 0)+max (jW ks) (max (qL bs) (pA al))
def jW:List Core→Nat
 | []=>0
 | c::l=>max (tlC c) (jW l)
def qL:List Bind→Nat
 | []=>0
 | .mk _ _ c::l=>max (tlC c) (qL l)
def pA:List Alt→Nat
 | []=>0
 | .mk _ _ _ _ c::l=>max (tlC c) (pA l)
end
theorem aD7 {K:Nat}:∀{l:List Core},jW l≤K↔∀x∈l,tlC x≤K
 | []=>by simp[jW]
 | c::l=>by rw[jW,max_le,aD7 (l:=l)];simp
theorem aD8 {K:Nat}:∀{l:List Bind},qL l≤K↔∀x∈l,tlC x.body≤K
 | []=>by simp[qL]
 | .mk s t c::l=>by rw[qL,max_le,aD8 (l:=l)];simp[Bind.body]
theorem aD9 {K:Nat}:∀{l:List Alt},pA l≤K↔∀x∈l,tlC x.body≤K
 | []=>by simp[pA]
 | .mk f n s v c::l=>by rw[pA,max_le,aD9 (l:=l)];simp[Alt.body]
theorem aA6 {K:Nat}{f n:Int}{s:Str}{t:Ty}{ks:List Core}{bs:List Bind}{al:List Alt}:
  tlC (.mk f n s t ks bs al)≤(if f=7 then 1 else 0)+K↔(∀x∈ks,tlC x≤K)∧(∀x∈bs,tlC x.body≤K)∧∀x∈al,tlC x.body≤K:=by
 rw[tlC,Nat.add_le_add_iff_left,max_le,max_le,aD7,aD8,aD9]
theorem oH {f n:Int}{s:Str}{t:Ty}{ks:List Core}{bs:List Bind}{al:List Alt}:
  (∀x∈ks,tlC x+(if f=7 then 1 else 0)≤tlC (.mk f n s t ks bs al))∧(∀x∈bs,tlC x.body≤tlC (.mk f n s t ks bs al))∧∀x∈al,tlC x.body≤tlC (.mk f n s t ks bs al):=by
 have h:=(aA6 (K:=max (jW ks) (max (qL bs) (pA al))) (f:=f) (n:=n) (s:=s) (t:=t) (ks:=ks) (bs:=bs) (al:=al)).1 (by rw[tlC];exact le_refl _)
 rw[tlC];exact⟨fun x hx=>by have:=h.1 x hx;omega,fun x hx=>by have:=h.2.1 x hx;omega,fun x hx=>by have:=h.2.2 x hx;omega⟩
def Alg.k (A:Alg):Nat:=tW A zTy r0
mutual
def cw (A:Alg) (E:Nat):Core→(Str→Nat)→Nat
 | .mk f _ s t ks bs al,ρ=>max A.k (max (tW A t ρ) (max (cws A E ks (if f=7 then fP ρ s E else ρ)) (max (cwb A E bs ρ) (cwa A E al ρ))))
def cws (A:Alg) (E:Nat):List Core→(Str→Nat)→Nat
 | [],_=>0
 | c::l,ρ=>max (cw A E c ρ) (cws A E l ρ)
def cwb (A:Alg) (E:Nat):List Bind→(Str→Nat)→Nat
 | [],_=>0
 | .mk _ t c::l,ρ=>max (max (tW A t ρ) (cw A E c ρ)) (cwb A E l ρ)
def cwa (A:Alg) (E:Nat):List Alt→(Str→Nat)→Nat
 | [],_=>0
 | .mk _ _ _ _ c::l,ρ=>max (cw A E c ρ) (cwa A E l ρ)
end
section
variable {A:Alg}{E K:Nat}{ρ ρ':Str→Nat}
theorem aWq:∀{l:List Core},cws A E l ρ≤K↔∀x∈l,cw A E x ρ≤K
 | []=>by simp[cws]
 | c::l=>by rw[cws,max_le,aWq (l:=l)];simp
theorem aWr:∀{l:List Bind},cwb A E l ρ≤K↔∀x∈l,tW A x.ty ρ≤K∧cw A E x.body ρ≤K
 | []=>by simp[cwb]
 | .mk s t c::l=>by rw[cwb,max_le,max_le,aWr (l:=l)];simp[Bind.body,Bind.ty]
theorem aWs:∀{l:List Alt},cwa A E l ρ≤K↔∀x∈l,cw A E x.body ρ≤K
 | []=>by simp[cwa]
 | .mk f n s v c::l=>by rw[cwa,max_le,aWs (l:=l)];simp[Alt.body]
theorem dT {f n:Int}{s:Str}{t:Ty}{ks:List Core}{bs:List Bind}{al:List Alt}:
  cw A E (.mk f n s t ks bs al) ρ≤K↔A.k≤K∧tW A t ρ≤K∧(∀x∈ks,cw A E x (if f=7 then fP ρ s E else ρ)≤K)∧(∀x∈bs,tW A x.ty ρ≤K∧cw A E x.body ρ≤K)∧∀x∈al,cw A E x.body ρ≤K:=by
 rw[cw,max_le,max_le,max_le,max_le,aWq,aWr,aWs]
end
theorem a6u {A:Alg}{E:Nat}{ρ:Str→Nat}(c:Core):A.k≤cw A E c ρ:=by cases c;exact(dT.1 (le_refl _)).1
theorem nC {A:Alg}{E:Nat}:∀(k:Nat) (c:Core),aY c≤k→∀{ρ ρ':Str→Nat}{K:Nat},(∀x∈tyR c,ρ x=ρ' x)→cw A E c ρ'≤K→cw A E c ρ≤K
 | 0,c,h,_,_,_,_,_=>by have:=dX c;omega
 | k+1,.mk f n s t ks bs al,h,ρ,ρ',K,hx,O=>by
  obtain⟨I,J,N,_⟩:= @iW f n s t ks bs al;obtain⟨g0,g1,g2,g3,g4⟩:=dT.1 O;refine dT.2 ⟨g0,?_,fun x hm=>?_,fun x hm=>⟨?_,?_⟩,fun x hm=>?_⟩
  ·rw[j6 (tn t) t (le_refl _) fun y u=>hx y (bU.2 (.inl u))];exact g1
  ·refine nC k x (by have:=I x hm;omega) (fun y u=>?_) (g2 x hm);by_cases h7:f=7
   ·rw[ξ h7,ξ h7];unfold fP;by_cases e:y=s
    ·rw[ξ e,ξ e]
    ·rw[φ e,φ e];exact hx y (bU.2 (.inr (.inl ⟨x,hm,u,.inr e⟩)))
   ·rw[φ h7,φ h7];exact hx y (bU.2 (.inr (.inl ⟨x,hm,u,.inl h7⟩)))
  ·rw[j6 (tn x.ty) x.ty (le_refl _) fun y u=>hx y (bU.2 (.inr (.inr (.inl ⟨x,hm,.inl u⟩))))];exact(g3 x hm).1
  ·exact nC k x.body (by have:=J x hm;omega) (fun y u=>hx y (bU.2 (.inr (.inr (.inl ⟨x,hm,.inr u⟩))))) (g3 x hm).2
  ·exact nC k x.body (by have:=N x hm;omega) (fun y u=>hx y (bU.2 (.inr (.inr (.inr ⟨x,hm,u⟩))))) (g4 x hm)
theorem qB {A:Alg}{E:Nat}{c:Core}{ρ ρ':Str→Nat}(h:∀x∈tyR c,ρ x=ρ' x):cw A E c ρ=cw A E c ρ':=
 le_antisymm (nC _ c (le_refl _) h (le_refl _)) (nC _ c (le_refl _) (fun x hx=>(h x hx).symm) (le_refl _))
theorem sY {A:Alg}{E E':Nat}(u:E≤E'):∀(k:Nat) (c:Core),aY c≤k→∀{ρ ρ':Str→Nat}{K:Nat},(∀x,ρ x≤ρ' x)→cw A E' c ρ'≤K→cw A E c ρ≤K
 | 0,c,h,_,_,_,_,_=>by have:=dX c;omega
 | k+1,.mk f n s t ks bs al,h,ρ,ρ',K,hx,O=>by
  obtain⟨I,J,N,_⟩:= @iW f n s t ks bs al;obtain⟨g0,g1,g2,g3,g4⟩:=dT.1 O;refine dT.2 ⟨g0,le_trans (aEd t hx) g1,fun x hm=>?_,fun x hm=>⟨le_trans (aEd x.ty hx) (g3 x hm).1,?_⟩,fun x hm=>?_⟩
  ·refine sY u k x (by have:=I x hm;omega) (fun y=>?_) (g2 x hm);by_cases h7:f=7
   ·rw[ξ h7,ξ h7];unfold fP;split
    ·exact u
    ·exact hx y
   ·rw[φ h7,φ h7];exact hx y
  ·exact sY u k x.body (by have:=J x hm;omega) hx (g3 x hm).2
  ·exact sY u k x.body (by have:=N x hm;omega) hx (g4 x hm)
theorem lI {A:Alg}{E E':Nat}(u:E≤E') {c:Core}{ρ ρ':Str→Nat}(h:∀x,ρ x≤ρ' x):cw A E c ρ≤cw A E' c ρ':=sY u _ c (le_refl _) h (le_refl _)
set_option maxHeartbeats 4000000
structure CG (D M X:Nat) (c:Core):Prop where
 q:eJ (QL X) c
 dep:cw fH 0 c r0≤D
 sc:(tyR c).length+2*tlC c≤M
 sz:m30 c≤Big
section
variable {D M X:Nat}{f n:Int}{s:Str}{t:Ty}{ks:List Core}{bs:List Bind}{al:List Alt}
theorem a2q (p:Prop) [Decidable p]:(if p then fP r0 s 0 else r0)=r0:=by split;exact yM s;rfl
theorem CG.kid (h:CG D M X (.mk f n s t ks bs al)) {x:Core}(hx:x∈ks):CG D M X x∧((tyR x).length+2*tlC x+(if f=7 then 1 else 0)≤M)∧m30 x<m30 (.mk f n s t ks bs al):=by
 obtain⟨h1,h2,h3,h4⟩:=h;have g:=fX hx;have gl:m30 x<m30 (.mk f n s t ks bs al):=by rw[m30];omega
 have g2:=(oH (f:=f) (n:=n) (s:=s) (t:=t) (ks:=ks) (bs:=bs) (al:=al)).1 x hx;have g3:=(dT.1 h2).2.2.1 x hx;rw[a2q] at g3;have g4:(tyR x).length≤(tyR (.mk f n s t ks bs al)).length+(if f=7 then 1 else 0):=by
  by_cases h7:f=7
  ·rw[ξ h7];refine dL (a:=s::tyR (.mk f n s t ks bs al)) fun y u=>?_
   by_cases e:y=s
   ·rw[e];exact ζ
   ·exact ω _ (bU.2 (.inr (.inl ⟨x,hx,u,.inr e⟩)))
  ·rw[φ h7];exact dL fun y u=>bU.2 (.inr (.inl ⟨x,hx,u,.inl h7⟩))
 have g5:(tyR x).length+2*tlC x+(if f=7 then 1 else 0)≤M:=by split at g2<;>split at g4<;>simp_all<;>omega
 exact⟨⟨(bB.1 h1).2.1 x hx,g3,by omega,by omega⟩,g5,gl⟩
theorem CG.bind (h:CG D M X (.mk f n s t ks bs al)) {x:Bind}(hx:x∈bs):CG D M X x.body∧m30 x.body<m30 (.mk f n s t ks bs al):=by
 obtain⟨h1,h2,h3,h4⟩:=h;have g:=nY hx;have gl:m30 x.body<m30 (.mk f n s t ks bs al):=by rw[m30];omega
 have g2:=(oH (f:=f) (n:=n) (s:=s) (t:=t) (ks:=ks) (bs:=bs) (al:=al)).2.1 x hx;have g4:(tyR x.body).length≤(tyR (.mk f n s t ks bs al)).length:=dL fun y u=>bU.2 (.inr (.inr (.inl ⟨x,hx,.inr u⟩)))
 exact⟨⟨(bB.1 h1).2.2.1 x hx,((dT.1 h2).2.2.2.1 x hx).2,by omega,by omega⟩,gl⟩
theorem CG.alt (h:CG D M X (.mk f n s t ks bs al)) {x:Alt}(hx:x∈al):CG D M X x.body∧m30 x.body<m30 (.mk f n s t ks bs al):=by
 obtain⟨h1,h2,h3,h4⟩:=h;have g:=fE hx;have gl:m30 x.body<m30 (.mk f n s t ks bs al):=by rw[m30];omega
 have g2:=(oH (f:=f) (n:=n) (s:=s) (t:=t) (ks:=ks) (bs:=bs) (al:=al)).2.2 x hx;have g4:(tyR x.body).length≤(tyR (.mk f n s t ks bs al)).length:=dL fun y u=>bU.2 (.inr (.inr (.inr ⟨x,hx,u⟩)))
 exact⟨⟨(bB.1 h1).2.2.2 x hx,(dT.1 h2).2.2.2.2 x hx,by omega,by omega⟩,gl⟩
theorem CG.ty (h:CG D M X (.mk f n s t ks bs al)):wfS t=true∧fvm t≤M+D∧∀b∈bs,wfS b.ty=true∧fvm b.ty≤M+D:=by
 obtain⟨h1,h2,h3,h4⟩:=h;obtain⟨⟨_,_,I,N,_⟩,_⟩:=bB.1 h1;obtain⟨_,Y,_,O,_⟩:=dT.1 h2;refine⟨I,?_,fun b hb=>?_⟩
 ·have g1:=uP (tn t) t (le_refl _) I;have g2:(tfR t).length≤(tyR (.mk f n s t ks bs al)).length:=iA _ _ (aEb t) fun y u=>bU.2 (.inl u)
  omega
 ·have J:=N (bhd b) (Af.2 ⟨b,hb,rfl⟩);have g1:=uP (tn b.ty) b.ty (le_refl _) J;have g2:(tfR b.ty).length≤(tyR (.mk f n s t ks bs al)).length:=iA _ _ (aEb b.ty) fun y u=>bU.2 (.inr (.inr (.inl ⟨b,hb,.inl u⟩)))
  have g3:=(O b hb).1
  exact⟨J,by omega⟩
end
theorem aLi {K:Nat}:∀{l:List Core},(∀x∈l,tyM x≤K)→aU7 l≤K
 | [],_=>by rw[aU7];exact Ag _
 | c::l,h=>by
  rw[aU7];have:=h c ζ;have:=aLi (l:=l) fun x hx=>h x (ω _ hx)
  omega
theorem aLj {K:Nat}:∀{l:List Bind},(∀x∈l,fw x.ty≤K∧tyM x.body≤K)→aLk l≤K
 | [],_=>by rw[aLk];exact Ag _
 | .mk s t c::l,h=>by
  rw[aLk];have h1:fw t≤K∧tyM c≤K:=h _ ζ;have:=aLj (l:=l) fun x hx=>h x (ω _ hx)
  omega
theorem aLl {K:Nat}:∀{l:List Alt},(∀x∈l,tyM x.body≤K)→aR8 l≤K
 | [],_=>by rw[aR8];exact Ag _
 | .mk f n s v c::l,h=>by
  rw[aR8];have h1:tyM c≤K:=h _ ζ;have:=aLl (l:=l) fun x hx=>h x (ω _ hx)
  omega
theorem CG.tyM {D M X:Nat}:∀(k:Nat) (c:Core),m30 c≤k→CG D M X c→tyM c≤M+D
 | 0,c,h,_=>by have:=dD c;omega
 | k+1,.mk f n s t ks bs al,h,hc=>by
  obtain⟨h1,h2,h3⟩:=hc.ty;have g1:=aWj h1;have g2:=hc.sc;have g3:=aLi (K:=M+D) (l:=ks) fun x hx=>CG.tyM k x (by have:=(hc.kid hx).2.2;omega) (hc.kid hx).1
  have g4:=aLj (K:=M+D) (l:=bs) fun x hx=>⟨le_trans (aWj (h3 x hx).1) (h3 x hx).2,CG.tyM k x.body (by have:=(hc.bind hx).2;omega) (hc.bind hx).1⟩
  have g5:=aLl (K:=M+D) (l:=al) fun x hx=>CG.tyM k x.body (by have:=(hc.alt hx).2;omega) (hc.alt hx).1
  rw[Go.Proofs.YtockgoadliilhaaGreatDoor.tyM];omega
theorem CG.allT {D M X:Nat}{p:Ty→Prop}(hp:∀t,wfS t=true→fvm t≤M+D→p t):∀(k:Nat) (c:Core),m30 c≤k→CG D M X c→allT p c
 | 0,c,h,_=>by have:=dD c;omega
 | k+1,.mk f n s t ks bs al,h,hc=>by
  obtain⟨h1,h2,h3⟩:=hc.ty;rw[Go.Proofs.YtockgoadliilhaaGreatDoor.allT]
  exact⟨hp t h1 h2,vI.2 fun x hx=>CG.allT hp k x (by have:=(hc.kid hx).2.2;omega) (hc.kid hx).1,
   nK.2 fun x hx=>⟨hp x.ty (h3 x hx).1 (h3 x hx).2,CG.allT hp k x.body (by have:=(hc.bind hx).2;omega) (hc.bind hx).1⟩,
   nL.2 fun x hx=>CG.allT hp k x.body (by have:=(hc.alt hx).2;omega) (hc.alt hx).1⟩
theorem CG.tyG {D M X:Nat}(u:dJ 540000000000) (I:M+D≤700000) {c:Core}(hc:CG D M X c):Go.Proofs.YtockgoadliilhaaGreatDoor.allT TyG c:=hc.allT (fun t h1 h2=>aQd u t h1 (by omega)) _ c (le_refl _)
theorem CG.types {D M X:Nat}(u:M+D≤700000) {c:Core}(hc:CG D M X c):aU Tryz.prog 74 [.pa (aB c)] [] (aV (tyR c)) []∧(tyR c).length≤700000:=by
 have h1:=hc.tyM _ c (le_refl _);have h2:=c8 c;have h3:=hc.sz;have h4:Big=250000000000:=rfl;exact⟨aCz _ c (le_refl _) (by omega) (by omega),by have:=hc.sc;omega⟩
noncomputable def sTR:Nat→Core→Str→Ty→Core
 | 0,c,_,_=>c
 | k+1,.mk f n nm t ks bs al,name,u=>
  if f=7∧(nm=name∨¬name∈tyR (.mk f n nm t ks bs al)) then .mk f n nm t ks bs al
  else if f=7∧nm∈tfR u then
   gE (fun t=>iD t [(name,u)]) (fun x=>sTR k x name u) (.mk f n (bA (tfR u++ks.flatMap tyR)) t (ks.map fun x=>sTR k x nm (vT (bA (tfR u++ks.flatMap tyR)))) bs al)
  else gE (fun t=>iD t [(name,u)]) (fun x=>sTR k x name u) (.mk f n nm t ks bs al)
structure UOk (u:Ty):Prop where
 wf:wfS u=true
 fv:fvm u≤700000
theorem UOk.ps {u:Ty}(h:UOk u) (name:Str):PsOk [(name,u)]:=⟨by simp,fun p hp=>by rw[ε.1 hp];exact⟨h.wf,h.fv⟩,by simp⟩
theorem UOk.var (z:Str):UOk (vT z):=⟨aLc,by unfold vT;rw[aPh];decide⟩
theorem tJ (ps:List (Str×Ty)):iD zTy ps=zTy:=aD3 (tn zTy) zTy (le_refl _) rfl ps fun p _ h=>by
 have:tfR zTy=[]:=rfl;rw[this] at h;cases h
theorem a45 (A:Alg) (ρ:Str→Nat) (name:Str) (u:Ty):aMt A ρ [(name,u)]=fP ρ name (tW A u ρ):=by
 funext x;unfold aMt fP;by_cases e:x=name
 ·rw[ξ e,Cn (by simp[e])]
 ·rw[φ e,Co (by simp;exact fun h=>e h.symm)];rfl
structure SB (X:Nat) (c:Core) (name:Str) (u:Ty) (r:Core):Prop where
 imp:aU Tryz.prog 31 [.pa (aB c),Go.AM.T name,tyV u] [] (.pa (aB r)) []
 q:eJ (QL X) r
 cw:∀(A:Alg) (E:Nat) (ρ:Str→Nat),cw A E r ρ≤cw A E c (fP ρ name (tW A u ρ))
 ty:∀x∈tyR r,x∈tyR c∨x∈tfR u
 tl:tlC r≤tlC c
 sz:m30 r≤m30 c
theorem zI {s s':Str}{J u:List (Str×Ty)}{N I:List (Str×List Str)}(hs:w30 s'≤w30 s) (hb:u.map (·.1)=J.map (·.1)) (ha:I=N):lw s' u I≤lw s J N:=by
 subst ha;unfold lw;have e:∀l:List (Str×Ty),(l.map fun p=>1+w30 p.1)=(l.map (·.1)).map fun x=>1+w30 x:=fun l=>by rw[A8];rfl
 rw[e J,e u,hb];omega
section
variable {X:Nat}{ts:Ty→Ty}{sb:Core→Core}{f n:Int}{nm nm1:Str}{t:Ty}{ks ks1:List Core}{bs:List Bind}{al:List Alt}
theorem aJl (h:QL X f nm t ks.length (bs.map bhd) (al.map ahd)) (hn:w30 nm1≤w30 nm) (N:f=5→nm1=nm) (O:f=7→¬nm1=[]) (hk:ks1.length=ks.length) (Z:ts zTy=zTy) (h0:wfS (ts t)=true) (hb:∀b∈bs,wfS (ts b.ty)=true)
  (h1:∀x∈ks1,eJ (QL X) (sb x)) (h2:∀b∈bs,eJ (QL X) (sb b.body)) (h3:∀a∈al,eJ (QL X) (sb a.body)):eJ (QL X) (gE ts sb (.mk f n nm1 t ks1 bs al)):=by
 obtain⟨g1,g2,g3,g4,g5,g6,g7,g8⟩:=h;rw[gE];have Y:(al.map fun a=>Alt.mk a.form a.n a.name a.vars (sb a.body)).map ahd=al.map ahd:=by rw[A8];rfl
 have eb:((bs.map fun b=>Bind.mk b.name (ts b.ty) (sb b.body)).map bhd).map (·.1)=(bs.map bhd).map (·.1):=by rw[A8,A8,A8];rfl
 refine bB.2 ⟨⟨?_,fun h7=>⟨by rw[(g2 h7).1];exact Z,O h7⟩,h0,fun p hp=>?_,le_trans (zI hn eb Y) g5,fun h5=>by rw[N h5];exact g6 h5,fun p hp=>?_,by rw[Y];exact g8⟩,fun x hx=>?_,fun x hx=>?_,fun x hx=>?_⟩
 ·rw[θ,θ,θ,θ,θ,hk];rw[θ,θ] at g1;exact g1
 ·obtain⟨b,hb',rfl⟩:=Af.1 hp;obtain⟨J,u,rfl⟩:=Af.1 hb';exact hb J u
 ·obtain⟨b,hb',rfl⟩:=Af.1 hp;obtain⟨J,u,rfl⟩:=Af.1 hb';exact g7 (bhd J) (Af.2 ⟨J,u,rfl⟩)
 ·obtain⟨y,I,rfl⟩:=Af.1 hx;exact h1 y I
 ·obtain⟨y,I,rfl⟩:=Af.1 hx;exact h2 y I
 ·obtain⟨y,I,rfl⟩:=Af.1 hx;exact h3 y I
theorem aGj (hf:tlC (.mk f n nm1 t ks1 bs al)≤tlC (.mk f n nm t ks bs al)) (h1:∀x∈ks1,tlC (sb x)≤tlC x) (h2:∀b∈bs,tlC (sb b.body)≤tlC b.body) (h3:∀a∈al,tlC (sb a.body)≤tlC a.body):
  tlC (gE ts sb (.mk f n nm1 t ks1 bs al))≤tlC (.mk f n nm t ks bs al):=by
 refine le_trans ?_ hf;rw[gE]
 conv=>rhs;rw[tlC]
 refine aA6.2 ⟨fun x hx=>?_,fun x hx=>?_,fun x hx=>?_⟩
 ·obtain⟨y,u,rfl⟩:=Af.1 hx;exact le_trans (h1 y u) (le_trans (aD7.1 (le_refl _) y u) (C8 ..))
 ·obtain⟨y,u,rfl⟩:=Af.1 hx;exact le_trans (h2 y u) (le_trans (aD8.1 (le_refl _) y u) (le_trans (C8 ..) (C2 ..)))
 ·obtain⟨y,u,rfl⟩:=Af.1 hx;exact le_trans (h3 y u) (le_trans (aD9.1 (le_refl _) y u) (le_trans (C2 ..) (C2 ..)))
end
theorem aA7 {z:Str}:tfR (vT z)=[z]:=by unfold vT;rw[tfR,ξ rfl]
theorem vW (hI:dJ 540000000000) {D M X:Nat}(hMD:M+D≤700000):∀(k:Nat) (c:Core),m30 c≤k→CG D M X c→∀(name:Str) (u:Ty),UOk u→SB X c name u (sTR k c name u):=by
 intro k
 induction k with
 | zero=>intro c h;have:=dD c;omega
 | succ k ih=>
 intro c h hc name u hu;have hTG:=hc.tyG hI hMD;obtain⟨hty,htl⟩:=hc.types hMD;have hcs:=c8 c;have hsz:=hc.sz;have hBig:Big=250000000000:=rfl;have hfr:=qF (tn u) u (le_refl _) hu.wf (le_trans hu.fv (by decide));have hfl:=j1 u;have hufv:=hu.fv;obtain⟨f,n,nm,t,ks,bs,al⟩:=c;obtain⟨ht0,ht1,Z⟩:=hc.ty;have hq:=hc.q;obtain⟨q1,q2,q3,q4⟩:=bB.1 hq;rw[sTR];have hps:=hu.ps name;have htt:∀v,wfS v=true→fvm v≤M+D→wfS (iD v [(name,u)])=true∧aU Tryz.prog 78 [tyV v,aV [name],.one (.c (.sl 4 [bD u]))] [] (tyV (iD v [(name,u)])) []:=fun v h1 h2=>aWv hI (tn v) v (le_refl _) h1 (by omega) _ hps
 have hcwt:∀v,wfS v=true→fvm v≤M+D→∀A ρ,tW A (iD v [(name,u)]) ρ≤tW A v (fP ρ name (tW A u ρ)):=fun v h1 h2 A ρ=>by
  have:=a0w A (tn v) v (le_refl _) h1 (by omega) _ hps ρ;rwa [a45] at this
 have htft:∀v,wfS v=true→∀x∈tfR (iD v [(name,u)]),x∈tfR v∨x∈tfR u:=fun v h1 x hx=>by
  rcases aLw (tn v) v (le_refl _) h1 _ x hx with h | ⟨p,hp,_,h⟩
  ·exact .inl h.1
  ·rw[ε.1 hp] at h;exact .inr h
 by_cases h7:f=7
 ·subst h7;obtain⟨⟨kid,rfl⟩,rfl,rfl⟩:=dR hq (.inr (.inr rfl));obtain⟨g1,g2,g3⟩:=hc.kid (x:=kid) ζ;rw[ξ rfl] at g2;obtain rfl:t=zTy:=(q1.2.1 rfl).1
  have hz0:tfR zTy=[]:=rfl;by_cases hs:nm=name∨¬name∈tyR (.mk 7 n nm zTy [kid] [] [])
  ·rw[ξ ⟨rfl,hs⟩];have hno:¬name∈tyR (.mk 7 n nm zTy [kid] [] []):=by
    rcases hs with rfl | hs
    ·intro hin;rcases bU.1 hin with h | ⟨x,_,_,h | h⟩ | ⟨b,hb,_⟩ | ⟨a,ha,_⟩
     ·rw[hz0] at h;cases h
     ·exact h rfl
     ·exact h rfl
     ·cases hb
     ·cases ha
    ·exact hs
   refine⟨aQi 7 n nm name zTy u [kid] [] [] (by omega) hTG rfl ?_,hq,fun A E ρ=>?_,fun x hx=>.inl hx,le_refl _,le_refl _⟩
   ·by_cases e:nm=name
    ·exact .inl e
    ·exact .inr ⟨e,_,hty,hno,by omega⟩
   ·refine le_of_eq (qB fun x hx=>?_);unfold fP;rw[φ fun e=>hno (by rw[←e];exact hx)]
  have hne:nm≠name:=fun e=>hs (.inl e)
  have hin:name∈tyR (.mk 7 n nm zTy [kid] [] []):=Classical.byContradiction fun e=>hs (.inr e)
  have hink:name∈tyR kid:=by
   rcases bU.1 hin with h | ⟨x,hx,h,_⟩ | ⟨b,hb,_⟩ | ⟨a,ha,_⟩
   ·rw[hz0] at h;cases h
   ·rw[←ε.1 hx];exact h
   ·cases hb
   ·cases ha
  rw[φ fun e=>hs e.2];obtain⟨hkty,hktl⟩:=g1.types hMD;have hend:∀(nm1:Str) (I:Core),w30 nm1≤w30 nm→CG D M X I→m30 I≤m30 kid→tlC I≤tlC kid→(∀x∈tyR I,x=nm1∨x∈tyR kid∨x∈tfR u)→(∀x∈tyR I,x=nm→nm1=nm∨nm∈tfR u)→¬nm1∈tfR u→¬nm1=[]→
    (∀(A:Alg) (E:Nat) (ρ:Str→Nat),cw A E I (fP (fP ρ nm1 E) name (tW A u ρ))≤cw A E kid (fP (fP ρ name (tW A u ρ)) nm E))→
    aU Tryz.prog 75 [.one (.vp 700 0),aV (tfR u)] (gHl 7 n nm zTy [kid] [] []) (.tup []) (gHl 7 n nm1 zTy [I] [] [])→
    SB X (.mk 7 n nm zTy [kid] [] []) name u (gE (fun t=>iD t [(name,u)]) (fun x=>sTR k x name u) (.mk 7 n nm1 zTy [I] [] [])):=fun nm1 I hw hk1 hkm hkt hkx hky hno hn1 hkc himp=>by
   have hS:=ih I (by omega) hk1 name u hu;refine⟨aCt 7 n nm nm1 name zTy u [kid] [I] [] [] (fun t=>iD t [(name,u)]) (fun x=>sTR k x name u) (by omega) hTG rfl (fun _=>⟨hne,rfl,rfl,_,_,hty,hin,by omega,hfr,himp⟩) (fun e=>absurd rfl e) (fun v hv=>?_) (fun x hx=>?_),?_,fun A E ρ=>?_,fun x hx=>?_,?_,?_⟩
   ·rcases hv with rfl | ⟨b,hb,_⟩
    ·exact(htt zTy rfl ht1).2
    ·cases hb
   ·rcases hx with hx | ⟨b,hb,_⟩ | ⟨a,ha,_⟩
    ·rw[ε.1 hx];exact hS.imp
    ·cases hb
    ·cases ha
   ·exact aJl (ks:=[kid]) (nm:=nm) q1 hw (fun e=>absurd e (by decide)) (fun _=>hn1) rfl (tJ _) (by rw[tJ];rfl) (fun b hb=>by cases hb) (fun x hx=>by rw[ε.1 hx];exact hS.q) (fun b hb=>by cases hb) (fun a ha=>by cases ha)
   ·rw[gE];obtain⟨c0,c1,c2,_,_⟩:=dT.1 (le_refl (cw A E (.mk 7 n nm zTy [kid] [] []) (fP ρ name (tW A u ρ))));refine dT.2 ⟨c0,by rw[tJ];exact le_trans (le_of_eq (j6 (tn zTy) zTy (le_refl _) fun x hx=>by rw[hz0] at hx;cases hx)) c1,fun x hx=>?_,fun b hb=>(by cases hb),fun a ha=>(by cases ha)⟩;obtain⟨y,J,rfl⟩:=Af.1 hx;rw[ε.1 J,ξ rfl];have c2:=c2 kid ζ;rw[ξ rfl] at c2;refine le_trans (hS.cw A E (fP ρ nm1 E)) (le_trans ?_ c2);have e:tW A u (fP ρ nm1 E)=tW A u ρ:=j6 (tn u) u (le_refl _) fun y J=>by
     unfold fP;rw[φ fun e=>hno (by rw[←e];exact J)]
    rw[e];exact hkc A E ρ
   ·rw[gE] at hx;rcases bU.1 hx with h | ⟨y,J,h,hne'⟩ | ⟨b,hb,_⟩ | ⟨a,ha,_⟩
    ·rw[tJ,hz0] at h;cases h
    ·obtain⟨Y,N,rfl⟩:=Af.1 J;rw[ε.1 N] at h;have hne':¬x=nm1:=hne'.resolve_left (fun e=>e rfl);rcases hS.ty x h with h | h
     ·rcases hkx x h with h' | h' | h'
      ·exact absurd h' hne'
      ·by_cases e:x=nm
       ·rcases hky x h e with e2 | e2
        ·exact absurd (e.trans e2.symm) hne'
        ·exact .inr (by rw[e];exact e2)
       ·exact .inl (bU.2 (.inr (.inl ⟨kid,ζ,h',.inr e⟩)))
      ·exact .inr h'
     ·exact .inr h
    ·cases hb
    ·cases ha
   ·refine aGj ?_ (fun x hx=>by rw[ε.1 hx];exact hS.tl) (fun b hb=>by cases hb) (fun a ha=>by cases ha);rw[tlC,tlC,jW,jW,jW,jW];omega
   ·exact aOr hw (by rw[dA,dA,dA,dA];omega) (fun x hx=>by rw[ε.1 hx];exact hS.sz) (fun b hb=>by cases hb) (fun a ha=>by cases ha)
  by_cases hnf:nm∈tfR u
  ·rw[ξ ⟨rfl,hnf⟩];have efm:[kid].flatMap tyR=tyR kid:=by simp
   rw[efm,Am,Bo];have hzo:=nZ (tfR u++tyR kid);have hz30:(bA (tfR u++tyR kid)).length≤30:=kH _ (by rw[κ];omega);have hzn:=zQ (tfR u++tyR kid);generalize hze:bA (tfR u++tyR kid)=z at hzo hz30 hzn;have O:=ih kid (by omega) g1 nm (vT z) (UOk.var z);have hkid1:CG D M X (sTR k kid nm (vT z)):=by
    refine⟨O.q,?_,?_,le_trans O.sz g1.sz⟩
    ·have:=O.cw fH 0 r0;have e:tW fH (vT z) r0=0:=rfl;rw[e,yM] at this;exact le_trans this g1.dep
    ·have h1:=dL (a:=z::tyR kid) (c:=sTR k kid nm (vT z)) fun x hx=>by
      rcases O.ty x hx with h | h
      ·exact ω _ h
      ·rw[aA7] at h;rw[ε.1 h];exact ζ
     rw[Ac] at h1;have h2:=O.tl;omega
   have hcl:=aI3 n nm zTy kid (sTR k kid nm (vT z)) (tfR u) (by omega) hnf hI hkty (by omega) (by rw[hze];exact O.imp);rw[hze] at hcl;refine hend z _ (aJo hz30) hkid1 O.sz O.tl (fun x hx=>?_) (fun _ _ _=>.inr hnf) (fun h=>hzo (τ.2 (.inl h))) hzn (fun A E ρ=>?_) hcl
   ·rcases O.ty x hx with h | h
    ·exact .inr (.inl h)
    ·rw[aA7] at h;exact .inl (ε.1 h)
   ·refine le_trans (O.cw A E _) (le_of_eq (qB fun x hx=>?_));have hzn:¬z=name:=fun e=>hzo (by rw[e];exact τ.2 (.inr hink))
    have e:tW A (vT z) (fP (fP ρ z E) name (tW A u ρ))=E:=by
     unfold vT;rw[tW,ξ rfl];unfold fP;rw[φ hzn,ξ rfl]
    rw[e];unfold fP;by_cases e1:x=nm
    ·rw[ξ e1,ξ e1]
    ·rw[φ e1,φ e1];by_cases e2:x=name
     ·rw[ξ e2,ξ e2]
     ·rw[φ e2,φ e2,φ fun e3=>hzo (by rw[←e3];exact τ.2 (.inr hx))]
  ·rw[φ fun e=>hnf e.2];refine hend nm kid (le_refl _) g1 (le_refl _) (le_refl _) (fun x hx=>.inr (.inl hx)) (fun _ _ _=>.inl rfl) hnf (q1.2.1 rfl).2 (fun A E ρ=>?_) (aI4 n nm zTy kid (tfR u) (by omega) hnf);refine le_of_eq (qB fun x _=>?_);unfold fP;by_cases e1:x=nm
   ·rw[ξ e1,ξ e1,φ fun e2=>hne (e1.symm.trans e2)]
   ·rw[φ e1,φ e1]
 ·rw[φ fun e=>h7 e.1,φ fun e=>h7 e.1];have hk:∀x∈ks,SB X x name u (sTR k x name u):=fun x hx=>ih x (by have:=(hc.kid hx).2.2;omega) (hc.kid hx).1 name u hu
  have hb:∀x∈bs,SB X x.body name u (sTR k x.body name u):=fun x hx=>ih x.body (by have:=(hc.bind hx).2;omega) (hc.bind hx).1 name u hu
  have ha:∀x∈al,SB X x.body name u (sTR k x.body name u):=fun x hx=>ih x.body (by have:=(hc.alt hx).2;omega) (hc.alt hx).1 name u hu
  refine⟨aCt f n nm nm name t u ks ks bs al (fun t=>iD t [(name,u)]) (fun x=>sTR k x name u) (by omega) hTG rfl (fun e=>absurd e h7) (fun _=>⟨rfl,rfl⟩) (fun v hv=>?_) (fun x hx=>?_),?_,fun A E ρ=>?_,fun x hx=>?_,?_,?_⟩
  ·rcases hv with rfl | ⟨b,hb',rfl⟩
   ·exact(htt _ ht0 ht1).2
   ·exact(htt _ (Z b hb').1 (Z b hb').2).2
  ·rcases hx with hx | ⟨b,hb',rfl⟩ | ⟨a,ha',rfl⟩
   ·exact(hk x hx).imp
   ·exact(hb b hb').imp
   ·exact(ha a ha').imp
  ·exact aJl q1 (le_refl _) (fun _=>rfl) (fun e=>absurd e h7) rfl (tJ _) (htt t ht0 ht1).1 (fun b hb'=>(htt b.ty (Z b hb').1 (Z b hb').2).1) (fun x hx=>(hk x hx).q) (fun x hx=>(hb x hx).q) (fun x hx=>(ha x hx).q)
  ·rw[gE];obtain⟨c0,c1,c2,c3,c4⟩:=dT.1 (le_refl (cw A E (.mk f n nm t ks bs al) (fP ρ name (tW A u ρ))));refine dT.2 ⟨c0,le_trans (hcwt t ht0 ht1 A ρ) c1,fun x hx=>?_,fun x hx=>?_,fun x hx=>?_⟩
   ·obtain⟨y,J,rfl⟩:=Af.1 hx;have:=c2 y J;rw[φ h7] at this ⊢;exact le_trans ((hk y J).cw A E ρ) this
   ·obtain⟨y,J,rfl⟩:=Af.1 hx;exact⟨le_trans (hcwt y.ty (Z y J).1 (Z y J).2 A ρ) (c3 y J).1,le_trans ((hb y J).cw A E ρ) (c3 y J).2⟩
   ·obtain⟨y,J,rfl⟩:=Af.1 hx;exact le_trans ((ha y J).cw A E ρ) (c4 y J)
  ·rw[gE] at hx;rcases bU.1 hx with h | ⟨y,J,h,_⟩ | ⟨y,J,h⟩ | ⟨y,J,h⟩
   ·exact(htft t ht0 x h).imp (fun h=>bU.2 (.inl h)) id
   ·obtain⟨Y,N,rfl⟩:=Af.1 J;exact((hk Y N).ty x h).imp (fun h=>bU.2 (.inr (.inl ⟨Y,N,h,.inl h7⟩))) id
   ·obtain⟨Y,N,rfl⟩:=Af.1 J;rcases h with h | h
    ·exact(htft Y.ty (Z Y N).1 x h).imp (fun h=>bU.2 (.inr (.inr (.inl ⟨Y,N,.inl h⟩)))) id
    ·exact((hb Y N).ty x h).imp (fun h=>bU.2 (.inr (.inr (.inl ⟨Y,N,.inr h⟩)))) id
   ·obtain⟨Y,N,rfl⟩:=Af.1 J;exact((ha Y N).ty x h).imp (fun h=>bU.2 (.inr (.inr (.inr ⟨Y,N,h⟩)))) id
  ·exact aGj (le_refl _) (fun x hx=>(hk x hx).tl) (fun x hx=>(hb x hx).tl) (fun x hx=>(ha x hx).tl)
  ·exact aOr (le_refl _) (le_refl _) (fun x hx=>(hk x hx).sz) (fun x hx=>(hb x hx).sz) (fun x hx=>(ha x hx).sz)
theorem aJn (n:Nat):UInt8.ofNat (IntKind.u8.wrap ((48+n%10:Nat):Int)).toNat=UInt8.ofNat (48+n%10):=by
 have h:n%10<10:=Nat.mod_lt _ (by omega);have:IntKind.u8.wrap ((48+n%10:Nat):Int)=((48+n%10:Nat):Int):=by
  simp[IntKind.wrap,IntKind.signed,IntKind.bits];omega
 rw[this];rfl
theorem aW2 (n:Nat):n≤600000000000→aU Tryz.prog 45 [I .i64 (n:Int)] [] (Go.AM.T (Lib.decDigits n)) []:=by
 induction n using Nat.strongRecOn with
 | ind n N=>
  intro hn;refine bQ (n:=32) tok Tryz.func45 rfl rfl rfl ?_;refine sg rfl (a8 (agN [] rfl (a8 (sg rfl (aA rfl (fun hb=>?_) (fun hb=>?_))))))
  ·exfalso;have:((n%10:Nat):Int)<0:=by simpa using hb
   omega
  ·refine aD (a8 (agN [] rfl (AWp.sub (st2:=mk [(0,I .i64 (n:Int)),(4,Go.AM.T [UInt8.ofNat (48+n%10)])] []) (.list (fun i=>i) ⟨rfl,?_,trivial⟩ trivial rfl) ?_)))
   ·show some (V.one (R.c (C.str [UInt8.ofNat (IntKind.u8.wrap ((48+n%10:Nat):Int)).toNat])))=_;rw[aJn];rfl
   refine a8 (a8 (agF 3 [] rfl rfl rfl (aA rfl (fun hb=>?_) (fun hb=>?_))))
   ·have u:n<10:=by
     simp at hb;omega
    refine a8 (sg rfl (aA rfl (fun hb=>?_) (fun hb=>?_)))
    ·exfalso;have:(n:Int)<0:=by simpa using hb
     omega
    ·refine aD (sg rfl ?_);rw[Lib.decDigits,dif_pos u,Nat.mod_eq_of_lt u];exact aE (rtT (hc:=.refl))
   ·have J:¬n<10:=by
     intro u;simp at hb;omega
    have hc:=N (n/10) (by omega) (by omega);have hl:=rG (n/10) (by omega);have O:1000000000≤maxLen:=by decide
    refine aD (a8 (aI mixed (akN 2 [] rfl (kc hc ?_))));refine kz 3 rfl ?_;rw[Lib.decDigits,dif_neg J];exact aE (rtT (hc:=.refl))
theorem wrap_u8 (m:Nat) (h:m<256):IntKind.u8.wrap (m:Int)=(m:Int):=by
 simp[IntKind.wrap,IntKind.signed,IntKind.bits];omega
theorem xK (n:Nat) (hn:n≤600000000000):aU Tryz.prog 121 [I .i64 n] [] (Go.AM.T (bK n)) []:=by
 have hd:=aW2 (n/26) (by omega);have u:=rG (n/26) (by omega);have J:600000000000≤maxLen:=by decide
 refine bQ (n:=18) tok Tryz.func121 rfl rfl rfl ?_;refine sg rfl (a8 (agN [(4,.all)] rfl (AWp.sub (st2:=mk [(0,I .i64 (n:Int)),(3,Go.AM.T [UInt8.ofNat (97+n%26)])] []) (.list (fun i=>i) ⟨rfl,?_,trivial⟩ trivial rfl) ?_)))
 ·show some (V.one (R.c (C.str [UInt8.ofNat (IntKind.u8.wrap ((97+n%26:Nat):Int)).toNat])))=_;rw[wrap_u8 _ (by omega)];rfl
 refine a8 (sg rfl (aA rfl (fun hb=>?_) (fun hb=>?_)))
 ·have h:n<26:=by have:=ψ hb;omega
  unfold bK;rw[ξ h];exact sg rfl (aE rtT)
 ·have h:¬n<26:=by have:=χ hb;omega
  unfold bK;rw[φ h];refine aD (a8 (aI mixed (akN 3 [] rfl (kc hd ?_))));refine ak 2 [] rfl ?_ (hc:=by repeat (first | exact trivial | refine⟨by first | rfl | omega | (simp;omega),?_⟩));exact az (aE rtT)
theorem qJ (t:Ty) (hw:wfS t=true) (hd:tW fH t r0≤1000000) (hl:(tfR t).length≤1000000):aU Tryz.prog 86 [tyV t] [] (aV (tfR t)) []:=by
 have h0:=a6x (tn t) t (le_refl _) hw [] [] (tfR t) (by rw[length_nil];omega) (by omega) nodup_nil (fun x hx=>by cases hx) (fun x hx=>hx);rw[show inG []=fun _=>false from by funext x;simp[inG],uI (aEb t)] at h0;have h1:=aU.nilArg (pre:=[tyV t,aV []]) (post:=[]) (hin:=[]) h0 rfl;have h2:=h1.plain (by simp);refine bQ (n:=5) tok Tryz.func86 rfl rfl rfl ?_;refine sg rfl (sk 1 rfl (kc h2 ?_));exact kz 1 rfl (aE rtT)
theorem a7b (l:List Str) (s:Str) (h:l.length≤600000000000):aU Tryz.prog 141 [aV l,Go.AM.T s] [] (I .i64 (aAx s l 0)) []:=by
 refine bQ (n:=19) tok Tryz.func141 rfl rfl rfl ?_;refine sg rfl (a8 (sg rfl ?_));have J:(l.map b6).length=l.length:=θ _;refine aC (aK (fun i:Nat=>mk [(0,aV l),(1,Go.AM.T s),(5,I .i64 i)] []) (fun i=>i≤l.length∧aAx s l 0=aAx s (l.drop i) i) (fun i=>l.length-i) 0 ⟨Ag _,rfl⟩ sl ?_);intro i ⟨hi,he⟩;refine a8 (sg rfl (aA rfl (fun hb=>?_) (fun hb=>?_)))
 ·have u:=ltD hb J;obtain⟨x,hx⟩:=aJ u;have O:=bW b6 hx;have hd:l.drop i=x::l.drop (i+1):=by rw[Bu u,(Aa.1 hx).2]
  rw[hd,aAx] at he;refine aD (a8 (aC (sgh [(2,.row i (b6 x))] rfl (aA rfl (fun hb=>?_) (fun hb=>?_)))))
  ·have hs:x=s:=ψ hb;rw[ξ hs.symm] at he;rw[he];exact sg rfl (aE rtT)
  ·have hs:¬x=s:=χ hb;rw[φ fun h=>hs h.symm] at he;exact aD (ag [] rfl ⟨i+1,⟨u,he⟩,by dsimp only;omega,sl⟩)
 ·have N:=geD hb J hi;subst N;rw[C7,aAx] at he;rw[he];exact aL (sg rfl (aE rtT))
theorem aXi {nm:Str}{body:Ty}{ps:List (Str×Ty)}(h:∀p∈ps,tW fH p.2 r0≤1000000):∀p∈unP nm body ps,tW fH p.2 r0≤1000000:=fun p hp=>by
 have h4:∀p∈unF nm body ps,tW fH p.2 r0≤1000000:=fun p hp=>h p (iF.1 hp).1
 unfold unP at hp;split at hp
 ·rcases τ.1 hp with hp | hp
  ·exact h4 p hp
  ·rw[ε.1 hp];show tW fH (.mk 2 0 _ []) r0≤_;rw[tW,ξ rfl];exact Ag _
 ·exact h4 p hp
theorem aZi:∀(k:Nat) (t:Ty),tn t≤k→wfS t=true→fvm t≤700000→tW fH t r0≤1000000→∀ps,PsOk ps→(∀p∈ps,tW fH p.2 r0≤1000000)→aU Tryz.prog 123 [tyV t,aV (ps.map (·.1)),aR0 (ps.map (·.2))] [] (tyV (iD t ps)) []:=by
 intro k
 induction k with
 | zero=>intro t h;have:=kJ t;omega
 | succ k ih=>
 intro t h hw hf hdp ps O Z;obtain⟨f,n,s,a⟩:=t;obtain⟨_,ab,w4,w5,w0⟩:=oE hw;have ac:∀u∈a,fvm u≤700000:=fun u hu=>le_trans (uQ hu) hf
 rw[tn] at h;rw[iD];have hk1:((ps.map (·.1)).map b6).length=ps.length:=by rw[θ,θ]
 have hk2:((ps.map (·.2)).map bD).length=ps.length:=by rw[θ,θ]
 refine bQ (n:=134) tok Tryz.func123 rfl rfl rfl ?_;refine sg rfl (a8 (sg rfl (aA rfl (fun hb=>?_) (fun hb=>?_))))
 ·have h2:f=2:=ψ hb;subst h2;rw[ξ rfl];have hix:=a7b (ps.map (·.1)) s (by rw[θ];have:=O.len;omega);refine sk 3 rfl (kc hix ?_);refine kz 1 rfl (a8 (sg rfl ?_));rcases rE s (ps.map (·.1)) 0 with⟨i,Y,e2⟩ | ⟨Y,e2⟩
  ·rw[A5] at e2;obtain⟨⟨s',u⟩,hu,e3⟩:=Bq.1 e2;have e3:s'=s:=e3;subst e3;have hm:=η hu;have hu':((ps.map (·.2)).map bD)[i]?=some (bD u):=bW bD (by rw[A5,hu];rfl);rw[aFa O.nd hm];dsimp only;rw[Int.zero_add] at Y;rw[Y];exact aA rfl (fun hb=>sgh [(2,.row i (bD u))] rfl (aE (rtC trw))) (fun hb=>absurd (χ hb) (by omega))
  ·rw[n5 Y];dsimp only;rw[e2];exact aA rfl (fun hb=>absurd (ψ hb) (by omega)) (fun hb=>aD (sg rfl (aE (rtC trw))))
 have h2:¬f=2:=χ hb;rw[φ h2];refine aD (a8 (sg rfl (aA rfl (fun hb=>?_) (fun hb=>?_))))
 ·have h4:f=4:=ψ hb;subst h4;obtain⟨rfl,rfl,u,v,rfl⟩:=w4 rfl;rw[tns,tns,tns] at h;have d1:=zZ (n:=0) (s:=[]) h2 (show u∈[u,v] by simp);have d2:=zZ (n:=0) (s:=[]) h2 (show v∈[u,v] by simp);have a4:=ih u (by omega) (ab u (by simp)) (ac u (by simp)) (by omega) ps O Z;have b4:=ih v (by omega) (ab v (by simp)) (ac v (by simp)) (by omega) ps O Z;rw[ξ rfl,fO,fO,fO];have cA:=aZv (iD u ps) (iD v ps);generalize iD u ps=u' at *;generalize iD v ps=v' at *;have cA:aU Tryz.prog 57 [tyV u',tyV v'] [] (tyV (.mk 4 0 [] [u',v'])) []:=cA;refine skh 6 [(2,.row 0 (bD u))] rfl (kc a4 ?_);refine ak 6 [(9,.row 1 (bD v))] rfl (kc b4 ?_);refine kc cA ?_;exact kz 1 rfl (aE (rtC trw))
 have h4:¬f=4:=χ hb;rw[φ h4];refine aD (a8 (sg rfl (aA rfl (fun hb=>?_) (fun hb=>?_))))
 ·have h5:¬f=5:=by
   have hb:(!decide (f=5))=true:=hb;simpa using hb
  rw[φ h5];exact sg rfl (aE (rtC trw))
 have h5:f=5:=by
  have hb:(!decide (f=5))=false:=hb;simpa using hb
 subst h5;obtain⟨rfl,body,rfl⟩:=w5 rfl;rw[tns,tns] at h;have hwb:=ab body (by simp);have ad:=ac body (by simp);have hdb:=zZ (n:=0) (s:=s) h2 (show body∈[body] by simp);have hP:=O.un s body ad;have hS:=ih body (by omega) hwb ad (by omega) (unP s body ps) hP (aXi Z);rw[ξ rfl];have hfr:=qJ body hwb (by omega) (le_trans (j1 body) (by omega));have hfl:(tfR body).length≤700000:=le_trans (j1 body) ad;have hpl:=O.len;have hql:∀l:List (Str×Ty),(∀p∈l,p∈ps)→l.length≤ps.length→(unF s body l).length≤700001∧(unC (unF s body l)).length≤540000000000:=fun l h1 h2=>by
  have h3:=pB (l:=unF s body l) fun p hp=>(O.ok p (h1 p (iF.1 hp).1)).2
  have h4:(unF s body l).length≤l.length:=length_filter_le _ _;have h6:(unF s body l).length*700000≤(700000+1)*700000:=Aw _ (by omega);have h7:(700000+1)*700000≤540000000000:=by decide
  exact⟨by omega,by omega⟩
 have hqi:=fun i=>hql (ps.take i) (fun p hp=>Bb hp) (by rw[Ar];omega)
 have hq:=hql ps (fun p hp=>hp) (le_refl _);refine aD (skh 4 [(2,.row 0 (bD body))] rfl (kc hfr ?_));refine kz 1 rfl (sg rfl (sg rfl (sg rfl (AWp.sub (Sub.own (t:=9) (id:=600) 9 1 rfl rfl) (AWp.sub (Sub.freeze (id:=600) rfl) ?_)))));refine AWp.sub (Sub.own (t:=10) (id:=601) 33 4 rfl rfl) (AWp.sub (Sub.freeze (id:=601) rfl) ?_);refine AWp.sub (Sub.own (t:=11) (id:=602) 9 1 rfl rfl) (AWp.sub (Sub.freeze (id:=602) rfl) ?_);refine a8 (sg rfl (aC ?_))
 refine aK (fun i:Nat=>mk [(1,aV (ps.map (·.1))),(2,aR0 (ps.map (·.2))),(3,.one (.vp 3 0)),(6,.one (.vp 6 0)),(8,aV (tfR body)),(9,.one (.hs 600 0 (unF s body (ps.take i)).length (unF s body (ps.take i)).length)),(10,.one (.hs 601 0 (unF s body (ps.take i)).length (unF s body (ps.take i)).length)),(11,.one (.hs 602 0 (unC (unF s body (ps.take i))).length (unC (unF s body (ps.take i))).length)),(12,I .i64 i)]
  [(600,.arr 9 1 (((unF s body (ps.take i)).map (·.1)).map b6) 2),(601,.arr 33 4 (((unF s body (ps.take i)).map (·.2)).map bD) 2),(602,.arr 9 1 ((unC (unF s body (ps.take i))).map b6) 2),(3,.var 33 ((bD (.mk 5 0 s [body])).map R.c)),(6,.var 33 [.c (.int .i64 0),.c (.int .i64 0),.c (.str []),.c .nl])]) (fun i=>i≤ps.length) (fun i=>ps.length-i) 0 (Ag _) sl ?_
 intro i hi;refine a8 (sg rfl (aA rfl (fun hb=>?_) (fun hb=>?_)))
 ·have aa:=ltD hb hk1;obtain⟨⟨x,u⟩,hu⟩:=aJ aa;have hum:=η hu;have hx':((ps.map (·.1)).map b6)[i]?=some (b6 x):=bW b6 (by rw[A5,hu];rfl);have hu':((ps.map (·.2)).map bD)[i]?=some (bD u):=bW bD (by rw[A5,hu];rfl);obtain⟨g2,g3⟩:=O.ok _ hum;have hul:(tfR u).length≤700000:=le_trans (j1 u) g3;have hfu:=qJ u g2 (Z _ hum) (by omega);have J:=aF2 (nm:=s) (body:=body) hu;have N:=kX (tfR body) x (by unfold Fits;omega);obtain⟨hq1,hq2⟩:=hqi i;have hqn:=hqi (i+1);generalize unF s body (ps.take i)=q at J hq1 hq2 ⊢;generalize tfR body=fb at N J ⊢;refine aD (a8 (aC ?_));by_cases h1:x=s
  ·have Y:(!decide (x=s))=false:=by rw[Ad h1];rfl
   dsimp only at J;rw[Y,Bool.false_and,φ (by decide)] at J;refine sgh [(2,.row i (b6 x)),(7,.bv false),(14,.bv false)] rfl (aA rfl nofun (fun _=>aD (ag [] rfl ⟨i+1,aa,by dsimp only;omega,?_⟩)));dsimp only;rw[J];exact sl
  have Y:(!decide (x=s))=true:=by rw[Ae h1];rfl
  dsimp only at J;rw[Y,Bool.true_and] at J;by_cases h3:x∈fb
  ·rw[Ad h3] at N;rw[ξ (Ad h3)] at J;rw[J] at hqn;have hcq:unC (q++[(x,u)])=unC q++tfR u:=by unfold unC;rw[Cj];simp
   rw[hcq,κ,κ] at hqn;have hk3:((q.map (·.1)).map b6).length=q.length:=by rw[θ,θ]
   have hk4:((q.map (·.2)).map bD).length=q.length:=by rw[θ,θ]
   have hk5:((unC q).map b6).length=(unC q).length:=θ _;have hk6:((tfR u).map b6).length=(tfR u).length:=θ _;refine skh 13 [(2,.row i (b6 x)),(7,.bv true),(11,.row i (b6 x))] rfl (kcG N ?_ (hw:=Y));refine ak 1 [(14,.bv true)] rfl (az (aA rfl (fun _=>sgh [(3,.row i (b6 x)),(5,.all)] rfl (AWp.sub (Sub.freeze (id:=600) rfl) ?_)) nofun));refine sgh [(3,.row i (bD u)),(5,.all)] rfl (AWp.sub (Sub.freeze (id:=601) rfl) ?_);refine aI mixed (ak 5 [(3,.row i (bD u))] rfl (kc hfu ?_));refine kz 2 rfl (AWp.sub (Sub.freeze (id:=602) rfl) ?_);refine ag [] rfl ⟨i+1,aa,by dsimp only;omega,?_⟩;dsimp only;rw[J,hcq];exact sl (he:=⟨rfl,rfl,rfl,rfl,rfl,Go.AM.hs_ren (by simp) (by simp),Go.AM.hs_ren (by simp) (by simp),Go.AM.hs_ren (by simp) (by simp),rfl,trivial⟩) (hh:=⟨⟨_,rfl,.arrS (by simp[b6])⟩,⟨_,rfl,.arrS (by simp;rfl)⟩,⟨_,rfl,.arrS (by simp)⟩,⟨_,rfl,.var rfl⟩,⟨_,rfl,.var rfl⟩,trivial⟩)
  ·rw[Ae h3] at N;rw[φ (by rw[Ae h3];decide)] at J;refine skh 13 [(2,.row i (b6 x)),(7,.bv true),(11,.row i (b6 x))] rfl (kcG N ?_ (hw:=Y));refine ak 1 [(14,.bv true)] rfl (az (aA rfl nofun (fun _=>aD (ag [] rfl ⟨i+1,aa,by dsimp only;omega,?_⟩))));dsimp only;rw[J];exact sl
 have hge:=geD hb hk1 hi;subst hge;rw[Al];have N:=kX (unC (unF s body ps)) s (by unfold Fits;omega);refine aL (sg rfl (a8 (AWp.cut (mk [(3,.one (.vp 3 0)),(6,.one (.vp 6 0)),(9,aV ((unP s body ps).map (·.1))),(10,aR0 ((unP s body ps).map (·.2))),(13,Go.AM.T (unN s body ps))] [(3,.var 33 ((bD (.mk 5 0 s [body])).map R.c)),(6,.var 33 [.c (.int .i64 0),.c (.int .i64 0),.c (.str []),.c .nl])]) ?_ ?_)))
 ·obtain⟨hq1,hq2⟩:=hq;have hk3:(((unF s body ps).map (·.1)).map b6).length=(unF s body ps).length:=by rw[θ,θ]
  have hk4:(((unF s body ps).map (·.2)).map bD).length=(unF s body ps).length:=by rw[θ,θ]
  by_cases h1:s∈unC (unF s body ps)
  ·have eN:unN s body ps=bK (eI (unC (unF s body ps)++tfR body)):=by unfold unN;rw[ξ h1];rfl
   have eP:unP s body ps=unF s body ps++[(s,.mk 2 0 (unN s body ps) [])]:=by unfold unP;rw[ξ h1]
   rw[Ad h1] at N;rw[eP,eN];have hL:(unC (unF s body ps)++tfR body).length≤550000000000:=by rw[κ];omega
   have hk5:((unC (unF s body ps)).map b6).length=(unC (unF s body ps)).length:=θ _;have hk6:((tfR body).map b6).length=(tfR body).length:=θ _;have hmp:(unC (unF s body ps)).map b6++(tfR body).map b6=(unC (unF s body ps)++tfR body).map b6:=At.symm;have hml:(unC (unF s body ps)++tfR body).length=(unC (unF s body ps)).length+(tfR body).length:=κ;generalize unF s body ps=q at *;refine sk 2 rfl (kc N ?_);refine az (aA rfl (fun _=>sg rfl (AWp.sub (Sub.freeze (id:=602) rfl) ?_)) nofun);refine sg rfl ?_;generalize hLe:unC q++tfR body=L at *;have hf:=mZ L
   refine a8 (aC (aK (fun n:Nat=>mk [(3,.one (.vp 3 0)),(6,.one (.vp 6 0)),(9,.one (.hs 600 0 q.length q.length)),(10,.one (.hs 601 0 q.length q.length)),(11,.one (.hs 602 0 L.length L.length)),(14,I .i64 n)]
    [(600,.arr 9 1 ((q.map (·.1)).map b6) 2),(601,.arr 33 4 ((q.map (·.2)).map bD) 2),(602,.arr 9 1 (L.map b6) 2),(3,.var 33 ((bD (.mk 5 0 s [body])).map R.c)),(6,.var 33 [.c (.int .i64 0),.c (.int .i64 0),.c (.str []),.c .nl])]) (fun n=>n≤eI L) (fun n=>eI L-n) 0 (Ag _) ?_ ?_))
   ·exact sl (he:=⟨rfl,rfl,rfl,rfl,Go.AM.hs_ren (by simp;omega) (by simp;omega),rfl,trivial⟩) (hh:=⟨⟨_,rfl,.arrS rfl⟩,⟨_,rfl,.arrS rfl⟩,⟨_,rfl,.arrS hmp⟩,⟨_,rfl,.var rfl⟩,⟨_,rfl,.var rfl⟩,trivial⟩)
   intro n hn;have hcl:=xK n (by omega);have hcn:=kX L (bK n) (by unfold Fits;omega);refine a8 (sk 2 rfl (kc hcl ?_));refine kc hcn ?_;refine az (aA rfl (fun hb=>?_) (fun hb=>?_))
   ·have hm:bK n∈L:=ψ hb;have hne:n≠eI L:=by rintro rfl;exact fY L hm
    refine aD (aC (ag [] rfl ?_ (hc:=by repeat (first | exact trivial | refine⟨by omega,?_⟩))));exact⟨n+1,by omega,by dsimp only;omega,sl⟩
   have hm:¬bK n∈L:=χ hb;have he:n=eI L:=by
    by_cases h:n<eI L
    ·exact absurd (iU L h) hm
    ·omega
   subst he;refine aL (sk 1 rfl (kc hcl ?_));refine kz 1 rfl (sgh [(3,.all)] rfl (AWp.sub (Sub.freeze (id:=600) rfl) ?_));refine ag [(3,.all)] rfl (Sub.trans ?_ (Sub.trans (cv 10 ((q++[(s,Ty.mk 2 0 (bK (eI L)) [])]).map (·.2) |>.map bD) (h3:=by simp;rfl)) (Sub.trans (Sub.freeze (id:=601) rfl) (cv 9 ((q++[(s,Ty.mk 2 0 (bK (eI L)) [])]).map (·.1) |>.map b6) (h3:=by simp;rfl)))));exact sl
  ·have eN:unN s body ps=s:=by unfold unN;rw[φ h1]
   have eP:unP s body ps=unF s body ps:=by unfold unP;rw[φ h1]
   rw[Ae h1] at N;rw[eP,eN];refine sk 2 rfl (kc N ?_);refine az (aA rfl nofun (fun _=>aD (Sub.trans ?_ (Sub.trans (cv 10 (((unF s body ps).map (·.2)).map bD)) (cv 9 (((unF s body ps).map (·.1)).map b6))))));exact sl
 refine skh 7 [(3,.row 0 (bD body))] rfl (kc hS ?_);refine ak 3 [(8,.all)] rfl (az ?_);rw[fO,fO];exact aE (rtC trw)
theorem nD:∀{l:List Core}{i:Nat}{c:Core},l[i]?=some c→bM (l.take i)+aY c+(l.length-(i+1))≤bM l
 | d::l,0,c,h=>by simp at h;subst h;rw[Bj,bM,bM,Ac];have:=iL l;omega
 | d::l,i+1,c,h=>by
  have:=nD (l:=l) (i:=i) (c:=c) (by simpa using h);rw[An,bM,bM,Ac];omega
theorem nF:∀{l:List Bind}{i:Nat}{c:Bind},l[i]?=some c→cB (l.take i)+bsize c+(l.length-(i+1))≤cB l
 | d::l,0,c,h=>by simp at h;subst h;rw[Bj,cB,cB,Ac];have:=gC l;omega
 | d::l,i+1,c,h=>by
  have:=nF (l:=l) (i:=i) (c:=c) (by simpa using h);rw[An,cB,cB,Ac];omega
theorem nJ:∀{l:List Alt}{i:Nat}{c:Alt},l[i]?=some c→bZ (l.take i)+lL c+(l.length-(i+1))≤bZ l
 | d::l,0,c,h=>by simp at h;subst h;rw[Bj,bZ,bZ,Ac];have:=iN l;omega
 | d::l,i+1,c,h=>by
  have:=nJ (l:=l) (i:=i) (c:=c) (by simpa using h);rw[An,bZ,bZ,Ac];omega
theorem aFz:∀l:List Str,l.length≤(l.map fun v=>1+v.length).sum
 | []=>Ag _
 | _::l=>by have:=aFz l;simp;omega
theorem aHh (G o l:List Str):pfP G o l=mg (inG G) o l:=by
 unfold pfP mg;congr 1;funext o x;unfold pfG mg1 r8 inG;by_cases h1:x∈G<;>by_cases h2:x∈o<;>simp[h1,h2]
theorem aOx (g l:List Str):inG (g++l)=fun x=>inG g x || inG l x:=by
 funext x;unfold inG;simp
theorem aB3 {G:Str→Bool}:∀{l o:List Str},(mg G o l).length≤o.length+l.length
 | [],_=>le_refl _
 | x::l,o=>by
  have h1:=aB3 (G:=G) (l:=l) (o:=mg1 G o x);have h2:(mg1 G o x).length≤o.length+1:=by
   unfold mg1;split
   ·simp
   ·omega
  show(mg G (mg1 G o x) l).length≤_;rw[Ac];omega
theorem aBz:∀{l:List Alt}{i:Nat}{a:Alt}{o:List Str},l[i]?=some a→jQ (l.take (i+1)) o=pfP a.vars (jQ (l.take i) o) (pfR a.body)
 | .mk f n s v c::l,0,a,o,h=>by
  simp at h;subst h;rw[An,Bj,Bj,jQ,jQ,jQ];rfl
 | .mk f n s v c::l,i+1,a,o,h=>by rw[An,An,jQ,jQ,aBz (l:=l) (i:=i) (by simpa using h)]
def aRx (c:Core):Prop:=∀g out:List Str,2*aY c+g.length+out.length≤2000000000000→aU Tryz.prog 119 [.pa (aB c),aV g,rV out] [(900,rO out)] (rV (mg (inG g) out (pfR c))) [(900,rO (mg (inG g) out (pfR c)))]
theorem aQs {X:Nat}(c:Core) (hq:eJ (QL X) c) (ih:∀x,aY x<aY c→eJ (QL X) x→aRx x):aRx c:=by
 intro g out hsz;obtain⟨f,n,s,t,ks,bs,al⟩:=c;obtain⟨⟨hok,_⟩,hqk,hqb,hqa⟩:=bB.1 hq;rw[θ,θ] at hok;have hG:al.length≠0→g++gvN f s bs=g:=fun h=>by
  have h9:f=9∧bs.length=0:=by
   unfold okF at hok;split at hok
   ·have:=ψ hok;omega
   ·split at hok
    ·have:=ψ hok;omega
    ·split at hok
     ·have:=ψ hok;omega
     ·split at hok
      ·exact⟨by assumption,(ψ hok).2⟩
      ·have:=ψ hok;omega
  have hb:=Az h9.2;unfold gvN;rw[φ (by omega),hb];simp
 obtain⟨ihk,ihb,iha,hkl,hbl,hal⟩:= @iW f n s t ks bs al;have hg:=kX g s (by unfold Fits;omega);have hsz2:=hsz;rw[aY] at hsz2;have hbl2:=gC bs;have ho:=kX out s (by unfold Fits;omega);refine bQ (n:=119) tok Tryz.func119 rfl rfl rfl ?_;refine sg rfl (a8 (sg rfl (aA rfl (fun hb=>?_) (fun hb=>?_))))
 ·have hf:f=1:=ψ hb;have hr:mg (inG g) out (pfR (.mk f n s t ks bs al))=if(!decide (s∈g)&& !decide (s∈out))=true then out++[s] else out:=by rw[pfR,ξ hf];rfl
  rw[hr];refine AWp.sub (Sub.freeze (id:=900) rfl) ?_;refine a8 (a8 (agF 5 [(3,.pc (B (decide (s∈g)))),(9,.pc (B (decide (s∈out))))] rfl rfl rfl (aA rfl (fun hb=>?_) (fun hb=>?_))))
  ·have hm:(!decide (s∈g)&& !decide (s∈out))=true:=by
    cases h1:decide (s∈g)<;>cases h2:decide (s∈out)<;>simp[h1,h2] at hb ⊢
   rw[ξ hm];refine ag [] rfl (sg rfl (AWp.sub (st2:=mk [(6,rV (out++[s]))] [(900,rO (out++[s]))]) sl ?_));exact aE rtT
  ·have hm:¬(!decide (s∈g)&& !decide (s∈out))=true:=by
    cases h1:decide (s∈g)<;>cases h2:decide (s∈out)<;>simp[h1,h2] at hb ⊢
   rw[φ hm];exact aD (sg rfl (aE rtT))
 ·have hf:¬f=1:=χ hb;rw[show pfR (.mk f n s t ks bs al)=jQ al (kP (gvN f s bs) bs (jS (gvN f s bs) ks [])) by rw[pfR,φ hf]];refine aD (sg rfl (sg rfl ?_));have hE1:(if f=5 then [s] else []).length≤1:=by split<;>simp
  refine a8 (AWp.cut (mk [(2,rV out),(3,.one (.vp 3 0)),(7,.one (.hs 36 0 (g++(if f=5 then [s] else [])).length (g++(if f=5 then [s] else [])).length))] [(3,.var 37 (aW (.mk f n s t ks bs al))),(36,.arr 9 1 ((g++(if f=5 then [s] else [])).map b6) 0),(900,rO out)]) ?_ ?_)
  ·refine sg rfl (aA rfl (fun hb=>?_) (fun hb=>?_))
   ·have h5:f=5:=ψ hb;rw[ξ h5];exact ag [] rfl sl
   ·have h5:¬f=5:=χ hb;rw[φ h5,Ax];exact aD sl
  have hgv:gvN f s bs=(if f=5 then [s] else [])++bs.map Bind.name:=rfl;have hil:(g++gvN f s bs).length≤g.length+1+bs.length:=by
   rw[hgv];simp only[κ,θ];omega
  generalize (if f=5 then [s] else [])=w at hE1 hgv ⊢;have hkB:(aQ bs).length=bs.length:=by rw[bH,θ]
  have hkK:(aO ks).length=ks.length:=by rw[aR,θ]
  have hkA:(bV al).length=al.length:=by rw[bF,θ]
  refine a8 (sg rfl (aC (aK (fun i:Nat=>mk [(2,rV out),(3,.one (.vp 3 0)),(7,.one (.hs 36 0 (g.length+w.length+i) (g.length+w.length+i))),(8,I .i64 i)] [(3,.var 37 (aW (.mk f n s t ks bs al))),(36,.arr 9 1 ((g++(w++(bs.take i).map Bind.name)).map b6) 0),(900,rO out)]) (fun i=>i≤bs.length) (fun i=>bs.length-i) 0 (Ag _) sl ?_)));intro i hi;refine a8 (sg rfl (aA rfl (fun hb=>?_) (fun hb=>?_)))
  ·have u:=ltD hb hkB;obtain⟨b,J⟩:=aJ u;have hbi':=bX J;have hrows:(g++(w++(bs.take i).map Bind.name)).map b6++[[.str b.name]]=(g++(w++(bs.take (i+1)).map Bind.name)).map b6:=by
    rw[eO J];simp[b6]
   exact aD (a8 (aC (ag [(4,.row i (b8 b))] rfl (ag [] rfl ⟨i+1,u,by dsimp only;omega,sl⟩))))
  have N:=geD hb hkB hi;subst N;refine aL ?_;rw[Al,←hgv];have hil2:g.length+w.length+bs.length=(g++gvN f s bs).length:=by rw[hgv];simp[Br]
  rw[hil2];have Y:=aOx g (gvN f s bs);have hA0:=aBx (gvN f s bs) ks [];rw[length_nil] at hA0;have aa:=fun o=>aHf (gvN f s bs) bs o
  generalize g++gvN f s bs=ins at hil Y hG ⊢;generalize gvN f s bs=G at Y hA0 aa ⊢;refine AWp.sub (Sub.freeze (id:=36) rfl) ?_;refine a8 (sg rfl (aC ?_));have O:=fun(l:List Core)=>le_trans (aB3 (G:=inG g) (l:=jS G l []) (o:=out)) (Nat.add_le_add_left (aBx G l []) _)
  simp only[length_nil] at O;refine aK (fun i:Nat=>mk [(2,rV (mg (inG g) out (jS G (ks.take i) []))),(3,.one (.vp 3 0)),(7,.one (.hs 36 0 ins.length ins.length)),(9,I .i64 i)] [(3,.var 37 (aW (.mk f n s t ks bs al))),(36,.arr 9 1 (ins.map b6) 2),(900,rO (mg (inG g) out (jS G (ks.take i) [])))]) (fun i=>i≤ks.length) (fun i=>ks.length-i) 0 (Ag _) (by rw[Bj,jS];exact sl) ?_;intro i hi;refine a8 (sg rfl (aA rfl (fun hb=>?_) (fun hb=>?_)))
  ·have u:=ltD hb hkK;obtain⟨k,ab⟩:=aJ u;have hki':=dB ab;have ac:mg (inG g) out (jS G (ks.take (i+1)) [])=mg (inG ins) (mg (inG g) out (jS G (ks.take i) [])) (pfR k):=by
    rw[uB,uB,yV G [] ab,aHh,aEz,Y]
   have h1:=nD ab;have h2:=O (ks.take i);have hc:=ih k (ihk k (η ab)) (hqk k (η ab)) ins (mg (inG g) out (jS G (ks.take i) [])) (by omega);refine aD (a8 (aC (aI mixed (ak 7 [(3,.row i (aB k))] rfl (kc hc ?_)))));refine kz 1 rfl (ag [] rfl ⟨i+1,u,by dsimp only;omega,?_⟩);dsimp only;rw[ac];exact sl
  have N:=geD hb hkK hi;subst N;refine aL ?_;rw[Al];have aa:=aa (jS G ks []);generalize jS G ks []=Z at hA0 aa ⊢;refine a8 (sg rfl (aC ?_));have O:=fun(l:List Bind)=>le_trans (aB3 (G:=inG g) (l:=kP G l Z) (o:=out)) (Nat.add_le_add_left (aHf G l Z) _)
  refine aK (fun i:Nat=>mk [(2,rV (mg (inG g) out (kP G (bs.take i) Z))),(3,.one (.vp 3 0)),(7,.one (.hs 36 0 ins.length ins.length)),(10,I .i64 i)] [(3,.var 37 (aW (.mk f n s t ks bs al))),(36,.arr 9 1 (ins.map b6) 2),(900,rO (mg (inG g) out (kP G (bs.take i) Z)))]) (fun i=>i≤bs.length) (fun i=>bs.length-i) 0 (Ag _) (by rw[Bj,kP];exact sl) ?_;intro i hi;refine a8 (sg rfl (aA rfl (fun hb=>?_) (fun hb=>?_)))
  ·have u:=ltD hb hkB;obtain⟨b,J⟩:=aJ u;have hbi':=bX J;have ac:mg (inG g) out (kP G (bs.take (i+1)) Z)=mg (inG ins) (mg (inG g) out (kP G (bs.take i) Z)) (pfR b.body):=by
    rw[yZ,yZ,map_take,map_take,yV G Z (show(bs.map Bind.body)[i]?=some b.body by rw[A5,J];rfl),aHh,aEz,Y]
   have h1:=nF J;have h2:=O (bs.take i);have h3:aY b.body≤bsize b:=by obtain⟨s',t',c'⟩:=b;rw[bsize];show aY c'≤_;omega
   have hbl3:=gC (bs.take i);rw[Ar] at hbl3;have hc:=ih b.body (ihb b (η J)) (hqb b (η J)) ins (mg (inG g) out (kP G (bs.take i) Z)) (by omega);refine aD (a8 (aC (aI mixed (ak 8 [(3,.row i (b8 b))] rfl (kc hc ?_)))));refine kz 1 rfl (ag [] rfl ⟨i+1,u,by dsimp only;omega,?_⟩);dsimp only;rw[ac];exact sl
  have N:=geD hb hkB hi;subst N;refine aL ?_;rw[Al];generalize kP G bs Z=oB at aa ⊢;refine a8 (sg rfl (aC ?_));have O:=fun(l:List Alt)=>le_trans (aB3 (G:=inG g) (l:=jQ l oB) (o:=out)) (Nat.add_le_add_left (aNw l oB) _)
  refine aK (fun i:Nat=>mk [(2,rV (mg (inG g) out (jQ (al.take i) oB))),(3,.one (.vp 3 0)),(7,.one (.hs 36 0 ins.length ins.length)),(11,I .i64 i)] [(3,.var 37 (aW (.mk f n s t ks bs al))),(36,.arr 9 1 (ins.map b6) 2),(900,rO (mg (inG g) out (jQ (al.take i) oB)))]) (fun i=>i≤al.length) (fun i=>al.length-i) 0 (Ag _) (by rw[Bj,jQ];exact sl) ?_;intro i hi;refine a8 (sg rfl (aA rfl (fun hb=>?_) (fun hb=>?_)))
  ·have u:=ltD hb hkA;obtain⟨a,ad⟩:=aJ u;have hai':=fZ ad;have hins:ins=g:=hG (by omega);have ac:mg (inG g) out (jQ (al.take (i+1)) oB)=mg (inG (ins++a.vars)) (mg (inG g) out (jQ (al.take i) oB)) (pfR a.body):=by
    rw[aBz ad,aHh,aEz,hins,aOx]
   have h1:=nJ ad;have h2:=O (al.take i);have h3:aY a.body+a.vars.length≤lL a:=by obtain⟨f',n',s',v',c'⟩:=a;rw[lL];show aY c'+v'.length≤_;have:=aFz v';omega
   have hc:=ih a.body (iha a (η ad)) (hqa a (η ad)) (ins++a.vars) (mg (inG g) out (jQ (al.take i) oB)) (by rw[κ];omega);refine aD (a8 (aC (sg rfl (sgh [(2,.all)] rfl (aI mixed (ak 15 [(3,.row i (c7 a)),(10,.row i (c7 a)),(13,.fz)] rfl (kc hc ?_)))))));refine kz 1 rfl (ag [] rfl ⟨i+1,u,by dsimp only;omega,?_⟩);dsimp only;rw[ac];exact sl
  have N:=geD hb hkA hi;subst N;refine aL ?_;rw[Al];exact sg rfl (aE rtT)
theorem a6y {X:Nat}:∀(n:Nat) (c:Core),aY c≤n→eJ (QL X) c→aRx c
 | 0,c,h,_=>by have:=dX c;omega
 | n+1,c,h,I=>aQs c I fun x hx u=>a6y n x (by omega) u
theorem aAj {X:Nat}(c:Core) (u:eJ (QL X) c) (h:aY c≤900000000000):aU Tryz.prog 83 [.pa (aB c)] [] (aV (pfR c)) []:=by
 have h0:=a6y _ c (le_refl _) u [] [] (by simp;omega);rw[show inG []=fun _=>false from by funext x;simp[inG],uI (a5l c)] at h0;have h1:=aU.nilArg (pre:=[.pa (aB c),aV []]) (post:=[]) (hin:=[]) h0 rfl;have h2:=h1.plain (by simp);refine bQ (n:=5) tok Tryz.func83 rfl rfl rfl ?_;refine sg rfl (sk 1 rfl (kc h2 ?_));exact kz 1 rfl (aE rtT)
theorem uF (o l:List Str):lQ o l=mg (fun _=>false) o l:=by
 unfold lQ mg;congr 1;funext o x;unfold r8 mg1;by_cases h:x∈o<;>simp[h]
theorem y6 (f:Int) (s:Str) (o l:List Str):aA1 f s o l=mg (fun x=>decide (f=7)&&decide (x=s)) o l:=by
 unfold aA1 mg;congr 1;funext o x;unfold oO mg1 lQ r8;by_cases h7:f=7<;>by_cases hs:x=s<;>by_cases hx:x∈o<;>simp[h7,hs,hx]
theorem aHx (G:Str→Bool) (o acc l:List Str):mg G o (lQ acc l)=mg G (mg G o acc) l:=by
 rw[uF,aEz];congr 1;funext x;simp
theorem aI1 (l g o:List Str) (hg:g.length≤3000000000000) (ho:o.length+l.length≤3000000000000):aU Tryz.prog 140 [aV l,aV g,rV o] [(900,rO o)] (rV (mg (inG g) o l)) [(900,rO (mg (inG g) o l))]:=by
 refine bQ (n:=38) tok Tryz.func140 rfl rfl rfl ?_;refine sg rfl (a8 (sg rfl ?_));have N:(l.map b6).length=l.length:=θ _;refine aC (aK (fun i:Nat=>mk [(0,aV l),(1,aV g),(2,rV (mg (inG g) o (l.take i))),(7,I .i64 i)] [(900,rO (mg (inG g) o (l.take i)))]) (fun i=>i≤l.length) (fun i=>l.length-i) 0 (Ag _) sl ?_);intro i hi;refine a8 (sg rfl (aA rfl (fun hb=>?_) (fun hb=>?_)))
 ·have J:=ltD hb N;obtain⟨x,hx⟩:=aJ J;have Z:=bW b6 hx;have u:mg (inG g) o (l.take (i+1))=mg1 (inG g) (mg (inG g) o (l.take i)) x:=by rw[eO hx,aV0];rfl
  have O:=aB3 (G:=inG g) (l:=l.take i) (o:=o);rw[Ar] at O;generalize mg (inG g) o (l.take i)=q at u O ⊢;have aa:=kX g x (by unfold Fits;omega);have ab:=kX q x (by unfold Fits;omega);refine AWp.sub (Sub.freeze (id:=900) rfl) ?_;refine aD (a8 (aC (a8 (agF 8 [(3,.row i (b6 x)),(5,.pc (B (decide (x∈g)))),(11,.row i (b6 x)),(13,.pc (B (decide (x∈q))))] rfl rfl rfl (aA rfl (fun hb=>?_) (fun hb=>?_))))))
  ·have hm:mg1 (inG g) q x=q++[x]:=by
    unfold mg1 inG;cases h1:decide (x∈g)<;>cases h2:decide (x∈q)<;>simp[h1,h2] at hb ⊢
   rw[hm] at u;refine ag [(3,.row i (b6 x)),(5,.all)] rfl (ag [] rfl ⟨i+1,J,by dsimp only;omega,?_⟩);dsimp only;rw[u];exact sl
  ·have hm:mg1 (inG g) q x=q:=by
    unfold mg1 inG;cases h1:decide (x∈g)<;>cases h2:decide (x∈q)<;>simp[h1,h2] at hb ⊢
   rw[hm] at u;refine aD (ag [] rfl ⟨i+1,J,by dsimp only;omega,?_⟩);dsimp only;rw[u];exact sl
 have Y:=geD hb N hi;subst Y;refine aL ?_;rw[Al];exact sg rfl (aE rtT)
theorem CG.dep1 {D M X:Nat}{f n:Int}{s:Str}{t:Ty}{ks:List Core}{bs:List Bind}{al:List Alt}(h:CG D M X (.mk f n s t ks bs al)):tW fH t r0≤D∧∀b∈bs,tW fH b.ty r0≤D:=by
 obtain⟨_,u,_,I,_⟩:=dT.1 h.dep;exact⟨u,fun b hb=>(I b hb).1⟩
def aJj (D M X:Nat) (c:Core):Prop:=CG D M X c→∀g o W:List Str,g.length+m30 c≤1000000000000→W.length+m30 c≤1000000000000→o.Nodup→(∀x∈o,x∈W)→(∀x∈tyR c,x∈W)→
 aU Tryz.prog 120 [.pa (aB c),aV g,rV o] [(900,rO o)] (rV (mg (inG g) o (tyR c))) [(900,rO (mg (inG g) o (tyR c)))]
theorem y5 {f:Int}{s x:Str}:∀{l:List Core}{o:List Str},x∈j4 f s l o↔x∈o∨∃c∈l,x∈tyR c∧¬(f=7∧x=s)
 | [],o=>by rw[j4];simp
 | c::l,o=>by
  rw[j4,y5,y6,jZ,or_assoc];refine or_congr Iff.rfl ?_;simp
theorem aCq {D M X:Nat}(hMD:M+D≤700000) (c:Core) (ih:∀x,m30 x<m30 c→aJj D M X x):aJj D M X c:=by
 intro hc g o W hg hW ad ae htW;obtain⟨f,n,s,t,ks,bs,al⟩:=c;obtain⟨⟨hok,_⟩,_⟩:=bB.1 hc.q;rw[θ,θ] at hok;have h7:f=7→bs.length=0∧al.length=0:=fun h=>by
  have:=(aN6 hok).1 (by omega)
  exact this.2
 obtain⟨wt,ft,wb⟩:=hc.ty;obtain⟨dt,db⟩:=hc.dep1;have hF:=qJ t wt (by omega) (by have:=j1 t;omega);have htl:=j1 t;have hm30:=dD (.mk f n s t ks bs al);have hol:=iA _ _ ad ae;have hcs:=c8 (.mk f n s t ks bs al);rw[aY] at hcs;have hbl:=gC bs;have hkl:=iL ks;have hal:=iN al;have hM1:=aI1 (tfR t) g o (by omega) (by omega)
 have u:∀x,(x∈tfR t∨(∃k∈ks,x∈tyR k∧¬(f=7∧x=s))∨(∃b∈bs,x∈tfR b.ty∨x∈tyR b.body)∨∃a∈al,x∈tyR a.body)→x∈W:=fun x hx=>htW x (by
  refine bU.2 ?_;rcases hx with h | ⟨k,h1,h2,h3⟩ | h | h
  ·exact .inl h
  ·exact .inr (.inl ⟨k,h1,h2,by by_cases e:f=7;exact .inr fun hx=>h3 ⟨e,hx⟩;exact .inl e⟩)
  ·exact .inr (.inr (.inl h))
  ·exact .inr (.inr (.inr h)))
 rw[tyR];have e0:mg (inG g) o (tfR t)=mg (inG g) o (lQ [] (tfR t)):=(aHx (inG g) o [] (tfR t)).symm;rw[e0] at hM1;have hA:∀x∈lQ [] (tfR t),x∈W:=fun x hx=>by
  rw[uF,jZ] at hx;rcases hx with h | ⟨h,_⟩
  ·cases h
  ·exact u x (.inl h)
 generalize lQ [] (tfR t)=A at hM1 hA ⊢;refine bQ (n:=86) tok Tryz.func120 rfl rfl rfl ?_;refine sg rfl (sk 2 rfl (kc hF ?_));refine ak 2 [] rfl (kc hM1 ?_);refine kz 1 rfl (sg rfl (sg rfl ?_));have hE1:(if f=7 then [s] else []).length≤1:=by split<;>simp
 refine a8 (AWp.cut (mk [(2,rV (mg (inG g) o A)),(3,.one (.vp 3 0)),(7,.one (.hs 19 0 (g++(if f=7 then [s] else [])).length (g++(if f=7 then [s] else [])).length))] [(3,.var 37 (aW (.mk f n s t ks bs al))),(19,.arr 9 1 ((g++(if f=7 then [s] else [])).map b6) 0),(900,rO (mg (inG g) o A))]) ?_ ?_)
 ·refine sg rfl (aA rfl (fun hb=>?_) (fun hb=>?_))
  ·have h5:f=7:=ψ hb;rw[ξ h5];exact ag [(3,.all)] rfl sl
  ·have h5:¬f=7:=χ hb;rw[φ h5,Ax];exact aD sl
 have hins:inG (g++(if f=7 then [s] else []))=fun x=>inG g x || (decide (f=7)&&decide (x=s)):=by
  by_cases h5:f=7
  ·rw[ξ h5,aOy];funext x;simp[h5]
  ·rw[φ h5,Ax];funext x;simp[h5]
 have hil:(g++(if f=7 then [s] else [])).length≤g.length+1:=by rw[κ];omega
 have hg0:¬f=7→g++(if f=7 then [s] else [])=g:=fun h=>by rw[φ h,Ax]
 generalize g++(if f=7 then [s] else [])=ins at hins hil hg0 ⊢;have hkB:(aQ bs).length=bs.length:=by rw[bH,θ]
 have hkK:(aO ks).length=ks.length:=by rw[aR,θ]
 have hkA:(bV al).length=al.length:=by rw[bF,θ]
 refine AWp.sub (Sub.freeze (id:=19) rfl) ?_;refine a8 (sg rfl (aC (aK (fun i:Nat=>mk [(2,rV (mg (inG g) o (j4 f s (ks.take i) A))),(3,.one (.vp 3 0)),(7,.one (.hs 19 0 ins.length ins.length)),(8,I .i64 i)] [(3,.var 37 (aW (.mk f n s t ks bs al))),(19,.arr 9 1 (ins.map b6) 2),(900,rO (mg (inG g) o (j4 f s (ks.take i) A)))]) (fun i=>i≤ks.length) (fun i=>ks.length-i) 0 (Ag _) (by rw[Bj,j4];exact sl) ?_)));intro i hi;refine a8 (sg rfl (aA rfl (fun hb=>?_) (fun hb=>?_)))
 ·have O:=ltD hb hkK;obtain⟨k,hki⟩:=aJ O;have hkm:=η hki;have hki':=dB hki;have Z:mg (inG g) o (j4 f s (ks.take (i+1)) A)=mg (inG ins) (mg (inG g) o (j4 f s (ks.take i) A)) (tyR k):=by
   rw[y2 hki,y6,aEz,hins]
  obtain⟨k1,_,k3⟩:=hc.kid hkm;have hWm:∀x∈W,x∈s::W:=fun x hx=>ω _ hx
  have aa:=ih k k3 k1 ins (mg (inG g) o (j4 f s (ks.take i) A)) (s::W) (by omega) (by rw[Ac];omega) (aKc ad) (fun x hx=>hWm x (by
   rcases jZ.1 hx with hx | ⟨hx,_⟩
   ·exact ae x hx
   ·rcases y5.1 hx with hx | ⟨k',q1,q2,q3⟩
    ·exact hA x hx
    ·exact u x (.inr (.inl ⟨k',Bb q1,q2,q3⟩)))) (fun x hx=>by
   by_cases e:x=s
   ·rw[e];exact ζ
   ·exact hWm x (u x (.inr (.inl ⟨k,hkm,hx,fun h=>e h.2⟩))))
  refine aD (a8 (aC (aI mixed (ak 7 [(3,.row i (aB k))] rfl (kc aa ?_)))));refine kz 1 rfl (ag [] rfl ⟨i+1,O,by dsimp only;omega,?_⟩);dsimp only;rw[Z];exact sl
 have ab:=geD hb hkK hi;subst ab;refine aL ?_;rw[Al];have hB:∀x∈j4 f s ks A,x∈W:=fun x hx=>by
  rcases y5.1 hx with hx | ⟨k',q1,q2,q3⟩
  ·exact hA x hx
  ·exact u x (.inr (.inl ⟨k',q1,q2,q3⟩))
 generalize j4 f s ks A=Y at hB ⊢;refine a8 (sg rfl (aC ?_));have hBm:∀(l:List Bind) (o:List Str),(∀x∈o,x∈W)→(∀b∈l,b∈bs)→∀x∈j5 l o,x∈W:=by
  intro l
  induction l with
  | nil=>intro o h _ x hx;rw[j5] at hx;exact h x hx
  | cons b l ihl=>
   intro o h hb x hx;have J:=hb b ζ;obtain⟨bn,bt,bc⟩:=b;rw[j5] at hx;refine ihl _ (fun y N=>?_) (fun b hb'=>hb b (ω _ hb')) x hx;rw[uF,jZ,uF,jZ] at N;rcases N with(N | ⟨N,_⟩) | ⟨N,_⟩
   ·exact h y N
   ·exact u y (.inr (.inr (.inl ⟨_,J,.inl N⟩)))
   ·exact u y (.inr (.inr (.inl ⟨_,J,.inr N⟩)))
 refine aK (fun i:Nat=>mk [(2,rV (mg (inG g) o (j5 (bs.take i) Y))),(3,.one (.vp 3 0)),(7,.one (.hs 19 0 ins.length ins.length)),(9,I .i64 i)] [(3,.var 37 (aW (.mk f n s t ks bs al))),(19,.arr 9 1 (ins.map b6) 2),(900,rO (mg (inG g) o (j5 (bs.take i) Y)))]) (fun i=>i≤bs.length) (fun i=>bs.length-i) 0 (Ag _) (by rw[Bj,j5];exact sl) ?_;intro i hi;refine a8 (sg rfl (aA rfl (fun hb=>?_) (fun hb=>?_)))
 ·have O:=ltD hb hkB;obtain⟨b,hbi⟩:=aJ O;have J:=η hbi;have hbi':=bX hbi;obtain rfl:ins=g:=hg0 fun h=>by have:=h7 h;omega
  have Z:mg (inG ins) o (j5 (bs.take (i+1)) Y)=mg (inG ins) (mg (inG ins) (mg (inG ins) o (j5 (bs.take i) Y)) (tfR b.ty)) (tyR b.body):=by
   rw[y3 hbi,aHx,aHx]
  have hBi:=hBm (bs.take i) Y hB fun b hb=>Bb hb
  have hWb:∀x∈mg (inG ins) o (j5 (bs.take i) Y),x∈W:=fun x hx=>by
   rcases jZ.1 hx with hx | ⟨hx,_⟩
   ·exact ae x hx
   ·exact hBi x hx
  have hndb:(mg (inG ins) o (j5 (bs.take i) Y)).Nodup:=aKc ad;have hlb:=iA _ _ hndb hWb;obtain⟨w1,w2⟩:=wb b J;have hfl:=j1 b.ty;have hFb:=qJ b.ty w1 (by have:=db b J;omega) (by omega);have hMb:=aI1 (tfR b.ty) ins (mg (inG ins) o (j5 (bs.take i) Y)) (by omega) (by omega);have hWb2:∀x∈mg (inG ins) (mg (inG ins) o (j5 (bs.take i) Y)) (tfR b.ty),x∈W:=fun x hx=>by
   rcases jZ.1 hx with hx | ⟨hx,_⟩
   ·exact hWb x hx
   ·exact u x (.inr (.inr (.inl ⟨b,J,.inl hx⟩)))
  obtain⟨k1,k3⟩:=hc.bind J;have aa:=ih b.body k3 k1 ins (mg (inG ins) (mg (inG ins) o (j5 (bs.take i) Y)) (tfR b.ty)) W (by omega) (by omega) (aKc hndb) hWb2 fun x hx=>u x (.inr (.inr (.inl ⟨b,J,.inr hx⟩)))
  refine aD (a8 (aC (skh 6 [(3,.row i (b8 b))] rfl (kc hFb ?_))));refine ak 2 [] rfl (kc hMb ?_);refine kz 1 rfl (aI mixed (ak 8 [(3,.row i (b8 b))] rfl (kc aa ?_)));refine kz 1 rfl (ag [] rfl ⟨i+1,O,by dsimp only;omega,?_⟩);dsimp only;rw[Z];exact sl
 have ab:=geD hb hkB hi;subst ab;refine aL ?_;rw[Al];have hC:=hBm bs Y hB fun b hb=>hb
 generalize j5 bs Y=oC at hC ⊢;refine a8 (sg rfl (aC ?_));have hAm:∀(l:List Alt) (o:List Str),(∀x∈o,x∈W)→(∀b∈l,b∈al)→∀x∈kD l o,x∈W:=by
  intro l
  induction l with
  | nil=>intro o h _ x hx;rw[kD] at hx;exact h x hx
  | cons b l ihl=>
   intro o h hb x hx;have J:=hb b ζ;obtain⟨af,an,anm,av,ac⟩:=b;rw[kD] at hx;refine ihl _ (fun y N=>?_) (fun b hb'=>hb b (ω _ hb')) x hx;rw[uF,jZ] at N;rcases N with N | ⟨N,_⟩
   ·exact h y N
   ·exact u y (.inr (.inr (.inr ⟨_,J,N⟩)))
 refine aK (fun i:Nat=>mk [(2,rV (mg (inG g) o (kD (al.take i) oC))),(3,.one (.vp 3 0)),(7,.one (.hs 19 0 ins.length ins.length)),(10,I .i64 i)] [(3,.var 37 (aW (.mk f n s t ks bs al))),(19,.arr 9 1 (ins.map b6) 2),(900,rO (mg (inG g) o (kD (al.take i) oC)))]) (fun i=>i≤al.length) (fun i=>al.length-i) 0 (Ag _) (by rw[Bj,kD];exact sl) ?_;intro i hi;refine a8 (sg rfl (aA rfl (fun hb=>?_) (fun hb=>?_)))
 ·have O:=ltD hb hkA;obtain⟨a,hai⟩:=aJ O;have ham:=η hai;have hai':=fZ hai;obtain rfl:ins=g:=hg0 fun h=>by have:=h7 h;omega
  have Z:mg (inG ins) o (kD (al.take (i+1)) oC)=mg (inG ins) (mg (inG ins) o (kD (al.take i) oC)) (tyR a.body):=by
   rw[y4 hai,aHx]
  have hBi:=hAm (al.take i) oC hC fun b hb=>Bb hb
  obtain⟨k1,k3⟩:=hc.alt ham
  have aa:=ih a.body k3 k1 ins (mg (inG ins) o (kD (al.take i) oC)) W (by omega) (by omega) (aKc ad) (fun x hx=>by
   rcases jZ.1 hx with hx | ⟨hx,_⟩
   ·exact ae x hx
   ·exact hBi x hx) fun x hx=>u x (.inr (.inr (.inr ⟨a,ham,hx⟩)))
  refine aD (a8 (aC (aI mixed (ak 8 [(3,.row i (c7 a))] rfl (kc aa ?_)))));refine kz 1 rfl (ag [] rfl ⟨i+1,O,by dsimp only;omega,?_⟩);dsimp only;rw[Z];exact sl
 have ab:=geD hb hkA hi;subst ab;refine aL ?_;rw[Al];exact sg rfl (aE rtT)
theorem v7 {D M X:Nat}(u:M+D≤700000) {c:Core}(hc:CG D M X c):aU Tryz.prog 84 [.pa (aB c)] [] (aV (tyR c)) []:=by
 have key:∀(k:Nat) (c:Core),m30 c≤k→aJj D M X c:=by
  intro k
  induction k with
  | zero=>intro c h;have:=dD c;omega
  | succ k I=>intro c h;exact aCq u c fun x hx=>I x (by omega)
 have J:Big=250000000000:=rfl;have h0:=key _ c (le_refl _) hc [] [] (tyR c) (by have:=hc.sz;simp;omega) (by have:=hc.sz;have:=hc.sc;omega) nodup_nil (fun x hx=>by cases hx) (fun x hx=>hx);rw[show inG []=fun _=>false from by funext x;simp[inG],uI (aXk c)] at h0;have h1:=aU.nilArg (pre:=[.pa (aB c),aV []]) (post:=[]) (hin:=[]) h0 rfl;have h2:=h1.plain (by simp);refine bQ (n:=5) tok Tryz.func84 rfl rfl rfl ?_;refine sg rfl (sk 1 rfl (kc h2 ?_));exact kz 1 rfl (aE rtT)
theorem v8 (l:List Str) (hl:l.length≤600000000000):aU Tryz.prog 85 [aV l] [] (Go.AM.T (bA l)) []:=by
 have hf:=mZ l;refine bQ (n:=12) tok Tryz.func85 rfl rfl rfl ?_;refine sg rfl (sg rfl (a8 (aC (aK (fun n:Nat=>mk [(0,aV l),(3,I .i64 n)] []) (fun n=>n≤eI l) (fun n=>eI l-n) 0 (Ag _) sl ?_))));intro n hn;have u:=xK n (by omega);have J:=kX l (bK n) (by unfold Fits;omega);refine a8 (sk 2 rfl (kc u ?_));refine kc J ?_;refine az (aA rfl (fun hb=>?_) (fun hb=>?_))
 ·have hm:bK n∈l:=ψ hb;have N:n≠eI l:=by rintro rfl;exact fY l hm
  refine aD (aC (ag [] rfl ?_ (hc:=by repeat (first | exact trivial | refine⟨by omega,?_⟩))));exact⟨n+1,by omega,by dsimp only;omega,sl⟩
 ·have hm:¬bK n∈l:=χ hb;have he:n=eI l:=by
   by_cases h:n<eI l
   ·exact absurd (iU l h) hm
   ·omega
  subst he;refine aL (sk 1 rfl (kc u ?_));exact kz 1 rfl (aE rtT)
theorem aQx (t:Ty) (hw:wfS t=true) (hd:tW fH t r0≤1000000) (hl:(tfR t).length≤1000000):aU Tryz.prog 86 [tyV t] [] (rV (tfR t)) [(900,rO (tfR t))]:=by
 have h0:=a6x (tn t) t (le_refl _) hw [] [] (tfR t) (by rw[length_nil];omega) (by omega) nodup_nil (fun x hx=>by cases hx) (fun x hx=>hx);rw[show inG []=fun _=>false from by funext x;simp[inG],uI (aEb t)] at h0;have h1:=aU.nilArg (pre:=[tyV t,aV []]) (post:=[]) (hin:=[]) h0 rfl;refine bQ (n:=5) tok Tryz.func86 rfl rfl rfl ?_;refine sg rfl (sk 1 rfl (kc h1 ?_));exact kz 1 rfl (aE rtT)
theorem aWk {X:Nat}{c:Core}(h:eJ (QL X) c):few c=false:=by
 obtain⟨f,n,s,t,ks,bs,al⟩:=c;obtain⟨⟨hok,_⟩,_⟩:=bB.1 h;unfold few;show(if f=4∨f=10 then decide ((ks.length:Int)<2) else decide (f=5∨f=6∨f=7∨f=8∨f=9)&&decide ((ks.length:Int)<1))=false;unfold okF at hok;by_cases h4:f=4∨f=10
 ·rw[ξ h4] at hok ⊢;have:=ψ hok;exact Ae (by omega)
 ·rw[φ h4] at hok ⊢;by_cases h5:f=5∨f=6∨f=7
  ·rw[ξ h5] at hok;have:=ψ hok;rw[Ae (show ¬(ks.length:Int)<1 by omega),Bool.and_false]
  ·rw[φ h5] at hok;by_cases u:f=8
   ·rw[ξ u] at hok;have:=ψ hok;rw[Ae (show ¬(ks.length:Int)<1 by omega),Bool.and_false]
   ·rw[φ u] at hok;by_cases I:f=9
    ·rw[ξ I] at hok;have:=ψ hok;rw[Ae (show ¬(ks.length:Int)<1 by omega),Bool.and_false]
    ·rw[Ae (show ¬(f=5∨f=6∨f=7∨f=8∨f=9) by omega),Bool.false_and]
theorem aZd (t:Ty) (name:Str) (u:Ty) (h:aU Tryz.prog 123 [tyV t,aV [name],aR0 [u]] [] (tyV (iD t [(name,u)])) []):aU Tryz.prog 87 [tyV t,Go.AM.T name,tyV u] [] (tyV (iD t [(name,u)])) []:=by
 obtain⟨f,n,s,a⟩:=t;refine bQ (n:=17) tok Tryz.func87 rfl rfl rfl ?_;refine sg rfl (a8 (sg rfl (aA rfl (fun hb=>?_) (fun hb=>?_))))
 ·have h0:f=0:=ψ hb;rw[show iD (.mk f n s a) [(name,u)]=.mk f n s a by rw[iD,φ (by omega),φ (by omega),φ (by omega)]];exact sg rfl (aE (rtC trw))
 refine aD (skh 5 [(2,.all),(4,.all)] rfl (kc h ?_));exact kz 1 rfl (aE (rtC trw))
theorem a3o (hI:dJ 540000000000) {D M X:Nat}(hMD:M+D≤700000):∀(k:Nat) (c:Core),m30 c≤k→CG D M X c→∀(name:Str) (u:Ty),UOk u→tW fH u r0≤1000000→aU Tryz.prog 34 [.pa (aB c),Go.AM.T name,tyV u] [] (.pa (aB (sTR k c name u))) []:=by
 intro k
 induction k with
 | zero=>intro c h;have:=dD c;omega
 | succ k ih=>
 intro c h hc name u hu N;have hcs:=c8 c;have hsz:=hc.sz;have hBig:Big=250000000000:=rfl;have hfl:=j1 u;have hufv:=hu.fv;have hfu:=qJ u hu.wf N (by omega);have hfuO:=aQx u hu.wf N (by omega);have hfw:=a34 c;rw[aWk hc.q] at hfw;obtain⟨f,n,nm,t,ks,bs,al⟩:=c;obtain⟨ht0,ht1,htb⟩:=hc.ty;obtain⟨hd0,hdb⟩:=hc.dep1;have hq:=hc.q;obtain⟨q1,q2,q3,q4⟩:=bB.1 hq;rw[sTR];have hps:=hu.ps name;have htt:∀v,wfS v=true→fvm v≤M+D→tW fH v r0≤D→aU Tryz.prog 87 [tyV v,Go.AM.T name,tyV u] [] (tyV (iD v [(name,u)])) []:=fun v h1 h2 h3=>aZd v name u (aZi (tn v) v (le_refl _) h1 (by omega) (by omega) _ hps (fun p hp=>by rw[ε.1 hp];exact N))
 by_cases h7:f=7
 ·subst h7;obtain⟨⟨kid,rfl⟩,rfl,rfl⟩:=dR hq (.inr (.inr rfl));obtain⟨g1,g2,g3⟩:=hc.kid (x:=kid) ζ;rw[ξ rfl] at g2;obtain rfl:t=zTy:=(q1.2.1 rfl).1
  have hz0:tfR zTy=[]:=rfl;have hTk:=v7 hMD g1;have hTl:=g1.sc;have hct:=kX (tyR kid) name (by unfold Fits;omega);have hcu:=kX (tfR u) nm (by unfold Fits;omega);have hmem:name∈tyR (.mk 7 n nm zTy [kid] [] [])↔name∈tyR kid∧¬name=nm:=by
   rw[bU];constructor
   ·rintro(h | ⟨x,hx,h,h'⟩ | ⟨b,hb,_⟩ | ⟨a,ha,_⟩)
    ·rw[hz0] at h;cases h
    ·rw[←ε.1 hx];exact⟨h,h'.resolve_left fun e=>e rfl⟩
    ·cases hb
    ·cases ha
   ·rintro⟨h,h'⟩;exact .inr (.inl ⟨kid,ζ,h,.inr h'⟩)
  refine bQ (n:=146) tok Tryz.func34 rfl rfl rfl ?_;refine sg rfl (a8 (sgh [(1,.pc (B false))] rfl (aA rfl nofun (fun _=>aD (a8 (sg rfl (aA rfl (fun _=>sgh [(2,.row 0 (aB kid))] rfl (a8 (a8 (agF 5 [(6,.pc (aV (tyR kid))),(8,.pc (B (decide (name∈tyR kid))))] rfl rfl rfl (aA rfl (fun hb=>?_) (fun hb=>?_)))))) nofun)))))))
  ·have hs:nm=name∨¬name∈tyR (.mk 7 n nm zTy [kid] [] []):=by
    by_cases e:nm=name
    ·exact .inl e
    ·refine .inr fun hin=>?_
     have h2:=(hmem.1 hin).1
     simp[h2] at hb;exact e hb
   rw[ξ ⟨rfl,hs⟩];exact sg rfl (aE (rtC trw))
  have hs:¬(nm=name∨¬name∈tyR (.mk 7 n nm zTy [kid] [] [])):=by
   by_cases e:nm=name
   ·exfalso;simp at hb;exact hb.1 e
   ·by_cases h2:name∈tyR kid
    ·exact fun h=>h.elim e fun h=>h (hmem.2 ⟨h2,fun h=>e h.symm⟩)
    ·simp[h2] at hb
  rw[φ fun e=>hs e.2];refine aD ?_;have hfin:∀(nm1:Str) (J:Core),aU Tryz.prog 34 [.pa (aB J),Go.AM.T name,tyV u] [] (.pa (aB (sTR k J name u))) []→
    gE (fun t=>iD t [(name,u)]) (fun x=>sTR k x name u) (.mk 7 n nm1 zTy [J] [] [])=.mk 7 n nm1 zTy [sTR k J name u] [] []:=fun nm1 J _=>by rw[gE,tJ];rfl
  by_cases ab:nm∈tfR u
  ·rw[ξ ⟨rfl,ab⟩];have efm:[kid].flatMap tyR=tyR kid:=by simp
   rw[efm,Am,Bo];have hz30:(bA (tfR u++tyR kid)).length≤30:=kH _ (by rw[κ];omega);have hFr:=v8 (tfR u++tyR kid) (by rw[κ];omega);generalize hze:bA (tfR u++tyR kid)=z at hz30 hFr ⊢;have Y:=vW hI hMD k kid (by omega) g1 nm (vT z) (UOk.var z);have hR1:=ih kid (by omega) g1 nm (vT z) (UOk.var z) (by show tW fH (.mk 2 0 z []) r0≤_;rw[tW,ξ rfl];exact Ag _);have hkid1:CG D M X (sTR k kid nm (vT z)):=by
    refine⟨Y.q,?_,?_,le_trans Y.sz g1.sz⟩
    ·have:=Y.cw fH 0 r0;have e:tW fH (vT z) r0=0:=rfl;rw[e,yM] at this;exact le_trans this g1.dep
    ·have h1:=dL (a:=z::tyR kid) (c:=sTR k kid nm (vT z)) fun x hx=>by
      rcases Y.ty x hx with h | h
      ·exact ω _ h
      ·rw[aA7] at h;rw[ε.1 h];exact ζ
     rw[Ac] at h1;have h2:=Y.tl;omega
   have hR2:=ih (sTR k kid nm (vT z)) (by have:=Y.sz;omega) hkid1 name u hu N;rw[hfin z _ hR2];generalize sTR k kid nm (vT z)=J at *;generalize sTR k J name u=r at *;have hFr2:aU Tryz.prog 85 [.one (.c (.sl 1 ((tfR u).map b6++(tyR kid).map b6)))] [] (Go.AM.T z) []:=by
    have e1:aV (tfR u++tyR kid)=.one (.c (.sl 1 ((tfR u).map b6++(tyR kid).map b6))):=by unfold aV;rw[At]
    rw[e1] at hFr;exact hFr
   rw[Ad ab] at hcu;refine a8 (sgh [(1,.pc (aV (tfR u))),(4,.pc (B true))] rfl (aA rfl (fun _=>sk 1 rfl (kc hfuO ?_)) nofun));refine ak 1 [] rfl (kc hTk ?_);refine ak 1 [(4,.fz)] rfl (kc hFr2 ?_);refine kz 1 rfl (sk 5 rfl (kc hR1 ?_));exact kz 1 rfl (ag [] rfl (sgh [(3,.pc (.pa (aB r))),(4,.all)] rfl (sg rfl (aE (rtC trw)))))
  ·rw[φ fun e=>ab e.2];have hR2:=ih kid (by omega) g1 name u hu N;rw[hfin nm kid hR2];generalize sTR k kid name u=r at *;rw[Ae ab] at hcu;exact a8 (sgh [(1,.pc (aV (tfR u))),(4,.pc (B false))] rfl (aA rfl nofun (fun _=>aD (sgh [(3,.pc (.pa (aB r))),(4,.all)] rfl (sg rfl (aE (rtC trw)))))))
 ·rw[φ fun e=>h7 e.1,φ fun e=>h7 e.1,gE];have htt0:=htt t ht0 ht1 hd0;generalize iD t [(name,u)]=t' at htt0 ⊢;have hkE:(aO ks).length=ks.length:=by rw[aR,θ]
  have hkB:(aQ bs).length=bs.length:=by rw[bH,θ]
  have hkA:(bV al).length=al.length:=by rw[bF,θ]
  rw[aY] at hcs;have hkl:=iL ks;have hbl:=gC bs;have hal:=iN al;refine bQ (n:=146) tok Tryz.func34 rfl rfl rfl ?_;refine sg rfl (a8 (sgh [(1,.pc (B false))] rfl (aA rfl nofun (fun _=>aD (a8 (sg rfl (aA rfl (fun hb=>absurd (ψ hb) h7) (fun _=>aD (sgh [(4,.pc (tyV t'))] rfl (sg rfl (AWp.sub (Sub.own (t:=9) (id:=500) 37 10 rfl rfl) ?_)))))))))));refine a8 (sg rfl (aC ?_))
  let C0:List R:=[.c (.int .i64 f),.c (.int .i64 n),.c (.str nm),.c (.int .i64 t'.form),.c (.int .i64 t'.n),.c (.str t'.name),.c (.sl 4 (fV t'))]
  refine aK (fun i:Nat=>mk [(1,Go.AM.T name),(3,.one (.vp 3 0)),(5,.one (.vp 5 0)),(6,.one (.vp 6 0)),(9,.one (.hs 500 0 i i)),(10,I .i64 i)]
   [(3,.var 37 (C0++[.c (.sl 10 (aO ks)),.c (.sl 15 (aQ bs)),.c (.sl 14 (bV al))])),(5,.var 33 ((bD u).map R.c)),(6,.var 37 bO),(500,.arr 37 10 ((ks.take i).map fun x=>aB (sTR k x name u)) 0)]) (fun i=>i≤ks.length) (fun i=>ks.length-i) 0 (Ag _) sl ?_
  intro i hi;refine a8 (sg rfl (aA rfl (fun hb=>?_) (fun hb=>?_)))
  ·have O:i<ks.length:=ltD hb hkE;obtain⟨x,hki⟩:=aJ O;have hki':=dB hki;have hxm:=η hki;have he:=ih x (by have:=(hc.kid hxm).2.2;omega) (hc.kid hxm).1 name u hu N;have ad:=eC (fun x=>aB (sTR k x name u)) hki;exact aD (a8 (aC (ag [(4,.row i (aB x)),(8,.pc (.pa (aB (sTR k x name u)))),(9,.all)] rfl (ag [] rfl ⟨i+1,O,by dsimp only;omega,sl⟩))))
  have Z:i=ks.length:=geD hb hkE hi;subst Z;have hKs:(ks.take ks.length).map (fun x=>aB (sTR k x name u))=aO (ks.map fun x=>sTR k x name u):=by rw[Al,aR,A8];rfl
  rw[hKs];refine aL (AWp.sub (Sub.freeze (id:=500) rfl) ?_);refine sg rfl (sg rfl (AWp.sub (Sub.own (t:=11) (id:=501) 58 15 rfl rfl) ?_));refine a8 (sg rfl (aC ?_))
  refine aK (fun i:Nat=>mk [(1,Go.AM.T name),(3,.one (.vp 3 0)),(5,.one (.vp 5 0)),(6,.one (.vp 6 0)),(11,.one (.hs 501 0 i i)),(12,I .i64 i)]
   [(3,.var 37 (C0++[.hs 500 0 ks.length ks.length,.c (.sl 15 (aQ bs)),.c (.sl 14 (bV al))])),(5,.var 33 ((bD u).map R.c)),(6,.var 37 bO),(500,.arr 37 10 (aO (ks.map fun x=>sTR k x name u)) 2),(501,.arr 58 15 ((bs.take i).map fun b=>b8 (.mk b.name (iD b.ty [(name,u)]) (sTR k b.body name u))) 0)]) (fun i=>i≤bs.length) (fun i=>bs.length-i) 0 (Ag _) sl ?_
  intro i hi;refine a8 (sg rfl (aA rfl (fun hb=>?_) (fun hb=>?_)))
  ·have O:i<bs.length:=ltD hb hkB;obtain⟨b,hbi⟩:=aJ O;have hbi':=bX hbi;have aa:=η hbi;have he:=ih b.body (by have:=(hc.bind aa).2;omega) (hc.bind aa).1 name u hu N;have htb':=htt b.ty (htb b aa).1 (htb b aa).2 (hdb b aa);have ad:=eC (fun b:Bind=>b8 (.mk b.name (iD b.ty [(name,u)]) (sTR k b.body name u))) hbi;obtain⟨bn,bt,bc⟩:=b;dsimp only[Bind.ty,Bind.body,Bind.name] at *;generalize iD bt [(name,u)]=bt' at *;exact aD (a8 (aC (sgh [(3,.row i (b8 (.mk bn bt bc)))] rfl (ag [(7,.pc (tyV bt')),(12,.pc (.pa (aB (sTR k bc name u)))),(14,.all)] rfl (ag [] rfl ⟨i+1,O,by dsimp only;omega,sl⟩)))))
  have Z:i=bs.length:=geD hb hkB hi;subst Z;have hBs:(bs.take bs.length).map (fun b=>b8 (.mk b.name (iD b.ty [(name,u)]) (sTR k b.body name u)))=aQ (bs.map fun b=>.mk b.name (iD b.ty [(name,u)]) (sTR k b.body name u)):=by rw[Al,bH,A8];rfl
  rw[hBs];refine aL (AWp.sub (Sub.freeze (id:=501) rfl) ?_);refine sg rfl (sg rfl (AWp.sub (Sub.own (t:=14) (id:=502) 88 14 rfl rfl) ?_));refine a8 (sg rfl (aC ?_))
  refine aK (fun i:Nat=>mk [(1,Go.AM.T name),(3,.one (.vp 3 0)),(5,.one (.vp 5 0)),(6,.one (.vp 6 0)),(14,.one (.hs 502 0 i i)),(15,I .i64 i)]
   [(3,.var 37 (C0++[.hs 500 0 ks.length ks.length,.hs 501 0 bs.length bs.length,.c (.sl 14 (bV al))])),(5,.var 33 ((bD u).map R.c)),(6,.var 37 bO),(500,.arr 37 10 (aO (ks.map fun x=>sTR k x name u)) 2),(501,.arr 58 15 (aQ (bs.map fun b=>.mk b.name (iD b.ty [(name,u)]) (sTR k b.body name u))) 2),(502,.arr 88 14 ((al.take i).map fun a=>c7 (.mk a.form a.n a.name a.vars (sTR k a.body name u))) 0)]) (fun i=>i≤al.length) (fun i=>al.length-i) 0 (Ag _) sl ?_
  intro j hj;refine a8 (sg rfl (aA rfl (fun hb=>?_) (fun hb=>?_)))
  ·have O:j<al.length:=ltD hb hkA;obtain⟨a,hai⟩:=aJ O;have hai':=fZ hai;have ham:=η hai;have he:=ih a.body (by have:=(hc.alt ham).2;omega) (hc.alt ham).1 name u hu N;have ad:=eC (fun a:Alt=>c7 (.mk a.form a.n a.name a.vars (sTR k a.body name u))) hai;obtain⟨af,an,anm,av,ac⟩:=a;dsimp only[Alt.body,Alt.form,Alt.n,Alt.name,Alt.vars] at *;exact aD (a8 (aC (sgh [(3,.row j (c7 (.mk af an anm av ac)))] rfl (sgh [(4,.pc (.pa (aB (sTR k ac name u))))] rfl (ag [(2,.all)] rfl (ag [] rfl ⟨j+1,O,by dsimp only;omega,sl⟩))))))
  have Z:j=al.length:=geD hb hkA hj;subst Z;have hAs:(al.take al.length).map (fun a=>c7 (.mk a.form a.n a.name a.vars (sTR k a.body name u)))=bV (al.map fun a=>.mk a.form a.n a.name a.vars (sTR k a.body name u)):=by rw[Al,bF,A8];rfl
  rw[hAs];refine aL (AWp.sub (Sub.freeze (id:=502) rfl) ?_);refine sg rfl (sg rfl ?_);have h1:ks.length=(aO (ks.map fun x=>sTR k x name u)).length:=by rw[aR,θ,θ]
  have h2:bs.length=(aQ (bs.map fun b=>.mk b.name (iD b.ty [(name,u)]) (sTR k b.body name u))).length:=by rw[bH,θ,θ]
  have h3:al.length=(bV (al.map fun a=>.mk a.form a.n a.name a.vars (sTR k a.body name u))).length:=by rw[bF,θ,θ]
  exact aE (rtC trw)
end Go.Proofs.YtockgoadliilhaaGreatDoor
