/-
  Texts Lg24 to Lr6 in one.
-/
import Derived.Test.YtockgoadliilhaaGreatDoorM9
open List (append_nil drop_eq_getElem_cons drop_left drop_length eq_nil_of_length_eq_zero flatMap_append length_append length_cons length_eq_one_iff length_eq_zero_iff length_filter_le length_map length_nil length_take map_append map_cons map_map map_nil map_take mem_append mem_cons mem_cons_of_mem mem_cons_self mem_map mem_of_mem_drop mem_of_mem_take mem_singleton nil_append nodup_nil take_left take_length take_succ_cons take_zero)
open Nat (add_assoc add_mul le_max_left le_max_right le_mul_of_pos_right le_of_eq le_refl le_trans max_le mul_le_mul_right zero_le)
namespace Go.Proofs.YtockgoadliilhaaGreatDoor
open Go Go.AM
set_option maxRecDepth 20000
structure PK (B:Nat) (T:Ty→Prop) (ns:List Str) (ps:List Core) (r:List Str×List Core):Prop where
 len1:r.1.length=ns.length
 len2:r.2.length=ps.length
 wf:∀q∈r.2,wfC q=true∧allT T q
 sm:A2 (fun p q=>m30 q≤m30 p*B) ps r.2
 nm:A2 NR ns r.1
theorem aCf {sb:Core→Str→Core→Core}{P:Core→Prop}{B:Nat}{T:Ty→Prop}{s:Str}{b:Core}{ns:List Str}{ps:List Core}(hB:1≤B) (W:∀p∈ps,P p)
  (hz:∀p n z,P p→z.length≤30→P (sb p n (vC z))∧m30 (sb p n (vC z))≤m30 p) (aa:∀p,P p→wfC p=true∧allT T p) (hs:∀p,P p→wfC (sb p s b)=true∧allT T (sb p s b)∧m30 (sb p s b)≤m30 p*B)
  (hl:(ps.flatMap pfR).length+2*ns.length+(pfR b).length≤540000000000):PK B T ns ps (bX sb s b ns ps):=by
 obtain⟨Y,Z⟩:=mH (sb:=sb) (s:=s) (b:=b) (ns:=ns) (ps:=ps);obtain⟨⟨J,h1,h2⟩,h3⟩:=aEt (sb:=sb) (Rel:=fun p q=>P p→(P q∧m30 q≤m30 p)) (fun p h=>⟨h,le_refl _⟩)
  (fun p q r N ab h=>by
   obtain⟨a1,a2⟩:=N h;obtain⟨b1,b2⟩:=ab a1
   exact⟨b1,le_trans b2 a2⟩) (s:=s) (b:=b) (ns:=ns) (ps:=ps) (fun p n z ac h=>hz p n z h ac) hl
 have I:∀q∈J,P q:=fun q I=>by
  obtain⟨p,hp,N⟩:=h1.mem q I;exact(N (W p hp)).1
 have hA:A2 (fun p q=>m30 q≤m30 p) ps J:=by
  clear h2 I hl h3 Y Z
  induction h1 with
  | nil=>exact .nil
  | cons r _ ih2=>exact .cons (r (W _ ζ)).2 (ih2 fun p hp=>W p (κ _ hp))
 have hup:∀k:Nat,k≤k*B:=fun k=>Bg _ hB
 refine⟨Y,Z,fun x hx=>?_,?_,h3⟩
 ·rcases h2 with h2 | h2
  ·rw[h2] at hx;exact aa x (I x hx)
  ·rw[h2] at hx;obtain⟨q,O,rfl⟩:=Ad.1 hx;exact⟨(hs q (I q O)).1,(hs q (I q O)).2.1⟩
 ·rcases h2 with h2 | h2
  ·rw[h2];exact A2.mono (fun p q h=>le_trans h (hup _)) hA
  ·rw[h2];clear h2 h3 Y Z hl h1;have key:∀{ps J:List Core},A2 (fun p q=>m30 q≤m30 p) ps J→(∀q∈J,P q)→A2 (fun p q=>m30 q≤m30 p*B) ps (J.map fun p=>sb p s b):=by
    intro ps J h
    induction h with
    | nil=>intro _;exact .nil
    | cons r _ ih=>exact fun I=>.cons (le_trans (hs _ (I _ ζ)).2.2 (Ay _ r)) (ih fun q h=>I q (κ _ h))
   exact key hA I
theorem aFh {B:Nat}{ps I:List Core}(h:A2 (fun p q=>m30 q≤m30 p*B) ps I):cK I≤cK ps*B:=by
 induction h with
 | nil=>rw[cK];exact Aj _
 | cons r _ J=>rw[cK,cK,A5];omega
theorem aFb {B:Nat}(q:1≤B):∀{ts:List Ty}{ns:List Str}{ps:List Core}{bs:List Bind},A2 (fun(b:Bind) n=>w30 n≤w30 b.name) bs ns→A2 (fun(b:Bind) p=>m30 p≤m30 b.body*B) bs ps→fR (mkB ts ns ps)≤fR bs*B
 | [],_,_,_,_,_=>by unfold mkB;rw[fR];exact Aj _
 | t::ts,_,_,_,.nil,.nil=>by unfold mkB;rw[fR];exact Aj _
 | t::ts,n::ns,p::ps,.mk s ty c::bs,.cons h1 h2,.cons h3 h4=>by
  unfold mkB;rw[fR,fR];have:=aFb q (ts:=ts) h2 h4;have h1:w30 n≤w30 s:=h1;have h3:m30 p≤m30 c*B:=h3;have h5:1+w30 s≤(1+w30 s)*B:=Bg _ q;rw[A5,A5];omega
section
variable {sb:Core→Str→Core→Core}{B:Nat}{T:Ty→Prop}{f n:Int}{nm:Str}{t:Ty}{ks:List Core}{bs:List Bind}{al:List Alt}{s:Str}{b:Core}
theorem aPa (N:1≤B) {l:List Alt}(h:∀a∈l,A2 (fun p q=>m30 q≤m30 p*B) [a.body] (bX sb s b a.vars [a.body]).2∧A2 NR a.vars (bX sb s b a.vars [a.body]).1):iC (l.map (jL sb s b))≤iC l*B:=by
 induction l with
 | nil=>exact Aj _
 | cons a l J=>
  obtain⟨af,an,anm,vs,I⟩:=a;obtain⟨g1,g2⟩:=h _ ζ;have:=J fun x hx=>h x (κ _ hx)
  have g1:A2 (fun p q=>m30 q≤m30 p*B) [I] (bX sb s b vs [I]).2:=g1;have g2:A2 NR vs (bX sb s b vs [I]).1:=g2;have g4:=aEc g2;have g3:m30 ((bX sb s b vs [I]).2.headD I)≤m30 I*B:=by
   cases hx:(bX sb s b vs [I]).2 with
   | nil=>rw[hx] at g1;cases g1
   | cons y l'=>
    rw[hx] at g1;cases g1 with
    | cons h _=>exact h
  have e:jL sb s b (Alt.mk af an anm vs I)=.mk af an anm (bX sb s b vs [I]).1 ((bX sb s b vs [I]).2.headD I):=rfl;rw[Am,e,iC,iC];have g5:1+w30 anm+(vs.map fun v=>1+w30 v).sum≤(1+w30 anm+(vs.map fun v=>1+w30 v).sum)*B:=Bg _ N;rw[A5,A5 (1+w30 anm+_)];omega
theorem aNc (J:1≤B) (hg:PK B T (gvN f nm bs) (ks++bs.map Bind.body) (bX sb s b (gvN f nm bs) (ks++bs.map Bind.body))) (ha:∀a∈al,PK B T a.vars [a.body] (bX sb s b a.vars [a.body]))
  (h0:T t) (hb:∀x∈bs,T x.ty) (O:f=5∨f=6∨f=7→(∃k,ks=[k])∧bs=[]∧al=[]) (w0:f=1→ks=[]∧bs=[]∧al=[]):
  wfC (oM sb s b (.mk f n nm t ks bs al))=true∧allT T (oM sb s b (.mk f n nm t ks bs al))∧m30 (oM sb s b (.mk f n nm t ks bs al))≤m30 (.mk f n nm t ks bs al)*B:=by
 have W:∀a∈al,wfC (jL sb s b a).body=true∧allT T (jL sb s b a).body:=fun a ha'=>by
  show wfC ((bX sb s b a.vars [a.body]).2.headD a.body)=true∧allT T ((bX sb s b a.vars [a.body]).2.headD a.body);obtain⟨y,hy⟩:=Bk.1 (ha a ha').len2;rw[hy];exact(ha a ha').wf y (by rw[hy];exact Aa.2 rfl)
 have e4:iC (al.map (jL sb s b))≤iC al*B:=aPa J fun a ha'=>⟨(ha a ha').sm,(ha a ha').nm⟩
 rw[oM];unfold zNm zKs zBs;generalize bX sb s b (gvN f nm bs) (ks++bs.map Bind.body)=r at hg ⊢;obtain⟨Y,N⟩:=r;obtain⟨l1,l2,q,Z,I⟩:=hg;dsimp only at *;refine⟨aQt (fun hf=>?_) (fun hf=>?_) (fun x hx=>(q x (Bl hx)).1) (fun x hx=>(q _ (mem_of_mem_drop (oX hx).1)).1) (fun x hx=>?_),?_,?_⟩
 ·obtain⟨⟨y,rfl⟩,rfl,rfl⟩:=O hf;obtain⟨y',rfl⟩:=Bk.1 (show N.length=1 from l2);exact⟨⟨y',rfl⟩,rfl,rfl⟩
 ·obtain⟨rfl,rfl,rfl⟩:=w0 hf;exact⟨rfl,rfl,rfl⟩
 ·obtain⟨a,ha',rfl⟩:=Ad.1 hx;exact(W a ha').1
 ·rw[allT];refine⟨h0,tC.2 fun x hx=>(q x (Bl hx)).2,tF.2 fun x hx=>?_,tI.2 fun x hx=>?_⟩
  ·obtain⟨h1,h2⟩:=oX hx;obtain⟨y,hy,aa⟩:=Ad.1 h2;exact⟨by rw[←aa];exact hb y hy,(q _ (mem_of_mem_drop h1)).2⟩
  ·obtain⟨a,ha',rfl⟩:=Ad.1 hx;exact(W a ha').2
 ·rw[m30,m30];have e1:w30 (if f=5 then Y.headD nm else nm)≤w30 nm:=by
   split
   ·rename_i hf;unfold gvN at I;rw[ξ hf] at I;cases I with
    | cons h _=>exact h.w
   ·exact le_refl _
  have e2:cK (N.take ks.length)≤cK ks*B:=by
   have:=(Z.take ks.length)
   rw[take_left] at this;exact aFh this
  have e3:fR (mkB (bs.map Bind.ty) Y (N.drop ks.length))≤fR bs*B:=by
   by_cases hf:f=5
   ·obtain⟨_,rfl,_⟩:=O (.inl hf);show fR (mkB [] _ _)≤_;unfold mkB;rw[fR];exact Aj _
   ·have h4:=I;unfold gvN at h4;rw[φ hf,Bd] at h4;have h5:=Z.drop ks.length;rw[drop_left] at h5;exact aFb J (A2.mapL (A2.mono (fun a b h=>h.w) h4)) (A2.mapL h5)
  have e5:1+w30 nm≤(1+w30 nm)*B:=Bg _ J;rw[A5,A5,A5];omega
end
abbrev Loc:Type:=Int→Str→Ty→Nat→List (Str×Ty)→List (Str×List Str)→Prop
def bhd (b:Bind):Str×Ty:=(b.name,b.ty)
def ahd (a:Alt):Str×List Str:=(a.name,a.vars)
mutual
def cE (q:Loc):Core→Prop
 | .mk f _ s t ks bs al=>q f s t ks.length (bs.map bhd) (al.map ahd)∧aNg q ks∧aNh q bs∧aNi q al
def aNg (q:Loc):List Core→Prop
 | []=>True
 | c::l=>cE q c∧aNg q l
def aNh (q:Loc):List Bind→Prop
 | []=>True
 | .mk _ _ c::l=>cE q c∧aNh q l
def aNi (q:Loc):List Alt→Prop
 | []=>True
 | .mk _ _ _ _ c::l=>cE q c∧aNi q l
end
theorem aBh {q:Loc}:∀{l:List Core},aNg q l↔∀x∈l,cE q x
 | []=>by simp[aNg]
 | c::l=>by rw[aNg,aBh (l:=l)];simp
theorem aBi {q:Loc}:∀{l:List Bind},aNh q l↔∀x∈l,cE q x.body
 | []=>by simp[aNh]
 | .mk s t c::l=>by rw[aNh,aBi (l:=l)];simp[Bind.body]
theorem aBj {q:Loc}:∀{l:List Alt},aNi q l↔∀x∈l,cE q x.body
 | []=>by simp[aNi]
 | .mk f n s v c::l=>by rw[aNi,aBj (l:=l)];simp[Alt.body]
theorem aT {q:Loc}{f n:Int}{s:Str}{t:Ty}{ks:List Core}{bs:List Bind}{al:List Alt}:
  cE q (.mk f n s t ks bs al)↔q f s t ks.length (bs.map bhd) (al.map ahd)∧(∀x∈ks,cE q x)∧(∀x∈bs,cE q x.body)∧∀x∈al,cE q x.body:=by
 rw[cE,aBh,aBi,aBj]
def okF (f:Int) (nk nb na:Nat):Bool:=
 if f=4∨f=10 then decide (nk=2∧nb=0∧na=0)
 else if f=5∨f=6∨f=7 then decide (nk=1∧nb=0∧na=0)
 else if f=8 then decide (nk=1∧na=0)
 else if f=9 then decide (nk=1∧nb=0)
 else decide (nk=0∧nb=0∧na=0)
def lw (s:Str) (bh:List (Str×Ty)) (ah:List (Str×List Str)):Nat:=
 1+w30 s+(bh.map fun p=>1+w30 p.1).sum+(ah.map fun p=>1+w30 p.1+(p.2.map fun v=>1+w30 v).sum).sum
theorem aHl (n:Nat):¬bG n=[]:=by unfold bG;split<;>simp
theorem xL (l:List Str):¬aZ l=[]:=aHl _
def QL (X:Nat):Loc:=fun f s t nk bh ah=>okF f nk bh.length ah.length=true∧(f=7→t=zTy∧¬s=[])∧wfS t=true∧(∀p∈bh,wfS p.2=true)∧lw s bh ah≤X∧(f=5→nh s)∧(∀p∈bh,nh p.1)∧∀p∈ah,∀v∈p.2,nh v
theorem aKm {f:Int}{nk nb q:Nat}(h:okF f nk nb q=true):(f=5∨f=6∨f=7→nk=1∧nb=0∧q=0)∧(f=1→nk=0∧nb=0∧q=0):=by
 unfold okF at h;refine⟨fun hf=>?_,fun hf=>?_⟩
 ·rw[φ (by omega),ξ hf] at h;exact ψ h
 ·rw[φ (by omega),φ (by omega),φ (by omega),φ (by omega)] at h;exact ψ h
section
variable {X:Nat}{f n:Int}{s:Str}{t:Ty}{ks:List Core}{bs:List Bind}{al:List Alt}
theorem cO (h:cE (QL X) (.mk f n s t ks bs al)) (hf:f=5∨f=6∨f=7):(∃k,ks=[k])∧bs=[]∧al=[]:=by
 obtain⟨h1,_⟩:=aT.1 h;obtain⟨g1,g2,g3⟩:=(aKm h1.1).1 hf;rw[θ] at g2 g3;exact⟨Bk.1 g1,Bn.1 g2,Bn.1 g3⟩
theorem q9 (h:cE (QL X) (.mk f n s t ks bs al)) (hf:f=1):ks=[]∧bs=[]∧al=[]:=by
 obtain⟨h1,_⟩:=aT.1 h;obtain⟨g1,g2,g3⟩:=(aKm h1.1).2 hf;rw[θ] at g2 g3;exact⟨Bn.1 g1,Bn.1 g2,Bn.1 g3⟩
end
mutual
theorem aBk {X:Nat}:∀c:Core,cE (QL X) c→wfC c=true
 | .mk f n s t ks bs al,h=>by
  obtain⟨h1,h2,h3,h4⟩:=aT.1 h;exact aQt (fun hf=>cO h hf) (fun hf=>q9 h hf) (fun x hx=>aNq ks h2 x hx) (fun x hx=>aNr bs h3 x hx) (fun x hx=>aNs al h4 x hx)
theorem aNq {X:Nat}:∀l:List Core,(∀x∈l,cE (QL X) x)→∀x∈l,wfC x=true
 | c::l,h,x,hx=>by
  rcases Ao.1 hx with e | hx
  ·rw[e];exact aBk c (h _ ζ)
  ·exact aNq l (fun x hx=>h x (κ _ hx)) x hx
theorem aNr {X:Nat}:∀l:List Bind,(∀x∈l,cE (QL X) x.body)→∀x∈l,wfC x.body=true
 | .mk s t c::l,h,x,hx=>by
  rcases Ao.1 hx with e | hx
  ·rw[e];exact aBk c (h _ ζ)
  ·exact aNr l (fun x hx=>h x (κ _ hx)) x hx
theorem aNs {X:Nat}:∀l:List Alt,(∀x∈l,cE (QL X) x.body)→∀x∈l,wfC x.body=true
 | .mk f n s v c::l,h,x,hx=>by
  rcases Ao.1 hx with e | hx
  ·rw[e];exact aBk c (h _ ζ)
  ·exact aNs l (fun x hx=>h x (κ _ hx)) x hx
end
theorem x8 {o:List Str}{x y:Str}:y∈pQ o x↔y∈o∨y=x:=by
 unfold pQ;split
 ·rename_i h;exact⟨.inl,fun q=>q.elim id fun e=>by rw[e];exact h⟩
 ·rw[χ,Aa]
theorem mK {y:Str}:∀{l o:List Str},y∈kM o l↔y∈o∨y∈l
 | [],o=>by simp[kM]
 | x::l,o=>by
  show y∈kM (pQ o x) l↔_;rw[mK (l:=l),x8,Ao,or_assoc]
theorem aDy {f:Int}{s y:Str}:∀{l o:List Str},y∈yB f s o l↔y∈o∨(y∈l∧(¬f=7∨¬y=s))
 | [],o=>by simp[yB]
 | x::l,o=>by
  show y∈yB f s (n8 f s o x) l↔_;rw[aDy (l:=l)];unfold n8;split
  ·rename_i h;rw[mK,Aa,Ao];constructor
   ·rintro((h1 | h1) | h1)
    ·exact .inl h1
    ·exact .inr ⟨.inl h1,by rw[h1];exact h⟩
    ·exact .inr ⟨.inr h1.1,h1.2⟩
   ·rintro(h1 | ⟨h1 | h1,h2⟩)
    ·exact .inl (.inl h1)
    ·exact .inl (.inr h1)
    ·exact .inr ⟨h1,h2⟩
  ·rename_i h;rw[Ao];constructor
   ·rintro(h1 | h1)
    ·exact .inl h1
    ·exact .inr ⟨.inr h1.1,h1.2⟩
   ·rintro(h1 | ⟨h1 | h1,h2⟩)
    ·exact .inl h1
    ·exact absurd (by rw[←h1];exact h2) h
    ·exact .inr ⟨h1,h2⟩
theorem aDw {f:Int}{s y:Str}:∀{l:List Core}{o:List Str},y∈jQ f s l o↔y∈o∨∃k∈l,y∈tyR k∧(¬f=7∨¬y=s)
 | [],o=>by rw[jQ];simp
 | c::l,o=>by
  rw[jQ,aDw (l:=l),aDy,or_assoc];simp
theorem aDz {y:Str}:∀{l:List Bind}{o:List Str},y∈iR l o↔y∈o∨∃b∈l,y∈tfR b.ty∨y∈tyR b.body
 | [],o=>by rw[iR];simp
 | .mk s t c::l,o=>by
  rw[iR,aDz (l:=l),mK,mK];simp only[Ao,exists_eq_or_imp,Bind.ty,Bind.body,or_assoc]
theorem aD0 {y:Str}:∀{l:List Alt}{o:List Str},y∈jR l o↔y∈o∨∃a∈l,y∈tyR a.body
 | [],o=>by rw[jR];simp
 | .mk f n s v c::l,o=>by
  rw[jR,aD0 (l:=l),mK];simp only[Ao,exists_eq_or_imp,Alt.body,or_assoc]
theorem bK {f n:Int}{s:Str}{t:Ty}{ks:List Core}{bs:List Bind}{al:List Alt}{y:Str}:
  y∈tyR (.mk f n s t ks bs al)↔y∈tfR t∨(∃k∈ks,y∈tyR k∧(¬f=7∨¬y=s))∨(∃b∈bs,y∈tfR b.ty∨y∈tyR b.body)∨∃a∈al,y∈tyR a.body:=by
 rw[tyR,aD0,aDz,aDw,mK];simp[or_assoc]
theorem oW:∀{l o:List Str},o.Nodup→(kM o l).Nodup
 | [],_,h=>h
 | x::l,o,h=>oW (l:=l) (o:=pQ o x) (aKu h)
theorem aIo {f:Int}{s:Str}:∀{l o:List Str},o.Nodup→(yB f s o l).Nodup
 | [],_,h=>h
 | x::l,o,h=>aIo (l:=l) (o:=n8 f s o x) (by unfold n8;split;exact oW h;exact h)
theorem aIm {f:Int}{s:Str}:∀{l:List Core}{o:List Str},o.Nodup→(jQ f s l o).Nodup
 | [],o,h=>by rw[jQ];exact h
 | c::l,o,h=>by rw[jQ];exact aIm (aIo h)
theorem aIr:∀{l:List Bind}{o:List Str},o.Nodup→(iR l o).Nodup
 | [],o,h=>by rw[iR];exact h
 | .mk s t c::l,o,h=>by rw[iR];exact aIr (oW (oW h))
theorem aIs:∀{l:List Alt}{o:List Str},o.Nodup→(jR l o).Nodup
 | [],o,h=>by rw[jR];exact h
 | .mk f n s v c::l,o,h=>by rw[jR];exact aIs (oW h)
theorem aS8 (c:Core):(tyR c).Nodup:=by
 obtain⟨f,n,s,t,ks,bs,al⟩:=c;rw[tyR];exact aIs (aIr (aIm (oW nodup_nil)))
theorem dD {a:List Str}{c:Core}(h:∀x∈tyR c,x∈a):(tyR c).length≤a.length:=fZ _ _ (aS8 c) h
mutual
def tlC:Core→Nat
 | .mk f _ _ _ ks bs al=>(if f=7 then 1 else 0)+max (iJ ks) (max (qI bs) (pN al))
def iJ:List Core→Nat
 | []=>0
 | c::l=>max (tlC c) (iJ l)
def qI:List Bind→Nat
 | []=>0
 | .mk _ _ c::l=>max (tlC c) (qI l)
def pN:List Alt→Nat
 | []=>0
 | .mk _ _ _ _ c::l=>max (tlC c) (pN l)
end
theorem aBs {K:Nat}:∀{l:List Core},iJ l≤K↔∀x∈l,tlC x≤K
 | []=>by simp[iJ]
 | c::l=>by rw[iJ,max_le,aBs (l:=l)];simp
theorem aBt {K:Nat}:∀{l:List Bind},qI l≤K↔∀x∈l,tlC x.body≤K
 | []=>by simp[qI]
 | .mk s t c::l=>by rw[qI,max_le,aBt (l:=l)];simp[Bind.body]
theorem aBu {K:Nat}:∀{l:List Alt},pN l≤K↔∀x∈l,tlC x.body≤K
 | []=>by simp[pN]
 | .mk f n s v c::l=>by rw[pN,max_le,aBu (l:=l)];simp[Alt.body]
theorem yK {K:Nat}{f n:Int}{s:Str}{t:Ty}{ks:List Core}{bs:List Bind}{al:List Alt}:
  tlC (.mk f n s t ks bs al)≤(if f=7 then 1 else 0)+K↔(∀x∈ks,tlC x≤K)∧(∀x∈bs,tlC x.body≤K)∧∀x∈al,tlC x.body≤K:=by
 rw[tlC,Nat.add_le_add_iff_left,max_le,max_le,aBs,aBt,aBu]
theorem kW {f n:Int}{s:Str}{t:Ty}{ks:List Core}{bs:List Bind}{al:List Alt}:
  (∀x∈ks,tlC x+(if f=7 then 1 else 0)≤tlC (.mk f n s t ks bs al))∧(∀x∈bs,tlC x.body≤tlC (.mk f n s t ks bs al))∧∀x∈al,tlC x.body≤tlC (.mk f n s t ks bs al):=by
 have h:=(yK (K:=max (iJ ks) (max (qI bs) (pN al))) (f:=f) (n:=n) (s:=s) (t:=t) (ks:=ks) (bs:=bs) (al:=al)).1 (by rw[tlC];exact le_refl _)
 rw[tlC];exact⟨fun x hx=>by have:=h.1 x hx;omega,fun x hx=>by have:=h.2.1 x hx;omega,fun x hx=>by have:=h.2.2 x hx;omega⟩
def Alg.k (A:Alg):Nat:=tW A zTy r0
mutual
def cw (A:Alg) (E:Nat):Core→(Str→Nat)→Nat
 | .mk f _ s t ks bs al,ρ=>max A.k (max (tW A t ρ) (max (cws A E ks (if f=7 then fP ρ s E else ρ)) (max (cwb A E bs ρ) (cwa A E al ρ))))
def cws (A:Alg) (E:Nat):List Core→(Str→Nat)→Nat
 | [],_=>0
 | c::l,ρ=>max (cw A E c ρ) (cws A E l ρ)
def cwb (A:Alg) (E:Nat):List Bind→(Str→Nat)→Nat
 | [],_=>0
 | .mk _ t c::l,ρ=>max (max (tW A t ρ) (cw A E c ρ)) (cwb A E l ρ)
def cwa (A:Alg) (E:Nat):List Alt→(Str→Nat)→Nat
 | [],_=>0
 | .mk _ _ _ _ c::l,ρ=>max (cw A E c ρ) (cwa A E l ρ)
end
section
variable {A:Alg}{E K:Nat}{ρ ρ':Str→Nat}
theorem aSc:∀{l:List Core},cws A E l ρ≤K↔∀x∈l,cw A E x ρ≤K
 | []=>by simp[cws]
 | c::l=>by rw[cws,max_le,aSc (l:=l)];simp
theorem aSd:∀{l:List Bind},cwb A E l ρ≤K↔∀x∈l,tW A x.ty ρ≤K∧cw A E x.body ρ≤K
 | []=>by simp[cwb]
 | .mk s t c::l=>by rw[cwb,max_le,max_le,aSd (l:=l)];simp[Bind.body,Bind.ty]
theorem aSe:∀{l:List Alt},cwa A E l ρ≤K↔∀x∈l,cw A E x.body ρ≤K
 | []=>by simp[cwa]
 | .mk f n s v c::l=>by rw[cwa,max_le,aSe (l:=l)];simp[Alt.body]
theorem fG {f n:Int}{s:Str}{t:Ty}{ks:List Core}{bs:List Bind}{al:List Alt}:
  cw A E (.mk f n s t ks bs al) ρ≤K↔A.k≤K∧tW A t ρ≤K∧(∀x∈ks,cw A E x (if f=7 then fP ρ s E else ρ)≤K)∧(∀x∈bs,tW A x.ty ρ≤K∧cw A E x.body ρ≤K)∧∀x∈al,cw A E x.body ρ≤K:=by
 rw[cw,max_le,max_le,max_le,max_le,aSc,aSd,aSe]
end
theorem a1e {A:Alg}{E:Nat}{ρ:Str→Nat}(c:Core):A.k≤cw A E c ρ:=by cases c;exact(fG.1 (le_refl _)).1
theorem lW {A:Alg}{E:Nat}:∀(k:Nat) (c:Core),b7 c≤k→∀{ρ ρ':Str→Nat}{K:Nat},(∀x∈tyR c,ρ x=ρ' x)→cw A E c ρ'≤K→cw A E c ρ≤K
 | 0,c,h,_,_,_,_,_=>by have:=c9 c;omega
 | k+1,.mk f n s t ks bs al,h,ρ,ρ',K,hx,N=>by
  obtain⟨q,I,J,_⟩:= @eQ f n s t ks bs al;obtain⟨g0,g1,g2,g3,g4⟩:=fG.1 N;refine fG.2 ⟨g0,?_,fun x hm=>?_,fun x hm=>⟨?_,?_⟩,fun x hm=>?_⟩
  ·rw[iP (tn t) t (le_refl _) fun y hy=>hx y (bK.2 (.inl hy))];exact g1
  ·refine lW k x (by have:=q x hm;omega) (fun y hy=>?_) (g2 x hm);by_cases h7:f=7
   ·rw[ξ h7,ξ h7];unfold fP;by_cases e:y=s
    ·rw[ξ e,ξ e]
    ·rw[φ e,φ e];exact hx y (bK.2 (.inr (.inl ⟨x,hm,hy,.inr e⟩)))
   ·rw[φ h7,φ h7];exact hx y (bK.2 (.inr (.inl ⟨x,hm,hy,.inl h7⟩)))
  ·rw[iP (tn x.ty) x.ty (le_refl _) fun y hy=>hx y (bK.2 (.inr (.inr (.inl ⟨x,hm,.inl hy⟩))))];exact(g3 x hm).1
  ·exact lW k x.body (by have:=I x hm;omega) (fun y hy=>hx y (bK.2 (.inr (.inr (.inl ⟨x,hm,.inr hy⟩))))) (g3 x hm).2
  ·exact lW k x.body (by have:=J x hm;omega) (fun y hy=>hx y (bK.2 (.inr (.inr (.inr ⟨x,hm,hy⟩))))) (g4 x hm)
theorem o8 {A:Alg}{E:Nat}{c:Core}{ρ ρ':Str→Nat}(h:∀x∈tyR c,ρ x=ρ' x):cw A E c ρ=cw A E c ρ':=
 Nat.le_antisymm (lW _ c (le_refl _) h (le_refl _)) (lW _ c (le_refl _) (fun x hx=>(h x hx).symm) (le_refl _))
theorem qY {A:Alg}{E E':Nat}(q:E≤E'):∀(k:Nat) (c:Core),b7 c≤k→∀{ρ ρ':Str→Nat}{K:Nat},(∀x,ρ x≤ρ' x)→cw A E' c ρ'≤K→cw A E c ρ≤K
 | 0,c,h,_,_,_,_,_=>by have:=c9 c;omega
 | k+1,.mk f n s t ks bs al,h,ρ,ρ',K,hx,O=>by
  obtain⟨I,J,N,_⟩:= @eQ f n s t ks bs al;obtain⟨g0,g1,g2,g3,g4⟩:=fG.1 O;refine fG.2 ⟨g0,le_trans (aBz t hx) g1,fun x hm=>?_,fun x hm=>⟨le_trans (aBz x.ty hx) (g3 x hm).1,?_⟩,fun x hm=>?_⟩
  ·refine qY q k x (by have:=I x hm;omega) (fun y=>?_) (g2 x hm);by_cases h7:f=7
   ·rw[ξ h7,ξ h7];unfold fP;split
    ·exact q
    ·exact hx y
   ·rw[φ h7,φ h7];exact hx y
  ·exact qY q k x.body (by have:=J x hm;omega) hx (g3 x hm).2
  ·exact qY q k x.body (by have:=N x hm;omega) hx (g4 x hm)
theorem sQ {A:Alg}{E E':Nat}(q:E≤E') {c:Core}{ρ ρ':Str→Nat}(h:∀x,ρ x≤ρ' x):cw A E c ρ≤cw A E' c ρ':=qY q _ c (le_refl _) h (le_refl _)
set_option maxHeartbeats 4000000
structure CG (D M X:Nat) (c:Core):Prop where
 q:cE (QL X) c
 dep:cw fD 0 c r0≤D
 sc:(tyR c).length+2*tlC c≤M
 sz:m30 c≤Big
section
variable {D M X:Nat}{f n:Int}{s:Str}{t:Ty}{ks:List Core}{bs:List Bind}{al:List Alt}
theorem a0n (p:Prop) [Decidable p]:(if p then fP r0 s 0 else r0)=r0:=by split;exact yQ s;rfl
theorem CG.kid (h:CG D M X (.mk f n s t ks bs al)) {x:Core}(hx:x∈ks):CG D M X x∧((tyR x).length+2*tlC x+(if f=7 then 1 else 0)≤M)∧m30 x<m30 (.mk f n s t ks bs al):=by
 obtain⟨h1,h2,h3,h4⟩:=h;have g:=fJ hx;have gl:m30 x<m30 (.mk f n s t ks bs al):=by rw[m30];omega
 have g2:=(kW (f:=f) (n:=n) (s:=s) (t:=t) (ks:=ks) (bs:=bs) (al:=al)).1 x hx;have g3:=(fG.1 h2).2.2.1 x hx;rw[a0n] at g3;have g4:(tyR x).length≤(tyR (.mk f n s t ks bs al)).length+(if f=7 then 1 else 0):=by
  by_cases h7:f=7
  ·rw[ξ h7];refine dD (a:=s::tyR (.mk f n s t ks bs al)) fun y hy=>?_
   by_cases e:y=s
   ·rw[e];exact ζ
   ·exact κ _ (bK.2 (.inr (.inl ⟨x,hx,hy,.inr e⟩)))
  ·rw[φ h7];exact dD fun y hy=>bK.2 (.inr (.inl ⟨x,hx,hy,.inl h7⟩))
 have g5:(tyR x).length+2*tlC x+(if f=7 then 1 else 0)≤M:=by split at g2<;>split at g4<;>simp_all<;>omega
 exact⟨⟨(aT.1 h1).2.1 x hx,g3,by omega,by omega⟩,g5,gl⟩
theorem CG.bind (h:CG D M X (.mk f n s t ks bs al)) {x:Bind}(hx:x∈bs):CG D M X x.body∧m30 x.body<m30 (.mk f n s t ks bs al):=by
 obtain⟨h1,h2,h3,h4⟩:=h;have g:=mM hx;have gl:m30 x.body<m30 (.mk f n s t ks bs al):=by rw[m30];omega
 have g2:=(kW (f:=f) (n:=n) (s:=s) (t:=t) (ks:=ks) (bs:=bs) (al:=al)).2.1 x hx;have g4:(tyR x.body).length≤(tyR (.mk f n s t ks bs al)).length:=dD fun y hy=>bK.2 (.inr (.inr (.inl ⟨x,hx,.inr hy⟩)))
 exact⟨⟨(aT.1 h1).2.2.1 x hx,((fG.1 h2).2.2.2.1 x hx).2,by omega,by omega⟩,gl⟩
theorem CG.alt (h:CG D M X (.mk f n s t ks bs al)) {x:Alt}(hx:x∈al):CG D M X x.body∧m30 x.body<m30 (.mk f n s t ks bs al):=by
 obtain⟨h1,h2,h3,h4⟩:=h;have g:=i6 hx;have gl:m30 x.body<m30 (.mk f n s t ks bs al):=by rw[m30];omega
 have g2:=(kW (f:=f) (n:=n) (s:=s) (t:=t) (ks:=ks) (bs:=bs) (al:=al)).2.2 x hx;have g4:(tyR x.body).length≤(tyR (.mk f n s t ks bs al)).length:=dD fun y hy=>bK.2 (.inr (.inr (.inr ⟨x,hx,hy⟩)))
 exact⟨⟨(aT.1 h1).2.2.2 x hx,(fG.1 h2).2.2.2.2 x hx,by omega,by omega⟩,gl⟩
theorem CG.ty (h:CG D M X (.mk f n s t ks bs al)):wfS t=true∧fvm t≤M+D∧∀b∈bs,wfS b.ty=true∧fvm b.ty≤M+D:=by
 obtain⟨h1,h2,h3,h4⟩:=h;obtain⟨⟨_,_,q,J,_⟩,_⟩:=aT.1 h1;obtain⟨_,O,_,N,_⟩:=fG.1 h2;refine⟨q,?_,fun b hb=>?_⟩
 ·have g1:=sL (tn t) t (le_refl _) q;have g2:(tfR t).length≤(tyR (.mk f n s t ks bs al)).length:=fZ _ _ (aBw t) fun y hy=>bK.2 (.inl hy)
  omega
 ·have I:=J (bhd b) (Ad.2 ⟨b,hb,rfl⟩);have g1:=sL (tn b.ty) b.ty (le_refl _) I;have g2:(tfR b.ty).length≤(tyR (.mk f n s t ks bs al)).length:=fZ _ _ (aBw b.ty) fun y hy=>bK.2 (.inr (.inr (.inl ⟨b,hb,.inl hy⟩)))
  have g3:=(N b hb).1
  exact⟨I,by omega⟩
end
theorem aIh {K:Nat}:∀{l:List Core},(∀x∈l,tyM x≤K)→aQw l≤K
 | [],_=>by rw[aQw];exact Aj _
 | c::l,h=>by
  rw[aQw];have:=h c ζ;have:=aIh (l:=l) fun x hx=>h x (κ _ hx)
  omega
theorem aIi {K:Nat}:∀{l:List Bind},(∀x∈l,fw x.ty≤K∧tyM x.body≤K)→aIj l≤K
 | [],_=>by rw[aIj];exact Aj _
 | .mk s t c::l,h=>by
  rw[aIj];have h1:fw t≤K∧tyM c≤K:=h _ ζ;have:=aIi (l:=l) fun x hx=>h x (κ _ hx)
  omega
theorem aIk {K:Nat}:∀{l:List Alt},(∀x∈l,tyM x.body≤K)→aOa l≤K
 | [],_=>by rw[aOa];exact Aj _
 | .mk f n s v c::l,h=>by
  rw[aOa];have h1:tyM c≤K:=h _ ζ;have:=aIk (l:=l) fun x hx=>h x (κ _ hx)
  omega
theorem CG.tyM {D M X:Nat}:∀(k:Nat) (c:Core),m30 c≤k→CG D M X c→tyM c≤M+D
 | 0,c,h,_=>by have:=dF c;omega
 | k+1,.mk f n s t ks bs al,h,hc=>by
  obtain⟨h1,h2,h3⟩:=hc.ty;have g1:=aR7 h1;have g2:=hc.sc;have g3:=aIh (K:=M+D) (l:=ks) fun x hx=>CG.tyM k x (by have:=(hc.kid hx).2.2;omega) (hc.kid hx).1
  have g4:=aIi (K:=M+D) (l:=bs) fun x hx=>⟨le_trans (aR7 (h3 x hx).1) (h3 x hx).2,CG.tyM k x.body (by have:=(hc.bind hx).2;omega) (hc.bind hx).1⟩
  have g5:=aIk (K:=M+D) (l:=al) fun x hx=>CG.tyM k x.body (by have:=(hc.alt hx).2;omega) (hc.alt hx).1
  rw[Go.Proofs.YtockgoadliilhaaGreatDoor.tyM];omega
theorem CG.allT {D M X:Nat}{p:Ty→Prop}(hp:∀t,wfS t=true→fvm t≤M+D→p t):∀(k:Nat) (c:Core),m30 c≤k→CG D M X c→allT p c
 | 0,c,h,_=>by have:=dF c;omega
 | k+1,.mk f n s t ks bs al,h,hc=>by
  obtain⟨h1,h2,h3⟩:=hc.ty;rw[Go.Proofs.YtockgoadliilhaaGreatDoor.allT]
  exact⟨hp t h1 h2,tC.2 fun x hx=>CG.allT hp k x (by have:=(hc.kid hx).2.2;omega) (hc.kid hx).1,
   tF.2 fun x hx=>⟨hp x.ty (h3 x hx).1 (h3 x hx).2,CG.allT hp k x.body (by have:=(hc.bind hx).2;omega) (hc.bind hx).1⟩,
   tI.2 fun x hx=>CG.allT hp k x.body (by have:=(hc.alt hx).2;omega) (hc.alt hx).1⟩
theorem CG.tyG {D M X:Nat}(q:cQ 540000000000) (I:M+D≤700000) {c:Core}(hc:CG D M X c):Go.Proofs.YtockgoadliilhaaGreatDoor.allT TyG c:=hc.allT (fun t h1 h2=>aMh q t h1 (by omega)) _ c (le_refl _)
theorem CG.types {D M X:Nat}(q:M+D≤700000) {c:Core}(hc:CG D M X c):aU Tryz.prog 74 [.pa (aB c)] [] (aY (tyR c)) []∧(tyR c).length≤700000:=by
 have h1:=hc.tyM _ c (le_refl _);have h2:=bV c;have h3:=hc.sz;have h4:Big=250000000000:=rfl;exact⟨aAv _ c (le_refl _) (by omega) (by omega),by have:=hc.sc;omega⟩
noncomputable def sTR:Nat→Core→Str→Ty→Core
 | 0,c,_,_=>c
 | k+1,.mk f n nm t ks bs al,name,u=>
  if f=7∧(nm=name∨¬name∈tyR (.mk f n nm t ks bs al)) then .mk f n nm t ks bs al
  else if f=7∧nm∈tfR u then
   gH (fun t=>gP t [(name,u)]) (fun x=>sTR k x name u) (.mk f n (aZ (tfR u++ks.flatMap tyR)) t (ks.map fun x=>sTR k x nm (vT (aZ (tfR u++ks.flatMap tyR)))) bs al)
  else gH (fun t=>gP t [(name,u)]) (fun x=>sTR k x name u) (.mk f n nm t ks bs al)
structure UOk (u:Ty):Prop where
 wf:wfS u=true
 fv:fvm u≤700000
theorem UOk.ps {u:Ty}(h:UOk u) (name:Str):PsOk [(name,u)]:=⟨by simp,fun p hp=>by rw[Aa.1 hp];exact⟨h.wf,h.fv⟩,by simp⟩
theorem UOk.var (z:Str):UOk (vT z):=⟨aIc,by unfold vT;rw[aL0];decide⟩
theorem r7 (ps:List (Str×Ty)):gP zTy ps=zTy:=aBq (tn zTy) zTy (le_refl _) rfl ps fun p _ h=>by
 have:tfR zTy=[]:=rfl;rw[this] at h;cases h
theorem aZ4 (A:Alg) (ρ:Str→Nat) (name:Str) (u:Ty):aJj A ρ [(name,u)]=fP ρ name (tW A u ρ):=by
 funext x;unfold aJj fP;by_cases e:x=name
 ·rw[ξ e,Ch (by simp[e])]
 ·rw[φ e,Ci (by simp;exact fun h=>e h.symm)];rfl
structure SB (X:Nat) (c:Core) (name:Str) (u:Ty) (r:Core):Prop where
 imp:aU Tryz.prog 31 [.pa (aB c),Go.AM.T name,tyV u] [] (.pa (aB r)) []
 q:cE (QL X) r
 cw:∀(A:Alg) (E:Nat) (ρ:Str→Nat),cw A E r ρ≤cw A E c (fP ρ name (tW A u ρ))
 ty:∀x∈tyR r,x∈tyR c∨x∈tfR u
 tl:tlC r≤tlC c
 sz:m30 r≤m30 c
theorem xC {s s':Str}{J q:List (Str×Ty)}{N I:List (Str×List Str)}(hs:w30 s'≤w30 s) (hb:q.map (·.1)=J.map (·.1)) (ha:I=N):lw s' q I≤lw s J N:=by
 subst ha;unfold lw;have e:∀l:List (Str×Ty),(l.map fun p=>1+w30 p.1)=(l.map (·.1)).map fun x=>1+w30 x:=fun l=>by rw[A1];rfl
 rw[e J,e q,hb];omega
section
variable {X:Nat}{ts:Ty→Ty}{sb:Core→Core}{f n:Int}{nm nm1:Str}{t:Ty}{ks ks1:List Core}{bs:List Bind}{al:List Alt}
theorem aGr (h:QL X f nm t ks.length (bs.map bhd) (al.map ahd)) (hn:w30 nm1≤w30 nm) (N:f=5→nm1=nm) (O:f=7→¬nm1=[]) (hk:ks1.length=ks.length) (Y:ts zTy=zTy) (h0:wfS (ts t)=true) (hb:∀b∈bs,wfS (ts b.ty)=true)
  (h1:∀x∈ks1,cE (QL X) (sb x)) (h2:∀b∈bs,cE (QL X) (sb b.body)) (h3:∀a∈al,cE (QL X) (sb a.body)):cE (QL X) (gH ts sb (.mk f n nm1 t ks1 bs al)):=by
 obtain⟨g1,g2,g3,g4,g5,g6,g7,g8⟩:=h;rw[gH];have W:(al.map fun a=>Alt.mk a.form a.n a.name a.vars (sb a.body)).map ahd=al.map ahd:=by rw[A1];rfl
 have Z:((bs.map fun b=>Bind.mk b.name (ts b.ty) (sb b.body)).map bhd).map (·.1)=(bs.map bhd).map (·.1):=by rw[A1,A1,A1];rfl
 refine aT.2 ⟨⟨?_,fun h7=>⟨by rw[(g2 h7).1];exact Y,O h7⟩,h0,fun p hp=>?_,le_trans (xC hn Z W) g5,fun h5=>by rw[N h5];exact g6 h5,fun p hp=>?_,by rw[W];exact g8⟩,fun x hx=>?_,fun x hx=>?_,fun x hx=>?_⟩
 ·rw[θ,θ,θ,θ,θ,hk];rw[θ,θ] at g1;exact g1
 ·obtain⟨b,q,rfl⟩:=Ad.1 hp;obtain⟨J,I,rfl⟩:=Ad.1 q;exact hb J I
 ·obtain⟨b,q,rfl⟩:=Ad.1 hp;obtain⟨J,I,rfl⟩:=Ad.1 q;exact g7 (bhd J) (Ad.2 ⟨J,I,rfl⟩)
 ·obtain⟨y,hy,rfl⟩:=Ad.1 hx;exact h1 y hy
 ·obtain⟨y,hy,rfl⟩:=Ad.1 hx;exact h2 y hy
 ·obtain⟨y,hy,rfl⟩:=Ad.1 hx;exact h3 y hy
theorem aD3 (hf:tlC (.mk f n nm1 t ks1 bs al)≤tlC (.mk f n nm t ks bs al)) (h1:∀x∈ks1,tlC (sb x)≤tlC x) (h2:∀b∈bs,tlC (sb b.body)≤tlC b.body) (h3:∀a∈al,tlC (sb a.body)≤tlC a.body):
  tlC (gH ts sb (.mk f n nm1 t ks1 bs al))≤tlC (.mk f n nm t ks bs al):=by
 refine le_trans ?_ hf;rw[gH]
 conv=>rhs;rw[tlC]
 refine yK.2 ⟨fun x hx=>?_,fun x hx=>?_,fun x hx=>?_⟩
 ·obtain⟨y,hy,rfl⟩:=Ad.1 hx;exact le_trans (h1 y hy) (le_trans (aBs.1 (le_refl _) y hy) (C2 ..))
 ·obtain⟨y,hy,rfl⟩:=Ad.1 hx;exact le_trans (h2 y hy) (le_trans (aBt.1 (le_refl _) y hy) (le_trans (C2 ..) (Cy ..)))
 ·obtain⟨y,hy,rfl⟩:=Ad.1 hx;exact le_trans (h3 y hy) (le_trans (aBu.1 (le_refl _) y hy) (le_trans (Cy ..) (Cy ..)))
end
theorem yL {z:Str}:tfR (vT z)=[z]:=by unfold vT;rw[tfR,ξ rfl]
theorem tQ (hI:cQ 540000000000) {D M X:Nat}(hMD:M+D≤700000):∀(k:Nat) (c:Core),m30 c≤k→CG D M X c→∀(name:Str) (u:Ty),UOk u→SB X c name u (sTR k c name u):=by
 intro k
 induction k with
 | zero=>intro c h;have:=dF c;omega
 | succ k ih=>
 intro c h hc name u hu;have hTG:=hc.tyG hI hMD;obtain⟨hty,htl⟩:=hc.types hMD;have hcs:=bV c;have hsz:=hc.sz;have hBig:Big=250000000000:=rfl;have hfr:=oE (tn u) u (le_refl _) hu.wf (le_trans hu.fv (by decide));have hfl:=iL u;have hufv:=hu.fv;obtain⟨f,n,nm,t,ks,bs,al⟩:=c;obtain⟨ht0,ht1,W⟩:=hc.ty;have hq:=hc.q;obtain⟨q1,q2,q3,q4⟩:=aT.1 hq;rw[sTR];have hps:=hu.ps name;have htt:∀v,wfS v=true→fvm v≤M+D→wfS (gP v [(name,u)])=true∧aU Tryz.prog 78 [tyV v,aY [name],.one (.c (.sl 4 [b8 u]))] [] (tyV (gP v [(name,u)])) []:=fun v h1 h2=>aSg hI (tn v) v (le_refl _) h1 (by omega) _ hps
 have hcwt:∀v,wfS v=true→fvm v≤M+D→∀A ρ,tW A (gP v [(name,u)]) ρ≤tW A v (fP ρ name (tW A u ρ)):=fun v h1 h2 A ρ=>by
  have:=aWf A (tn v) v (le_refl _) h1 (by omega) _ hps ρ;rwa [aZ4] at this
 have htft:∀v,wfS v=true→∀x∈tfR (gP v [(name,u)]),x∈tfR v∨x∈tfR u:=fun v h1 x hx=>by
  rcases aIu (tn v) v (le_refl _) h1 _ x hx with h | ⟨p,hp,_,h⟩
  ·exact .inl h.1
  ·rw[Aa.1 hp] at h;exact .inr h
 by_cases h7:f=7
 ·subst h7;obtain⟨⟨kid,rfl⟩,rfl,rfl⟩:=cO hq (.inr (.inr rfl));obtain⟨g1,g2,g3⟩:=hc.kid (x:=kid) ζ;rw[ξ rfl] at g2;obtain rfl:t=zTy:=(q1.2.1 rfl).1
  have hz0:tfR zTy=[]:=rfl;by_cases hs:nm=name∨¬name∈tyR (.mk 7 n nm zTy [kid] [] [])
  ·rw[ξ ⟨rfl,hs⟩];have hno:¬name∈tyR (.mk 7 n nm zTy [kid] [] []):=by
    rcases hs with rfl | hs
    ·intro hin;rcases bK.1 hin with h | ⟨x,_,_,h | h⟩ | ⟨b,hb,_⟩ | ⟨a,ha,_⟩
     ·rw[hz0] at h;cases h
     ·exact h rfl
     ·exact h rfl
     ·cases hb
     ·cases ha
    ·exact hs
   refine⟨aMk 7 n nm name zTy u [kid] [] [] (by omega) hTG rfl ?_,hq,fun A E ρ=>?_,fun x hx=>.inl hx,le_refl _,le_refl _⟩
   ·by_cases e:nm=name
    ·exact .inl e
    ·exact .inr ⟨e,_,hty,hno,by omega⟩
   ·refine le_of_eq (o8 fun x hx=>?_);unfold fP;rw[φ fun e=>hno (by rw[←e];exact hx)]
  have hne:nm≠name:=fun e=>hs (.inl e)
  have hin:name∈tyR (.mk 7 n nm zTy [kid] [] []):=Classical.byContradiction fun e=>hs (.inr e)
  have hink:name∈tyR kid:=by
   rcases bK.1 hin with h | ⟨x,hx,h,_⟩ | ⟨b,hb,_⟩ | ⟨a,ha,_⟩
   ·rw[hz0] at h;cases h
   ·rw[←Aa.1 hx];exact h
   ·cases hb
   ·cases ha
  rw[φ fun e=>hs e.2];obtain⟨hkty,hktl⟩:=g1.types hMD;have hend:∀(nm1:Str) (I:Core),w30 nm1≤w30 nm→CG D M X I→m30 I≤m30 kid→tlC I≤tlC kid→(∀x∈tyR I,x=nm1∨x∈tyR kid∨x∈tfR u)→(∀x∈tyR I,x=nm→nm1=nm∨nm∈tfR u)→¬nm1∈tfR u→¬nm1=[]→
    (∀(A:Alg) (E:Nat) (ρ:Str→Nat),cw A E I (fP (fP ρ nm1 E) name (tW A u ρ))≤cw A E kid (fP (fP ρ name (tW A u ρ)) nm E))→
    aU Tryz.prog 75 [.one (.vp 700 0),aY (tfR u)] (gHl 7 n nm zTy [kid] [] []) (.tup []) (gHl 7 n nm1 zTy [I] [] [])→
    SB X (.mk 7 n nm zTy [kid] [] []) name u (gH (fun t=>gP t [(name,u)]) (fun x=>sTR k x name u) (.mk 7 n nm1 zTy [I] [] [])):=fun nm1 I hw hk1 hkm hkt hkx hky hno hn1 hkc himp=>by
   have hS:=ih I (by omega) hk1 name u hu;refine⟨aAp 7 n nm nm1 name zTy u [kid] [I] [] [] (fun t=>gP t [(name,u)]) (fun x=>sTR k x name u) (by omega) hTG rfl (fun _=>⟨hne,rfl,rfl,_,_,hty,hin,by omega,hfr,himp⟩) (fun e=>absurd rfl e) (fun v hv=>?_) (fun x hx=>?_),?_,fun A E ρ=>?_,fun x hx=>?_,?_,?_⟩
   ·rcases hv with rfl | ⟨b,hb,_⟩
    ·exact(htt zTy rfl ht1).2
    ·cases hb
   ·rcases hx with hx | ⟨b,hb,_⟩ | ⟨a,ha,_⟩
    ·rw[Aa.1 hx];exact hS.imp
    ·cases hb
    ·cases ha
   ·exact aGr (ks:=[kid]) (nm:=nm) q1 hw (fun e=>absurd e (by decide)) (fun _=>hn1) rfl (r7 _) (by rw[r7];rfl) (fun b hb=>by cases hb) (fun x hx=>by rw[Aa.1 hx];exact hS.q) (fun b hb=>by cases hb) (fun a ha=>by cases ha)
   ·rw[gH];obtain⟨c0,c1,c2,_,_⟩:=fG.1 (le_refl (cw A E (.mk 7 n nm zTy [kid] [] []) (fP ρ name (tW A u ρ))));refine fG.2 ⟨c0,by rw[r7];exact le_trans (le_of_eq (iP (tn zTy) zTy (le_refl _) fun x hx=>by rw[hz0] at hx;cases hx)) c1,fun x hx=>?_,fun b hb=>(by cases hb),fun a ha=>(by cases ha)⟩;obtain⟨y,hy,rfl⟩:=Ad.1 hx;rw[Aa.1 hy,ξ rfl];have c2:=c2 kid ζ;rw[ξ rfl] at c2;refine le_trans (hS.cw A E (fP ρ nm1 E)) (le_trans ?_ c2);have e:tW A u (fP ρ nm1 E)=tW A u ρ:=iP (tn u) u (le_refl _) fun y hy=>by
     unfold fP;rw[φ fun e=>hno (by rw[←e];exact hy)]
    rw[e];exact hkc A E ρ
   ·rw[gH] at hx;rcases bK.1 hx with h | ⟨y,hy,h,hne'⟩ | ⟨b,hb,_⟩ | ⟨a,ha,_⟩
    ·rw[r7,hz0] at h;cases h
    ·obtain⟨O,J,rfl⟩:=Ad.1 hy;rw[Aa.1 J] at h;have hne':¬x=nm1:=hne'.resolve_left (fun e=>e rfl);rcases hS.ty x h with h | h
     ·rcases hkx x h with h' | h' | h'
      ·exact absurd h' hne'
      ·by_cases e:x=nm
       ·rcases hky x h e with Z | Z
        ·exact absurd (e.trans Z.symm) hne'
        ·exact .inr (by rw[e];exact Z)
       ·exact .inl (bK.2 (.inr (.inl ⟨kid,ζ,h',.inr e⟩)))
      ·exact .inr h'
     ·exact .inr h
    ·cases hb
    ·cases ha
   ·refine aD3 ?_ (fun x hx=>by rw[Aa.1 hx];exact hS.tl) (fun b hb=>by cases hb) (fun a ha=>by cases ha);rw[tlC,tlC,iJ,iJ,iJ,iJ];omega
   ·exact aLb hw (by rw[cK,cK,cK,cK];omega) (fun x hx=>by rw[Aa.1 hx];exact hS.sz) (fun b hb=>by cases hb) (fun a ha=>by cases ha)
  by_cases hnf:nm∈tfR u
  ·rw[ξ ⟨rfl,hnf⟩];have efm:[kid].flatMap tyR=tyR kid:=by simp
   rw[efm,Am,Bs];have hzo:=mN (tfR u++tyR kid);have hz30:(aZ (tfR u++tyR kid)).length≤30:=jO _ (by rw[ω];omega);have hzn:=xL (tfR u++tyR kid);generalize hze:aZ (tfR u++tyR kid)=z at hzo hz30 hzn;have N:=ih kid (by omega) g1 nm (vT z) (UOk.var z);have hkid1:CG D M X (sTR k kid nm (vT z)):=by
    refine⟨N.q,?_,?_,le_trans N.sz g1.sz⟩
    ·have:=N.cw fD 0 r0;have e:tW fD (vT z) r0=0:=rfl;rw[e,yQ] at this;exact le_trans this g1.dep
    ·have h1:=dD (a:=z::tyR kid) (c:=sTR k kid nm (vT z)) fun x hx=>by
      rcases N.ty x hx with h | h
      ·exact κ _ h
      ·rw[yL] at h;rw[Aa.1 h];exact ζ
     rw[Ag] at h1;have h2:=N.tl;omega
   have hcl:=aGd n nm zTy kid (sTR k kid nm (vT z)) (tfR u) (by omega) hnf hI hkty (by omega) (by rw[hze];exact N.imp);rw[hze] at hcl;refine hend z _ (yE hz30) hkid1 N.sz N.tl (fun x hx=>?_) (fun _ _ _=>.inr hnf) (fun h=>hzo (χ.2 (.inl h))) hzn (fun A E ρ=>?_) hcl
   ·rcases N.ty x hx with h | h
    ·exact .inr (.inl h)
    ·rw[yL] at h;exact .inl (Aa.1 h)
   ·refine le_trans (N.cw A E _) (le_of_eq (o8 fun x hx=>?_));have hzn:¬z=name:=fun e=>hzo (by rw[e];exact χ.2 (.inr hink))
    have e:tW A (vT z) (fP (fP ρ z E) name (tW A u ρ))=E:=by
     unfold vT;rw[tW,ξ rfl];unfold fP;rw[φ hzn,ξ rfl]
    rw[e];unfold fP;by_cases e1:x=nm
    ·rw[ξ e1,ξ e1]
    ·rw[φ e1,φ e1];by_cases Z:x=name
     ·rw[ξ Z,ξ Z]
     ·rw[φ Z,φ Z,φ fun e3=>hzo (by rw[←e3];exact χ.2 (.inr hx))]
  ·rw[φ fun e=>hnf e.2];refine hend nm kid (le_refl _) g1 (le_refl _) (le_refl _) (fun x hx=>.inr (.inl hx)) (fun _ _ _=>.inl rfl) hnf (q1.2.1 rfl).2 (fun A E ρ=>?_) (aGe n nm zTy kid (tfR u) (by omega) hnf);refine le_of_eq (o8 fun x _=>?_);unfold fP;by_cases e1:x=nm
   ·rw[ξ e1,ξ e1,φ fun Z=>hne (e1.symm.trans Z)]
   ·rw[φ e1,φ e1]
 ·rw[φ fun e=>h7 e.1,φ fun e=>h7 e.1];have hk:∀x∈ks,SB X x name u (sTR k x name u):=fun x hx=>ih x (by have:=(hc.kid hx).2.2;omega) (hc.kid hx).1 name u hu
  have hb:∀x∈bs,SB X x.body name u (sTR k x.body name u):=fun x hx=>ih x.body (by have:=(hc.bind hx).2;omega) (hc.bind hx).1 name u hu
  have ha:∀x∈al,SB X x.body name u (sTR k x.body name u):=fun x hx=>ih x.body (by have:=(hc.alt hx).2;omega) (hc.alt hx).1 name u hu
  refine⟨aAp f n nm nm name t u ks ks bs al (fun t=>gP t [(name,u)]) (fun x=>sTR k x name u) (by omega) hTG rfl (fun e=>absurd e h7) (fun _=>⟨rfl,rfl⟩) (fun v hv=>?_) (fun x hx=>?_),?_,fun A E ρ=>?_,fun x hx=>?_,?_,?_⟩
  ·rcases hv with rfl | ⟨b,Y,rfl⟩
   ·exact(htt _ ht0 ht1).2
   ·exact(htt _ (W b Y).1 (W b Y).2).2
  ·rcases hx with hx | ⟨b,Y,rfl⟩ | ⟨a,ha',rfl⟩
   ·exact(hk x hx).imp
   ·exact(hb b Y).imp
   ·exact(ha a ha').imp
  ·exact aGr q1 (le_refl _) (fun _=>rfl) (fun e=>absurd e h7) rfl (r7 _) (htt t ht0 ht1).1 (fun b Y=>(htt b.ty (W b Y).1 (W b Y).2).1) (fun x hx=>(hk x hx).q) (fun x hx=>(hb x hx).q) (fun x hx=>(ha x hx).q)
  ·rw[gH];obtain⟨c0,c1,c2,c3,c4⟩:=fG.1 (le_refl (cw A E (.mk f n nm t ks bs al) (fP ρ name (tW A u ρ))));refine fG.2 ⟨c0,le_trans (hcwt t ht0 ht1 A ρ) c1,fun x hx=>?_,fun x hx=>?_,fun x hx=>?_⟩
   ·obtain⟨y,hy,rfl⟩:=Ad.1 hx;have:=c2 y hy;rw[φ h7] at this ⊢;exact le_trans ((hk y hy).cw A E ρ) this
   ·obtain⟨y,hy,rfl⟩:=Ad.1 hx;exact⟨le_trans (hcwt y.ty (W y hy).1 (W y hy).2 A ρ) (c3 y hy).1,le_trans ((hb y hy).cw A E ρ) (c3 y hy).2⟩
   ·obtain⟨y,hy,rfl⟩:=Ad.1 hx;exact le_trans ((ha y hy).cw A E ρ) (c4 y hy)
  ·rw[gH] at hx;rcases bK.1 hx with h | ⟨y,hy,h,_⟩ | ⟨y,hy,h⟩ | ⟨y,hy,h⟩
   ·exact(htft t ht0 x h).imp (fun h=>bK.2 (.inl h)) id
   ·obtain⟨O,J,rfl⟩:=Ad.1 hy;exact((hk O J).ty x h).imp (fun h=>bK.2 (.inr (.inl ⟨O,J,h,.inl h7⟩))) id
   ·obtain⟨O,J,rfl⟩:=Ad.1 hy;rcases h with h | h
    ·exact(htft O.ty (W O J).1 x h).imp (fun h=>bK.2 (.inr (.inr (.inl ⟨O,J,.inl h⟩)))) id
    ·exact((hb O J).ty x h).imp (fun h=>bK.2 (.inr (.inr (.inl ⟨O,J,.inr h⟩)))) id
   ·obtain⟨O,J,rfl⟩:=Ad.1 hy;exact((ha O J).ty x h).imp (fun h=>bK.2 (.inr (.inr (.inr ⟨O,J,h⟩)))) id
  ·exact aD3 (le_refl _) (fun x hx=>(hk x hx).tl) (fun x hx=>(hb x hx).tl) (fun x hx=>(ha x hx).tl)
  ·exact aLb (le_refl _) (le_refl _) (fun x hx=>(hk x hx).sz) (fun x hx=>(hb x hx).sz) (fun x hx=>(ha x hx).sz)
theorem aGt (n:Nat):UInt8.ofNat (IntKind.u8.wrap ((48+n%10:Nat):Int)).toNat=UInt8.ofNat (48+n%10):=by
 have h:n%10<10:=Nat.mod_lt _ (by omega);have:IntKind.u8.wrap ((48+n%10:Nat):Int)=((48+n%10:Nat):Int):=by
  simp[IntKind.wrap,IntKind.signed,IntKind.bits];omega
 rw[this];rfl
theorem aSl (n:Nat):n≤600000000000→aU Tryz.prog 45 [I .i64 (n:Int)] [] (Go.AM.T (Lib.decDigits n)) []:=by
 induction n using Nat.strongRecOn with
 | ind n N=>
  intro hn;refine bO (n:=32) tok Tryz.func45 rfl rfl rfl ?_;refine sg rfl (a8 (agN [] rfl (a8 (sg rfl (aA rfl (fun hb=>?_) (fun hb=>?_))))))
  ·exfalso;have:((n%10:Nat):Int)<0:=by simpa using hb
   omega
  ·refine aD (a8 (agN [] rfl (AWp.sub (st2:=mk [(0,I .i64 (n:Int)),(4,Go.AM.T [UInt8.ofNat (48+n%10)])] []) (.list (fun i=>i) ⟨rfl,?_,trivial⟩ trivial rfl) ?_)))
   ·show some (V.one (R.c (C.str [UInt8.ofNat (IntKind.u8.wrap ((48+n%10:Nat):Int)).toNat])))=_;rw[aGt];rfl
   refine a8 (a8 (agF 3 [] rfl rfl rfl (aA rfl (fun hb=>?_) (fun hb=>?_))))
   ·have q:n<10:=by
     simp at hb;omega
    refine a8 (sg rfl (aA rfl (fun hb=>?_) (fun hb=>?_)))
    ·exfalso;have:(n:Int)<0:=by simpa using hb
     omega
    ·refine aD (sg rfl ?_);rw[Lib.decDigits,dif_pos q,Nat.mod_eq_of_lt q];exact aI (rtT (hc:=.refl))
   ·have J:¬n<10:=by
     intro q;simp at hb;omega
    have hc:=N (n/10) (by omega) (by omega);have hl:=nI (n/10) (by omega);have O:1000000000≤maxLen:=by decide
    refine aD (a8 (aE mixed (akN 2 [] rfl (kc hc ?_))));refine kz 3 rfl ?_;rw[Lib.decDigits,dif_neg J];exact aI (rtT (hc:=.refl))
theorem wrap_u8 (m:Nat) (h:m<256):IntKind.u8.wrap (m:Int)=(m:Int):=by
 simp[IntKind.wrap,IntKind.signed,IntKind.bits];omega
theorem v8 (n:Nat) (hn:n≤600000000000):aU Tryz.prog 121 [I .i64 n] [] (Go.AM.T (bG n)) []:=by
 have hd:=aSl (n/26) (by omega);have q:=nI (n/26) (by omega);have J:600000000000≤maxLen:=by decide
 refine bO (n:=18) tok Tryz.func121 rfl rfl rfl ?_;refine sg rfl (a8 (agN [(4,.all)] rfl (AWp.sub (st2:=mk [(0,I .i64 (n:Int)),(3,Go.AM.T [UInt8.ofNat (97+n%26)])] []) (.list (fun i=>i) ⟨rfl,?_,trivial⟩ trivial rfl) ?_)))
 ·show some (V.one (R.c (C.str [UInt8.ofNat (IntKind.u8.wrap ((97+n%26:Nat):Int)).toNat])))=_;rw[wrap_u8 _ (by omega)];rfl
 refine a8 (sg rfl (aA rfl (fun hb=>?_) (fun hb=>?_)))
 ·have h:n<26:=by have:=ψ hb;omega
  unfold bG;rw[ξ h];exact sg rfl (aI rtT)
 ·have h:¬n<26:=by have:=δ hb;omega
  unfold bG;rw[φ h];refine aD (a8 (aE mixed (akN 3 [] rfl (kc hd ?_))));refine ak 2 [] rfl ?_ (hc:=by repeat (first | exact trivial | refine⟨by first | rfl | omega | (simp;omega),?_⟩));exact az (aI rtT)
theorem oI (t:Ty) (hw:wfS t=true) (hd:tW fD t r0≤1000000) (hl:(tfR t).length≤1000000):aU Tryz.prog 86 [tyV t] [] (aY (tfR t)) []:=by
 have h0:=a1h (tn t) t (le_refl _) hw [] [] (tfR t) (by rw[length_nil];omega) (by omega) nodup_nil (fun x hx=>by cases hx) (fun x hx=>hx);rw[show inG []=fun _=>false from by funext x;simp[inG],sC (aBw t)] at h0;have h1:=aU.nilArg (pre:=[tyV t,aY []]) (post:=[]) (hin:=[]) h0 rfl;have h2:=h1.plain (by simp);refine bO (n:=5) tok Tryz.func86 rfl rfl rfl ?_;refine sg rfl (sk 1 rfl (kc h2 ?_));exact kz 1 rfl (aI rtT)
theorem a1u (l:List Str) (s:Str) (h:l.length≤600000000000):aU Tryz.prog 141 [aY l,Go.AM.T s] [] (I .i64 (yC s l 0)) []:=by
 refine bO (n:=19) tok Tryz.func141 rfl rfl rfl ?_;refine sg rfl (a8 (sg rfl ?_));have J:(l.map bD).length=l.length:=θ _;refine aC (aL (fun i:Nat=>mk [(0,aY l),(1,Go.AM.T s),(5,I .i64 i)] []) (fun i=>i≤l.length∧yC s l 0=yC s (l.drop i) i) (fun i=>l.length-i) 0 ⟨Aj _,rfl⟩ sl ?_);intro i ⟨hi,he⟩;refine a8 (sg rfl (aA rfl (fun hb=>?_) (fun hb=>?_)))
 ·have q:=ltD hb J;obtain⟨x,hx⟩:=aJ q;have O:=bM bD hx;have hd:l.drop i=x::l.drop (i+1):=by rw[Bz q,(Ab.1 hx).2]
  rw[hd,yC] at he;refine aD (a8 (aC (sgh [(2,.row i (bD x))] rfl (aA rfl (fun hb=>?_) (fun hb=>?_)))))
  ·have hs:x=s:=ψ hb;rw[ξ hs.symm] at he;rw[he];exact sg rfl (aI rtT)
  ·have hs:¬x=s:=δ hb;rw[φ fun h=>hs h.symm] at he;exact aD (ag [] rfl ⟨i+1,⟨q,he⟩,by dsimp only;omega,sl⟩)
 ·have N:=geD hb J hi;subst N;rw[drop_length,yC] at he;rw[he];exact aO (sg rfl (aI rtT))
theorem aS6 {nm:Str}{body:Ty}{ps:List (Str×Ty)}(h:∀p∈ps,tW fD p.2 r0≤1000000):∀p∈unP nm body ps,tW fD p.2 r0≤1000000:=fun p hp=>by
 have h4:∀p∈unF nm body ps,tW fD p.2 r0≤1000000:=fun p hp=>h p (gO.1 hp).1
 unfold unP at hp;split at hp
 ·rcases χ.1 hp with hp | hp
  ·exact h4 p hp
  ·rw[Aa.1 hp];show tW fD (.mk 2 0 _ []) r0≤_;rw[tW,ξ rfl];exact Aj _
 ·exact h4 p hp
theorem aU5:∀(k:Nat) (t:Ty),tn t≤k→wfS t=true→fvm t≤700000→tW fD t r0≤1000000→∀ps,PsOk ps→(∀p∈ps,tW fD p.2 r0≤1000000)→aU Tryz.prog 123 [tyV t,aY (ps.map (·.1)),aN0 (ps.map (·.2))] [] (tyV (gP t ps)) []:=by
 intro k
 induction k with
 | zero=>intro t h;have:=kJ t;omega
 | succ k ih=>
 intro t h hw hf hdp ps O Y;obtain⟨f,n,s,a⟩:=t;obtain⟨_,aa,w4,w5,w0⟩:=nL hw;have ab:∀u∈a,fvm u≤700000:=fun u hu=>le_trans (sM hu) hf
 rw[tn] at h;rw[gP];have hk1:((ps.map (·.1)).map bD).length=ps.length:=by rw[θ,θ]
 have hk2:((ps.map (·.2)).map b8).length=ps.length:=by rw[θ,θ]
 refine bO (n:=134) tok Tryz.func123 rfl rfl rfl ?_;refine sg rfl (a8 (sg rfl (aA rfl (fun hb=>?_) (fun hb=>?_))))
 ·have h2:f=2:=ψ hb;subst h2;rw[ξ rfl];have hix:=a1u (ps.map (·.1)) s (by rw[θ];have:=O.len;omega);refine sk 3 rfl (kc hix ?_);refine kz 1 rfl (a8 (sg rfl ?_));rcases pB s (ps.map (·.1)) 0 with⟨i,W,e2⟩ | ⟨W,e2⟩
  ·rw[Az] at e2;obtain⟨⟨s',u⟩,hu,e3⟩:=B0.1 e2;have e3:s'=s:=e3;subst e3;have hm:=η hu;have hu':((ps.map (·.2)).map b8)[i]?=some (b8 u):=bM b8 (by rw[Az,hu];rfl);rw[aCv O.nd hm];dsimp only;rw[Int.zero_add] at W;rw[W];exact aA rfl (fun hb=>sgh [(2,.row i (b8 u))] rfl (aI (rtC trw))) (fun hb=>absurd (δ hb) (by omega))
  ·rw[lR W];dsimp only;rw[e2];exact aA rfl (fun hb=>absurd (ψ hb) (by omega)) (fun hb=>aD (sg rfl (aI (rtC trw))))
 have h2:¬f=2:=δ hb;rw[φ h2];refine aD (a8 (sg rfl (aA rfl (fun hb=>?_) (fun hb=>?_))))
 ·have h4:f=4:=ψ hb;subst h4;obtain⟨rfl,rfl,u,v,rfl⟩:=w4 rfl;rw[tns,tns,tns] at h;have d1:=xT (n:=0) (s:=[]) h2 (show u∈[u,v] by simp);have d2:=xT (n:=0) (s:=[]) h2 (show v∈[u,v] by simp);have a4:=ih u (by omega) (aa u (by simp)) (ab u (by simp)) (by omega) ps O Y;have b4:=ih v (by omega) (aa v (by simp)) (ab v (by simp)) (by omega) ps O Y;rw[ξ rfl,fE,fE,fE];have cA:=aVh (gP u ps) (gP v ps);generalize gP u ps=u' at *;generalize gP v ps=v' at *;have cA:aU Tryz.prog 57 [tyV u',tyV v'] [] (tyV (.mk 4 0 [] [u',v'])) []:=cA;refine skh 6 [(2,.row 0 (b8 u))] rfl (kc a4 ?_);refine ak 6 [(9,.row 1 (b8 v))] rfl (kc b4 ?_);refine kc cA ?_;exact kz 1 rfl (aI (rtC trw))
 have h4:¬f=4:=δ hb;rw[φ h4];refine aD (a8 (sg rfl (aA rfl (fun hb=>?_) (fun hb=>?_))))
 ·have h5:¬f=5:=by
   have hb:(!decide (f=5))=true:=hb;simpa using hb
  rw[φ h5];exact sg rfl (aI (rtC trw))
 have h5:f=5:=by
  have hb:(!decide (f=5))=false:=hb;simpa using hb
 subst h5;obtain⟨rfl,body,rfl⟩:=w5 rfl;rw[tns,tns] at h;have hwb:=aa body (by simp);have ac:=ab body (by simp);have hdb:=xT (n:=0) (s:=s) h2 (show body∈[body] by simp);have hP:=O.un s body ac;have hS:=ih body (by omega) hwb ac (by omega) (unP s body ps) hP (aS6 Y);rw[ξ rfl];have hfr:=oI body hwb (by omega) (le_trans (iL body) (by omega));have hfl:(tfR body).length≤700000:=le_trans (iL body) ac;have hpl:=O.len;have hql:∀l:List (Str×Ty),(∀p∈l,p∈ps)→l.length≤ps.length→(unF s body l).length≤700001∧(unC (unF s body l)).length≤540000000000:=fun l h1 h2=>by
  have h3:=nM (l:=unF s body l) fun p hp=>(O.ok p (h1 p (gO.1 hp).1)).2
  have h4:(unF s body l).length≤l.length:=length_filter_le _ _;have h6:(unF s body l).length*700000≤(700000+1)*700000:=Ay _ (by omega);have h7:(700000+1)*700000≤540000000000:=by decide
  exact⟨by omega,by omega⟩
 have hqi:=fun i=>hql (ps.take i) (fun p hp=>Bl hp) (by rw[Au];omega)
 have hq:=hql ps (fun p hp=>hp) (le_refl _);refine aD (skh 4 [(2,.row 0 (b8 body))] rfl (kc hfr ?_));refine kz 1 rfl (sg rfl (sg rfl (sg rfl (AWp.sub (Sub.own (t:=9) (id:=600) 9 1 rfl rfl) (AWp.sub (Sub.freeze (id:=600) rfl) ?_)))));refine AWp.sub (Sub.own (t:=10) (id:=601) 33 4 rfl rfl) (AWp.sub (Sub.freeze (id:=601) rfl) ?_);refine AWp.sub (Sub.own (t:=11) (id:=602) 9 1 rfl rfl) (AWp.sub (Sub.freeze (id:=602) rfl) ?_);refine a8 (sg rfl (aC ?_))
 refine aL (fun i:Nat=>mk [(1,aY (ps.map (·.1))),(2,aN0 (ps.map (·.2))),(3,.one (.vp 3 0)),(6,.one (.vp 6 0)),(8,aY (tfR body)),(9,.one (.hs 600 0 (unF s body (ps.take i)).length (unF s body (ps.take i)).length)),(10,.one (.hs 601 0 (unF s body (ps.take i)).length (unF s body (ps.take i)).length)),(11,.one (.hs 602 0 (unC (unF s body (ps.take i))).length (unC (unF s body (ps.take i))).length)),(12,I .i64 i)]
  [(600,.arr 9 1 (((unF s body (ps.take i)).map (·.1)).map bD) 2),(601,.arr 33 4 (((unF s body (ps.take i)).map (·.2)).map b8) 2),(602,.arr 9 1 ((unC (unF s body (ps.take i))).map bD) 2),(3,.var 33 ((b8 (.mk 5 0 s [body])).map R.c)),(6,.var 33 [.c (.int .i64 0),.c (.int .i64 0),.c (.str []),.c .nl])]) (fun i=>i≤ps.length) (fun i=>ps.length-i) 0 (Aj _) sl ?_
 intro i hi;refine a8 (sg rfl (aA rfl (fun hb=>?_) (fun hb=>?_)))
 ·have Z:=ltD hb hk1;obtain⟨⟨x,u⟩,hu⟩:=aJ Z;have hum:=η hu;have hx':((ps.map (·.1)).map bD)[i]?=some (bD x):=bM bD (by rw[Az,hu];rfl);have hu':((ps.map (·.2)).map b8)[i]?=some (b8 u):=bM b8 (by rw[Az,hu];rfl);obtain⟨g2,g3⟩:=O.ok _ hum;have hul:(tfR u).length≤700000:=le_trans (iL u) g3;have hfu:=oI u g2 (Y _ hum) (by omega);have J:=aDn (nm:=s) (body:=body) hu;have N:=kH (tfR body) x (by unfold Fits;omega);obtain⟨hq1,hq2⟩:=hqi i;have hqn:=hqi (i+1);generalize unF s body (ps.take i)=q at J hq1 hq2 ⊢;generalize tfR body=fb at N J ⊢;refine aD (a8 (aC ?_));by_cases h1:x=s
  ·have W:(!decide (x=s))=false:=by rw[Ak h1];rfl
   dsimp only at J;rw[W,Bool.false_and,φ (by decide)] at J;refine sgh [(2,.row i (bD x)),(7,.bv false),(14,.bv false)] rfl (aA rfl nofun (fun _=>aD (ag [] rfl ⟨i+1,Z,by dsimp only;omega,?_⟩)));dsimp only;rw[J];exact sl
  have W:(!decide (x=s))=true:=by rw[Al h1];rfl
  dsimp only at J;rw[W,Bool.true_and] at J;by_cases h3:x∈fb
  ·rw[Ak h3] at N;rw[ξ (Ak h3)] at J;rw[J] at hqn;have hcq:unC (q++[(x,u)])=unC q++tfR u:=by unfold unC;rw[Cl];simp
   rw[hcq,ω,ω] at hqn;have hk3:((q.map (·.1)).map bD).length=q.length:=by rw[θ,θ]
   have hk4:((q.map (·.2)).map b8).length=q.length:=by rw[θ,θ]
   have hk5:((unC q).map bD).length=(unC q).length:=θ _;have hk6:((tfR u).map bD).length=(tfR u).length:=θ _;refine skh 13 [(2,.row i (bD x)),(7,.bv true),(11,.row i (bD x))] rfl (kcG N ?_ (hw:=W));refine ak 1 [(14,.bv true)] rfl (az (aA rfl (fun _=>sgh [(3,.row i (bD x)),(5,.all)] rfl (AWp.sub (Sub.freeze (id:=600) rfl) ?_)) nofun));refine sgh [(3,.row i (b8 u)),(5,.all)] rfl (AWp.sub (Sub.freeze (id:=601) rfl) ?_);refine aE mixed (ak 5 [(3,.row i (b8 u))] rfl (kc hfu ?_));refine kz 2 rfl (AWp.sub (Sub.freeze (id:=602) rfl) ?_);refine ag [] rfl ⟨i+1,Z,by dsimp only;omega,?_⟩;dsimp only;rw[J,hcq];exact sl (he:=⟨rfl,rfl,rfl,rfl,rfl,Go.AM.hs_ren (by simp) (by simp),Go.AM.hs_ren (by simp) (by simp),Go.AM.hs_ren (by simp) (by simp),rfl,trivial⟩) (hh:=⟨⟨_,rfl,.arrS (by simp[bD])⟩,⟨_,rfl,.arrS (by simp;rfl)⟩,⟨_,rfl,.arrS (by simp)⟩,⟨_,rfl,.var rfl⟩,⟨_,rfl,.var rfl⟩,trivial⟩)
  ·rw[Al h3] at N;rw[φ (by rw[Al h3];decide)] at J;refine skh 13 [(2,.row i (bD x)),(7,.bv true),(11,.row i (bD x))] rfl (kcG N ?_ (hw:=W));refine ak 1 [(14,.bv true)] rfl (az (aA rfl nofun (fun _=>aD (ag [] rfl ⟨i+1,Z,by dsimp only;omega,?_⟩))));dsimp only;rw[J];exact sl
 have hge:=geD hb hk1 hi;subst hge;rw[An];have N:=kH (unC (unF s body ps)) s (by unfold Fits;omega);refine aO (sg rfl (a8 (AWp.cut (mk [(3,.one (.vp 3 0)),(6,.one (.vp 6 0)),(9,aY ((unP s body ps).map (·.1))),(10,aN0 ((unP s body ps).map (·.2))),(13,Go.AM.T (unN s body ps))] [(3,.var 33 ((b8 (.mk 5 0 s [body])).map R.c)),(6,.var 33 [.c (.int .i64 0),.c (.int .i64 0),.c (.str []),.c .nl])]) ?_ ?_)))
 ·obtain⟨hq1,hq2⟩:=hq;have hk3:(((unF s body ps).map (·.1)).map bD).length=(unF s body ps).length:=by rw[θ,θ]
  have hk4:(((unF s body ps).map (·.2)).map b8).length=(unF s body ps).length:=by rw[θ,θ]
  by_cases h1:s∈unC (unF s body ps)
  ·have eN:unN s body ps=bG (dT (unC (unF s body ps)++tfR body)):=by unfold unN;rw[ξ h1];rfl
   have eP:unP s body ps=unF s body ps++[(s,.mk 2 0 (unN s body ps) [])]:=by unfold unP;rw[ξ h1]
   rw[Ak h1] at N;rw[eP,eN];have hL:(unC (unF s body ps)++tfR body).length≤550000000000:=by rw[ω];omega
   have hk5:((unC (unF s body ps)).map bD).length=(unC (unF s body ps)).length:=θ _;have hk6:((tfR body).map bD).length=(tfR body).length:=θ _;have hmp:(unC (unF s body ps)).map bD++(tfR body).map bD=(unC (unF s body ps)++tfR body).map bD:=Ar.symm;have hml:(unC (unF s body ps)++tfR body).length=(unC (unF s body ps)).length+(tfR body).length:=ω;generalize unF s body ps=q at *;refine sk 2 rfl (kc N ?_);refine az (aA rfl (fun _=>sg rfl (AWp.sub (Sub.freeze (id:=602) rfl) ?_)) nofun);refine sg rfl ?_;generalize hLe:unC q++tfR body=L at *;have hf:=lQ L
   refine a8 (aC (aL (fun n:Nat=>mk [(3,.one (.vp 3 0)),(6,.one (.vp 6 0)),(9,.one (.hs 600 0 q.length q.length)),(10,.one (.hs 601 0 q.length q.length)),(11,.one (.hs 602 0 L.length L.length)),(14,I .i64 n)]
    [(600,.arr 9 1 ((q.map (·.1)).map bD) 2),(601,.arr 33 4 ((q.map (·.2)).map b8) 2),(602,.arr 9 1 (L.map bD) 2),(3,.var 33 ((b8 (.mk 5 0 s [body])).map R.c)),(6,.var 33 [.c (.int .i64 0),.c (.int .i64 0),.c (.str []),.c .nl])]) (fun n=>n≤dT L) (fun n=>dT L-n) 0 (Aj _) ?_ ?_))
   ·exact sl (he:=⟨rfl,rfl,rfl,rfl,Go.AM.hs_ren (by simp;omega) (by simp;omega),rfl,trivial⟩) (hh:=⟨⟨_,rfl,.arrS rfl⟩,⟨_,rfl,.arrS rfl⟩,⟨_,rfl,.arrS hmp⟩,⟨_,rfl,.var rfl⟩,⟨_,rfl,.var rfl⟩,trivial⟩)
   intro n hn;have hcl:=v8 n (by omega);have hcn:=kH L (bG n) (by unfold Fits;omega);refine a8 (sk 2 rfl (kc hcl ?_));refine kc hcn ?_;refine az (aA rfl (fun hb=>?_) (fun hb=>?_))
   ·have hm:bG n∈L:=ψ hb;have hne:n≠dT L:=by rintro rfl;exact gU L hm
    refine aD (aC (ag [] rfl ?_ (hc:=by repeat (first | exact trivial | refine⟨by omega,?_⟩))));exact⟨n+1,by omega,by dsimp only;omega,sl⟩
   have hm:¬bG n∈L:=δ hb;have he:n=dT L:=by
    by_cases h:n<dT L
    ·exact absurd (jZ L h) hm
    ·omega
   subst he;refine aO (sk 1 rfl (kc hcl ?_));refine kz 1 rfl (sgh [(3,.all)] rfl (AWp.sub (Sub.freeze (id:=600) rfl) ?_));refine ag [(3,.all)] rfl (Sub.trans ?_ (Sub.trans (cv 10 ((q++[(s,Ty.mk 2 0 (bG (dT L)) [])]).map (·.2) |>.map b8) (h3:=by simp;rfl)) (Sub.trans (Sub.freeze (id:=601) rfl) (cv 9 ((q++[(s,Ty.mk 2 0 (bG (dT L)) [])]).map (·.1) |>.map bD) (h3:=by simp;rfl)))));exact sl
  ·have eN:unN s body ps=s:=by unfold unN;rw[φ h1]
   have eP:unP s body ps=unF s body ps:=by unfold unP;rw[φ h1]
   rw[Al h1] at N;rw[eP,eN];refine sk 2 rfl (kc N ?_);refine az (aA rfl nofun (fun _=>aD (Sub.trans ?_ (Sub.trans (cv 10 (((unF s body ps).map (·.2)).map b8)) (cv 9 (((unF s body ps).map (·.1)).map bD))))));exact sl
 refine skh 7 [(3,.row 0 (b8 body))] rfl (kc hS ?_);refine ak 3 [(8,.all)] rfl (az ?_);rw[fE,fE];exact aI (rtC trw)
theorem lX:∀{l:List Core}{i:Nat}{c:Core},l[i]?=some c→bR (l.take i)+b7 c+(l.length-(i+1))≤bR l
 | d::l,0,c,h=>by simp at h;subst h;rw[Bp,bR,bR,Ag];have:=gZ l;omega
 | d::l,i+1,c,h=>by
  have:=lX (l:=l) (i:=i) (c:=c) (by simpa using h);rw[Ax,bR,bR,Ag];omega
theorem lZ:∀{l:List Bind}{i:Nat}{c:Bind},l[i]?=some c→eT (l.take i)+bsize c+(l.length-(i+1))≤eT l
 | d::l,0,c,h=>by simp at h;subst h;rw[Bp,eT,eT,Ag];have:=fC l;omega
 | d::l,i+1,c,h=>by
  have:=lZ (l:=l) (i:=i) (c:=c) (by simpa using h);rw[Ax,eT,eT,Ag];omega
theorem mC:∀{l:List Alt}{i:Nat}{c:Alt},l[i]?=some c→eU (l.take i)+nK c+(l.length-(i+1))≤eU l
 | d::l,0,c,h=>by simp at h;subst h;rw[Bp,eU,eU,Ag];have:=hY l;omega
 | d::l,i+1,c,h=>by
  have:=mC (l:=l) (i:=i) (c:=c) (by simpa using h);rw[Ax,eU,eU,Ag];omega
theorem aDk:∀l:List Str,l.length≤(l.map fun v=>1+v.length).sum
 | []=>Aj _
 | _::l=>by have:=aDk l;simp;omega
theorem aEy (G o l:List Str):pfP G o l=mg (inG G) o l:=by
 unfold pfP mg;congr 1;funext o x;unfold pfG mg1 pQ inG;by_cases h1:x∈G<;>by_cases h2:x∈o<;>simp[h1,h2]
theorem aLj (g l:List Str):inG (g++l)=fun x=>inG g x || inG l x:=by
 funext x;unfold inG;simp
theorem zP {G:Str→Bool}:∀{l o:List Str},(mg G o l).length≤o.length+l.length
 | [],_=>le_refl _
 | x::l,o=>by
  have h1:=zP (G:=G) (l:=l) (o:=mg1 G o x);have h2:(mg1 G o x).length≤o.length+1:=by
   unfold mg1;split
   ·simp
   ·omega
  show(mg G (mg1 G o x) l).length≤_;rw[Ag];omega
theorem zK:∀{l:List Alt}{i:Nat}{a:Alt}{o:List Str},l[i]?=some a→jD (l.take (i+1)) o=pfP a.vars (jD (l.take i) o) (pfR a.body)
 | .mk f n s v c::l,0,a,o,h=>by
  simp at h;subst h;rw[Ax,Bp,Bp,jD,jD,jD];rfl
 | .mk f n s v c::l,i+1,a,o,h=>by rw[Ax,Ax,jD,jD,zK (l:=l) (i:=i) (by simpa using h)]
def aNx (c:Core):Prop:=∀g out:List Str,2*b7 c+g.length+out.length≤2000000000000→aU Tryz.prog 119 [.pa (aB c),aY g,rV out] [(900,rO out)] (rV (mg (inG g) out (pfR c))) [(900,rO (mg (inG g) out (pfR c)))]
theorem aMr {X:Nat}(c:Core) (hq:cE (QL X) c) (ih:∀x,b7 x<b7 c→cE (QL X) x→aNx x):aNx c:=by
 intro g out hsz;obtain⟨f,n,s,t,ks,bs,al⟩:=c;obtain⟨⟨hok,_⟩,hqk,hqb,hqa⟩:=aT.1 hq;rw[θ,θ] at hok;have hG:al.length≠0→g++gvN f s bs=g:=fun h=>by
  have h9:f=9∧bs.length=0:=by
   unfold okF at hok;split at hok
   ·have:=ψ hok;omega
   ·split at hok
    ·have:=ψ hok;omega
    ·split at hok
     ·have:=ψ hok;omega
     ·split at hok
      ·exact⟨by assumption,(ψ hok).2⟩
      ·have:=ψ hok;omega
  have hb:=A4 h9.2;unfold gvN;rw[φ (by omega),hb];simp
 obtain⟨ihk,ihb,iha,hkl,hbl,hal⟩:= @eQ f n s t ks bs al;have hg:=kH g s (by unfold Fits;omega);have hsz2:=hsz;rw[b7] at hsz2;have hbl2:=fC bs;have ho:=kH out s (by unfold Fits;omega);refine bO (n:=119) tok Tryz.func119 rfl rfl rfl ?_;refine sg rfl (a8 (sg rfl (aA rfl (fun hb=>?_) (fun hb=>?_))))
 ·have hf:f=1:=ψ hb;have hr:mg (inG g) out (pfR (.mk f n s t ks bs al))=if(!decide (s∈g)&& !decide (s∈out))=true then out++[s] else out:=by rw[pfR,ξ hf];rfl
  rw[hr];refine AWp.sub (Sub.freeze (id:=900) rfl) ?_;refine a8 (a8 (agF 5 [(3,.pc (B (decide (s∈g)))),(9,.pc (B (decide (s∈out))))] rfl rfl rfl (aA rfl (fun hb=>?_) (fun hb=>?_))))
  ·have hm:(!decide (s∈g)&& !decide (s∈out))=true:=by
    cases h1:decide (s∈g)<;>cases h2:decide (s∈out)<;>simp[h1,h2] at hb ⊢
   rw[ξ hm];refine ag [] rfl (sg rfl (AWp.sub (st2:=mk [(6,rV (out++[s]))] [(900,rO (out++[s]))]) sl ?_));exact aI rtT
  ·have hm:¬(!decide (s∈g)&& !decide (s∈out))=true:=by
    cases h1:decide (s∈g)<;>cases h2:decide (s∈out)<;>simp[h1,h2] at hb ⊢
   rw[φ hm];exact aD (sg rfl (aI rtT))
 ·have hf:¬f=1:=δ hb;rw[show pfR (.mk f n s t ks bs al)=jD al (kD (gvN f s bs) bs (jK (gvN f s bs) ks [])) by rw[pfR,φ hf]];refine aD (sg rfl (sg rfl ?_));have hE1:(if f=5 then [s] else []).length≤1:=by split<;>simp
  refine a8 (AWp.cut (mk [(2,rV out),(3,.one (.vp 3 0)),(7,.one (.hs 36 0 (g++(if f=5 then [s] else [])).length (g++(if f=5 then [s] else [])).length))] [(3,.var 37 (bA (.mk f n s t ks bs al))),(36,.arr 9 1 ((g++(if f=5 then [s] else [])).map bD) 0),(900,rO out)]) ?_ ?_)
  ·refine sg rfl (aA rfl (fun hb=>?_) (fun hb=>?_))
   ·have h5:f=5:=ψ hb;rw[ξ h5];exact ag [] rfl sl
   ·have h5:¬f=5:=δ hb;rw[φ h5,A0];exact aD sl
  have hgv:gvN f s bs=(if f=5 then [s] else [])++bs.map Bind.name:=rfl;have hil:(g++gvN f s bs).length≤g.length+1+bs.length:=by
   rw[hgv];simp only[ω,θ];omega
  generalize (if f=5 then [s] else [])=w at hE1 hgv ⊢;have hkB:(aS bs).length=bs.length:=by rw[bI,θ]
  have hkK:(aM ks).length=ks.length:=by rw[aR,θ]
  have hkA:(bS al).length=al.length:=by rw[bQ,θ]
  refine a8 (sg rfl (aC (aL (fun i:Nat=>mk [(2,rV out),(3,.one (.vp 3 0)),(7,.one (.hs 36 0 (g.length+w.length+i) (g.length+w.length+i))),(8,I .i64 i)] [(3,.var 37 (bA (.mk f n s t ks bs al))),(36,.arr 9 1 ((g++(w++(bs.take i).map Bind.name)).map bD) 0),(900,rO out)]) (fun i=>i≤bs.length) (fun i=>bs.length-i) 0 (Aj _) sl ?_)));intro i hi;refine a8 (sg rfl (aA rfl (fun hb=>?_) (fun hb=>?_)))
  ·have q:=ltD hb hkB;obtain⟨b,J⟩:=aJ q;have hbi':=bT J;have hrows:(g++(w++(bs.take i).map Bind.name)).map bD++[[.str b.name]]=(g++(w++(bs.take (i+1)).map Bind.name)).map bD:=by
    rw[dY J];simp[bD]
   exact aD (a8 (aC (ag [(4,.row i (bB b))] rfl (ag [] rfl ⟨i+1,q,by dsimp only;omega,sl⟩))))
  have N:=geD hb hkB hi;subst N;refine aO ?_;rw[An,←hgv];have hil2:g.length+w.length+bs.length=(g++gvN f s bs).length:=by rw[hgv];simp[B8]
  rw[hil2];have W:=aLj g (gvN f s bs);have hA0:=zI (gvN f s bs) ks [];rw[length_nil] at hA0;have Z:=fun o=>aEw (gvN f s bs) bs o
  generalize g++gvN f s bs=ins at hil W hG ⊢;generalize gvN f s bs=G at W hA0 Z ⊢;refine AWp.sub (Sub.freeze (id:=36) rfl) ?_;refine a8 (sg rfl (aC ?_));have O:=fun(l:List Core)=>le_trans (zP (G:=inG g) (l:=jK G l []) (o:=out)) (Nat.add_le_add_left (zI G l []) _)
  simp only[length_nil] at O;refine aL (fun i:Nat=>mk [(2,rV (mg (inG g) out (jK G (ks.take i) []))),(3,.one (.vp 3 0)),(7,.one (.hs 36 0 ins.length ins.length)),(9,I .i64 i)] [(3,.var 37 (bA (.mk f n s t ks bs al))),(36,.arr 9 1 (ins.map bD) 2),(900,rO (mg (inG g) out (jK G (ks.take i) [])))]) (fun i=>i≤ks.length) (fun i=>ks.length-i) 0 (Aj _) (by rw[Bp,jK];exact sl) ?_;intro i hi;refine a8 (sg rfl (aA rfl (fun hb=>?_) (fun hb=>?_)))
  ·have q:=ltD hb hkK;obtain⟨k,aa⟩:=aJ q;have hki':=dG aa;have ab:mg (inG g) out (jK G (ks.take (i+1)) [])=mg (inG ins) (mg (inG g) out (jK G (ks.take i) [])) (pfR k):=by
    rw[rZ,rZ,wU G [] aa,aEy,aCk,W]
   have h1:=lX aa;have h2:=O (ks.take i);have hc:=ih k (ihk k (η aa)) (hqk k (η aa)) ins (mg (inG g) out (jK G (ks.take i) [])) (by omega);refine aD (a8 (aC (aE mixed (ak 7 [(3,.row i (aB k))] rfl (kc hc ?_)))));refine kz 1 rfl (ag [] rfl ⟨i+1,q,by dsimp only;omega,?_⟩);dsimp only;rw[ab];exact sl
  have N:=geD hb hkK hi;subst N;refine aO ?_;rw[An];have Z:=Z (jK G ks []);generalize jK G ks []=Y at hA0 Z ⊢;refine a8 (sg rfl (aC ?_));have O:=fun(l:List Bind)=>le_trans (zP (G:=inG g) (l:=kD G l Y) (o:=out)) (Nat.add_le_add_left (aEw G l Y) _)
  refine aL (fun i:Nat=>mk [(2,rV (mg (inG g) out (kD G (bs.take i) Y))),(3,.one (.vp 3 0)),(7,.one (.hs 36 0 ins.length ins.length)),(10,I .i64 i)] [(3,.var 37 (bA (.mk f n s t ks bs al))),(36,.arr 9 1 (ins.map bD) 2),(900,rO (mg (inG g) out (kD G (bs.take i) Y)))]) (fun i=>i≤bs.length) (fun i=>bs.length-i) 0 (Aj _) (by rw[Bp,kD];exact sl) ?_;intro i hi;refine a8 (sg rfl (aA rfl (fun hb=>?_) (fun hb=>?_)))
  ·have q:=ltD hb hkB;obtain⟨b,J⟩:=aJ q;have hbi':=bT J;have ab:mg (inG g) out (kD G (bs.take (i+1)) Y)=mg (inG ins) (mg (inG g) out (kD G (bs.take i) Y)) (pfR b.body):=by
    rw[wY,wY,map_take,map_take,wU G Y (show(bs.map Bind.body)[i]?=some b.body by rw[Az,J];rfl),aEy,aCk,W]
   have h1:=lZ J;have h2:=O (bs.take i);have h3:b7 b.body≤bsize b:=by obtain⟨s',t',c'⟩:=b;rw[bsize];show b7 c'≤_;omega
   have hbl3:=fC (bs.take i);rw[Au] at hbl3;have hc:=ih b.body (ihb b (η J)) (hqb b (η J)) ins (mg (inG g) out (kD G (bs.take i) Y)) (by omega);refine aD (a8 (aC (aE mixed (ak 8 [(3,.row i (bB b))] rfl (kc hc ?_)))));refine kz 1 rfl (ag [] rfl ⟨i+1,q,by dsimp only;omega,?_⟩);dsimp only;rw[ab];exact sl
  have N:=geD hb hkB hi;subst N;refine aO ?_;rw[An];generalize kD G bs Y=oB at Z ⊢;refine a8 (sg rfl (aC ?_));have O:=fun(l:List Alt)=>le_trans (zP (G:=inG g) (l:=jD l oB) (o:=out)) (Nat.add_le_add_left (aJ7 l oB) _)
  refine aL (fun i:Nat=>mk [(2,rV (mg (inG g) out (jD (al.take i) oB))),(3,.one (.vp 3 0)),(7,.one (.hs 36 0 ins.length ins.length)),(11,I .i64 i)] [(3,.var 37 (bA (.mk f n s t ks bs al))),(36,.arr 9 1 (ins.map bD) 2),(900,rO (mg (inG g) out (jD (al.take i) oB)))]) (fun i=>i≤al.length) (fun i=>al.length-i) 0 (Aj _) (by rw[Bp,jD];exact sl) ?_;intro i hi;refine a8 (sg rfl (aA rfl (fun hb=>?_) (fun hb=>?_)))
  ·have q:=ltD hb hkA;obtain⟨a,ac⟩:=aJ q;have hai':=iU ac;have hins:ins=g:=hG (by omega);have ab:mg (inG g) out (jD (al.take (i+1)) oB)=mg (inG (ins++a.vars)) (mg (inG g) out (jD (al.take i) oB)) (pfR a.body):=by
    rw[zK ac,aEy,aCk,hins,aLj]
   have h1:=mC ac;have h2:=O (al.take i);have h3:b7 a.body+a.vars.length≤nK a:=by obtain⟨f',n',s',v',c'⟩:=a;rw[nK];show b7 c'+v'.length≤_;have:=aDk v';omega
   have hc:=ih a.body (iha a (η ac)) (hqa a (η ac)) (ins++a.vars) (mg (inG g) out (jD (al.take i) oB)) (by rw[ω];omega);refine aD (a8 (aC (sg rfl (sgh [(2,.all)] rfl (aE mixed (ak 15 [(3,.row i (c7 a)),(10,.row i (c7 a)),(13,.fz)] rfl (kc hc ?_)))))));refine kz 1 rfl (ag [] rfl ⟨i+1,q,by dsimp only;omega,?_⟩);dsimp only;rw[ab];exact sl
  have N:=geD hb hkA hi;subst N;refine aO ?_;rw[An];exact sg rfl (aI rtT)
theorem a1i {X:Nat}:∀(n:Nat) (c:Core),b7 c≤n→cE (QL X) c→aNx c
 | 0,c,h,_=>by have:=c9 c;omega
 | n+1,c,h,I=>aMr c I fun x hx q=>a1i n x (by omega) q
theorem y3 {X:Nat}(c:Core) (q:cE (QL X) c) (h:b7 c≤900000000000):aU Tryz.prog 83 [.pa (aB c)] [] (aY (pfR c)) []:=by
 have h0:=a1i _ c (le_refl _) q [] [] (by simp;omega);rw[show inG []=fun _=>false from by funext x;simp[inG],sC (a0i c)] at h0;have h1:=aU.nilArg (pre:=[.pa (aB c),aY []]) (post:=[]) (hin:=[]) h0 rfl;have h2:=h1.plain (by simp);refine bO (n:=5) tok Tryz.func83 rfl rfl rfl ?_;refine sg rfl (sk 1 rfl (kc h2 ?_));exact kz 1 rfl (aI rtT)
theorem s9 (o l:List Str):kM o l=mg (fun _=>false) o l:=by
 unfold kM mg;congr 1;funext o x;unfold pQ mg1;by_cases h:x∈o<;>simp[h]
theorem aIp (f:Int) (s:Str) (o l:List Str):yB f s o l=mg (fun x=>decide (f=7)&&decide (x=s)) o l:=by
 unfold yB mg;congr 1;funext o x;unfold n8 mg1 kM pQ;by_cases h7:f=7<;>by_cases hs:x=s<;>by_cases hx:x∈o<;>simp[h7,hs,hx]
theorem aFd (G:Str→Bool) (o acc l:List Str):mg G o (kM acc l)=mg G (mg G o acc) l:=by
 rw[s9,aCk];congr 1;funext x;simp
theorem aGb (l g o:List Str) (hg:g.length≤3000000000000) (ho:o.length+l.length≤3000000000000):aU Tryz.prog 140 [aY l,aY g,rV o] [(900,rO o)] (rV (mg (inG g) o l)) [(900,rO (mg (inG g) o l))]:=by
 refine bO (n:=38) tok Tryz.func140 rfl rfl rfl ?_;refine sg rfl (a8 (sg rfl ?_));have O:(l.map bD).length=l.length:=θ _;refine aC (aL (fun i:Nat=>mk [(0,aY l),(1,aY g),(2,rV (mg (inG g) o (l.take i))),(7,I .i64 i)] [(900,rO (mg (inG g) o (l.take i)))]) (fun i=>i≤l.length) (fun i=>l.length-i) 0 (Aj _) sl ?_);intro i hi;refine a8 (sg rfl (aA rfl (fun hb=>?_) (fun hb=>?_)))
 ·have N:=ltD hb O;obtain⟨x,hx⟩:=aJ N;have Z:=bM bD hx;have J:mg (inG g) o (l.take (i+1))=mg1 (inG g) (mg (inG g) o (l.take i)) x:=by rw[dY hx,aRq];rfl
  have W:=zP (G:=inG g) (l:=l.take i) (o:=o);rw[Au] at W;generalize mg (inG g) o (l.take i)=q at J W ⊢;have aa:=kH g x (by unfold Fits;omega);have ab:=kH q x (by unfold Fits;omega);refine AWp.sub (Sub.freeze (id:=900) rfl) ?_;refine aD (a8 (aC (a8 (agF 8 [(3,.row i (bD x)),(5,.pc (B (decide (x∈g)))),(11,.row i (bD x)),(13,.pc (B (decide (x∈q))))] rfl rfl rfl (aA rfl (fun hb=>?_) (fun hb=>?_))))))
  ·have hm:mg1 (inG g) q x=q++[x]:=by
    unfold mg1 inG;cases h1:decide (x∈g)<;>cases h2:decide (x∈q)<;>simp[h1,h2] at hb ⊢
   rw[hm] at J;refine ag [(3,.row i (bD x)),(5,.all)] rfl (ag [] rfl ⟨i+1,N,by dsimp only;omega,?_⟩);dsimp only;rw[J];exact sl
  ·have hm:mg1 (inG g) q x=q:=by
    unfold mg1 inG;cases h1:decide (x∈g)<;>cases h2:decide (x∈q)<;>simp[h1,h2] at hb ⊢
   rw[hm] at J;refine aD (ag [] rfl ⟨i+1,N,by dsimp only;omega,?_⟩);dsimp only;rw[J];exact sl
 have Y:=geD hb O hi;subst Y;refine aO ?_;rw[An];exact sg rfl (aI rtT)
theorem CG.dep1 {D M X:Nat}{f n:Int}{s:Str}{t:Ty}{ks:List Core}{bs:List Bind}{al:List Alt}(h:CG D M X (.mk f n s t ks bs al)):tW fD t r0≤D∧∀b∈bs,tW fD b.ty r0≤D:=by
 obtain⟨_,q,_,I,_⟩:=fG.1 h.dep;exact⟨q,fun b hb=>(I b hb).1⟩
def aGq (D M X:Nat) (c:Core):Prop:=CG D M X c→∀g o W:List Str,g.length+m30 c≤1000000000000→W.length+m30 c≤1000000000000→o.Nodup→(∀x∈o,x∈W)→(∀x∈tyR c,x∈W)→
 aU Tryz.prog 120 [.pa (aB c),aY g,rV o] [(900,rO o)] (rV (mg (inG g) o (tyR c))) [(900,rO (mg (inG g) o (tyR c)))]
theorem vX {f:Int}{s x:Str}:∀{l:List Core}{o:List Str},x∈jQ f s l o↔x∈o∨∃c∈l,x∈tyR c∧¬(f=7∧x=s)
 | [],o=>by rw[jQ];simp
 | c::l,o=>by
  rw[jQ,vX,aIp,jF,or_assoc];refine or_congr Iff.rfl ?_;simp
theorem aAm {D M X:Nat}(hMD:M+D≤700000) (c:Core) (ih:∀x,m30 x<m30 c→aGq D M X x):aGq D M X c:=by
 intro hc g o W hg hW ad ae htW;obtain⟨f,n,s,t,ks,bs,al⟩:=c;obtain⟨⟨hok,_⟩,_⟩:=aT.1 hc.q;rw[θ,θ] at hok;have h7:f=7→bs.length=0∧al.length=0:=fun h=>by
  have:=(aKm hok).1 (by omega)
  exact this.2
 obtain⟨wt,ft,wb⟩:=hc.ty;obtain⟨dt,db⟩:=hc.dep1;have hF:=oI t wt (by omega) (by have:=iL t;omega);have htl:=iL t;have hm30:=dF (.mk f n s t ks bs al);have hol:=fZ _ _ ad ae;have hcs:=bV (.mk f n s t ks bs al);rw[b7] at hcs;have hbl:=fC bs;have hkl:=gZ ks;have hal:=hY al;have hM1:=aGb (tfR t) g o (by omega) (by omega)
 have J:∀x,(x∈tfR t∨(∃k∈ks,x∈tyR k∧¬(f=7∧x=s))∨(∃b∈bs,x∈tfR b.ty∨x∈tyR b.body)∨∃a∈al,x∈tyR a.body)→x∈W:=fun x hx=>htW x (by
  refine bK.2 ?_;rcases hx with h | ⟨k,h1,h2,h3⟩ | h | h
  ·exact .inl h
  ·exact .inr (.inl ⟨k,h1,h2,by by_cases e:f=7;exact .inr fun hx=>h3 ⟨e,hx⟩;exact .inl e⟩)
  ·exact .inr (.inr (.inl h))
  ·exact .inr (.inr (.inr h)))
 rw[tyR];have e0:mg (inG g) o (tfR t)=mg (inG g) o (kM [] (tfR t)):=(aFd (inG g) o [] (tfR t)).symm;rw[e0] at hM1;have hA:∀x∈kM [] (tfR t),x∈W:=fun x hx=>by
  rw[s9,jF] at hx;rcases hx with h | ⟨h,_⟩
  ·cases h
  ·exact J x (.inl h)
 generalize kM [] (tfR t)=A at hM1 hA ⊢;refine bO (n:=86) tok Tryz.func120 rfl rfl rfl ?_;refine sg rfl (sk 2 rfl (kc hF ?_));refine ak 2 [] rfl (kc hM1 ?_);refine kz 1 rfl (sg rfl (sg rfl ?_));have hE1:(if f=7 then [s] else []).length≤1:=by split<;>simp
 refine a8 (AWp.cut (mk [(2,rV (mg (inG g) o A)),(3,.one (.vp 3 0)),(7,.one (.hs 19 0 (g++(if f=7 then [s] else [])).length (g++(if f=7 then [s] else [])).length))] [(3,.var 37 (bA (.mk f n s t ks bs al))),(19,.arr 9 1 ((g++(if f=7 then [s] else [])).map bD) 0),(900,rO (mg (inG g) o A))]) ?_ ?_)
 ·refine sg rfl (aA rfl (fun hb=>?_) (fun hb=>?_))
  ·have h5:f=7:=ψ hb;rw[ξ h5];exact ag [(3,.all)] rfl sl
  ·have h5:¬f=7:=δ hb;rw[φ h5,A0];exact aD sl
 have hins:inG (g++(if f=7 then [s] else []))=fun x=>inG g x || (decide (f=7)&&decide (x=s)):=by
  by_cases h5:f=7
  ·rw[ξ h5,aLk];funext x;simp[h5]
  ·rw[φ h5,A0];funext x;simp[h5]
 have hil:(g++(if f=7 then [s] else [])).length≤g.length+1:=by rw[ω];omega
 have hg0:¬f=7→g++(if f=7 then [s] else [])=g:=fun h=>by rw[φ h,A0]
 generalize g++(if f=7 then [s] else [])=ins at hins hil hg0 ⊢;have hkB:(aS bs).length=bs.length:=by rw[bI,θ]
 have hkK:(aM ks).length=ks.length:=by rw[aR,θ]
 have hkA:(bS al).length=al.length:=by rw[bQ,θ]
 refine AWp.sub (Sub.freeze (id:=19) rfl) ?_;refine a8 (sg rfl (aC (aL (fun i:Nat=>mk [(2,rV (mg (inG g) o (jQ f s (ks.take i) A))),(3,.one (.vp 3 0)),(7,.one (.hs 19 0 ins.length ins.length)),(8,I .i64 i)] [(3,.var 37 (bA (.mk f n s t ks bs al))),(19,.arr 9 1 (ins.map bD) 2),(900,rO (mg (inG g) o (jQ f s (ks.take i) A)))]) (fun i=>i≤ks.length) (fun i=>ks.length-i) 0 (Aj _) (by rw[Bp,jQ];exact sl) ?_)));intro i hi;refine a8 (sg rfl (aA rfl (fun hb=>?_) (fun hb=>?_)))
 ·have O:=ltD hb hkK;obtain⟨k,hki⟩:=aJ O;have hkm:=η hki;have hki':=dG hki;have Z:mg (inG g) o (jQ f s (ks.take (i+1)) A)=mg (inG ins) (mg (inG g) o (jQ f s (ks.take i) A)) (tyR k):=by
   rw[vU hki,aIp,aCk,hins]
  obtain⟨k1,_,k3⟩:=hc.kid hkm;have hWm:∀x∈W,x∈s::W:=fun x hx=>κ _ hx
  have aa:=ih k k3 k1 ins (mg (inG g) o (jQ f s (ks.take i) A)) (s::W) (by omega) (by rw[Ag];omega) (aHf ad) (fun x hx=>hWm x (by
   rcases jF.1 hx with hx | ⟨hx,_⟩
   ·exact ae x hx
   ·rcases vX.1 hx with hx | ⟨k',q1,q2,q3⟩
    ·exact hA x hx
    ·exact J x (.inr (.inl ⟨k',Bl q1,q2,q3⟩)))) (fun x hx=>by
   by_cases e:x=s
   ·rw[e];exact ζ
   ·exact hWm x (J x (.inr (.inl ⟨k,hkm,hx,fun h=>e h.2⟩))))
  refine aD (a8 (aC (aE mixed (ak 7 [(3,.row i (aB k))] rfl (kc aa ?_)))));refine kz 1 rfl (ag [] rfl ⟨i+1,O,by dsimp only;omega,?_⟩);dsimp only;rw[Z];exact sl
 have ab:=geD hb hkK hi;subst ab;refine aO ?_;rw[An];have hB:∀x∈jQ f s ks A,x∈W:=fun x hx=>by
  rcases vX.1 hx with hx | ⟨k',q1,q2,q3⟩
  ·exact hA x hx
  ·exact J x (.inr (.inl ⟨k',q1,q2,q3⟩))
 generalize jQ f s ks A=Y at hB ⊢;refine a8 (sg rfl (aC ?_));have hBm:∀(l:List Bind) (o:List Str),(∀x∈o,x∈W)→(∀b∈l,b∈bs)→∀x∈iR l o,x∈W:=by
  intro l
  induction l with
  | nil=>intro o h _ x hx;rw[iR] at hx;exact h x hx
  | cons b l ihl=>
   intro o h hb x hx;have N:=hb b ζ;obtain⟨bn,bt,bc⟩:=b;rw[iR] at hx;refine ihl _ (fun y hy=>?_) (fun b hb'=>hb b (κ _ hb')) x hx;rw[s9,jF,s9,jF] at hy;rcases hy with(hy | ⟨hy,_⟩) | ⟨hy,_⟩
   ·exact h y hy
   ·exact J y (.inr (.inr (.inl ⟨_,N,.inl hy⟩)))
   ·exact J y (.inr (.inr (.inl ⟨_,N,.inr hy⟩)))
 refine aL (fun i:Nat=>mk [(2,rV (mg (inG g) o (iR (bs.take i) Y))),(3,.one (.vp 3 0)),(7,.one (.hs 19 0 ins.length ins.length)),(9,I .i64 i)] [(3,.var 37 (bA (.mk f n s t ks bs al))),(19,.arr 9 1 (ins.map bD) 2),(900,rO (mg (inG g) o (iR (bs.take i) Y)))]) (fun i=>i≤bs.length) (fun i=>bs.length-i) 0 (Aj _) (by rw[Bp,iR];exact sl) ?_;intro i hi;refine a8 (sg rfl (aA rfl (fun hb=>?_) (fun hb=>?_)))
 ·have O:=ltD hb hkB;obtain⟨b,hbi⟩:=aJ O;have N:=η hbi;have hbi':=bT hbi;obtain rfl:ins=g:=hg0 fun h=>by have:=h7 h;omega
  have Z:mg (inG ins) o (iR (bs.take (i+1)) Y)=mg (inG ins) (mg (inG ins) (mg (inG ins) o (iR (bs.take i) Y)) (tfR b.ty)) (tyR b.body):=by
   rw[vV hbi,aFd,aFd]
  have hBi:=hBm (bs.take i) Y hB fun b hb=>Bl hb
  have hWb:∀x∈mg (inG ins) o (iR (bs.take i) Y),x∈W:=fun x hx=>by
   rcases jF.1 hx with hx | ⟨hx,_⟩
   ·exact ae x hx
   ·exact hBi x hx
  have hndb:(mg (inG ins) o (iR (bs.take i) Y)).Nodup:=aHf ad;have hlb:=fZ _ _ hndb hWb;obtain⟨w1,w2⟩:=wb b N;have hfl:=iL b.ty;have hFb:=oI b.ty w1 (by have:=db b N;omega) (by omega);have hMb:=aGb (tfR b.ty) ins (mg (inG ins) o (iR (bs.take i) Y)) (by omega) (by omega);have hWb2:∀x∈mg (inG ins) (mg (inG ins) o (iR (bs.take i) Y)) (tfR b.ty),x∈W:=fun x hx=>by
   rcases jF.1 hx with hx | ⟨hx,_⟩
   ·exact hWb x hx
   ·exact J x (.inr (.inr (.inl ⟨b,N,.inl hx⟩)))
  obtain⟨k1,k3⟩:=hc.bind N;have aa:=ih b.body k3 k1 ins (mg (inG ins) (mg (inG ins) o (iR (bs.take i) Y)) (tfR b.ty)) W (by omega) (by omega) (aHf hndb) hWb2 fun x hx=>J x (.inr (.inr (.inl ⟨b,N,.inr hx⟩)))
  refine aD (a8 (aC (skh 6 [(3,.row i (bB b))] rfl (kc hFb ?_))));refine ak 2 [] rfl (kc hMb ?_);refine kz 1 rfl (aE mixed (ak 8 [(3,.row i (bB b))] rfl (kc aa ?_)));refine kz 1 rfl (ag [] rfl ⟨i+1,O,by dsimp only;omega,?_⟩);dsimp only;rw[Z];exact sl
 have ab:=geD hb hkB hi;subst ab;refine aO ?_;rw[An];have hC:=hBm bs Y hB fun b hb=>hb
 generalize iR bs Y=oC at hC ⊢;refine a8 (sg rfl (aC ?_));have hAm:∀(l:List Alt) (o:List Str),(∀x∈o,x∈W)→(∀b∈l,b∈al)→∀x∈jR l o,x∈W:=by
  intro l
  induction l with
  | nil=>intro o h _ x hx;rw[jR] at hx;exact h x hx
  | cons b l ihl=>
   intro o h hb x hx;have N:=hb b ζ;obtain⟨af,an,anm,av,ac⟩:=b;rw[jR] at hx;refine ihl _ (fun y hy=>?_) (fun b hb'=>hb b (κ _ hb')) x hx;rw[s9,jF] at hy;rcases hy with hy | ⟨hy,_⟩
   ·exact h y hy
   ·exact J y (.inr (.inr (.inr ⟨_,N,hy⟩)))
 refine aL (fun i:Nat=>mk [(2,rV (mg (inG g) o (jR (al.take i) oC))),(3,.one (.vp 3 0)),(7,.one (.hs 19 0 ins.length ins.length)),(10,I .i64 i)] [(3,.var 37 (bA (.mk f n s t ks bs al))),(19,.arr 9 1 (ins.map bD) 2),(900,rO (mg (inG g) o (jR (al.take i) oC)))]) (fun i=>i≤al.length) (fun i=>al.length-i) 0 (Aj _) (by rw[Bp,jR];exact sl) ?_;intro i hi;refine a8 (sg rfl (aA rfl (fun hb=>?_) (fun hb=>?_)))
 ·have O:=ltD hb hkA;obtain⟨a,hai⟩:=aJ O;have ham:=η hai;have hai':=iU hai;obtain rfl:ins=g:=hg0 fun h=>by have:=h7 h;omega
  have Z:mg (inG ins) o (jR (al.take (i+1)) oC)=mg (inG ins) (mg (inG ins) o (jR (al.take i) oC)) (tyR a.body):=by
   rw[vW hai,aFd]
  have hBi:=hAm (al.take i) oC hC fun b hb=>Bl hb
  obtain⟨k1,k3⟩:=hc.alt ham
  have aa:=ih a.body k3 k1 ins (mg (inG ins) o (jR (al.take i) oC)) W (by omega) (by omega) (aHf ad) (fun x hx=>by
   rcases jF.1 hx with hx | ⟨hx,_⟩
   ·exact ae x hx
   ·exact hBi x hx) fun x hx=>J x (.inr (.inr (.inr ⟨a,ham,hx⟩)))
  refine aD (a8 (aC (aE mixed (ak 8 [(3,.row i (c7 a))] rfl (kc aa ?_)))));refine kz 1 rfl (ag [] rfl ⟨i+1,O,by dsimp only;omega,?_⟩);dsimp only;rw[Z];exact sl
 have ab:=geD hb hkA hi;subst ab;refine aO ?_;rw[An];exact sg rfl (aI rtT)
theorem sW {D M X:Nat}(q:M+D≤700000) {c:Core}(hc:CG D M X c):aU Tryz.prog 84 [.pa (aB c)] [] (aY (tyR c)) []:=by
 have key:∀(k:Nat) (c:Core),m30 c≤k→aGq D M X c:=by
  intro k
  induction k with
  | zero=>intro c h;have:=dF c;omega
  | succ k I=>intro c h;exact aAm q c fun x hx=>I x (by omega)
 have J:Big=250000000000:=rfl;have h0:=key _ c (le_refl _) hc [] [] (tyR c) (by have:=hc.sz;simp;omega) (by have:=hc.sz;have:=hc.sc;omega) nodup_nil (fun x hx=>by cases hx) (fun x hx=>hx);rw[show inG []=fun _=>false from by funext x;simp[inG],sC (aS8 c)] at h0;have h1:=aU.nilArg (pre:=[.pa (aB c),aY []]) (post:=[]) (hin:=[]) h0 rfl;have h2:=h1.plain (by simp);refine bO (n:=5) tok Tryz.func84 rfl rfl rfl ?_;refine sg rfl (sk 1 rfl (kc h2 ?_));exact kz 1 rfl (aI rtT)
theorem sX (l:List Str) (hl:l.length≤600000000000):aU Tryz.prog 85 [aY l] [] (Go.AM.T (aZ l)) []:=by
 have hf:=lQ l;refine bO (n:=12) tok Tryz.func85 rfl rfl rfl ?_;refine sg rfl (sg rfl (a8 (aC (aL (fun n:Nat=>mk [(0,aY l),(3,I .i64 n)] []) (fun n=>n≤dT l) (fun n=>dT l-n) 0 (Aj _) sl ?_))));intro n hn;have q:=v8 n (by omega);have J:=kH l (bG n) (by unfold Fits;omega);refine a8 (sk 2 rfl (kc q ?_));refine kc J ?_;refine az (aA rfl (fun hb=>?_) (fun hb=>?_))
 ·have hm:bG n∈l:=ψ hb;have N:n≠dT l:=by rintro rfl;exact gU l hm
  refine aD (aC (ag [] rfl ?_ (hc:=by repeat (first | exact trivial | refine⟨by omega,?_⟩))));exact⟨n+1,by omega,by dsimp only;omega,sl⟩
 ·have hm:¬bG n∈l:=δ hb;have he:n=dT l:=by
   by_cases h:n<dT l
   ·exact absurd (jZ l h) hm
   ·omega
  subst he;refine aO (sk 1 rfl (kc q ?_));exact kz 1 rfl (aI rtT)
theorem aMv (t:Ty) (hw:wfS t=true) (hd:tW fD t r0≤1000000) (hl:(tfR t).length≤1000000):aU Tryz.prog 86 [tyV t] [] (rV (tfR t)) [(900,rO (tfR t))]:=by
 have h0:=a1h (tn t) t (le_refl _) hw [] [] (tfR t) (by rw[length_nil];omega) (by omega) nodup_nil (fun x hx=>by cases hx) (fun x hx=>hx);rw[show inG []=fun _=>false from by funext x;simp[inG],sC (aBw t)] at h0;have h1:=aU.nilArg (pre:=[tyV t,aY []]) (post:=[]) (hin:=[]) h0 rfl;refine bO (n:=5) tok Tryz.func86 rfl rfl rfl ?_;refine sg rfl (sk 1 rfl (kc h1 ?_));exact kz 1 rfl (aI rtT)
theorem aR8 {X:Nat}{c:Core}(h:cE (QL X) c):few c=false:=by
 obtain⟨f,n,s,t,ks,bs,al⟩:=c;obtain⟨⟨hok,_⟩,_⟩:=aT.1 h;unfold few;show(if f=4∨f=10 then decide ((ks.length:Int)<2) else decide (f=5∨f=6∨f=7∨f=8∨f=9)&&decide ((ks.length:Int)<1))=false;unfold okF at hok;by_cases h4:f=4∨f=10
 ·rw[ξ h4] at hok ⊢;have:=ψ hok;exact Al (by omega)
 ·rw[φ h4] at hok ⊢;by_cases h5:f=5∨f=6∨f=7
  ·rw[ξ h5] at hok;have:=ψ hok;rw[Al (show ¬(ks.length:Int)<1 by omega),Bool.and_false]
  ·rw[φ h5] at hok;by_cases q:f=8
   ·rw[ξ q] at hok;have:=ψ hok;rw[Al (show ¬(ks.length:Int)<1 by omega),Bool.and_false]
   ·rw[φ q] at hok;by_cases I:f=9
    ·rw[ξ I] at hok;have:=ψ hok;rw[Al (show ¬(ks.length:Int)<1 by omega),Bool.and_false]
    ·rw[Al (show ¬(f=5∨f=6∨f=7∨f=8∨f=9) by omega),Bool.false_and]
theorem aUz (t:Ty) (name:Str) (u:Ty) (h:aU Tryz.prog 123 [tyV t,aY [name],aN0 [u]] [] (tyV (gP t [(name,u)])) []):aU Tryz.prog 87 [tyV t,Go.AM.T name,tyV u] [] (tyV (gP t [(name,u)])) []:=by
 obtain⟨f,n,s,a⟩:=t;refine bO (n:=17) tok Tryz.func87 rfl rfl rfl ?_;refine sg rfl (a8 (sg rfl (aA rfl (fun hb=>?_) (fun hb=>?_))))
 ·have h0:f=0:=ψ hb;rw[show gP (.mk f n s a) [(name,u)]=.mk f n s a by rw[gP,φ (by omega),φ (by omega),φ (by omega)]];exact sg rfl (aI (rtC trw))
 refine aD (skh 5 [(2,.all),(4,.all)] rfl (kc h ?_));exact kz 1 rfl (aI (rtC trw))
theorem aYv (hI:cQ 540000000000) {D M X:Nat}(hMD:M+D≤700000):∀(k:Nat) (c:Core),m30 c≤k→CG D M X c→∀(name:Str) (u:Ty),UOk u→tW fD u r0≤1000000→aU Tryz.prog 34 [.pa (aB c),Go.AM.T name,tyV u] [] (.pa (aB (sTR k c name u))) []:=by
 intro k
 induction k with
 | zero=>intro c h;have:=dF c;omega
 | succ k ih=>
 intro c h hc name u hu N;have hcs:=bV c;have hsz:=hc.sz;have hBig:Big=250000000000:=rfl;have hfl:=iL u;have hufv:=hu.fv;have hfu:=oI u hu.wf N (by omega);have hfuO:=aMv u hu.wf N (by omega);have hfw:=aY6 c;rw[aR8 hc.q] at hfw;obtain⟨f,n,nm,t,ks,bs,al⟩:=c;obtain⟨ht0,ht1,htb⟩:=hc.ty;obtain⟨hd0,hdb⟩:=hc.dep1;have hq:=hc.q;obtain⟨q1,q2,q3,q4⟩:=aT.1 hq;rw[sTR];have hps:=hu.ps name;have htt:∀v,wfS v=true→fvm v≤M+D→tW fD v r0≤D→aU Tryz.prog 87 [tyV v,Go.AM.T name,tyV u] [] (tyV (gP v [(name,u)])) []:=fun v h1 h2 h3=>aUz v name u (aU5 (tn v) v (le_refl _) h1 (by omega) (by omega) _ hps (fun p hp=>by rw[Aa.1 hp];exact N))
 by_cases h7:f=7
 ·subst h7;obtain⟨⟨kid,rfl⟩,rfl,rfl⟩:=cO hq (.inr (.inr rfl));obtain⟨g1,g2,g3⟩:=hc.kid (x:=kid) ζ;rw[ξ rfl] at g2;obtain rfl:t=zTy:=(q1.2.1 rfl).1
  have hz0:tfR zTy=[]:=rfl;have hTk:=sW hMD g1;have hTl:=g1.sc;have hct:=kH (tyR kid) name (by unfold Fits;omega);have hcu:=kH (tfR u) nm (by unfold Fits;omega);have hmem:name∈tyR (.mk 7 n nm zTy [kid] [] [])↔name∈tyR kid∧¬name=nm:=by
   rw[bK];constructor
   ·rintro(h | ⟨x,hx,h,h'⟩ | ⟨b,hb,_⟩ | ⟨a,ha,_⟩)
    ·rw[hz0] at h;cases h
    ·rw[←Aa.1 hx];exact⟨h,h'.resolve_left fun e=>e rfl⟩
    ·cases hb
    ·cases ha
   ·rintro⟨h,h'⟩;exact .inr (.inl ⟨kid,ζ,h,.inr h'⟩)
  refine bO (n:=146) tok Tryz.func34 rfl rfl rfl ?_;refine sg rfl (a8 (sgh [(1,.pc (B false))] rfl (aA rfl nofun (fun _=>aD (a8 (sg rfl (aA rfl (fun _=>sgh [(2,.row 0 (aB kid))] rfl (a8 (a8 (agF 5 [(6,.pc (aY (tyR kid))),(8,.pc (B (decide (name∈tyR kid))))] rfl rfl rfl (aA rfl (fun hb=>?_) (fun hb=>?_)))))) nofun)))))))
  ·have hs:nm=name∨¬name∈tyR (.mk 7 n nm zTy [kid] [] []):=by
    by_cases e:nm=name
    ·exact .inl e
    ·refine .inr fun hin=>?_
     have h2:=(hmem.1 hin).1
     simp[h2] at hb;exact e hb
   rw[ξ ⟨rfl,hs⟩];exact sg rfl (aI (rtC trw))
  have hs:¬(nm=name∨¬name∈tyR (.mk 7 n nm zTy [kid] [] [])):=by
   by_cases e:nm=name
   ·exfalso;simp at hb;exact hb.1 e
   ·by_cases h2:name∈tyR kid
    ·exact fun h=>h.elim e fun h=>h (hmem.2 ⟨h2,fun h=>e h.symm⟩)
    ·simp[h2] at hb
  rw[φ fun e=>hs e.2];refine aD ?_;have hfin:∀(nm1:Str) (J:Core),aU Tryz.prog 34 [.pa (aB J),Go.AM.T name,tyV u] [] (.pa (aB (sTR k J name u))) []→
    gH (fun t=>gP t [(name,u)]) (fun x=>sTR k x name u) (.mk 7 n nm1 zTy [J] [] [])=.mk 7 n nm1 zTy [sTR k J name u] [] []:=fun nm1 J _=>by rw[gH,r7];rfl
  by_cases aa:nm∈tfR u
  ·rw[ξ ⟨rfl,aa⟩];have efm:[kid].flatMap tyR=tyR kid:=by simp
   rw[efm,Am,Bs];have hz30:(aZ (tfR u++tyR kid)).length≤30:=jO _ (by rw[ω];omega);have hFr:=sX (tfR u++tyR kid) (by rw[ω];omega);generalize hze:aZ (tfR u++tyR kid)=z at hz30 hFr ⊢;have W:=tQ hI hMD k kid (by omega) g1 nm (vT z) (UOk.var z);have hR1:=ih kid (by omega) g1 nm (vT z) (UOk.var z) (by show tW fD (.mk 2 0 z []) r0≤_;rw[tW,ξ rfl];exact Aj _);have hkid1:CG D M X (sTR k kid nm (vT z)):=by
    refine⟨W.q,?_,?_,le_trans W.sz g1.sz⟩
    ·have:=W.cw fD 0 r0;have e:tW fD (vT z) r0=0:=rfl;rw[e,yQ] at this;exact le_trans this g1.dep
    ·have h1:=dD (a:=z::tyR kid) (c:=sTR k kid nm (vT z)) fun x hx=>by
      rcases W.ty x hx with h | h
      ·exact κ _ h
      ·rw[yL] at h;rw[Aa.1 h];exact ζ
     rw[Ag] at h1;have h2:=W.tl;omega
   have hR2:=ih (sTR k kid nm (vT z)) (by have:=W.sz;omega) hkid1 name u hu N;rw[hfin z _ hR2];generalize sTR k kid nm (vT z)=J at *;generalize sTR k J name u=r at *;have hFr2:aU Tryz.prog 85 [.one (.c (.sl 1 ((tfR u).map bD++(tyR kid).map bD)))] [] (Go.AM.T z) []:=by
    have e1:aY (tfR u++tyR kid)=.one (.c (.sl 1 ((tfR u).map bD++(tyR kid).map bD))):=by unfold aY;rw[Ar]
    rw[e1] at hFr;exact hFr
   rw[Ak aa] at hcu;refine a8 (sgh [(1,.pc (aY (tfR u))),(4,.pc (B true))] rfl (aA rfl (fun _=>sk 1 rfl (kc hfuO ?_)) nofun));refine ak 1 [] rfl (kc hTk ?_);refine ak 1 [(4,.fz)] rfl (kc hFr2 ?_);refine kz 1 rfl (sk 5 rfl (kc hR1 ?_));exact kz 1 rfl (ag [] rfl (sgh [(3,.pc (.pa (aB r))),(4,.all)] rfl (sg rfl (aI (rtC trw)))))
  ·rw[φ fun e=>aa e.2];have hR2:=ih kid (by omega) g1 name u hu N;rw[hfin nm kid hR2];generalize sTR k kid name u=r at *;rw[Al aa] at hcu;exact a8 (sgh [(1,.pc (aY (tfR u))),(4,.pc (B false))] rfl (aA rfl nofun (fun _=>aD (sgh [(3,.pc (.pa (aB r))),(4,.all)] rfl (sg rfl (aI (rtC trw)))))))
 ·rw[φ fun e=>h7 e.1,φ fun e=>h7 e.1,gH];have htt0:=htt t ht0 ht1 hd0;generalize gP t [(name,u)]=t' at htt0 ⊢;have hkE:(aM ks).length=ks.length:=by rw[aR,θ]
  have hkB:(aS bs).length=bs.length:=by rw[bI,θ]
  have hkA:(bS al).length=al.length:=by rw[bQ,θ]
  rw[b7] at hcs;have hkl:=gZ ks;have hbl:=fC bs;have hal:=hY al;refine bO (n:=146) tok Tryz.func34 rfl rfl rfl ?_;refine sg rfl (a8 (sgh [(1,.pc (B false))] rfl (aA rfl nofun (fun _=>aD (a8 (sg rfl (aA rfl (fun hb=>absurd (ψ hb) h7) (fun _=>aD (sgh [(4,.pc (tyV t'))] rfl (sg rfl (AWp.sub (Sub.own (t:=9) (id:=500) 37 10 rfl rfl) ?_)))))))))));refine a8 (sg rfl (aC ?_))
  let C0:List R:=[.c (.int .i64 f),.c (.int .i64 n),.c (.str nm),.c (.int .i64 t'.form),.c (.int .i64 t'.n),.c (.str t'.name),.c (.sl 4 (gD t'))]
  refine aL (fun i:Nat=>mk [(1,Go.AM.T name),(3,.one (.vp 3 0)),(5,.one (.vp 5 0)),(6,.one (.vp 6 0)),(9,.one (.hs 500 0 i i)),(10,I .i64 i)]
   [(3,.var 37 (C0++[.c (.sl 10 (aM ks)),.c (.sl 15 (aS bs)),.c (.sl 14 (bS al))])),(5,.var 33 ((b8 u).map R.c)),(6,.var 37 bL),(500,.arr 37 10 ((ks.take i).map fun x=>aB (sTR k x name u)) 0)]) (fun i=>i≤ks.length) (fun i=>ks.length-i) 0 (Aj _) sl ?_
  intro i hi;refine a8 (sg rfl (aA rfl (fun hb=>?_) (fun hb=>?_)))
  ·have O:i<ks.length:=ltD hb hkE;obtain⟨x,hki⟩:=aJ O;have hki':=dG hki;have hxm:=η hki;have he:=ih x (by have:=(hc.kid hxm).2.2;omega) (hc.kid hxm).1 name u hu N;have ab:=eC (fun x=>aB (sTR k x name u)) hki;exact aD (a8 (aC (ag [(4,.row i (aB x)),(8,.pc (.pa (aB (sTR k x name u)))),(9,.all)] rfl (ag [] rfl ⟨i+1,O,by dsimp only;omega,sl⟩))))
  have Y:i=ks.length:=geD hb hkE hi;subst Y;have hKs:(ks.take ks.length).map (fun x=>aB (sTR k x name u))=aM (ks.map fun x=>sTR k x name u):=by rw[An,aR,A1];rfl
  rw[hKs];refine aO (AWp.sub (Sub.freeze (id:=500) rfl) ?_);refine sg rfl (sg rfl (AWp.sub (Sub.own (t:=11) (id:=501) 58 15 rfl rfl) ?_));refine a8 (sg rfl (aC ?_))
  refine aL (fun i:Nat=>mk [(1,Go.AM.T name),(3,.one (.vp 3 0)),(5,.one (.vp 5 0)),(6,.one (.vp 6 0)),(11,.one (.hs 501 0 i i)),(12,I .i64 i)]
   [(3,.var 37 (C0++[.hs 500 0 ks.length ks.length,.c (.sl 15 (aS bs)),.c (.sl 14 (bS al))])),(5,.var 33 ((b8 u).map R.c)),(6,.var 37 bL),(500,.arr 37 10 (aM (ks.map fun x=>sTR k x name u)) 2),(501,.arr 58 15 ((bs.take i).map fun b=>bB (.mk b.name (gP b.ty [(name,u)]) (sTR k b.body name u))) 0)]) (fun i=>i≤bs.length) (fun i=>bs.length-i) 0 (Aj _) sl ?_
  intro i hi;refine a8 (sg rfl (aA rfl (fun hb=>?_) (fun hb=>?_)))
  ·have O:i<bs.length:=ltD hb hkB;obtain⟨b,hbi⟩:=aJ O;have hbi':=bT hbi;have Z:=η hbi;have he:=ih b.body (by have:=(hc.bind Z).2;omega) (hc.bind Z).1 name u hu N;have htb':=htt b.ty (htb b Z).1 (htb b Z).2 (hdb b Z);have ab:=eC (fun b:Bind=>bB (.mk b.name (gP b.ty [(name,u)]) (sTR k b.body name u))) hbi;obtain⟨bn,bt,bc⟩:=b;dsimp only[Bind.ty,Bind.body,Bind.name] at *;generalize gP bt [(name,u)]=bt' at *;exact aD (a8 (aC (sgh [(3,.row i (bB (.mk bn bt bc)))] rfl (ag [(7,.pc (tyV bt')),(12,.pc (.pa (aB (sTR k bc name u)))),(14,.all)] rfl (ag [] rfl ⟨i+1,O,by dsimp only;omega,sl⟩)))))
  have Y:i=bs.length:=geD hb hkB hi;subst Y;have hBs:(bs.take bs.length).map (fun b=>bB (.mk b.name (gP b.ty [(name,u)]) (sTR k b.body name u)))=aS (bs.map fun b=>.mk b.name (gP b.ty [(name,u)]) (sTR k b.body name u)):=by rw[An,bI,A1];rfl
  rw[hBs];refine aO (AWp.sub (Sub.freeze (id:=501) rfl) ?_);refine sg rfl (sg rfl (AWp.sub (Sub.own (t:=14) (id:=502) 88 14 rfl rfl) ?_));refine a8 (sg rfl (aC ?_))
  refine aL (fun i:Nat=>mk [(1,Go.AM.T name),(3,.one (.vp 3 0)),(5,.one (.vp 5 0)),(6,.one (.vp 6 0)),(14,.one (.hs 502 0 i i)),(15,I .i64 i)]
   [(3,.var 37 (C0++[.hs 500 0 ks.length ks.length,.hs 501 0 bs.length bs.length,.c (.sl 14 (bS al))])),(5,.var 33 ((b8 u).map R.c)),(6,.var 37 bL),(500,.arr 37 10 (aM (ks.map fun x=>sTR k x name u)) 2),(501,.arr 58 15 (aS (bs.map fun b=>.mk b.name (gP b.ty [(name,u)]) (sTR k b.body name u))) 2),(502,.arr 88 14 ((al.take i).map fun a=>c7 (.mk a.form a.n a.name a.vars (sTR k a.body name u))) 0)]) (fun i=>i≤al.length) (fun i=>al.length-i) 0 (Aj _) sl ?_
  intro j hj;refine a8 (sg rfl (aA rfl (fun hb=>?_) (fun hb=>?_)))
  ·have O:j<al.length:=ltD hb hkA;obtain⟨a,hai⟩:=aJ O;have hai':=iU hai;have ham:=η hai;have he:=ih a.body (by have:=(hc.alt ham).2;omega) (hc.alt ham).1 name u hu N;have ab:=eC (fun a:Alt=>c7 (.mk a.form a.n a.name a.vars (sTR k a.body name u))) hai;obtain⟨af,an,anm,av,ac⟩:=a;dsimp only[Alt.body,Alt.form,Alt.n,Alt.name,Alt.vars] at *;exact aD (a8 (aC (sgh [(3,.row j (c7 (.mk af an anm av ac)))] rfl (sgh [(4,.pc (.pa (aB (sTR k ac name u))))] rfl (ag [(2,.all)] rfl (ag [] rfl ⟨j+1,O,by dsimp only;omega,sl⟩))))))
  have Y:j=al.length:=geD hb hkA hj;subst Y;have hAs:(al.take al.length).map (fun a=>c7 (.mk a.form a.n a.name a.vars (sTR k a.body name u)))=bS (al.map fun a=>.mk a.form a.n a.name a.vars (sTR k a.body name u)):=by rw[An,bQ,A1];rfl
  rw[hAs];refine aO (AWp.sub (Sub.freeze (id:=502) rfl) ?_);refine sg rfl (sg rfl ?_);have h1:ks.length=(aM (ks.map fun x=>sTR k x name u)).length:=by rw[aR,θ,θ]
  have h2:bs.length=(aS (bs.map fun b=>.mk b.name (gP b.ty [(name,u)]) (sTR k b.body name u))).length:=by rw[bI,θ,θ]
  have h3:al.length=(bS (al.map fun a=>.mk a.form a.n a.name a.vars (sTR k a.body name u))).length:=by rw[bQ,θ,θ]
  exact aI (rtC trw)
end Go.Proofs.YtockgoadliilhaaGreatDoor
