/-
  Texts Lf3 to Ka21 in one.
-/
import Derived.Test.YtnjaiimffoninaaGreatDoorM11
open List (all_append cons_append drop_eq_getElem_cons drop_left flatMap_cons foldl_append foldl_cons length_append length_cons length_eq_zero_iff length_map length_nil length_singleton length_take length_zip map_append map_congr_left map_cons map_map mem_append mem_cons mem_cons_of_mem mem_cons_self mem_flatMap mem_map mem_of_mem_take mem_singleton nil_append nodup_cons nodup_nil not_mem_nil set_cons_succ take_add_one take_append_drop take_left take_left' take_length take_of_length_le take_succ_cons take_zero)
open Nat (add_assoc add_mul add_zero le_add_right le_max_left le_of_lt le_refl le_trans lt_of_lt_of_le lt_trans max_le mul_add mul_le_mul mul_le_mul_left mul_le_mul_right succ_mul zero_le)
namespace Go.Proofs.YtnjaiimffoninaaGreatDoor
open Go Go.AM
set_option maxRecDepth 20000
set_option maxHeartbeats 4000000
section
variable {F B:Nat}{c:Core}{l:List Core}{names own tk:List Str}
theorem aS9 (Y:j2 540000000000) (I:2≤B) (hF:F≤10000000000) (J:∀o∈own,¬o∈names) {r:Core}{s o:Str}(h:CF 403 F r) (hw:wS (aW1 names own B) r≤m30 c*B)
  (hs:s∈names) (y:o∈own) (Z:o.length≤s.length+13) (O:1+w30 o≤403):
  aW Tryz.prog 97 [.pa (aB r),Go.AM.T s,.pa (aB (vC o))] [] (.pa (aB (fR (m30 r) r s (vC o)))) []∧CF 403 F (fR (m30 r) r s (vC o))∧wS (aW1 names own B) (fR (m30 r) r s (vC o))≤m30 c*B:=by
 have h1:=aRh Y (X:=403) (F1:=F) (by decide) (by decide) (m30 r) r (le_refl _) h s (vC o) 1 (CF.vX O (le_refl _)) (by omega) (le_refl _);refine⟨h1.tb.imp,⟨h1.tb.rx.q,h1.z,h1.fz o rfl⟩,le_trans (h1.w _) (le_trans (mD (fun x=>?_) r) hw)⟩;rw[a2c];unfold sO;by_cases hx:x=s
 ·rw[κ hx,hx];unfold aW1;rw[θ (J o y),κ hs];unfold aI8;rw[κ y];have w1:=i6 s;have w2:w30 o≤w30 s+13:=by unfold w30;omega
  have w3:(1+w30 s)*2≤(1+w30 s)*B:=Cy _ I;exact max_le.2 ⟨A0 _ (by omega),by omega⟩
 ·rw[θ hx];exact le_refl _
theorem a6e (hI:j2 540000000000) (J:2≤B) (hF:F≤10000000000) (y:OtO tk names own 500000000000) (O:∀o∈own,¬o∈names) (Y:∀s∈names,s.length≤380) (hc:CF 403 F c):∀i,i≤names.length→CF 403 F (iE c ((names.zip own).take i))∧wS (aW1 names own B) (iE c ((names.zip own).take i))≤m30 c*B:=by
 intro i
 induction i with
 | zero=>intro _;exact⟨hc,a6i (by omega) (aY3 (by omega)) c⟩
 | succ i ih=>
  intro hi;obtain⟨s,hs⟩:=aJ (show i<names.length by omega);obtain⟨o,q⟩:=aJ (show i<own.length by have:=y.len;omega);obtain⟨n,hn,he⟩:=y.at_ i s o hs q;have I:=δ hs;have Z:o.length≤s.length+13:=by rw[he];exact aGy (by omega)
  have hsl:=Y s I;have hw:1+w30 o≤403:=by unfold w30;omega
  obtain⟨g1,g2⟩:=ih (by omega);have:=(aS9 hI J hF O g1 g2 I (δ q) Z hw).2
  unfold iE at this ⊢;rw[pX _ _ hs q];exact this
theorem aS8 (Y:j2 540000000000) (Z:F≤1000000000) (I:1≤F) (_:l.length≤12) (_:1≤B) {i:Nat}{r:Core}{s:Str}{b:Core}(y:CF 403 F b) (J:∀x∈pfR b,x∈tk) (hout:∀o∈own,¬o∈tk) (O:m30 b≤31*B) (hi:i<12) (h:CF 403 ((1+i)*F) r) (hw:wS (aI8 own B) r≤m30 c*B) (hs:s∈own):
  aW Tryz.prog 97 [.pa (aB r),Go.AM.T s,.pa (aB b)] [] (.pa (aB (fR (m30 r) r s b))) []∧CF 403 ((1+(i+1))*F) (fR (m30 r) r s b)∧wS (aI8 own B) (fR (m30 r) r s b)≤m30 c*B:=by
 have hm:(1+i)*F≤12*1000000000:=C8 (by omega) Z;have h1:=aRh Y (X:=403) (F1:=(1+i)*F) (by decide) (by decide) (m30 r) r (le_refl _) h s b F y (by omega) I;have e:(1+(i+1))*F=(1+i)*F+F:=by rw[←Cq,succ_mul]
 refine⟨h1.tb.imp,⟨h1.tb.rx.q,h1.z,by rw[e];exact h1.fl⟩,le_trans (h1.w _) (le_trans (mD (fun x=>?_) r) hw)⟩;have e:wS (aI8 own B) b=m30 b:=by
  rw[←aCh (ρ:=fun x=>1+w30 x) (fun _=>rfl) b];refine qQ b y.q _ _ fun x hx=>?_
  unfold aI8;rw[θ fun h=>hout x h (J x hx)]
 rw[e];unfold sO;by_cases hx:x=s
 ·rw[κ hx,hx];unfold aI8;rw[κ hs];exact le_trans O (le_max_left _ _)
 ·rw[θ hx];exact le_refl _
theorem a6d (hI:j2 540000000000) (hF:F≤1000000000) (y:1≤F) (I:l.length≤12) (J:1≤B) (O:∀b∈l,CF 403 F b) (Y:∀b∈l,∀x∈pfR b,x∈tk) (hout:∀o∈own,¬o∈tk) (Z:∀b∈l,m30 b≤31*B) (hol:own.length=l.length) {r:Core}(h:CF 403 F r) (hw:wS (aI8 own B) r≤m30 c*B):
  ∀i,i≤l.length→CF 403 ((1+i)*F) (mL r ((own.zip l).take i))∧wS (aI8 own B) (mL r ((own.zip l).take i))≤m30 c*B:=by
 intro i
 induction i with
 | zero=>intro _;exact⟨by rw[B9,Nat.one_mul];exact h,hw⟩
 | succ i ih=>
  intro hi;obtain⟨b,hb⟩:=aJ (show i<l.length by omega);obtain⟨s,hs⟩:=aJ (show i<own.length by omega);have q:=δ hb;obtain⟨g1,g2⟩:=ih (by omega);have:=(aS8 (l:=l) hI hF y I J (O b q) (Y b q) hout (Z b q) (by omega) g1 g2 (δ hs)).2
  unfold mL at this ⊢;rw[pX _ _ hs hb];exact this
end
theorem aX8 (hI:j2 540000000000) {F B:Nat}(c:Core) (names:List Str) (l:List Core) (hl:names.length=l.length) (hl2:l.length≤12) (hnl:∀s∈names,s.length≤380) (hF:F≤500000000) (hF1:1≤F) (hB2:2≤B) (hc:CF 403 F c) (O:∀b∈l,CF 403 F b) (hbs:∀b∈l,m30 b≤31*B):
  aW Tryz.prog 138 [.pa (aB c),eE names,.one (.c (.sl 10 (l.map aB)))] [] (.pa (aB (qM c names l))) []∧CF 403 (13*F) (qM c names l)∧m30 (qM c names l)≤m30 c*B:=by
 have hpc:=hc.fl.len;have hfl:∀i,((l.take i).flatMap pfR).length≤10000000000:=fun i=>by
  have h1:=aHb (F:=F) (l:=l.take i) fun x hx=>(O x (Bz hx)).fl.len
  have h2:(l.take i).length*F≤12*500000000:=C8 (by rw[Ap];omega) hF;omega
 have hTK:pfR c++names++(l.take l.length).flatMap pfR=dR c names l:=by rw[As];rfl
 have htkl:(dR c names l).length≤20000000012:=by rw[←hTK,ε,ε];have:=hfl l.length;omega
 have hnt:∀x∈names,x∈dR c names l:=fun x hx=>ω.2 (.inl (ω.2 (.inr hx)))
 have htk:∀b∈l,∀x∈pfR b,x∈dR c names l:=fun b hb x hx=>ω.2 (.inr (Ce.2 ⟨b,hb,hx⟩))
 have y:=aGx (dR c names l) names;have hK:names.length*((dR c names l).length+1)≤12*20000000013:=C8 (by omega) (by omega);have Y:OtO (dR c names l) names (nM (dR c names l) names 0) 500000000000:=⟨y.len,fun i s o h1 h2=>by obtain⟨n,hn,e⟩:=y.at_ i s o h1 h2;exact⟨n,by omega,e⟩,y.out⟩
 have hownL:=y.len;have hns:∀o∈nM (dR c names l) names 0,¬o∈names:=fun o Z h=>y.out o Z (hnt o h)
 have hP1:=a6e (B:=B) hI hB2 (by omega) Y hns hnl hc;have hzn:(names.zip (nM (dR c names l) names 0)).take names.length=names.zip (nM (dR c names l) names 0):=by
  rw[Az];rw[length_zip];omega
 have I:=hP1 names.length (le_refl _);rw[hzn] at I;have hP3:=a6d (c:=c) (B:=B) hI (by omega) hF1 hl2 (by omega) O htk Y.out hbs (by omega) I.1 (le_trans (mD (aY7 (names:=names) (by omega)) _) I.2);have hzl:((nM (dR c names l) names 0).zip l).take l.length=(nM (dR c names l) names 0).zip l:=by
  rw[Az];rw[length_zip];omega
 have J:=hP3 l.length (le_refl _);rw[hzl] at J;have hlc:=aF6 (X:=403) (by decide) _ c (le_refl _) hc.q;have hfc:=hc.fl.fl (by omega) _ c (le_refl _);refine⟨a5b hI c names l hl hl2 hnl (aRm c hlc hfc) (fun b hb=>(O b hb).free (by decide) (by omega)) (by omega) hfl (fun i s o hs Z=>?_) fun i s b hs hb=>?_,J.1.up (A0 _ (by omega)),le_trans (a32 aY8 _) J.2⟩
 ·have hlt:i<names.length:=(ξ.1 hs).1
  obtain⟨N,hN,he⟩:=Y.at_ i s o hs Z;have hsm:=δ hs;have hsn:=hnl s hsm;have hol:o.length≤s.length+13:=by rw[he];exact aGy (by omega)
  obtain⟨g1,g2⟩:=hP1 i (by omega);exact(aS9 hI hB2 (by omega) hns g1 g2 hsm (δ Z) hol (by unfold w30;omega)).1
 ·have hlt:i<l.length:=(ξ.1 hb).1
  have hbm:=δ hb;obtain⟨g1,g2⟩:=hP3 i (by omega);exact(aS8 (l:=l) hI (by omega) hF1 hl2 (by omega) (O b hbm) (htk b hbm) Y.out (hbs b hbm) (by omega) g1 g2 (δ hs)).1
structure CB (c:Core):Prop where
 q:bU (QL 403) c
 z:bU ZL c
 m:m30 c≤500000000
theorem CB.cf {c:Core}(h:CB c):CF 403 500000000 c:=⟨h.q,h.z,.of _ c (le_refl _) (le_trans (fZ c) h.m)⟩
section
variable {f n:Int}{s:Str}{t:Ty}{ks:List Core}{bs:List Bind}{al:List Alt}
theorem CB.kid (h:CB (.mk f n s t ks bs al)) {x:Core}(hx:x∈ks):CB x:=⟨(aM.1 h.q).2.1 x hx,(aM.1 h.z).2.1 x hx,by have:=iR hx;have:=h.m;rw[m30] at this;omega⟩
theorem CB.bind (h:CB (.mk f n s t ks bs al)) {x:Bind}(hx:x∈bs):CB x.body:=⟨(aM.1 h.q).2.2.1 x hx,(aM.1 h.z).2.2.1 x hx,by have:=nQ hx;have:=h.m;rw[m30] at this;omega⟩
theorem CB.alt (h:CB (.mk f n s t ks bs al)) {x:Alt}(hx:x∈al):CB x.body:=⟨(aM.1 h.q).2.2.2 x hx,(aM.1 h.z).2.2.2 x hx,by have:=k7 hx;have:=h.m;rw[m30] at this;omega⟩
end
structure SO (c r:Core):Prop where
 q:bU (QL 403) r
 z:bU ZL r
 m:m30 r≤m30 c*m30 c
theorem a2v {a b x:Nat}(h:a+b≤x):a*a+b≤x*x∨b=0:=by
 rcases Nat.eq_zero_or_pos b with h0 | h0
 ·exact .inr h0
 ·refine .inl ?_;have h1:(a+b)*(a+b)≤x*x:=C8 h h;have h2:(a+b)*(a+b)=a*a+a*b+(b*a+b*b):=by rw[A7,mul_add,mul_add]
  have h3:b≤b*b:=Nat.le_mul_of_pos_left _ h0;omega
theorem a67:∀(k:Nat) (c:Core),m30 c≤k→CB c→∀x∈spA c,CB x∧m30 x≤m30 c:=by
 intro k
 induction k with
 | zero=>intro c h;have:=jM c;omega
 | succ k y=>
 intro c h hc x hx;obtain⟨f,i,nm,t,ks,bs,al⟩:=c;by_cases h4:f=4
 ·obtain⟨⟨a,b,rfl⟩,rfl,rfl⟩:=z8 hc.q (.inl h4);have ha:=hc.kid (x:=a) η;have hb:=hc.kid (x:=b) (χ _ η);have e:spA (.mk f i nm t [a,b] [] [])=spA a++[b]:=by rw[spA,κ h4,a1v]
  rw[e] at hx;rw[m30,gM,gM,gM] at h ⊢;rcases ω.1 hx with hx | hx
  ·obtain⟨g1,g2⟩:=y a (by omega) ha x hx;exact⟨g1,by omega⟩
  ·rw[Ab.1 hx];exact⟨hb,by omega⟩
 ·have e:spA (.mk f i nm t ks bs al)=[]:=by rw[spA,θ h4]
  rw[e] at hx;cases hx
theorem aU4 (s:Str) (a b:Int):m30 (gP s a b).1≤31:=by
 have hi:∀m,m30 (aGb m)≤31:=fun m=>by unfold aGb;rw[m30,gM,j9,l7];decide
 have ht:∀c,m30 (aNm c)≤31:=fun c=>by cases c<;>(unfold aNm a8b;rw[m30,gM,j9,l7];decide)
 have hz:m30 zC≤31:=by unfold zC;rw[m30,gM,j9,l7];decide
 unfold gP
 repeat' split
 all_goals first | exact hi _ | exact ht _ | exact hz
theorem aYl {c r:Core}(q:bU (QL 403) r) (hz:bU ZL r) (h:m30 r≤m30 c):SO c r:=⟨q,hz,by have:=jM c;exact le_trans h (Nat.le_mul_of_pos_left _ (by omega))⟩
theorem CB.own (q:j2 540000000000) {c:Core}(h:CB c):aW Tryz.prog 101 [.pa (aB c)] [] (.pa (aB c)) []:=a5f (aQ c) c (le_refl _) (by have:=fZ c;have:=h.m;omega) (h.cf.tyG q)
mutual
def nS:Core→Str→Core→Core
 | .mk f n nm t ks bs al,x,b=>if f=1 then(if nm=x then b else .mk f n nm t ks bs al)
  else .mk f n nm t (if x∈gvN f nm bs then ks else nSs ks x b) (if x∈gvN f nm bs then bs else nSb bs x b) (nSa al x b)
def nSs:List Core→Str→Core→List Core
 | [],_,_=>[]
 | c::l,x,b=>nS c x b::nSs l x b
def nSb:List Bind→Str→Core→List Bind
 | [],_,_=>[]
 | .mk s t c::l,x,b=>.mk s t (nS c x b)::nSb l x b
def nSa:List Alt→Str→Core→List Alt
 | [],_,_=>[]
 | .mk f n s v c::l,x,b=>.mk f n s v (if x∈v then c else nS c x b)::nSa l x b
end
def nSA (x:Str) (b:Core) (a:Alt):Alt:=.mk a.form a.n a.name a.vars (if x∈a.vars then a.body else nS a.body x b)
def nSB (x:Str) (b:Core) (a:Bind):Bind:=.mk a.name a.ty (nS a.body x b)
section
variable {x:Str}{b:Core}
theorem aPh:∀l:List Core,nSs l x b=l.map fun c=>nS c x b
 | []=>by rw[nSs];rfl
 | c::l=>by rw[nSs,aPh l];rfl
theorem aPi:∀l:List Bind,nSb l x b=l.map (nSB x b)
 | []=>by rw[nSb];rfl
 | .mk s t c::l=>by rw[nSb,aPi l];rfl
theorem aPj:∀l:List Alt,nSa l x b=l.map (nSA x b)
 | []=>by rw[nSa];rfl
 | .mk f n s v c::l=>by rw[nSa,aPj l];rfl
theorem kP {f n:Int}{nm:Str}{t:Ty}{ks:List Core}{bs:List Bind}{al:List Alt}(q:¬f=1):nS (.mk f n nm t ks bs al) x b=
  .mk f n nm t (if x∈gvN f nm bs then ks else ks.map fun c=>nS c x b) (if x∈gvN f nm bs then bs else bs.map (nSB x b)) (al.map (nSA x b)):=by
 rw[nS,θ q,aPh,aPi,aPj]
theorem kG:∀(k:Nat) (c:Core),aQ c≤k→¬x∈pfR c→nS c x b=c
 | 0,c,h,_=>by have:=bH c;omega
 | k+1,.mk f n nm t ks bs al,h,hx=>by
  obtain⟨J,O,Y,_⟩:= @dL f n nm t ks bs al;by_cases h1:f=1
  ·rw[nS,κ h1,θ];intro e;rw[pfR,κ h1] at hx;exact hx (by rw[e];exact Ab.2 rfl)
  ·have hx:=fun h=>hx ((cZ h1).2 h)
   rw[kP h1];have Z:(if x∈gvN f nm bs then ks else ks.map fun c=>nS c x b)=ks:=by
    split
    ·rfl
    ·rename_i y;exact lL fun c hc=>kG k c (by have:=J c hc;omega) fun q=>hx (.inl ⟨c,ω.2 (.inl hc),q,y⟩)
   have e2:(if x∈gvN f nm bs then bs else bs.map (nSB x b))=bs:=by
    split
    ·rfl
    ·rename_i y;exact lL fun c hc=>by
      unfold nSB;rw[kG k c.body (by have:=O c hc;omega) fun q=>hx (.inl ⟨c.body,ω.2 (.inr (Ah.2 ⟨c,hc,rfl⟩)),q,y⟩)];cases c;rfl
   have e3:al.map (nSA x b)=al:=lL fun a ha=>by
    unfold nSA;by_cases I:x∈a.vars
    ·rw[κ I];cases a;rfl
    ·rw[θ I,kG k a.body (by have:=Y a ha;omega) fun q=>hx (.inr ⟨a,ha,q,I⟩)];cases a;rfl
   rw[Z,e2,e3]
end
section
variable {sb:Core→Str→Core→Core}
theorem aKn {far:List Str}:∀{ns:List Str}{st:List Str×List Core×List Str},(∀n∈ns,¬n∈far)→jX sb far ns st=(st.1++ns,st.2.1,st.2.2)
 | [],st,_=>by unfold jX;simp
 | n::ns,st,h=>by
  have e:eV sb far st n=(st.1++[n],st.2.1,st.2.2):=by unfold eV;rw[θ (h n η)]
  have:=aKn (far:=far) (ns:=ns) (st:=eV sb far st n) fun m hm=>h m (χ _ hm)
  unfold jX at this ⊢;rw[Cm,this,e];simp
theorem aJg {s:Str}{b:Core}{ns:List Str}{ps:List Core}(q:∀n∈ns,¬n∈pfR b) (hs:∀p∈ps,sb p s b=nS p s b):dV sb s b ns ps=(ns,if s∈ns then ps else ps.map fun p=>nS p s b):=by
 unfold dV;split
 ·rename_i h;rw[aKn q,θ h.2];simp only[A3];rw[Bx hs]
 ·rename_i h;by_cases hn:s∈ns
  ·rw[κ hn]
  ·rw[θ hn];have e:(ps.map fun p=>nS p s b)=ps:=lL fun p hp=>kG _ p (le_refl _) fun hx=>h ⟨Ce.2 ⟨p,hp,hx⟩,hn⟩
   rw[e]
end
theorem aXp {x:Str}{b:Core}:∀bs:List Bind,mkB (bs.map Bind.ty) (bs.map Bind.name) (bs.map fun a=>nS a.body x b)=bs.map (nSB x b)
 | []=>rfl
 | .mk s t c::l=>by
  rw[At,At,At,At,mkB,aXp l];rfl
section
variable {a:Str}{u:Ty}
end
theorem wH (z:Str):pfR (vC z)=[z]:=by unfold vC;rw[pfR,κ rfl]
section
variable {X:Nat}
theorem aD1 {f:Int}{nm x:Str}{b:Core}{bs:List Bind}{p:Prop} [Decidable p]:gvN f nm (if p then bs else bs.map (nSB x b))=gvN f nm bs:=by
 split
 ·rfl
 ·unfold gvN;rw[Bn];rfl
end
theorem aZ1 {x:Str}{b:Core}(bs:List Bind):(bs.map (nSB x b)).map bhd=bs.map bhd:=by rw[Bn];rfl
theorem aZ2 {x:Str}{b:Core}(al:List Alt):(al.map (nSA x b)).map ahd=al.map ahd:=by rw[Bn];rfl
theorem nF {q:Loc}{x:Str}{b:Core}(hb:bU q b):∀(k:Nat) (c:Core),aQ c≤k→bU q c→bU q (nS c x b)
 | 0,c,h,_=>by have:=bH c;omega
 | k+1,.mk f n nm t ks bs al,h,J=>by
  obtain⟨O,Y,Z,_⟩:= @dL f n nm t ks bs al;obtain⟨q1,q2,q3,q4⟩:=aM.1 J;by_cases h1:f=1
  ·rw[nS,κ h1];split
   ·exact hb
   ·exact J
  ·rw[kP h1];refine aM.2 ⟨?_,fun y I=>?_,fun y I=>?_,fun y I=>?_⟩
   ·have e1:(if x∈gvN f nm bs then ks else ks.map fun c=>nS c x b).length=ks.length:=by split<;>simp
    have e2:(if x∈gvN f nm bs then bs else bs.map (nSB x b)).map bhd=bs.map bhd:=by
     split
     ·rfl
     ·exact aZ1 bs
    rw[e1,e2,aZ2];exact q1
   ·split at I
    ·exact q2 y I
    ·obtain⟨z,hz,rfl⟩:=Ah.1 I;exact nF hb k z (by have:=O z hz;omega) (q2 z hz)
   ·split at I
    ·exact q3 y I
    ·obtain⟨z,hz,rfl⟩:=Ah.1 I;exact nF hb k z.body (by have:=Y z hz;omega) (q3 z hz)
   ·obtain⟨z,hz,rfl⟩:=Ah.1 I;show bU q (if x∈z.vars then z.body else nS z.body x b);split
    ·exact q4 z hz
    ·exact nF hb k z.body (by have:=Z z hz;omega) (q4 z hz)
theorem pF {x y:Str}{b:Core}:∀(k:Nat) (c:Core),aQ c≤k→y∈pfR (nS c x b)→(y∈pfR c∧¬y=x)∨y∈pfR b
 | 0,c,h,_=>by have:=bH c;omega
 | k+1,.mk f n nm t ks bs al,h,I=>by
  obtain⟨Y,Z,aa,_⟩:= @dL f n nm t ks bs al;by_cases h1:f=1
  ·rw[nS,κ h1] at I;split at I
   ·exact .inr I
   ·rename_i e;refine .inl ⟨I,?_⟩;rw[pfR,κ h1] at I;rw[Ab.1 I];exact e
  ·rw[kP h1] at I;rcases(cZ h1).1 I with⟨p,hp,hyp,J⟩ | ⟨a,ha,q,O⟩
   ·rw[aD1] at J;by_cases hx:x∈gvN f nm bs
    ·rw[κ hx,κ hx] at hp;exact .inl ⟨(cZ h1).2 (.inl ⟨p,hp,hyp,J⟩),fun e=>J (by rw[e];exact hx)⟩
    ·rw[θ hx,θ hx] at hp;rcases ω.1 hp with hp | hp
     ·obtain⟨z,hz,rfl⟩:=Ah.1 hp;rcases pF k z (by have:=Y z hz;omega) hyp with⟨g1,g2⟩ | g
      ·exact .inl ⟨(cZ h1).2 (.inl ⟨z,ω.2 (.inl hz),g1,J⟩),g2⟩
      ·exact .inr g
     ·obtain⟨z',ab,rfl⟩:=Ah.1 hp;obtain⟨z,hz,rfl⟩:=Ah.1 ab;rcases pF k z.body (by have:=Z z hz;omega) hyp with⟨g1,g2⟩ | g
      ·exact .inl ⟨(cZ h1).2 (.inl ⟨z.body,ω.2 (.inr (Ah.2 ⟨z,hz,rfl⟩)),g1,J⟩),g2⟩
      ·exact .inr g
   ·obtain⟨z,hz,rfl⟩:=Ah.1 ha;have O:¬y∈z.vars:=O;have q:y∈pfR (if x∈z.vars then z.body else nS z.body x b):=q;by_cases hx:x∈z.vars
    ·rw[κ hx] at q;exact .inl ⟨(cZ h1).2 (.inr ⟨z,hz,q,O⟩),fun e=>O (by rw[e];exact hx)⟩
    ·rw[θ hx] at q;rcases pF k z.body (by have:=aa z hz;omega) q with⟨g1,g2⟩ | g
     ·exact .inl ⟨(cZ h1).2 (.inr ⟨z,hz,g1,O⟩),g2⟩
     ·exact .inr g
def fS (c:Core) (l:List (Str×Core)):Core:=l.foldl (fun c p=>nS c p.1 p.2) c
theorem aH3 {q:Loc}:∀{l:List (Str×Core)}{c:Core},bU q c→(∀p∈l,bU q p.2)→bU q (fS c l)
 | [],_,h,_=>h
 | p::l,c,h,hl=>aH3 (l:=l) (nF (hl p η) _ c (le_refl _) h) fun q y=>hl q (χ _ y)
theorem a3s {y:Str}:∀{l:List (Str×Core)}{c:Core},(∀p∈l,pfR p.2=[])→y∈pfR (fS c l)→y∈pfR c∧∀p∈l,¬y=p.1
 | [],c,_,h=>⟨h,fun p hp=>by cases hp⟩
 | p::l,c,hl,h=>by
  obtain⟨g1,g2⟩:=a3s (l:=l) (c:=nS c p.1 p.2) (fun q I=>hl q (χ _ I)) h;rcases pF _ c (le_refl _) g1 with⟨g3,g4⟩ | g
  ·refine⟨g3,fun q I=>?_⟩;rcases Ac.1 I with rfl | I
   ·exact g4
   ·exact g2 q I
  ·rw[hl p η] at g;cases g
section
variable {X:Nat}
end
def QN (N:Str→Prop) (X:Nat):Loc:=fun f s t nk bh ah=>QL X f s t nk bh ah∧(f=5→N s)∧(∀p∈bh,N p.1)∧∀p∈ah,∀v∈p.2,N v
theorem iP {q y:Loc}(h:∀f s t nk I J,q f s t nk I J→y f s t nk I J):∀(k:Nat) (c:Core),aQ c≤k→bU q c→bU y c
 | 0,c,hk,_=>by have:=bH c;omega
 | k+1,.mk f n s t ks bs al,hk,O=>by
  obtain⟨Y,z2,z3,_⟩:= @dL f n s t ks bs al;obtain⟨Z,k1,k2,k3⟩:=aM.1 O;exact aM.2 ⟨h _ _ _ _ _ _ Z,fun x hx=>iP h k x (by have:=Y x hx;omega) (k1 x hx),fun x hx=>iP h k x.body (by have:=z2 x hx;omega) (k2 x hx),fun x hx=>iP h k x.body (by have:=z3 x hx;omega) (k3 x hx)⟩
section
variable {N:Str→Prop}{X:Nat}
theorem aWn {c:Core}(h:bU (QN N X) c):bU (QL X) c:=iP (fun _ _ _ _ _ _ h=>h.1) _ c (le_refl _) h
theorem aM8 {f n:Int}{nm:Str}{t:Ty}{ks:List Core}{bs:List Bind}{al:List Alt}(I:bU (QN N X) (.mk f n nm t ks bs al)):(∀y∈gvN f nm bs,N y)∧∀a∈al,∀y∈a.vars,N y:=by
 obtain⟨⟨_,J,O,Y⟩,_⟩:=aM.1 I;refine⟨fun y q=>?_,fun a ha y q=>Y (ahd a) (Ah.2 ⟨a,ha,rfl⟩) y q⟩;unfold gvN at q;rcases ω.1 q with q | q
 ·by_cases h5:f=5
  ·rw[κ h5] at q;rw[Ab.1 q];exact J h5
  ·rw[θ h5] at q;cases q
 ·obtain⟨z,hz,rfl⟩:=Ah.1 q;exact O (bhd z) (Ah.2 ⟨z,hz,rfl⟩)
theorem aWm (q:31≤X) {z:Str}(hz:z.length≤30):bU (QN N X) (vC z):=by
 have hw:w30 z=30:=by unfold w30;omega
 exact aM.2 ⟨⟨⟨rfl,fun h=>(by cases h),rfl,by simp,by unfold lw;rw[hw];simpa using q,fun h=>(by cases h),by simp,by simp⟩,fun h=>(by cases h),by simp,by simp⟩,by simp,by simp,by simp⟩
theorem zP {s:Str}{b:Core}(hb:∀z∈pfR b,¬N z) (ht:tyR b=[]):∀(k:Nat) (c:Core),m30 c≤k→bU (QN N X) c→fR k c s b=nS c s b:=by
 intro k
 induction k with
 | zero=>intro c h;have:=jM c;omega
 | succ k O=>
 intro c h q;obtain⟨f,n,nm,t,ks,bs,al⟩:=c;rw[fR];by_cases h1:f=1
 ·obtain⟨rfl,rfl,rfl⟩:=wC (aWn q) h1;rw[nS,κ h1];by_cases hs:nm=s
  ·rw[κ ⟨h1,hs⟩,κ hs]
  ·rw[θ fun e=>hs e.2,θ hs,θ (fun e=>by have:f=7:=e.1;omega),sJ];unfold zNm zKs zBs;rw[θ (by omega)];simp[mkB]
 ·have aa:(if Core.form (.mk f n nm t ks bs al)=7∧s∈pfR (.mk f n nm t ks bs al) then a8d (.mk f n nm t ks bs al) (tyR b) else .mk f n nm t ks bs al)=.mk f n nm t ks bs al:=by
   split
   ·rw[ht,a8d,θ (by simp)]
   ·rfl
  rw[θ (fun e=>h1 e.1),aa,kP h1,sJ];obtain⟨_,k1,k2,k3⟩:=aM.1 q;rw[m30] at h;have J:=aM8 q;have hg:∀y∈gvN f nm bs,¬y∈pfR b:=fun y Y I=>hb y I (J.1 y Y)
  have hP:=aJg (sb:=fR k) (s:=s) (b:=b) (ns:=gvN f nm bs) (ps:=ks++bs.map Bind.body) hg fun p hp=>by
   rcases ω.1 hp with hp | hp
   ·exact O p (by have:=iR hp;omega) (k1 p hp)
   ·obtain⟨z,hz,rfl⟩:=Ah.1 hp;exact O z.body (by have:=nQ hz;omega) (k2 z hz)
  have hA:al.map (kF (fR k) s b)=al.map (nSA s b):=Bx fun a ha=>by
   have hv:∀y∈a.vars,¬y∈pfR b:=fun y Y I=>hb y I (J.2 a ha y Y)
   have ab:=aJg (sb:=fR k) (s:=s) (b:=b) (ns:=a.vars) (ps:=[a.body]) hv fun p hp=>by
    rw[Ab.1 hp];exact O a.body (by have:=k7 ha;omega) (k3 a ha)
   unfold kF nSA;rw[ab];by_cases hx:s∈a.vars
   ·rw[κ hx,κ hx];rfl
   ·rw[θ hx,θ hx];rfl
  rw[hA];unfold zNm zKs zBs;rw[hP];have e1:(if f=5 then(gvN f nm bs).headD nm else nm)=nm:=by
   split
   ·rename_i h5;unfold gvN;rw[κ h5];rfl
   ·rfl
  dsimp only;rw[e1];by_cases hx:s∈gvN f nm bs
  ·rw[κ hx,κ hx,κ hx,take_left,drop_left];by_cases h5:f=5
   ·obtain⟨_,rfl,rfl⟩:=nH (aWn q) (.inl h5);rfl
   ·have Z:gvN f nm bs=bs.map Bind.name:=by unfold gvN;rw[θ h5];rfl
    rw[Z,aJ9]
  ·rw[θ hx,θ hx,θ hx,A6,take_left' (by rw[φ]),List.drop_left' (by rw[φ])];by_cases h5:f=5
   ·obtain⟨_,rfl,rfl⟩:=nH (aWn q) (.inl h5);rfl
   ·have Z:gvN f nm bs=bs.map Bind.name:=by unfold gvN;rw[θ h5];rfl
    rw[Z,Bn];have e3:=aXp (x:=s) (b:=b) bs;rw[show((fun p=>nS p s b)∘Bind.body)=fun a:Bind=>nS a.body s b from rfl,e3]
theorem sX {x z:Str}{b:Core}(hz:¬N z):∀(k:Nat) (c:Core),aQ c≤k→bU (QN N X) c→¬z∈pfR c→nS (nS c x (vC z)) z b=nS c x b
 | 0,c,h,_,_=>by have:=bH c;omega
 | k+1,.mk f n nm t ks bs al,h,O,hx=>by
  obtain⟨Y,Z,aa,_⟩:= @dL f n nm t ks bs al;obtain⟨_,q2,q3,q4⟩:=aM.1 O;obtain⟨hg,hv⟩:=aM8 O;by_cases h1:f=1
  ·rw[pfR,κ h1] at hx;rw[nS,κ h1,nS,κ h1];by_cases e:nm=x
   ·rw[κ e,κ e];unfold vC;rw[nS,κ rfl,κ rfl]
   ·rw[θ e,θ e,nS,κ h1,θ fun e'=>hx (by rw[e'];exact Ab.2 rfl)]
  ·have hx:=fun h=>hx ((cZ h1).2 h)
   have y:¬z∈gvN f nm bs:=fun e=>hz (hg z e)
   rw[kP h1,kP h1,kP h1,aD1,θ y,θ y];congr 1
   ·by_cases e:x∈gvN f nm bs
    ·rw[κ e,κ e];exact lL fun c hc=>kG _ c (le_refl _) fun q=>hx (.inl ⟨c,ω.2 (.inl hc),q,y⟩)
    ·rw[θ e,θ e,Bn];exact Bx fun c hc=>sX hz k c (by have:=Y c hc;omega) (q2 c hc) fun q=>hx (.inl ⟨c,ω.2 (.inl hc),q,y⟩)
   ·have hp:∀c∈bs,¬z∈pfR c.body:=fun c hc q=>hx (.inl ⟨c.body,ω.2 (.inr (Ah.2 ⟨c,hc,rfl⟩)),q,y⟩)
    by_cases e:x∈gvN f nm bs
    ·rw[κ e,κ e];exact lL fun c hc=>by unfold nSB;rw[kG _ c.body (le_refl _) (hp c hc)];cases c;rfl
    ·rw[θ e,θ e,Bn];refine Bx fun c hc=>?_
     show nSB z b (nSB x (vC z) c)=nSB x b c;unfold nSB;show Bind.mk c.name c.ty (nS (nS c.body x (vC z)) z b)=_;rw[sX hz k c.body (by have:=Z c hc;omega) (q3 c hc) (hp c hc)]
   ·rw[Bn];refine Bx fun a ha=>?_
    have I:¬z∈a.vars:=fun e=>hz (hv a ha z e)
    have J:¬z∈pfR a.body:=fun q=>hx (.inr ⟨a,ha,q,I⟩)
    show nSA z b (nSA x (vC z) a)=nSA x b a;unfold nSA;show Alt.mk a.form a.n a.name a.vars (if z∈a.vars then(if x∈a.vars then a.body else nS a.body x (vC z)) else nS (if x∈a.vars then a.body else nS a.body x (vC z)) z b)=_;rw[θ I];by_cases e:x∈a.vars
    ·rw[κ e,κ e,kG _ a.body (le_refl _) J]
    ·rw[θ e,θ e,sX hz k a.body (by have:=aa a ha;omega) (q4 a ha) J]
theorem uB (y:31≤X):∀(ps:List (Str×Str)) (c:Core),bU (QN N X) c→(∀p∈ps,¬N p.2∧p.2.length≤30)→iE c ps=fS c (ps.map fun p=>(p.1,vC p.2))
 | [],c,_,_=>rfl
 | p::ps,c,hc,hp=>by
  obtain⟨h1,h2⟩:=hp p η;have e:=zP (N:=N) (X:=X) (s:=p.1) (b:=vC p.2) (fun z hz=>by rw[wH,Ab] at hz;rw[hz];exact h1) a2f (m30 c) c (le_refl _) hc;have:=uB y ps (nS c p.1 (vC p.2)) (nF (aWm y h2) _ c (le_refl _) hc) fun q I=>hp q (χ _ I)
  unfold iE fS at this ⊢;rw[Cm,e,this,At,Cm]
end
def nm6:List Str:=nmL++[[112]]
theorem kE:∀s∈nm6,s.length≤3:=by decide
def mO (l:List Int) (left:Int):List (Nat×AObj):=[(700,.var 60 [.c (.sl 1 (l.map aNc)),.c (.int .i64 left)])]
def wJ (l:List Int) (k:Int):Int×List Int:=match l with
 | []=>(0,[])
 | x::l=>(yW x k,l)
structure Ok (l:List Int):Prop where
 nums:aWp l
 fits:Fits l
theorem aJy (l:List Int) {k:Int}(hk:0<k):0≤(wJ l k).1∧(wJ l k).1<k:=by
 cases l with
 | nil=>exact⟨Int.le_refl _,hk⟩
 | cons x l=>exact aSq x hk
theorem sV {l:List Int}(h:Ok l) (k:Int):Ok (wJ l k).2:=by
 cases l with
 | nil=>exact h
 | cons x l=>exact⟨h.nums.suf ⟨[x],rfl⟩,h.fits.suf ⟨[x],rfl⟩⟩
theorem aRo (l:List Int) (left k:Int) (hk:1≤k) (h:Ok l):aW Tryz.prog 23 [.one (.vp 700 0),I .i64 k] (mO l left) (I .i64 (wJ l k).1) (mO (wJ l k).2 left):=by
 obtain⟨hl,q⟩:=h;unfold Fits at q;refine bZ (n:=29) tok Tryz.func23 rfl rfl rfl ?_;refine sg rfl (a8 (sg rfl ?_));cases l with
 | nil=>
  exact aA rfl (fun hb=>sg rfl (aF rtT)) (fun hb=>by simp at hb)
 | cons x l=>
  refine aA rfl (fun hb=>by simp at hb;omega) (fun hb=>aD (sk 7 rfl (kc (aV7 x k (hl x (by simp)) hk) ?_)));exact kz 1 rfl (sg rfl (sg rfl (aF rtT)))
theorem kC (l:List Int) (left k:Int) (hk:1≤k) (h:Ok l):∃(i:Nat) (l':List Int),(i:Int)<k∧Ok l'∧aW Tryz.prog 23 [.one (.vp 700 0),I .i64 k] (mO l left) (I .i64 i) (mO l' left):=by
 obtain⟨i,hi⟩:=Int.eq_ofNat_of_zero_le (aJy l (k:=k) (by omega)).1;have h1:=(aJy l (k:=k) (by omega)).2
 have h2:=aRo l left k hk h;rw[hi] at h1 h2;exact⟨i,_,h1,sV h k,h2⟩
def tvN:List Str:=[[97],[97,39],[98,39],[99,39]]
theorem a63:∀s∈tvN,s.length≤8:=by decide
inductive GT:Nat→Ty→Prop
 | var (s:Str) (h:s∈tvN):GT 1 (.mk 2 0 s [])
 | con (s:Str) (h:s.length≤8):GT 1 (.mk 3 0 s [])
 | app {m n:Nat} {a b:Ty} (ha:GT m a) (hb:GT n b):GT (m+n+1) (.mk 4 0 [] [a,b])
theorem GT.fn {m n:Nat}{a b:Ty}(ha:GT m a) (hb:GT n b):GT (m+n+3) (aTq a b):=by
 have h:=GT.app (GT.app (GT.con arrow (by decide)) ha) hb;rw[show m+n+3=1+m+1+n+1 by omega];exact h
theorem lT (s:Str):aW Tryz.prog 49 [Go.AM.T s] [] (tyV (.mk 3 0 s [])) []:=by
 refine bZ (n:=5) tok Tryz.func49 rfl rfl rfl ?_;exact sg rfl (sg rfl (aF ⟨.inr rfl,⟨_,_,.cell rfl (tg rfl) rfl rfl rfl .nil,.cons (.pa (.c .refl (.c .refl (.c .refl (.c .nl .nil))))) .nil,rfl⟩,trivial,rfl⟩))
def vN (x:Str×Ty):List C:=.str x.1::c7 x.2
structure Gv where
 l:List (Str×Ty)
 vars:List Str
 deep:Int
def aBi (v:Gv):List C:=[.sl 5 (v.l.map vN),.sl 1 (v.vars.map bA),.int .i64 v.deep]
def eF (v:Gv) (s:Str) (t:Ty):Gv:=⟨v.l++[(s,t)],v.vars,v.deep+1⟩
theorem aBv (v:Gv) (s:Str) (t:Ty) (hl:v.l.length≤1000000) (hd:0≤v.deep∧v.deep≤1000000):aW Tryz.prog 67 [.pa (aBi v),Go.AM.T s,tyV t] [] (.pa (aBi (eF v s t))) []:=by
 obtain⟨f,n,x,a⟩:=t;obtain⟨L,vs,d⟩:=v;dsimp only at hl hd;refine bZ (n:=24) tok Tryz.func67 rfl rfl rfl ?_;refine sg rfl (sg rfl (sgh [(3,.all)] rfl (sg rfl (sg rfl (sg rfl (AWp.sub (Sub.freeze (id:=11) rfl) ?_))))))
 rw[show aBi (eF ⟨L,vs,d⟩ s (.mk f n x a))=[.sl 5 (L.map vN++[vN (s,.mk f n x a)]),.sl 1 (vs.map bA),.int .i64 (d+1)] by
  unfold aBi eF
  rw[A6];rfl]
 exact aF (rtC trw)
theorem iD (a b:Core):aW Tryz.prog 68 [.pa (aB a),.pa (aB b)] [] (.pa (aB (.mk 4 0 [] zTy [a,b] [] []))) []:=by
 obtain⟨f,n,s,⟨tf,tn,ts,O⟩,ks,bs,al⟩:=a;obtain⟨f',n',s',⟨q,y,I,J⟩,ks',bs',al'⟩:=b;refine bZ (n:=9) tok Tryz.func68 rfl rfl rfl ?_;refine sg rfl (sg rfl (AWp.sub (Sub.freeze (id:=7) rfl) ?_));exact aF (rtC trw)
def j4 (s:Str) (l:List Ty):Core:=l.foldl (fun c t=>.mk 6 0 [] t [c] [] []) (.mk 2 0 s zTy [] [] [])
theorem qH (s:Str) (l:List Ty) (hl:l.length≤1000000):aW Tryz.prog 72 [Go.AM.T s,.one (.c (.sl 4 (l.map c7)))] [] (.pa (aB (j4 s l))) []:=by
 refine bZ (n:=23) tok Tryz.func72 rfl rfl rfl ?_;refine sg rfl (sg rfl (a8 (sg rfl ?_)));have q:(l.map c7).length=l.length:=φ _;refine AWp.sub (vp 4 (aB gO)) ?_;refine AWp.sub (vp 5 (aB (j4 s []))) ?_;refine aC (aK (fun i:Nat=>mk [(0,Go.AM.T s),(1,.one (.c (.sl 4 (l.map c7)))),(4,.one (.vp 4 0)),(5,.one (.vp 5 0)),(6,I .i64 i)] [(4,.var 30 (bF gO)),(5,.var 30 (bF (j4 s (l.take i))))]) (fun i=>i≤l.length) (fun i=>l.length-i) 0 (Al _) sl ?_);intro i hi;refine a8 (sg rfl (aA rfl (fun hb=>?_) (fun hb=>?_)))
 ·have y:=ltD hb q;obtain⟨t,ht⟩:=aJ y;have ht':=bT c7 ht;refine aD ?_;obtain⟨tf,tn,ts,O⟩:=t;refine a8 (aC (ag [(2,.row i (c7 (.mk tf tn ts O)))] rfl ?_));have J:j4 s (l.take (i+1))=.mk 6 0 [] (.mk tf tn ts O) [j4 s (l.take i)] [] []:=by
   unfold j4;rw[Bt,ht,Bu];rfl
  generalize j4 s (l.take i)=g at J ⊢;obtain⟨gf,gn,gs,⟨Y,Z,aa,ab⟩,gk,gb,ga⟩:=g;refine AWp.sub (Sub.freeze (id:=20) rfl) ?_;refine AWp.sub (vp 5 (aB (.mk 6 0 [] (.mk tf tn ts O) [.mk gf gn gs (.mk Y Z aa ab) gk gb ga] [] []))) ?_;refine ag [] rfl ⟨i+1,y,by dsimp only;omega,?_⟩;dsimp only;rw[J];exact sl
 ·have ac:=geD hb q hi;subst ac;rw[As];exact aL (sg rfl (aF (rtC trw)))
def ext (G:Str→Bool) (l:List Str):Str→Bool:=fun s=>G s || decide (s∈l)
theorem aHg (G:Str→Bool) (a b:List Str):ext (ext G a) b=ext G (a++b):=by funext s;simp[ext,Bool.or_assoc]
def gvs (f:Int) (s:Str) (bs:List Bind):List Str:=(if f=5 then [s] else [])++bs.map Bind.name
mutual
def eG (A:Str→Bool):Core→(Str→Bool)→List Str→List Str
 | .mk f _ s _ ks bs al,G,out=>
  if f=1 then(if A s&& !G s&& !decide (s∈out) then out++[s] else out)
  else kB A al (ext G (gvs f s bs)) (jQ A ks (ext G (gvs f s bs)) (j5 A bs (ext G (gvs f s bs)) out))
def jQ (A:Str→Bool):List Core→(Str→Bool)→List Str→List Str
 | [],_,out=>out
 | c::l,G,out=>jQ A l G (eG A c G out)
def j5 (A:Str→Bool):List Bind→(Str→Bool)→List Str→List Str
 | [],_,out=>out
 | .mk _ _ c::l,G,out=>j5 A l G (eG A c G out)
def kB (A:Str→Bool):List Alt→(Str→Bool)→List Str→List Str
 | [],_,out=>out
 | .mk _ _ _ vs c::l,G,out=>kB A l G (eG A c (ext G vs) out)
end
theorem oO (A:Str→Bool):∀(l:List Core) (G:Str→Bool) (out:List Str),jQ A l G out=l.foldl (fun o c=>eG A c G o) out
 | [],_,_=>by rw[jQ];rfl
 | c::l,G,out=>by rw[jQ,oO A l];rfl
theorem oP (A:Str→Bool):∀(l:List Bind) (G:Str→Bool) (out:List Str),j5 A l G out=l.foldl (fun o c=>eG A c.body G o) out
 | [],_,_=>by rw[j5];rfl
 | .mk _ _ c::l,G,out=>by rw[j5,oP A l];rfl
theorem oQ (A:Str→Bool):∀(l:List Alt) (G:Str→Bool) (out:List Str),kB A l G out=l.foldl (fun o c=>eG A c.body (ext G c.vars) o) out
 | [],_,_=>by rw[kB];rfl
 | .mk _ _ _ _ c::l,G,out=>by rw[kB,oQ A l];rfl
mutual
def eZ:Core→(Str→Bool)→Bool
 | .mk f _ s t ks bs al,G=>
  if f=5∨f=7∨f=6∨t.form≠0 then false
  else if f=1 then G s
  else aEx bs (ext G (gvs f s bs))&&(aEw ks (ext G (gvs f s bs))&&aEy al (ext G (gvs f s bs)))
def aEw:List Core→(Str→Bool)→Bool
 | [],_=>true
 | c::l,G=>eZ c G&&aEw l G
def aEx:List Bind→(Str→Bool)→Bool
 | [],_=>true
 | .mk _ t c::l,G=>(eZ c G&&decide (t.form=0))&&aEx l G
def aEy:List Alt→(Str→Bool)→Bool
 | [],_=>true
 | .mk _ _ _ vs c::l,G=>eZ c (ext G vs)&&aEy l G
end
theorem rA:∀(l:List Core) (G:Str→Bool),aEw l G=l.all fun c=>eZ c G
 | [],_=>by rw[aEw];rfl
 | c::l,G=>by rw[aEw,rA l];rfl
theorem rB:∀(l:List Bind) (G:Str→Bool),aEx l G=l.all fun c=>eZ c.body G&&decide (c.ty.form=0)
 | [],_=>by rw[aEx];rfl
 | .mk _ _ c::l,G=>by rw[aEx,rB l];rfl
theorem rC:∀(l:List Alt) (G:Str→Bool),aEy l G=l.all fun c=>eZ c.body (ext G c.vars)
 | [],_=>by rw[aEy];rfl
 | .mk _ _ _ _ c::l,G=>by rw[aEy,rC l];rfl
def digits:Nat→Nat→Str
 | 0,_=>[]
 | f+1,n=>if n<10 then [UInt8.ofNat (48+n)] else digits f (n/10)++[UInt8.ofNat (48+n%10)]
def dec (n:Nat):Str:=digits 20 n
def dJ:Nat→List Str→List Str
 | _,[]=>[]
 | i,s::l=>(if s∈l then s++[64,112]++dec i else s)::dJ (i+1) l
def bG (l:List Str):List Str:=dJ 0 l
structure Sup where
 name:Str
 params:List Str
 body:Core
def dA (x:Sup):List C:=[.str x.name,.sl 1 (x.params.map bA)]++aB x.body
def setBody:List Sup→Nat→Core→List Sup
 | [],_,_=>[]
 | x::l,0,c=>{ x with body:=c }::l
 | x::l,k+1,c=>x::setBody l k c
def varC (s:Str):Core:=.mk 1 0 s zTy [] [] []
def aCf (f a:Core):Core:=.mk 4 0 [] zTy [f,a] [] []
def gC (c:Core):List Str→Core
 | []=>c
 | s::l=>gC (aCf c (varC s)) l
def dX (of:Str) (k:Nat):Str:=of++[64,102]++dec (k+1)
mutual
def aU:Core→List Str
 | .mk f _ s _ ks _ _=>if f=5 then s::dN ks else []
def dN:List Core→List Str
 | []=>[]
 | c::_=>aU c
end
mutual
def bO (of:Str):Bool→Core→(Str→Bool)→List Sup→Core×List Sup
 | ch,.mk f n s t ks bs al,A,made=>
  if f=5 then
   if ch then gQ of ks A made
   else
    let free:=eG A (.mk f n s t ks bs al) (fun _=>false) []
    let all:=free++(s::dN ks)
    let r:=gQ of ks (fun x=>decide (x∈all)) (made++[⟨dX of made.length,bG all,gO⟩])
    (gC (varC (dX of made.length)) free,setBody r.2 made.length r.1)
  else
   let rb:=bL of bs (ext A (gvs f s bs)) made
   let rk:=bW of ks (ext A (gvs f s bs)) rb.2
   let ra:=cD of al (ext A (gvs f s bs)) rk.2
   (.mk f n s t rk.1 rb.1 ra.1,ra.2)
def gQ (of:Str):List Core→(Str→Bool)→List Sup→Core×List Sup
 | [],_,made=>(gO,made)
 | c::_,A,made=>bO of true c A made
def bW (of:Str):List Core→(Str→Bool)→List Sup→List Core×List Sup
 | [],_,made=>([],made)
 | c::l,A,made=>
  let r:=bO of false c A made
  let q:=bW of l A r.2
  (r.1::q.1,q.2)
def bL (of:Str):List Bind→(Str→Bool)→List Sup→List Bind×List Sup
 | [],_,made=>([],made)
 | .mk s t c::l,A,made=>
  let r:=bO of false c A made
  let q:=bL of l A r.2
  (.mk s t r.1::q.1,q.2)
def cD (of:Str):List Alt→(Str→Bool)→List Sup→List Alt×List Sup
 | [],_,made=>([],made)
 | .mk f n s vs c::l,A,made=>
  let r:=bO of false c (ext A vs) made
  let q:=cD of l A r.2
  (.mk f n s vs r.1::q.1,q.2)
end
def kS (b:Bind):List Sup:=
 let r:=bO b.name true b.body (fun x=>decide (x∈aU b.body)) []
 ⟨b.name,bG (aU b.body),r.1⟩::r.2
def fD (l:List Bind):List Sup:=l.flatMap kS
def hJ:List Str→Bool
 | []=>true
 | s::l=>!decide (s∈l)&&hJ l
def yM (l:List Sup):Bool:=hJ (l.map (·.name))&&l.all fun x=>hJ x.params&&eZ x.body (ext (fun s=>decide (s∈l.map (·.name))) x.params)
def eW (c:Core):List Str→Core
 | []=>c
 | s::l=>.mk 5 0 s zTy [eW c l] [] []
def gV (l:List Sup):List Bind:=l.map fun x=>.mk x.name zTy (eW x.body x.params)
def InA (A:Str→Bool) (out:List Str):Prop:=∀s∈out,A s=true
mutual
theorem pW (A:Str→Bool):∀(c:Core) (G:Str→Bool) (out:List Str),InA A out→InA A (eG A c G out)
 | .mk f _ x _ ks bs al,G,out,h=>by
  rw[eG];split
  ·split
   ·rename_i hc;intro s hs;rcases ω.1 hs with hs | hs
    ·exact h s hs
    ·simp only[Ab] at hs;subst hs;simp only[ζ] at hc;exact hc.1.1
   ·exact h
  ·exact aEs A al _ _ (aEq A ks _ _ (aEr A bs _ _ h))
theorem aEq (A:Str→Bool):∀(l:List Core) (G:Str→Bool) (out:List Str),InA A out→InA A (jQ A l G out)
 | [],_,_,h=>by rw[jQ];exact h
 | c::l,G,out,h=>by rw[jQ];exact aEq A l _ _ (pW A c _ _ h)
theorem aEr (A:Str→Bool):∀(l:List Bind) (G:Str→Bool) (out:List Str),InA A out→InA A (j5 A l G out)
 | [],_,_,h=>by rw[j5];exact h
 | .mk _ _ c::l,G,out,h=>by rw[j5];exact aEr A l _ _ (pW A c _ _ h)
theorem aEs (A:Str→Bool):∀(l:List Alt) (G:Str→Bool) (out:List Str),InA A out→InA A (kB A l G out)
 | [],_,_,h=>by rw[kB];exact h
 | .mk _ _ _ vs c::l,G,out,h=>by rw[kB];exact aEs A l _ _ (pW A c _ _ h)
end
mutual
def bR:Core→Core
 | .mk f n s t ks bs al=>if f=5 then kI ks else .mk f n s t ks bs al
def kI:List Core→Core
 | []=>gO
 | c::_=>bR c
end
theorem qT (x:Sup) (c:Core) (new:List Sup):∀made:List Sup,setBody (made++[x]++new) made.length c=made++[{ x with body:=c }]++new
 | []=>rfl
 | y::made=>by
  have:=qT x c new made;simp only[A1,Ai,setBody] at this ⊢;rw[this]
theorem uM:∀l:List Str,hJ l=true↔l.Nodup
 | []=>by simp[hJ]
 | s::l=>by simp[hJ,uM l]
theorem aE4:∀(f n:Nat) (b:UInt8),b∈digits (f+1) n→48≤b.toNat∧b.toNat≤57
 | 0,n,b,h=>by
  simp only[digits] at h;split at h
  ·simp only[Ab] at h;subst h;simp only[Cv];omega
  ·simp only[A3,Ab] at h;subst h;simp only[Cv];omega
 | f+1,n,b,h=>by
  rw[digits] at h;split at h
  ·simp only[Ab] at h;subst h;simp only[Cv];omega
  ·rcases ω.1 h with h | h
   ·exact aE4 f (n/10) b h
   ·simp only[Ab] at h;subst h;simp only[Cv];omega
theorem ofNat_inj {a b:Nat}(ha:a<58) (hb:b<58) (h:UInt8.ofNat a=UInt8.ofNat b):a=b:=by
 have:=congrArg UInt8.toNat h;simp only[Cv] at this;omega
theorem rE (f n:Nat):1≤(digits (f+1) n).length:=by
 rw[digits];split<;>simp
theorem fY (f n:Nat):digits (f+1) n=if n<10 then [UInt8.ofNat (48+n)] else digits f (n/10)++[UInt8.ofNat (48+n%10)]:=rfl
theorem yK:∀(f:Nat) (n m:Nat),n<10^(f+1)→m<10^(f+1)→digits (f+1) n=digits (f+1) m→n=m
 | 0,n,m,hn,hm,h=>by
  simp only[digits] at h;rw[κ (by simpa using hn),κ (by simpa using hm)] at h;simp only[List.cons.injEq,and_true] at h;have h1:n<10:=by simpa using hn
  have h2:m<10:=by simpa using hm
  have:=ofNat_inj (by omega) (by omega) h;omega
 | f+1,n,m,hn,hm,h=>by
  rw[fY (f+1) n,fY (f+1) m] at h;have e:(10:Nat)^(f+1+1)=10^(f+1)*10:=Nat.pow_succ ..;split at h<;>split at h
  ·simp only[List.cons.injEq,and_true] at h;have:=ofNat_inj (by omega) (by omega) h;omega
  ·have:=congrArg List.length h;have hp:=rE f (m/10);simp only[ε,Ai,length_nil] at this;omega
  ·have:=congrArg List.length h;have hp:=rE f (n/10);simp only[ε,Ai,length_nil] at this;omega
  ·have h1:=List.append_inj' h rfl;have h2:=yK f (n/10) (m/10) (by omega) (by omega) h1.1;have h3:=h1.2;simp only[List.cons.injEq,and_true] at h3;have:=ofNat_inj (by omega) (by omega) h3;omega
theorem aQ9 {n m:Nat}(hn:n<1000000000) (hm:m<1000000000) (h:dec n=dec m):n=m:=
 yK 19 n m (lt_trans hn (by decide)) (lt_trans hm (by decide)) h
theorem iV:∀(l:List Str) (i:Nat) (s:Str),s∈l→s∈dJ i l
 | x::l,i,s,h=>by
  rw[dJ];by_cases hx:s∈l
  ·exact χ _ (iV l (i+1) s hx)
  ·rcases Ac.1 h with rfl | h
   ·rw[θ hx];exact η
   ·exact absurd h hx
theorem aAs {y z:Str}{a b:Core}(I:¬y=z) (ha:¬z∈pfR a) (hb:¬y∈pfR b):∀(k:Nat) (c:Core),aQ c≤k→nS (nS c y a) z b=nS (nS c z b) y a
 | 0,c,h=>by have:=bH c;omega
 | k+1,.mk f n nm t ks bs al,h=>by
  obtain⟨J,O,Y,_⟩:= @dL f n nm t ks bs al;by_cases h1:f=1
  ·rw[nS,κ h1,nS,κ h1];by_cases e:nm=y
   ·have q:¬nm=z:=fun e'=>I (e.symm.trans e')
    rw[κ e,θ q,nS,κ h1,κ e,kG _ a (le_refl _) ha]
   ·rw[θ e,nS,κ h1];by_cases q:nm=z
    ·rw[κ q,kG _ b (le_refl _) hb]
    ·rw[θ q,nS,κ h1,θ e]
  ·rw[kP h1,kP h1,kP h1,kP h1,aD1,aD1];congr 1
   ·by_cases e:y∈gvN f nm bs
    ·rw[κ e,κ e]
    ·rw[θ e,θ e];by_cases q:z∈gvN f nm bs
     ·rw[κ q,κ q]
     ·rw[θ q,θ q,Bn,Bn];exact Bx fun c hc=>aAs I ha hb k c (by have:=J c hc;omega)
   ·by_cases e:y∈gvN f nm bs
    ·rw[κ e,κ e]
    ·rw[θ e,θ e];by_cases q:z∈gvN f nm bs
     ·rw[κ q,κ q]
     ·rw[θ q,θ q,Bn,Bn];refine Bx fun c hc=>?_
      show Bind.mk c.name c.ty (nS (nS c.body y a) z b)=Bind.mk c.name c.ty (nS (nS c.body z b) y a);rw[aAs I ha hb k c.body (by have:=O c hc;omega)]
   ·rw[Bn,Bn];refine Bx fun x hx=>?_
    show Alt.mk x.form x.n x.name x.vars (if z∈x.vars then(if y∈x.vars then x.body else nS x.body y a) else nS (if y∈x.vars then x.body else nS x.body y a) z b)=
     Alt.mk x.form x.n x.name x.vars (if y∈x.vars then(if z∈x.vars then x.body else nS x.body z b) else nS (if z∈x.vars then x.body else nS x.body z b) y a)
    by_cases e:y∈x.vars
    ·rw[κ e,κ e]
    ·rw[θ e,θ e];by_cases q:z∈x.vars
     ·rw[κ q,κ q]
     ·rw[θ q,θ q,aAs I ha hb k x.body (by have:=Y x hx;omega)]
theorem aBg {z:Str}{b:Core}:∀(l:List (Str×Core)) (c:Core),(∀p∈l,¬p.1=z∧¬z∈pfR p.2∧¬p.1∈pfR b)→nS (fS c l) z b=fS (nS c z b) l
 | [],_,_=>rfl
 | p::l,c,h=>by
  obtain⟨h1,h2,h3⟩:=h p η;have:=aBg l (nS c p.1 p.2) fun q y=>h q (χ _ y)
  rw[aAs h1 h2 h3 _ c (le_refl _)] at this;exact this
theorem sW {x:Str}{b:Core}:∀(k:Nat) (c:Core),aQ c≤k→nS (nS c x (vC x)) x b=nS c x b
 | 0,c,h=>by have:=bH c;omega
 | k+1,.mk f n nm t ks bs al,h=>by
  obtain⟨q,y,I,_⟩:= @dL f n nm t ks bs al;by_cases h1:f=1
  ·rw[nS,κ h1,nS,κ h1];by_cases e:nm=x
   ·rw[κ e,κ e];unfold vC;rw[nS,κ rfl,κ rfl]
   ·rw[θ e,θ e,nS,κ h1,θ e]
  ·rw[kP h1,kP h1,aD1,kP h1];congr 1
   ·by_cases e:x∈gvN f nm bs
    ·simp only[κ e]
    ·simp only[θ e,Bn];exact Bx fun c hc=>sW k c (by have:=q c hc;omega)
   ·by_cases e:x∈gvN f nm bs
    ·simp only[κ e]
    ·simp only[θ e,Bn];refine Bx fun c hc=>?_
     show Bind.mk c.name c.ty (nS (nS c.body x (vC x)) x b)=Bind.mk c.name c.ty (nS c.body x b);rw[sW k c.body (by have:=y c hc;omega)]
   ·rw[Bn];refine Bx fun a ha=>?_
    show Alt.mk a.form a.n a.name a.vars (if x∈a.vars then(if x∈a.vars then a.body else nS a.body x (vC x)) else nS (if x∈a.vars then a.body else nS a.body x (vC x)) x b)=
     Alt.mk a.form a.n a.name a.vars (if x∈a.vars then a.body else nS a.body x b)
    by_cases e:x∈a.vars
    ·simp only[κ e]
    ·simp only[θ e];rw[sW k a.body (by have:=I a ha;omega)]
section
variable {N F:Str→Prop}{X:Nat}
theorem aO5 (J:31≤X) (O:∀z,F z→¬N z):∀(names own:List Str) (l:List Core) (c:Core),names.length=l.length→own.length=l.length→own.Nodup→(∀z∈own,¬N z∧¬F z∧z.length≤30∧¬z∈pfR c)→(∀x∈names,N x)→bU (QN N X) c→
  (∀b∈l,bU (QN N X) b∧(∀z∈pfR b,F z)∧tyR b=[])→mL (iE c (names.zip own)) (own.zip l)=fS c (names.zip l)
 | [],own,l,c,h1,h2,_,_,_,_,_=>by
  have hl:l=[]:=Bc.1 h1.symm;subst hl;have Y:own=[]:=Bc.1 h2;subst Y;rfl
 | x::ns,[],l,c,h1,h2,_,_,_,_,_=>by rw[←h1] at h2;cases h2
 | x::ns,z::os,[],c,h1,_,_,_,_,_,_=>by cases h1
 | x::ns,z::os,b::bs,c,h1,h2,hnd,Y,hn,hc,hl=>by
  obtain⟨z1,z0,z2,z3⟩:=Y z η;obtain⟨b1,b2,b3⟩:=hl b η;have hx:=hn x η;obtain⟨hzo,hnd'⟩:=Bq.1 hnd;have I:∀p∈ns.zip os,N p.1∧¬p.2=z∧p.2.length≤30∧¬N p.2:=fun p hp=>by
   obtain⟨g1,g2⟩:=List.of_mem_zip (a:=p.1) (b:=p.2) hp;obtain⟨k1,_,k2,_⟩:=Y p.2 (χ _ g2);exact⟨hn p.1 (χ _ g1),fun e=>hzo (by rw[←e];exact g2),k2,k1⟩
  have hq1:bU (QN N X) (nS c x (vC z)):=nF (aWm J z2) _ c (le_refl _) hc;have e1:iE c ((x::ns).zip (z::os))=fS (nS c x (vC z)) ((ns.zip os).map fun p=>(p.1,vC p.2)):=by
   rw[uB J _ c hc (fun p hp=>by
    rcases Ac.1 hp with rfl | hp
    ·exact⟨z1,z2⟩
    ·exact⟨(I p hp).2.2.2,(I p hp).2.2.1⟩)]
   rfl
  have hqF:bU (QN N X) (fS (nS c x (vC z)) ((ns.zip os).map fun p=>(p.1,vC p.2))):=aH3 hq1 fun p hp=>by
   obtain⟨q,hq,rfl⟩:=Ah.1 hp;exact aWm J (I q hq).2.2.1
  rw[e1];have e2:mL (fS (nS c x (vC z)) ((ns.zip os).map fun p=>(p.1,vC p.2))) ((z::os).zip (b::bs))=mL (fS (nS c x b) ((ns.zip os).map fun p=>(p.1,vC p.2))) (os.zip bs):=by
   have e:=zP (N:=N) (X:=X) (s:=z) (b:=b) (fun w hw=>O w (b2 w hw)) b3 (m30 (fS (nS c x (vC z)) ((ns.zip os).map fun p=>(p.1,vC p.2)))) _ (le_refl _) hqF
   rw[aBg _ _ (fun p hp=>by
    obtain⟨q,hq,rfl⟩:=Ah.1 hp;obtain⟨g1,g2,g3,g4⟩:=I q hq
    exact⟨fun e=>z1 (by rw[←e];exact g1),by rw[wH,Ab];exact fun e=>g2 e.symm,fun h=>O _ (b2 _ h) g1⟩),sX (N:=N) (X:=X) z1 _ c (le_refl _) hc z3] at e
   unfold mL;rw[List.zip_cons_cons,Cm];dsimp only;rw[e]
  rw[e2];have Z:bU (QN N X) (nS c x b):=nF b1 _ c (le_refl _) hc;have e3:fS (nS c x b) ((ns.zip os).map fun p=>(p.1,vC p.2))=iE (nS c x b) (ns.zip os):=(uB J _ _ Z fun p hp=>⟨(I p hp).2.2.2,(I p hp).2.2.1⟩).symm
  rw[e3,aO5 J O ns os bs (nS c x b) (by simpa using h1) (by simpa using h2) hnd' (fun w hw=>by
   obtain⟨k1,k0,k2,k3⟩:=Y w (χ _ hw);refine⟨k1,k0,k2,fun hin=>?_⟩;rcases pF _ c (le_refl _) hin with⟨g,_⟩ | g
   ·exact k3 g
   ·exact k0 (b2 w g)) (fun y hy=>hn y (χ _ hy)) Z fun y hy=>hl y (χ _ hy)]
  rfl
end
def N6 (s:Str):Prop:=s∈nm6
theorem a7s {s:Str}(hs:N6 s) (n:Nat):¬N6 (otN s n):=fun h=>by
 have h1:s=[120]∨s=[121]∨s=[97]∨s=[98]∨s=[122,64,49]∨s=[112]:=by
  have:s∈nm6:=hs;simp only[nm6,nmL,A1,A3,Ac,C1,or_false] at this;exact this
 have h2:otN s n=[120]∨otN s n=[121]∨otN s n=[97]∨otN s n=[98]∨otN s n=[122,64,49]∨otN s n=[112]:=by
  have:otN s n∈nm6:=h;simp only[nm6,nmL,A1,A3,Ac,C1,or_false] at this;exact this
 unfold otN at h2;rcases h1 with rfl | rfl | rfl | rfl | rfl | rfl<;>simp at h2
theorem aPa (tk:List Str):∀(l:List Str) (m:Nat),∀z∈nM tk l m,∃s n,s∈l∧m≤n∧z=otN s n
 | [],_,z,h=>by cases h
 | s::l,m,z,h=>by
  have hn:=(jB tk s m).1
  rw[nM] at h;rcases Ac.1 h with rfl | h
  ·exact⟨s,_,η,hn,rfl⟩
  ·obtain⟨s',n',h1,h2,h3⟩:=aPa tk l _ z h;exact⟨s',n',χ _ h1,by omega,h3⟩
theorem aO9 (tk:List Str):∀(l:List Str) (m:Nat),(nM tk l m).Nodup
 | [],_=>nodup_nil
 | s::l,m=>by
  rw[nM];refine Bq.2 ⟨fun h=>?_,aO9 tk l _⟩;obtain⟨s',n',_,h2,h3⟩:=aPa tk l _ _ h;have:=(aPb h3).2
  omega
theorem pL:∀s∈nm6,s.length≤3:=kE
def Fc (s:Str):Prop:=s.head?=some 109∨s.head?=some 111
def ClF (c:Core):Prop:=∀z∈pfR c,Fc z
theorem ClF.nil {c:Core}(h:pfR c=[]):ClF c:=fun z hz=>by rw[h] at hz;cases hz
def N7 (s:Str):Prop:=N6 s∨∃x k,N6 x∧s=x++[64,112]++dec k
theorem aF8 {s:Str}(h:N6 s):s≠[]∧¬Fc s:=by
 have:s=[120]∨s=[121]∨s=[97]∨s=[98]∨s=[122,64,49]∨s=[112]:=by
  have:s∈nm6:=h;simp only[nm6,nmL,A1,A3,Ac,C1,or_false] at this;exact this
 rcases this with rfl | rfl | rfl | rfl | rfl | rfl<;>exact⟨by decide,by unfold Fc;decide⟩
theorem aWq {s:Str}(h:Fc s):¬N7 s:=by
 rintro(q | ⟨x,k,q,rfl⟩)
 ·exact(aF8 q).2 h
 ·obtain⟨h1,h2⟩:=aF8 q;cases x with
  | nil=>exact h1 rfl
  | cons a x=>exact h2 h
theorem a9l (n:Nat):¬(112:UInt8)∈Lib.decDigits n:=by
 induction n using Nat.strongRecOn with
 | _ n q=>
  rw[Lib.decDigits];split
  ·rename_i h;intro hm;have:n<10:=h
   match n,this with
   | 0,_ | 1,_ | 2,_ | 3,_ | 4,_ | 5,_ | 6,_ | 7,_ | 8,_ | 9,_=>simp_all (config:={ decide:=true })
  ·rename_i h;intro hm;rcases ω.1 hm with hm | hm
   ·exact q (n/10) (by omega) hm
   ·have:n%10<10:=Nat.mod_lt _ (by decide);generalize n%10=d at hm this
    match d,this with
    | 0,_ | 1,_ | 2,_ | 3,_ | 4,_ | 5,_ | 6,_ | 7,_ | 8,_ | 9,_=>simp_all (config:={ decide:=true })
theorem aRa (k:Nat):¬(64:UInt8)∈112::dec k:=fun h=>by
 rcases Ac.1 h with h | h
 ·exact absurd h (by decide)
 ·have:=aE4 19 k 64 h;have e:(64:UInt8).toNat=64:=rfl;omega
theorem a7r {s:Str}(hs:N6 s) (n:Nat):¬N7 (otN s n):=by
 rintro(h | ⟨x,k,_,h⟩)
 ·exact a7s hs n h
 ·have h:s++64::Lib.decDigits n=x++64::112::dec k:=by unfold otN at h;simpa using h
  obtain⟨_,e⟩:=aSo h (a0i n) (aRa k);exact a9l n (by rw[e];exact η)
theorem a7t {s:Str}(hs:N6 s) (n:Nat):¬Fc (otN s n):=by
 obtain⟨h1,h2⟩:=aF8 hs;cases s with
 | nil=>exact absurd rfl h1
 | cons a s=>exact h2
theorem aJh {c:Core}{names:List Str}{l:List Core}(h1:names.length=l.length) (h2:names.length≤12) (hn:∀x∈names,N6 x) (hc:bU (QN N7 403) c) (hp:(pfR c).length≤10000000000)
  (hl:∀b∈l,bU (QN N7 403) b∧ClF b∧tyR b=[]∧(pfR b).length≤1100000000):qM c names l=fS c (names.zip l):=by
 have y:∀m:List Core,(∀b∈m,(pfR b).length≤1100000000)→(m.flatMap pfR).length≤m.length*1100000000:=by
  intro m
  induction m with
  | nil=>intro _;simp
  | cons b m J=>
   intro h;have g1:=h b η;have g2:=J fun x hx=>h x (χ _ hx)
   rw[flatMap_cons,ε,Ai,succ_mul];omega
 have y:=y l fun b hb=>(hl b hb).2.2.2
 have O:l.length*1100000000≤12*1100000000:=A0 _ (by omega);have ht:(dR c names l).length≤23200000012:=by
  unfold dR;rw[ε,ε];omega
 have hok:=aGx (dR c names l) names;have Z:names.length*((dR c names l).length+1)≤12*23200000013:=C8 h2 (by omega);unfold qM;refine aO5 (N:=N7) (F:=Fc) (X:=403) (by decide) (fun z=>aWq) names _ l c h1 (by rw[hok.len];exact h1) (aO9 _ _ _) (fun z hz=>?_) (fun x hx=>.inl (hn x hx)) hc fun b hb=>⟨(hl b hb).1,(hl b hb).2.1,(hl b hb).2.2.1⟩
 obtain⟨i,hi⟩:=List.mem_iff_getElem?.1 hz;have I:i<names.length:=by
  have:=(ξ.1 hi).1
  rwa [hok.len] at this
 obtain⟨s,hs⟩:=aJ I;obtain⟨n,Y,e⟩:=hok.at_ i s z hs hi;have q:=δ hs;have h3:=pL s (hn s q);have h4:=aGy (s:=s) (n:=n) (by omega);refine⟨by rw[e];exact a7r (hn s q) n,by rw[e];exact a7t (hn s q) n,by rw[e];omega,fun h=>hok.out z hz ?_⟩;unfold dR;exact ω.2 (.inl (ω.2 (.inl h)))
section
variable {x:Str}{b:Core}
theorem a7v {f n:Int}{s:Str}{t:Ty}{k l:Core}(h1:¬f=1) (h5:¬f=5):nS (.mk f n s t [k,l] [] []) x b=.mk f n s t [nS k x b,nS l x b] [] []:=by rw[kP h1];simp[gvN,h5]
theorem aUr {n:Int}{s:Str}{t:Ty}{k:Core}:nS (.mk 5 n s t [k] [] []) x b=.mk 5 n s t [if x=s then k else nS k x b] [] []:=by
 rw[kP (by decide)];by_cases e:x=s
 ·simp[gvN,e]
 ·simp[gvN,e]
end
def yY:Core→List Core→Core
 | h,[]=>h
 | h,a::l=>yY (.mk 4 0 [] zTy [h,a] [] []) l
theorem aH2 {x:Str}{b:Core}:∀(l:List Core) (h:Core),nS (yY h l) x b=yY (nS h x b) (l.map fun a=>nS a x b)
 | [],h=>rfl
 | a::l,h=>by rw[yY,aH2 l,a7v (by decide) (by decide)];rfl
theorem vZ:∀(l:List Core) (h:Core),h.form=1∨h.form=4→(yY h l).form=1∨(yY h l).form=4
 | [],_,hh=>hh
 | _::l,_,_=>vZ l _ (.inr rfl)
theorem oT {z:Str}:∀(l:List Core) (h:Core),z∈pfR (yY h l)↔z∈pfR h∨∃a∈l,z∈pfR a
 | [],h=>by simp[yY]
 | a::l,h=>by
  rw[yY,oT l,cZ (by decide)];constructor
  ·rintro(((⟨p,hp,hz,_⟩ | ⟨J,I,_⟩)) | ⟨y,q,hz⟩)
   ·have:p=h∨p=a:=by simpa using hp
    rcases this with rfl | rfl
    ·exact .inl hz
    ·exact .inr ⟨_,η,hz⟩
   ·cases I
   ·exact .inr ⟨y,χ _ q,hz⟩
  ·rintro(hz | ⟨y,q,hz⟩)
   ·exact .inl (.inl ⟨h,by simp,hz,by simp[gvN]⟩)
   ·rcases Ac.1 q with rfl | q
    ·exact .inl (.inl ⟨y,by simp,hz,by simp[gvN]⟩)
    ·exact .inr ⟨y,q,hz⟩
theorem aG4 {x:Str}{b:Core}:∀(l:List Str) (c:Core),nS (eW c l) x b=if x∈l then eW c l else eW (nS c x b) l
 | [],c=>by rw[θ (by simp)];rfl
 | s::l,c=>by
  rw[eW,aUr];by_cases e:x=s
  ·rw[κ e,κ (by rw[e];exact η)]
  ·rw[θ e,aG4 l c];by_cases q:x∈l
   ·rw[κ q,κ (χ _ q)]
   ·rw[θ q,θ fun h=>(Ac.1 h).elim e q];rfl
theorem oM {z:Str}:∀(l:List Str) (c:Core),z∈pfR (eW c l)↔z∈pfR c∧¬z∈l
 | [],c=>by simp[eW]
 | s::l,c=>by
  rw[eW,cZ (by decide)];constructor
  ·rintro(⟨p,hp,hz,q⟩ | ⟨a,ha,_⟩)
   ·have hp:p=eW c l:=by simpa using hp
    rw[hp,oM l] at hz;refine⟨hz.1,fun h=>?_⟩;rcases Ac.1 h with rfl | h
    ·exact q (by simp[gvN])
    ·exact hz.2 h
   ·cases ha
  ·rintro⟨h1,h2⟩;exact .inl ⟨eW c l,by simp,(oM l c).2 ⟨h1,fun h=>h2 (χ _ h)⟩,by simp[gvN];exact fun e=>h2 (by rw[e];exact η)⟩
def AHd (a a':Alt):Prop:=a.form=a'.form∧a.n=a'.n∧a.name=a'.name∧a.vars=a'.vars
abbrev Wt:=Str→Option (List Str×Core)
inductive RL (W:Wt):Core→Core→Prop
 | var {n n':Int} {t t':Ty} (s:Str):RL W (.mk 1 n s t [] [] []) (.mk 1 n' s t' [] [] [])
 | node {f n:Int} {s:Str} {t t':Ty} {ks ks':List Core} {bs bs':List Bind} {al al':List Alt} (h1:¬f=1) (h5:¬f=5) (k1:ks.length=ks'.length) (k2:∀(i:Nat) (x y:Core),ks[i]?=some x→ks'[i]?=some y→RL W x y)
   (b1:bs.map Bind.name=bs'.map Bind.name) (b2:∀(i:Nat) (x y:Bind),bs[i]?=some x→bs'[i]?=some y→RL W x.body y.body)
   (a1:al.length=al'.length) (a2:∀(i:Nat) (x y:Alt),al[i]?=some x→al'[i]?=some y→AHd x y) (a3:∀(i:Nat) (x y:Alt),al[i]?=some x→al'[i]?=some y→RL W x.body y.body):RL W (.mk f n s t ks bs al) (.mk f n s t' ks' bs' al')
 | lam {n n':Int} {s s':Str} {t t':Ty} {b b':Core} (hs:s=s'∨(¬s∈pfR b∧¬s'∈pfR b'∧¬Fc s')) (hb:RL W b b'):RL W (.mk 5 n s t [b] [] []) (.mk 5 n' s' t' [b'] [] [])
 | comb {x:Core} {f:Str} {args:List Core} {ps:List Str} {b:Core} (hW:W f=some (ps,b)) (hl:args.length<ps.length) (ha:∀(i:Nat) (p:Str) (a:Core),ps[i]?=some p→args[i]?=some a→a=vC p∨ClF a)
   (hY:RL W x (eW (fS b (ps.zip args)) (ps.drop args.length))):RL W x (yY (vC f) args)
structure WOk (W:Wt):Prop where
 ok:∀f ps b,W f=some (ps,b)→Fc f∧ps.Nodup∧(∀p∈ps,¬Fc p)∧∀x∈pfR b,x∈ps∨Fc x
theorem aMe {x s:Str}{b:Core}:nS (vC s) x b=if s=x then b else vC s:=by unfold vC;rw[nS,κ rfl]
theorem tC {f:Int}{s:Str}{bs bs':List Bind}(h:bs.map Bind.name=bs'.map Bind.name):gvN f s bs=gvN f s bs':=by unfold gvN;rw[h]
theorem a1e {ps:List Str}{I b':Core}{s:Str}(ah:ps.Nodup) (ai:∀x∈pfR I,x∈ps∨Fc x) (Z:ClF b') (aa:∀p∈ps,¬Fc p) (hs:¬Fc s):∀args:List Core,args.length≤ps.length→(∀(i:Nat) (p:Str) (a:Core),ps[i]?=some p→args[i]?=some a→a=vC p∨ClF a)→
  ¬s∈ps.drop args.length→nS (fS I (ps.zip args)) s b'=fS I (ps.zip (args.map fun a=>nS a s b')):=by
 intro args hl ha aj;by_cases J:s∈ps
 ·--aq the first
  obtain⟨i,hi⟩:=Bf J;have hin:i<args.length:=by
   refine Nat.not_le.1 fun h=>aj ?_
   rw[List.mem_iff_getElem?];exact⟨i-args.length,by rw[Am,show args.length+(i-args.length)=i by omega];exact hi⟩
  obtain⟨a,O⟩:=aJ hin;have hz:(ps.zip args)[i]?=some (s,a):=by rw[Bo];exact⟨hi,O⟩
  have ab:(ps.zip (args.map fun a=>nS a s b'))[i]?=some (s,nS a s b'):=by rw[Bo];exact⟨hi,by rw[Aq,O];rfl⟩
  have ak:i<(ps.zip args).length:=(ξ.1 hz).1
  have ag:i<(ps.zip (args.map fun a=>nS a s b')).length:=(ξ.1 ab).1
  have sp:ps.zip args=(ps.zip args).take i++(s,a)::(ps.zip args).drop (i+1):=by
   have:=Bl ak;rw[(ξ.1 hz).2] at this;rw[←this,Cs]
  have am:ps.zip (args.map fun a=>nS a s b')=(ps.zip (args.map fun a=>nS a s b')).take i++(s,nS a s b')::(ps.zip (args.map fun a=>nS a s b')).drop (i+1):=by
   have:=Bl ag;rw[(ξ.1 ab).2] at this;rw[←this,Cs]
  have q:∀(j:Nat) (p:Str) (c:Core),¬j=i→(ps.zip args)[j]?=some (p,c)→¬p=s∧¬s∈pfR c∧¬p∈pfR b'∧nS c s b'=c:=by
   intro j p c ap hj;rw[Bo] at hj
   have hp:¬p=s:=fun e=>ap (by
    have h1:=hj.1;dsimp only at h1;rw[e] at h1
    exact(List.getElem?_inj (ξ.1 h1).1 ah).1 (h1.trans hi.symm))
   have ac:¬s∈pfR c:=by
    rcases ha j p c hj.1 hj.2 with rfl | h
    ·rw[wH,Ab];exact fun e=>hp e.symm
    ·exact fun y=>hs (h s y)
   exact⟨hp,ac,fun h=>aa p (δ hj.1) (Z p h),kG _ c (le_refl _) ac⟩
  have eT:(ps.zip (args.map fun a=>nS a s b')).take i=(ps.zip args).take i:=by
   refine Bg fun j=>?_
   rw[Ay,Ay];split
   ·rename_i hj;cases hc:(ps.zip args)[j]? with
    | none=>
     have:(ps.zip args).length≤j:=Cf.1 hc;omega
    | some pc=>
     obtain⟨p,c⟩:=pc;obtain⟨_,_,_,h4⟩:=q j p c (by omega) hc;rw[Bo] at hc ⊢;exact⟨hc.1,by rw[Aq,hc.2];show some (nS c s b')=_;rw[h4]⟩
   ·rfl
  have eD:(ps.zip (args.map fun a=>nS a s b')).drop (i+1)=(ps.zip args).drop (i+1):=by
   refine Bg fun j=>?_
   rw[Am,Am];cases hc:(ps.zip args)[i+1+j]? with
   | none=>
    have h1:(ps.zip args).length≤i+1+j:=Cf.1 hc;rw[Cf];rw[length_zip] at h1 ⊢;rw[φ];exact h1
   | some pc=>
    obtain⟨p,c⟩:=pc;obtain⟨_,_,_,h4⟩:=q (i+1+j) p c (by omega) hc;rw[Bo] at hc ⊢;exact⟨hc.1,by rw[Aq,hc.2];show some (nS c s b')=_;rw[h4]⟩
  have hR:∀p∈(ps.zip args).drop (i+1),¬p.1=s∧¬s∈pfR p.2∧¬p.1∈pfR b':=fun p hp=>by
   obtain⟨j,hj⟩:=Bf hp;rw[Am] at hj;obtain⟨h1,h2,h3,_⟩:=q (i+1+j) p.1 p.2 (by omega) hj;exact⟨h1,h2,h3⟩
  rw[am,eT,eD]
  conv=>lhs;rw[sp]
  unfold fS;rw[Bu,Bu,Cm,Cm];have:=aBg _ (nS (List.foldl (fun c p=>nS c p.1 p.2) I ((ps.zip args).take i)) s a) hR;unfold fS at this;rw[this];congr 1;dsimp only;rcases ha i s a hi O with rfl | h
  ·rw[sW _ _ (le_refl _),aMe,κ rfl]
  ·have ad:¬s∈pfR a:=fun y=>hs (h s y)
   rw[kG _ a (le_refl _) ad];refine kG _ _ (le_refl _) fun y=>?_
   rcases pF _ _ (le_refl _) y with⟨_,g⟩ | g
   ·exact g rfl
   ·exact ad g
 ·have Y:∀p∈ps.zip args,¬p.1=s∧¬s∈pfR p.2∧¬p.1∈pfR b':=fun p hp=>by
   obtain⟨j,hj⟩:=Bf hp;rw[Bo] at hj;have ae:=δ hj.1;have q:¬p.1=s:=fun e=>J (by rw[←e];exact ae)
   refine⟨q,?_,fun h=>aa p.1 ae (Z _ h)⟩;rcases ha j p.1 p.2 hj.1 hj.2 with h | h
   ·rw[h,wH,Ab];exact fun e=>q e.symm
   ·exact fun y=>hs (h s y)
  have e:args.map (fun a=>nS a s b')=args:=by
   refine Bg fun j=>?_
   rw[Aq];cases hc:args[j]? with
   | none=>rfl
   | some c=>
    have hj:j<ps.length:=B8 (ξ.1 hc).1 hl;obtain⟨p,hp⟩:=aJ hj;have hm:=Y (p,c) (δ (i:=j) (by rw[Bo];exact⟨hp,hc⟩));show some (nS c s b')=some c;rw[kG _ c (le_refl _) hm.2.1]
  rw[e,aBg _ _ Y,kG _ I (le_refl _) fun h=>(ai s h).elim J hs]
theorem RL.nS {W:Wt}(hW:WOk W) {b b':Core}(hbb:RL W b b') (hb:pfR b=[]) (aa:ClF b') {s:Str}(hs:¬Fc s) {c c':Core}(h:RL W c c'):RL W (nS c s b) (nS c' s b'):=by
 induction h with
 | var z=>
  rw[YtnjaiimffoninaaGreatDoor.nS,κ rfl,YtnjaiimffoninaaGreatDoor.nS,κ rfl];by_cases e:z=s
  ·rw[κ e,κ e];exact hbb
  ·rw[θ e,θ e];exact .var z
 | @node f n z t t' ks ks' bs bs' al al' h1 h5 k1 k2 b1 b2 a1 a2 a3 ihk ihb iha=>
  rw[kP h1,kP h1,←tC b1];by_cases e:s∈gvN f z bs
  ·simp only[κ e];refine .node h1 h5 k1 k2 b1 b2 (by rw[φ,φ];exact a1) (fun i x y hx J=>?_) (fun i x y hx J=>?_)
   ·rw[Aq] at hx J;obtain⟨x',q,rfl⟩:=Ar.1 hx;obtain⟨y',I,rfl⟩:=Ar.1 J;exact a2 i x' y' q I
   ·rw[Aq] at hx J;obtain⟨x',q,rfl⟩:=Ar.1 hx;obtain⟨y',I,rfl⟩:=Ar.1 J;have hv:=(a2 i x' y' q I).2.2.2
    show RL W (if s∈x'.vars then x'.body else YtnjaiimffoninaaGreatDoor.nS x'.body s b) (if s∈y'.vars then y'.body else YtnjaiimffoninaaGreatDoor.nS y'.body s b');rw[←hv];by_cases O:s∈x'.vars
    ·rw[κ O,κ O];exact a3 i x' y' q I
    ·rw[θ O,θ O];exact iha i x' y' q I
  ·simp only[θ e];refine .node h1 h5 (by rw[φ,φ];exact k1) (fun i x y hx J=>?_) (by rw[Bn,Bn];exact b1) (fun i x y hx J=>?_) (by rw[φ,φ];exact a1) (fun i x y hx J=>?_) (fun i x y hx J=>?_)
   ·rw[Aq] at hx J;obtain⟨x',q,rfl⟩:=Ar.1 hx;obtain⟨y',I,rfl⟩:=Ar.1 J;exact ihk i x' y' q I
   ·rw[Aq] at hx J;obtain⟨x',q,rfl⟩:=Ar.1 hx;obtain⟨y',I,rfl⟩:=Ar.1 J;exact ihb i x' y' q I
   ·rw[Aq] at hx J;obtain⟨x',q,rfl⟩:=Ar.1 hx;obtain⟨y',I,rfl⟩:=Ar.1 J;exact a2 i x' y' q I
   ·rw[Aq] at hx J;obtain⟨x',q,rfl⟩:=Ar.1 hx;obtain⟨y',I,rfl⟩:=Ar.1 J;have hv:=(a2 i x' y' q I).2.2.2
    show RL W (if s∈x'.vars then x'.body else YtnjaiimffoninaaGreatDoor.nS x'.body s b) (if s∈y'.vars then y'.body else YtnjaiimffoninaaGreatDoor.nS y'.body s b');rw[←hv];by_cases O:s∈x'.vars
    ·rw[κ O,κ O];exact a3 i x' y' q I
    ·rw[θ O,θ O];exact iha i x' y' q I
 | @lam n n' z z' t t' d d' hz hd Y=>
  rw[aUr,aUr];have hfree:∀{y:Str},¬y∈pfR d→¬y∈pfR (YtnjaiimffoninaaGreatDoor.nS d s b):=fun h Z=>(pF _ d (le_refl _) Z).elim (fun g=>h g.1) fun g=>by rw[hb] at g;cases g
  rcases hz with rfl | ⟨hz1,hz2,hz3⟩
  ·by_cases e:s=z
   ·rw[κ e,κ e];exact .lam (.inl rfl) hd
   ·rw[θ e,θ e];exact .lam (.inl rfl) Y
  ·have e1:(if s=z then d else YtnjaiimffoninaaGreatDoor.nS d s b)=YtnjaiimffoninaaGreatDoor.nS d s b:=by
    by_cases e:s=z
    ·rw[κ e,kG _ d (le_refl _) (by rw[e];exact hz1)]
    ·rw[θ e]
   have O:(if s=z' then d' else YtnjaiimffoninaaGreatDoor.nS d' s b')=YtnjaiimffoninaaGreatDoor.nS d' s b':=by
    by_cases e:s=z'
    ·rw[κ e,kG _ d' (le_refl _) (by rw[e];exact hz2)]
    ·rw[θ e]
   rw[e1,O];exact .lam (.inr ⟨hfree hz1,fun Z=>(pF _ d' (le_refl _) Z).elim (fun g=>hz2 g.1) fun g=>hz3 (aa _ g),hz3⟩) Y
 | @comb x f args ps b0 hWf hl ha hY Y=>
  obtain⟨w1,w2,w3,w4⟩:=hW.ok f ps b0 hWf;rw[aH2,aMe,θ fun e=>hs (by rw[←e];exact w1)];have ha':∀(i:Nat) (p:Str) (a:Core),ps[i]?=some p→(args.map fun a=>YtnjaiimffoninaaGreatDoor.nS a s b')[i]?=some a→a=vC p∨ClF a:=fun i p a hp hx=>by
   rw[Aq] at hx;obtain⟨a0,ha0,rfl⟩:=Ar.1 hx;rcases ha i p a0 hp ha0 with rfl | h
   ·rw[aMe];by_cases e:p=s
    ·rw[κ e];exact .inr aa
    ·rw[θ e];exact .inl rfl
   ·rw[kG _ a0 (le_refl _) fun Z=>hs (h s Z)];exact .inr h
  refine .comb hWf (by rw[φ];exact hl) ha' ?_;rw[φ];rw[aG4] at Y;by_cases hd:s∈ps.drop args.length
  ·rw[κ hd] at Y;have hnt:∀(i:Nat) (p:Str) (a:Core),ps[i]?=some p→args[i]?=some a→¬p=s:=fun i p a hp hx e=>by
    obtain⟨j,hj⟩:=Bf hd;rw[Am] at hj;rw[e] at hp;have:=(List.getElem?_inj (ξ.1 hp).1 w2).1 (hp.trans hj.symm)
    have:=(ξ.1 hx).1
    omega
   have e:args.map (fun a=>YtnjaiimffoninaaGreatDoor.nS a s b')=args:=by
    refine Bg fun j=>?_
    rw[Aq];cases hc:args[j]? with
    | none=>rfl
    | some c=>
     have hj:j<ps.length:=lt_trans (ξ.1 hc).1 hl;obtain⟨p,hp⟩:=aJ hj;show some (YtnjaiimffoninaaGreatDoor.nS c s b')=some c;rcases ha j p c hp hc with rfl | h
     ·rw[aMe,θ (hnt j p _ hp hc)]
     ·rw[kG _ c (le_refl _) fun Z=>hs (h s Z)]
   rw[e];exact Y
  ·rw[θ hd,a1e w2 w4 aa w3 hs args (le_of_lt hl) ha hd] at Y;exact Y
theorem rW (of:Str):∀(l:List Bind) (A:Str→Bool) (made:List Sup),(bL of l A made).1.map Bind.name=l.map Bind.name
 | [],_,_=>by rw[bL]
 | .mk s t c::l,A,made=>by
  rw[bL];simp only[At,rW of l];rfl
mutual
theorem pV (A:Str→Bool):∀(c:Core) (G:Str→Bool) (out:List Str),(eG A c G out).length≤out.length+aQ c
 | .mk f _ x _ ks bs al,G,out=>by
  rw[eG,aQ];split
  ·split
   ·simp;omega
   ·omega
  ·have h1:=y9 A bs (ext G (gvs f x bs)) out;have h2:=y8 A ks (ext G (gvs f x bs)) (j5 A bs (ext G (gvs f x bs)) out);have h3:=yA A al (ext G (gvs f x bs)) (jQ A ks (ext G (gvs f x bs)) (j5 A bs (ext G (gvs f x bs)) out));omega
theorem y8 (A:Str→Bool):∀(l:List Core) (G:Str→Bool) (out:List Str),(jQ A l G out).length≤out.length+bM l
 | [],_,out=>by rw[jQ];omega
 | c::l,G,out=>by rw[jQ,bM];have:=y8 A l G (eG A c G out);have:=pV A c G out;omega
theorem y9 (A:Str→Bool):∀(l:List Bind) (G:Str→Bool) (out:List Str),(j5 A l G out).length≤out.length+c9 l
 | [],_,out=>by rw[j5];omega
 | .mk _ _ c::l,G,out=>by rw[j5,c9,bsize];have:=y9 A l G (eG A c G out);have:=pV A c G out;omega
theorem yA (A:Str→Bool):∀(l:List Alt) (G:Str→Bool) (out:List Str),(kB A l G out).length≤out.length+cK l
 | [],_,out=>by rw[kB];omega
 | .mk _ _ _ vs c::l,G,out=>by rw[kB,cK,kZ];have:=yA A l G (eG A c (ext G vs) out);have:=pV A c (ext G vs) out;omega
end
mutual
def ll:Core→Bool
 | .mk f _ _ _ ks bs al=>!decide (f=5)&&(aPx ks&&(aPy bs&&aPz al))
def aPx:List Core→Bool
 | []=>true
 | c::l=>ll c&&aPx l
def aPy:List Bind→Bool
 | []=>true
 | .mk _ _ c::l=>ll c&&aPy l
def aPz:List Alt→Bool
 | []=>true
 | .mk _ _ _ _ c::l=>ll c&&aPz l
end
theorem y7:∀(l:List Str) (c:Core),ll c=true→ll (gC c l)=true
 | [],_,h=>h
 | s::l,c,h=>by
  rw[gC];exact y7 l _ (by simp[aCf,varC,ll,aPx,aPy,aPz,h])
theorem oH {p:Sup→Prop}{c:Core}:∀{l:List Sup}{k:Nat},(∀x∈l,p x)→(∀x∈l,p { x with body:=c })→∀x∈setBody l k c,p x
 | [],_,_,_,x,hx=>by simp[setBody] at hx
 | y::l,0,h,hc,x,hx=>by
  rcases Ac.1 hx with rfl | hx
  ·exact hc _ η
  ·exact h x (χ _ hx)
 | y::l,k+1,h,hc,x,hx=>by
  rcases Ac.1 hx with rfl | hx
  ·exact h _ η
  ·exact oH (fun x hx=>h x (χ _ hx)) (fun x hx=>hc x (χ _ hx)) x hx
theorem fU (c:Core):∀(l:List Sup) (k:Nat),(setBody l k c).length=l.length
 | [],_=>rfl
 | _::_,0=>rfl
 | _::l,k+1=>by simp[setBody,fU c l k]
def wW (l:List Sup):Prop:=∀x∈l,ll x.body=true
mutual
theorem uI (of:Str):∀(c:Core) (ch:Bool) (A:Str→Bool) (made:List Sup),wW made→ll (bO of ch c A made).1=true∧wW (bO of ch c A made).2∧(bO of ch c A made).2.length≤made.length+aQ c
 | .mk f n s t ks bs al,ch,A,made,h=>by
  rw[bO,aQ];split
  ·split
   ·have:=aJs of ks A made h;exact⟨this.1,this.2.1,by omega⟩
   ·have hp:=aJs of ks (fun x=>decide (x∈eG A (.mk f n s t ks bs al) (fun _=>false) []++(s::dN ks))) (made++[⟨dX of made.length,bG (eG A (.mk f n s t ks bs al) (fun _=>false) []++(s::dN ks)),gO⟩]) (by
     intro x hx;rcases ω.1 hx with hx | hx
     ·exact h x hx
     ·simp only[Ab] at hx;subst hx;simp[gO,ll,aPx,aPy,aPz])
    refine⟨y7 _ _ (by simp[varC,ll,aPx,aPy,aPz]),oH hp.2.1 fun x _=>hp.1,?_⟩;rw[fU];have:=hp.2.2;rw[ε,Ct] at this;omega
  ·rename_i q;have h1:=aDq of bs (ext A (gvs f s bs)) made h;have h2:=aDk of ks (ext A (gvs f s bs)) _ h1.2.1;have h3:=aDw of al (ext A (gvs f s bs)) _ h2.2.1;refine⟨?_,h3.2.1,by have:=h1.2.2;have:=h2.2.2;have:=h3.2.2;dsimp only;omega⟩;simp[ll,q,h1.1,h2.1,h3.1]
theorem aJs (of:Str):∀(l:List Core) (A:Str→Bool) (made:List Sup),wW made→ll (gQ of l A made).1=true∧wW (gQ of l A made).2∧(gQ of l A made).2.length≤made.length+bM l
 | [],_,made,h=>by rw[gQ];exact⟨by simp[gO,ll,aPx,aPy,aPz],h,by simp⟩
 | c::l,A,made,h=>by
  rw[gQ,bM];have:=uI of c true A made h;exact⟨this.1,this.2.1,by omega⟩
theorem aDk (of:Str):∀(l:List Core) (A:Str→Bool) (made:List Sup),wW made→aPx (bW of l A made).1=true∧wW (bW of l A made).2∧(bW of l A made).2.length≤made.length+bM l
 | [],_,made,h=>by rw[bW];exact⟨by rw[aPx],h,by simp⟩
 | c::l,A,made,h=>by
  rw[bW,bM];have h1:=uI of c false A made h;have h2:=aDk of l A _ h1.2.1;exact⟨by rw[aPx,h1.1,h2.1];rfl,h2.2.1,by have:=h1.2.2;have:=h2.2.2;dsimp only;omega⟩
theorem aDq (of:Str):∀(l:List Bind) (A:Str→Bool) (made:List Sup),wW made→aPy (bL of l A made).1=true∧wW (bL of l A made).2∧(bL of l A made).2.length≤made.length+c9 l
 | [],_,made,h=>by rw[bL];exact⟨by rw[aPy],h,by simp⟩
 | .mk s t c::l,A,made,h=>by
  rw[bL,c9,bsize];have h1:=uI of c false A made h;have h2:=aDq of l A _ h1.2.1;exact⟨by rw[aPy,h1.1,h2.1];rfl,h2.2.1,by have:=h1.2.2;have:=h2.2.2;dsimp only;omega⟩
theorem aDw (of:Str):∀(l:List Alt) (A:Str→Bool) (made:List Sup),wW made→aPz (cD of l A made).1=true∧wW (cD of l A made).2∧(cD of l A made).2.length≤made.length+cK l
 | [],_,made,h=>by rw[cD];exact⟨by rw[aPz],h,by simp⟩
 | .mk f n s vs c::l,A,made,h=>by
  rw[cD,cK,kZ];have h1:=uI of c false (ext A vs) made h;have h2:=aDw of l A _ h1.2.1;exact⟨by rw[aPz,h1.1,h2.1];rfl,h2.2.1,by have:=h1.2.2;have:=h2.2.2;dsimp only;omega⟩
end
theorem aQv {of:Str}{i j:Nat}(hi:i<1000000) (hj:j<1000000) (h:dX of i=dX of j):i=j:=by
 unfold dX at h;have:=aQ9 (by omega) (by omega) (List.append_cancel_left h);omega
theorem aVi (of:Str) (i:Nat):of≠dX of i:=fun h=>by
 have:=congrArg List.length h;simp[dX] at this
theorem yD {of:Str}(h:of≠[]) (i:Nat):(dX of i).head?=of.head?:=by
 cases of with
 | nil=>exact absurd rfl h
 | cons a of=>rfl
theorem aQt {α β:Type}(f:β→α→β) (b:β) {l:List α}{i:Nat}{x:α}(h:l[i]?=some x):(l.take (i+1)).foldl f b=f ((l.take i).foldl f b) x:=by
 rw[cB h,Bu];rfl
theorem kY:∀{l:List Bind}{i:Nat}{c:Bind},l[i]?=some c→c9 (l.take i)+bsize c+(l.length-(i+1))≤c9 l
 | d::l,0,c,h=>by simp at h;subst h;rw[Cd,c9,c9,Ai];have:=iO l;omega
 | d::l,i+1,c,h=>by
  have:=kY (l:=l) (i:=i) (c:=c) (by simpa using h);rw[Bj,c9,c9,Ai];omega
theorem nK:∀l:List Str,l.length≤(l.map fun v=>1+v.length).sum
 | []=>Al _
 | _::l=>by have:=nK l;simp;omega
def a3w (l:List Str):AObj:=.arr 9 1 (l.map bA) 1
def bV (l:List Str):V:=.one (.c (.sl 1 (l.map bA)))
theorem qF (a b:List Str) (h:a.length≤8000000):aW Tryz.prog 106 [bV a,bV b] [] (B (decide (a=b))) []:=by
 refine bZ (n:=26) tok Tryz.func106 rfl rfl rfl ?_;refine sg rfl (a8 (sg rfl (aA rfl (fun hb=>?_) (fun hb=>?_))))
 ·have q:¬a=b:=by
   rintro rfl;simp at hb
  refine sg rfl ?_;rw[Ag q];exact aF rtT
 ·have hlen:a.length=b.length:=by
   have:(a.length:Int)=(b.length:Int):=by simpa using hb
   omega
  refine aD (a8 (sg rfl (aC ?_)));have Y:(a.map bA).length=a.length:=φ _;refine aK (fun i:Nat=>mk [(0,bV a),(1,bV b),(5,I .i64 i)] []) (fun i=>i≤a.length∧a.take i=b.take i) (fun i=>a.length-i) 0 ⟨Al _,by simp⟩ sl ?_;intro i ⟨hi,he⟩;refine a8 (sg rfl (aA rfl (fun hb=>?_) (fun hb=>?_)))
  ·have Z:=ltD hb Y;obtain⟨x,hx⟩:=aJ Z;obtain⟨y,O⟩:=aJ (show i<b.length by omega);have ac:=bT bA hx;have ad:=bT bA O;refine aD (a8 (aC (sgh [(2,.row i (bA x)),(6,.row i (bA y))] rfl (aA rfl (fun hb=>?_) (fun hb=>?_)))))
   ·have J:¬x=y:=by simpa using hb
    have q:¬a=b:=by
     rintro rfl;rw[hx] at O;exact J (Option.some.inj O)
    rw[Ag q];exact sg rfl (aF rtT)
   ·have J:x=y:=by simpa using hb
    refine aD (ag [] rfl ⟨i+1,⟨Z,?_⟩,by dsimp only;omega,sl⟩);rw[cB hx,cB O,he,J]
  ·have aa:=geD hb Y hi;have ab:a=b:=by
    have:=he;rw[aa,As,Az (by omega)] at this;exact this
   refine aL ?_;rw[Ae ab];exact sg rfl (aF (rtT (hc:=.refl)))
theorem vP:∀(f n:Nat),n<10^(f+1)→digits (f+2) n=digits (f+1) n
 | 0,n,h=>by
  have:n<10:=by simpa using h
  rw[fY 1 n,fY 0 n,κ this,κ this]
 | f+1,n,h=>by
  rw[fY (f+2) n,fY (f+1) n];split
  ·rfl
  ·have e:(10:Nat)^(f+1+1)=10^(f+1)*10:=Nat.pow_succ ..;rw[vP f (n/10) (by omega)]
theorem a41 (n:Nat) (h:n<1000000000000000000):dec n=if n<10 then [UInt8.ofNat (48+n)] else dec (n/10)++[UInt8.ofNat (48+n%10)]:=by
 unfold dec;rw[fY 19 n];split
 ·rfl
 ·rw[←vP 18 (n/10) (B8 (show n/10<1000000000000000000 by omega) (by decide))]
theorem rF (n:Nat):(dec n).length≤20:=by
 unfold dec;have:∀f n,(digits f n).length≤f:=by
  intro f
  induction f with
  | zero=>intro n;simp[digits]
  | succ f q=>
   intro n;rw[fY];split
   ·simp
   ·have:=q (n/10);simp;omega
 exact this 20 n
def aEh:Core→Bool
 | .mk f _ _ _ ks _ _=>if f=5 then(match ks with | []=>false | k::_=>aEh k) else true
theorem aAl (l:List Str):∀(i k:Nat) (s:Str),l[i]?=some s→(dJ k l)[i]?=some (if s∈l.drop (i+1) then s++[64,112]++dec (k+i) else s):=by
 induction l with
 | nil=>intro i k s h;simp at h
 | cons x l q=>
  intro i k s h;cases i with
  | zero=>
   simp only[List.getElem?_cons_zero,Option.some.injEq] at h;subst h;simp[dJ]
  | succ i=>
   have y:l[i]?=some s:=by simpa using h
   have:=q i (k+1) s y;rw[dJ,Bh,this];rw[show k+1+i=k+(i+1) by omega];rfl
theorem iW:∀(l:List Str) (k:Nat),(dJ k l).length=l.length
 | [],_=>rfl
 | _::l,k=>by rw[dJ,Ai,Ai,iW l]
def a1r (t:Ty):Bool:=decide (t.form=0)&&(decide (t.n=0)&&(t.name.isEmpty&&t.args.isEmpty))
theorem aGd {t:Ty}(h:a1r t=true):t=zTy:=by
 obtain⟨f,n,s,a⟩:=t;simp only[a1r,ζ,A4,List.isEmpty_iff] at h;obtain⟨h1,h2,h3,h4⟩:=h;simp only[Ty.form,Ty.n,Ty.name,Ty.args] at h1 h2 h3 h4;subst h1 h2 h3 h4;rfl
mutual
def wfR:Core→Bool
 | .mk f _ _ _ ks bs al=>(if f=5 then !ks.isEmpty else true)&&(fE ks&&(zF bs&&zG al))
def fE:List Core→Bool
 | []=>true
 | c::l=>wfR c&&fE l
def zF:List Bind→Bool
 | []=>true
 | .mk _ t c::l=>(a1r t&&wfR c)&&zF l
def zG:List Alt→Bool
 | []=>true
 | .mk _ _ _ _ c::l=>wfR c&&zG l
end
theorem aId:∀{l:List Core},fE l=true→∀x∈l,wfR x=true
 | c::l,h,x,hx=>by
  rw[fE,ζ] at h;rcases Ac.1 hx with rfl | hx
  ·exact h.1
  ·exact aId h.2 x hx
theorem aIh:∀{l:List Bind},zF l=true→∀x∈l,x.ty=zTy∧wfR x.body=true
 | .mk s t c::l,h,x,hx=>by
  simp only[zF,ζ] at h;rcases Ac.1 hx with rfl | hx
  ·exact⟨aGd h.1.1,h.1.2⟩
  ·exact aIh h.2 x hx
theorem aIi:∀{l:List Alt},zG l=true→∀x∈l,wfR x.body=true
 | .mk f n s v c::l,h,x,hx=>by
  rw[zG,ζ] at h;rcases Ac.1 hx with rfl | hx
  ·exact h.1
  ·exact aIi h.2 x hx
theorem sL:∀(m:Nat) (c:Core),aQ c≤m→wfR c=true→aEh c=true∧wfR (bR c)=true∧(aU c).length+aQ (bR c)≤aQ c∧(bR c).form≠5∧(∀s∈aU c,s.length≤aQ c)∧(c.form=5→aQ (bR c)<aQ c):=by
 intro m
 induction m with
 | zero=>intro c hc;have:=bH c;omega
 | succ m y=>
  intro c hc h;obtain⟨f,n,s,t,ks,bs,al⟩:=c;have hw:=h;simp only[wfR,ζ] at hw;by_cases q:f=5
  ·cases ks with
   | nil=>simp[q] at hw
   | cons k ks=>
    rw[aQ,bM] at hc;have hk:=hw.2.1;rw[fE,ζ] at hk;obtain⟨h1,h2,h3,h4,h5,h6⟩:=y k (by omega) hk.1;rw[aEh,aU,bR,κ q,κ q,κ q,dN,kI,aQ,bM];refine⟨h1,h2,by rw[Ai];omega,h4,fun x hx=>?_,fun _=>by omega⟩;rcases Ac.1 hx with rfl | hx
    ·omega
    ·have:=h5 x hx;omega
  ·rw[aU,bR,θ q,θ q];exact⟨by rw[aEh.eq_def];simp[q],h,by simp,q,by simp,fun e=>absurd e q⟩
theorem uJ (of:Str):∀(m:Nat) (c:Core),aQ c≤m→wfR c=true→∀(A:Str→Bool) (made:List Sup),bO of true c A made=bO of false (bR c) A made:=by
 intro m
 induction m with
 | zero=>intro c hc;have:=bH c;omega
 | succ m y=>
  intro c hc h A made;obtain⟨f,n,s,t,ks,bs,al⟩:=c;have hw:=h;simp only[wfR,ζ] at hw;by_cases q:f=5
  ·cases ks with
   | nil=>simp[q] at hw
   | cons k ks=>
    rw[aQ,bM] at hc;have hk:=hw.2.1;rw[fE,ζ] at hk;rw[bO,κ q,κ rfl,gQ,y k (by omega) hk.1,bR,κ q,kI]
  ·rw[bR,θ q,bO,bO,θ q,θ q]
mutual
theorem lF (of:Str):∀(c:Core) (ch:Bool) (A:Str→Bool) (made:List Sup),made.length≤(bO of ch c A made).2.length∧(bO of ch c A made).2.length≤made.length+aQ c
 | .mk f n s t ks bs al,ch,A,made=>by
  rw[bO,aQ];split
  ·split
   ·have:=aDf of ks A made;omega
   ·have hp:=aDf of ks (fun x=>decide (x∈eG A (.mk f n s t ks bs al) (fun _=>false) []++(s::dN ks))) (made++[⟨dX of made.length,bG (eG A (.mk f n s t ks bs al) (fun _=>false) []++(s::dN ks)),gO⟩]);rw[ε,Ct] at hp;dsimp only;rw[fU];omega
  ·have h1:=xR of bs (ext A (gvs f s bs)) made;have h2:=xP of ks (ext A (gvs f s bs)) (bL of bs (ext A (gvs f s bs)) made).2;have h3:=xT of al (ext A (gvs f s bs)) (bW of ks (ext A (gvs f s bs)) (bL of bs (ext A (gvs f s bs)) made).2).2;dsimp only;omega
theorem aDf (of:Str):∀(l:List Core) (A:Str→Bool) (made:List Sup),made.length≤(gQ of l A made).2.length∧(gQ of l A made).2.length≤made.length+bM l
 | [],_,made=>by rw[gQ];exact⟨le_refl _,B6 _ _⟩
 | c::l,A,made=>by
  rw[gQ,bM];have:=lF of c true A made;omega
theorem xP (of:Str):∀(l:List Core) (A:Str→Bool) (made:List Sup),made.length≤(bW of l A made).2.length∧(bW of l A made).2.length≤made.length+bM l
 | [],_,made=>by rw[bW];exact⟨le_refl _,B6 _ _⟩
 | c::l,A,made=>by
  rw[bW,bM];have h1:=lF of c false A made;have h2:=xP of l A (bO of false c A made).2;dsimp only;omega
theorem xR (of:Str):∀(l:List Bind) (A:Str→Bool) (made:List Sup),made.length≤(bL of l A made).2.length∧(bL of l A made).2.length≤made.length+c9 l
 | [],_,made=>by rw[bL];exact⟨le_refl _,B6 _ _⟩
 | .mk s t c::l,A,made=>by
  rw[bL,c9,bsize];have h1:=lF of c false A made;have h2:=xR of l A (bO of false c A made).2;dsimp only;omega
theorem xT (of:Str):∀(l:List Alt) (A:Str→Bool) (made:List Sup),made.length≤(cD of l A made).2.length∧(cD of l A made).2.length≤made.length+cK l
 | [],_,made=>by rw[cD];exact⟨le_refl _,B6 _ _⟩
 | .mk f n s vs c::l,A,made=>by
  rw[cD,cK,kZ];have h1:=lF of c false (ext A vs) made;have h2:=xT of l A (bO of false c (ext A vs) made).2;dsimp only;omega
end
theorem xQ (of:Str) (A:Str→Bool) (c:Core):∀(l:List Core) (made:List Sup),bW of (l++[c]) A made=((bW of l A made).1++[(bO of false c A (bW of l A made).2).1],(bO of false c A (bW of l A made).2).2)
 | [],made=>by simp[bW]
 | d::l,made=>by simp[bW,xQ of A c l]
theorem xS (of:Str) (A:Str→Bool) (b:Bind):∀(l:List Bind) (made:List Sup),bL of (l++[b]) A made=((bL of l A made).1++[.mk b.name b.ty (bO of false b.body A (bL of l A made).2).1],(bO of false b.body A (bL of l A made).2).2)
 | [],made=>by obtain⟨s,t,c⟩:=b;simp[bL,Bind.name,Bind.ty,Bind.body]
 | .mk s t c::l,made=>by simp[bL,xS of A b l]
theorem xU (of:Str) (A:Str→Bool) (a:Alt):∀(l:List Alt) (made:List Sup),cD of (l++[a]) A made=((cD of l A made).1++[.mk a.form a.n a.name a.vars (bO of false a.body (ext A a.vars) (cD of l A made).2).1],(bO of false a.body (ext A a.vars) (cD of l A made).2).2)
 | [],made=>by obtain⟨f,n,s,v,c⟩:=a;simp[cD,Alt.form,Alt.n,Alt.name,Alt.vars,Alt.body]
 | .mk f n s v c::l,made=>by simp[cD,xU of A a l]
theorem mN (of:Str) (A:Str→Bool):∀(l:List Core) (made:List Sup),(bW of l A made).1.length=l.length
 | [],_=>by rw[bW]
 | d::l,made=>by rw[bW];simp[mN of A l]
theorem mP (of:Str) (A:Str→Bool):∀(l:List Bind) (made:List Sup),(bL of l A made).1.length=l.length
 | [],_=>by rw[bL]
 | .mk s t c::l,made=>by rw[bL];simp[mP of A l]
theorem mQ (of:Str) (A:Str→Bool):∀(l:List Alt) (made:List Sup),(cD of l A made).1.length=l.length
 | [],_=>by rw[cD]
 | .mk f n s v c::l,made=>by rw[cD];simp[mQ of A l]
theorem tX (c:Core):∀(l:List Sup) (k:Nat) (y:Sup),l[k]?=some y→(setBody l k c).map dA=(l.map dA).set k ([.str y.name,.sl 1 (y.params.map bA)]++aB c)
 | [],k,y,h=>by simp at h
 | x::l,0,y,h=>by simp at h;subst h;rfl
 | x::l,k+1,y,h=>by
  have:=tX c l k y (by simpa using h);simp only[setBody,At,C3,this]
def r5 (l:List Sup):AObj:=.arr 85 12 (l.map dA) 0
theorem aQd (f:Int) (s:Str) (bs:List Bind):(gvs f s bs).length≤1+bs.length:=by
 unfold gvs;rw[ε,φ];split<;>simp
def a8s (l:List Str):Prop:=∀s∈l,s.length≤1000000
theorem sA (s:Str):∀(l:List Str) (c:Core),gC c (l++[s])=aCf (gC c l) (varC s)
 | [],_=>rfl
 | x::l,c=>by rw[A1,gC,sA s l];rfl
theorem aLf {α:Type}(p:α→Bool) {l:List α}{i:Nat}{x:α}(h:l[i]?=some x):(l.take (i+1)).all p=((l.take i).all p&&p x):=by
 rw[cB h,Dd];simp
theorem yR (b:Bind):aQ b.body+1≤bsize b:=by obtain⟨s',t',c'⟩:=b;rw[bsize];show aQ c'+1≤_;omega
theorem nZ (a:Alt):aQ a.body+1+(a.vars.map fun v=>1+v.length).sum≤kZ a:=by obtain⟨f',n',s',v',c'⟩:=a;rw[kZ];show aQ c'+1+(v'.map fun v=>1+v.length).sum≤_;omega
theorem aVw:aW Tryz.prog 139 [.pa (c7 zTy),.pa (c7 zTy)] [] (B true) []:=by
 refine bZ (n:=55) tok Tryz.func139 rfl rfl rfl ?_;refine sg rfl (a8 (sg rfl (aA rfl nofun (fun _=>aD (a8 (sg rfl (aC (aK (fun _:Unit=>mk [(2,.one (.vp 2 0)),(3,.one (.vp 3 0)),(5,I .i64 0)] [(2,.var 25 ((c7 zTy).map .c)),(3,.var 25 ((c7 zTy).map .c))]) (fun _=>True) (fun _=>0) () trivial sl ?_))))))));intro _ _;exact a8 (sg rfl (aA rfl nofun (fun _=>aL (sg rfl (aF (rtT (hc:=.refl)))))))
mutual
def j6:Core→Bool
 | .mk _ _ _ t ks bs al=>a1r t&&(jF ks&&(lW bs&&lX al))
def jF:List Core→Bool
 | []=>true
 | c::l=>j6 c&&jF l
def lW:List Bind→Bool
 | []=>true
 | .mk _ t c::l=>(a1r t&&j6 c)&&lW l
def lX:List Alt→Bool
 | []=>true
 | .mk _ _ _ _ c::l=>j6 c&&lX l
end
theorem wY:∀{l:List Core},jF l=true→∀x∈l,j6 x=true
 | c::l,h,x,hx=>by
  rw[jF,ζ] at h;rcases Ac.1 hx with rfl | hx
  ·exact h.1
  ·exact wY h.2 x hx
theorem wZ:∀{l:List Bind},lW l=true→∀x∈l,x.ty=zTy∧j6 x.body=true
 | .mk s t c::l,h,x,hx=>by
  simp only[lW,ζ] at h;rcases Ac.1 hx with rfl | hx
  ·exact⟨aGd h.1.1,h.1.2⟩
  ·exact wZ h.2 x hx
theorem x7:∀{l:List Alt},lX l=true→∀x∈l,j6 x.body=true
 | .mk f n s v c::l,h,x,hx=>by
  rw[lX,ζ] at h;rcases Ac.1 hx with rfl | hx
  ·exact h.1
  ·exact x7 h.2 x hx
def aTc (c:Core):Prop:=j6 c=true→aQ c≤4000000→aW Tryz.prog 107 [.pa (aB c),.pa (aB c)] [] (B true) []
theorem aMx (c:Core) (ih:∀x,aQ x<aQ c→aTc x):aTc c:=by
 intro hz hsz;obtain⟨f,n,s,t,ks,bs,al⟩:=c;obtain⟨J,O,Y,hkl,hbl,hal⟩:= @dL f n s t ks bs al;simp only[j6,ζ] at hz;obtain⟨ht,hzk,hzb,hza⟩:=hz;have ht:=aGd ht;subst ht;have hte:=aVw;have hkB:(aR bs).length=bs.length:=by rw[bC,φ]
 have hkK:(aT ks).length=ks.length:=by rw[b7,φ]
 have hkA:(bP al).length=al.length:=by rw[bN,φ]
 refine bZ (n:=187) tok Tryz.func107 rfl rfl rfl ?_;refine sg rfl (a8 (sgh [(5,.bv false),(11,.bv false),(12,.bv false),(18,.bv false),(19,.bv false),(27,.bv false),(28,.bv false),(36,.bv false),(37,.bv false),(45,.bv false),(46,.bv false),(51,.pc (B true)),(53,.bv false)] rfl (aA rfl (fun hb=>by simp at hb) (fun _=>aD (a8 (sg rfl (aC (aK (fun i:Nat=>mk [(2,.one (.vp 2 0)),(3,.one (.vp 3 0)),(5,I .i64 i)] [(2,.var 30 (bF (.mk f n s zTy ks bs al))),(3,.var 30 (bF (.mk f n s zTy ks bs al)))]) (fun i=>i≤ks.length) (fun i=>ks.length-i) 0 (Al _) sl ?_))))))));intro i hi;refine a8 (sg rfl (aA rfl (fun hb=>?_) (fun hb=>?_)))
 ·have q:=ltD hb hkK;obtain⟨k,Z⟩:=aJ q;have hki':=fA Z;have hm:=δ Z;have hc:=ih k (J k hm) (wY hzk k hm) (by have:=J k hm;omega);exact aD (a8 (aC (sgh [(3,.row i (aB k)),(8,.row i (aB k)),(10,.pc (B true))] rfl (aA rfl (fun hb=>by simp at hb) (fun _=>aD (ag [] rfl ⟨i+1,q,by dsimp only;omega,sl⟩))))))
 refine aL (a8 (sg rfl (aC (aK (fun i:Nat=>mk [(2,.one (.vp 2 0)),(3,.one (.vp 3 0)),(6,I .i64 i)] [(2,.var 30 (bF (.mk f n s zTy ks bs al))),(3,.var 30 (bF (.mk f n s zTy ks bs al)))]) (fun i=>i≤bs.length) (fun i=>bs.length-i) 0 (Al _) sl ?_))));intro i hi;refine a8 (sg rfl (aA rfl (fun hb=>?_) (fun hb=>?_)))
 ·have q:=ltD hb hkB;obtain⟨b,aa⟩:=aJ q;have hbi':=cR aa;have hm:=δ aa;obtain⟨y,hzb1⟩:=wZ hzb b hm;have hc:=ih b.body (O b hm) hzb1 (by have:=O b hm;omega);obtain⟨s',t',c'⟩:=b;have y:t'=zTy:=y;subst y;exact aD (a8 (aC (sgh [(3,.row i (aS (.mk s' zTy c'))),(9,.row i (aS (.mk s' zTy c'))),(13,.bv false),(17,.row i (aS (.mk s' zTy c'))),(23,.row i (aS (.mk s' zTy c'))),(26,.pc (B true)),(28,.bv false),(29,.bv false),(33,.row i (aS (.mk s' zTy c'))),(39,.row i (aS (.mk s' zTy c'))),(42,.pc (B true)),(44,.bv false)] rfl (aA rfl (fun hb=>by simp at hb) (fun _=>aD (ag [] rfl ⟨i+1,q,by dsimp only;omega,sl⟩))))))
 refine aL (a8 (sg rfl (aC (aK (fun i:Nat=>mk [(2,.one (.vp 2 0)),(3,.one (.vp 3 0)),(7,I .i64 i)] [(2,.var 30 (bF (.mk f n s zTy ks bs al))),(3,.var 30 (bF (.mk f n s zTy ks bs al)))]) (fun i=>i≤al.length) (fun i=>al.length-i) 0 (Al _) sl ?_))));intro i hi;refine a8 (sg rfl (aA rfl (fun hb=>?_) (fun hb=>?_)))
 ·have q:=ltD hb hkA;obtain⟨a,ab⟩:=aJ q;have hai':=gE ab;have hm:=δ ab;have hc:=ih a.body (Y a hm) (x7 hza a hm) (by have:=Y a hm;omega);have hav:=jE hm;have hab:=nZ a;have hvl:=nK a.vars;have hst:=qF a.vars a.vars (by rw[aQ] at hsz;omega);rw[Ae rfl] at hst;obtain⟨f',n',s',v',c'⟩:=a;exact aD (a8 (aC (sgh [(3,.row i (cO (.mk f' n' s' v' c')))] rfl (sgh [(3,.row i (cO (.mk f' n' s' v' c')))] rfl (sgh [(5,.bv false),(11,.bv false),(12,.bv false),(18,.bv false),(19,.bv false),(24,.pc (B true)),(26,.bv false),(27,.bv false),(32,.pc (B true)),(34,.bv false)] rfl (aA rfl (fun hb=>by simp at hb) (fun _=>aD (ag [] rfl ⟨i+1,q,by dsimp only;omega,sl⟩))))))))
 exact aL (sg rfl (aF (rtT (hc:=.refl))))
theorem a5q:∀(n:Nat) (c:Core),aQ c≤n→aTc c
 | 0,c,h=>by have:=bH c;omega
 | n+1,c,h=>aMx c fun x hx=>a5q n x (by omega)
def zN (l:List Sup):V:=.one (.c (.sl 12 (l.map dA)))
theorem a8f (l:List Sup) (hl:l.length≤1000000) (h:∀x∈l,j6 x.body=true∧aQ x.body≤4000000∧x.params.length≤4000000):aW Tryz.prog 48 [zN l,zN l] [] (B true) []:=by
 refine bZ (n:=56) tok Tryz.func48 rfl rfl rfl ?_;refine sg rfl (a8 (sg rfl (aA rfl (fun hb=>by simp at hb) (fun _=>aD (a8 (sg rfl (aC ?_)))))));have y:(l.map dA).length=l.length:=φ _;refine aK (fun i:Nat=>mk [(0,zN l),(1,zN l),(5,I .i64 i)] []) (fun i=>i≤l.length) (fun i=>l.length-i) 0 (Al _) sl ?_;intro i hi;refine a8 (sg rfl (aA rfl (fun hb=>?_) (fun hb=>?_)))
 ·have q:=ltD hb y;obtain⟨x,hx⟩:=aJ q;have O:=bT dA hx;obtain⟨h1,h2,h3⟩:=h x (δ hx);have hc:=a5q _ x.body (le_refl _) h1 h2;have J:=qF x.params x.params (by omega);rw[Ae rfl] at J;exact aD (a8 (aC (sgh [(2,.row i (dA x)),(7,.row i (dA x)),(11,.bv false),(14,.row i (dA x)),(19,.row i (dA x)),(22,.pc (B true)),(24,.bv false),(25,.bv false),(28,.row i (dA x)),(33,.row i (dA x)),(36,.pc (B true)),(38,.bv false)] rfl (aA rfl (fun hb=>by simp at hb) (fun _=>aD (ag [] rfl ⟨i+1,q,by dsimp only;omega,sl⟩))))))
 exact aL (sg rfl (aF (rtT (hc:=.refl))))
structure BOk (b:Bind):Prop where
 wf:wfR b.body=true
 sz:aQ b.body≤400000
 nm:b.name.length≤1000000
def a8z (l:List Sup):V:=.one (.hs 500 0 l.length l.length)
def a81 (l:List Sup):AObj:=.arr 85 12 (l.map dA) 0
theorem aMj {l:List Bind}{i:Nat}{b:Bind}(h:l[i]?=some b):fD (l.take (i+1))=fD (l.take i)++kS b:=by
 unfold fD;rw[cB h];simp
theorem aA3 {b:Bind}(h:wfR b.body=true):kS b=⟨b.name,bG (aU b.body),(bO b.name false (bR b.body) (fun x=>decide (x∈aU b.body)) []).1⟩::(bO b.name false (bR b.body) (fun x=>decide (x∈aU b.body)) []).2:=by
 unfold kS;rw[uJ _ _ b.body (le_refl _) h]
theorem aP1 {b:Bind}(h:wfR b.body=true):(kS b).length≤1+aQ b.body:=by
 rw[aA3 h,Ai];obtain⟨q,y,I,J,O,Y⟩:=sL _ b.body (le_refl _) h;have:=lF b.name (bR b.body) false (fun x=>decide (x∈aU b.body)) [];simp only[length_nil] at this;omega
theorem uW:∀{l:List Bind},(∀b∈l,BOk b)→(fD l).length≤l.length*400001
 | [],_=>by simp[fD]
 | b::l,h=>by
  have q:=uW (l:=l) fun x hx=>h x (χ _ hx)
  have h1:=h b η;have h2:=aP1 h1.wf;have h3:=h1.sz;rw[fD,flatMap_cons,ε,Ai];unfold fD at q;omega
def oE (s:Str) (c:Core):Core:=.mk 5 0 s zTy [c] [] []
theorem aMl (c:Core) {l:List Str}{k:Nat}{s:Str}(h:l[k]?=some s):eW c (l.drop k)=oE s (eW c (l.drop (k+1))):=by
 have hk:k<l.length:=(ξ.1 h).1
 rw[Bl hk,(ξ.1 h).2];rfl
end Go.Proofs.YtnjaiimffoninaaGreatDoor
