/-
  Texts Am39 to Ly2 in one.
-/
import Derived.Test.YtockgoadliilhaaGreatDoorM6
open List (all_append all_eq_true append_assoc append_nil cons_append drop_eq_getElem_cons drop_length drop_zero filter_cons flatMap_cons flatten_cons foldl_append length_append length_cons length_drop length_map length_nil length_take map_append map_congr_left map_cons map_map map_nil mem_append mem_cons mem_cons_of_mem mem_cons_self mem_filter mem_flatMap mem_map mem_of_mem_take mem_singleton nil_append nodup_append nodup_cons nodup_nil set_cons_succ take_add_one take_length take_succ_cons take_zero)
open Nat (add_assoc add_zero beq_refl eq_of_beq_eq_true le_add_left le_of_ble_eq_true le_refl le_trans min_eq_left mul_le_mul_right sub_self zero_add zero_le)
namespace Go.AM
open Go
def AObj.frz:AObj→AObj
 | .arr te es l _=>.arr te es l 2
 | o=>o
def wX (F:List (Nat×AObj)):List (Nat×AObj):=F.map fun p=>(p.1,p.2.frz)
theorem aKy {F:List (Nat×AObj)}:(wX F).map (·.1)=F.map (·.1):=by unfold wX;rw[A1];rfl
theorem TF.frz {F:List (Nat×AObj)}(h:TF F):TF (wX F):=⟨fun p hp=>by
 obtain⟨q,I,rfl⟩:=Ad.1 hp;exact h.far q I,by rw[aKy];exact h.nodup,fun p hp=>by
 obtain⟨q,I,rfl⟩:=Ad.1 hp;obtain⟨te,es,l,z,e⟩:=h.arr q I
 exact⟨te,es,l,2,by show q.2.frz=_;rw[e];rfl⟩⟩
theorem wM {α:Type}{p:Nat×α}{x:α}:∀{a b:List (Nat×α)}{i:Nat},p.1∉a.map (·.1)→look (a++(p.1,x)::b) i=if i=p.1 then some x else look (a++p::b) i
 | [],b,i,_=>by
  obtain⟨k,y⟩:=p;simp only[Be,look];by_cases h:i=k
  ·subst h;simp
  ·have:Nat.beq i k=false:=by
    cases hb:Nat.beq i k with
    | false=>rfl
    | true=>exact absurd (Ab hb) h
   simp[this,h]
 | (k,y)::a,b,i,h=>by
  simp only[Al,Ao,not_or] at h;simp only[A9,look];cases hb:Nat.beq i k with
  | true=>
   have:=Ab hb;subst this;simp[Ne.symm h.1]
  | false=>simpa using wM h.2
theorem Sub.fzMid {kf:List Nat}{el:List (Nat×V)}{hl:List (Nat×AObj)}(hn:(hl.all fun p=>Nat.blt p.1 800)=true):∀{F2 F1:List (Nat×AObj)},TF (F1++F2)→Sub kf (mkt el hl (F1++wX F2)) (mkt el hl (F1++F2))
 | [],F1,_=>by
  have:wX []=[]:=rfl;rw[this];exact Sub.refl _ _
 | p::F2,F1,J=>by
  obtain⟨te,es,l,z,hp⟩:=J.arr p (by simp);have N:=J.far p (by simp);have O:=J.nodup;have Y:p.1∉F1.map (·.1):=fun hm=>by
   rw[As,nodup_append] at O;exact O.2.2 p.1 hm p.1 (by simp) rfl
  have W:(mkt el hl (F1++p::F2)).h p.1=some (.arr te es l z):=by
   have:=FarEq.mkt (el:=el) J hn p (by simp);rw[this,hp]
  have h1:=Sub.freeze (kf:=kf) W;have e:(⟨(mkt el hl (F1++p::F2)).e,upd (mkt el hl (F1++p::F2)).h p.1 (some (.arr te es l 2)),(mkt el hl (F1++p::F2)).d⟩:St)=mkt el hl (F1++(p.1,.arr te es l 2)::F2):=by
   unfold mkt;congr 1;funext i;by_cases hi:i=p.1
   ·subst hi;rw[aJ,wC hn N];simp only[zT N,Bn];rw[wM Y,θ rfl]
   ·rw[b8 _ _ _ hi];show(match look hl i with | some x=>some x | none=>bif Nat.blt i 800 then none else look (F1++p::F2) i)=_;have hm:=wM (p:=p) (x:=AObj.arr te es l 2) (a:=F1) (b:=F2) (i:=i) Y;rw[ψ hi] at hm
    (first | (rw[hm];done) | (rw[hm];rfl))
  rw[e] at h1;have Z:TF ((F1++[(p.1,AObj.arr te es l 2)])++F2):=by
   refine⟨fun q I=>?_,?_,fun q I=>?_⟩
   ·rw[Aw] at I;rcases ω.1 I with I | I
    ·exact J.far q (by simp[I])
    ·rcases Ao.1 I with rfl | I
     ·exact N
     ·exact J.far q (by simp[show q∈F2 from I])
   ·rw[Aw];have:((F1++([(p.1,AObj.arr te es l 2)]++F2)).map (·.1))=(F1++p::F2).map (·.1):=by simp
    rw[this];exact O
   ·rw[Aw] at I;rcases ω.1 I with I | I
    ·exact J.arr q (by simp[I])
    ·rcases Ao.1 I with rfl | I
     ·exact⟨_,_,_,_,rfl⟩
     ·exact J.arr q (by simp[show q∈F2 from I])
  have h2:=Sub.fzMid (kf:=kf) (el:=el) hn (F2:=F2) (F1:=F1++[(p.1,AObj.arr te es l 2)]) Z;simp only[Aw,List.singleton_append] at h2;have e2:wX (p::F2)=(p.1,.arr te es l 2)::wX F2:=by
   show(p.1,p.2.frz)::wX F2=_;rw[hp];rfl
  rw[e2];exact fun G n S μ a w hg hs=>by
   obtain⟨S',μ',aa⟩:=h1 G n S μ a w hg hs;exact h2 G n S' μ' a w hg aa
theorem Sub.fzAll {kf:List Nat}{el:List (Nat×V)}{hl F:List (Nat×AObj)}(I:TF F) (hn:(hl.all fun p=>Nat.blt p.1 800)=true:=by rfl):Sub kf (mkt el hl (wX F)) (mkt el hl F):=Sub.fzMid hn (F1:=[]) I
theorem Sub.outsT {kf:List Nat}{e:Nat→Option V}{h:cO}{d:List Nat}{hl F:List (Nat×AObj)}(I:TF F):Sub kf ⟨e,fun i=>bif Nat.blt i 800 then updL h (outs hl) i else updL h (outs (hl++F)) i,d⟩ ⟨e,updL h (outs (hl++F)),d⟩:=by
 rw[←qE I];exact Sub.refl _ _
end Go.AM
namespace Go.Proofs.YtockgoadliilhaaGreatDoor
open Go Go.AM
set_option maxRecDepth 20000
mutual
def allT (p:Ty→Prop):Core→Prop
 | .mk _ _ _ t ks bs al=>p t∧aAg p ks∧aAh p bs∧aAi p al
def aAg (p:Ty→Prop):List Core→Prop
 | []=>True
 | c::l=>allT p c∧aAg p l
def aAh (p:Ty→Prop):List Bind→Prop
 | []=>True
 | .mk _ t c::l=>p t∧allT p c∧aAh p l
def aAi (p:Ty→Prop):List Alt→Prop
 | []=>True
 | .mk _ _ _ _ c::l=>allT p c∧aAi p l
end
theorem sD {p:Ty→Prop}:∀{l:List Core},aAg p l→∀x∈l,allT p x
 | c::l,h,x,hx=>by
  rw[aAg] at h;rcases Ao.1 hx with rfl | hx
  ·exact h.1
  ·exact sD h.2 x hx
theorem o4 {p:Ty→Prop}:∀{l:List Bind},aAh p l→∀x∈l,p x.ty∧allT p x.body
 | .mk _ _ _::l,h,x,hx=>by
  rw[aAh] at h;rcases Ao.1 hx with rfl | hx
  ·exact⟨h.1,h.2.1⟩
  ·exact o4 h.2.2 x hx
theorem sG {p:Ty→Prop}:∀{l:List Alt},aAi p l→∀x∈l,allT p x.body
 | .mk _ _ _ _ _::l,h,x,hx=>by
  rw[aAi] at h;rcases Ao.1 hx with rfl | hx
  ·exact h.1
  ·exact sG h.2 x hx
theorem r3 {α:Type}:∀{l:List α}{j:Nat}{x:α},l[j]?=some x→l.set j x=l
 | [],_,_,h=>by simp at h
 | y::l,0,x,h=>by simp at h;subst h;rfl
 | y::l,j+1,x,h=>by
  rw[Cp,r3 (by simpa using h)]
def sJ (al:List Alt) (i:Nat):List (List R):=aT 0 (al.take i)++(al.drop i).map fun a=>(cR a).map R.c
theorem pF:∀{l:List Alt}{k i:Nat}{a:Alt},l[i]?=some a→aT k (l.take (i+1))=aT k (l.take i)++[dL (k+i) a]
 | b::l,k,0,a,h=>by simp at h;subst h;simp[aT]
 | b::l,k,i+1,a,h=>by
  simp only[Az,aT,A9];rw[pF (l:=l) (k:=k+1) (by simpa using h),show k+1+i=k+(i+1) by omega]
theorem wZ:∀{l:List Alt}{k i:Nat}{a:Alt},l[i]?=some a→fam k (l.take (i+1))=fam k (l.take i)++[(k+i+800,.arr 9 1 (a.vars.map bO) 0)]
 | b::l,k,0,a,h=>by simp at h;subst h;simp[fam]
 | b::l,k,i+1,a,h=>by
  simp only[Az,fam,A9];rw[wZ (l:=l) (k:=k+1) (by simpa using h),show k+1+i=k+(i+1) by omega]
theorem aOo {al:List Alt}{i:Nat}:(sJ al i).length=al.length:=by unfold sJ;rw[Aa,dS,ξ,At,Bw];omega
theorem aS6 {al:List Alt}{i:Nat}{a:Alt}(h:al[i]?=some a):(sJ al i)[i]?=some ((cR a).map R.c):=by
 have I:i<al.length:=(ε.1 h).1
 unfold sJ;rw[Ay (by rw[dS,At];omega),dS,At,B8 (by omega),sub_self,A5,An,Bu,h];rfl
theorem qZ {α:Type}{l m:List α}{x y:α}{i:Nat}(h:l.length=i):(l++x::m).set i y=l++y::m:=by
 subst h;rw[List.set_append_right _ _ (le_refl _),sub_self];rfl
theorem oL {α:Type}{l:List α}{i:Nat}{a:α}(h:l[i]?=some a):l.drop i=a::l.drop (i+1):=by
 have I:i<l.length:=(ε.1 h).1
 rw[Ca I];congr 1;exact(ε.1 h).2
theorem aOn {al:List Alt}{i:Nat}{a:Alt}(h:al[i]?=some a) (r:List R):(sJ al i).set i r=aT 0 (al.take i)++r::(al.drop (i+1)).map fun a=>(cR a).map R.c:=by
 have I:i<al.length:=(ε.1 h).1
 unfold sJ;rw[oL h,Al];exact qZ (by rw[dS,At];omega)
theorem aJv {al:List Alt}{i:Nat}{a:Alt}(h:al[i]?=some a):sJ al (i+1)=aT 0 (al.take i)++dL i a::(al.drop (i+1)).map fun a=>(cR a).map R.c:=by
 unfold sJ;rw[pF h,Aw,Bd];rfl
theorem aJw {al:List Alt}{i:Nat}:∀x∈c7 (sJ al i),x∈keys (fam 0 (al.take i)):=fun x hx=>by
 unfold sJ at hx;rw[j7] at hx;rcases ω.1 hx with hx | hx
 ·exact cV x hx
 ·have key:∀l:List Alt,c7 (l.map fun a=>(cR a).map R.c)=[]:=by
   intro l
   induction l with
   | nil=>rfl
   | cons a l I=>
    show R.refsL _++c7 _=[];rw[I,A8];unfold cR aB;simp[R.refsL,R.refs]
  rw[key] at hx;cases hx
def sgm (k:Nat) (j:Nat):Nat:=bif Nat.blt j 800 then j else bif Nat.beq j (k+800) then 710 else j
theorem aBb {k j:Nat}(h:800≤j) (hk:j≠k+800):sgm k j=j:=by
 unfold sgm;rw[zT h];have:Nat.beq j (k+800)=false:=by
  cases hb:Nat.beq j (k+800) with
  | false=>rfl
  | true=>exact absurd (Ab hb) hk
 rw[this];rfl
theorem aBa {k:Nat}:sgm k (k+800)=710:=by
 unfold sgm;rw[zT (le_add_left _ _)];simp
theorem aIl {σ:Nat→Nat}:∀l:List C,R.renL σ (l.map R.c)=l.map R.c
 | []=>rfl
 | x::l=>by simp only[Al,R.renL,R.ren,aIl l]
theorem aDt {σ:Nat→Nat}:∀(a b:List (List R)),mI σ (a++b)=mI σ a++mI σ b
 | [],_=>rfl
 | r::a,b=>by simp only[A9,mI,aDt a b]
theorem jM {σ:Nat→Nat}{k:Nat}{a:Alt}:R.renL σ (dL k a)=[.c (.int .i64 a.form),.c (.int .i64 a.n),.c (.str a.name),.hs (σ (k+800)) 0 a.vars.length a.vars.length]++(aB a.body).map R.c:=by
 unfold dL;simp only[A9,Be,R.renL,R.ren,aIl]
theorem r5 {i:Nat}:∀{l:List Alt}{k:Nat},k+l.length≤i→mI (sgm i) (aT k l)=aT k l
 | [],_,_=>rfl
 | a::l,k,h=>by
  simp only[Aj] at h;simp only[aT,mI];rw[jM,aBb (le_add_left _ _) (by omega),r5 (l:=l) (k:=k+1) (by omega)];rfl
theorem tI {σ:Nat→Nat}:∀l:List Alt,mI σ (l.map fun a=>(cR a).map R.c)=l.map fun a=>(cR a).map R.c
 | []=>rfl
 | a::l=>by simp only[Al,mI,aIl,tI l]
def a0j (a:Alt):List R:=[.c (.int .i64 a.form),.c (.int .i64 a.n),.c (.str a.name),.hs 710 0 a.vars.length a.vars.length]++(aB a.body).map R.c
theorem aSl {al:List Alt}{i:Nat}{a:Alt}(h:al[i]?=some a):(sJ al i).set i (a0j a)=mI (sgm i) (sJ al (i+1)):=by
 rw[aOn h,aJv h,aDt];have I:i<al.length:=(ε.1 h).1
 rw[r5 (by rw[At];omega)];simp only[mI];rw[jM,aBa,tI];rfl
def TyG (t:Ty):Prop:=aW Tryz.prog 48 [tyV t] [] (tyV t) []
def oHl (ks:List Core) (bs:List Bind) (al:List Alt):List (Nat×AObj):=[(701,.arr 58 15 (aR bs) 0),(702,.arr 37 10 (aQ ks) 0),(703,.rarr 88 14 (aT 0 al))]
def OwG (c:Core):Prop:=aW Tryz.prog 47 [.pa (aB c)] [] (.ma (dU c.form c.n c.name c.ty c.kids.length c.binds.length c.alts.length)) (oHl c.kids c.binds c.alts++fam 0 c.alts)
def OwP (c:Core):Prop:=aW Tryz.prog 47 [.pa (aB c)] [] (.pa (aB c)) []
theorem xH (al:List Alt) (h:al.length≤600000000000):aW Tryz.prog 97 [.one (.c (.sl 14 (c8 al)))] [] (.one (.ra 703 0 al.length al.length)) [(703,.rarr 88 14 (sJ al 0))]:=by
 have I:(c8 al).length=al.length:=by rw[c6,ξ]
 have h1:=(zQ (c8 al) (by omega)).toR;rw[I] at h1;have e:(c8 al).map (·.map R.c)=sJ al 0:=by
  unfold sJ;rw[c6,A1];rfl
 rwa [e] at h1
theorem aOp {al:List Alt}:sJ al al.length=aT 0 al:=by
 unfold sJ;rw[Au,drop_length];simp
theorem aI2 {I:St}{al:List Alt}{i:Nat}{a:Alt}(J:al[i]?=some a) (hf:FarEq I.h (fam 0 (al.take i))) (h7:I.h 710=some (.arr 9 1 (a.vars.map bO) 0)):
  ∀p∈fam 0 (al.take (i+1)),∃o,I.h (sgm i p.1)=some o∧Ole (sgm i) o p.2:=fun p hp=>by
 rw[wZ J,Bd] at hp;rcases ω.1 hp with hp | hp
 ·obtain⟨j,b,hj,rfl⟩:=n5 hp;have N:j<(al.take i).length:=(ε.1 hj).1
  rw[At] at N;refine⟨_,?_,.arr⟩;rw[aBb (le_add_left _ _) (by show 0+j+800≠i+800;omega)];exact hf _ hp
 ·rw[Ac.1 hp];exact⟨_,by rw[aBa];exact h7,.arr⟩
theorem aF9 {al:List Alt}{i:Nat}{a:Alt}{hl:List (Nat×AObj)}(N:al[i]?=some a) (h1:Go.AM.distinct (710::hl.map (·.1))=true) (h2:(hl.all fun p=>Nat.blt p.1 800)=true):((hl++fam 0 (al.take (i+1))).map fun p=>sgm i p.1).Nodup:=by
 have Z:i<al.length:=(ε.1 N).1
 have W:(hl.map fun p=>sgm i p.1)=hl.map (·.1):=by
  refine A6 fun p hp=>?_
  have:=(A3.1 h2) p hp;unfold sgm;rw[this];rfl
 have Y:((fam 0 (al.take i)).map fun p=>sgm i p.1)=(fam 0 (al.take i)).map (·.1):=by
  refine A6 fun p hp=>?_
  obtain⟨j,b,hj,rfl⟩:=n5 hp;have O:j<(al.take i).length:=(ε.1 hj).1
  rw[At] at O;exact aBb (le_add_left _ _) (by show 0+j+800≠i+800;omega)
 rw[As,wZ N,Bd,As,W,Y];have hd:=dN h1;simp only[Bq] at hd;have J:∀x∈hl.map (·.1),x<800:=fun x hx=>by
  obtain⟨p,hp,rfl⟩:=Ad.1 hx;exact Ap ((A3.1 h2) p hp)
 have I:∀x∈(fam 0 (al.take i)).map (·.1),800≤x:=fun x hx=>by
  obtain⟨p,hp,rfl⟩:=Ad.1 hx;exact fD.far p hp
 show(hl.map (·.1)++((fam 0 (al.take i)).map (·.1)++[sgm i (i+800)])).Nodup;rw[aBa,nodup_append,nodup_append];refine⟨hd.2,⟨kZ,by simp,fun x hx y hy e=>?_⟩,fun x hx y hy e=>?_⟩
 ·have:=I x hx;have:y=710:=by simpa using hy
  omega
 ·subst e;rcases ω.1 hy with hy | hy
  ·have:=J x hx;have:=I x hy;omega
  ·have:x=710:=by simpa using hy
   subst this;exact hd.1 hx
theorem aTl {b:Bool}{nk nb I:Nat}{l:List Alt}:(bY b nk nb I l)[0]?=some (oI b nk nb):=rfl
theorem aTk {b:Bool}{nk nb I:Nat}{l:List Alt}{i:Nat}{a:Alt}(h:l[i]?=some a):(bY b nk nb I l)[i+1]?=some (lM I i a):=by
 unfold bY;rw[Bj,aMj h,Bd]
theorem aBt {b:Bool}{nk nb J:Nat}{l:List Alt}:∀r∈bY b nk nb J l,r.length=2:=by
 have key:∀(l:List Alt) (k:Nat),∀r∈aFn J k l,r.length=2:=by
  intro l
  induction l with
  | nil=>intro k r I;simp[aFn] at I
  | cons a l N=>
   intro k r I;rcases Ao.1 I with rfl | I
   ·rfl
   ·exact N _ r I
 intro r I;rcases Ao.1 I with rfl | I
 ·rfl
 ·exact key l 0 r I
theorem aTj {b:Bool}{nk nb I:Nat}{l:List Alt}:(bY b nk nb I l).length=1+l.length:=by unfold bY;rw[Aj,xL];omega
theorem r4 {f:Nat→List R}{k:Nat}(h:∀j,(f j).length=1):∀r∈rgR f k,r.length=1:=fun r I=>by
 obtain⟨j,_,rfl⟩:=Ad.1 I;exact h j
theorem tV {nk nb i:Nat}:∀r∈pR nk nb i,r.length=1:=fun r I=>by
 unfold pR at I;rcases ω.1 I with I | I
 ·exact r4 (fun _=>rfl) r I
 ·exact r4 (fun _=>rfl) r I
theorem aDr {f:Nat→List R}{k j:Nat}(h:j<k):(rgR f k)[j]?=some (f j):=by unfold rgR;rw[A5,List.getElem?_range h];rfl
theorem aJh {nk nb i j:Nat}(h:j<nk):(pR nk nb i)[j]?=some [.ep 702 j 0 nk]:=by unfold pR;rw[A7 (by rw[fP];exact h),aDr h]
theorem aJg {nk nb i j:Nat}(h:j<i):(pR nk nb i)[nk+j]?=some [.ep 701 j 5 nb]:=by unfold pR;rw[Ay (by rw[fP];omega),fP,Nat.add_sub_cancel_left,aDr h]
theorem aJf {nk nb i:Nat}:(pR nk nb i).length=nk+i:=by unfold pR;rw[Aa,fP,fP]
theorem uG (c:Core) (ih:∀x,aU x<aU c→allT TyG x→OwP x) (hT:allT TyG c) (hsz:aU c≤570000000000):OwG c:=by
 obtain⟨f,n,s,t,ks,bs,al⟩:=c;obtain⟨ihk,ihb,iha,hkl,hbl,hal⟩:= @dW f n s t ks bs al;rw[allT] at hT;obtain⟨hty,hTk,hTb,hTa⟩:=hT;have hty:aW Tryz.prog 48 [tyV t] [] (tyV t) []:=hty;have hkK:(aQ ks).length=ks.length:=by rw[aZ,ξ]
 have hkB:(aR bs).length=bs.length:=by rw[bP,ξ]
 have k2:ks.length=(aQ ks).length:=hkK.symm;have kb2:bs.length=(aR bs).length:=hkB.symm;have hck:=nY (aQ ks) (by omega);have hcb:=xG (aR bs) (by omega);have hca:=xH al (by omega);rw[hkK] at hck;rw[hkB] at hcb;show aW Tryz.prog 47 [.pa (aB (.mk f n s t ks bs al))] [] (.ma (dU f n s t ks.length bs.length al.length)) (oHl ks bs al++fam 0 al);refine bT (n:=85) tok Tryz.func47 rfl rfl rfl ?_;refine sgh [(0,.id 700)] rfl (sgh [(2,.pc (tyV t))] rfl (sk 2 rfl (kc hck ?_)));refine ak 2 [] rfl (kc hcb ?_);refine ak 2 [] rfl (kc hca ?_);refine kz 6 rfl (a8 (sg rfl ?_));have hbl':bs.length≤570000000000:=by omega
 have hml:∀i,al.length=(sJ al i).length:=fun i=>aOo.symm
 have hml0:=hml 0;refine aC ?_;have W0:∀i,GW [] (fam 0 (al.take i)):=fun i=>⟨fD,fun x hx=>(by cases hx),rfl,rfl⟩
 have hmix:∀i,GF [] (fam 0 (al.take i)) (AObj.rarr 88 14 (sJ al i)).refs:=fun i x hx=>.inr (aJw x hx)
 have hmix0:=hmix 0;have hF0:TF (fam 0 (al.take 0)):=fD;refine aL (fun i:Nat=>mkt [(1,.one (.vp 700 0)),(2,.one (.vp 2 0)),(27,I .i64 ((bs.length:Nat):Int)),(28,I .i64 i)] ([(2,.var 37 bM),(700,.var 37 (dU f n s t ks.length bs.length al.length)),(701,.arr 58 15 (aR bs) 0),(702,.arr 37 10 (aQ ks) 0),(703,.rarr 88 14 (sJ al 0))]++[]) (fam 0 (al.take 0))) (fun i=>i≤bs.length) (fun i=>bs.length-i) 0 (Ak _) (slG (W0 0) (fun _ h=>by cases h) (fun p hp=>by cases hp)) ?_
 ·intro i hi;refine sg rfl (a8 (aA rfl (fun hb=>?_) (fun hb=>?_)))
  ·have Z:i<bs.length:=by
    have:(i:Int)<(bs.length:Int):=φ hb;omega
   obtain⟨b,hbi⟩:=aK Z;have hbi':=dJ hbi;have hbt:aW Tryz.prog 48 [tyV b.ty] [] (tyV b.ty) []:=(o4 hTb b (η hbi)).1
   have J:=r3 hbi';refine aD (a8 (aC (sg rfl (ag [(8,.row i (bC b)),(9,.pc (tyV b.ty)),(12,.row i (bC b))] rfl (ag [] rfl ⟨i+1,Z,by dsimp only;omega,slG (W0 0) (fun _ h=>by cases h) (hh:=⟨⟨_,rfl,.var rfl⟩,⟨_,rfl,.varS rfl⟩,⟨_,rfl,.arrS J⟩,⟨_,rfl,.arr⟩,⟨_,rfl,.rarrS rfl⟩,trivial⟩)⟩)))))
  refine aM (a8 (sg rfl (aC (aL (fun i:Nat=>mkt [(1,.one (.vp 700 0)),(2,.one (.vp 2 0)),(46,I .i64 ((al.length:Nat):Int)),(47,I .i64 i)] ([(2,.var 37 bM),(700,.var 37 (dU f n s t ks.length bs.length al.length)),(701,.arr 58 15 (aR bs) 0),(702,.arr 37 10 (aQ ks) 0),(703,.rarr 88 14 (sJ al i))]++[]) (fam 0 (al.take i))) (fun i=>i≤al.length) (fun i=>al.length-i) 0 (Ak _) (slG (W0 0) (fun _ h=>by cases h)) ?_))));intro i hi;have hml:=hml i;have hmi:=hmix i;have hFi:TF (fam 0 (al.take i)):=fD;refine sg rfl (a8 (aA rfl (fun hb=>?_) (fun hb=>?_)))
  ·have Z:i<al.length:=by
    have:(i:Int)<(al.length:Int):=φ hb;omega
   obtain⟨a,N⟩:=aK Z;have hrow:=aS6 N;have hav:=eV (η N);have hvl:=mQ a;have hvk:(a.vars.map bO).length=a.vars.length:=ξ _;have hcl:=mN (a.vars.map bO) (by rw[aU] at hsz;omega);rw[hvk] at hcl;have hmx:=hmix (i+1);refine aD (a8 (aC (sg rfl (aE mixed (ak 9 [(8,.rr ((cR a).map R.c))] rfl (kc hcl ?_))))));refine ak 3 [(12,.rr ((cR a).map R.c))] rfl (az (ag [] rfl ⟨i+1,Z,by dsimp only;omega,?_⟩));dsimp only;refine Sub.tailT (hl:=[(2,.var 37 bM),(700,.var 37 (dU f n s t ks.length bs.length al.length)),(701,.arr 58 15 (aR bs) 0),(702,.arr 37 10 (aQ ks) 0),(703,.rarr 88 14 (sJ al (i+1)))]++[]) (sgm i) fD ?_ ?_ ?_ ?_ ?_ ?_ ?_ ?_
   ·exact⟨rfl,rfl,rfl,rfl,trivial⟩
   ·exact⟨⟨_,rfl,.var rfl⟩,⟨_,rfl,.var rfl⟩,⟨_,rfl,.arr⟩,⟨_,rfl,.arr⟩,⟨_,rfl,.rarr (aSl N)⟩,trivial⟩
   ·exact aI2 N (by repeat (first | exact FarEq.raw hFi | (refine FarEq.updL hFi ?_) | (refine FarEq.upd hFi ?_))) rfl
   ·rfl
   ·exact fun x hx=>.inl (bL (show subset _ _=true from rfl) x hx)
   ·exact(W0 (i+1)).all ⟨Kn.of rfl,Kn.of rfl,Kn.of rfl,Kn.of rfl,Kn.gf hmx,trivial⟩
   ·exact aF9 N rfl rfl
   ·exact fun _ h=>by cases h
  refine aM ?_;have hge:i=al.length:=by
   have:¬(i:Int)<(al.length:Int):=δ hb;omega
  subst hge;have hF:TF (fam 0 al):=fD;have W:GW (gHl f n s t ks bs al) (fam 0 al):=gW
  have hgr:=s6 (decide (f=5)) f n s t ks bs al rfl (by omega) (by omega) (by omega) (fun a ha=>by
   have hav:=eV ha;have hvl:=mQ a
   rw[aU] at hsz;omega)
  have hrows:=mY (f:=f) (n:=n) (s:=s) (t:=t) (ks:=ks) (bs:=bs) (al:=al) (decide (f=5)) al.length;rw[Au] at hrows ⊢;rw[aOp];have hgl:(bY (decide (f=5)) ks.length bs.length al.length al).length=1+al.length:=aTj;have hra:gfo f n s t ks bs al (R.refsL (bY (decide (f=5)) ks.length bs.length al.length al).flatten):=by rw[dB];exact hrows
  have hg0:(bY (decide (f=5)) ks.length bs.length al.length al)[0]?=some (oI (decide (f=5)) ks.length bs.length):=aTl;have hgA:∀i a,al[i]?=some a→(bY (decide (f=5)) ks.length bs.length al.length al)[i+1]?=some (lM al.length i a):=fun i a h=>aTk h
  have htk:∀k r,(bY (decide (f=5)) ks.length bs.length al.length al)[k]?=some r→((bY (decide (f=5)) ks.length bs.length al.length al).flatten.drop (k*2)).take 2=r:=eD aBt;generalize bY (decide (f=5)) ks.length bs.length al.length al=G at hgr hgl hra hg0 hgA htk;generalize decide (f=5)=b at hg0;have hal':al.length=(aT 0 al).length:=dS.symm;refine a8 (a8 (aE mixed (kc hgr ?_ (hin':=eQ.app ⟨rfl,rfl,rfl,rfl,trivial⟩ (FarEq.raw hF).all) (hout':=eQ.of fun p hp=>.inl (Ad.2 ⟨p,hp,rfl⟩)) (hok:=n6 hF (fun x hx=>.inl (bL (show subset _ _=true from rfl) x hx)) qC))));refine kz 2 rfl (AWp.sub (Sub.outsT hF) ?_);refine aC ?_;have O:∀x∈R.refsL G.flatten,Kn [(2,.var 37 bM)] (gHl f n s t ks bs al) (fam 0 al) x:=Kn.gf hra;refine aL (fun g:Nat=>mkt [(1,.one (.vp 700 0)),(2,.one (.vp 2 0)),(63,.one (.ras G.length 2 G.flatten)),(64,I .i64 ((G.length:Nat):Int)),(65,I .i64 g)] ([(2,.var 37 bM)]++gHl f n s t ks bs al) (fam 0 al)) (fun g=>g≤G.length) (fun g=>G.length-g) 0 (Ak _) (slG W (fun _ h=>by cases h) (FarEq.bif hF (FarEq.outs hF)) (h1:=Kn.app (Kn.of rfl) (Kn.app (Kn.of rfl) (Kn.app O Kn.nil)))) ?_;intro g hg;refine sg rfl (a8 (aA rfl (fun hb=>?_) (fun hb=>?_)))
  ·have Z:g<G.length:=by
    have:(g:Int)<(G.length:Int):=φ hb;omega
   refine aD ?_;cases g with
   | zero=>
    have ht0:=htk 0 _ hg0;have hpl:(pR ks.length bs.length bs.length).length=ks.length+bs.length:=aJf;have hpr:gfo f n s t ks bs al (R.refsL (pR ks.length bs.length bs.length).flatten):=by rw[dB];exact aM7 _ _ _
    have hpt:∀k r,(pR ks.length bs.length bs.length)[k]?=some r→((pR ks.length bs.length bs.length).flatten.drop (k*1)).take 1=r:=eD tV;have hp1:∀j,j<ks.length→(pR ks.length bs.length bs.length)[j]?=some [.ep 702 j 0 ks.length]:=fun j h=>aJh h
    have hp2:∀j,j<bs.length→(pR ks.length bs.length bs.length)[ks.length+j]?=some [.ep 701 j 5 bs.length]:=fun j h=>aJg h
    refine a8 (aC (sgh [(0,.rowR 0 (oI b ks.length bs.length))] rfl (sg rfl (aC (aL (fun j:Nat=>mkt [(1,.one (.vp 700 0)),(2,.one (.vp 2 0)),(63,.one (.ras G.length 2 G.flatten)),(64,I .i64 ((G.length:Nat):Int)),(65,I .i64 (0:Nat)),(70,.one (.ras (pR ks.length bs.length bs.length).length 1 (pR ks.length bs.length bs.length).flatten)),(71,I .i64 (((pR ks.length bs.length bs.length).length:Nat):Int)),(72,I .i64 j)] ([(2,.var 37 bM)]++gHl f n s t ks bs al) (fam 0 al)) (fun j=>j≤(pR ks.length bs.length bs.length).length) (fun j=>(pR ks.length bs.length bs.length).length-j) 0 (Ak _) (slG W (fun _ h=>by cases h) (h1:=Kn.app (Kn.of rfl) (Kn.app (Kn.of rfl) (Kn.app O (Kn.app Kn.nil (Kn.app Kn.nil (Kn.app (Kn.gf hpr) Kn.nil))))))) ?_)))));intro j hj;refine sg rfl (a8 (aA rfl (fun hb=>?_) (fun hb=>?_)))
    ·have hlt2:j<(pR ks.length bs.length bs.length).length:=by
      have:(j:Int)<((pR ks.length bs.length bs.length).length:Int):=φ hb;omega
     refine aD ?_;by_cases hjk:j<ks.length
     ·obtain⟨k,hki⟩:=aK hjk;have hki':=iP hki;have hm:=η hki;have hc:aW Tryz.prog 47 [.pa (aB k)] [] (.pa (aB k)) []:=ih k (ihk k hm) (sD hTk k hm);have J:=r3 hki';have ht1:=hpt j _ (hp1 j hjk);refine a8 (aC (sgh [(0,.rowR j [.ep 702 j 0 ks.length])] rfl (aE mixed (ak 4 [(3,.row j (aB k))] rfl (kc hc ?_)))));exact ak 2 [(6,.row j (aB k))] rfl (az (ag [] rfl ⟨j+1,hlt2,by dsimp only;omega,slG W (fun _ h=>by cases h) (h1:=Kn.app (Kn.of rfl) (Kn.app (Kn.of rfl) (Kn.app O (Kn.app Kn.nil (Kn.app Kn.nil (Kn.app (Kn.gf hpr) Kn.nil)))))) (hh:=⟨⟨_,rfl,.var rfl⟩,⟨_,rfl,.var rfl⟩,⟨_,rfl,.arr⟩,⟨_,rfl,.arrS J⟩,⟨_,rfl,.rarrS rfl⟩,trivial⟩)⟩))
     ·obtain⟨Y,rfl⟩:∃Y,j=ks.length+Y:=⟨j-ks.length,by omega⟩
      have hjb:Y<bs.length:=by omega
      obtain⟨x,hbi⟩:=aK hjb;have hbi':=dJ hbi;have hm:=η hbi;have hc:aW Tryz.prog 47 [.pa (aB x.body)] [] (.pa (aB x.body)) []:=ih x.body (ihb x hm) (o4 hTb x hm).2;have J:=r3 hbi';have ht1:=hpt (ks.length+Y) _ (hp2 Y hjb);refine a8 (aC (sgh [(0,.rowR (ks.length+Y) [.ep 701 Y 5 bs.length])] rfl (aE mixed (ak 4 [(3,.row Y (bC x))] rfl (kc hc ?_)))));exact ak 2 [(6,.row Y (bC x))] rfl (az (ag [] rfl ⟨ks.length+Y+1,hlt2,by dsimp only;omega,slG W (fun _ h=>by cases h) (h1:=Kn.app (Kn.of rfl) (Kn.app (Kn.of rfl) (Kn.app O (Kn.app Kn.nil (Kn.app Kn.nil (Kn.app (Kn.gf hpr) Kn.nil)))))) (hh:=⟨⟨_,rfl,.var rfl⟩,⟨_,rfl,.var rfl⟩,⟨_,rfl,.arrS J⟩,⟨_,rfl,.arr⟩,⟨_,rfl,.rarrS rfl⟩,trivial⟩)⟩))
    exact aM (ag [] rfl ⟨1,by omega,by dsimp only;omega,slG W (fun _ h=>by cases h) (h1:=Kn.app (Kn.of rfl) (Kn.app (Kn.of rfl) (Kn.app O Kn.nil)))⟩)
   | succ i=>
    have hia:i<al.length:=by omega
    obtain⟨a,N⟩:=aK hia;have ht0:=htk (i+1) _ (hgA i a N);have hrow:(aT 0 al)[i]?=some (dL i a):=by rw[mF N,Bd]
    have hm:=η N;have hc:aW Tryz.prog 47 [.pa (aB a.body)] [] (.pa (aB a.body)) []:=ih a.body (iha a hm) (sG hTa a hm);have J:=r3 hrow;refine a8 (aC (sgh [(0,.rowR (i+1) (lM al.length i a))] rfl (sg rfl (aC (aL (fun j:Nat=>mkt [(1,.one (.vp 700 0)),(2,.one (.vp 2 0)),(63,.one (.ras G.length 2 G.flatten)),(64,I .i64 ((G.length:Nat):Int)),(65,I .i64 ((i+1:Nat):Int)),(70,.one (.ras 1 1 [.rp 703 i 4 al.length])),(71,I .i64 ((1:Nat):Int)),(72,I .i64 j)] ([(2,.var 37 bM)]++gHl f n s t ks bs al) (fam 0 al)) (fun j=>j≤1) (fun j=>1-j) 0 (Ak _) (slG W (fun _ h=>by cases h) (h1:=Kn.app (Kn.of rfl) (Kn.app (Kn.of rfl) (Kn.app O (Kn.of rfl))))) ?_)))));intro j hj;refine sg rfl (a8 (aA rfl (fun hb=>?_) (fun hb=>?_)))
    ·have hj0:j=0:=by
      have:(j:Int)<((1:Nat):Int):=φ hb;omega
     subst hj0;refine aD (a8 (aC (sg rfl (aE mixed (ak 4 [(3,.rr (dL i a))] rfl (kc hc ?_))))));exact ak 2 [(6,.rr (dL i a))] rfl (az (ag [] rfl ⟨1,le_refl _,by dsimp only;omega,slG W (fun _ h=>by cases h) (h1:=Kn.app (Kn.of rfl) (Kn.app (Kn.of rfl) (Kn.app O (Kn.of rfl)))) (hh:=⟨⟨_,rfl,.var rfl⟩,⟨_,rfl,.var rfl⟩,⟨_,rfl,.arr⟩,⟨_,rfl,.arr⟩,⟨_,rfl,.rarrS J⟩,trivial⟩)⟩))
    exact aM (ag [] rfl ⟨i+1+1,by omega,by dsimp only;omega,slG W (fun _ h=>by cases h) (h1:=Kn.app (Kn.of rfl) (Kn.app (Kn.of rfl) (Kn.app O Kn.nil)))⟩)
  refine aM (sg rfl ?_);exact aI ⟨.inr rfl,aBx (hl:=oHl ks bs al) hF (by repeat (first | exact FarEq.raw hF | (refine FarEq.updL hF ?_) | (refine FarEq.upd hF ?_))) ⟨_,_,.cell rfl (tg rfl) rfl rfl rfl .nil,.cons .refl .nil,rfl⟩ (fun x hx=>.inl (bL (show subset _ _=true from rfl) x hx)) (fun x hx=>.inr (cV x (by simpa [oHl,dM,AObj.refs] using hx))) (fun _ h=>by cases h) (fun _ h=>by cases h)⟩
theorem aDz {h:cO}{ids:List Nat}{rs:List R}{cs:List C}(k:PureL h ids rs cs):∀l:List C,PureL h ids (l.map R.c++rs) (l++cs)
 | []=>k
 | _::l=>.c .refl (aDz k l)
theorem yI {h:cO}:∀{al:List Alt}{k:Nat},FarEq h (wX (fam k al))→∃ids,PureL h ids (aT k al).flatten (al.map cR).flatten
 | [],_,_=>⟨[],.nil⟩
 | a::l,k,hf=>by
  obtain⟨ids,I⟩:=yI (al:=l) (k:=k+1) fun p hp=>hf p (κ _ hp)
  have hh:h (k+800)=some (.arr 9 1 (a.vars.map bO) 2):=hf (k+800,.arr 9 1 (a.vars.map bO) 2) ζ;refine⟨(k+800)::ids,?_⟩;have h1:=aDz I (aB a.body);simp only[aT,Al,Bi,dL,cR,Aw,A9,Be];exact .c .refl (.c .refl (.c .refl (.hs hh (ξ _).symm (by rw[Cd,←ξ (f:=bO),Au]) h1)))
def j1 (f n:Int) (s:Str) (t:Ty) (nk nb:Nat) (al:List Alt):List R:=[.c (.int .i64 f),.c (.int .i64 n),.c (.str s),.c (.int .i64 t.form),.c (.int .i64 t.n),.c (.str t.name),.c (.sl 4 (gC t)),.hs 702 0 nk nk,.hs 701 0 nb nb,.ras al.length 14 (aT 0 al).flatten]
theorem r9 {h:cO}{f n:Int}{s:Str}{t:Ty}{ks:List Core}{bs:List Bind}{al:List Alt}(h1:h 701=some (.arr 58 15 (aR bs) 2)) (h2:h 702=some (.arr 37 10 (aQ ks) 2)) (hf:FarEq h (wX (fam 0 al))):
  ∃ids,PureL h ids (j1 f n s t ks.length bs.length al) (aB (.mk f n s t ks bs al)):=by
 obtain⟨ids,hp⟩:=yI hf;have J:(aQ ks).length=ks.length:=by rw[aZ,ξ]
 have N:(aR bs).length=bs.length:=by rw[bP,ξ]
 refine⟨702::701::(ids++[]),?_⟩;refine .c .refl (.c .refl (.c .refl (.c .refl (.c .refl (.c .refl (.c .refl (.hs h2 J.symm ?_ (.hs h1 N.symm ?_ (.ras rfl hp ?_ ?_ ?_ .nil)))))))))
 ·rw[Cd,←J,Au];rfl
 ·rw[Cd,←N,Au];rfl
 ·show _=(c8 al).flatten;rw[c6]
 ·intro r I;have I:r∈c8 al:=I;rw[c6] at I;obtain⟨a,_,rfl⟩:=Ad.1 I;rfl
 ·show(c8 al).length=_;rw[c6,ξ]
theorem sU {al:List Alt}:703∉c7 (aT 0 al):=fun h=>by
 obtain⟨p,hp,e⟩:=Ad.1 (cV 703 h);have:=fD.far p hp;omega
theorem oA {kf:List Nat}{el:List (Nat×V)}{ex:List (Nat×AObj)}{ks:List Core}{bs:List Bind}{al:List Alt}(W:703∉kf)
  (aa:∀x∈nC el,Kn (oHl ks bs al) ex (fam 0 al) x) (hex:eQ (fun q=>∀x∈q.2.refs,Kn (oHl ks bs al) ex (fam 0 al) x) ex)
  (ab:∀i∈kf,i∈keys (oHl ks bs al++ex)∨i∈keys (fam 0 al)) (hd:Go.AM.distinct ((oHl ks bs al++ex).map (·.1))=true) (hn:(ex.all fun p=>Nat.blt p.1 800)=true) (ac:(el.map (·.1)).Nodup) (ad:∀p∈ex,p.2.live=true):
  Sub kf (mkt (fzE 703 (.ra al.length 14 (aT 0 al).flatten) el) (fzH 703 (.ra al.length 14 (aT 0 al).flatten) ([(701,.arr 58 15 (aR bs) 2),(702,.arr 37 10 (aQ ks) 2)]++ex)) (wX (fam 0 al))) (mkt el (oHl ks bs al++ex) (fam 0 al)):=by
 have N:TF (fam 0 al):=fD;have ae:((oHl ks bs al++ex).all fun p=>Nat.blt p.1 800)=true:=by rw[all_append,hn];rfl
 have e1:Sub kf (mkt el ([(703,.rarr 88 14 (aT 0 al)),(701,.arr 58 15 (aR bs) 2),(702,.arr 37 10 (aQ ks) 2)]++ex) (fam 0 al)) (mkt el (oHl ks bs al++ex) (fam 0 al)):=by
  refine Sub.trans ?_ (Sub.freeze (id:=701) (te:=58) (es:=15) (elems:=aR bs) (fz:=0) rfl);refine Sub.trans ?_ (Sub.freeze (id:=702) (te:=37) (es:=10) (elems:=aQ ks) (fz:=0) rfl);have O:∀p∈ex,703≠p.1∧701≠p.1∧702≠p.1:=fun p hp=>by
   have I:=dN hd;simp only[oHl,A9,Be,Al,Bq,Ao,not_or] at I;have hm:p.1∈ex.map (·.1):=Ad.2 ⟨p,hp,rfl⟩;exact⟨fun e=>I.2.2.1 (e▸hm),fun e=>I.1.2.2 (e▸hm),fun e=>I.2.1.2 (e▸hm)⟩
  have Y:(ex.map (·.1)).Nodup:=by
   have I:=dN hd;simp only[oHl,A9,Be,Al,Bq] at I;exact I.2.2.2
  have hg:∀x∈dM (oHl ks bs al++ex),x∈keys (oHl ks bs al++ex)∨x∈keys (fam 0 al):=fun x hx=>by
   rw[iG] at hx;rcases ω.1 hx with hx | hx
   ·exact .inr (cV x (by simpa [oHl,dM,AObj.refs] using hx))
   ·rcases yF hex x hx with h | h | h
    ·exact .inl (gH.2 (.inl h))
    ·exact .inl (gH.2 (.inr h))
    ·exact .inr h
  have J:∀x,x∈keys (oHl ks bs al++ex)→x∈keys ([(703,AObj.rarr 88 14 (aT 0 al)),(701,.arr 58 15 (aR bs) 2),(702,.arr 37 10 (aQ ks) 2)]++ex):=fun x hx=>by
   simp only[oHl,keys,A9,Be,Al,Ao] at hx ⊢;rcases hx with h | h | h | h
   ·exact .inr (.inl h)
   ·exact .inr (.inr (.inl h))
   ·exact .inl h
   ·exact .inr (.inr (.inr h))
  refine slT N (FarEq.upd N (FarEq.upd N (FarEq.mkt N ae))) (fun x hx=>?_) (fun x hx=>?_) (fun i hi=>(ab i hi).imp (J i) id) (he:=eQ.of fun p hp=>?_) (hh:=⟨⟨_,rfl,.rarrS rfl⟩,⟨_,rfl,.arr⟩,⟨_,rfl,.arr⟩,eQ.of fun p hp=>?_⟩) (h3:=?_) (h3':=?_)
  ·rcases aa x hx with h | h | h
   ·exact .inl (J x (gH.2 (.inl h)))
   ·exact .inl (J x (gH.2 (.inr h)))
   ·exact .inr h
  ·refine(hg x ?_).imp (J x) id;rw[iG] at hx ⊢;rcases ω.1 hx with hx | hx
   ·exact ω.2 (.inl (by simpa [oHl,dM,AObj.refs] using hx))
   ·exact ω.2 (.inr hx)
  ·rw[V.ren_id];exact oH ac p hp
  ·obtain⟨m1,m2,m3⟩:=O p hp;refine⟨p.2,?_,.refl_id (by intro e;have:=ad p hp;rw[e] at this;cases this)⟩;dsimp only;rw[b8 _ _ _ (Ne.symm m3),b8 _ _ _ (Ne.symm m2)];have hl:Go.AM.look (oHl ks bs al++ex) p.1=some p.2:=oH (dN hd) p (ω.2 (.inr hp));show(match Go.AM.look (oHl ks bs al++ex) p.1 with | some x=>some x | none=>_)=_;rw[hl]
  ·refine fG ?_;simp only[A9,Be,Al,Bq,Ao,not_or];refine⟨⟨by decide,by decide,fun h=>?_⟩,⟨by decide,fun h=>?_⟩,fun h=>?_,Y⟩
   all_goals
    obtain⟨p,hp,e⟩:=Ad.1 h;have:=O p hp;omega
  ·rw[all_append,hn];rfl
 have Z:Go.AM.distinct (703::List.map (fun p:Nat×AObj=>p.1) ([(701,AObj.arr 58 15 (aR bs) 2),(702,.arr 37 10 (aQ ks) 2)]++ex))=true:=by
  have I:=dN hd;simp only[oHl,A9,Be,Al,Bq,Ao,not_or] at I;refine fG ?_;simp only[A9,Be,Al,Bq,Ao,not_or];exact⟨⟨by decide,by decide,I.2.2.1⟩,⟨by decide,I.1.2.2⟩,I.2.1.2,I.2.2.2⟩
 have e2:=Sub.fzAll (kf:=kf) (el:=el) (hl:=[(703,.rarr 88 14 (aT 0 al)),(701,.arr 58 15 (aR bs) 2),(702,.arr 37 10 (aQ ks) 2)]++ex) N (by rw[all_append,hn];rfl);have e3:=Sub.fraT (kf:=kf) (el:=el) (id:=703) (te:=88) (es:=14) (rows:=aT 0 al) (rest:=[(701,.arr 58 15 (aR bs) 2),(702,.arr 37 10 (aQ ks) 2)]++ex) N.frz W sU rfl Z;rw[dS] at e3;exact Sub.trans e3 (Sub.trans e2 e1)
theorem aJi {c:Core}(h:OwG c):OwP c:=by
 obtain⟨f,n,s,t,ks,bs,al⟩:=c;refine aW.sub h ?_;have I:TF (fam 0 al):=fD;show Sub [] _ (mk [(0,.ma (dU f n s t ks.length bs.length al.length))] (oHl ks bs al++fam 0 al));rw[←aJs I];have h1:=oA (kf:=[]) (el:=[(0,.ma (dU f n s t ks.length bs.length al.length))]) (ex:=[]) (ks:=ks) (bs:=bs) (al:=al) (by simp) (Kn.of rfl) trivial (fun _ h=>by cases h) rfl rfl (by simp) (fun _ h=>by cases h);rw[A8] at h1;refine Sub.trans ?_ h1;have N:fzE 703 (.ra al.length 14 (aT 0 al).flatten) [(0,.ma (dU f n s t ks.length bs.length al.length))]=[(0,.ma (j1 f n s t ks.length bs.length al))]:=by
  unfold dU j1;simp only[fzE,V.fz,R.fzL,R.fz,B4,Cn,Bool.and_self]
 rw[N];have J:TF (wX (fam 0 al)):=I.frz;obtain⟨ids,hp⟩:=r9 (h:=(mkt [(0,V.ma (j1 f n s t ks.length bs.length al))] (fzH 703 (.ra al.length 14 (aT 0 al).flatten) ([(701,.arr 58 15 (aR bs) 2),(702,.arr 37 10 (aQ ks) 2)]++[])) (wX (fam 0 al))).h) (f:=f) (n:=n) (s:=s) (t:=t) (ks:=ks) (bs:=bs) (al:=al) rfl rfl (FarEq.mkt J rfl);refine Sub.trans ?_ (Sub.conv (t:=0) (v:=.ma (j1 f n s t ks.length bs.length al)) (v':=.pa (aB (.mk f n s t ks bs al))) rfl (.agg hp));exact sl
theorem pB:∀(n:Nat) (c:Core),aU c≤n→n≤570000000000→allT TyG c→OwP c
 | 0,c,h,_,_=>by have:=bR c;omega
 | n+1,c,h,hn,J=>aJi (uG c (fun x hx I=>pB n x (by omega) (by omega) I) J (by omega))
theorem aRp (c:Core) (h:aU c≤570000000000) (J:allT TyG c):OwG c:=uG c (fun x hx I=>pB (aU x) x (le_refl _) (by omega) I) J h
def nm0 (c:Core):List (List C):=if c.form=5 then [[.pt ((aB c).drop 2)]] else []
def aB8 (b:Bind):List C:=[.pt ((bC b).drop 0)]
def aGs (b:Bind):List C:=[.pt ((bC b).drop 5)]
def gT (k:Core):List C:=[.pt (aB k)]
def uW (v:Str):List C:=[.pt (bO v)]
def aCe (a:Alt):List C:=[.sl 1 (a.vars.map uW),.sl 1 [[.pt ((cR a).drop 4)]]]
def aW2 (c:Core):List C:=[.sl 1 (nm0 c++c.binds.map aB8),.sl 1 (c.kids.map gT++c.binds.map aGs)]
def jC (c:Core):List (List C):=aW2 c::c.alts.map aCe
theorem qS {α:Type}(f:α→List C) (w:List (List C)) {l:List α}{i:Nat}{x:α}(h:l[i]?=some x):w++(l.take i).map f++[f x]=w++(l.take (i+1)).map f:=by
 rw[eC h,As,Aw];rfl
theorem zO (c:Core) (Y:c.kids.length+c.binds.length+1≤570000000000) (Z:c.alts.length+1≤570000000000) (ab:∀a∈c.alts,a.vars.length≤570000000000):aW Tryz.prog 79 [.one (.c (.pt (aB c)))] [] (.one (.c (.sl 2 (jC c)))) []:=by
 obtain⟨f,n,s,t,ks,bs,al⟩:=c;have Y:ks.length+bs.length+1≤570000000000:=Y;have Z:al.length+1≤570000000000:=Z;have ab:∀a∈al,a.vars.length≤570000000000:=ab;have ah:(aR bs).length=bs.length:=by rw[bP,ξ]
 have ai:(aQ ks).length=ks.length:=by rw[aZ,ξ]
 have aj:(c8 al).length=al.length:=by rw[c6,ξ]
 have hW:(nm0 (.mk f n s t ks bs al)).length≤1:=by unfold nm0;split<;>simp
 have N:nm0 (.mk f n s t ks bs al)=if f=5 then [[.pt ((aB (.mk f n s t ks bs al)).drop 2)]] else []:=rfl
 have aq:jC (.mk f n s t ks bs al)=[.sl 1 (nm0 (.mk f n s t ks bs al)++bs.map aB8),.sl 1 (ks.map gT++bs.map aGs)]::al.map aCe:=rfl;rw[aq];generalize nm0 (.mk f n s t ks bs al)=W at hW N ⊢;refine bT (n:=123) tok Tryz.func79 rfl rfl rfl ?_;refine sg rfl (sg rfl (AWp.sub (Sub.ownCell (x:=3) (k:=1) (id:=712) 118 1 rfl rfl rfl) (AWp.sub (Sub.ownCell (x:=3) (k:=0) (id:=711) 158 1 rfl rfl rfl) ?_)));refine a8 (sg rfl (aC (aL (fun i:Nat=>mk [(0,.one (.c (.pt (aB (.mk f n s t ks bs al))))),(3,.one (.vp 3 0)),(16,I .i64 ((aQ ks).length:Int)),(17,I .i64 i)] [(3,.var 126 [.hs 711 0 0 0,.hs 712 0 i i]),(711,.arr 158 1 [] 0),(712,.arr 118 1 ((ks.take i).map gT) 0)]) (fun i=>i≤ks.length) (fun i=>ks.length-i) 0 (Ak _) sl ?_)));intro i hi;refine sg rfl (a8 (aA rfl (fun hb=>?_) (fun hb=>?_)))
 ·have J:=ltD hb ai;obtain⟨k,ak⟩:=aK J;have hki':=iP ak;have aa:=qT gT ak;exact aD (a8 (aC (sg rfl (ag [(7,.row i (aB k))] rfl (ag [] rfl ⟨i+1,J,by dsimp only;omega,sl⟩)))))
 have O:=geD hb ai hi;subst O;rw[Au];refine aM (a8 (AWp.cut (mk [(0,.one (.c (.pt (aB (.mk f n s t ks bs al))))),(3,.one (.vp 3 0))] [(3,.var 126 [.hs 711 0 W.length W.length,.hs 712 0 ks.length ks.length]),(711,.arr 158 1 W 0),(712,.arr 118 1 (ks.map gT) 0)]) ?_ ?_))
 ·refine sg rfl (aA rfl (fun hb=>?_) (fun hb=>?_))
  ·have h5:f=5:=φ hb;rw[θ h5] at N;subst N;exact ag [] rfl sl
  ·have h5:¬f=5:=δ hb;rw[ψ h5] at N;subst N;exact aD sl
 clear N;refine a8 (sg rfl (aC (aL (fun i:Nat=>mk [(0,.one (.c (.pt (aB (.mk f n s t ks bs al))))),(3,.one (.vp 3 0)),(49,I .i64 ((aR bs).length:Int)),(50,I .i64 i)] [(3,.var 126 [.hs 711 0 (W.length+i) (W.length+i),.hs 712 0 (ks.length+i) (ks.length+i)]),(711,.arr 158 1 (W++(bs.take i).map aB8) 0),(712,.arr 118 1 (ks.map gT++(bs.take i).map aGs) 0)]) (fun i=>i≤bs.length) (fun i=>bs.length-i) 0 (Ak _) sl ?_)));intro i hi;refine sg rfl (a8 (aA rfl (fun hb=>?_) (fun hb=>?_)))
 ·have J:=ltD hb ah;obtain⟨b,ac⟩:=aK J;have hbi':=dJ ac;have hr1:=qS aB8 W ac;have hr2:=qS aGs (ks.map gT) ac;exact aD (a8 (aC (sg rfl (sgh [(5,.row i (bC b))] rfl (ag [] rfl (ag [] rfl ⟨i+1,J,by dsimp only;omega,sl⟩))))))
 have O:=geD hb ah hi;subst O;rw[Au];have Y:(W++bs.map aB8).length=W.length+bs.length:=by simp
 have Z:(ks.map gT++bs.map aGs).length=ks.length+bs.length:=by simp
 rw[←Y,←Z];generalize W++bs.map aB8=N0;generalize ks.map gT++bs.map aGs=P0;refine aM (AWp.sub (Sub.freeze (id:=711) rfl) (AWp.sub (Sub.freeze (id:=712) rfl) (AWp.sub (vp 3 [.sl 1 N0,.sl 1 P0]) ?_)));refine sgh [(1,.id 500)] rfl (a8 (sg rfl (aC (aL (fun i:Nat=>mk [(0,.one (.c (.pt (aB (.mk f n s t ks bs al))))),(7,.one (.hs 500 0 (1+i) (1+i))),(82,I .i64 ((c8 al).length:Int)),(83,I .i64 i)] [(500,.arr 126 2 ([[.sl 1 N0,.sl 1 P0]]++(al.take i).map aCe) 0)]) (fun i=>i≤al.length) (fun i=>al.length-i) 0 (Ak _) sl ?_))));intro i hi;refine sg rfl (a8 (aA rfl (fun hb=>?_) (fun hb=>?_)))
 ·have J:=ltD hb aj;obtain⟨a,ad⟩:=aK J;have hai':=uB ad;have hvl:=ab a (η ad);have aa:=qS aCe [[.sl 1 N0,.sl 1 P0]] ad;have am:(a.vars.map bO).length=a.vars.length:=ξ _;have ar:(([[.sl 1 N0,.sl 1 P0]]:List (List C))++(al.take i).map aCe).length=1+i:=by
   rw[Aa,ξ,At];show 1+min i al.length=_;omega
  have hall:al.length≤570000000000:=by omega
  generalize ([[.sl 1 N0,.sl 1 P0]]:List (List C))++(al.take i).map aCe=G at ar aa ⊢;refine aD (a8 (aC (sg rfl (sgh [(5,.row i (cR a))] rfl (sgh [(3,.all)] rfl (AWp.sub (Sub.ownCell (x:=10) (k:=0) (id:=721) 158 1 rfl rfl rfl) ?_))))));refine a8 (sg rfl (aC (aL (fun j:Nat=>mk [(0,.one (.c (.pt (aB (.mk f n s t ks bs al))))),(7,.one (.hs 500 0 (1+i) (1+i))),(9,.one (.c (.pt (cR a)))),(10,.one (.vp 10 0)),(82,I .i64 ((c8 al).length:Int)),(83,I .i64 i),(101,I .i64 ((a.vars.map bO).length:Int)),(102,I .i64 j)] [(500,.arr 126 2 G 0),(10,.var 126 [.hs 721 0 j j,.c (.sl 1 [[.pt ((cR a).drop 4)]])]),(721,.arr 158 1 ((a.vars.take j).map uW) 0)]) (fun j=>j≤a.vars.length) (fun j=>a.vars.length-j) 0 (Ak _) sl ?_)));intro j hj;refine sg rfl (a8 (aA rfl (fun hb=>?_) (fun hb=>?_)))
  ·have ae:=ltD hb am;obtain⟨v,hv⟩:=aK ae;have hv':=bJ bO hv;have hr3:=qT uW hv;exact aD (a8 (aC (sg rfl (ag [(7,.row j (bO v))] rfl (ag [] rfl ⟨j+1,ae,by dsimp only;omega,sl⟩)))))
  have ap:=geD hb am hj;subst ap;rw[Au];have hlv:a.vars.length=(a.vars.map uW).length:=(ξ _).symm;refine aM (AWp.sub (Sub.freeze (id:=721) rfl) (AWp.sub (vp 10 (aCe a)) ?_));exact ag [(2,.all)] rfl (ag [] rfl ⟨i+1,J,by dsimp only;omega,sl⟩)
 have O:=geD hb aj hi;subst O;rw[Au];refine aM (sg rfl (AWp.sub (Sub.freeze (id:=500) rfl) ?_));exact aI (rtT (hc:=hs_all rfl rfl (by simp;omega) rfl))
theorem lZ {c:Core}(h:aU c≤570000000000):c.kids.length+c.binds.length+1≤570000000000∧c.alts.length+1≤570000000000∧∀a∈c.alts,a.vars.length≤570000000000:=by
 obtain⟨f,n,s,t,ks,bs,al⟩:=c;have h1:=jE ks;have h2:=jG bs;have h3:=jH al;rw[aU] at h;refine⟨by show ks.length+bs.length+1≤_;omega,by show al.length+1≤_;omega,fun a ha=>?_⟩;have I:=eV (show a∈al from ha);have J:=mQ a;omega
theorem aLs (c:Core) (I:aU c≤570000000000):aW Tryz.prog 79 [.one (.c (.pt (aB c)))] [] (.one (.c (.sl 2 (jC c)))) []:=
 zO c (lZ I).1 (lZ I).2.1 (lZ I).2.2
def gl (c:Core):List (List (List C)×List Core):=(nm0 c++c.binds.map aB8,c.kids++c.binds.map Bind.body)::c.alts.map fun a=>(a.vars.map uW,[a.body])
def kA (g:List (List C)×List Core):List C:=[.sl 1 g.1,.sl 1 (g.2.map gT)]
theorem oZ (c:Core):jC c=(gl c).map kA:=by
 obtain⟨f,n,s,t,ks,bs,al⟩:=c;unfold jC gl;rw[Al,A1];congr 1;unfold aW2 kA;rw[As,A1];rfl
mutual
def eX:Core→Nat
 | .mk _ _ _ _ ks bs al=>1+(dC ks+(jU bs+jV al))
def dC:List Core→Nat
 | []=>0
 | c::l=>eX c+dC l
def jU:List Bind→Nat
 | []=>0
 | .mk _ _ c::l=>eX c+jU l
def jV:List Alt→Nat
 | []=>0
 | .mk _ _ _ _ c::l=>eX c+jV l
end
theorem oD:∀a b,dC (a++b)=dC a+dC b
 | [],b=>by rw[Be,dC,Bd]
 | x::a,b=>by rw[A9,dC,dC,oD a b,Cc]
theorem tB:∀l:List Bind,dC (l.map Bind.body)=jU l
 | []=>by rw[By,dC,jU]
 | .mk s t c::l=>by rw[Al,dC,jU,tB l];rfl
def nK:List (List (List C)×List Core)→Nat
 | []=>0
 | g::l=>dC g.2+nK l
theorem z6:∀l:List Alt,nK (l.map fun a=>(a.vars.map uW,[a.body]))=jV l
 | []=>by rw[By,nK,jV]
 | .mk f n s v c::l=>by rw[Al,nK,jV,z6 l,dC,dC];rfl
theorem aSi (c:Core):eX c=1+nK (gl c):=by
 obtain⟨f,n,s,t,ks,bs,al⟩:=c;unfold gl;rw[nK,eX];show _=1+(dC (ks++bs.map Bind.body)+nK (al.map fun a=>(a.vars.map uW,[a.body])));rw[oD,tB,z6];omega
mutual
theorem size_le:∀c:Core,eX c≤aU c
 | .mk f n s t ks bs al=>by rw[eX,aU];have:=aDj ks;have:=aDk bs;have:=aDl al;omega
theorem aDj:∀l:List Core,dC l≤bW l
 | []=>by rw[dC];exact Ak _
 | c::l=>by rw[dC,bW];have:=size_le c;have:=aDj l;omega
theorem aDk:∀l:List Bind,jU l≤fW l
 | []=>by rw[jU];exact Ak _
 | .mk s t c::l=>by rw[jU,fW,bsize];have:=size_le c;have:=aDk l;omega
theorem aDl:∀l:List Alt,jV l≤fX l
 | []=>by rw[jV];exact Ak _
 | .mk f n s v c::l=>by rw[jV,fX,pM];have:=size_le c;have:=aDl l;omega
end
theorem aW4 {c:Core}{g:List (List C)×List Core}(h:g∈gl c) {x:Core}(hx:x∈g.2):aU x<aU c:=by
 obtain⟨f,n,s,t,ks,bs,al⟩:=c;obtain⟨I,J,N,O,W,Y⟩:= @dW f n s t ks bs al;unfold gl at h;rcases Ao.1 h with rfl | h
 ·rcases ω.1 hx with hx | hx
  ·exact I x hx
  ·obtain⟨b,hb,rfl⟩:=Ad.1 hx;exact J b hb
 ·obtain⟨a,ha,rfl⟩:=Ad.1 h;rw[Ac.1 hx];exact N a ha
theorem aW3 (c:Core):(gl c).length≤aU c∧∀g∈gl c,g.2.length≤aU c∧g.1.length≤aU c:=by
 obtain⟨f,n,s,t,ks,bs,al⟩:=c;have h1:=jE ks;have h2:=jG bs;have h3:=jH al;have I:(nm0 (.mk f n s t ks bs al)).length≤1:=by unfold nm0;split<;>simp
 rw[aU];unfold gl;refine⟨?_,fun g hg=>?_⟩
 ·rw[Aj,ξ];show al.length+1≤_;omega
 ·rcases Ao.1 hg with rfl | hg
  ·rw[Aa,Aa,ξ,ξ];show ks.length+bs.length≤_∧_+bs.length≤_;omega
  ·obtain⟨a,ha,rfl⟩:=Ad.1 hg;have h4:=eV (show a∈al from ha);have h5:=mQ a;have h6:1≤pM a:=by obtain⟨f,n,s,v,c⟩:=a;rw[pM];omega
   show [a.body].length≤_∧(a.vars.map uW).length≤_;rw[ξ,List.length_singleton];omega
theorem aKi {l:List (List (List C)×List Core)}{i:Nat}{g:List (List C)×List Core}(h:l[i]?=some g):nK (l.take (i+1))=nK (l.take i)+dC g.2:=by
 have app:∀a b,nK (a++b)=nK a+nK b:=by
  intro a b
  induction a with
  | nil=>rw[Be,nK,Bd]
  | cons x a I=>rw[A9,nK,nK,I,Cc]
 rw[eC h,app,nK,nK,Bu]
theorem aA7 {l:List Core}{i:Nat}{x:Core}(h:l[i]?=some x):dC (l.take (i+1))=dC (l.take i)+eX x:=by
 rw[eC h,oD,dC,dC,Bu]
theorem aTh (l:List (List (List C)×List Core)) (i:Nat):nK (l.take i)≤nK l:=by
 induction l generalizing i with
 | nil=>simp
 | cons g l I=>
  cases i with
  | zero=>simp[nK]
  | succ i=>rw[Az,nK,nK];have:=I i;omega
theorem aIb (l:List Core) (i:Nat):dC (l.take i)≤dC l:=by
 induction l generalizing i with
 | nil=>simp
 | cons g l I=>
  cases i with
  | zero=>simp[dC]
  | succ i=>rw[Az,dC,dC];have:=I i;omega
inductive LC:Core→Prop
 | mk {f n:Int} {s:Str} {t:Ty} {ks:List Core} {bs:List Bind} {al:List Alt} (h1:ks.length+bs.length+1≤570000000000) (h2:al.length+1≤570000000000) (h3:∀a∈al,a.vars.length≤570000000000)
   (hk:∀x∈ks,LC x) (hb:∀x∈bs,LC x.body) (ha:∀x∈al,LC x.body):LC (.mk f n s t ks bs al)
theorem LC.of:∀(k:Nat) (c:Core),aU c≤k→aU c≤570000000000→LC c
 | 0,c,h,_=>by have:=bR c;omega
 | k+1,.mk f n s t ks bs al,h,hs=>by
  obtain⟨h1,h2,h3⟩:=lZ hs;obtain⟨I,J,N,_⟩:= @dW f n s t ks bs al;exact .mk h1 h2 h3 (fun x hx=>LC.of k x (by have:=I x hx;omega) (by have:=I x hx;omega)) (fun x hx=>LC.of k x.body (by have:=J x hx;omega) (by have:=J x hx;omega)) fun x hx=>LC.of k x.body (by have:=N x hx;omega) (by have:=N x hx;omega)
theorem aZj {c:Core}(h:LC c):(gl c).length≤570000000000∧∀g∈gl c,(g.2.length≤570000000000∧g.1.length≤570000000000)∧∀x∈g.2,LC x:=by
 cases h with
 | @mk f n s t ks bs al h1 h2 h3 hk hb ha=>
  have I:(nm0 (.mk f n s t ks bs al)).length≤1:=by unfold nm0;split<;>simp
  unfold gl;refine⟨?_,fun g hg=>?_⟩
  ·rw[Aj,ξ];show al.length+1≤_;exact h2
  ·rcases Ao.1 hg with rfl | hg
   ·refine⟨?_,fun x hx=>?_⟩
    ·rw[Aa,Aa,ξ,ξ];show ks.length+bs.length≤_∧_+bs.length≤_;omega
    ·rcases ω.1 hx with hx | hx
     ·exact hk x hx
     ·obtain⟨b,kb,rfl⟩:=Ad.1 hx;exact hb b kb
   ·obtain⟨a,ka,rfl⟩:=Ad.1 hg;refine⟨⟨by show 1≤570000000000;omega,?_⟩,fun x hx=>by rw[Ac.1 hx];exact ha a ka⟩;show(a.vars.map uW).length≤_;rw[ξ];exact h3 a ka
def aMu (c:Core):Prop:=LC c→eX c≤9000000000000000000→aW Tryz.prog 92 [.pa (aB c)] [] (I .i64 (eX c:Nat)) []
theorem aB3 (c:Core) (ih:∀x,aU x<aU c→aMu x):aMu c:=by
 intro W Y;have J:aW Tryz.prog 79 [.one (.c (.pt (aB c)))] [] (.one (.c (.sl 2 (jC c)))) []:=by
  cases W with
  | mk h1 h2 h3=>exact zO _ h1 h2 h3
 have Z:=aSi c;have hin:=fun {g} (h:g∈gl c) {x} hx=> @aW4 c g h x hx
 obtain⟨am,aa⟩:=aZj W;rw[oZ] at J;rw[Z] at Y ⊢;generalize gl c=L at J Z Y hin am aa ⊢;have ab:(L.map kA).length=L.length:=ξ _;refine bT (n:=30) tok Tryz.func92 rfl rfl rfl ?_;refine sg rfl (sg rfl (AWp.sub (Sub.fvar (id:=1) (l:=aB c) rfl (by simp[keys])) ?_));refine AWp.sub (st2:=mk [(1,.one (.c (.pt (aB c)))),(3,I .i64 1)] []) sl ?_;refine a8 (a8 (aE mixed (kc J ?_)));refine kz 2 rfl (aC (aL (fun i:Nat=>mk [(3,I .i64 ((1+nK (L.take i):Nat):Int)),(8,.one (.c (.sl 2 (L.map kA)))),(9,I .i64 ((L.map kA).length:Int)),(10,I .i64 i)] []) (fun i=>i≤L.length) (fun i=>L.length-i) 0 (Ak _) sl ?_));intro i hi;refine sg rfl (a8 (aA rfl (fun hb=>?_) (fun hb=>?_)))
 ·have ac:=ltD hb ab;obtain⟨g,hg⟩:=aK ac;have hg':=bJ kA hg;have ad:=η hg;obtain⟨⟨ap,aq⟩,ae⟩:=aa g ad;have ah:=aKi hg;have hgl1:=aTh L (i+1);have N:(g.2.map gT).length=g.2.length:=ξ _;obtain⟨G1,G⟩:=g;dsimp only at ap aq ae ah N;refine aD (a8 (aC (sgh [(0,.row i (kA (G1,G)))] rfl (sg rfl (aC (aL (fun j:Nat=>mk [(3,I .i64 ((1+nK (L.take i)+dC (G.take j):Nat):Int)),(8,.one (.c (.sl 2 (L.map kA)))),(9,I .i64 ((L.map kA).length:Int)),(10,I .i64 i),(15,.one (.c (.sl 1 (G.map gT)))),(16,I .i64 ((G.map gT).length:Int)),(17,I .i64 j)] []) (fun j=>j≤G.length) (fun j=>G.length-j) 0 (Ak _) sl ?_))))));intro j hj;refine sg rfl (a8 (aA rfl (fun hb=>?_) (fun hb=>?_)))
  ·have O:=ltD hb N;obtain⟨p,hp⟩:=aK O;have hp':=bJ gT hp;have ar:=hin ad (η hp);have au:=aA7 hp;have hsl2:=aIb G (j+1);have hc:=ih p ar (ae p (η hp)) (by omega);have ai:((1+nK (L.take i)+dC (G.take j):Nat):Int)+((eX p:Nat):Int)=((1+nK (L.take i)+dC (G.take (j+1)):Nat):Int):=by rw[au];omega
   refine aD (a8 (aC (sgh [(0,.row j (gT p))] rfl (ag [(4,.pc (I .i64 (eX p:Nat)))] rfl (ag [] rfl ⟨j+1,O,by dsimp only;omega,?_⟩)))));dsimp only;rw[←ai];exact sl
  have aj:=geD hb N hj;subst aj;rw[Au];refine aM (ag [] rfl ⟨i+1,ac,by dsimp only;omega,?_⟩);dsimp only;rw[show 1+nK (L.take (i+1))=1+nK (L.take i)+dC G by rw[ah];omega];exact sl
 have av:=geD hb ab hi;subst av;rw[Au];exact aM (sg rfl (aI rtT))
theorem aLk:∀(n:Nat) (c:Core),aU c≤n→aMu c
 | 0,c,h=>by have:=bR c;omega
 | n+1,c,h=>aB3 c fun x hx=>aLk n x (by omega)
def rK (o:List Str) (s:Str):List Str:=if s∈o then o else o++[s]
def mW (o l:List Str):List Str:=l.foldl rK o
theorem aJr (o:List Str) {l:List Str}{i:Nat}{s:Str}(h:l[i]?=some s):mW o (l.take (i+1))=rK (mW o (l.take i)) s:=by
 unfold mW;rw[eC h,B6];rfl
theorem aD8 (o:List Str) (s:Str):(rK o s).length≤o.length+1:=by unfold rK;split<;>simp
theorem pZ (o:List Str):∀l:List Str,(mW o l).length≤o.length+l.length:=by
 intro l
 induction l generalizing o with
 | nil=>exact le_refl _
 | cons s l I=>
  have h1:=I (rK o s);have h2:=aD8 o s;show(mW (rK o s) l).length≤_;rw[Aj];omega
def ouO (o:List Str):AObj:=.arr 9 1 (o.map bO) 1
def ouV (o:List Str):V:=.one (.hs 500 0 o.length o.length)
theorem uH (o l:List Str) (h:o.length+l.length≤600000000000):aW Tryz.prog 112 [ouV o,bN l] [(500,ouO o)] (ouV (mW o l)) [(500,ouO (mW o l))]:=by
 have O:(l.map bO).length=l.length:=ξ _;refine bT (n:=23) tok Tryz.func112 rfl rfl rfl ?_;refine sg rfl (a8 (sg rfl (aC (aL (fun i:Nat=>mk [(0,ouV (mW o (l.take i))),(7,bN l),(8,I .i64 ((l.map bO).length:Int)),(9,I .i64 i)] [(500,ouO (mW o (l.take i)))]) (fun i=>i≤l.length) (fun i=>l.length-i) 0 (Ak _) sl ?_))));intro i hi;refine sg rfl (a8 (aA rfl (fun hb=>?_) (fun hb=>?_)))
 ·have N:=ltD hb O;obtain⟨s,hs⟩:=aK N;have Z:=bJ bO hs;have J:=aJr o hs;have W:=pZ o (l.take i);rw[At] at W;generalize mW o (l.take i)=x at J W ⊢;have aa:=bU x s (by omega);refine aD (a8 (aC (sgh [(0,.row i (bO s))] rfl (AWp.sub (Sub.freeze (id:=500) rfl) ?_))));refine sgh [(2,.pc (B (decide (s∈x))))] rfl (aA rfl (fun hb=>?_) (fun hb=>?_))
  ·have hin:¬s∈x:=by simpa using hb
   rw[rK,ψ hin] at J;refine ag [] rfl (ag [] rfl ⟨i+1,N,by dsimp only;omega,?_⟩);dsimp only;rw[J];exact sl (he:=⟨Go.AM.hs_ren (by simp) (by simp),rfl,rfl,rfl,trivial⟩) (hh:=⟨⟨_,rfl,by first | exact Go.AM.Ole.arrE (by simp;rfl) | exact Go.AM.Ole.arrS (by simp;rfl)⟩,trivial⟩)
  ·have hin:s∈x:=by simpa using hb
   rw[rK,θ hin] at J;refine aD (ag [] rfl ⟨i+1,N,by dsimp only;omega,?_⟩);dsimp only;rw[J];exact sl
 have Y:=geD hb O hi;subst Y;rw[Au];exact aM (sg rfl (aI rtT))
def aG9 (p:Str×List C):List C:=[.pt (.str p.1::p.2)]
def suO (s:Str):AObj:=.var 9 [.c (.str s)]
theorem aT6 (p:Str×List C) (s:Str):aW Tryz.prog 143 [.one (.c (.pt (.str p.1::p.2))),.one (.vp 9 0)] [(9,suO s)] (B (decide (p.1=s))) [(9,suO s)]:=by
 refine bT (n:=9) tok Tryz.func143 rfl rfl rfl ?_;exact sg rfl (sg rfl (aI rtT))
theorem aXy (l:List (Str×List C)) (s:Str) (hl:l.length≤600000000000):aW Tryz.prog 147 [.one (.c (.sl 1 (l.map aG9))),.one (.clo 143 [.vp 9 0])] [(9,suO s)] (I .i64 (aQ4 (fun p=>decide (p.1=s)) l 0)) [(9,suO s)]:=by
 have N:(l.map aG9).length=l.length:=ξ _;generalize Y:(fun p:Str×List C=>decide (p.1=s))=P;refine bT (n:=19) tok Tryz.func147 rfl rfl rfl ?_;refine sg rfl (a8 (sg rfl (aC (aL (fun i:Nat=>mk [(0,.one (.c (.sl 1 (l.map aG9)))),(1,.one (.clo 143 [.vp 9 0])),(7,I .i64 ((l.map aG9).length:Int)),(8,I .i64 i)] [(9,suO s)]) (fun i=>i≤l.length∧aQ4 P l 0=aQ4 P (l.drop i) i) (fun i=>l.length-i) 0 ⟨Ak _,rfl⟩ sl ?_))));intro i ⟨hi,hid⟩;refine sg rfl (a8 (aA rfl (fun hb=>?_) (fun hb=>?_)))
 ·have J:=ltD hb N;obtain⟨p,hp⟩:=aK J;have Z:=bJ aG9 hp;have hc:aW Tryz.prog 143 ([.one (.c (.pt (.str p.1::p.2)))]++([.vp 9 0]:List R).map V.one) [(9,suO s)] (B (P p)) [(9,suO s)]:=by rw[←Y];exact aT6 p s
  have O:l.drop i=p::l.drop (i+1):=by rw[Ca J,(ε.1 hp).2]
  rw[O,aQ4] at hid;refine aD (a8 (aC (sg rfl (skh 5 [(3,.row i (aG9 p))] rfl (kv (args:=[.one (.c (.pt (.str p.1::p.2)))]) hc ?_)))));refine az (aA rfl (fun hb=>?_) (fun hb=>?_))
  ·have hb:P p=true:=hb;rw[θ hb] at hid;rw[hid];exact sg rfl (aI rtT)
  ·have hb:P p=false:=hb;rw[ψ (by rw[hb];exact Ar)] at hid;exact aD (ag [] rfl ⟨i+1,⟨J,hid⟩,by dsimp only;omega,sl⟩)
 have W:=geD hb N hi;subst W;rw[drop_length,aQ4] at hid;rw[hid];exact aM (sg rfl (aI (rtT (v:=I .i64 (-1)) (hc:=.refl))))
theorem aXz (l:List (Str×List C)) (s:Str) (hl:l.length≤600000000000):aW Tryz.prog 142 [.one (.c (.sl 1 (l.map aG9))),.one (.clo 143 [.vp 9 0])] [(9,suO s)] (B (decide (s∈l.map (·.1)))) [(9,suO s)]:=by
 have h:=aXy l s hl;have I:decide (s∈l.map (·.1))=l.any fun p=>decide (p.1=s):=by
  rw[Bool.eq_iff_iff];simp only[decide_eq_true_eq,List.any_eq_true,Ad]
 rw[I,←aKg _ l 0];refine bT (n:=9) tok Tryz.func142 rfl rfl rfl ?_;refine sg rfl (sk 2 rfl (kc h ?_));exact kz 2 rfl (aI rtT)
set_option maxHeartbeats 4000000
def n7 (f:Int) (s:Str) (o:List Str) (x:Str):List Str:=if ¬f=7∨¬x=s then mW o [x] else o
def aAp (f:Int) (s:Str) (o l:List Str):List Str:=l.foldl (n7 f s) o
mutual
def tyR:Core→List Str
 | .mk f _ s t ks bs al=>mH al (lQ bs (mR f s ks (mW [] (tfR t))))
def mR (f:Int) (s:Str):List Core→List Str→List Str
 | [],o=>o
 | c::l,o=>mR f s l (aAp f s o (tyR c))
def lQ:List Bind→List Str→List Str
 | [],o=>o
 | .mk _ t c::l,o=>lQ l (mW (mW o (tfR t)) (tyR c))
def mH:List Alt→List Str→List Str
 | [],o=>o
 | .mk _ _ _ _ c::l,o=>mH l (mW o (tyR c))
def cT:Core→Nat
 | .mk _ _ _ t ks bs al=>fw t+a0d ks+a0e bs+a0f al
def a0d:List Core→Nat
 | []=>0
 | c::l=>cT c+a0d l
def a0e:List Bind→Nat
 | []=>0
 | .mk _ t c::l=>fw t+cT c+a0e l
def a0f:List Alt→Nat
 | []=>0
 | .mk _ _ _ _ c::l=>cT c+a0f l
end
theorem aHg (f:Int) (s:Str) (o:List Str) (x:Str):(n7 f s o x).length≤o.length+1:=by
 unfold n7;split
 ·exact pZ o [x]
 ·omega
theorem aC4 (f:Int) (s:Str):∀(l o:List Str),(aAp f s o l).length≤o.length+l.length
 | [],o=>le_refl _
 | x::l,o=>by
  have h1:=aC4 f s l (n7 f s o x);have h2:=aHg f s o x;show(aAp f s (n7 f s o x) l).length≤_;rw[Aj];omega
theorem aCu {f:Int}{s:Str}:∀{l:List Core}{o:List Str}{i:Nat}{c:Core},l[i]?=some c→mR f s (l.take (i+1)) o=aAp f s (mR f s (l.take i) o) (tyR c)
 | d::l,o,0,c,h=>by simp at h;subst h;rw[Az,Cm,Cm,mR,mR,mR]
 | d::l,o,i+1,c,h=>by rw[Az,Az,mR,mR];exact aCu (l:=l) (by simpa using h)
theorem aCw:∀{l:List Bind}{o:List Str}{i:Nat}{b:Bind},l[i]?=some b→lQ (l.take (i+1)) o=mW (mW (lQ (l.take i) o) (tfR b.ty)) (tyR b.body)
 | .mk s t c::l,o,0,b,h=>by simp at h;subst h;rw[Az,Cm,Cm,lQ,lQ,lQ];rfl
 | .mk s t c::l,o,i+1,b,h=>by rw[Az,Az,lQ,lQ];exact aCw (l:=l) (by simpa using h)
theorem aCy:∀{l:List Alt}{o:List Str}{i:Nat}{a:Alt},l[i]?=some a→mH (l.take (i+1)) o=mW (mH (l.take i) o) (tyR a.body)
 | .mk f n s v c::l,o,0,a,h=>by simp at h;subst h;rw[Az,Cm,Cm,mH,mH,mH];rfl
 | .mk f n s v c::l,o,i+1,a,h=>by rw[Az,Az,mH,mH];exact aCy (l:=l) (by simpa using h)
theorem aHn {f:Int}{s:Str}{o l:List Str}{j:Nat}{x:Str}(h:l[j]?=some x):aAp f s o (l.take (j+1))=n7 f s (aAp f s o (l.take j)) x:=by
 unfold aAp;rw[Bh,h,B6];rfl
theorem aS4 (o:List Str) (s:Str):o.length≤(rK o s).length:=by
 unfold rK;split
 ·exact le_refl _
 ·simp
theorem rJ:∀(l o:List Str),o.length≤(mW o l).length
 | [],o=>le_refl _
 | x::l,o=>le_trans (aS4 o x) (rJ l (rK o x))
theorem aHp (f:Int) (s:Str):∀(l o:List Str),o.length≤(aAp f s o l).length
 | [],o=>le_refl _
 | x::l,o=>by
  refine le_trans ?_ (aHp f s l (n7 f s o x));unfold n7;split
  ·exact rJ [x] o
  ·exact le_refl _
theorem aP6 (f:Int) (s:Str):∀(l:List Core) (o:List Str),o.length≤(mR f s l o).length
 | [],o=>by rw[mR];exact le_refl _
 | c::l,o=>by rw[mR];exact le_trans (aHp f s _ o) (aP6 f s l _)
theorem aHe:∀(l:List Bind) (o:List Str),o.length≤(lQ l o).length
 | [],o=>by rw[lQ];exact le_refl _
 | .mk s t c::l,o=>by rw[lQ];exact le_trans (le_trans (rJ _ o) (rJ _ _)) (aHe l _)
theorem aCz:∀(l:List Alt) (o:List Str),o.length≤(mH l o).length
 | [],o=>by rw[mH];exact le_refl _
 | .mk f n s v c::l,o=>by rw[mH];exact le_trans (rJ _ o) (aCz l _)
theorem aCt (f:Int) (s:Str):∀(l:List Core) (o:List Str) (i:Nat),(mR f s (l.take i) o).length≤(mR f s l o).length
 | [],o,i=>by rw[List.take_nil];exact le_refl _
 | c::l,o,0=>by rw[Cm,mR];exact aP6 f s _ o
 | c::l,o,i+1=>by rw[Az,mR,mR];exact aCt f s l _ i
theorem aCv:∀(l:List Bind) (o:List Str) (i:Nat),(lQ (l.take i) o).length≤(lQ l o).length
 | [],o,i=>by rw[List.take_nil];exact le_refl _
 | .mk s t c::l,o,0=>by rw[Cm];rw[show lQ [] o=o from by rw[lQ]];exact aHe _ o
 | .mk s t c::l,o,i+1=>by rw[Az,lQ,lQ];exact aCv l _ i
theorem aCx:∀(l:List Alt) (o:List Str) (i:Nat),(mH (l.take i) o).length≤(mH l o).length
 | [],o,i=>by rw[List.take_nil];exact le_refl _
 | .mk f n s v c::l,o,0=>by rw[Cm];rw[show mH [] o=o from by rw[mH]];exact aCz _ o
 | .mk f n s v c::l,o,i+1=>by rw[Az,mH,mH];exact aCx l _ i
mutual
def tyM:Core→Nat
 | .mk f n s t ks bs al=>max (fw t) (max (tyR (.mk f n s t ks bs al)).length (max (aP7 ks) (max (aHj bs) (aNg al))))
def aP7:List Core→Nat
 | []=>0
 | c::l=>max (tyM c) (aP7 l)
def aHj:List Bind→Nat
 | []=>0
 | .mk _ t c::l=>max (fw t) (max (tyM c) (aHj l))
def aNg:List Alt→Nat
 | []=>0
 | .mk _ _ _ _ c::l=>max (tyM c) (aNg l)
end
theorem aU9 {f n:Int}{s:Str}{t:Ty}{ks:List Core}{bs:List Bind}{al:List Alt}{K:Nat}(h:tyM (.mk f n s t ks bs al)≤K):fw t≤K∧(tyR (.mk f n s t ks bs al)).length≤K∧aP7 ks≤K∧aHj bs≤K∧aNg al≤K:=by
 rw[tyM] at h;omega
theorem aHl (c:Core):(tyR c).length≤tyM c:=by cases c;rw[tyM];omega
theorem aC0:∀{l:List Core}{c:Core},c∈l→tyM c≤aP7 l
 | d::l,c,h=>by
  rw[aP7];rcases Ao.1 h with rfl | h
  ·omega
  ·have:=aC0 h;omega
theorem aC1:∀{l:List Bind}{b:Bind},b∈l→fw b.ty≤aHj l∧tyM b.body≤aHj l
 | .mk s t c::l,b,h=>by
  rw[aHj];rcases Ao.1 h with rfl | h
  ·show fw t≤_∧tyM c≤_;omega
  ·have:=aC1 h;omega
theorem aC2:∀{l:List Alt}{a:Alt},a∈l→tyM a.body≤aNg l
 | .mk f n s v c::l,a,h=>by
  rw[aNg];rcases Ao.1 h with rfl | h
  ·show tyM c≤_;omega
  ·have:=aC2 h;omega
def aCg (c:Core):Prop:=aU c≤570000000000→tyM c≤400000000→aW Tryz.prog 74 [.pa (aB c)] [] (bN (tyR c)) []
theorem xF (c:Core) (ih:∀x,aU x<aU c→aCg x):aCg c:=by
 intro hsz hcT;obtain⟨f,n,s,t,ks,bs,al⟩:=c;obtain⟨ihk,ihb,iha,hkl,hbl,hal⟩:= @dW f n s t ks bs al;obtain⟨hMt,O,hMk,hMb,hMa⟩:=aU9 hcT;rw[tyR] at O ⊢;have hkB:(aR bs).length=bs.length:=by rw[bP,ξ]
 have hkK:(aQ ks).length=ks.length:=by rw[aZ,ξ]
 have hkA:(c8 al).length=al.length:=by rw[c6,ξ]
 have htf:=aFa t (by omega);have htl:=aXa t;have hmo:aW Tryz.prog 112 [.one (.c .nl),bN (tfR t)] [] (ouV (mW [] (tfR t))) [(500,ouO (mW [] (tfR t)))]:=aW.nilArg (pre:=[]) (post:=[bN (tfR t)]) (hin:=[]) (uH [] (tfR t) (by simp;omega)) rfl;have hol:=pZ [] (tfR t);simp only[length_nil] at hol;generalize mW [] (tfR t)=o0 at hmo hol O ⊢;refine bT (n:=76) tok Tryz.func74 rfl rfl rfl ?_;refine sg rfl (sk 2 rfl (kc htf ?_));refine kc hmo ?_;refine kz 1 rfl (a8 (sg rfl (aC (aL (fun i:Nat=>mk [(1,.one (.vp 1 0)),(3,ouV (mR f s (ks.take i) o0)),(17,.one (.c (.sl 10 (aQ ks)))),(18,I .i64 ((aQ ks).length:Int)),(19,I .i64 i)] [(500,ouO (mR f s (ks.take i) o0)),(1,.var 37 (b9 (.mk f n s t ks bs al)))]) (fun i=>i≤ks.length) (fun i=>ks.length-i) 0 (Ak _) sl ?_))));intro i hi;have hl1:(mR f s (ks.take i) o0).length≤400000000:=le_trans (aCt f s ks o0 i) (le_trans (aHe bs _) (le_trans (aCz al _) O));refine sg rfl (a8 (aA rfl (fun hb=>?_) (fun hb=>?_)))
 ·have N:=ltD hb hkK;obtain⟨k,hki⟩:=aK N;have hki':=iP hki;have hm:=η hki;have hkm:=aC0 hm;have hc:=ih k (ihk k hm) (by have:=ihk k hm;omega) (by omega);have hkt:(tyR k).length≤400000000:=by have:=aHl k;omega
  have J:=aCu (f:=f) (s:=s) (o:=o0) hki;generalize mR f s (ks.take i) o0=o at J hl1 ⊢;have hkf:((tyR k).map bO).length=(tyR k).length:=ξ _;generalize tyR k=Z at hc hkt J hkf;refine aD (a8 (aC (sgh [(0,.row i (aB k))] rfl (sk 1 rfl (kc hc ?_)))));refine kz 2 rfl (aC (aL (fun j:Nat=>mk [(1,.one (.vp 1 0)),(3,ouV (aAp f s o (Z.take j))),(17,.one (.c (.sl 10 (aQ ks)))),(18,I .i64 ((aQ ks).length:Int)),(19,I .i64 i),(24,bN Z),(25,I .i64 ((Z.map bO).length:Int)),(26,I .i64 j)] [(500,ouO (aAp f s o (Z.take j))),(1,.var 37 (b9 (.mk f n s t ks bs al)))]) (fun j=>j≤Z.length) (fun j=>Z.length-j) 0 (Ak _) sl ?_));intro j hj;refine sg rfl (a8 (aA rfl (fun hb=>?_) (fun hb=>?_)))
  ·have hlj:=ltD hb hkf;obtain⟨x,hx⟩:=aK hlj;have hx':=bJ bO hx;have aa:=aHn (f:=f) (s:=s) (o:=o) hx;have hpl:=aC4 f s (Z.take j) o;rw[At] at hpl;generalize aAp f s o (Z.take j)=q at aa hpl ⊢;have hmq:=uH q [x] (by simp;omega);refine aD (a8 (aC (sgh [(0,.row j (bO x))] rfl (a8 (agF 4 [] rfl rfl rfl (aA rfl (fun hb=>?_) (fun hb=>?_)))))))
   ·have hb':¬f=7∨¬x=s:=by
     by_cases h7:f=7
     ·refine .inr fun hxs=>?_
      subst h7 hxs;have hb2:(bif !decide ((7:Int)=7) then true else !decide (x=x))=true:=hb;simp at hb2
     ·exact .inl h7
    rw[n7,θ hb'] at aa;refine aE mixed (ak 3 [(2,.all)] rfl (kc hmq ?_));refine kz 1 rfl (ag [] rfl ⟨j+1,hlj,by dsimp only;omega,?_⟩);dsimp only;rw[aa];exact sl
   ·have hb':¬(¬f=7∨¬x=s):=by
     intro h;by_cases h7:f=7
     ·have hxs:=h.resolve_left (fun h=>h h7);subst h7;simp at hb;exact hxs hb.2
     ·simp at hb;exact h7 hb.1
    rw[n7,ψ hb'] at aa;refine aD (ag [] rfl ⟨j+1,hlj,by dsimp only;omega,?_⟩);dsimp only;rw[aa];exact sl
  have W:=geD hb hkf hj;subst W;rw[Au];refine aM (ag [] rfl ⟨i+1,N,by dsimp only;omega,?_⟩);dsimp only;rw[J];exact sl
 have W:=geD hb hkK hi;subst W;rw[Au] at hl1 ⊢;generalize mR f s ks o0=Y at hl1 O ⊢;refine aM (a8 (sg rfl (aC (aL (fun i:Nat=>mk [(1,.one (.vp 1 0)),(3,ouV (lQ (bs.take i) Y)),(46,.one (.c (.sl 15 (aR bs)))),(47,I .i64 ((aR bs).length:Int)),(48,I .i64 i)] [(500,ouO (lQ (bs.take i) Y)),(1,.var 37 (b9 (.mk f n s t ks bs al)))]) (fun i=>i≤bs.length) (fun i=>bs.length-i) 0 (Ak _) sl ?_))));intro i hi;have hl3:(lQ (bs.take i) Y).length≤400000000:=le_trans (aCv bs Y i) (le_trans (aCz al _) O);refine sg rfl (a8 (aA rfl (fun hb=>?_) (fun hb=>?_)))
 ·have N:=ltD hb hkB;obtain⟨b,hbi⟩:=aK N;have hbi':=dJ hbi;have hm:=η hbi;have hbm:=aC1 hm;have hc:=ih b.body (ihb b hm) (by have:=ihb b hm;omega) (by omega);have J:=aCw (o:=Y) hbi;obtain⟨s',t',c'⟩:=b;have hbm:fw t'≤aHj bs∧tyM c'≤aHj bs:=hbm;have hc:aW Tryz.prog 74 [.pa (aB c')] [] (bN (tyR c')) []:=hc;have J:lQ (bs.take (i+1)) Y=mW (mW (lQ (bs.take i) Y) (tfR t')) (tyR c'):=J;have hf':=aFa t' (by omega);have g1:=aXa t';have g2:(tyR c').length≤400000000:=by have:=aHl c';omega
  generalize lQ (bs.take i) Y=o at J hl3 ⊢;have g3:=pZ o (tfR t');have m1:=uH o (tfR t') (by omega);have m2:=uH (mW o (tfR t')) (tyR c') (by omega);refine aD (a8 (aC (sgh [(0,.row i (bC (.mk s' t' c')))] rfl (aE mixed (ak 3 [] rfl (kc hf' ?_))))));refine kc m1 ?_;refine ak 2 [] rfl (kc hc ?_);refine kc m2 ?_;refine kz 1 rfl (ag [] rfl ⟨i+1,N,by dsimp only;omega,?_⟩);dsimp only;rw[J];exact sl
 have W:=geD hb hkB hi;subst W;rw[Au] at hl3 ⊢;generalize lQ bs Y=o2 at hl3 O ⊢;refine aM (a8 (sg rfl (aC (aL (fun i:Nat=>mk [(3,ouV (mH (al.take i) o2)),(63,.one (.c (.sl 14 (c8 al)))),(64,I .i64 ((c8 al).length:Int)),(65,I .i64 i)] [(500,ouO (mH (al.take i) o2))]) (fun i=>i≤al.length) (fun i=>al.length-i) 0 (Ak _) sl ?_))));intro i hi;have hl5:(mH (al.take i) o2).length≤400000000:=le_trans (aCx al o2 i) O;refine sg rfl (a8 (aA rfl (fun hb=>?_) (fun hb=>?_)))
 ·have N:=ltD hb hkA;obtain⟨a,hai⟩:=aK N;have hai':=uB hai;have hm:=η hai;have ham:=aC2 hm;have hc:=ih a.body (iha a hm) (by have:=iha a hm;omega) (by omega);have J:=aCy (o:=o2) hai;obtain⟨f',n',s',v',c'⟩:=a;have ham:tyM c'≤aNg al:=ham;have hc:aW Tryz.prog 74 [.pa (aB c')] [] (bN (tyR c')) []:=hc;have J:mH (al.take (i+1)) o2=mW (mH (al.take i) o2) (tyR c'):=J;have g2:(tyR c').length≤400000000:=by have:=aHl c';omega
  generalize mH (al.take i) o2=o at J hl5 ⊢;have m2:=uH o (tyR c') (by omega);refine aD (a8 (aC (sgh [(0,.row i (cR (.mk f' n' s' v' c')))] rfl (aE mixed (ak 3 [] rfl (kc hc ?_))))));refine kc m2 ?_;refine kz 1 rfl (ag [] rfl ⟨i+1,N,by dsimp only;omega,?_⟩);dsimp only;rw[J];exact sl
 have W:=geD hb hkA hi;subst W;rw[Au] at hl5 ⊢;refine aM (AWp.sub (Sub.freeze (id:=500) rfl) ?_);exact sg rfl (aI (rtT (hc:=hs_all rfl rfl (by simp) rfl)))
theorem zP:∀(n:Nat) (c:Core),aU c≤n→aCg c
 | 0,c,h=>by have:=bR c;omega
 | n+1,c,h=>xF c fun x hx=>zP n x (by omega)
mutual
noncomputable def kB:Ty→List (Str×Ty)→Ty
 | .mk f n s a,ps=>
  if f=2 then(match ps.find? (fun p=>decide (p.1=s)) with | some p=>p.2 | none=>.mk f n s a)
  else if f=4 then .mk 4 0 [] (fT a ps)
  else if f=5 then .mk 5 0 (unN s (a.headD zTy) ps) (fT a (unP s (a.headD zTy) ps))
  else .mk f n s a
noncomputable def fT:List Ty→List (Str×Ty)→List Ty
 | [],_=>[]
 | t::l,ps=>kB t ps::fT l ps
end
structure PsOk (ps:List (Str×Ty)):Prop where
 nd:(ps.map (·.1)).Nodup
 ok:∀p∈ps,wfS p.2=true∧fvm p.2≤700000
 len:ps.length≤700000+1
theorem aK2:∀{ps:List (Str×Ty)}{s:Str}{u:Ty},(ps.map (·.1)).Nodup→(s,u)∈ps→ps.find? (fun p=>decide (p.1=s))=some (s,u)
 | p::ps,s,u,hn,h=>by
  rw[Al,Bq] at hn;rcases Ao.1 h with h | h
  ·subst h;rw[Cg (by simp)]
  ·have:¬p.1=s:=fun e=>hn.1 (Ad.2 ⟨_,h,e.symm⟩)
   rw[Ch (by simpa using this)];exact aK2 hn.2 h
theorem nO {ps:List (Str×Ty)}{s:Str}(h:¬s∈ps.map (·.1)):ps.find? (fun p=>decide (p.1=s))=none:=by
 rw[List.find?_eq_none];intro p hp hb;exact h (Ad.2 ⟨p,hp,by simpa using hb⟩)
theorem iW:∀(a b:List Str),a.Nodup→(∀x∈a,x∈b)→a.length≤b.length:=by
 intro a
 induction a with
 | nil=>intro b _ _;simp
 | cons x a I=>
  intro b hn hs;rw[Bq] at hn;have h1:=I (b.erase x) hn.2 fun y hy=>(List.mem_erase_of_ne (by rintro rfl;exact hn.1 hy)).2 (hs y (κ _ hy))
  have hx:=hs x ζ;rw[List.length_erase_of_mem hx] at h1;have:=List.length_pos_of_mem hx;rw[Aj];omega
theorem aP5 {nm:Str}{body:Ty}{ps:List (Str×Ty)}(h:(ps.map (·.1)).Nodup):((unF nm body ps).map (·.1)).Nodup:=List.Sublist.nodup ((List.filter_sublist (l:=ps)).map _) h
theorem iD {nm:Str}{body:Ty}{ps:List (Str×Ty)}{p:Str×Ty}:p∈unF nm body ps↔p∈ps∧¬p.1=nm∧p.1∈tfR body:=by
 unfold unF;rw[mem_filter,Ah];simp
theorem aAt {nm:Str}{body:Ty}{ps:List (Str×Ty)}(h:(ps.map (·.1)).Nodup):(unF nm body ps).length≤(tfR body).length:=by
 have:=iW _ (tfR body) (aP5 (nm:=nm) (body:=body) h) fun x hx=>by
  obtain⟨p,hp,rfl⟩:=Ad.1 hx;exact(iD.1 hp).2.2
 rwa [ξ] at this
theorem pO:∀{l:List (Str×Ty)},(∀p∈l,fvm p.2≤700000)→(unC l).length≤l.length*700000
 | [],_=>by simp[unC]
 | p::l,h=>by
  have h1:=pO (l:=l) fun q I=>h q (κ _ I)
  have h2:=h p ζ;have h3:=nM p.2;unfold unC at h1 ⊢;rw[Ci,Aa,Aj,Nat.succ_mul];omega
theorem aKx {n:Int}{z:Str}:fvm (.mk 2 n z [])=1:=by
 rw[fvm,tfR,θ rfl,aKw];rfl
theorem aHc {n:Int}{z:Str}:wfS (.mk 2 n z [])=true:=by
 rw[wfS,ψ (by decide),ψ (by decide),aFt];rfl
theorem PsOk.un {ps:List (Str×Ty)}(h:PsOk ps) (nm:Str) (body:Ty) (hb:fvm body≤700000):PsOk (unP nm body ps):=by
 have h1:=aP5 (nm:=nm) (body:=body) h.nd;have h2:=aAt (nm:=nm) (body:=body) h.nd;have h3:=nM body;have h4:∀p∈unF nm body ps,wfS p.2=true∧fvm p.2≤700000:=fun p hp=>h.ok p (iD.1 hp).1
 unfold unP;split
 ·refine⟨?_,fun p hp=>?_,by rw[Aa];show _+1≤_;omega⟩
  ·rw[As,nodup_append];refine⟨h1,by simp,fun x hx y hy=>?_⟩;have hy:y=nm:=by simpa using hy
   obtain⟨p,hp,rfl⟩:=Ad.1 hx;rw[hy];exact(iD.1 hp).2.1
  ·rcases ω.1 hp with hp | hp
   ·exact h4 p hp
   ·rw[Ac.1 hp];exact⟨aHc,by show fvm (.mk 2 0 _ [])≤_;rw[aKx];decide⟩
 ·exact⟨h1,h4,by omega⟩
theorem aRm (hI:cK 540000000000):∀(k:Nat) (t:Ty),tn t≤k→wfS t=true→fvm t≤700000→∀ps,PsOk ps→wfS (kB t ps)=true∧aW Tryz.prog 78 [tyV t,bN (ps.map (·.1)),aUp (ps.map (·.2))] [] (tyV (kB t ps)) []:=by
 intro k
 induction k with
 | zero=>intro t h;have:=kG t;omega
 | succ k ih=>
 intro t h hw hf ps I;obtain⟨f,n,s,a⟩:=t;have O:=xB (tn (.mk f n s a)) (.mk f n s a) (le_refl _) hw;obtain⟨_,W,w4,w5,w0⟩:=qL hw;have Y:∀u∈a,fvm u≤700000:=fun u hu=>le_trans (wW hu) hf
 rw[tn] at h;rw[kB];by_cases h2:f=2
 ·subst h2;rw[θ rfl];have J:=aLr (ps.map (·.1)) s (by rw[ξ];have:=I.len;omega);rcases u9 s (ps.map (·.1)) 0 with⟨i,e1,e2⟩ | ⟨e1,e2⟩
  ·rw[A5] at e2;obtain⟨⟨s',u⟩,hu,e3⟩:=Bz.1 e2;have e3:s'=s:=e3;subst e3;have hm:=η hu;have hu':((ps.map (·.2)).map bD)[i]?=some (bD u):=bJ bD (by rw[A5,hu];rfl);obtain⟨g2,g3⟩:=I.ok _ hm;have ho:=xB (tn u) u (le_refl _) g2;rw[e1,Int.zero_add] at J;rw[aK2 I.nd hm];refine⟨g2,?_⟩;dsimp only;refine bT (n:=48) tok Tryz.func78 rfl rfl rfl ?_;refine sg rfl (a8 (sg rfl (aC (sg rfl (aA rfl (fun _=>sk 3 rfl (kc J ?_)) nofun)))));refine kz 1 rfl (sg rfl (aA rfl (fun _=>skh 4 [(2,.row i (bD u))] rfl (kc ho ?_)) (fun hb=>absurd (δ hb) (by omega))));exact kz 1 rfl (aI (rtC trw))
  ·rw[e2] at J;rw[nO e1];refine⟨hw,?_⟩;dsimp only;refine bT (n:=48) tok Tryz.func78 rfl rfl rfl ?_;refine sg rfl (a8 (sg rfl (aC (sg rfl (aA rfl (fun _=>sk 3 rfl (kc J ?_)) nofun)))));refine kz 1 rfl (sg rfl (aA rfl (fun hb=>absurd (φ hb) (by omega)) (fun _=>aD (sk 1 rfl (kc O ?_)))));exact kz 1 rfl (aI (rtC trw))
 rw[ψ h2];by_cases h4:f=4
 ·subst h4;obtain⟨rfl,rfl,u,v,rfl⟩:=w4 rfl;rw[tns,tns,tns] at h;obtain⟨a1,a4⟩:=ih u (by omega) (W u (by simp)) (Y u (by simp)) ps I;obtain⟨b1,b4⟩:=ih v (by omega) (W v (by simp)) (Y v (by simp)) ps I;rw[θ rfl,fT,fT,fT];have cA:=aPd (kB u ps) (kB v ps);generalize kB u ps=u' at *;generalize kB v ps=v' at *;have cA:aW Tryz.prog 116 [tyV u',tyV v'] [] (tyV (.mk 4 0 [] [u',v'])) []:=cA;refine⟨?_,?_⟩
  ·rw[wfS,θ rfl,aFt,aFt,aFt,a1,b1];rfl
  ·refine bT (n:=48) tok Tryz.func78 rfl rfl rfl ?_;refine sg rfl (a8 (sg rfl (aC (sg rfl (aA rfl nofun (fun _=>sg rfl (aA rfl (fun _=>skh 6 [(2,.row 0 (bD u))] rfl (kc a4 ?_)) nofun)))))));refine ak 6 [(9,.row 1 (bD v))] rfl (kc b4 ?_);refine kc cA ?_;exact kz 1 rfl (aI (rtC trw))
 rw[ψ h4];by_cases h5:f=5
 ·subst h5;obtain⟨rfl,body,rfl⟩:=w5 rfl;rw[tns,tns] at h;have hwb:=W body (by simp);have Z:=Y body (by simp);have hP:=I.un s body Z;obtain⟨a1,a4⟩:=ih body (by omega) hwb Z (unP s body ps) hP;rw[θ rfl];show wfS (.mk 5 0 (unN s body ps) (fT [body] (unP s body ps)))=true∧aW Tryz.prog _ _ _ (tyV (.mk 5 0 (unN s body ps) (fT [body] (unP s body ps)))) _;rw[fT,fT];have hall:=aT0 (unN s body ps) (kB body (unP s body ps)) (xB _ _ (le_refl _) a1);have hfl:=nM body;have hCl:∀l:List (Str×Ty),(∀p∈l,p∈ps)→l.length≤ps.length→(unC (unF s body l)).length≤540000000000:=fun l h1 h2=>by
   have h3:=pO (l:=unF s body l) fun p hp=>(I.ok p (h1 p (iD.1 hp).1)).2
   have h4:(unF s body l).length≤l.length:=List.length_filter_le _ _;have h5:=I.len;have h6:(unF s body l).length*700000≤(700000+1)*700000:=Ax _ (by omega);have h7:(700000+1)*700000≤540000000000:=by decide
   omega
  have hC1:=hCl ps (fun p hp=>hp) (le_refl _);have hU:(unC (unF s body ps)).length+(tfR body).length≤540000000000:=by
   have h3:=pO (l:=unF s body ps) fun p hp=>(I.ok p (iD.1 hp).1).2
   have h4:=aAt (nm:=s) (body:=body) I.nd;have h6:(unF s body ps).length*700000≤700000*700000:=Ax _ (by omega);have h7:700000*700000=490000000000:=by decide
   omega
  have cU:=aPc s body (kB body (unP s body ps)) ps (by have:=I.len;omega) (nV _ body (le_refl _) hwb (le_trans Z (by decide))) (by omega) hall
   (fun p hp=>⟨nV _ p.2 (le_refl _) (I.ok p hp).1 (le_trans (I.ok p hp).2 (by decide)),le_trans (nM p.2) (le_trans (I.ok p hp).2 (by decide))⟩)
   ⟨hC1,fun i=>hCl (ps.take i) (fun p hp=>Bs hp) (by rw[At];omega)⟩ (fun k hk=>hI k (by omega)) a4
  generalize kB body (unP s body ps)=b' at *;generalize unN s body ps=N at *;refine⟨?_,?_⟩
  ·rw[wfS,ψ (by decide),θ rfl,aFt,aFt,a1];rfl
  ·refine bT (n:=48) tok Tryz.func78 rfl rfl rfl ?_;refine sg rfl (a8 (sg rfl (aC (sg rfl (aA rfl nofun (fun _=>sg rfl (aA rfl nofun (fun _=>sg rfl (aA rfl (fun _=>sk 3 rfl (kc cU ?_)) nofun)))))))));exact kz 1 rfl (aI (rtC trw))
 rw[ψ h5];refine⟨hw,?_⟩;refine bT (n:=48) tok Tryz.func78 rfl rfl rfl ?_;refine sg rfl (a8 (sg rfl (aC (sg rfl (aA rfl (fun hb=>absurd (φ hb) h2) (fun _=>sg rfl (aA rfl (fun hb=>absurd (φ hb) h4) (fun _=>sg rfl (aA rfl (fun hb=>absurd (φ hb) h5) (fun _=>aD (sk 1 rfl (kc O ?_))))))))))));exact kz 1 rfl (aI (rtC trw))
theorem aNd {nm:Str}{body:Ty}{ps:List (Str×Ty)}(h:∀p∈ps,p.1∈tfR body→p.1=nm):unN nm body ps=nm∧unP nm body ps=[]:=by
 have I:unF nm body ps=[]:=by
  unfold unF;rw[List.filter_eq_nil_iff];intro p hp hb;rw[Ah] at hb;have h1:¬p.1=nm:=by simpa using hb.1
  exact h1 (h p hp (φ hb.2))
 have J:unC (unF nm body ps)=[]:=by rw[I];rfl
 exact⟨by unfold unN;rw[J,ψ (by simp)],by unfold unP;rw[J,ψ (by simp),I]⟩
theorem aAu:∀(k:Nat) (t:Ty),tn t≤k→wfS t=true→∀ps:List (Str×Ty),(∀p∈ps,¬p.1∈tfR t)→kB t ps=t:=by
 intro k
 induction k with
 | zero=>intro t h;have:=kG t;omega
 | succ k N=>
 intro t h hw ps hp;obtain⟨f,n,s,a⟩:=t;obtain⟨_,J,W,Y,w0⟩:=qL hw;rw[tn] at h;rw[kB];by_cases h2:f=2
 ·subst h2
  rw[θ rfl,nO fun hs=>by
   obtain⟨p,I,e⟩:=Ad.1 hs
   exact hp p I (by rw[tfR,θ rfl,e];simp)]
 rw[ψ h2];by_cases h4:f=4
 ·subst h4;obtain⟨rfl,rfl,u,v,rfl⟩:=W rfl;rw[tns,tns,tns] at h;rw[θ rfl,fT,fT,fT,N u (by omega) (J u (by simp)) ps fun p I hx=>hp p I (aSd hx),N v (by omega) (J v (by simp)) ps fun p I hx=>hp p I (aSc hx)]
 rw[ψ h4];by_cases h5:f=5
 ·subst h5;obtain⟨rfl,body,rfl⟩:=Y rfl;rw[tns,tns] at h;obtain⟨Z,e2⟩:=aNd (nm:=s) (body:=body) (ps:=ps) fun p I hx=>Classical.byContradiction fun O=>hp p I (aVd hx O)
  rw[θ rfl];show Ty.mk 5 0 (unN s body ps) (fT [body] (unP s body ps))=_;rw[Z,e2,fT,fT,N body (by omega) (J body (by simp)) [] fun p I=>by cases I]
 rw[ψ h5]
theorem aLh (I:cK 540000000000) (t:Ty) (hw:wfS t=true) (hf:fvm t≤700000):aW Tryz.prog 48 [tyV t] [] (tyV t) []:=by
 have h4:=(aRm I (tn t) t (le_refl _) hw hf [] ⟨by simp,fun p hp=>(by cases hp),by simp⟩).2
 rw[aAu (tn t) t (le_refl _) hw [] fun p hp=>by cases hp] at h4;refine bT (n:=5) tok Tryz.func48 rfl rfl rfl ?_;refine sg rfl (sk 1 rfl (kc h4 ?_));exact kz 1 rfl (aI (rtC trw))
theorem aH0 {f:Int}{s:Str}{o:List Str}{x y:Str}(h:y∈gN f s o x):y∈o∨(y=x∧(¬f=5∨¬x=s)):=by
 unfold gN at h;split at h
 ·rename_i hx;rcases ω.1 h with h | h
  ·exact .inl h
  ·exact .inr ⟨Ac.1 h,hx.2⟩
 ·exact .inl h
theorem aDd {f:Int}{s:Str}:∀{l o:List Str}{y:Str},y∈sX f s o l→y∈o∨(y∈l∧(¬f=5∨¬y=s))
 | [],_,_,h=>.inl h
 | x::l,o,y,h=>by
  rcases aDd (l:=l) (o:=gN f s o x) h with h | ⟨h,hs⟩
  ·rcases aH0 h with h | ⟨rfl,hs⟩
   ·exact .inl h
   ·exact .inr ⟨ζ,hs⟩
  ·exact .inr ⟨κ _ h,hs⟩
theorem aDc {f:Int}{s:Str}:∀{l:List Ty}{o:List Str}{y:Str},y∈o9 f s l o→y∈o∨∃u∈l,y∈tfR u∧(¬f=5∨¬y=s)
 | [],o,y,h=>by rw[o9] at h;exact .inl h
 | t::l,o,y,h=>by
  rw[o9] at h;rcases aDc h with h | ⟨u,hu,h⟩
  ·rcases aDd h with h | ⟨h,hs⟩
   ·exact .inl h
   ·exact .inr ⟨t,ζ,h,hs⟩
  ·exact .inr ⟨u,κ _ hu,h⟩
theorem aDa {f:Int}{s:Str}:∀{l:List Ty}{o:List Str}{y:Str},y∈o→y∈o9 f s l o
 | [],o,y,h=>by rw[o9];exact h
 | t::l,o,y,h=>by rw[o9];exact aDa (pS h)
theorem aDb {f:Int}{s:Str}:∀{l:List Ty}{o:List Str}{u:Ty}{y:Str},u∈l→y∈tfR u→(¬f=5∨¬y=s)→y∈o9 f s l o
 | t::l,o,u,y,h,hy,hs=>by
  rw[o9];rcases Ao.1 h with rfl | h
  ·exact aDa (n9 hy hs)
  ·exact aDb h hy hs
theorem xZ {f n:Int}{s:Str}{a:List Ty}{y:Str}(h2:¬f=2) (h:y∈tfR (.mk f n s a)):∃u∈a,y∈tfR u∧(¬f=5∨¬y=s):=by
 rw[tfR,ψ h2] at h;rcases aDc h with h | h
 ·cases h
 ·exact h
theorem qP {f n:Int}{s:Str}{a:List Ty}{u:Ty}{y:Str}(h2:¬f=2) (hu:u∈a) (hy:y∈tfR u) (hs:¬f=5∨¬y=s):y∈tfR (.mk f n s a):=by
 rw[tfR,ψ h2];exact aDb hu hy hs
theorem aNj {f:Int}{s:Str}{o:List Str}{x:Str}(h:o.Nodup):(gN f s o x).Nodup:=by
 unfold gN;split
 ·rename_i hx;rw[nodup_append];exact⟨h,by simp,fun a ha b hb e=>by rw[Ac.1 hb] at e;subst e;exact hx.1 ha⟩
 ·exact h
theorem aH3 {f:Int}{s:Str}:∀{l o:List Str},o.Nodup→(sX f s o l).Nodup
 | [],_,h=>h
 | x::l,o,h=>aH3 (l:=l) (o:=gN f s o x) (aNj h)
theorem aHx {f:Int}{s:Str}:∀{l:List Ty}{o:List Str},o.Nodup→(o9 f s l o).Nodup
 | [],o,h=>by rw[o9];exact h
 | t::l,o,h=>by rw[o9];exact aHx (aH3 h)
theorem aHv (t:Ty):(tfR t).Nodup:=by
 obtain⟨f,n,s,a⟩:=t;rw[tfR];split
 ·simp
 ·exact aHx nodup_nil
theorem mB (l:List Str):¬bA l∈l:=oJ l
theorem aSa {l:List (Str×Ty)}{x:Str}:x∈unC l↔∃p∈l,x∈tfR p.2:=by
 unfold unC;rw[Ck]
theorem aHt:∀(k:Nat) (t:Ty),tn t≤k→wfS t=true→∀(ps:List (Str×Ty)) (x:Str),x∈tfR (kB t ps)→(x∈tfR t∧¬x∈ps.map (·.1))∨∃p∈ps,p.1∈tfR t∧x∈tfR p.2:=by
 intro k
 induction k with
 | zero=>intro t h;have:=kG t;omega
 | succ k ih=>
 intro t h hw ps x hx;obtain⟨f,n,s,a⟩:=t;obtain⟨_,Z,w4,w5,w0⟩:=qL hw;rw[tn] at h;rw[kB] at hx;by_cases h2:f=2
 ·subst h2;rw[θ rfl] at hx;have hs:s∈tfR (.mk 2 n s a):=by rw[tfR,θ rfl];simp
  cases N:ps.find? (fun p=>decide (p.1=s)) with
  | some p=>
   rw[N] at hx;have h1:p.1=s:=by simpa using List.find?_some N
   exact .inr ⟨p,B3 N,by rw[h1];exact hs,hx⟩
  | none=>
   rw[N] at hx;refine .inl ⟨hx,fun hm=>?_⟩;have W:x=s:=by
    have hx:x∈tfR (.mk 2 n s a):=hx;rw[tfR,θ rfl] at hx;simpa using hx
   obtain⟨p,hp,e⟩:=Ad.1 hm;have:=List.find?_eq_none.1 N p hp;rw[e,W] at this;simp at this
 rw[ψ h2] at hx;by_cases h4:f=4
 ·subst h4;obtain⟨rfl,rfl,u,v,rfl⟩:=w4 rfl;rw[tns,tns,tns] at h;rw[θ rfl,fT,fT,fT] at hx;obtain⟨w,O,I,_⟩:=xZ (by decide) hx;have key:∀Y,Y∈[u,v]→x∈tfR (kB Y ps)→tn Y≤k→(x∈tfR (.mk 4 0 [] [u,v])∧¬x∈ps.map (·.1))∨∃p∈ps,p.1∈tfR (.mk 4 0 [] [u,v])∧x∈tfR p.2:=fun Y aa hxu hk=>by
   rcases ih Y hk (Z Y aa) ps x hxu with⟨h1,h2⟩ | ⟨p,hp,h1,h2⟩
   ·exact .inl ⟨qP (by decide) aa h1 (.inl (by decide)),h2⟩
   ·exact .inr ⟨p,hp,qP (by decide) aa h1 (.inl (by decide)),h2⟩
  rcases Ao.1 O with rfl | O
  ·exact key u (by simp) I (by omega)
  ·rw[Ac.1 O] at I;exact key v (by simp) I (by omega)
 rw[ψ h4] at hx;by_cases h5:f=5
 ·subst h5;obtain⟨rfl,body,rfl⟩:=w5 rfl;rw[tns,tns] at h;rw[θ rfl] at hx;have hx:x∈tfR (.mk 5 0 (unN s body ps) (fT [body] (unP s body ps))):=hx;rw[fT,fT] at hx;obtain⟨w,O,I,J⟩:=xZ (by decide) hx;rw[Ac.1 O] at I;have J:¬x=unN s body ps:=J.resolve_left (fun h=>h rfl);by_cases hc:s∈unC (unF s body ps)
  ·have eN:unN s body ps=bA (unC (unF s body ps)++tfR body):=by unfold unN;rw[θ hc]
   have eP:unP s body ps=unF s body ps++[(s,.mk 2 0 (unN s body ps) [])]:=by unfold unP;rw[θ hc]
   rcases ih body (by omega) (Z body (by simp)) (unP s body ps) x I with⟨h1,h2⟩ | ⟨p,hp,h1,h2⟩
   ·rw[eP] at h2;have W:¬x=s:=fun e=>h2 (by rw[e];simp)
    refine .inl ⟨qP (by decide) ζ h1 (.inr W),fun hm=>h2 ?_⟩;obtain⟨p,hp,e⟩:=Ad.1 hm;rw[As];exact ω.2 (.inl (Ad.2 ⟨p,iD.2 ⟨hp,by rw[e];exact W,by rw[e];exact h1⟩,e⟩))
   ·rw[eP] at hp;rcases ω.1 hp with hp | hp
    ·obtain⟨g1,g2,g3⟩:=iD.1 hp;exact .inr ⟨p,g1,qP (by decide) ζ g3 (.inr g2),h2⟩
    ·rw[Ac.1 hp] at h2;have h2:x∈tfR (.mk 2 0 (unN s body ps) []):=h2;rw[tfR,θ rfl] at h2;exact absurd (Ac.1 h2) J
  ·have eN:unN s body ps=s:=by unfold unN;rw[ψ hc]
   have eP:unP s body ps=unF s body ps:=by unfold unP;rw[ψ hc]
   rw[eN] at J;rcases ih body (by omega) (Z body (by simp)) (unP s body ps) x I with⟨h1,h2⟩ | ⟨p,hp,h1,h2⟩
   ·rw[eP] at h2;refine .inl ⟨qP (by decide) ζ h1 (.inr J),fun hm=>h2 ?_⟩;obtain⟨p,hp,e⟩:=Ad.1 hm;exact Ad.2 ⟨p,iD.2 ⟨hp,by rw[e];exact J,by rw[e];exact h1⟩,e⟩
   ·rw[eP] at hp;obtain⟨g1,g2,g3⟩:=iD.1 hp;exact .inr ⟨p,g1,qP (by decide) ζ g3 (.inr g2),h2⟩
 rw[ψ h5] at hx;rw[w0 h4 h5] at hx;obtain⟨u,hu,_⟩:=xZ h2 hx;cases hu
structure Alg where
 z:Nat
 j:Nat→Nat→Nat
 u:Str→Nat→Nat
 b:Str→Nat→Nat
 jm:∀{x x' y y':Nat},x≤x'→y≤y'→j x y≤j x' y'
 um:∀{s:Str} {x x':Nat},x≤x'→u s x≤u s x'
 bm:∀{s:Str} {x x':Nat},x≤x'→b s x≤b s x'
 ul:∀{s s':Str} {x:Nat},s.length≤30→u s x≤u s' x
def fO (ρ:Str→Nat) (s:Str) (v:Nat):Str→Nat:=fun x=>if x=s then v else ρ x
mutual
def tW (A:Alg):Ty→(Str→Nat)→Nat
 | .mk f _ s a,ρ=>if f=2 then ρ s else if f=5 then A.u s (tWs A a (fO ρ s A.z)) else A.b s (tWs A a ρ)
def tWs (A:Alg):List Ty→(Str→Nat)→Nat
 | [],_=>0
 | t::l,ρ=>A.j (tW A t ρ) (tWs A l ρ)
end
theorem qV {A:Alg}:∀{l:List Ty}{ρ ρ':Str→Nat},(∀u∈l,tW A u ρ=tW A u ρ')→tWs A l ρ=tWs A l ρ'
 | [],_,_,_=>by rw[tWs,tWs]
 | t::l,ρ,ρ',h=>by rw[tWs,tWs,h t ζ,qV fun u hu=>h u (κ _ hu)]
theorem i6 {A:Alg}:∀(k:Nat) (t:Ty),tn t≤k→∀{ρ ρ':Str→Nat},(∀x∈tfR t,ρ x=ρ' x)→tW A t ρ=tW A t ρ'
 | 0,t,h,_,_,_=>by have:=kG t;omega
 | k+1,.mk f n s a,h,ρ,ρ',hx=>by
  rw[tn] at h;rw[tW,tW];by_cases h2:f=2
  ·rw[θ h2,θ h2];exact hx s (by rw[tfR,θ h2];simp)
  rw[ψ h2,ψ h2];by_cases h5:f=5
  ·rw[θ h5,θ h5,qV fun u hu=>i6 k u (by have:=jI hu;omega) fun x I=>?_];unfold fO;by_cases e:x=s
   ·rw[θ e,θ e]
   ·rw[ψ e,ψ e];exact hx x (qP h2 hu I (.inr e))
  ·rw[ψ h5,ψ h5,qV fun u hu=>i6 k u (by have:=jI hu;omega) fun x I=>hx x (qP h2 hu I (.inl h5))]
mutual
theorem aA3 {A:Alg}:∀(t:Ty) {ρ ρ':Str→Nat},(∀x,ρ x≤ρ' x)→tW A t ρ≤tW A t ρ'
 | .mk f n s a,ρ,ρ',h=>by
  rw[tW,tW];split
  ·exact h s
  ·split
   ·refine A.um (v8 a fun x=>?_);unfold fO;split
    ·exact le_refl _
    ·exact h x
   ·exact A.bm (v8 a h)
theorem v8 {A:Alg}:∀(l:List Ty) {ρ ρ':Str→Nat},(∀x,ρ x≤ρ' x)→tWs A l ρ≤tWs A l ρ'
 | [],_,_,_=>by rw[tWs];exact Ak _
 | t::l,ρ,ρ',h=>by rw[tWs,tWs];exact A.jm (aA3 t h) (v8 l h)
end
def aIi (A:Alg) (ρ:Str→Nat) (ps:List (Str×Ty)):Str→Nat:=fun x=>match ps.find? (fun p=>decide (p.1=x)) with | some p=>tW A p.2 ρ | none=>ρ x
theorem rX {nm:Str}{body:Ty}{x:Str}(hx:¬x=nm) (hb:x∈tfR body):∀ps:List (Str×Ty),(unF nm body ps).find? (fun p=>decide (p.1=x))=ps.find? (fun p=>decide (p.1=x))
 | []=>rfl
 | p::ps=>by
  have I:=rX hx hb ps;by_cases e:p.1=x
  ·have hk:(!decide (p.1=nm)&&decide (p.1∈tfR body))=true:=by rw[e,Am hx,Ai hb];rfl
   unfold unF;rw[List.filter_cons_of_pos (p:=fun p:Str×Ty=>!decide (p.1=nm)&&decide (p.1∈tfR body)) hk,Cg (by simpa using e),Cg (by simpa using e)]
  ·rw[Ch (by simpa using e),←I];unfold unF;rw[Cu];split
   ·rw[Ch (by simpa using e)]
   ·rfl
theorem oK (l:List Str) (h:l.length≤540000000000):(bA l).length≤30:=le_trans (jB l h) (by decide)
theorem PsOk.unl {ps:List (Str×Ty)}(h:PsOk ps) {nm:Str}{body:Ty}(hb:fvm body≤700000):(unC (unF nm body ps)++tfR body).length≤540000000000:=by
 have h3:=pO (l:=unF nm body ps) fun p hp=>(h.ok p (iD.1 hp).1).2
 have h4:=aAt (nm:=nm) (body:=body) h.nd;have h5:=nM body;have h6:(unF nm body ps).length*700000≤700000*700000:=Ax _ (by omega);rw[Aa];omega
theorem aVa (A:Alg):∀(k:Nat) (t:Ty),tn t≤k→wfS t=true→fvm t≤700000→∀(ps:List (Str×Ty)),PsOk ps→∀ρ,tW A (kB t ps) ρ≤tW A t (aIi A ρ ps):=by
 intro k
 induction k with
 | zero=>intro t h;have:=kG t;omega
 | succ k ih=>
 intro t h hw hf ps J ρ;obtain⟨f,n,s,a⟩:=t;obtain⟨_,N,w4,w5,w0⟩:=qL hw;have O:∀u∈a,fvm u≤700000:=fun u hu=>le_trans (wW hu) hf
 rw[tn] at h;rw[kB];by_cases h2:f=2
 ·subst h2;rw[θ rfl,tW,θ rfl];unfold aIi;cases ps.find? (fun p=>decide (p.1=s)) with
  | some p=>exact le_refl _
  | none=>
   show tW A (.mk 2 n s a) ρ≤_;rw[tW,θ rfl];exact le_refl _
 rw[ψ h2];by_cases h4:f=4
 ·subst h4;obtain⟨rfl,rfl,u,v,rfl⟩:=w4 rfl;rw[tns,tns,tns] at h;rw[θ rfl,fT,fT,fT,tW,ψ (by decide),ψ (by decide),tW,ψ (by decide),ψ (by decide),tWs,tWs,tWs,tWs,tWs,tWs];exact A.bm (A.jm (ih u (by omega) (N u (by simp)) (O u (by simp)) ps J ρ) (A.jm (ih v (by omega) (N v (by simp)) (O v (by simp)) ps J ρ) (le_refl _)))
 rw[ψ h4];by_cases h5:f=5
 ·subst h5;obtain⟨rfl,body,rfl⟩:=w5 rfl;rw[tns,tns] at h;have W:=O body (by simp);rw[θ rfl];show tW A (.mk 5 0 (unN s body ps) (fT [body] (unP s body ps))) ρ≤_;rw[fT,fT,tW,ψ (by decide),θ rfl,tW,ψ (by decide),θ rfl,tWs,tWs,tWs,tWs];have hi:=ih body (by omega) (N body (by simp)) W (unP s body ps) (J.un s body W) (fO ρ (unN s body ps) A.z);have hcg:tW A body (aIi A (fO ρ (unN s body ps) A.z) (unP s body ps))=tW A body (fO (aIi A ρ ps) s A.z):=by
   refine i6 (tn body) body (le_refl _) fun x hx=>?_
   have hout:∀p∈unF s body ps,¬unN s body ps∈tfR p.2:=fun p hp hin=>by
    have hm:unN s body ps∈unC (unF s body ps):=aSa.2 ⟨p,hp,hin⟩;unfold unN at hm;split at hm
    ·exact mB _ (ω.2 (.inl hm))
    ·rename_i hc;exact hc hm
   have Y:∀p∈unF s body ps,tW A p.2 (fO ρ (unN s body ps) A.z)=tW A p.2 ρ:=fun p hp=>i6 (tn p.2) p.2 (le_refl _) fun y hy=>by
    unfold fO;rw[ψ fun e=>hout p hp (by rw[←e];exact hy)]
   by_cases I:x=s
   ·subst I;have e2:fO (aIi A ρ ps) x A.z x=A.z:=by unfold fO;rw[θ rfl]
    rw[e2];have Z:¬x∈(unF x body ps).map (·.1):=fun hm=>by
     obtain⟨p,hp,e⟩:=Ad.1 hm;exact(iD.1 hp).2.1 e
    unfold aIi;by_cases hc:x∈unC (unF x body ps)
    ·have eP:unP x body ps=unF x body ps++[(x,.mk 2 0 (unN x body ps) [])]:=by unfold unP;rw[θ hc]
     rw[eP,List.find?_append,nO Z];show(match (none:Option (Str×Ty)).or ([(x,Ty.mk 2 0 (unN x body ps) [])].find? fun p=>decide (p.1=x)) with | some p=>tW A p.2 (fO ρ (unN x body ps) A.z) | none=>fO ρ (unN x body ps) A.z x)=A.z;rw[Cg (by simp)];show tW A (.mk 2 0 (unN x body ps) []) (fO ρ (unN x body ps) A.z)=A.z;rw[tW,θ rfl];unfold fO;rw[θ rfl]
    ·have eP:unP x body ps=unF x body ps:=by unfold unP;rw[ψ hc]
     have eN:unN x body ps=x:=by unfold unN;rw[ψ hc]
     rw[eP,nO Z,eN];unfold fO;rw[θ rfl]
   ·have e2:fO (aIi A ρ ps) s A.z x=aIi A ρ ps x:=by unfold fO;rw[ψ I]
    rw[e2];have aa:=rX (nm:=s) (body:=body) I hx ps;have hfP:(unP s body ps).find? (fun p=>decide (p.1=x))=ps.find? (fun p=>decide (p.1=x)):=by
     rw[←aa];unfold unP;split
     ·rw[List.find?_append,Ch (by simpa using fun e=>I e.symm)];cases (unF s body ps).find? (fun p=>decide (p.1=x))<;>rfl
     ·rfl
    have hNx:¬x=unN s body ps:=fun e=>by
     unfold unN at e;split at e
     ·exact mB _ (ω.2 (.inr (by rw[←e];exact hx)))
     ·exact I e
    unfold aIi;rw[hfP];cases hfd:ps.find? (fun p=>decide (p.1=x)) with
    | some p=>
     have hp:p∈unF s body ps:=B3 (aa.trans hfd);exact Y p hp
    | none=>
     show fO ρ (unN s body ps) A.z x=ρ x;unfold fO;rw[ψ hNx]
  rw[hcg] at hi;have hN:A.u (unN s body ps) (A.j (tW A (kB body (unP s body ps)) (fO ρ (unN s body ps) A.z)) 0)≤A.u s (A.j (tW A (kB body (unP s body ps)) (fO ρ (unN s body ps) A.z)) 0):=by
   generalize A.j (tW A (kB body (unP s body ps)) (fO ρ (unN s body ps) A.z)) 0=y;unfold unN;split
   ·exact A.ul (oK _ (J.unl W))
   ·exact le_refl _
  exact le_trans hN (A.um (A.jm hi (le_refl _)))
 rw[ψ h5,tW,ψ h2,ψ h5,tW,ψ h2,ψ h5,w0 h4 h5,tWs,tWs];exact le_refl _
def j3:Alg:=⟨0,max,fun _ x=>1+x,fun _ x=>x,fun h1 h2=>by omega,fun h=>by omega,fun h=>h,fun _=>le_refl _⟩
def r0:Str→Nat:=fun _=>0
theorem aId (s:Str):fO r0 s 0=r0:=by
 funext x;unfold fO r0;split<;>rfl
theorem rU:∀(k:Nat) (t:Ty),tn t≤k→wfS t=true→fvm t≤(tfR t).length+tW j3 t r0
 | 0,t,h,_=>by have:=kG t;omega
 | k+1,.mk f n s a,h,hw=>by
  obtain⟨_,I,N,O,w0⟩:=qL hw;rw[tn] at h;by_cases h4:f=4
  ·subst h4;obtain⟨rfl,rfl,u,v,rfl⟩:=N rfl;rw[tns,tns,tns] at h;have h1:=rU k u (by omega) (I u (by simp));have h2:=rU k v (by omega) (I v (by simp));have e:tW j3 (.mk 4 0 [] [u,v]) r0=max (tW j3 u r0) (max (tW j3 v r0) 0):=by rw[tW,ψ (by decide),ψ (by decide),tWs,tWs,tWs];rfl
   have g1:=iW _ _ (aHv u) fun x hx=>qP (f:=4) (n:=0) (s:=[]) (a:=[u,v]) (by decide) (by simp) hx (.inl (by decide))
   have g2:=iW _ _ (aHv v) fun x hx=>qP (f:=4) (n:=0) (s:=[]) (a:=[u,v]) (by decide) (by simp) hx (.inl (by decide))
   rw[fvm,e,aKw,aKw,aKw];omega
  ·by_cases h5:f=5
   ·subst h5;obtain⟨rfl,body,rfl⟩:=O rfl;rw[tns,tns] at h;have h1:=rU k body (by omega) (I body (by simp));have e:tW j3 (.mk 5 0 s [body]) r0=1+max (tW j3 body r0) 0:=by
     rw[tW,ψ (by decide),θ rfl,tWs,tWs];show 1+max (tW j3 body (fO r0 s 0)) 0=_;rw[aId]
    have g1:=iW _ (s::tfR (.mk 5 0 s [body])) (aHv body) fun x hx=>by
     by_cases J:x=s
     ·rw[J];exact ζ
     ·exact κ _ (qP (by decide) (by simp) hx (.inr J))
    rw[Aj] at g1;rw[fvm,e,aKw,aKw];omega
   ·rw[fvm,w0 h4 h5,aKw];omega
end Go.Proofs.YtockgoadliilhaaGreatDoor
