/-
  Texts Am32 to Lc5 in one.
-/
import Derived.Test.YtglfogjcijokpaaGreatDoorM6
open List (all_append all_eq_true append_assoc append_nil cons_append drop_eq_getElem_cons drop_length drop_zero flatten_cons length_append length_cons length_drop length_map length_nil length_take map_append map_congr_left map_cons map_map mem_append mem_cons mem_cons_of_mem mem_cons_self mem_map mem_singleton nil_append nodup_append nodup_cons nodup_nil not_mem_nil set_cons_succ set_eq_take_append_cons_drop take_length take_succ_cons)
open Nat (add_zero beq_refl eq_of_beq_eq_true le_add_left le_of_ble_eq_true le_refl min_eq_left sub_self zero_add zero_le)
namespace Go.AM
open Go
theorem rB {α:Type}:∀(a b:List (Nat×α)) (i:Nat),look (a++b) i=match look a i with | some x=>some x | none=>look b i
 | [],_,_=>rfl
 | (k,x)::a,b,i=>by
  simp only[Bc,look];cases Nat.beq i k
  ·simpa using rB a b i
  ·rfl
theorem iQ:∀(a b:List (Nat×AObj)),cO (a++b)=cO a++cO b
 | [],_=>rfl
 | (k,o)::a,b=>by simp only[Bc,cO,iQ a b,A0]
theorem dM.app {α:Type}{p:α→Prop}:∀{a b:List α},dM p a→dM p b→dM p (a++b)
 | [],_,_,h=>h
 | _::_,_,h,k=>⟨h.1,dM.app h.2 k⟩
theorem fP:∀{l:List Nat},l.Nodup→distinct l=true
 | [],_=>rfl
 | x::l,h=>by
  obtain⟨h1,h2⟩:=Bv.1 h;simp only[distinct,fP h2,Bool.and_true];simpa using h1
theorem eD {a b:List Nat}(h:∀x∈a,x∈b):subset a b=true:=by
 simp only[subset,Au];exact fun x hx=>by simpa using h x hx
theorem aQ.row {P:Program}{f:FuncId}{args:List V}{hin hin' hout hout':List (Nat×AObj)}{res:V}(h:aQ P f args hin res hout) (h1:look hin'=look hin) (h2:look hout'=look hout):aQ P f args hin' res hout':=by
 unfold aQ at h ⊢;rw[h1,h2];exact h
theorem aDx.row {P:Program}{id:Nat}{args:List V}{hin hin' hout hout':List (Nat×AObj)}{go:Bool}(h:aDx P id args hin go hout) (h1:look hin'=look hin) (h2:look hout'=look hout):aDx P id args hin' go hout':=by
 unfold aDx at h ⊢;rw[h1,h2];exact h
theorem jN {α:Type}{a b:Nat}{x y:α}{l:List (Nat×α)}(h:Nat.beq a b=false:=by rfl):look ((a,x)::(b,y)::l)=look ((b,y)::(a,x)::l):=by
 funext i;simp only[look];cases h1:Nat.beq i a<;>cases h2:Nat.beq i b<;>try rfl
 have q:=ε h1;have I:=ε h2;subst q;subst I;rw[h1] at h;cases h
section
variable {P:Program}{n:Nat}
theorem Sub.ownCellR {kf:List Nat}{st:St}{x k id tv:Nat}{cells:List R}(te es:Nat) (h:st.h x=some (.var tv cells)) (hk:cells[k]?=some (.c .nl)) (hid:st.h id=none):
  Sub kf ⟨st.e,upd (upd st.h id (some (.rarr te es []))) x (some (.var tv (cells.set k (.ra id 0 0 0)))),st.d⟩ st:=by
 intro G n S μ a w _ hs;obtain⟨hi,hE⟩:=hs.inv.emptyR te es hid;have Z:x≠id:=fun e=>by subst e;rw[h] at hid;cases hid
 have hx:upd st.h id (some (.rarr te es [])) x=some (.var tv cells):=by rw[aS _ _ _ Z];exact h
 obtain⟨b,vs,g1,g2,g3,g4⟩:=hi.obj x _ hx
 have J:Evolve S (upd μ id none) (upd st.h id (some (.rarr te es []))) S (upd μ id none) (upd (upd st.h id (some (.rarr te es []))) x (some (.var tv (cells.set k (.ra id 0 0 0))))):=⟨S.le_refl,fun j y I=>by
  by_cases q:j=x
  ·subst q;rw[hx] at I;cases I;exact⟨_,aI _ _ _,by simp[AObj.succ]⟩
  ·exact⟨y,by rw[aS _ _ _ q];exact I,y.succ_refl rfl⟩⟩
 have hold:∀j y,upd (upd st.h id (some (.rarr te es []))) x (some (.var tv (cells.set k (.ra id 0 0 0)))) j=some y→∃y',upd st.h id (some (.rarr te es [])) j=some y':=fun j y I=>by
  by_cases q:j=x
  ·subst q;exact⟨_,hx⟩
  ·rw[aS _ _ _ q] at I;exact⟨_,I⟩
 refine⟨S,upd μ id none,⟨⟨hi.holds,fun j y I=>?_,fun i j y y' b c c' N I hm hm'=>?_,fun i y b c N hm=>?_,hi.frame,hi.sle,hi.sto,hi.evo.trans J,hi.fre⟩,hs.size,hs.defers.evolve (hE.trans J),fun s v e=>aT.evolve (hE.trans J) v _ (hs.env s v e)⟩⟩
 ·by_cases q:j=x
  ·subst q;have O:some (AObj.var tv (cells.set k (.ra id 0 0 0)))=some y:=by rw[←I];exact(aI _ _ _).symm
   cases O;refine⟨b,vs,g1,g2,?_,g4⟩;have h3:=aW.evolve J _ _ g3;obtain⟨u,hu,W⟩:=g3.get k _ hk;simp only[b6,Rep] at W;have hkl:k<cells.length:=(Aa.1 hk).1
   have Y:cells.set k (.ra id 0 0 0)=bU cells k [.ra id 0 0 0]:=by
    unfold bU;rw[Cd,ξ hkl];simp
   have hvl:=g3.length;have hvs:vs=bU vs k [u]:=by
    unfold bU;apply Bw;intro i;simp only[B0,τ,Aq,Ak,length_nil,At,An];have hm:min k vs.length=k:=by omega
    rw[hm];by_cases c1:i<k
    ·simp[c1,show i<k+1 by omega]
    ·by_cases c2:i=k
     ·subst c2;simp[hu]
     ·simp[show ¬i<k+1 by omega,show k+1+(i-(k+1))=i by omega]
   rw[Y] at h3 ⊢;rw[hvs];refine p9 h3 ?_;simp only[aW,b6];exact⟨u,[],rfl,⟨⟨_,_,_,W⟩,.inr ⟨te,es,[],by rw[aS _ _ _ Z.symm];exact aI _ _ _,le_refl _,fun _=>⟨le_refl _,.inl ⟨aI _ _ _,rfl,W⟩⟩⟩⟩,rfl⟩
  ·have O:upd st.h id (some (.rarr te es [])) j=some y:=by rw[←I];exact(aS _ _ _ q).symm
   exact(hi.obj j y O).evolve J rfl fun _ _ _=>⟨rfl,fun _=>rfl,rfl⟩
 ·obtain⟨_,h1⟩:=hold _ _ N;obtain⟨_,h2⟩:=hold _ _ I;exact hi.inj i j _ _ b c c' h1 h2 hm hm'
 ·obtain⟨_,h1⟩:=hold _ _ N;exact hi.own i _ b c h1 hm
end
theorem Ole.varS {t:Nat}{l l':List R}(h:l=l'):Ole (fun i=>i) (.var t l) (.var t l'):=by subst h;exact .var (R.renL_id _).symm
structure TF (F:List (Nat×AObj)):Prop where
 far:∀p∈F,800≤p.1
 nodup:(F.map (·.1)).Nodup
 arr:∀p∈F,∃te es l z,p.2=.arr te es l z
theorem TF.refs {F:List (Nat×AObj)}(h:TF F):cO F=[]:=by
 have key:∀l:List (Nat×AObj),(∀p∈l,∃te es l z,p.2=.arr te es l z)→cO l=[]:=by
  intro l
  induction l with
  | nil=>intro _;rfl
  | cons p l I=>
   intro h;obtain⟨te,es,l',z,hp⟩:=h p (by simp);show p.2.refs++cO l=[];rw[I fun q J=>h q (by simp[J]),hp];rfl
 exact key F h.arr
theorem TF.ok {F:List (Nat×AObj)}(h:TF F):∀p∈F,p.2.live=true∧p.2.plain=true:=fun p hp=>by
 obtain⟨te,es,l,z,e⟩:=h.arr p hp;rw[e];exact⟨rfl,rfl⟩
def mkt (el:List (Nat×V)) (hl F:List (Nat×AObj)):St:=⟨look el,fun i=>match look hl i with | some x=>some x | none=>bif Nat.blt i 800 then none else look F i,[]⟩
theorem hY {α:Type}:∀{l:List (Nat×α)}{i:Nat},i∉l.map (·.1)→look l i=none
 | [],_,_=>rfl
 | (k,x)::l,i,h=>by
  simp only[Al,Ai,not_or] at h;simp only[look];have:Nat.beq i k=false:=by
   cases hb:Nat.beq i k with
   | false=>rfl
   | true=>exact absurd (ε hb) h.1
  rw[this];simpa using hY h.2
theorem TF.near {F:List (Nat×AObj)}(q:TF F) {i:Nat}(h:i<800):look F i=none:=hY fun hm=>by
 obtain⟨p,hp,rfl⟩:=Af.1 hm;have:=q.far p hp;omega
theorem aIf {i k:Nat}(h:i<k):Nat.blt i k=true:=Nat.ble_eq_true_of_le h
theorem aA2 {i k:Nat}(h:k≤i):Nat.blt i k=false:=by
 cases hb:Nat.blt i k with
 | false=>rfl
 | true=>have:=Ap hb;omega
theorem aLm {el:List (Nat×V)}{hl F:List (Nat×AObj)}(q:TF F):mkt el hl F=mk el (hl++F):=by
 unfold mkt mk;congr 1;funext i;rw[rB];cases look hl i with
 | some x=>rfl
 | none=>
  by_cases h:i<800
  ·simp only[aIf h,q.near h,Bo]
  ·simp only[aA2 (Nat.le_of_not_lt h),Bs]
theorem pF {α:Type}:∀{l:List (Nat×α)},(l.map (·.1)).Nodup→∀p∈l,look l p.1=some p.2
 | (k,x)::l,h,p,hp=>by
  simp only[Al,Bv] at h;simp only[look];rcases Ai.1 hp with rfl | hp
  ·simp
  ·have q:p.1≠k:=fun e=>h.1 (e▸Af.2 ⟨p,hp,rfl⟩)
   have:Nat.beq p.1 k=false:=by
    cases hb:Nat.beq p.1 k with
    | false=>rfl
    | true=>exact absurd (ε hb) q
   rw[this];simpa using pF h.2 p hp
def FarEq (h:c7) (F:List (Nat×AObj)):Prop:=∀p∈F,h p.1=some p.2
theorem x3 {hl:List (Nat×AObj)}(h:(hl.all fun p=>Nat.blt p.1 800)=true) {i:Nat}(hi:800≤i):look hl i=none:=hY fun hm=>by
 obtain⟨p,hp,rfl⟩:=Af.1 hm;have:=Ap ((Au.1 h) p hp);omega
theorem FarEq.raw {hl F:List (Nat×AObj)}(q:TF F) (h:(hl.all fun p=>Nat.blt p.1 800)=true:=by rfl):FarEq (fun i=>match look hl i with | some x=>some x | none=>bif Nat.blt i 800 then none else look F i) F:=fun p hp=>by
 have h1:=q.far p hp;show(match look hl p.1 with | some x=>some x | none=>bif Nat.blt p.1 800 then none else look F p.1)=_;rw[x3 h h1,aA2 h1];exact pF q.nodup p hp
theorem FarEq.mkt {el:List (Nat×V)}{hl F:List (Nat×AObj)}(q:TF F) (h:(hl.all fun p=>Nat.blt p.1 800)=true:=by rfl):FarEq (mkt el hl F).h F:=FarEq.raw q h
theorem FarEq.upd {h:c7}{F:List (Nat×AObj)}{k:Nat}{x:Option AObj}(q:TF F) (hf:FarEq h F) (hk:Nat.blt k 800=true:=by rfl):FarEq (upd h k x) F:=fun p hp=>by
 have h1:=q.far p hp;have:=Ap hk;rw[aS _ _ _ (by omega)];exact hf p hp
theorem FarEq.updL {h:c7}{F:List (Nat×AObj)}{l:List (Nat×Option AObj)}(I:TF F) (hf:FarEq h F) (hk:(l.all fun p=>Nat.blt p.1 800)=true:=by rfl):FarEq (updL h l) F:=fun p hp=>by
 have h1:=I.far p hp;simp only[Go.AM.updL];have:look l p.1=none:=hY fun hm=>by
  obtain⟨q,J,e⟩:=Af.1 hm;have:=Ap ((Au.1 hk) q J);omega
 rw[this];exact hf p hp
theorem uX {hl F:List (Nat×AObj)}(I:TF F) (h1:distinct (hl.map (·.1))=true) (h2:(hl.all fun p=>Nat.blt p.1 800)=true):((hl++F).map (·.1)).Nodup:=by
 rw[A4,Cg];refine⟨dG h1,I.nodup,fun a ha b hb e=>?_⟩;subst e;obtain⟨p,hp,rfl⟩:=Af.1 ha;obtain⟨q,J,e⟩:=Af.1 hb;have:=Ap ((Au.1 h2) p hp);have:=I.far q J;omega
theorem nL {hl F:List (Nat×AObj)}(q:TF F) (h:∀x∈cO hl,x∈keys hl∨x∈keys F):∀x∈cO (hl++F),x∈keys (hl++F):=fun x hx=>by
 rw[iQ,q.refs,A8] at hx;unfold keys at h ⊢;rw[A4,δ];exact h x hx
theorem Sub.tailT {kf:List Nat}{q:St}{el:List (Nat×V)}{hl F:List (Nat×AObj)}(σ:Nat→Nat) (I:TF F) (he:dM (fun p=>q.e p.1=some (p.2.ren σ)) el) (hh:dM (fun p=>∃o,q.h (σ p.1)=some o∧Ole σ o p.2) hl)
  (J:∀p∈F,∃o,q.h (σ p.1)=some o∧Ole σ o p.2) (hd:q.d=[]) (h1:∀x∈kL el,x∈keys hl∨x∈keys F) (h2:∀x∈cO hl,x∈keys hl∨x∈keys F) (h3:((hl++F).map fun p=>σ p.1).Nodup) (h4:∀i∈kf,(i∈keys hl∨i∈keys F)∧σ i=i):
  Sub kf (mkt el hl F) q:=by
 rw[aLm I];refine Sub.list σ he (dM.app hh (dM.of J)) ?_;have hk:∀x,(x∈keys hl∨x∈keys F)→x∈(hl++F).map (·.1):=fun x hx=>by rw[A4,δ];exact hx
 simp only[aU4,Ac];refine⟨⟨⟨⟨⟨eD fun x hx=>hk x (h1 x hx),eD (nL I h2)⟩,fP h3⟩,eD fun x hx=>hk x (h4 x hx).1⟩,Au.2 fun i hi=>by rw[(h4 i hi).2];simp⟩,by rw[hd];rfl⟩
theorem slT {kf:List Nat}{q:St}{el:List (Nat×V)}{hl F:List (Nat×AObj)}(I:TF F) (hf:FarEq q.h F) (h1:∀x∈kL el,x∈keys hl∨x∈keys F) (h2:∀x∈cO hl,x∈keys hl∨x∈keys F) (h4:∀i∈kf,i∈keys hl∨i∈keys F)
  (he:dM (fun p=>q.e p.1=some (p.2.ren (fun i=>i))) el:=by repeat (first | exact trivial | refine⟨by first | rfl | exact congrArg some (V.ren_id _).symm,?_⟩))
  (hh:dM (fun p=>∃o,q.h p.1=some o∧Ole (fun i=>i) o p.2) hl:=by repeat (first | exact trivial | refine⟨⟨_,rfl,by first | exact Go.AM.Ole.arr | exact Go.AM.Ole.var rfl | exact Go.AM.Ole.varS rfl | exact Go.AM.Ole.map | exact Go.AM.Ole.rarrS rfl⟩,?_⟩))
  (hd:q.d=[]:=by rfl) (h3:distinct (hl.map (·.1))=true:=by rfl) (h3':(hl.all fun p=>Nat.blt p.1 800)=true:=by rfl):Sub kf (mkt el hl F) q:=
 Sub.tailT (fun i=>i) I he hh (fun p hp=>⟨p.2,hf p hp,.refl_id (by intro e;have:=(I.ok p hp).1;rw[e] at this;cases this)⟩) hd h1 h2 (uX I h3 h3') fun i hi=>⟨h4 i hi,rfl⟩
section
variable {P:Program}{T:TT}
theorem tY {f:FuncId}{fn:Func}{c:Code}{n:Nat}{args:List V}{hl F hout:List (Nat×AObj)}{res:V}(q:TF F) (I:Tok P T) (hf:P.funcs[f]?=some fn) (hb:fn.body=some c) (hn:fn.ntmps=n) (hle:Nat.ble args.length n=true)
  (h:AWp none P n (keys (hl++F)) c (mkt (aOf 0 args) hl F) (fun ex st=>(ex=.normal∨ex=.ret)∧Fin T fn st (hl++F) res hout)):aQ P f args (hl++F) res hout:=bM I hf hb hn hle (by rw[aLm q] at h;exact h)
theorem aDa {fn:Func}{st:St}{hin hl F:List (Nat×AObj)}{res:V}(q:TF F) (hf:FarEq st.h F) (hex:∃vs vs',ResV T st fn.results.toList vs∧Convs st.h vs vs'∧aIq vs'=res)
  (h1:∀x∈res.refs,x∈keys hl∨x∈keys F) (h2:∀x∈cO hl,x∈keys hl∨x∈keys F) (h4:∀i∈keys hin,i∈keys hl∨i∈keys F) (h5:∀p∈hin,p.2.plain=true)
  (hh:dM (fun p=>∃o,st.h p.1=some o∧Ole (fun i=>i) o p.2) hl:=by repeat (first | exact trivial | refine⟨⟨_,rfl,by first | exact Go.AM.Ole.arr | exact Go.AM.Ole.var rfl | exact Go.AM.Ole.varS rfl | exact Go.AM.Ole.map | exact Go.AM.Ole.rarrS rfl⟩,?_⟩))
  (h3:distinct (hl.map (·.1))=true:=by rfl) (h3':(hl.all fun p=>Nat.blt p.1 800)=true:=by rfl) (I:(hl.all fun p=>p.2.plain)=true:=by rfl):Fin T fn st hin res (hl++F):=by
 refine⟨hex,dM.app hh (dM.of fun p hp=>⟨p.2,hf p hp,.refl_id (by intro e;have:=(q.ok p hp).1;rw[e] at this;cases this)⟩),?_⟩;have hk:∀x,(x∈keys hl∨x∈keys F)→x∈keys (hl++F):=fun x hx=>by unfold keys at *;rw[A4,δ];exact hx
 simp only[Ac];refine⟨⟨⟨⟨⟨eD fun x hx=>hk x (h1 x hx),eD (nL q h2)⟩,fP (uX q h3 h3')⟩,eD fun x hx=>hk x (h4 x hx)⟩,Au.2 h5⟩,?_⟩;rw[all_append,Ac];exact⟨I,Au.2 fun p hp=>(q.ok p hp).2⟩
end
theorem rE {h:c7}{hl F:List (Nat×AObj)}(q:TF F):updL h (outs (hl++F))=fun i=>bif Nat.blt i 800 then updL h (outs hl) i else updL h (outs (hl++F)) i:=by
 funext i;by_cases hi:i<800
 ·rw[aIf hi,Bo,eT,eT,rB,q.near hi];cases look hl i<;>rfl
 ·rw[aA2 (Nat.le_of_not_lt hi),Bs]
theorem FarEq.outs {h:c7}{hl F:List (Nat×AObj)}(q:TF F) (hk:(hl.all fun p=>Nat.blt p.1 800)=true:=by rfl):FarEq (Go.AM.updL h (Go.AM.outs (hl++F))) F:=fun p hp=>by
 rw[eT,rB,x3 hk (q.far p hp),pF q.nodup p hp]
theorem FarEq.bif {h q:c7}{F:List (Nat×AObj)}(I:TF F) (hf:FarEq h F):FarEq (fun i=>bif Nat.blt i 800 then q i else h i) F:=fun p hp=>by
 show(bif Nat.blt p.1 800 then q p.1 else h p.1)=_;rw[aA2 (I.far p hp)];exact hf p hp
theorem nE {args:List V}{hl F:List (Nat×AObj)}(q:TF F) (h1:∀x∈V.refsL args,x∈keys hl∨x∈keys F) (h2:∀x∈cO hl,x∈keys hl∨x∈keys F) (h3:(hl.all fun p=>p.2.live)=true:=by rfl):callOk args (hl++F)=true:=by
 have hk:∀x,(x∈keys hl∨x∈keys F)→x∈keys (hl++F):=fun x hx=>by unfold keys at *;rw[A4,δ];exact hx
 simp only[callOk,Ac];refine⟨⟨eD fun x hx=>hk x (h1 x hx),eD (nL q h2)⟩,?_⟩;rw[all_append,Ac];exact⟨h3,Au.2 fun p hp=>(q.ok p hp).1⟩
theorem FarEq.all {h:c7}{F:List (Nat×AObj)}(hf:FarEq h F):dM (fun p=>h p.1=some p.2) F:=dM.of hf
theorem aQ.toR {P:Program}{f:FuncId}{args:List V}{id te es n:Nat}{elems:List (List C)}(h:aQ P f args [] (.one (.hs id 0 n n)) [(id,.arr te es elems 0)]):aQ P f args [] (.one (.ra id 0 n n)) [(id,.rarr te es (elems.map (·.map R.c)))]:=by
 intro S μ w vals W hv;refine Calls.mono (h S μ w vals W hv) ?_;rintro e w' ⟨S',μ',v,h1,h2,h3⟩;have key:∀{o:AObj} {j:Nat} {x:AObj},look [(id,o)] j=some x→j=id∧x=o:=by
  intro o j x q;simp only[look] at q;split at q
  ·rename_i hb;cases q;exact⟨ε hb,rfl⟩
  ·cases q
 have hid:∀o:AObj,look [(id,o)] id=some o:=fun o=>by simp[look]
 have J:(elems.map (·.map R.c)).flatten=elems.flatten.map R.c:=by rw[List.map_flatten]
 refine⟨S',μ',v,h1,⟨h2.holds,fun j o q=>?_,fun i j o o' b c c' hi q _ _=>?_,fun i o b c hi hm=>?_,h2.frame,h2.sle,h2.sto,⟨h2.evo.le,fun j o q=>by cases q⟩,h2.fre⟩,?_⟩
 ·obtain⟨rfl,rfl⟩:=key q;obtain⟨g0,g⟩:=h2.obj j _ (hid _);refine⟨fun r Y=>?_,?_⟩
  ·obtain⟨r',N,rfl⟩:=Af.1 Y;rw[θ];exact g0 r' N
  ·rcases g with⟨g1,g2⟩ | ⟨b,base,cap,vs,g1,g2,g3,g4,g5,g6,g7,g8,g9⟩
   ·exact .inl ⟨g1,by rw[g2];rfl⟩
   ·refine .inr ⟨b,base,cap,vs,g1,g2,g3,by rw[θ];exact g4,g5,?_,g7 rfl⟩;rw[J,θ];exact g6.toR
 ·rw[(key hi).1,(key q).1]
 ·obtain⟨rfl,rfl⟩:=key hi;exact h2.own i _ b c (hid _) hm
 ·simp only[aT,b6] at h3 ⊢;obtain⟨Z,k | ⟨te',es',el',fz',O,k2,k3⟩⟩:=h3
  ·rw[hid] at k;cases k
  ·rw[hid] at O;cases O;refine⟨Z,.inr ⟨te,es,_,hid _,by rw[θ];exact k2,fun e=>?_⟩⟩;rw[θ] at e;obtain⟨q1,I⟩:=k3 e;refine⟨q1,?_⟩;rcases I with⟨I,q3,q4⟩ | I
   ·exact .inl ⟨I,by rw[q3];rfl,q4⟩
   ·exact .inr I
structure GW (G F:List (Nat×AObj)):Prop where
 tf:TF F
 refs:∀x∈cO G,x∈keys G∨x∈keys F
 near:(G.all fun p=>Nat.blt p.1 800)=true
 plain:(G.all fun p=>p.2.plain)=true
theorem gV {α:Type}{a b:List (Nat×α)}{x:Nat}:x∈keys (a++b)↔x∈keys a∨x∈keys b:=by unfold keys;rw[A4,δ]
theorem GW.kf {G F:List (Nat×AObj)}:∀i∈keys (G++F),i∈keys G∨i∈keys F:=fun _ h=>gV.1 h
def Kn (ex G F:List (Nat×AObj)) (x:Nat):Prop:=x∈keys ex∨x∈keys G∨x∈keys F
theorem Kn.of {l:List Nat}{ex G F:List (Nat×AObj)}(h:subset l (keys ex++keys G)=true):∀x∈l,Kn ex G F x:=fun x hx=>by
 rcases δ.1 (bB h x hx) with h | h
 ·exact .inl h
 ·exact .inr (.inl h)
theorem Kn.app {a b:List Nat}{ex G F:List (Nat×AObj)}(h:∀x∈a,Kn ex G F x) (k:∀x∈b,Kn ex G F x):∀x∈a++b,Kn ex G F x:=fun x hx=>(δ.1 hx).elim (h x) (k x)
def GF (G F:List (Nat×AObj)) (l:List Nat):Prop:=∀x∈l,x∈keys G∨x∈keys F
theorem Kn.gf {l:List Nat}{ex G F:List (Nat×AObj)}(h:GF G F l):∀x∈l,Kn ex G F x:=fun x hx=>.inr (h x hx)
theorem GF.app {G F:List (Nat×AObj)}{a b:List Nat}(h:GF G F a) (k:GF G F b):GF G F (a++b):=fun x hx=>(δ.1 hx).elim (h x) (k x)
theorem Kn.nil {ex G F:List (Nat×AObj)}:∀x∈([]:List Nat),Kn ex G F x:=fun _ h=>by cases h
theorem zL {ex:List (Nat×AObj)}{p:Nat→Prop}(h:dM (fun q=>∀x∈q.2.refs,p x) ex):∀x∈cO ex,p x:=by
 induction ex with
 | nil=>intro x hx;cases hx
 | cons q l I=>
  intro x hx;rcases δ.1 (show x∈q.2.refs++cO l from hx) with hx | hx
  ·exact h.1 x hx
  ·exact I h.2 x hx
theorem Kn.split {ex G F:List (Nat×AObj)}{x:Nat}(h:Kn ex G F x):x∈keys (ex++G)∨x∈keys F:=by
 rcases h with h | h | h
 ·exact .inl (gV.2 (.inl h))
 ·exact .inl (gV.2 (.inr h))
 ·exact .inr h
theorem GW.all {ex G F:List (Nat×AObj)}(W:GW G F) (h2:dM (fun q=>∀x∈q.2.refs,Kn ex G F x) ex):∀x∈cO (ex++G),x∈keys (ex++G)∨x∈keys F:=fun x hx=>by
 rw[iQ] at hx;rcases δ.1 hx with hx | hx
 ·exact(zL h2 x hx).split
 ·exact(W.refs x hx).imp (fun h=>gV.2 (.inr h)) id
theorem slG {kf:List Nat}{I:St}{el:List (Nat×V)}{ex G F:List (Nat×AObj)}(W:GW G F)
  (h4:∀i∈kf,i∈keys G∨i∈keys F:=by exact Go.AM.GW.kf)
  (hf:FarEq I.h F:=by repeat (first | exact Go.AM.FarEq.raw (by assumption) | (refine Go.AM.FarEq.updL (by assumption) ?_) | (refine Go.AM.FarEq.upd (by assumption) ?_) | (refine Go.AM.FarEq.hfz (by assumption) ?_)))
  (h1:∀x∈kL el,Kn ex G F x:=by exact Go.AM.Kn.of rfl)
  (h2:dM (fun q=>∀x∈q.2.refs,Kn ex G F x) ex:=by repeat (first | exact trivial | refine⟨by first | exact Go.AM.Kn.of rfl | exact Go.AM.Kn.gf (by assumption),?_⟩))
  (he:dM (fun p=>I.e p.1=some (p.2.ren (fun i=>i))) el:=by repeat (first | exact trivial | refine⟨by first | rfl | exact congrArg some (V.ren_id _).symm,?_⟩))
  (hh:dM (fun p=>∃o,I.h p.1=some o∧Ole (fun i=>i) o p.2) (ex++G):=by repeat (first | exact trivial | refine⟨⟨_,rfl,by first | exact Go.AM.Ole.arr | exact Go.AM.Ole.var rfl | exact Go.AM.Ole.varS rfl | exact Go.AM.Ole.map | exact Go.AM.Ole.rarrS rfl⟩,?_⟩))
  (hd:I.d=[]:=by rfl) (h3:distinct ((ex++G).map (·.1))=true:=by rfl) (h3':((ex++G).all fun p=>Nat.blt p.1 800)=true:=by rfl):Sub kf (mkt el (ex++G) F) I:=
 slT W.tf hf (fun x hx=>(h1 x hx).split) (W.all h2) (fun i hi=>(h4 i hi).imp (fun h=>gV.2 (.inr h)) id) he hh hd h3 h3'
theorem rtG {T:TT}{fn:Func}{st:St}{G F:List (Nat×AObj)}{res:V}{t:Nat}(W:GW G F) (q:fn.results.toList=[.tmp t]:=by rfl) (hv:st.e t=some res:=by rfl)
  (hf:FarEq st.h F:=by repeat (first | exact Go.AM.FarEq.raw (by assumption) | (refine Go.AM.FarEq.updL (by assumption) ?_) | (refine Go.AM.FarEq.upd (by assumption) ?_) | (refine Go.AM.FarEq.hfz (by assumption) ?_)))
  (h1:∀x∈res.refs,Kn [] G F x:=by exact Go.AM.Kn.of rfl)
  (hh:dM (fun p=>∃o,st.h p.1=some o∧Ole (fun i=>i) o p.2) G:=by repeat (first | exact trivial | refine⟨⟨_,rfl,by first | exact Go.AM.Ole.arr | exact Go.AM.Ole.var rfl | exact Go.AM.Ole.varS rfl | exact Go.AM.Ole.map | exact Go.AM.Ole.rarrS rfl⟩,?_⟩))
  (h3:distinct (G.map (·.1))=true:=by rfl):(Exit.ret=.normal∨Exit.ret=.ret)∧Fin T fn st (G++F) res (G++F):=by
 refine⟨.inr rfl,aDa W.tf hf ⟨[res],[res],by rw[q];exact .tmp hv .nil,.cons .refl .nil,rfl⟩ (fun x hx=>(h1 x hx).split) (fun x hx=>W.refs x hx) GW.kf (fun p hp=>?_) hh h3 W.near W.plain⟩;rcases δ.1 hp with hp | hp
 ·exact(Au.1 W.plain) p hp
 ·exact(W.tf.ok p hp).2
theorem kix {tr:Tr}{P:Program}{n:Nat}{ops:Array Oper}{draw:Bool}{k d:Nat}{st:St}{pre:REs}{Q:St→Prop}{o:Oper}{t te:TypeId}{i ei:TI}{x y:Operand}{id len sz j es q fz:Nat}{kk:IntKind}{elems:List (List C)}(hT:Tok P tr.flat)
  (hh:st.h id=some (.arr q es elems fz)) (hx:opv st x=some (.one (.hs id 0 len sz))) (J:sz=elems.length) (N:j<len)
  (hk:kE P n ops draw (k+1) ⟨upd st.e d (some (.one (.ep id j 0 sz))),st.h,st.d⟩ ((⟨opr x++opr y,[id]⟩,⟨some (d,some (.one (.ep id j 0 sz))),[]⟩)::pre) Q)
  (hw:tr.wf=true) (ho:ops[k]?=some o:=by rfl) (hg:o.guard=none:=by rfl) (O:o.op=.indexAddr t x y:=by rfl) (hd:o.dst=some d:=by rfl) (W:Nat.blt d n=true:=by rfl)
  (hi:tr.get t=some i:=by rfl) (Y:i.k=.sl te:=by rfl) (Z:tr.get te=some ei:=by rfl) (aa:ei.size=es:=by rfl) (hy:opv st y=some (I kk (j:Int)):=by rfl):kE P n ops draw k st pre Q:=by
 have h:=uR (P:=P) (n:=n) hT O hd (iE W) (Tr.get_ok hw hi) Y (Tr.get_ok hw Z) aa hx hh J hy rfl N;rw[A6] at h;exact k_ (g_ ho hg h) hk
theorem a3s {tr:Tr}{P:Program}{n:Nat}{ops:Array Oper}{draw:Bool}{k d:Nat}{st:St}{pre:REs}{Q:St→Prop}{o:Oper}{t te:TypeId}{i:TI}{x:Operand}{id off len sz es q fz:Nat}{elems:List (List C)}(Y:Tok P tr.flat)
  (hh:st.h id=some (.arr q es elems fz)) (hx:opv st x=some (.one (.hs id off len sz))) (J:sz=elems.length)
  (hk:kE P n ops draw (k+1) ⟨upd st.e d (some (I .i64 (len:Int))),st.h,st.d⟩ ((⟨opr x,[id]⟩,⟨some (d,some (I .i64 (len:Int))),[]⟩)::pre) Q)
  (hw:tr.wf=true) (ho:ops[k]?=some o:=by rfl) (Z:o.guard=none:=by rfl) (N:o.op=.call { callee:=.builtin .len,args:= #[x],argTypes:= #[t] }:=by rfl) (hd:o.dst=some d:=by rfl) (O:Nat.blt d n=true:=by rfl)
  (hi:tr.get t=some i:=by rfl) (W:i.k=.sl te:=by rfl):kE P n ops draw k st pre Q:=
 k_ (g_ ho Z (aFc (P:=P) (n:=n) Y N hd (iE O) (Tr.get_ok hw hi) W hx hh J)) hk
def fzH (id:Nat) (z:Fz):List (Nat×AObj)→List (Nat×AObj)
 | []=>[]
 | (k,o)::l=>(k,o.fz id z)::fzH id z l
theorem aF5 {id:Nat}{z:Fz}:∀{l:List (Nat×V)}{t:Nat},look (fzE id z l) t=(look l t).map (V.fz id z)
 | [],_=>rfl
 | (k,v)::l,t=>by
  simp only[fzE,look];cases Nat.beq t k
  ·simpa using aF5 (l:=l) (t:=t)
  ·rfl
theorem xF {id:Nat}{z:Fz}:∀{l:List (Nat×AObj)}{t:Nat},look (fzH id z l) t=(look l t).map (AObj.fz id z)
 | [],_=>rfl
 | (k,v)::l,t=>by
  simp only[fzH,look];cases Nat.beq t k
  ·simpa using xF (l:=l) (t:=t)
  ·rfl
section
variable {id n es:Nat}{l:List R}
mutual
theorem R.fz_far:∀(r:R),id∉r.refs→r.fz id (.ra n es l)=r
 | .c _,_=>rfl
 | .hs ..,_=>rfl
 | .tl ..,_=>rfl
 | .vp ..,_=>rfl
 | .ep ..,_=>rfl
 | .mr _,_=>rfl
 | .clo f caps,h=>by simp only[R.fz,R.fzL_far caps (by simpa only[R.refs] using h)]
 | .mth f x,h=>by simp only[R.fz,R.fz_far x (by simpa only[R.refs] using h)]
 | .yl _,_=>rfl
 | .ra j off len sz,h=>by
  have q:j≠id:=fun e=>h (by simp[R.refs,e])
  have hb:Nat.beq j id=false:=by
   cases hb:Nat.beq j id with
   | false=>rfl
   | true=>exact absurd (ε hb) q
  simp[R.fz,hb]
 | .rp j i fo sz,h=>by
  have q:j≠id:=fun e=>h (by simp[R.refs,e])
  have hb:Nat.beq j id=false:=by
   cases hb:Nat.beq j id with
   | false=>rfl
   | true=>exact absurd (ε hb) q
  simp[R.fz,hb]
 | .ras m e r,h=>by simp only[R.fz,R.fzL_far r (by simpa only[R.refs] using h)]
 | .pas r,h=>by simp only[R.fz,R.fzL_far r (by simpa only[R.refs] using h)]
theorem R.fzL_far:∀(r:List R),id∉R.refsL r→R.fzL id (.ra n es l) r=r
 | [],_=>rfl
 | r::rs,h=>by
  simp only[R.refsL,δ,not_or] at h;simp only[R.fzL,R.fz_far r h.1,R.fzL_far rs h.2]
end
theorem sM:∀(r:List (List R)),id∉bY r→fzR id (.ra n es l) r=r
 | [],_=>rfl
 | r::rs,h=>by
  simp only[bY,δ,not_or] at h;simp only[fzR,R.fzL_far r h.1,sM rs h.2]
theorem aQx {m:Nat}(h:m=n):R.fz id (.ra n es l) (.ra id 0 m m)=.ras n es l:=by subst h;simp[R.fz]
end
theorem Sub.fraT {kf:List Nat}{el:List (Nat×V)}{rest F:List (Nat×AObj)}{id te es:Nat}{rows:List (List R)}(hF:TF F) (O:id∉kf) (W:id∉bY rows) (I:Nat.blt id 800=true:=by rfl) (Y:distinct (id::rest.map (·.1))=true:=by rfl):
  Sub kf (mkt (fzE id (.ra rows.length es rows.flatten) el) (fzH id (.ra rows.length es rows.flatten) rest) F) (mkt el ((id,.rarr te es rows)::rest) F):=by
 have J:id∉R.refsL rows.flatten:=by
  have key:∀l:List (List R),R.refsL l.flatten=bY l:=by
   intro l
   induction l with
   | nil=>rfl
   | cons r l ih=>rw[Bf,R.refsL_append,ih];rfl
  rw[key];exact W
 have h:=Sub.fra (kf:=kf) (st:=mkt el ((id,.rarr te es rows)::rest) F) (id:=id) (te:=te) (es:=es) (elems:=rows) (by
  show(match look ((id,AObj.rarr te es rows)::rest) id with | some x=>some x | none=>_)=_
  rw[bD]) O (R.fzL_far _ J) J
 have e:(⟨fun t=>((mkt el ((id,.rarr te es rows)::rest) F).e t).map (V.fz id (.ra rows.length es rows.flatten)),hfz id (.ra rows.length es rows.flatten) (mkt el ((id,.rarr te es rows)::rest) F).h,(mkt el ((id,.rarr te es rows)::rest) F).d⟩:St)=
   mkt (fzE id (.ra rows.length es rows.flatten) el) (fzH id (.ra rows.length es rows.flatten) rest) F:=by
  unfold mkt;congr 1
  ·funext t;exact aF5.symm
  ·funext j;have q:=dG Y;simp only[Bv] at q;have hid:=Ap I;by_cases N:j=id
   ·subst N;rw[aS8,xF,hY q.1,C0];simp only[I,Bo]
   ·rw[jO N];show Option.map _ (match look ((id,AObj.rarr te es rows)::rest) j with | some x=>some x | none=>bif Nat.blt j 800 then none else look F j)=_;rw[bN N,xF];cases look rest j with
    | some x=>rfl
    | none=>
     simp only[C0];by_cases Z:j<800
     ·simp only[aIf Z,Bo,C0]
     ·simp only[aA2 (Nat.le_of_not_lt Z),Bs];cases hl:look F j with
      | none=>rfl
      | some o=>
       obtain⟨te',es',l',z',ho⟩:=hF.arr _ (bH hl);have ho:o=_:=ho;subst ho;rfl
 rw[e] at h;exact h
end Go.AM
namespace Go.Proofs.YtglfogjcijokpaaGreatDoor
open Go Go.AM
set_option maxRecDepth 20000
def dV (f n:Int) (s:Str) (t:Ty) (nk nb na:Nat):List R:=[.c (.int .i64 f),.c (.int .i64 n),.c (.str s),.c (.int .i64 t.form),.c (.int .i64 t.n),.c (.str t.name),.c (.sl 4 (gD t)),.hs 702 0 nk nk,.hs 701 0 nb nb,.ra 703 0 na na]
def dL (k:Nat) (a:Alt):List R:=[.c (.int .i64 a.form),.c (.int .i64 a.n),.c (.str a.name),.hs (k+800) 0 a.vars.length a.vars.length]++(aC a.body).map R.c
def aV:Nat→List Alt→List (List R)
 | _,[]=>[]
 | k,a::l=>dL k a::aV (k+1) l
def fam:Nat→List Alt→List (Nat×AObj)
 | _,[]=>[]
 | k,a::l=>(k+800,.arr 9 1 (a.vars.map bL) 0)::fam (k+1) l
theorem mK:∀{l:List Alt}{k i:Nat}{a:Alt},l[i]?=some a→(aV k l)[i]?=some (dL (k+i) a)
 | b::l,k,0,a,h=>by simp at h;subst h;rfl
 | b::l,k,i+1,a,h=>by
  simp only[aV,Bh];rw[mK (by simpa using h),show k+1+i=k+(i+1) by omega]
theorem dT:∀{l:List Alt}{k:Nat},(aV k l).length=l.length
 | [],_=>rfl
 | _::l,k=>by simp[aV,dT (l:=l)]
theorem aAl:∀{l:List Alt}{k i:Nat}{a:Alt},l[i]?=some a→(k+i+800,AObj.arr 9 1 (a.vars.map bL) 0)∈fam k l
 | b::l,k,0,a,h=>by simp at h;subst h;exact η
 | b::l,k,i+1,a,h=>by
  have:=aAl (l:=l) (k:=k+1) (by simpa using h);rw[show k+1+i=k+(i+1) by omega] at this;exact ω _ this
theorem nC:∀{l:List Alt}{k:Nat}{p:Nat×AObj},p∈fam k l→∃i a,l[i]?=some a∧p=(k+i+800,AObj.arr 9 1 (a.vars.map bL) 0)
 | b::l,k,p,h=>by
  rcases Ai.1 h with rfl | h
  ·exact⟨0,b,rfl,rfl⟩
  ·obtain⟨i,a,h1,h2⟩:=nC h;exact⟨i+1,a,h1,by rw[h2,show k+1+i=k+(i+1) by omega]⟩
theorem lI:∀{l:List Alt}{k:Nat},((fam k l).map (·.1)).Nodup
 | [],_=>nodup_nil
 | a::l,k=>by
  simp only[fam,Al];refine Bv.2 ⟨fun h=>?_,lI⟩;obtain⟨p,hp,e⟩:=Af.1 h;obtain⟨i,b,_,rfl⟩:=nC hp;simp only at e;omega
theorem fH {l:List Alt}{k:Nat}:TF (fam k l):=⟨fun p hp=>by obtain⟨i,a,_,rfl⟩:=nC hp;simp only;omega,lI,fun p hp=>by obtain⟨i,a,_,rfl⟩:=nC hp;exact⟨_,_,_,_,rfl⟩⟩
theorem aMs {l:List Alt}{k i:Nat}(h:i<l.length):k+i+800∈keys (fam k l):=by
 obtain⟨a,ha⟩:=aJ h;exact Af.2 ⟨_,aAl ha,rfl⟩
theorem qI {k:Nat}{a:Alt}{x:Nat}(h:x∈R.refsL (dL k a)):x=k+800:=by
 unfold dL aC at h;simpa [R.refsL,R.refs] using h
theorem cK:∀{l:List Alt}{k:Nat},∀x∈bY (aV k l),x∈keys (fam k l)
 | [],_,x,h=>by simp[aV,bY] at h
 | a::l,k,x,h=>by
  rcases δ.1 (show x∈R.refsL (dL k a)++bY (aV (k+1) l) from h) with h | h
  ·rw[qI h];exact η
  ·exact ω _ (cK x h)
def gHl (f n:Int) (s:Str) (t:Ty) (ks:List Core) (bs:List Bind) (al:List Alt):List (Nat×AObj):=
 [(700,.var 34 (dV f n s t ks.length bs.length al.length)),(701,.arr 69 15 (aU bs) 0),(702,.arr 34 10 (aR ks) 0),(703,.rarr 71 14 (aV 0 al))]
theorem rD {f n:Int}{s:Str}{t:Ty}{ks:List Core}{bs:List Bind}{al:List Alt}:∀x∈cO (gHl f n s t ks bs al),x∈keys (gHl f n s t ks bs al)∨x∈keys (fam 0 al):=fun x hx=>by
 simp only[gHl,cO,AObj.refs,dV,R.refsL,R.refs,Bd,A8,δ,Ai,not_mem_nil,or_false] at hx;rcases hx with(rfl | rfl | rfl) | hx
 ·exact .inl (by simp[gHl,keys])
 ·exact .inl (by simp[gHl,keys])
 ·exact .inl (by simp[gHl,keys])
 ·exact .inr (cK x hx)
theorem gW {f n:Int}{s:Str}{t:Ty}{ks:List Core}{bs:List Bind}{al:List Alt}:GW (gHl f n s t ks bs al) (fam 0 al):=⟨fH,rD,rfl,rfl⟩
def gNm:Bool→List (List R)
 | true=>[[.vp 700 2]]
 | false=>[]
def gPo (rows:List (List R)):AObj:=.rarr 91 1 rows
def gNo (rows:List (List R)):AObj:=.rarr 133 1 rows
def rgR (f:Nat→List R) (k:Nat):List (List R):=(List.range k).map f
theorem r4 (f:Nat→List R) (k:Nat):rgR f (k+1)=rgR f k++[f k]:=by unfold rgR;rw[List.range_succ,A4];rfl
theorem fZ (f:Nat→List R) (k:Nat):(rgR f k).length=k:=by simp[rgR]
theorem lY {f:Nat→List R}{L:Nat→Prop}(h:∀j,∀x∈R.refsL (f j),L x) (k:Nat):∀x∈bY (rgR f k),L x:=by
 have key:∀rows:List (List R),(∀r∈rows,∀x∈R.refsL r,L x)→∀x∈bY rows,L x:=by
  intro rows
  induction rows with
  | nil=>intro _ x hx;simp[bY] at hx
  | cons r rows J=>
   intro I x hx;rcases δ.1 (show x∈R.refsL r++bY rows from hx) with hx | hx
   ·exact I r η x hx
   ·exact J (fun q N=>I q (ω _ N)) x hx
 refine key _ fun r I=>?_
 obtain⟨j,_,rfl⟩:=Af.1 I;exact h j
def nR (b:Bool) (nb i:Nat):List (List R):=gNm b++rgR (fun j=>[.ep 701 j 0 nb]) i
def pR (nk nb i:Nat):List (List R):=rgR (fun j=>[.ep 702 j 0 nk]) nk++rgR (fun j=>[.ep 701 j 5 nb]) i
def vR (k nv i:Nat):List (List R):=rgR (fun j=>[.ep (k+800) j 0 nv]) i
def lU (na k:Nat) (a:Alt):List R:=[.ras (vR k a.vars.length a.vars.length).length 1 (vR k a.vars.length a.vars.length).flatten,.ras 1 1 [.rp 703 k 4 na]]
def aG7 (na:Nat):Nat→List Alt→List (List R)
 | _,[]=>[]
 | k,a::l=>lU na k a::aG7 na (k+1) l
def pH (b:Bool) (nk nb:Nat):List R:=[.ras (nR b nb nb).length 1 (nR b nb nb).flatten,.ras (pR nk nb nb).length 1 (pR nk nb nb).flatten]
def bV (b:Bool) (nk nb na:Nat) (l:List Alt):List (List R):=pH b nk nb::aG7 na 0 l
theorem yH {q:Nat}:∀{l:List Alt}{k:Nat},(aG7 q k l).length=l.length
 | [],_=>rfl
 | _::l,k=>by simp[aG7,yH (l:=l)]
theorem aBc {q:Nat}:∀{l:List Alt}{k i:Nat}{a:Alt},l[i]?=some a→aG7 q k (l.take (i+1))=aG7 q k (l.take i)++[lU q (k+i) a]
 | b::l,k,0,a,h=>by simp at h;subst h;simp[aG7]
 | b::l,k,i+1,a,h=>by
  simp only[Ar,aG7,Bc];rw[aBc (l:=l) (k:=k+1) (by simpa using h),show k+1+i=k+(i+1) by omega]
theorem aOi {q:Nat}:∀{l:List Alt}{k i:Nat}{a:Alt},l[i]?=some a→(aG7 q k l)[i]?=some (lU q (k+i) a)
 | b::l,k,0,a,h=>by simp at h;subst h;rfl
 | b::l,k,i+1,a,h=>by
  simp only[aG7,Bh];rw[aOi (by simpa using h),show k+1+i=k+(i+1) by omega]
theorem dB:∀{rows:List (List R)},R.refsL rows.flatten=bY rows
 | []=>rfl
 | r::rows=>by
  rw[Bf,R.refsL_append,dB];rfl
theorem aQw {G F:List (Nat×AObj)}{f:Nat→List R}(h:∀j,GF G F (R.refsL (f j))) (k:Nat):GF G F (bY (rgR f k)):=lY h k
theorem jL:∀(a b:List (List R)),bY (a++b)=bY a++bY b
 | [],_=>rfl
 | r::a,b=>by simp only[Bc,bY,jL a b,A0]
section
variable {f n:Int}{s:Str}{t:Ty}{ks:List Core}{bs:List Bind}{al:List Alt}
abbrev gfo (f n:Int) (s:Str) (t:Ty) (ks:List Core) (bs:List Bind) (al:List Alt) (l:List Nat):Prop:=GF (gHl f n s t ks bs al) (fam 0 al) l
theorem a3c (nk i:Nat):gfo f n s t ks bs al (bY (rgR (fun j=>[.ep 702 j 0 nk]) i)):=aQw (fun j x hx=>.inl (by
 have:x=702:=by simpa [R.refsL,R.refs] using hx
 subst this;simp[gHl,keys])) i
theorem aS9 (b:Bool) (nb i:Nat):gfo f n s t ks bs al (bY (nR b nb i)):=by
 unfold nR;rw[jL];refine GF.app ?_ (aQw (fun j x hx=>.inl ?_) i)
 ·cases b
  ·exact fun x hx=>by simp[gNm,bY] at hx
  ·intro x hx;have:x=700:=by simpa [gNm,bY,R.refsL,R.refs] using hx
   subst this;exact .inl (by simp[gHl,keys])
 ·have:x=701:=by simpa [R.refsL,R.refs] using hx
  subst this;simp[gHl,keys]
theorem aO1 (nk nb i:Nat):gfo f n s t ks bs al (bY (pR nk nb i)):=by
 unfold pR;rw[jL];refine GF.app (a3c _ _) (aQw (fun j x hx=>.inl ?_) i);have:x=701:=by simpa [R.refsL,R.refs] using hx
 subst this;simp[gHl,keys]
theorem a1b {k:Nat}(hk:k<al.length) (nv i:Nat):gfo f n s t ks bs al (bY (vR k nv i)):=by
 unfold vR;refine aQw (fun j x hx=>.inr ?_) i;have:x=k+800:=by simpa [R.refsL,R.refs] using hx
 subst this;have:=aMs (k:=0) hk;rwa [A6] at this
theorem aZp {k:Nat}(hk:k<al.length) (a:Alt):gfo f n s t ks bs al (R.refsL (lU al.length k a)):=by
 unfold lU;simp only[R.refsL,R.refs,dB,A8];refine GF.app (a1b hk _ _) fun x hx=>.inl ?_
 have:x=703:=by simpa using hx
 subst this;simp[gHl,keys]
theorem aMe:∀{l:List Alt}{k:Nat},k+l.length≤al.length→gfo f n s t ks bs al (bY (aG7 al.length k l))
 | [],_,_=>fun x hx=>by simp[aG7,bY] at hx
 | a::l,k,h=>by
  simp only[Ak] at h;exact GF.app (aZp (by omega) a) (aMe (by omega))
theorem n9 (b:Bool) (i:Nat):gfo f n s t ks bs al (bY (bV b ks.length bs.length al.length (al.take i))):=by
 unfold bV;refine GF.app ?_ (aMe (by simp;omega));unfold pH;simp only[R.refsL,R.refs,dB,A8];exact GF.app (aS9 _ _ _) (aO1 _ _ _)
end
theorem jJ {f n:Int}{s:Str}{t:Ty}{ks:List Core}{bs:List Bind}{al:List Alt}{l:List Nat}(h:gfo f n s t ks bs al l) {id:Nat}(h1:703<id) (h2:id<800):id∉l:=fun hx=>by
 rcases h id hx with h | h
 ·have:id=700∨id=701∨id=702∨id=703:=by simpa [gHl,keys] using h
  omega
 ·obtain⟨p,hp,e⟩:=Af.1 h;have:=fH.far p hp;omega
theorem aZq {f n:Int}{s:Str}{t:Ty}{ks:List Core}{bs:List Bind}{al:List Alt}{id:Nat}(h1:703<id) (h2:id<800):id∉keys (gHl f n s t ks bs al++fam 0 al):=jJ (fun _ hx=>gV.1 hx) h1 h2
theorem sN {f n:Int}{s:Str}{t:Ty}{ks:List Core}{bs:List Bind}{al:List Alt}{id m es:Nat}{l:List R}(h1:703<id) (h2:id<800):fzH id (.ra m es l) (gHl f n s t ks bs al)=gHl f n s t ks bs al:=by
 have hb:Nat.beq 703 id=false:=by
  cases hb:Nat.beq 703 id with
  | false=>rfl
  | true=>have:=ε hb;omega
 have q:id∉bY (aV 0 al):=jJ (fun x hx=>.inr (cK x hx)) h1 h2 (f:=f) (n:=n) (s:=s) (t:=t) (ks:=ks) (bs:=bs);simp only[gHl,fzH,AObj.fz,dV,R.fzL,R.fz,hb,sM _ q,A1,Br]
theorem sX (b:Bool) (f n:Int) (s:Str) (t:Ty) (ks:List Core) (bs:List Bind) (al:List Alt) (hb5:decide (f=5)=b) (hk:ks.length≤600000000000) (hb:bs.length≤600000000000) (ha:al.length≤600000000000) (hv:∀a∈al,a.vars.length≤600000000000):
  aQ Tryz.prog 40 [.one (.vp 700 0)] (gHl f n s t ks bs al++fam 0 al) (.one (.ras (bV b ks.length bs.length al.length al).length 2 (bV b ks.length bs.length al.length al).flatten)) (gHl f n s t ks bs al++fam 0 al):=by
 have hF:TF (fam 0 al):=fH;have W:GW (gHl f n s t ks bs al) (fam 0 al):=gW;have hkB:(aU bs).length=bs.length:=by rw[bX,θ]
 have hkK:(aR ks).length=ks.length:=by rw[bA,θ]
 refine tY hF (n:=123) tok Tryz.func40 rfl rfl rfl ?_;refine sg rfl (sg rfl (AWp.sub (Sub.ownCellR (x:=3) (k:=1) (id:=712) 91 1 rfl rfl rfl) (AWp.sub (Sub.ownCellR (x:=3) (k:=0) (id:=711) 133 1 rfl rfl rfl) ?_)));refine a8 (sg rfl (aB (aK (fun i:Nat=>mkt [(0,.one (.vp 700 0)),(3,.one (.vp 3 0)),(16,I .i64 ((ks.length:Nat):Int)),(17,I .i64 i)] ([(712,gPo (rgR (fun j=>[.ep 702 j 0 ks.length]) i)),(3,.var 95 [.ra 711 0 0 0,.ra 712 0 (rgR (fun j=>[.ep 702 j 0 ks.length]) i).length (rgR (fun j=>[.ep 702 j 0 ks.length]) i).length]),(711,gNo [])]++gHl f n s t ks bs al) (fam 0 al)) (fun i=>i≤ks.length) (fun i=>ks.length-i) 0 (Aj _) (slG W) ?_)));intro i hi;have hpl:=fZ (fun j=>[.ep 702 j 0 ks.length]) i;refine sg rfl (a8 (aA rfl (fun hb=>?_) (fun hb=>?_)))
 ·have q:i<ks.length:=by
   have:(i:Int)<(ks.length:Int):=ψ hb;omega
  have hst:=r4 (fun j=>[.ep 702 j 0 ks.length]) i;have hr:gfo f n s t ks bs al (gPo (rgR (fun j=>[.ep 702 j 0 ks.length]) (i+1))).refs:=a3c _ _;refine aD (a8 (aB (sg rfl (ag [] rfl (ag [] rfl ⟨i+1,q,by dsimp only;omega,?_⟩)))));dsimp only;rw[hst] at hr ⊢;refine slG W (hh:=⟨⟨_,rfl,.rarrS rfl⟩,⟨_,rfl,.var ?_⟩,⟨_,rfl,.rarrS rfl⟩,⟨_,rfl,.var rfl⟩,⟨_,rfl,.arr⟩,⟨_,rfl,.arr⟩,⟨_,rfl,.rarrS rfl⟩,trivial⟩);rw[τ];rfl
 have J:i=ks.length:=by
  have:¬(i:Int)<(ks.length:Int):=χ hb;omega
 subst J;clear hi hb hpl;have e0:rgR (fun j=>[.ep 702 j 0 ks.length]) ks.length=pR ks.length bs.length 0:=by simp[pR,rgR]
 rw[e0];have hr12:gfo f n s t ks bs al (gPo (pR ks.length bs.length 0)).refs:=aO1 _ _ _;have hr11:gfo f n s t ks bs al (gNo (nR b bs.length 0)).refs:=aS9 _ _ _;refine aL (a8 (AWp.cut (mkt [(0,.one (.vp 700 0)),(3,.one (.vp 3 0))] ([(712,gPo (pR ks.length bs.length 0)),(3,.var 95 [.ra 711 0 (nR b bs.length 0).length (nR b bs.length 0).length,.ra 712 0 (pR ks.length bs.length 0).length (pR ks.length bs.length 0).length]),(711,gNo (nR b bs.length 0))]++gHl f n s t ks bs al) (fam 0 al)) ?_ ?_))
 ·refine sg rfl (aA rfl (fun hb=>?_) (fun hb=>?_))
  ·have hb:decide (f=5)=true:=hb;rw[hb] at hb5;subst hb5;exact ag [] rfl (slG W)
  ·have hb:decide (f=5)=false:=hb;rw[hb] at hb5;subst hb5;exact aD (slG W)
 clear hr11 hr12 e0;refine a8 (sg rfl (aB (aK (fun i:Nat=>mkt [(0,.one (.vp 700 0)),(3,.one (.vp 3 0)),(49,I .i64 ((bs.length:Nat):Int)),(50,I .i64 i)] ([(712,gPo (pR ks.length bs.length i)),(3,.var 95 [.ra 711 0 (nR b bs.length i).length (nR b bs.length i).length,.ra 712 0 (pR ks.length bs.length i).length (pR ks.length bs.length i).length]),(711,gNo (nR b bs.length i))]++gHl f n s t ks bs al) (fam 0 al)) (fun i=>i≤bs.length) (fun i=>bs.length-i) 0 (Aj _) (slG W (h2:=⟨Kn.gf (aO1 _ _ _),Kn.of rfl,Kn.gf (aS9 _ _ _),trivial⟩)) ?_)));intro i hi;have hpl:(pR ks.length bs.length i).length=ks.length+i:=by unfold pR;rw[τ,fZ,fZ]
 have hnl:(nR b bs.length i).length≤1+i:=by unfold nR;rw[τ,fZ];cases b<;>simp[gNm]
 refine sg rfl (a8 (aA rfl (fun hb=>?_) (fun hb=>?_)))
 ·have q:i<bs.length:=by
   have:(i:Int)<(bs.length:Int):=ψ hb;omega
  have hst1:pR ks.length bs.length (i+1)=pR ks.length bs.length i++[[.ep 701 i 5 bs.length]]:=by unfold pR;rw[r4,A0]
  have hst2:nR b bs.length (i+1)=nR b bs.length i++[[.ep 701 i 0 bs.length]]:=by unfold nR;rw[r4,A0]
  have hr12:gfo f n s t ks bs al (gPo (pR ks.length bs.length (i+1))).refs:=aO1 _ _ _;have hr11:gfo f n s t ks bs al (gNo (nR b bs.length (i+1))).refs:=aS9 _ _ _;refine aD (a8 (aB (sg rfl (sg rfl (ag [] rfl (ag [] rfl ⟨i+1,q,by dsimp only;omega,?_⟩))))));dsimp only;rw[hst1,hst2] at *;refine slG W (hh:=⟨⟨_,rfl,.rarrS rfl⟩,⟨_,rfl,.var ?_⟩,⟨_,rfl,.rarrS rfl⟩,⟨_,rfl,.var rfl⟩,⟨_,rfl,.arr⟩,⟨_,rfl,.arr⟩,⟨_,rfl,.rarrS rfl⟩,trivial⟩);rw[τ,τ];rfl
 have J:i=bs.length:=by
  have:¬(i:Int)<(bs.length:Int):=χ hb;omega
 subst J;clear hi hb;refine aL ?_;have hn1:711∉bY (nR b bs.length bs.length):=jJ (aS9 (f:=f) (n:=n) (s:=s) (t:=t) (ks:=ks) (bs:=bs) (al:=al) b bs.length bs.length) (by omega) (by omega);have hn2:712∉bY (nR b bs.length bs.length):=jJ (aS9 (f:=f) (n:=n) (s:=s) (t:=t) (ks:=ks) (bs:=bs) (al:=al) b bs.length bs.length) (by omega) (by omega);have Y:711∉bY (pR ks.length bs.length bs.length):=jJ (aO1 (f:=f) (n:=n) (s:=s) (t:=t) (ks:=ks) (bs:=bs) (al:=al) ks.length bs.length bs.length) (by omega) (by omega);have Z:712∉bY (pR ks.length bs.length bs.length):=jJ (aO1 (f:=f) (n:=n) (s:=s) (t:=t) (ks:=ks) (bs:=bs) (al:=al) ks.length bs.length bs.length) (by omega) (by omega);refine AWp.sub (st2:=mkt [(0,.one (.vp 700 0)),(3,.one (.vp 3 0))] ((712,gPo (pR ks.length bs.length bs.length))::([(3,.var 95 [.ra 711 0 (nR b bs.length bs.length).length (nR b bs.length bs.length).length,.ra 712 0 (pR ks.length bs.length bs.length).length (pR ks.length bs.length bs.length).length]),(711,gNo (nR b bs.length bs.length))]++gHl f n s t ks bs al)) (fam 0 al)) (slG (ex:=(712,_)::[_,_]) W (h2:=⟨Kn.gf (aO1 _ _ _),Kn.of rfl,Kn.gf (aS9 _ _ _),trivial⟩)) ?_;refine AWp.sub (Sub.fraT hF (aZq (by omega) (by omega)) Z) ?_;have O:fzH 712 (.ra (pR ks.length bs.length bs.length).length 1 (pR ks.length bs.length bs.length).flatten) ([(3,.var 95 [.ra 711 0 (nR b bs.length bs.length).length (nR b bs.length bs.length).length,.ra 712 0 (pR ks.length bs.length bs.length).length (pR ks.length bs.length bs.length).length]),(711,gNo (nR b bs.length bs.length))]++gHl f n s t ks bs al)
   =[(3,.var 95 [.ra 711 0 (nR b bs.length bs.length).length (nR b bs.length bs.length).length,.ras (pR ks.length bs.length bs.length).length 1 (pR ks.length bs.length bs.length).flatten]),(711,gNo (nR b bs.length bs.length))]++gHl f n s t ks bs al:=by
  show(3,_)::(711,AObj.rarr _ _ (fzR _ _ _))::fzH _ _ (gHl f n s t ks bs al)=_;rw[sN (by omega) (by omega),sM _ hn2];simp only[AObj.fz,R.fzL,aQx rfl];rfl
 rw[O];refine AWp.sub (st2:=mkt [(0,.one (.vp 700 0)),(3,.one (.vp 3 0))] ((711,gNo (nR b bs.length bs.length))::([(3,.var 95 [.ra 711 0 (nR b bs.length bs.length).length (nR b bs.length bs.length).length,.ras (pR ks.length bs.length bs.length).length 1 (pR ks.length bs.length bs.length).flatten])]++gHl f n s t ks bs al)) (fam 0 al)) (slG (ex:=(711,_)::[_]) W (h2:=⟨Kn.gf (aS9 _ _ _),Kn.app (Kn.of rfl) (Kn.app (by simp only[R.refs,dB];exact Kn.gf (aO1 _ _ _)) Kn.nil),trivial⟩)) ?_;refine AWp.sub (Sub.fraT hF (aZq (by omega) (by omega)) hn1) ?_;have e2:fzH 711 (.ra (nR b bs.length bs.length).length 1 (nR b bs.length bs.length).flatten) ([(3,.var 95 [.ra 711 0 (nR b bs.length bs.length).length (nR b bs.length bs.length).length,.ras (pR ks.length bs.length bs.length).length 1 (pR ks.length bs.length bs.length).flatten])]++gHl f n s t ks bs al)
   =[(3,.var 95 (pH b ks.length bs.length))]++gHl f n s t ks bs al:=by
  show(3,_)::fzH _ _ (gHl f n s t ks bs al)=_;rw[sN (by omega) (by omega)];simp only[AObj.fz,R.fzL,aQx rfl,R.fz_far (.ras (pR ks.length bs.length bs.length).length 1 (pR ks.length bs.length bs.length).flatten) (show 711∉R.refsL (pR ks.length bs.length bs.length).flatten by rw[dB];exact Y)];rfl
 rw[e2];clear O e2 hn1 hn2 Y Z hpl hnl;have hgf:gfo f n s t ks bs al (bY (bV b ks.length bs.length al.length (al.take 0))):=n9 b 0;have hal:al.length=(aV 0 al).length:=dT.symm;refine sgh [(1,.id 713)] rfl (a8 (sg rfl (aB (aK (fun i:Nat=>mkt [(0,.one (.vp 700 0)),(7,.one (.ra 713 0 (bV b ks.length bs.length al.length (al.take i)).length (bV b ks.length bs.length al.length (al.take i)).length)),(82,I .i64 ((al.length:Nat):Int)),(83,I .i64 i)] ([(713,.rarr 95 2 (bV b ks.length bs.length al.length (al.take i)))]++gHl f n s t ks bs al) (fam 0 al)) (fun i=>i≤al.length) (fun i=>al.length-i) 0 (Aj _) (slG W) ?_))));intro i hi;have hgl:(bV b ks.length bs.length al.length (al.take i)).length=1+i:=by unfold bV;rw[Ak,yH,Aq];omega
 refine sg rfl (a8 (aA rfl (fun hb=>?_) (fun hb=>?_)))
 ·have q:i<al.length:=by
   have:(i:Int)<(al.length:Int):=ψ hb;omega
  obtain⟨a,hai⟩:=aJ q;have hrow:(aV 0 al)[i]?=some (dL i a):=by rw[mK hai,A6]
  have hvl:=hv a (Ab hai);have hobj:(i+800,AObj.arr 9 1 (a.vars.map bL) 0)∈fam 0 al:=by have:=aAl (k:=0) hai;rwa [A6] at this
  have hvk:a.vars.length=(a.vars.map bL).length:=(θ _).symm;have hnx:bV b ks.length bs.length al.length (al.take (i+1))=bV b ks.length bs.length al.length (al.take i)++[lU al.length i a]:=by
   unfold bV;rw[aBc hai,A6];rfl
  have N:gfo f n s t ks bs al (bY (bV b ks.length bs.length al.length (al.take i))):=n9 b i;have hg1:gfo f n s t ks bs al (bY (bV b ks.length bs.length al.length (al.take (i+1)))):=n9 b (i+1);generalize bV b ks.length bs.length al.length (al.take i)=G at hgl hnx N ⊢;refine aD (a8 (aB (sg rfl (sg rfl (sgh [(3,.id 722)] rfl ?_)))));have Z:722∉bY [[R.rp 703 i 4 al.length]]:=by simp[bY,R.refsL,R.refs]
  refine AWp.sub (st2:=mkt [(0,.one (.vp 700 0)),(7,.one (.ra 713 0 G.length G.length)),(9,.one (.rp 703 i 0 al.length)),(10,.one (.vp 10 0)),(82,I .i64 ((al.length:Nat):Int)),(83,I .i64 i)] ((722,gPo [[.rp 703 i 4 al.length]])::([(10,.var 95 [.c .nl,.ra 722 0 1 1]),(713,.rarr 95 2 G)]++gHl f n s t ks bs al)) (fam 0 al)) (slG (ex:=(722,_)::[_,_]) W) ?_;refine AWp.sub (Sub.fraT hF (aZq (by omega) (by omega)) Z) ?_;have O:fzH 722 (.ra 1 1 [R.rp 703 i 4 al.length]) ([(10,.var 95 [.c .nl,.ra 722 0 1 1]),(713,.rarr 95 2 G)]++gHl f n s t ks bs al)
    =[(10,.var 95 [.c .nl,.ras 1 1 [.rp 703 i 4 al.length]]),(713,.rarr 95 2 G)]++gHl f n s t ks bs al:=by
   show(10,_)::(713,AObj.rarr _ _ (fzR _ _ _))::fzH _ _ (gHl f n s t ks bs al)=_;rw[sN (by omega) (by omega),sM _ (jJ N (by omega) (by omega))];rfl
  have e1':fzH 722 (.ra ([[R.rp 703 i 4 al.length]]:List (List R)).length 1 ([[R.rp 703 i 4 al.length]]:List (List R)).flatten)=fzH 722 (.ra 1 1 [R.rp 703 i 4 al.length]):=rfl;rw[e1',O];clear O e1' Z;refine AWp.sub (Sub.ownCellR (x:=10) (k:=0) (id:=721) 133 1 rfl rfl rfl) ?_;refine AWp.sub (st2:=mkt [(0,.one (.vp 700 0)),(7,.one (.ra 713 0 G.length G.length)),(9,.one (.rp 703 i 0 al.length)),(10,.one (.vp 10 0)),(82,I .i64 ((al.length:Nat):Int)),(83,I .i64 i)] ([(10,.var 95 [.ra 721 0 0 0,.ras 1 1 [.rp 703 i 4 al.length]]),(713,.rarr 95 2 G),(721,gNo [])]++gHl f n s t ks bs al) (fam 0 al)) (slG W) ?_;have hlook:∀(ex:List (Nat×AObj)),(ex.all fun p=>Nat.blt p.1 800)=true→(mkt [] (ex++gHl f n s t ks bs al) (fam 0 al)).h (i+800)=some (AObj.arr 9 1 (a.vars.map bL) 0):=fun ex hex=>
   (show FarEq _ _ from FarEq.mkt hF (by rw[all_append,hex];rfl)) _ hobj
  refine a8 (skh 4 [(3,.rr (dL i a))] rfl (a3s tok (hlook _ rfl) rfl hvk ?_ trw));refine kz 1 rfl (aB (aK (fun j:Nat=>mkt [(0,.one (.vp 700 0)),(7,.one (.ra 713 0 G.length G.length)),(9,.one (.rp 703 i 0 al.length)),(10,.one (.vp 10 0)),(82,I .i64 ((al.length:Nat):Int)),(83,I .i64 i),(101,I .i64 ((a.vars.length:Nat):Int)),(102,I .i64 j)] ([(721,gNo (vR i a.vars.length j)),(10,.var 95 [.ra 721 0 (vR i a.vars.length j).length (vR i a.vars.length j).length,.ras 1 1 [.rp 703 i 4 al.length]]),(713,.rarr 95 2 G)]++gHl f n s t ks bs al) (fam 0 al)) (fun j=>j≤a.vars.length) (fun j=>a.vars.length-j) 0 (Aj _) (slG W) ?_));intro j hj;have hvj:(vR i a.vars.length j).length=j:=fZ _ _;refine sg rfl (a8 (aA rfl (fun hb=>?_) (fun hb=>?_)))
  ·have hlt2:j<a.vars.length:=by
    have:(j:Int)<(a.vars.length:Int):=ψ hb;omega
   have hst:vR i a.vars.length (j+1)=vR i a.vars.length j++[[.ep (i+800) j 0 a.vars.length]]:=r4 _ _;have hr:gfo f n s t ks bs al (gNo (vR i a.vars.length (j+1))).refs:=a1b q _ _;refine aD (a8 (aB (sg rfl (aE mixed (ak 7 [(5,.rr (dL i a))] rfl (kix tok (j:=j) (hlook _ rfl) rfl hvk hlt2 ?_ trw))))));refine kz 4 rfl (ag [] rfl ⟨j+1,hlt2,by dsimp only;omega,?_⟩);dsimp only;rw[hst] at hr ⊢;refine slG W (hh:=⟨⟨_,rfl,.rarrS rfl⟩,⟨_,rfl,.varS ?_⟩,⟨_,rfl,.rarrS rfl⟩,⟨_,rfl,.var rfl⟩,⟨_,rfl,.arr⟩,⟨_,rfl,.arr⟩,⟨_,rfl,.rarrS rfl⟩,trivial⟩);rw[τ]
  have J:j=a.vars.length:=by
   have:¬(j:Int)<(a.vars.length:Int):=χ hb;omega
  subst J;clear hb hj;refine aL ?_;have Y:721∉bY (vR i a.vars.length a.vars.length):=jJ (a1b (f:=f) (n:=n) (s:=s) (t:=t) (ks:=ks) (bs:=bs) q a.vars.length a.vars.length) (by omega) (by omega);have hrv:gfo f n s t ks bs al (gNo (vR i a.vars.length a.vars.length)).refs:=a1b q _ _;refine AWp.sub (st2:=mkt [(0,.one (.vp 700 0)),(7,.one (.ra 713 0 G.length G.length)),(10,.one (.vp 10 0)),(82,I .i64 ((al.length:Nat):Int)),(83,I .i64 i)] ((721,gNo (vR i a.vars.length a.vars.length))::([(10,.var 95 [.ra 721 0 (vR i a.vars.length a.vars.length).length (vR i a.vars.length a.vars.length).length,.ras 1 1 [.rp 703 i 4 al.length]]),(713,.rarr 95 2 G)]++gHl f n s t ks bs al)) (fam 0 al)) (slG (ex:=(721,_)::[_,_]) W) ?_;refine AWp.sub (Sub.fraT hF (aZq (by omega) (by omega)) Y) ?_;have O:fzH 721 (.ra (vR i a.vars.length a.vars.length).length 1 (vR i a.vars.length a.vars.length).flatten) ([(10,.var 95 [.ra 721 0 (vR i a.vars.length a.vars.length).length (vR i a.vars.length a.vars.length).length,.ras 1 1 [.rp 703 i 4 al.length]]),(713,.rarr 95 2 G)]++gHl f n s t ks bs al)
    =[(10,.var 95 (lU al.length i a)),(713,.rarr 95 2 G)]++gHl f n s t ks bs al:=by
   show(10,_)::(713,AObj.rarr _ _ (fzR _ _ _))::fzH _ _ (gHl f n s t ks bs al)=_;rw[sN (by omega) (by omega),sM _ (jJ N (by omega) (by omega))];simp only[AObj.fz,R.fzL,aQx rfl,R.fz_far (.ras 1 1 [.rp 703 i 4 al.length]) (show 721∉R.refs (.ras 1 1 [.rp 703 i 4 al.length]) by simp[R.refs,R.refsL])];rfl
  rw[O];clear O Y;have hra:gfo f n s t ks bs al (R.refsL (lU al.length i a)):=aZp q a;have halr:∃x y,lU al.length i a=[x,y]:=⟨_,_,rfl⟩
  refine ag [] rfl (ag [] rfl ⟨i+1,q,by dsimp only;omega,?_⟩);dsimp only;rw[hnx] at hg1 ⊢;have hg1:gfo f n s t ks bs al (AObj.rarr 95 2 (G++[lU al.length i a])).refs:=hg1;refine slG W (he:=⟨rfl,by rw[τ];rfl,rfl,rfl,trivial⟩)
 have J:i=al.length:=by
  have:¬(i:Int)<(al.length:Int):=χ hb;omega
 subst J;have N:gfo f n s t ks bs al (bY (bV b ks.length bs.length al.length (al.take al.length))):=n9 b _;rw[As] at *;generalize bV b ks.length bs.length al.length al=G at *;refine aL (AWp.sub (st2:=mkt [(7,.one (.ra 713 0 G.length G.length))] ((713,.rarr 95 2 G)::([]++gHl f n s t ks bs al)) (fam 0 al)) (slG (ex:=[(713,_)]) W (h2:=⟨Kn.gf N,trivial⟩)) ?_);refine AWp.sub (Sub.fraT hF (aZq (by omega) (by omega)) (jJ N (by omega) (by omega))) ?_;have O:fzH 713 (.ra G.length 2 G.flatten) ([]++gHl f n s t ks bs al)=gHl f n s t ks bs al:=sN (by omega) (by omega);have e2:fzE 713 (.ra G.length 2 G.flatten) [(7,.one (.ra 713 0 G.length G.length))]=[(7,.one (.ras G.length 2 G.flatten))]:=by
  simp only[fzE,V.fz,aQx rfl]
 rw[O,e2];exact sg rfl (aF (rtG W (h1:=Kn.gf (by show GF _ _ (R.refsL G.flatten);rw[dB];exact N))))
end Go.Proofs.YtglfogjcijokpaaGreatDoor
namespace Go.AM
open Go
def AObj.frz:AObj→AObj
 | .arr te es l _=>.arr te es l 2
 | o=>o
def xM (F:List (Nat×AObj)):List (Nat×AObj):=F.map fun p=>(p.1,p.2.frz)
theorem aMn {F:List (Nat×AObj)}:(xM F).map (·.1)=F.map (·.1):=by unfold xM;rw[Bj];rfl
theorem TF.frz {F:List (Nat×AObj)}(h:TF F):TF (xM F):=⟨fun p hp=>by
 obtain⟨q,I,rfl⟩:=Af.1 hp;exact h.far q I,by rw[aMn];exact h.nodup,fun p hp=>by
 obtain⟨q,I,rfl⟩:=Af.1 hp;obtain⟨te,es,l,z,e⟩:=h.arr q I
 exact⟨te,es,l,2,by show q.2.frz=_;rw[e];rfl⟩⟩
theorem xE {α:Type}{p:Nat×α}{x:α}:∀{a b:List (Nat×α)}{i:Nat},p.1∉a.map (·.1)→look (a++(p.1,x)::b) i=if i=p.1 then some x else look (a++p::b) i
 | [],b,i,_=>by
  obtain⟨k,y⟩:=p;simp only[Bd,look];by_cases h:i=k
  ·subst h;simp
  ·have:Nat.beq i k=false:=by
    cases hb:Nat.beq i k with
    | false=>rfl
    | true=>exact absurd (ε hb) h
   simp[this,h]
 | (k,y)::a,b,i,h=>by
  simp only[Al,Ai,not_or] at h;simp only[Bc,look];cases hb:Nat.beq i k with
  | true=>
   have:=ε hb;subst this;simp[Ne.symm h.1]
  | false=>simpa using xE h.2
theorem Sub.fzMid {kf:List Nat}{el:List (Nat×V)}{hl:List (Nat×AObj)}(hn:(hl.all fun p=>Nat.blt p.1 800)=true):∀{F2 F1:List (Nat×AObj)},TF (F1++F2)→Sub kf (mkt el hl (F1++xM F2)) (mkt el hl (F1++F2))
 | [],F1,_=>by
  have:xM []=[]:=rfl;rw[this];exact Sub.refl _ _
 | p::F2,F1,J=>by
  obtain⟨te,es,l,z,hp⟩:=J.arr p (by simp);have N:=J.far p (by simp);have O:=J.nodup;have Y:p.1∉F1.map (·.1):=fun hm=>by
   rw[A4,Cg] at O;exact O.2.2 p.1 hm p.1 (by simp) rfl
  have W:(mkt el hl (F1++p::F2)).h p.1=some (.arr te es l z):=by
   have:=FarEq.mkt (el:=el) J hn p (by simp);rw[this,hp]
  have h1:=Sub.freeze (kf:=kf) W;have e:(⟨(mkt el hl (F1++p::F2)).e,upd (mkt el hl (F1++p::F2)).h p.1 (some (.arr te es l 2)),(mkt el hl (F1++p::F2)).d⟩:St)=mkt el hl (F1++(p.1,.arr te es l 2)::F2):=by
   unfold mkt;congr 1;funext i;by_cases hi:i=p.1
   ·subst hi;rw[aI,x3 hn N];simp only[aA2 N,Bs];rw[xE Y,ξ rfl]
   ·rw[aS _ _ _ hi];show(match look hl i with | some x=>some x | none=>bif Nat.blt i 800 then none else look (F1++p::F2) i)=_;have hm:=xE (p:=p) (x:=AObj.arr te es l 2) (a:=F1) (b:=F2) (i:=i) Y;rw[φ hi] at hm
    (first | (rw[hm];done) | (rw[hm];rfl))
  rw[e] at h1;have Z:TF ((F1++[(p.1,AObj.arr te es l 2)])++F2):=by
   refine⟨fun q I=>?_,?_,fun q I=>?_⟩
   ·rw[A0] at I;rcases δ.1 I with I | I
    ·exact J.far q (by simp[I])
    ·rcases Ai.1 I with rfl | I
     ·exact N
     ·exact J.far q (by simp[show q∈F2 from I])
   ·rw[A0];have:((F1++([(p.1,AObj.arr te es l 2)]++F2)).map (·.1))=(F1++p::F2).map (·.1):=by simp
    rw[this];exact O
   ·rw[A0] at I;rcases δ.1 I with I | I
    ·exact J.arr q (by simp[I])
    ·rcases Ai.1 I with rfl | I
     ·exact⟨_,_,_,_,rfl⟩
     ·exact J.arr q (by simp[show q∈F2 from I])
  have h2:=Sub.fzMid (kf:=kf) (el:=el) hn (F2:=F2) (F1:=F1++[(p.1,AObj.arr te es l 2)]) Z;simp only[A0,List.singleton_append] at h2;have e2:xM (p::F2)=(p.1,.arr te es l 2)::xM F2:=by
   show(p.1,p.2.frz)::xM F2=_;rw[hp];rfl
  rw[e2];exact fun G n S μ a w hg hs=>by
   obtain⟨S',μ',hs'⟩:=h1 G n S μ a w hg hs;exact h2 G n S' μ' a w hg hs'
theorem Sub.fzAll {kf:List Nat}{el:List (Nat×V)}{hl F:List (Nat×AObj)}(q:TF F) (hn:(hl.all fun p=>Nat.blt p.1 800)=true:=by rfl):Sub kf (mkt el hl (xM F)) (mkt el hl F):=Sub.fzMid hn (F1:=[]) q
theorem Sub.outsT {kf:List Nat}{e:Nat→Option V}{h:c7}{d:List Nat}{hl F:List (Nat×AObj)}(q:TF F):Sub kf ⟨e,fun i=>bif Nat.blt i 800 then updL h (outs hl) i else updL h (outs (hl++F)) i,d⟩ ⟨e,updL h (outs (hl++F)),d⟩:=by
 rw[←rE q];exact Sub.refl _ _
end Go.AM
namespace Go.Proofs.YtglfogjcijokpaaGreatDoor
open Go Go.AM
set_option maxRecDepth 20000
mutual
def allT (p:Ty→Prop):Core→Prop
 | .mk _ _ _ t ks bs al=>p t∧aBe p ks∧aBf p bs∧aBh p al
def aBe (p:Ty→Prop):List Core→Prop
 | []=>True
 | c::l=>allT p c∧aBe p l
def aBf (p:Ty→Prop):List Bind→Prop
 | []=>True
 | .mk _ t c::l=>p t∧allT p c∧aBf p l
def aBh (p:Ty→Prop):List Alt→Prop
 | []=>True
 | .mk _ _ _ _ c::l=>allT p c∧aBh p l
end
theorem aBd {p:Ty→Prop}:∀{l:List Core},aBe p l→∀x∈l,allT p x
 | c::l,h,x,hx=>by
  rw[aBe] at h;rcases Ai.1 hx with rfl | hx
  ·exact h.1
  ·exact aBd h.2 x hx
theorem tI {p:Ty→Prop}:∀{l:List Bind},aBf p l→∀x∈l,p x.ty∧allT p x.body
 | .mk _ _ _::l,h,x,hx=>by
  rw[aBf] at h;rcases Ai.1 hx with rfl | hx
  ·exact⟨h.1,h.2.1⟩
  ·exact tI h.2.2 x hx
theorem aBg {p:Ty→Prop}:∀{l:List Alt},aBh p l→∀x∈l,allT p x.body
 | .mk _ _ _ _ _::l,h,x,hx=>by
  rw[aBh] at h;rcases Ai.1 hx with rfl | hx
  ·exact h.1
  ·exact aBg h.2 x hx
theorem rW {α:Type}:∀{l:List α}{j:Nat}{x:α},l[j]?=some x→l.set j x=l
 | [],_,_,h=>by simp at h
 | y::l,0,x,h=>by simp at h;subst h;rfl
 | y::l,j+1,x,h=>by
  rw[C3,rW (by simpa using h)]
def tM (al:List Alt) (i:Nat):List (List R):=aV 0 (al.take i)++(al.drop i).map fun a=>(c6 a).map R.c
theorem qL:∀{l:List Alt}{k i:Nat}{a:Alt},l[i]?=some a→aV k (l.take (i+1))=aV k (l.take i)++[dL (k+i) a]
 | b::l,k,0,a,h=>by simp at h;subst h;simp[aV]
 | b::l,k,i+1,a,h=>by
  simp only[Ar,aV,Bc];rw[qL (l:=l) (k:=k+1) (by simpa using h),show k+1+i=k+(i+1) by omega]
theorem xR:∀{l:List Alt}{k i:Nat}{a:Alt},l[i]?=some a→fam k (l.take (i+1))=fam k (l.take i)++[(k+i+800,.arr 9 1 (a.vars.map bL) 0)]
 | b::l,k,0,a,h=>by simp at h;subst h;simp[fam]
 | b::l,k,i+1,a,h=>by
  simp only[Ar,fam,Bc];rw[xR (l:=l) (k:=k+1) (by simpa using h),show k+1+i=k+(i+1) by omega]
theorem aQl {al:List Alt}{i:Nat}:(tM al i).length=al.length:=by unfold tM;rw[τ,dT,θ,Aq,Bz];omega
theorem aU6 {al:List Alt}{i:Nat}{a:Alt}(h:al[i]?=some a):(tM al i)[i]?=some ((c6 a).map R.c):=by
 have q:i<al.length:=(Aa.1 h).1
 unfold tM;rw[Az (by rw[dT,Aq];omega),dT,Aq,B9 (by omega),sub_self,Bg,An,By,h];rfl
theorem rV {α:Type}{l m:List α}{x y:α}{i:Nat}(h:l.length=i):(l++x::m).set i y=l++y::m:=by
 subst h;rw[List.set_append_right _ _ (le_refl _),sub_self];rfl
theorem pN {α:Type}{l:List α}{i:Nat}{a:α}(h:l[i]?=some a):l.drop i=a::l.drop (i+1):=by
 have q:i<l.length:=(Aa.1 h).1
 rw[Bp q];congr 1;exact(Aa.1 h).2
theorem aQk {al:List Alt}{i:Nat}{a:Alt}(h:al[i]?=some a) (r:List R):(tM al i).set i r=aV 0 (al.take i)++r::(al.drop (i+1)).map fun a=>(c6 a).map R.c:=by
 have q:i<al.length:=(Aa.1 h).1
 unfold tM;rw[pN h,Al];exact rV (by rw[dT,Aq];omega)
theorem aLq {al:List Alt}{i:Nat}{a:Alt}(h:al[i]?=some a):tM al (i+1)=aV 0 (al.take i)++dL i a::(al.drop (i+1)).map fun a=>(c6 a).map R.c:=by
 unfold tM;rw[qL h,A0,A6];rfl
theorem aLr {al:List Alt}{i:Nat}:∀x∈bY (tM al i),x∈keys (fam 0 (al.take i)):=fun x hx=>by
 unfold tM at hx;rw[jL] at hx;rcases δ.1 hx with hx | hx
 ·exact cK x hx
 ·have key:∀l:List Alt,bY (l.map fun a=>(c6 a).map R.c)=[]:=by
   intro l
   induction l with
   | nil=>rfl
   | cons a l q=>
    show R.refsL _++bY _=[];rw[q,A8];unfold c6 aC;simp[R.refsL,R.refs]
  rw[key] at hx;cases hx
def sgm (k:Nat) (j:Nat):Nat:=bif Nat.blt j 800 then j else bif Nat.beq j (k+800) then 710 else j
theorem aCj {k j:Nat}(h:800≤j) (hk:j≠k+800):sgm k j=j:=by
 unfold sgm;rw[aA2 h];have:Nat.beq j (k+800)=false:=by
  cases hb:Nat.beq j (k+800) with
  | false=>rfl
  | true=>exact absurd (ε hb) hk
 rw[this];rfl
theorem aCi {k:Nat}:sgm k (k+800)=710:=by
 unfold sgm;rw[aA2 (le_add_left _ _)];simp
theorem aKb {σ:Nat→Nat}:∀l:List C,R.renL σ (l.map R.c)=l.map R.c
 | []=>rfl
 | x::l=>by simp only[Al,R.renL,R.ren,aKb l]
theorem aFa {σ:Nat→Nat}:∀(a b:List (List R)),mM σ (a++b)=mM σ a++mM σ b
 | [],_=>rfl
 | r::a,b=>by simp only[Bc,mM,aFa a b]
theorem jY {σ:Nat→Nat}{k:Nat}{a:Alt}:R.renL σ (dL k a)=[.c (.int .i64 a.form),.c (.int .i64 a.n),.c (.str a.name),.hs (σ (k+800)) 0 a.vars.length a.vars.length]++(aC a.body).map R.c:=by
 unfold dL;simp only[Bc,Bd,R.renL,R.ren,aKb]
theorem s5 {i:Nat}:∀{l:List Alt}{k:Nat},k+l.length≤i→mM (sgm i) (aV k l)=aV k l
 | [],_,_=>rfl
 | a::l,k,h=>by
  simp only[Ak] at h;simp only[aV,mM];rw[jY,aCj (le_add_left _ _) (by omega),s5 (l:=l) (k:=k+1) (by omega)];rfl
theorem uM {σ:Nat→Nat}:∀l:List Alt,mM σ (l.map fun a=>(c6 a).map R.c)=l.map fun a=>(c6 a).map R.c
 | []=>rfl
 | a::l=>by simp only[Al,mM,aKb,uM l]
def a3n (a:Alt):List R:=[.c (.int .i64 a.form),.c (.int .i64 a.n),.c (.str a.name),.hs 710 0 a.vars.length a.vars.length]++(aC a.body).map R.c
theorem aUe {al:List Alt}{i:Nat}{a:Alt}(h:al[i]?=some a):(tM al i).set i (a3n a)=mM (sgm i) (tM al (i+1)):=by
 rw[aQk h,aLq h,aFa];have q:i<al.length:=(Aa.1 h).1
 rw[s5 (by rw[Aq];omega)];simp only[mM];rw[jY,aCi,uM];rfl
def TyG (t:Ty):Prop:=aQ Tryz.prog 80 [tyV t] [] (tyV t) []
def oHl (ks:List Core) (bs:List Bind) (al:List Alt):List (Nat×AObj):=[(701,.arr 69 15 (aU bs) 0),(702,.arr 34 10 (aR ks) 0),(703,.rarr 71 14 (aV 0 al))]
def OwG (c:Core):Prop:=aQ Tryz.prog 74 [.pa (aC c)] [] (.ma (dV c.form c.n c.name c.ty c.kids.length c.binds.length c.alts.length)) (oHl c.kids c.binds c.alts++fam 0 c.alts)
def OwP (c:Core):Prop:=aQ Tryz.prog 74 [.pa (aC c)] [] (.pa (aC c)) []
theorem yB (al:List Alt) (h:al.length≤600000000000):aQ Tryz.prog 129 [.one (.c (.sl 14 (c9 al)))] [] (.one (.ra 703 0 al.length al.length)) [(703,.rarr 71 14 (tM al 0))]:=by
 have q:(c9 al).length=al.length:=by rw[c8,θ]
 have h1:=(aAz (c9 al) (by omega)).toR;rw[q] at h1;have e:(c9 al).map (·.map R.c)=tM al 0:=by
  unfold tM;rw[c8,Bj];rfl
 rwa [e] at h1
theorem aQm {al:List Alt}:tM al al.length=aV 0 al:=by
 unfold tM;rw[As,Cy];simp
theorem aKv {q:St}{al:List Alt}{i:Nat}{a:Alt}(I:al[i]?=some a) (hf:FarEq q.h (fam 0 (al.take i))) (h7:q.h 710=some (.arr 9 1 (a.vars.map bL) 0)):
  ∀p∈fam 0 (al.take (i+1)),∃o,q.h (sgm i p.1)=some o∧Ole (sgm i) o p.2:=fun p hp=>by
 rw[xR I,A6] at hp;rcases δ.1 hp with hp | hp
 ·obtain⟨j,b,N,rfl⟩:=nC hp;have J:j<(al.take i).length:=(Aa.1 N).1
  rw[Aq] at J;refine⟨_,?_,.arr⟩;rw[aCj (le_add_left _ _) (by show 0+j+800≠i+800;omega)];exact hf _ hp
 ·rw[ζ.1 hp];exact⟨_,by rw[aCi];exact h7,.arr⟩
theorem aHx {al:List Alt}{i:Nat}{a:Alt}{hl:List (Nat×AObj)}(N:al[i]?=some a) (h1:Go.AM.distinct (710::hl.map (·.1))=true) (h2:(hl.all fun p=>Nat.blt p.1 800)=true):((hl++fam 0 (al.take (i+1))).map fun p=>sgm i p.1).Nodup:=by
 have aa:i<al.length:=(Aa.1 N).1
 have W:(hl.map fun p=>sgm i p.1)=hl.map (·.1):=by
  refine Bk fun p hp=>?_
  have:=(Au.1 h2) p hp;unfold sgm;rw[this];rfl
 have Y:((fam 0 (al.take i)).map fun p=>sgm i p.1)=(fam 0 (al.take i)).map (·.1):=by
  refine Bk fun p hp=>?_
  obtain⟨j,b,Z,rfl⟩:=nC hp;have O:j<(al.take i).length:=(Aa.1 Z).1
  rw[Aq] at O;exact aCj (le_add_left _ _) (by show 0+j+800≠i+800;omega)
 rw[A4,xR N,A6,A4,W,Y];have hd:=dG h1;simp only[Bv] at hd;have J:∀x∈hl.map (·.1),x<800:=fun x hx=>by
  obtain⟨p,hp,rfl⟩:=Af.1 hx;exact Ap ((Au.1 h2) p hp)
 have I:∀x∈(fam 0 (al.take i)).map (·.1),800≤x:=fun x hx=>by
  obtain⟨p,hp,rfl⟩:=Af.1 hx;exact fH.far p hp
 show(hl.map (·.1)++((fam 0 (al.take i)).map (·.1)++[sgm i (i+800)])).Nodup;rw[aCi,Cg,Cg];refine⟨hd.2,⟨lI,by simp,fun x hx y q e=>?_⟩,fun x hx y q e=>?_⟩
 ·have:=I x hx;have:y=710:=by simpa using q
  omega
 ·subst e;rcases δ.1 q with q | q
  ·have:=J x hx;have:=I x q;omega
  ·have:x=710:=by simpa using q
   subst this;exact hd.1 hx
theorem aVm {b:Bool}{nk nb q:Nat}{l:List Alt}:(bV b nk nb q l)[0]?=some (pH b nk nb):=rfl
theorem aVl {b:Bool}{nk nb q:Nat}{l:List Alt}{i:Nat}{a:Alt}(h:l[i]?=some a):(bV b nk nb q l)[i+1]?=some (lU q i a):=by
 unfold bV;rw[Bh,aOi h,A6]
theorem aC4 {b:Bool}{nk nb I:Nat}{l:List Alt}:∀r∈bV b nk nb I l,r.length=2:=by
 have key:∀(l:List Alt) (k:Nat),∀r∈aG7 I k l,r.length=2:=by
  intro l
  induction l with
  | nil=>intro k r q;simp[aG7] at q
  | cons a l J=>
   intro k r q;rcases Ai.1 q with rfl | q
   ·rfl
   ·exact J _ r q
 intro r q;rcases Ai.1 q with rfl | q
 ·rfl
 ·exact key l 0 r q
theorem aVk {b:Bool}{nk nb q:Nat}{l:List Alt}:(bV b nk nb q l).length=1+l.length:=by unfold bV;rw[Ak,yH];omega
theorem s4 {f:Nat→List R}{k:Nat}(h:∀j,(f j).length=1):∀r∈rgR f k,r.length=1:=fun r q=>by
 obtain⟨j,_,rfl⟩:=Af.1 q;exact h j
theorem uW {nk nb i:Nat}:∀r∈pR nk nb i,r.length=1:=fun r q=>by
 unfold pR at q;rcases δ.1 q with q | q
 ·exact s4 (fun _=>rfl) r q
 ·exact s4 (fun _=>rfl) r q
theorem aE8 {f:Nat→List R}{k j:Nat}(h:j<k):(rgR f k)[j]?=some (f j):=by unfold rgR;rw[Bg,List.getElem?_range h];rfl
theorem aK8 {nk nb i j:Nat}(h:j<nk):(pR nk nb i)[j]?=some [.ep 702 j 0 nk]:=by unfold pR;rw[Ba (by rw[fZ];exact h),aE8 h]
theorem aK7 {nk nb i j:Nat}(h:j<i):(pR nk nb i)[nk+j]?=some [.ep 701 j 5 nb]:=by unfold pR;rw[Az (by rw[fZ];omega),fZ,Nat.add_sub_cancel_left,aE8 h]
theorem aK6 {nk nb i:Nat}:(pR nk nb i).length=nk+i:=by unfold pR;rw[τ,fZ,fZ]
inductive LC:Core→Prop
 | mk {f n:Int} {s:Str} {t:Ty} {ks:List Core} {bs:List Bind} {al:List Alt} (h1:ks.length+bs.length+1≤570000000000) (h2:al.length+1≤570000000000) (h3:∀a∈al,a.vars.length≤570000000000)
   (hk:∀x∈ks,LC x) (hb:∀x∈bs,LC x.body) (ha:∀x∈al,LC x.body):LC (.mk f n s t ks bs al)
theorem LC.of:∀(k:Nat) (c:Core),bE c≤k→bE c≤570000000000→LC c
 | 0,c,h,_=>by have:=cD c;omega
 | k+1,.mk f n s t ks bs al,h,hs=>by
  obtain⟨q,I,J,N,O,W⟩:= @fN f n s t ks bs al;refine .mk ?_ ?_ (fun a ha=>?_) (fun x hx=>LC.of k x (by have:=q x hx;omega) (by have:=q x hx;omega)) (fun x hx=>LC.of k x.body (by have:=I x hx;omega) (by have:=I x hx;omega)) fun x hx=>LC.of k x.body (by have:=J x hx;omega) (by have:=J x hx;omega)
  ·rw[bE] at hs;have h1:=pO ks;have h2:=pT bs;omega
  ·rw[bE] at hs;have h1:=pU al;omega
  ·have Y:=mJ ha;have Z:=aIy a;rw[bE] at hs;omega
theorem vL (c:Core) (ih:∀x,bE x<bE c→LC x→allT TyG x→OwP x) (hT:allT TyG c) (hlc:LC c):OwG c:=by
 obtain⟨f,n,s,t,ks,bs,al⟩:=c;obtain⟨ihk,ihb,iha,_,_,_⟩:= @fN f n s t ks bs al;obtain⟨l1,l2,l3,lk,lb,la⟩:(ks.length+bs.length+1≤570000000000)∧(al.length+1≤570000000000)∧(∀a∈al,a.vars.length≤570000000000)∧(∀x∈ks,LC x)∧(∀x∈bs,LC x.body)∧(∀x∈al,LC x.body):=by
  cases hlc with
  | mk h1 h2 h3 hk hb ha=>exact⟨h1,h2,h3,hk,hb,ha⟩
 rw[allT] at hT;obtain⟨ar,hTk,au,hTa⟩:=hT;have ar:aQ Tryz.prog 80 [tyV t] [] (tyV t) []:=ar;have av:(aR ks).length=ks.length:=by rw[bA,θ]
 have aw:(aU bs).length=bs.length:=by rw[bX,θ]
 have k2:ks.length=(aR ks).length:=av.symm;have kb2:bs.length=(aU bs).length:=aw.symm;have ax:=oR (aR ks) (by omega);have ay:=yA (aU bs) (by omega);have hca:=yB al (by omega);rw[av] at ax;rw[aw] at ay;show aQ Tryz.prog 74 [.pa (aC (.mk f n s t ks bs al))] [] (.ma (dV f n s t ks.length bs.length al.length)) (oHl ks bs al++fam 0 al);refine bM (n:=85) tok Tryz.func74 rfl rfl rfl ?_;refine sgh [(0,.id 700)] rfl (sgh [(2,.pc (tyV t))] rfl (sk 2 rfl (kc ax ?_)));refine ak 2 [] rfl (kc ay ?_);refine ak 2 [] rfl (kc hca ?_);refine kz 6 rfl (a8 (sg rfl ?_));have hbl':bs.length≤570000000000:=by omega
 have ae:∀i,al.length=(tM al i).length:=fun i=>aQl.symm
 have hml0:=ae 0;refine aB ?_;have W0:∀i,GW [] (fam 0 (al.take i)):=fun i=>⟨fH,fun x hx=>(by cases hx),rfl,rfl⟩
 have ab:∀i,GF [] (fam 0 (al.take i)) (AObj.rarr 71 14 (tM al i)).refs:=fun i x hx=>.inr (aLr x hx)
 have hmix0:=ab 0;have hF0:TF (fam 0 (al.take 0)):=fH;refine aK (fun i:Nat=>mkt [(1,.one (.vp 700 0)),(2,.one (.vp 2 0)),(27,I .i64 ((bs.length:Nat):Int)),(28,I .i64 i)] ([(2,.var 34 bR),(700,.var 34 (dV f n s t ks.length bs.length al.length)),(701,.arr 69 15 (aU bs) 0),(702,.arr 34 10 (aR ks) 0),(703,.rarr 71 14 (tM al 0))]++[]) (fam 0 (al.take 0))) (fun i=>i≤bs.length) (fun i=>bs.length-i) 0 (Aj _) (slG (W0 0) (fun _ h=>by cases h) (fun p hp=>by cases hp)) ?_
 ·intro i hi;refine sg rfl (a8 (aA rfl (fun hb=>?_) (fun hb=>?_)))
  ·have Y:i<bs.length:=by
    have:(i:Int)<(bs.length:Int):=ψ hb;omega
   obtain⟨b,aa⟩:=aJ Y;have ac:=dC aa;have hbt:aQ Tryz.prog 80 [tyV b.ty] [] (tyV b.ty) []:=(tI au b (Ab aa)).1
   have q:=rW ac;refine aD (a8 (aB (sg rfl (ag [(8,.row i (bJ b)),(9,.pc (tyV b.ty)),(12,.row i (bJ b))] rfl (ag [] rfl ⟨i+1,Y,by dsimp only;omega,slG (W0 0) (fun _ h=>by cases h) (hh:=⟨⟨_,rfl,.var rfl⟩,⟨_,rfl,.varS rfl⟩,⟨_,rfl,.arrS q⟩,⟨_,rfl,.arr⟩,⟨_,rfl,.rarrS rfl⟩,trivial⟩)⟩)))))
  refine aL (a8 (sg rfl (aB (aK (fun i:Nat=>mkt [(1,.one (.vp 700 0)),(2,.one (.vp 2 0)),(46,I .i64 ((al.length:Nat):Int)),(47,I .i64 i)] ([(2,.var 34 bR),(700,.var 34 (dV f n s t ks.length bs.length al.length)),(701,.arr 69 15 (aU bs) 0),(702,.arr 34 10 (aR ks) 0),(703,.rarr 71 14 (tM al i))]++[]) (fam 0 (al.take i))) (fun i=>i≤al.length) (fun i=>al.length-i) 0 (Aj _) (slG (W0 0) (fun _ h=>by cases h)) ?_))));intro i hi;have ae:=ae i;have hmi:=ab i;have ah:TF (fam 0 (al.take i)):=fH;refine sg rfl (a8 (aA rfl (fun hb=>?_) (fun hb=>?_)))
  ·have Y:i<al.length:=by
    have:(i:Int)<(al.length:Int):=ψ hb;omega
   obtain⟨a,J⟩:=aJ Y;have ai:=aU6 J;have hvl:=l3 a (Ab J);have aG:(a.vars.map bL).length=a.vars.length:=θ _;have aH:=mV (a.vars.map bL) (by rw[aG];omega);rw[aG] at aH;have hmx:=ab (i+1);refine aD (a8 (aB (sg rfl (aE mixed (ak 9 [(8,.rr ((c6 a).map R.c))] rfl (kc aH ?_))))));refine ak 3 [(12,.rr ((c6 a).map R.c))] rfl (az (ag [] rfl ⟨i+1,Y,by dsimp only;omega,?_⟩));dsimp only;refine Sub.tailT (hl:=[(2,.var 34 bR),(700,.var 34 (dV f n s t ks.length bs.length al.length)),(701,.arr 69 15 (aU bs) 0),(702,.arr 34 10 (aR ks) 0),(703,.rarr 71 14 (tM al (i+1)))]++[]) (sgm i) fH ?_ ?_ ?_ ?_ ?_ ?_ ?_ ?_
   ·exact⟨rfl,rfl,rfl,rfl,trivial⟩
   ·exact⟨⟨_,rfl,.var rfl⟩,⟨_,rfl,.var rfl⟩,⟨_,rfl,.arr⟩,⟨_,rfl,.arr⟩,⟨_,rfl,.rarr (aUe J)⟩,trivial⟩
   ·exact aKv J (by repeat (first | exact FarEq.raw ah | (refine FarEq.updL ah ?_) | (refine FarEq.upd ah ?_))) rfl
   ·rfl
   ·exact fun x hx=>.inl (bB (show subset _ _=true from rfl) x hx)
   ·exact(W0 (i+1)).all ⟨Kn.of rfl,Kn.of rfl,Kn.of rfl,Kn.of rfl,Kn.gf hmx,trivial⟩
   ·exact aHx J rfl rfl
   ·exact fun _ h=>by cases h
  refine aL ?_;have hge:i=al.length:=by
   have:¬(i:Int)<(al.length:Int):=χ hb;omega
  subst hge;have Z:TF (fam 0 al):=fH;have W:GW (gHl f n s t ks bs al) (fam 0 al):=gW;have aI:=sX (decide (f=5)) f n s t ks bs al rfl (by omega) (by omega) (by omega) fun a ha=>by have:=l3 a ha;omega
  have ad:=n9 (f:=f) (n:=n) (s:=s) (t:=t) (ks:=ks) (bs:=bs) (al:=al) (decide (f=5)) al.length;rw[As] at ad ⊢;rw[aQm];have hgl:(bV (decide (f=5)) ks.length bs.length al.length al).length=1+al.length:=aVk;have aM:gfo f n s t ks bs al (R.refsL (bV (decide (f=5)) ks.length bs.length al.length al).flatten):=by rw[dB];exact ad
  have aj:(bV (decide (f=5)) ks.length bs.length al.length al)[0]?=some (pH (decide (f=5)) ks.length bs.length):=aVm;have aN:∀i a,al[i]?=some a→(bV (decide (f=5)) ks.length bs.length al.length al)[i+1]?=some (lU al.length i a):=fun i a h=>aVl h
  have am:∀k r,(bV (decide (f=5)) ks.length bs.length al.length al)[k]?=some r→((bV (decide (f=5)) ks.length bs.length al.length al).flatten.drop (k*2)).take 2=r:=eC aC4;generalize bV (decide (f=5)) ks.length bs.length al.length al=G at aI hgl aM aj aN am;generalize decide (f=5)=b at aj;have hal':al.length=(aV 0 al).length:=dT.symm;refine a8 (a8 (aE mixed (kc aI ?_ (hin':=dM.app ⟨rfl,rfl,rfl,rfl,trivial⟩ (FarEq.raw Z).all) (hout':=dM.of fun p hp=>.inl (Af.2 ⟨p,hp,rfl⟩)) (hok:=nE Z (fun x hx=>.inl (bB (show subset _ _=true from rfl) x hx)) rD))));refine kz 2 rfl (AWp.sub (Sub.outsT Z) ?_);refine aB ?_;have N:∀x∈R.refsL G.flatten,Kn [(2,.var 34 bR)] (gHl f n s t ks bs al) (fam 0 al) x:=Kn.gf aM;refine aK (fun g:Nat=>mkt [(1,.one (.vp 700 0)),(2,.one (.vp 2 0)),(63,.one (.ras G.length 2 G.flatten)),(64,I .i64 ((G.length:Nat):Int)),(65,I .i64 g)] ([(2,.var 34 bR)]++gHl f n s t ks bs al) (fam 0 al)) (fun g=>g≤G.length) (fun g=>G.length-g) 0 (Aj _) (slG W (fun _ h=>by cases h) (FarEq.bif Z (FarEq.outs Z)) (h1:=Kn.app (Kn.of rfl) (Kn.app (Kn.of rfl) (Kn.app N Kn.nil)))) ?_;intro g hg;refine sg rfl (a8 (aA rfl (fun hb=>?_) (fun hb=>?_)))
  ·have Y:g<G.length:=by
    have:(g:Int)<(G.length:Int):=ψ hb;omega
   refine aD ?_;cases g with
   | zero=>
    have ht0:=am 0 _ aj;have hpl:(pR ks.length bs.length bs.length).length=ks.length+bs.length:=aK6;have ap:gfo f n s t ks bs al (R.refsL (pR ks.length bs.length bs.length).flatten):=by rw[dB];exact aO1 _ _ _
    have aO:∀k r,(pR ks.length bs.length bs.length)[k]?=some r→((pR ks.length bs.length bs.length).flatten.drop (k*1)).take 1=r:=eC uW;have hp1:∀j,j<ks.length→(pR ks.length bs.length bs.length)[j]?=some [.ep 702 j 0 ks.length]:=fun j h=>aK8 h
    have hp2:∀j,j<bs.length→(pR ks.length bs.length bs.length)[ks.length+j]?=some [.ep 701 j 5 bs.length]:=fun j h=>aK7 h
    refine a8 (aB (sgh [(0,.rowR 0 (pH b ks.length bs.length))] rfl (sg rfl (aB (aK (fun j:Nat=>mkt [(1,.one (.vp 700 0)),(2,.one (.vp 2 0)),(63,.one (.ras G.length 2 G.flatten)),(64,I .i64 ((G.length:Nat):Int)),(65,I .i64 (0:Nat)),(70,.one (.ras (pR ks.length bs.length bs.length).length 1 (pR ks.length bs.length bs.length).flatten)),(71,I .i64 (((pR ks.length bs.length bs.length).length:Nat):Int)),(72,I .i64 j)] ([(2,.var 34 bR)]++gHl f n s t ks bs al) (fam 0 al)) (fun j=>j≤(pR ks.length bs.length bs.length).length) (fun j=>(pR ks.length bs.length bs.length).length-j) 0 (Aj _) (slG W (fun _ h=>by cases h) (h1:=Kn.app (Kn.of rfl) (Kn.app (Kn.of rfl) (Kn.app N (Kn.app Kn.nil (Kn.app Kn.nil (Kn.app (Kn.gf ap) Kn.nil))))))) ?_)))));intro j hj;refine sg rfl (a8 (aA rfl (fun hb=>?_) (fun hb=>?_)))
    ·have aq:j<(pR ks.length bs.length bs.length).length:=by
      have:(j:Int)<((pR ks.length bs.length bs.length).length:Int):=ψ hb;omega
     refine aD ?_;by_cases aP:j<ks.length
     ·obtain⟨k,aS⟩:=aJ aP;have hki':=j0 aS;have hm:=Ab aS;have hc:aQ Tryz.prog 74 [.pa (aC k)] [] (.pa (aC k)) []:=ih k (ihk k hm) (lk k hm) (aBd hTk k hm);have q:=rW hki';have ht1:=aO j _ (hp1 j aP);refine a8 (aB (sgh [(0,.rowR j [.ep 702 j 0 ks.length])] rfl (aE mixed (ak 4 [(3,.row j (aC k))] rfl (kc hc ?_)))));exact ak 2 [(6,.row j (aC k))] rfl (az (ag [] rfl ⟨j+1,aq,by dsimp only;omega,slG W (fun _ h=>by cases h) (h1:=Kn.app (Kn.of rfl) (Kn.app (Kn.of rfl) (Kn.app N (Kn.app Kn.nil (Kn.app Kn.nil (Kn.app (Kn.gf ap) Kn.nil)))))) (hh:=⟨⟨_,rfl,.var rfl⟩,⟨_,rfl,.var rfl⟩,⟨_,rfl,.arr⟩,⟨_,rfl,.arrS q⟩,⟨_,rfl,.rarrS rfl⟩,trivial⟩)⟩))
     ·obtain⟨O,rfl⟩:∃O,j=ks.length+O:=⟨j-ks.length,by omega⟩
      have aT:O<bs.length:=by omega
      obtain⟨x,aa⟩:=aJ aT;have ac:=dC aa;have hm:=Ab aa;have hc:aQ Tryz.prog 74 [.pa (aC x.body)] [] (.pa (aC x.body)) []:=ih x.body (ihb x hm) (lb x hm) (tI au x hm).2;have q:=rW ac;have ht1:=aO (ks.length+O) _ (hp2 O aT);refine a8 (aB (sgh [(0,.rowR (ks.length+O) [.ep 701 O 5 bs.length])] rfl (aE mixed (ak 4 [(3,.row O (bJ x))] rfl (kc hc ?_)))));exact ak 2 [(6,.row O (bJ x))] rfl (az (ag [] rfl ⟨ks.length+O+1,aq,by dsimp only;omega,slG W (fun _ h=>by cases h) (h1:=Kn.app (Kn.of rfl) (Kn.app (Kn.of rfl) (Kn.app N (Kn.app Kn.nil (Kn.app Kn.nil (Kn.app (Kn.gf ap) Kn.nil)))))) (hh:=⟨⟨_,rfl,.var rfl⟩,⟨_,rfl,.var rfl⟩,⟨_,rfl,.arrS q⟩,⟨_,rfl,.arr⟩,⟨_,rfl,.rarrS rfl⟩,trivial⟩)⟩))
    exact aL (ag [] rfl ⟨1,by omega,by dsimp only;omega,slG W (fun _ h=>by cases h) (h1:=Kn.app (Kn.of rfl) (Kn.app (Kn.of rfl) (Kn.app N Kn.nil)))⟩)
   | succ i=>
    have hia:i<al.length:=by omega
    obtain⟨a,J⟩:=aJ hia;have ht0:=am (i+1) _ (aN i a J);have ai:(aV 0 al)[i]?=some (dL i a):=by rw[mK J,A6]
    have hm:=Ab J;have hc:aQ Tryz.prog 74 [.pa (aC a.body)] [] (.pa (aC a.body)) []:=ih a.body (iha a hm) (la a hm) (aBg hTa a hm);have q:=rW ai;refine a8 (aB (sgh [(0,.rowR (i+1) (lU al.length i a))] rfl (sg rfl (aB (aK (fun j:Nat=>mkt [(1,.one (.vp 700 0)),(2,.one (.vp 2 0)),(63,.one (.ras G.length 2 G.flatten)),(64,I .i64 ((G.length:Nat):Int)),(65,I .i64 ((i+1:Nat):Int)),(70,.one (.ras 1 1 [.rp 703 i 4 al.length])),(71,I .i64 ((1:Nat):Int)),(72,I .i64 j)] ([(2,.var 34 bR)]++gHl f n s t ks bs al) (fam 0 al)) (fun j=>j≤1) (fun j=>1-j) 0 (Aj _) (slG W (fun _ h=>by cases h) (h1:=Kn.app (Kn.of rfl) (Kn.app (Kn.of rfl) (Kn.app N (Kn.of rfl))))) ?_)))));intro j hj;refine sg rfl (a8 (aA rfl (fun hb=>?_) (fun hb=>?_)))
    ·have hj0:j=0:=by
      have:(j:Int)<((1:Nat):Int):=ψ hb;omega
     subst hj0;refine aD (a8 (aB (sg rfl (aE mixed (ak 4 [(3,.rr (dL i a))] rfl (kc hc ?_))))));exact ak 2 [(6,.rr (dL i a))] rfl (az (ag [] rfl ⟨1,le_refl _,by dsimp only;omega,slG W (fun _ h=>by cases h) (h1:=Kn.app (Kn.of rfl) (Kn.app (Kn.of rfl) (Kn.app N (Kn.of rfl)))) (hh:=⟨⟨_,rfl,.var rfl⟩,⟨_,rfl,.var rfl⟩,⟨_,rfl,.arr⟩,⟨_,rfl,.arr⟩,⟨_,rfl,.rarrS q⟩,trivial⟩)⟩))
    exact aL (ag [] rfl ⟨i+1+1,by omega,by dsimp only;omega,slG W (fun _ h=>by cases h) (h1:=Kn.app (Kn.of rfl) (Kn.app (Kn.of rfl) (Kn.app N Kn.nil)))⟩)
  refine aL (sg rfl ?_);exact aF ⟨.inr rfl,aDa (hl:=oHl ks bs al) Z (by repeat (first | exact FarEq.raw Z | (refine FarEq.updL Z ?_) | (refine FarEq.upd Z ?_))) ⟨_,_,.cell rfl (tg rfl) rfl rfl rfl .nil,.cons .refl .nil,rfl⟩ (fun x hx=>.inl (bB (show subset _ _=true from rfl) x hx)) (fun x hx=>.inr (cK x (by simpa [oHl,cO,AObj.refs] using hx))) (fun _ h=>by cases h) (fun _ h=>by cases h)⟩
theorem aFg {h:c7}{ids:List Nat}{rs:List R}{cs:List C}(k:PureL h ids rs cs):∀l:List C,PureL h ids (l.map R.c++rs) (l++cs)
 | []=>k
 | _::l=>.c .refl (aFg k l)
theorem zO {h:c7}:∀{al:List Alt}{k:Nat},FarEq h (xM (fam k al))→∃ids,PureL h ids (aV k al).flatten (al.map c6).flatten
 | [],_,_=>⟨[],.nil⟩
 | a::l,k,hf=>by
  obtain⟨ids,q⟩:=zO (al:=l) (k:=k+1) fun p hp=>hf p (ω _ hp)
  have hh:h (k+800)=some (.arr 9 1 (a.vars.map bL) 2):=hf (k+800,.arr 9 1 (a.vars.map bL) 2) η;refine⟨(k+800)::ids,?_⟩;have h1:=aFg q (aC a.body);simp only[aV,Al,Bf,dL,c6,Bc,Bd];exact .c .refl (.c .refl (.c .refl (.hs hh (θ _).symm (by rw[Cc,←θ (f:=bL),As]) h1)))
def jF (f n:Int) (s:Str) (t:Ty) (nk nb:Nat) (al:List Alt):List R:=[.c (.int .i64 f),.c (.int .i64 n),.c (.str s),.c (.int .i64 t.form),.c (.int .i64 t.n),.c (.str t.name),.c (.sl 4 (gD t)),.hs 702 0 nk nk,.hs 701 0 nb nb,.ras al.length 14 (aV 0 al).flatten]
theorem s8 {h:c7}{f n:Int}{s:Str}{t:Ty}{ks:List Core}{bs:List Bind}{al:List Alt}(h1:h 701=some (.arr 69 15 (aU bs) 2)) (h2:h 702=some (.arr 34 10 (aR ks) 2)) (hf:FarEq h (xM (fam 0 al))):
  ∃ids,PureL h ids (jF f n s t ks.length bs.length al) (aC (.mk f n s t ks bs al)):=by
 obtain⟨ids,hp⟩:=zO hf;have I:(aR ks).length=ks.length:=by rw[bA,θ]
 have J:(aU bs).length=bs.length:=by rw[bX,θ]
 refine⟨702::701::(ids++[]),?_⟩;refine .c .refl (.c .refl (.c .refl (.c .refl (.c .refl (.c .refl (.c .refl (.hs h2 I.symm ?_ (.hs h1 J.symm ?_ (.ras rfl hp ?_ ?_ ?_ .nil)))))))))
 ·rw[Cc,←I,As];rfl
 ·rw[Cc,←J,As];rfl
 ·show _=(c9 al).flatten;rw[c8]
 ·intro r q;have q:r∈c9 al:=q;rw[c8] at q;obtain⟨a,_,rfl⟩:=Af.1 q;rfl
 ·show(c9 al).length=_;rw[c8,θ]
theorem u6 {al:List Alt}:703∉bY (aV 0 al):=fun h=>by
 obtain⟨p,hp,e⟩:=Af.1 (cK 703 h);have:=fH.far p hp;omega
theorem oZ {kf:List Nat}{el:List (Nat×V)}{ex:List (Nat×AObj)}{ks:List Core}{bs:List Bind}{al:List Alt}(W:703∉kf)
  (aa:∀x∈kL el,Kn (oHl ks bs al) ex (fam 0 al) x) (hex:dM (fun q=>∀x∈q.2.refs,Kn (oHl ks bs al) ex (fam 0 al) x) ex)
  (ab:∀i∈kf,i∈keys (oHl ks bs al++ex)∨i∈keys (fam 0 al)) (hd:Go.AM.distinct ((oHl ks bs al++ex).map (·.1))=true) (hn:(ex.all fun p=>Nat.blt p.1 800)=true) (ac:(el.map (·.1)).Nodup) (ad:∀p∈ex,p.2.live=true):
  Sub kf (mkt (fzE 703 (.ra al.length 14 (aV 0 al).flatten) el) (fzH 703 (.ra al.length 14 (aV 0 al).flatten) ([(701,.arr 69 15 (aU bs) 2),(702,.arr 34 10 (aR ks) 2)]++ex)) (xM (fam 0 al))) (mkt el (oHl ks bs al++ex) (fam 0 al)):=by
 have N:TF (fam 0 al):=fH;have ae:((oHl ks bs al++ex).all fun p=>Nat.blt p.1 800)=true:=by rw[all_append,hn];rfl
 have e1:Sub kf (mkt el ([(703,.rarr 71 14 (aV 0 al)),(701,.arr 69 15 (aU bs) 2),(702,.arr 34 10 (aR ks) 2)]++ex) (fam 0 al)) (mkt el (oHl ks bs al++ex) (fam 0 al)):=by
  refine Sub.trans ?_ (Sub.freeze (id:=701) (te:=69) (es:=15) (elems:=aU bs) (fz:=0) rfl);refine Sub.trans ?_ (Sub.freeze (id:=702) (te:=34) (es:=10) (elems:=aR ks) (fz:=0) rfl);have O:∀p∈ex,703≠p.1∧701≠p.1∧702≠p.1:=fun p hp=>by
   have I:=dG hd;simp only[oHl,Bc,Bd,Al,Bv,Ai,not_or] at I;have hm:p.1∈ex.map (·.1):=Af.2 ⟨p,hp,rfl⟩;exact⟨fun e=>I.2.2.1 (e▸hm),fun e=>I.1.2.2 (e▸hm),fun e=>I.2.1.2 (e▸hm)⟩
  have Y:(ex.map (·.1)).Nodup:=by
   have I:=dG hd;simp only[oHl,Bc,Bd,Al,Bv] at I;exact I.2.2.2
  have hg:∀x∈cO (oHl ks bs al++ex),x∈keys (oHl ks bs al++ex)∨x∈keys (fam 0 al):=fun x hx=>by
   rw[iQ] at hx;rcases δ.1 hx with hx | hx
   ·exact .inr (cK x (by simpa [oHl,cO,AObj.refs] using hx))
   ·rcases zL hex x hx with h | h | h
    ·exact .inl (gV.2 (.inl h))
    ·exact .inl (gV.2 (.inr h))
    ·exact .inr h
  have J:∀x,x∈keys (oHl ks bs al++ex)→x∈keys ([(703,AObj.rarr 71 14 (aV 0 al)),(701,.arr 69 15 (aU bs) 2),(702,.arr 34 10 (aR ks) 2)]++ex):=fun x hx=>by
   simp only[oHl,keys,Bc,Bd,Al,Ai] at hx ⊢;rcases hx with h | h | h | h
   ·exact .inr (.inl h)
   ·exact .inr (.inr (.inl h))
   ·exact .inl h
   ·exact .inr (.inr (.inr h))
  refine slT N (FarEq.upd N (FarEq.upd N (FarEq.mkt N ae))) (fun x hx=>?_) (fun x hx=>?_) (fun i hi=>(ab i hi).imp (J i) id) (he:=dM.of fun p hp=>?_) (hh:=⟨⟨_,rfl,.rarrS rfl⟩,⟨_,rfl,.arr⟩,⟨_,rfl,.arr⟩,dM.of fun p hp=>?_⟩) (h3:=?_) (h3':=?_)
  ·rcases aa x hx with h | h | h
   ·exact .inl (J x (gV.2 (.inl h)))
   ·exact .inl (J x (gV.2 (.inr h)))
   ·exact .inr h
  ·refine(hg x ?_).imp (J x) id;rw[iQ] at hx ⊢;rcases δ.1 hx with hx | hx
   ·exact δ.2 (.inl (by simpa [oHl,cO,AObj.refs] using hx))
   ·exact δ.2 (.inr hx)
  ·rw[V.ren_id];exact pF ac p hp
  ·obtain⟨m1,m2,m3⟩:=O p hp;refine⟨p.2,?_,.refl_id (by intro e;have:=ad p hp;rw[e] at this;cases this)⟩;dsimp only;rw[aS _ _ _ (Ne.symm m3),aS _ _ _ (Ne.symm m2)];have hl:Go.AM.look (oHl ks bs al++ex) p.1=some p.2:=pF (dG hd) p (δ.2 (.inr hp));show(match Go.AM.look (oHl ks bs al++ex) p.1 with | some x=>some x | none=>_)=_;rw[hl]
  ·refine fP ?_;simp only[Bc,Bd,Al,Bv,Ai,not_or];refine⟨⟨by decide,by decide,fun h=>?_⟩,⟨by decide,fun h=>?_⟩,fun h=>?_,Y⟩
   all_goals
    obtain⟨p,hp,e⟩:=Af.1 h;have:=O p hp;omega
  ·rw[all_append,hn];rfl
 have Z:Go.AM.distinct (703::List.map (fun p:Nat×AObj=>p.1) ([(701,AObj.arr 69 15 (aU bs) 2),(702,.arr 34 10 (aR ks) 2)]++ex))=true:=by
  have I:=dG hd;simp only[oHl,Bc,Bd,Al,Bv,Ai,not_or] at I;refine fP ?_;simp only[Bc,Bd,Al,Bv,Ai,not_or];exact⟨⟨by decide,by decide,I.2.2.1⟩,⟨by decide,I.1.2.2⟩,I.2.1.2,I.2.2.2⟩
 have e2:=Sub.fzAll (kf:=kf) (el:=el) (hl:=[(703,.rarr 71 14 (aV 0 al)),(701,.arr 69 15 (aU bs) 2),(702,.arr 34 10 (aR ks) 2)]++ex) N (by rw[all_append,hn];rfl);have e3:=Sub.fraT (kf:=kf) (el:=el) (id:=703) (te:=71) (es:=14) (rows:=aV 0 al) (rest:=[(701,.arr 69 15 (aU bs) 2),(702,.arr 34 10 (aR ks) 2)]++ex) N.frz W u6 rfl Z;rw[dT] at e3;exact Sub.trans e3 (Sub.trans e2 e1)
theorem aK9 {c:Core}(h:OwG c):OwP c:=by
 obtain⟨f,n,s,t,ks,bs,al⟩:=c;refine aQ.sub h ?_;have q:TF (fam 0 al):=fH;show Sub [] _ (mk [(0,.ma (dV f n s t ks.length bs.length al.length))] (oHl ks bs al++fam 0 al));rw[←aLm q];have h1:=oZ (kf:=[]) (el:=[(0,.ma (dV f n s t ks.length bs.length al.length))]) (ex:=[]) (ks:=ks) (bs:=bs) (al:=al) (by simp) (Kn.of rfl) trivial (fun _ h=>by cases h) rfl rfl (by simp) (fun _ h=>by cases h);rw[A8] at h1;refine Sub.trans ?_ h1;have J:fzE 703 (.ra al.length 14 (aV 0 al).flatten) [(0,.ma (dV f n s t ks.length bs.length al.length))]=[(0,.ma (jF f n s t ks.length bs.length al))]:=by
  unfold dV jF;simp only[fzE,V.fz,R.fzL,R.fz,B6,B3,Bool.and_self]
 rw[J];have I:TF (xM (fam 0 al)):=q.frz;obtain⟨ids,hp⟩:=s8 (h:=(mkt [(0,V.ma (jF f n s t ks.length bs.length al))] (fzH 703 (.ra al.length 14 (aV 0 al).flatten) ([(701,.arr 69 15 (aU bs) 2),(702,.arr 34 10 (aR ks) 2)]++[])) (xM (fam 0 al))).h) (f:=f) (n:=n) (s:=s) (t:=t) (ks:=ks) (bs:=bs) (al:=al) rfl rfl (FarEq.mkt I rfl);refine Sub.trans ?_ (Sub.conv (t:=0) (v:=.ma (jF f n s t ks.length bs.length al)) (v':=.pa (aC (.mk f n s t ks bs al))) rfl (.agg hp));exact sl
theorem aGw:∀(n:Nat) (c:Core),bE c≤n→LC c→allT TyG c→OwP c
 | 0,c,h,_,_=>by have:=cD c;omega
 | n+1,c,h,hl,J=>aK9 (vL c (fun x hx q I=>aGw n x (by omega) q I) J hl)
theorem aGv (n:Nat) (c:Core) (h:bE c≤n) (hn:n≤570000000000) (q:allT TyG c):OwP c:=aGw n c h (LC.of n c h (by omega)) q
theorem aNh (c:Core) (h:LC c) (I:allT TyG c):OwG c:=vL c (fun x _ hx q=>aGw (bE x) x (le_refl _) hx q) I h
theorem a0i (c:Core) (h:bE c≤570000000000) (q:allT TyG c):OwG c:=aNh c (LC.of _ c (le_refl _) h) q
def nm0 (c:Core):List (List C):=if c.form=5 then [[.pt ((aC c).drop 2)]] else []
def aDn (b:Bind):List C:=[.pt ((bJ b).drop 0)]
def aIe (b:Bind):List C:=[.pt ((bJ b).drop 5)]
def hZ (k:Core):List C:=[.pt (aC k)]
def yQ (v:Str):List C:=[.pt (bL v)]
def aDt (a:Alt):List C:=[.sl 1 (a.vars.map yQ),.sl 1 [[.pt ((c6 a).drop 4)]]]
def aZm (c:Core):List C:=[.sl 1 (nm0 c++c.binds.map aDn),.sl 1 (c.kids.map hZ++c.binds.map aIe)]
def jQ (c:Core):List (List C):=aZm c::c.alts.map aDt
theorem rP {α:Type}(f:α→List C) (w:List (List C)) {l:List α}{i:Nat}{x:α}(h:l[i]?=some x):w++(l.take i).map f++[f x]=w++(l.take (i+1)).map f:=by
 rw[dY h,A4,A0];rfl
theorem aAx (c:Core) (O:c.kids.length+c.binds.length+1≤570000000000) (Y:c.alts.length+1≤570000000000) (aa:∀a∈c.alts,a.vars.length≤570000000000):aQ Tryz.prog 40 [.one (.c (.pt (aC c)))] [] (.one (.c (.sl 2 (jQ c)))) []:=by
 obtain⟨f,n,s,t,ks,bs,al⟩:=c;have O:ks.length+bs.length+1≤570000000000:=O;have Y:al.length+1≤570000000000:=Y;have aa:∀a∈al,a.vars.length≤570000000000:=aa;have ae:(aU bs).length=bs.length:=by rw[bX,θ]
 have ah:(aR ks).length=ks.length:=by rw[bA,θ]
 have ai:(c9 al).length=al.length:=by rw[c8,θ]
 have hW:(nm0 (.mk f n s t ks bs al)).length≤1:=by unfold nm0;split<;>simp
 have J:nm0 (.mk f n s t ks bs al)=if f=5 then [[.pt ((aC (.mk f n s t ks bs al)).drop 2)]] else []:=rfl
 have ap:jQ (.mk f n s t ks bs al)=[.sl 1 (nm0 (.mk f n s t ks bs al)++bs.map aDn),.sl 1 (ks.map hZ++bs.map aIe)]::al.map aDt:=rfl;rw[ap];generalize nm0 (.mk f n s t ks bs al)=W at hW J ⊢;refine bM (n:=123) tok Tryz.func40 rfl rfl rfl ?_;refine sg rfl (sg rfl (AWp.sub (Sub.ownCell (x:=3) (k:=1) (id:=712) 91 1 rfl rfl rfl) (AWp.sub (Sub.ownCell (x:=3) (k:=0) (id:=711) 133 1 rfl rfl rfl) ?_)));refine a8 (sg rfl (aB (aK (fun i:Nat=>mk [(0,.one (.c (.pt (aC (.mk f n s t ks bs al))))),(3,.one (.vp 3 0)),(16,I .i64 ((aR ks).length:Int)),(17,I .i64 i)] [(3,.var 95 [.hs 711 0 0 0,.hs 712 0 i i]),(711,.arr 133 1 [] 0),(712,.arr 91 1 ((ks.take i).map hZ) 0)]) (fun i=>i≤ks.length) (fun i=>ks.length-i) 0 (Aj _) sl ?_)));intro i hi;refine sg rfl (a8 (aA rfl (fun hb=>?_) (fun hb=>?_)))
 ·have q:=ltD hb ah;obtain⟨k,aj⟩:=aJ q;have hki':=j0 aj;have Z:=yZ hZ aj;exact aD (a8 (aB (sg rfl (ag [(7,.row i (aC k))] rfl (ag [] rfl ⟨i+1,q,by dsimp only;omega,sl⟩)))))
 have N:=geD hb ah hi;subst N;rw[As];refine aL (a8 (AWp.cut (mk [(0,.one (.c (.pt (aC (.mk f n s t ks bs al))))),(3,.one (.vp 3 0))] [(3,.var 95 [.hs 711 0 W.length W.length,.hs 712 0 ks.length ks.length]),(711,.arr 133 1 W 0),(712,.arr 91 1 (ks.map hZ) 0)]) ?_ ?_))
 ·refine sg rfl (aA rfl (fun hb=>?_) (fun hb=>?_))
  ·have h5:f=5:=ψ hb;rw[ξ h5] at J;subst J;exact ag [] rfl sl
  ·have h5:¬f=5:=χ hb;rw[φ h5] at J;subst J;exact aD sl
 clear J;refine a8 (sg rfl (aB (aK (fun i:Nat=>mk [(0,.one (.c (.pt (aC (.mk f n s t ks bs al))))),(3,.one (.vp 3 0)),(49,I .i64 ((aU bs).length:Int)),(50,I .i64 i)] [(3,.var 95 [.hs 711 0 (W.length+i) (W.length+i),.hs 712 0 (ks.length+i) (ks.length+i)]),(711,.arr 133 1 (W++(bs.take i).map aDn) 0),(712,.arr 91 1 (ks.map hZ++(bs.take i).map aIe) 0)]) (fun i=>i≤bs.length) (fun i=>bs.length-i) 0 (Aj _) sl ?_)));intro i hi;refine sg rfl (a8 (aA rfl (fun hb=>?_) (fun hb=>?_)))
 ·have q:=ltD hb ae;obtain⟨b,ab⟩:=aJ q;have hbi':=dC ab;have hr1:=rP aDn W ab;have hr2:=rP aIe (ks.map hZ) ab;exact aD (a8 (aB (sg rfl (sgh [(5,.row i (bJ b))] rfl (ag [] rfl (ag [] rfl ⟨i+1,q,by dsimp only;omega,sl⟩))))))
 have N:=geD hb ae hi;subst N;rw[As];have O:(W++bs.map aDn).length=W.length+bs.length:=by simp
 have Y:(ks.map hZ++bs.map aIe).length=ks.length+bs.length:=by simp
 rw[←O,←Y];generalize W++bs.map aDn=N0;generalize ks.map hZ++bs.map aIe=P0;refine aL (AWp.sub (Sub.freeze (id:=711) rfl) (AWp.sub (Sub.freeze (id:=712) rfl) (AWp.sub (vp 3 [.sl 1 N0,.sl 1 P0]) ?_)));refine sgh [(1,.id 500)] rfl (a8 (sg rfl (aB (aK (fun i:Nat=>mk [(0,.one (.c (.pt (aC (.mk f n s t ks bs al))))),(7,.one (.hs 500 0 (1+i) (1+i))),(82,I .i64 ((c9 al).length:Int)),(83,I .i64 i)] [(500,.arr 95 2 ([[.sl 1 N0,.sl 1 P0]]++(al.take i).map aDt) 0)]) (fun i=>i≤al.length) (fun i=>al.length-i) 0 (Aj _) sl ?_))));intro i hi;refine sg rfl (a8 (aA rfl (fun hb=>?_) (fun hb=>?_)))
 ·have q:=ltD hb ai;obtain⟨a,ac⟩:=aJ q;have hai':=pL ac;have hvl:=aa a (Ab ac);have Z:=rP aDt [[.sl 1 N0,.sl 1 P0]] ac;have ak:(a.vars.map bL).length=a.vars.length:=θ _;have aq:(([[.sl 1 N0,.sl 1 P0]]:List (List C))++(al.take i).map aDt).length=1+i:=by
   rw[τ,θ,Aq];show 1+min i al.length=_;omega
  have hall:al.length≤570000000000:=by omega
  generalize ([[.sl 1 N0,.sl 1 P0]]:List (List C))++(al.take i).map aDt=G at aq Z ⊢;refine aD (a8 (aB (sg rfl (sgh [(5,.row i (c6 a))] rfl (sgh [(3,.all)] rfl (AWp.sub (Sub.ownCell (x:=10) (k:=0) (id:=721) 133 1 rfl rfl rfl) ?_))))));refine a8 (sg rfl (aB (aK (fun j:Nat=>mk [(0,.one (.c (.pt (aC (.mk f n s t ks bs al))))),(7,.one (.hs 500 0 (1+i) (1+i))),(9,.one (.c (.pt (c6 a)))),(10,.one (.vp 10 0)),(82,I .i64 ((c9 al).length:Int)),(83,I .i64 i),(101,I .i64 ((a.vars.map bL).length:Int)),(102,I .i64 j)] [(500,.arr 95 2 G 0),(10,.var 95 [.hs 721 0 j j,.c (.sl 1 [[.pt ((c6 a).drop 4)]])]),(721,.arr 133 1 ((a.vars.take j).map yQ) 0)]) (fun j=>j≤a.vars.length) (fun j=>a.vars.length-j) 0 (Aj _) sl ?_)));intro j hj;refine sg rfl (a8 (aA rfl (fun hb=>?_) (fun hb=>?_)))
  ·have ad:=ltD hb ak;obtain⟨v,hv⟩:=aJ ad;have hv':=bO bL hv;have hr3:=yZ yQ hv;exact aD (a8 (aB (sg rfl (ag [(7,.row j (bL v))] rfl (ag [] rfl ⟨j+1,ad,by dsimp only;omega,sl⟩)))))
  have am:=geD hb ak hj;subst am;rw[As];have hlv:a.vars.length=(a.vars.map yQ).length:=(θ _).symm;refine aL (AWp.sub (Sub.freeze (id:=721) rfl) (AWp.sub (vp 10 (aDt a)) ?_));exact ag [(2,.all)] rfl (ag [] rfl ⟨i+1,q,by dsimp only;omega,sl⟩)
 have N:=geD hb ai hi;subst N;rw[As];refine aL (sg rfl (AWp.sub (Sub.freeze (id:=500) rfl) ?_));exact aF (rtT (hc:=hs_all rfl rfl (by simp;omega) rfl))
end Go.Proofs.YtglfogjcijokpaaGreatDoor
