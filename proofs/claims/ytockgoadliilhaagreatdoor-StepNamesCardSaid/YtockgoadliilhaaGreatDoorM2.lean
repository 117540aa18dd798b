/-
  Texts Am7 to Am11 in one.
-/
import Derived.Test.YtockgoadliilhaaGreatDoorM1
import Derived.Deep.LoopGhost
open List (all_eq_true append_assoc append_nil drop_append drop_of_length_le drop_succ_cons drop_take drop_zero eq_nil_of_length_eq_zero flatten_append flatten_cons foldl_cons length_append length_cons length_drop length_nil length_range length_set length_take map_cons map_nil map_toArray mem_append mem_cons mem_cons_of_mem mem_map mem_of_mem_drop mem_of_mem_take nil_append nodup_cons nodup_nil set_eq_take_append_cons_drop size_toArray take_append_of_le_length take_left' take_of_length_le take_succ_cons take_zero)
open Nat (add_assoc add_mul add_zero beq_refl eq_of_beq_eq_true le_of_ble_eq_true le_refl le_trans lt_of_le_of_lt mul_le_mul_left mul_le_mul_right sub_le sub_self sub_zero zero_add zero_le)
namespace Go.AM
open Go
section
variable {P:Program}{n:Nat}{o:Oper}{st:St}{d:Nat}{T:TT}
theorem run_store {t:TypeId}{i:TI}(O:TIok P t i) (w:World) (b off:Nat) (vs news:List Value) (J:TypeId) (v:Value) (hg:w.heap[b]?=some (.cells ⟨vs⟩ J (0,0))) (hv:v.cells.toList=news) (hl:news.length=i.size) (I:off+news.length≤vs.length) (h1:∀u∈news,u.oneCell'=true):
  (Instr.storeAt t (.pointer (some ⟨b,off,none⟩)) v).run P w=.ok () (w.setRow b ⟨vs.take off++news++vs.drop (off+news.length)⟩):=by
 have N:v.cells.size=i.size:=by rw[←hl,←hv];simp
 have q:=run_storeCells_at (P:=P) b off J news 0 ⟨vs⟩ w hg (by simpa using I) h1;simp only[Bw] at q;simp only[Instr.storeAt,Instr.sureAddr,Ae,Af,ε,storeVar,O.size_run w,N,hv];simp only[ne_eq,not_true_eq_false,Bv,q]
theorem kG {S:Sto}{μ:Mu}{H:cR}{id:Nat}{o o':AObj}{p:Nat×Nat×Nat}(h:H id=some o) (hm:μ id=some p) (hs:o.succ True o'):Evolve S μ H S (upd μ id (some p)) (upd H id (some o')):=by
 refine⟨S.le_refl,fun j x hj=>?_⟩;by_cases q:j=id
 ·subst q;rw[h] at hj;cases hj;refine⟨o',aK _ _ _,?_⟩;have he:upd μ j (some p) j=μ j:=by rw[aK,hm]
  rw[he];simpa using hs
 ·exact⟨x,by rw[bE _ _ _ q];exact hj,x.succ_refl (bE _ _ _ q)⟩
theorem Step.turn {rd:Rd}{id:Nat}{ao q:AObj}(hd:o.dst=none) (hid:st.h id=some ao) (O:id∈rd.h) (J:ao.succ True q)
  (h:∀st',pM rd st st'→st'.h id=some ao→∀G S μ a w,Sim G n S μ st' a w→∃w' N b c,(execOp a.eval o).run P w=.ok .skip w'∧μ id=some (b,c)∧WChg w w' b N∧
   mW S (upd μ id (some (b,c))) (upd st'.h id (some q)) w' id q∧(∀o v,S.cell b o=some v→∃vs t fr,N=.cells vs t fr∧vs[o]?=some v)∧(∀m,S.mapo b=some m→w.heap.size≤b)):
  Step P n o st rd ⟨none,[(id,some q)]⟩:=by
 intro st' ha G S μ a w K Q hs hk;have I:st'.h id=some ao:=by rw[ha.2 id O,hid]
 obtain⟨w',N,b,c,Z,hm,hw,hO,hS,W⟩:=h st' ha I G S μ a w hs;refine fun ro=>yD Z ?_
 rw[hd];have Y:=kG (S:=S) (μ:=μ) I hm J;have hi:=hs.inv.chg (id:=id) (cap:=c) (ao:=q) hw (.inr ⟨ao,c,I,hm⟩) Y hO hS W;refine hk S (upd μ id (some (b,c))) _ _ ?_;have:=hs.put_none hi Y undef;unfold Eff.apply;rw[dH];exact this
def bY {α:Type}(l:List α) (off:Nat) (new:List α):List α:=l.take off++new++l.drop (off+new.length)
theorem j3 {S:Sto}{w:World}{b:Nat}(hb:S.mapo b=none) (m:MK) (e:S.mapo b=some m):w.heap.size≤b:=by
 rw[hb] at e;cases e
theorem aTl {t tv:TypeId}{i:TI}{x y:Operand}{id off:Nat}{cells rs:List R}{v:V}(hT:Tok P T) (ho:o.op=.store t x y) (hd:o.dst=none) (hi:T[t]?=some (some i)) (hx:opv st x=some (.one (.vp id off)))
  (hy:opv st y=some v) (hc:iM v=some rs) (hh:st.h id=some (.var tv cells)) (hrs:rs.length=i.size) (hl:Nat.ble (off+i.size) cells.length=true):
  Step P n o st ⟨opr x++opr y,[id]⟩ ⟨none,[(id,some (.var tv (bY cells off rs)))]⟩:=by
 refine Step.turn hd hh (by simp) (by simp[AObj.succ]) fun st' ha I G S μ a w hs=>?_
 have J:=aQ hs hx fun t ht=>ha.1 t (by simp[ht])
 have Y:=aQ hs hy fun t ht=>ha.1 t (by simp[ht])
 simp only[b6,bF] at J;obtain⟨t',cells',b,c,h1,h2,h3⟩:=J;obtain⟨b',vs,g1,g2,g3,g4⟩:=hs.inv.obj id _ I;rw[g1] at h2;cases h2;have hlen:=Aq hl;have hvl:=g3.length;have q:=eM Y hc;have N:=q.length;have O:=run_store (hT.get hi) w b off vs (a.eval y).cells.toList tv (a.eval y) g2 rfl (by omega) (by omega) q.one;have W:=kG (S:=S) (μ:=μ) (o':=.var tv (bY cells off rs)) I g1 (by simp[AObj.succ]);have Z:=WChg.setRow w b ⟨vs⟩ ⟨vs.take off++(a.eval y).cells.toList++vs.drop (off+(a.eval y).cells.toList.length)⟩ tv (0,0) g2;refine⟨_,_,b,(0,0),?_,g1,Z,⟨b,_,aK _ _ _,Z.new,?_,g4⟩,(fun o v e=>by rw[g4.1] at e;cases e),fun m e=>j3 g4.2 m e⟩
 ·simp only[execOp,ho,h3,Ae,O,ε,Af]
 ·have h1:=aW.evolve W _ _ (g3.take off);have h2:=aW.evolve W _ _ q;have h3:=aW.evolve W _ _ (g3.drop (off+rs.length));rw[←N] at h3;have:=(h1.append h2).append h3;rw[show bY cells off rs=cells.take off++rs++cells.drop (off+(a.eval y).cells.toList.length) by rw[N];rfl] at this ⊢;exact this
theorem aCu {α:Type}{es:Nat}:∀{l:List (List α)},(∀r∈l,r.length=es)→∀(k:Nat) (r:List α),l[k]?=some r→
  (l.take k).flatten=l.flatten.take (k*es)∧(l.drop (k+1)).flatten=l.flatten.drop (k*es+es)
 | [],_,k,r,h=>by simp at h
 | x::xs,hl,0,r,_=>by
  have hx:=hl x (by simp);simp only[Bp,List.flatten_nil,Nat.zero_mul,Be,Cs,Ce,Bi,true_and];rw[drop_append,hx,sub_self,Ce,drop_of_length_le (by omega),Bd]
 | x::xs,hl,k+1,r,h=>by
  have hx:=hl x (by simp);simp at h;obtain⟨h1,h2⟩:=aCu (l:=xs) (fun r q=>hl r (by simp[q])) k r h;simp only[Ax,Bi,Cs];rw[h1,h2,List.take_append,drop_append,hx];have I:(k+1)*es-es=k*es:=by rw[A5];omega
  have J:(k+1)*es+es-es=k*es+es:=by rw[A5];omega
  rw[I,J,Bb (l:=x) (by rw[hx,A5];omega),drop_of_length_le (l:=x) (by rw[hx,A5];omega),Bd];exact⟨rfl,rfl⟩
theorem aG0 {t te es:Nat}{i:TI}{x y:Operand}{id k fo sz:Nat}{elems:List (List C)}{v:V}{rs:List R}{cs r:List C}(hT:Tok P T) (ho:o.op=.store t x y) (hd:o.dst=none) (hi:T[t]?=some (some i)) (hx:opv st x=some (.one (.ep id k fo sz)))
  (hy:opv st y=some v) (hc:iM v=some rs) (hp:jB rs=some cs) (hh:st.h id=some (.arr te es elems 0)) (hsz:sz=elems.length) (hr:elems[k]?=some r) (hcs:cs.length=i.size) (hl:fo+i.size≤es):
  Step P n o st ⟨opr x++opr y,[id]⟩ ⟨none,[(id,some (.arr te es (elems.set k (bY r fo cs)) 0))]⟩:=by
 refine Step.turn hd hh (by simp) (by simp[AObj.succ]) fun st' ha N G S μ a w hs=>?_
 have hvx:=aQ hs hx fun t ht=>ha.1 t (by simp[ht])
 have hvy:=aQ hs hy fun t ht=>ha.1 t (by simp[ht])
 simp only[b6,bF] at hvx;obtain⟨_,hv | ⟨te',es',elems',fz',h1,h2,h3⟩⟩:=hvx
 ·rw[N] at hv;cases hv
 rw[N] at h1;cases h1;obtain⟨h4,b,base,cap,h5,h6⟩:=h3 hsz;obtain⟨g0,vs,g1,g2,g3,g4,g5,g6,g7⟩:=(hs.inv.obj id _ N).arr h5;have I:=eM hvy hc;rw[nV hp] at I;have W:=I.pure;have hone:=I.one;have hnl:=W.length;have hk:k<elems.length:=(Ab.1 hr).1
 have hres:r.length=es:=g0 r (η hr);have hke:(k+1)*es≤elems.length*es:=Ay _ hk;have hce:elems.length*es≤cap*es:=Ay _ g3;rw[A5] at hke;generalize hnews:(a.eval y).cells.toList=news at *;have hrun:=run_store (hT.get hi) w b (base+k*es+fo) vs news te (a.eval y) g1 hnews (by omega) (by omega) hone;have hE:=kG (S:=S) (μ:=μ) (o':=.arr te es (elems.set k (bY r fo cs)) 0) N h5 (by simp[AObj.succ]);have Y:=aRb g0 g5 hr;have O:=aCu g0 k r hr;have hlen:(elems.set k (bY r fo cs)).length=elems.length:=by simp
 have hW:=WChg.setRow w b ⟨vs⟩ ⟨vs.take (base+k*es+fo)++news++vs.drop (base+k*es+fo+news.length)⟩ te (0,0) g1;refine⟨_,_,b,(base,cap),?_,h5,hW,⟨?_,.inr ⟨b,base,cap,_,aK _ _ _,hW.new,?_,by rw[hlen];exact g3,g4,?_,g6,by rw[hlen];exact g7.1,fun e=>by cases e⟩⟩,fun o v e=>?_,fun m e=>j3 g4.2 m e⟩
 ·simp only[execOp,ho,h6,Ae,hrun,ε,Af]
 ·intro q hq;rcases List.mem_or_eq_of_mem_set hq with hq | rfl
  ·exact g0 q hq
  ·unfold bY;simp;omega
 ·simp only[ω,Au,Bx];omega
 ·rw[hlen];have e1:(elems.set k (bY r fo cs)).flatten=elems.flatten.take (k*es)++(r.take fo++cs++r.drop (fo+cs.length))++elems.flatten.drop (k*es+es):=by
   rw[Cf,ξ hk,flatten_append,Bi,O.1,O.2,←At];rfl
  have e2:((vs.take (base+k*es+fo)++news++vs.drop (base+k*es+fo+news.length)).drop base).take (elems.length*es)=
    ((vs.drop base).take (elems.length*es)).take (k*es)++((((vs.drop (base+k*es)).take es).take fo)++news++(((vs.drop (base+k*es)).take es).drop (fo+cs.length)))++((vs.drop base).take (elems.length*es)).drop (k*es+es):=by
   apply Bt;intro j;simp only[Av,Ap,By,ω,Au,Bx];have hm1:min (k*es) (min (elems.length*es) (vs.length-base))=k*es:=by omega
   have hm2:min (base+k*es+fo) vs.length=base+k*es+fo:=by omega
   have hm3:min fo es=fo:=by omega
   have hm4:min es (vs.length-(base+k*es))=es:=by omega
   simp only[hm1,hm2,hm3,hm4,hnl];by_cases c1:j<k*es
   ·have J:j<elems.length*es:=by omega
    have a2:base+j<base+k*es+fo:=by omega
    have a3:base+j<base+k*es+fo+cs.length:=by omega
    have a4:j<k*es+(fo+cs.length+(es-(fo+cs.length))):=by omega
    simp[c1,J,a2,a3,a4]
   ·by_cases c2:j<k*es+fo
    ·have J:j<elems.length*es:=by omega
     have a2:base+j<base+k*es+fo:=by omega
     have a3:base+j<base+k*es+fo+cs.length:=by omega
     have a4:j<k*es+(fo+cs.length+(es-(fo+cs.length))):=by omega
     have a5:j-k*es<fo+cs.length:=by omega
     have Z:j-k*es<fo:=by omega
     have a7:j-k*es<es:=by omega
     simp[c1,J,a2,a3,a4,a5,Z,a7,show base+k*es+(j-k*es)=base+j by omega]
    ·by_cases c3:j<k*es+fo+cs.length
     ·have J:j<elems.length*es:=by omega
      have a2:¬base+j<base+k*es+fo:=by omega
      have a3:base+j<base+k*es+fo+cs.length:=by omega
      have a4:j<k*es+(fo+cs.length+(es-(fo+cs.length))):=by omega
      have a5:j-k*es<fo+cs.length:=by omega
      have Z:¬j-k*es<fo:=by omega
      simp[c1,J,a2,a3,a4,a5,Z,show base+j-(base+k*es+fo)=j-k*es-fo by omega]
     ·by_cases c4:j<k*es+es
      ·have J:j<elems.length*es:=by omega
       have a3:¬base+j<base+k*es+fo+cs.length:=by omega
       have a4:j<k*es+(fo+cs.length+(es-(fo+cs.length))):=by omega
       have a5:¬j-k*es<fo+cs.length:=by omega
       have Z:fo+cs.length+(j-k*es-(fo+cs.length))<es:=by omega
       simp[c1,J,a3,a4,a5,Z,show base+k*es+fo+cs.length+(base+j-(base+k*es+fo+cs.length))=base+j by omega,show base+k*es+(fo+cs.length+(j-k*es-(fo+cs.length)))=base+j by omega]
      ·have a3:¬base+j<base+k*es+fo+cs.length:=by omega
       have a4:¬j<k*es+(fo+cs.length+(es-(fo+cs.length))):=by omega
       by_cases c5:j<elems.length*es
       ·have a5:k*es+es+(j-(k*es+(fo+cs.length+(es-(fo+cs.length)))))<elems.length*es:=by omega
        simp[a3,a4,c5,a5,show base+k*es+fo+cs.length+(base+j-(base+k*es+fo+cs.length))=base+j by omega,show base+(k*es+es+(j-(k*es+(fo+cs.length+(es-(fo+cs.length))))))=base+j by omega]
       ·have a5:¬k*es+es+(j-(k*es+(fo+cs.length+(es-(fo+cs.length)))))<elems.length*es:=by omega
        simp[a4,c5,a5]
  rw[e1];show dL S _ (((vs.take (base+k*es+fo)++news++vs.drop (base+k*es+fo+news.length)).drop base).take (elems.length*es));rw[e2];exact((g5.take (k*es)).append (((Y.take fo).append W).append (Y.drop (fo+cs.length)))).append (g5.drop (k*es+es))
 ·--what stays is not touched
  by_cases hb:base≤o
  ·rw[g6 rfl o hb] at e;cases e
  ·obtain⟨vs0,t0,fr0,q1,q2⟩:=hs.inv.holds.1 b o v e;rw[g1] at q1;cases q1;refine⟨_,_,_,rfl,?_⟩;simp only[List.getElem?_toArray] at q2 ⊢;have hlt:o<vs.length:=(Ab.1 q2).1
   rw[At,A9 (by simp;omega),Av,ξ (by omega)];exact q2
theorem y8 (b off k:Nat):(⟨b,off,none⟩:Addr).add k=⟨b,off+k,none⟩:=Addr.add_mid b off k
theorem iY {t I:TypeId}{i J:TI}{fs:List (Nat×TypeId)}{f q:Nat}(N:Tok P T) (hi:T[t]?=some (some i)) (hk:i.k=.st fs) (hf:fs[f]?=some (q,I)) (O:T[I]?=some (some J)) (W:J.size≠0) (w:World) (b off:Nat):
  (Instr.fieldAt t (.pointer (some ⟨b,off,none⟩)) f).run P w=.ok (.pointer (some ⟨b,off+q,none⟩)) w:=by
 obtain⟨fields,h1,h2⟩:=(N.get hi).struct hk;rw[h2] at hf;simp only[Az,B0,Array.getElem?_toList] at hf;obtain⟨fl,h3,h4⟩:=hf;cases h4;simp only[Instr.fieldAt,Ae,As h1 w,ε,h3,Instr.sureAddr,Af,fieldPlace,(N.get O).size_run w];simp[W,y8]
theorem aG5 {t I:TypeId}{i J:TI}{fs:List (Nat×TypeId)}{f q:Nat}{x:Operand}{id off:Nat}(W:Tok P T) (Y:o.op=.fieldAddr t x f) (hd:o.dst=some d) (N:d<n) (hi:T[t]?=some (some i)) (hk:i.k=.st fs) (hf:fs[f]?=some (q,I)) (O:T[I]?=some (some J)) (Z:J.size≠0)
  (hx:opv st x=some (.one (.vp id off))):Step P n o st ⟨opr x,[]⟩ ⟨some (d,some (.one (.vp id (off+q)))),[]⟩:=by
 refine Step.value hd N fun st' ha G S μ a w hs=>?_
 have hv:=aQ hs hx ha.1;simp only[b6,bF] at hv;obtain⟨t',cells',b,c,h1,h2,h3⟩:=hv;refine⟨.pointer (some ⟨b,off+q,none⟩),?_,?_⟩
 ·simp only[execOp,Y,h3,Ae,iY W hi hk hf O Z,ε,Af]
 ·simp only[b6,bF];exact⟨t',cells',b,c,h1,h2,rfl⟩
theorem aG7 {t I:TypeId}{i J:TI}{fs:List (Nat×TypeId)}{f q:Nat}{x:Operand}{l:List C}(W:Tok P T) (Y:o.op=.fieldAddr t x f) (hd:o.dst=some d) (N:d<n) (hi:T[t]?=some (some i)) (hk:i.k=.st fs) (hf:fs[f]?=some (q,I)) (O:T[I]?=some (some J)) (Z:J.size≠0)
  (hx:opv st x=some (.one (.c (.pt l)))):Step P n o st ⟨opr x,[]⟩ ⟨some (d,some (.one (.c (.pt (l.drop q))))),[]⟩:=by
 refine Step.value hd N fun st' ha G S μ a w hs=>?_
 have hv:=aQ hs hx ha.1;simp only[b6,bF,Rep] at hv;obtain⟨b,off,h1,vs,h2,h3⟩:=hv;refine⟨.pointer (some ⟨b,off+q,none⟩),?_,?_⟩
 ·simp only[execOp,Y,h1,Ae,iY W hi hk hf O Z,ε,Af]
 ·simp only[b6,bF,Rep];refine⟨b,off+q,rfl,vs.drop q,h2.drop q,fun j v hj=>?_⟩;rw[Ap] at hj;have:=h3 (q+j) v hj;rwa [←B8] at this
theorem aG8 {t J:TypeId}{i N:TI}{fs:List (Nat×TypeId)}{f q:Nat}{x:Operand}{id k fo sz:Nat}(Z:Tok P T) (ho:o.op=.fieldAddr t x f) (hd:o.dst=some d) (O:d<n) (hi:T[t]?=some (some i)) (hk:i.k=.st fs) (hf:fs[f]?=some (q,J)) (W:T[J]?=some (some N)) (hz:N.size≠0)
  {te es:Nat} {elems:List (List C)} {fz:Nat} (hx:opv st x=some (.one (.ep id k fo sz))) (hh:st.h id=some (.arr te es elems fz)) (Y:sz=elems.length):Step P n o st ⟨opr x,[id]⟩ ⟨some (d,some (.one (.ep id k (fo+q) sz))),[]⟩:=by
 refine Step.value hd O fun st' ha G S μ a w hs=>?_
 have hv:=aQ hs hx ha.1;have I:st'.h id=some (.arr te es elems fz):=by rw[ha.2 id (by simp),hh]
 simp only[b6,bF] at hv;obtain⟨_,hv | ⟨te',es',elems',fz',h1,h2,h3⟩⟩:=hv
 ·rw[I] at hv;cases hv
 rw[I] at h1;cases h1;obtain⟨h4,b,base,cap,h5,h6⟩:=h3 Y;refine⟨.pointer (some ⟨b,base+k*es+fo+q,none⟩),?_,?_⟩
 ·simp only[execOp,ho,h6,Ae,iY Z hi hk hf W hz,ε,Af]
 ·simp only[b6,bF];exact⟨⟨_,rfl⟩,.inr ⟨te,es,elems,fz,I,h2,fun _=>⟨h4,b,base,cap,h5,by rw[B8]⟩⟩⟩
theorem kA {t e:TypeId}{i q:TI}(I:Tok P T) (hi:T[t]?=some (some i)) (hk:i.k=.sl e) (J:T[e]?=some (some q)) (w:World) (b off len cap k:Nat) (kk:IntKind) (N:k<len):
  (Instr.indexAt t (.slice (some ⟨b,off,none⟩) len cap) (.int kk (k:Int))).run P w=.ok (.pointer (some ⟨b,off+k*q.size,none⟩)) w:=by
 have h1:=(I.get hi).slice hk;simp only[Instr.indexAt,asIntOf,Ae,Af,ε,As h1 w];rw[ξ ⟨by omega,by omega⟩];simp only[Ae,(I.get J).size_run w,ε,Af,Int.toNat_natCast,y8]
theorem aTn {t e:TypeId}{i J:TI}{x y:Operand}{es k:Nat}{kk:IntKind}{m:Int}{l:List (List C)}{r:List C}(hT:Tok P T) (ho:o.op=.indexAddr t x y) (hd:o.dst=some d) (N:d<n) (hi:T[t]?=some (some i)) (hk:i.k=.sl e) (O:T[e]?=some (some J)) (W:J.size=es)
  (hx:opv st x=some (.one (.c (.sl es l)))) (hy:opv st y=some (I kk m)) (hm:m=(k:Int)) (Y:l[k]?=some r):Step P n o st ⟨opr x++opr y,[]⟩ ⟨some (d,some (.one (.c (.pt r)))),[]⟩:=by
 refine Step.value hd N fun st' ha G S μ a w hs=>?_
 have hv:=aQ hs hx (eV ha).1;have Z:=fF (aQ hs hy (eV ha).2);have hlt:k<l.length:=(Ab.1 Y).1
 simp only[b6,bF,Rep] at hv;obtain⟨q,len,cap,h1,h2,h3,h4,h5,h6,b,off,h7,h8⟩:=hv;cases q with
 | none=>have:=(h5 rfl).1;omega
 | some q=>
  obtain⟨h9,h10⟩:=h7 q rfl;have h11:=h6 q rfl (by omega);have aa:q=⟨b,off,none⟩:=by cases q;simp_all
  subst aa;subst hm;obtain⟨q1,vs,q2,q3⟩:=h8.get k r Y;refine⟨.pointer (some ⟨b,off+k*es,none⟩),?_,?_⟩
  ·simp only[execOp,ho,h1,Z,Ae,kA hT hi hk O w b off len cap k kk (by omega),ε,Af,W]
  ·simp only[b6,bF,Rep];exact⟨b,off+k*es,rfl,vs,q2,q3⟩
theorem uI {t e:TypeId}{i N:TI}{x y:Operand}{te es k id off len sz:Nat}{kk:IntKind}{m:Int}{elems:List (List C)}{fz:Nat}(hT:Tok P T) (ho:o.op=.indexAddr t x y) (hd:o.dst=some d) (O:d<n) (hi:T[t]?=some (some i)) (hk:i.k=.sl e) (W:T[e]?=some (some N)) (Y:N.size=es)
  (hx:opv st x=some (.one (.hs id off len sz))) (hh:st.h id=some (.arr te es elems fz)) (J:sz=elems.length) (hy:opv st y=some (I kk m)) (hm:m=(k:Int)) (Z:k<len):Step P n o st ⟨opr x++opr y,[id]⟩ ⟨some (d,some (.one (.ep id (off+k) 0 sz))),[]⟩:=by
 refine Step.value hd O fun st' ha G S μ a w hs=>?_
 have hv:=aQ hs hx fun t ht=>ha.1 t (by simp[ht])
 have aa:=fF (aQ hs hy fun t ht=>ha.1 t (by simp[ht]));have q:st'.h id=some (.arr te es elems fz):=by rw[ha.2 id (by simp),hh]
 simp only[b6,bF] at hv;obtain⟨_,hv | ⟨te',es',elems',fz',h1,h2,h3⟩⟩:=hv
 ·rw[q] at hv;cases hv
 rw[q] at h1;cases h1;obtain⟨h4,⟨h5,h6,h7⟩ | ⟨b,base,cap,h5,h6⟩⟩:=h3 J
 ·subst h6;simp at J;omega
 subst hm;refine⟨.pointer (some ⟨b,base+(off+k)*es+0,none⟩),?_,?_⟩
 ·simp only[execOp,ho,h6,aa,Ae,kA hT hi hk W w b (base+off*es) len _ k kk Z,ε,Af,Y,Bw];rw[show base+off*es+k*es=base+(off+k)*es by rw[A5];omega]
 ·simp only[b6,bF];exact⟨⟨_,rfl⟩,.inr ⟨te,es,elems,fz,q,h2,fun _=>⟨by omega,b,base,cap,h5,rfl⟩⟩⟩
theorem yR {t e:TypeId}{m:Nat}{i q:TI}(I:Tok P T) (hi:T[t]?=some (some i)) (hk:i.k=.ar m e) (J:T[e]?=some (some q)) (w:World) (b off k:Nat) (kk:IntKind) (N:k<m):
  (Instr.indexAt t (.pointer (some ⟨b,off,none⟩)) (.int kk (k:Int))).run P w=.ok (.pointer (some ⟨b,off+k*q.size,none⟩)) w:=by
 have h1:=(I.get hi).array hk;have h2:(Instr.sureAddr (.pointer (some ⟨b,off,none⟩))).run P w=.ok ⟨b,off,none⟩ w:=by simp[Instr.sureAddr]
 simp only[Instr.indexAt,asIntOf,Ae,Af,ε,As h1 w,h2];rw[ξ ⟨by omega,by omega⟩];simp only[Ae,(I.get J).size_run w,ε,Af,Int.toNat_natCast,y8]
theorem aCd {t e:TypeId}{i J:TI}{x y:Operand}{id off k m:Nat}{kk:IntKind}{q:Int}(Z:Tok P T) (ho:o.op=.indexAddr t x y) (hd:o.dst=some d) (N:d<n) (hi:T[t]?=some (some i)) (hk:i.k=.ar m e) (O:T[e]?=some (some J))
  (hx:opv st x=some (.one (.vp id off))) (hy:opv st y=some (I kk q)) (hm:q=(k:Int)) (W:k<m):Step P n o st ⟨opr x++opr y,[]⟩ ⟨some (d,some (.one (.vp id (off+k*J.size)))),[]⟩:=by
 refine Step.value hd N fun st' ha G S μ a w hs=>?_
 have hv:=aQ hs hx (eV ha).1;have Y:=fF (aQ hs hy (eV ha).2);simp only[b6,bF] at hv;obtain⟨t',cells',b,c,h1,h2,h3⟩:=hv;subst hm;refine⟨.pointer (some ⟨b,off+k*J.size,none⟩),?_,?_⟩
 ·simp only[execOp,ho,h3,Y,Ae,yR Z hi hk O w b off k kk W,ε,Af]
 ·simp only[b6,bF];exact⟨t',cells',b,c,h1,h2,rfl⟩
def notNil:V→Bool
 | .one (.vp _ _)=>true
 | .one (.c (.pt _))=>true
 | .one (.pas _)=>true
 | _=>false
theorem aG1 {x:Operand}{y:V}(I:o.op=.nilCheck x) (hd:o.dst=some d) (J:d<n) (hx:opv st x=some y) (q:notNil y=true):Step P n o st ⟨opr x,[]⟩ ⟨some (d,some y),[]⟩:=by
 refine Step.value hd J fun st' ha G S μ a w hs=>⟨a.eval x,?_,aQ hs hx ha.1⟩
 have hv:=aQ hs hx ha.1;unfold notNil at q;split at q
 ·simp only[b6,bF] at hv;obtain⟨t',cells',b,c,h1,h2,h3⟩:=hv;simp[execOp,I,h3]
 ·simp only[b6,bF,Rep] at hv;obtain⟨b,off,h1,_⟩:=hv;simp[execOp,I,h1]
 ·simp only[b6,bF] at hv;obtain⟨b,off,h1,_⟩:=hv;simp[execOp,I,h1]
 ·cases q
theorem k9 {t:TypeId}{x:Operand}{a:Act}{w:World}{u:Value}{m:Int}(q:o.op=.call { callee:=.builtin .len,args:= #[x],argTypes:= #[t] }) (hx:a.eval x=u) (I:(Builtin.len_ #[t] o.type #[u]).run P w=.ok (goInt m) w):
  (execOp a.eval o).run P w=.ok (.value (goInt m)) w:=by
 simp only[execOp,q,resolve,map_toArray,Am,Bs,hx,Ae,Af,ε,invoke,builtin,I]
theorem aOx {t e:TypeId}{i:TI}{x:Operand}{es:Nat}{l:List (List C)}(J:Tok P T) (N:o.op=.call { callee:=.builtin .len,args:= #[x],argTypes:= #[t] }) (hd:o.dst=some d) (q:d<n) (hi:T[t]?=some (some i)) (hk:i.k=.sl e)
  (hx:opv st x=some (.one (.c (.sl es l)))):Step P n o st ⟨opr x,[]⟩ ⟨some (d,some (I .i64 (l.length:Int))),[]⟩:=by
 refine Step.value hd q fun st' ha G S μ a w hs=>?_
 have hv:=aQ hs hx ha.1;simp only[b6,bF,Rep] at hv;obtain⟨O,len,cap,h1,h2,_⟩:=hv;refine⟨goInt l.length,k9 N h1 ?_,by simp[b6,bF,Rep,goInt]⟩;simp[Builtin.len_,As ((J.get hi).slice hk) w,h2]
theorem aOz {t e:TypeId}{i:TI}{x:Operand}(J:Tok P T) (N:o.op=.call { callee:=.builtin .len,args:= #[x],argTypes:= #[t] }) (hd:o.dst=some d) (q:d<n) (hi:T[t]?=some (some i)) (hk:i.k=.sl e)
  (hx:opv st x=some (.one (.c .nl))):Step P n o st ⟨opr x,[]⟩ ⟨some (d,some (I .i64 0)),[]⟩:=by
 refine Step.value hd q fun st' ha G S μ a w hs=>?_
 have hv:=aQ hs hx ha.1;simp only[b6,bF,Rep] at hv;refine⟨goInt 0,k9 N hv ?_,by simp[b6,bF,Rep,goInt]⟩;simp[Builtin.len_,As ((J.get hi).slice hk) w]
theorem aEr {t e:TypeId}{i:TI}{x:Operand}{te es id off len sz:Nat}{elems:List (List C)}{fz:Nat}(N:Tok P T) (O:o.op=.call { callee:=.builtin .len,args:= #[x],argTypes:= #[t] }) (hd:o.dst=some d) (W:d<n) (hi:T[t]?=some (some i)) (hk:i.k=.sl e)
  (hx:opv st x=some (.one (.hs id off len sz))) (hh:st.h id=some (.arr te es elems fz)) (q:sz=elems.length):Step P n o st ⟨opr x,[id]⟩ ⟨some (d,some (I .i64 (len:Int))),[]⟩:=by
 refine Step.value hd W fun st' ha G S μ a w hs=>?_
 have hv:=aQ hs hx ha.1;have J:st'.h id=some (.arr te es elems fz):=by rw[ha.2 id (by simp),hh]
 simp only[b6,bF] at hv;obtain⟨_,hv | ⟨Z,aa,elems',ab,h1,h2,h3⟩⟩:=hv
 ·rw[J] at hv;cases hv
 rw[J] at h1;cases h1;obtain⟨h4,⟨h5,h6,h7⟩ | ⟨b,base,cap,h5,h6⟩⟩:=h3 q
 ·subst h6;simp at q;have Y:len=0:=by omega
  refine⟨goInt len,k9 O h7 ?_,by simp[b6,bF,Rep,goInt]⟩;simp[Builtin.len_,As ((N.get hi).slice hk) w,Y]
 ·refine⟨goInt len,k9 O h6 ?_,by simp[b6,bF,Rep,goInt]⟩;simp[Builtin.len_,As ((N.get hi).slice hk) w]
theorem aJu {t:TypeId}{i:TI}{x:Operand}{s:List UInt8}(J:Tok P T) (N:o.op=.call { callee:=.builtin .len,args:= #[x],argTypes:= #[t] }) (hd:o.dst=some d) (q:d<n) (hi:T[t]?=some (some i)) (hk:i.k=.str)
  (hx:opv st x=some (Go.AM.T s)):Step P n o st ⟨opr x,[]⟩ ⟨some (d,some (I .i64 (s.length:Int))),[]⟩:=by
 refine Step.value hd q fun st' ha G S μ a w hs=>?_
 have hv:=lD (aQ hs hx ha.1);refine⟨goInt s.length,k9 N hv ?_,by simp[b6,bF,Rep,goInt]⟩;simp[Builtin.len_,As ((J.get hi).str hk) w];rfl
end
section
variable {P:Program}{n:Nat}{o:Oper}{st:St}{d:Nat}{T:TT}
theorem o6 (off:Nat):∀(vs:List Value) (j:Nat) (cells:Array Value),off+j+vs.length≤cells.size→
  (vs.zipIdx j).foldl (fun cs (x:Value×Nat)=>cs.setIfInBounds (off+x.2) x.1) cells=⟨bY cells.toList (off+j) vs⟩
 | [],j,cells,_=>by simp[bY]
 | v::vs,j,cells,h=>by
  simp only[Ag] at h;have Y:=o6 off vs (j+1) (cells.setIfInBounds (off+j) v) (by simp;omega);simp only[List.zipIdx_cons,foldl_cons,Y];congr 1;unfold bY;simp only[Array.toList_setIfInBounds];apply Bt;intro k;simp only[By,ω,Au,B3,Bf,Ag,Av,Ap,List.getElem?_set];have J:min (off+(j+1)) cells.size=off+j+1:=by omega
  have N:min (off+j) cells.size=off+j:=by omega
  simp only[J,N];by_cases O:k<off+j
  ·have q:k<off+j+1+vs.length:=by omega
   have a2:k<off+j+1:=by omega
   have a3:k<off+(j+1):=by omega
   have a4:k<off+j+(vs.length+1):=by omega
   have a5:¬off+j=k:=by omega
   simp[O,q,a2,a3,a4,a5]
  ·by_cases Z:k=off+j
   ·subst Z;have q:off+j<off+j+1+vs.length:=by omega
    have a5:off+j<cells.size:=by omega
    have I:off+j<off+(j+1):=by omega
    simp[q,a5,I]
   ·by_cases W:k<off+j+1+vs.length
    ·have a2:¬k<off+j+1:=by omega
     have a4:k<off+j+(vs.length+1):=by omega
     have I:k-(off+j)=(k-(off+j+1))+1:=by omega
     simp[O,W,a2,a4,I]
    ·have a4:¬k<off+j+(vs.length+1):=by omega
     have a5:¬off+j=k:=by omega
     simp[W,a4,a5,show off+(j+1)+vs.length+(k-(off+j+1+vs.length))=k by omega,show off+j+(vs.length+1)+(k-(off+j+(vs.length+1)))=k by omega]
def pP (st:St):List (Nat×Operand)→Option (List (Nat×List R))
 | []=>some []
 | (i,x)::ps=>match opv st x with
  | some v=>match iM v with
   | some rs=>match pP st ps with | some l=>some ((i,rs)::l) | none=>none
   | none=>none
  | none=>none
def gN:List (Nat×Operand)→List Nat
 | []=>[]
 | (_,x)::ps=>opr x++gN ps
def aHo (places:List (Nat×Nat)):List R→List (Nat×List R)→Option (List R)
 | cells,[]=>some cells
 | cells,(i,rs)::ps=>match places[i]? with
  | some (off,size)=>if Nat.beq rs.length size&&Nat.ble (off+rs.length) cells.length then aHo places (bY cells off rs) ps else none
  | none=>none
def lC (T:TT):List (Nat×TypeId)→Option (List (Nat×Nat))
 | []=>some []
 | (off,t)::fs=>match T[t]? with
  | some (some i)=>match lC T fs with | some l=>some ((off,i.size)::l) | none=>none
  | _=>none
theorem aHc {G:Ctx}{S:Sto}{μ:Mu}{st':St}{a:Act}{w:World}(hs:Sim G n S μ st' a w):∀(ps:List (Nat×Operand)) (l:List (Nat×List R)),pP st ps=some l→(∀t∈gN ps,st'.e t=st.e t)→
  ∃vs:List (Nat×Value),ps.map (fun(i,x)=>(i,a.eval x))=vs∧vs.length=l.length∧∀(k:Nat) (p:Nat×List R),l[k]?=some p→∃v:Value,vs[k]?=some (p.1,v)∧aW S μ st'.h p.2 v.cells.toList:=by
 intro ps
 induction ps with
 | nil=>intro l h _;simp[pP] at h;subst h;exact⟨[],rfl,rfl,fun k p h=>by simp at h⟩
 | cons p ps N=>
  obtain⟨i,x⟩:=p;intro l h ha;simp only[pP] at h;split at h
  ·rename_i v hv;split at h
   ·rename_i rs hc;split at h
    ·rename_i l' J;cases h;obtain⟨vs,h1,h2,h3⟩:=N l' J fun t ht=>ha t (by simp[gN,ht])
     refine⟨(i,a.eval x)::vs,by simp[h1],by simp[h2],fun k q I=>?_⟩;cases k with
     | zero=>
      simp at I;subst I;exact⟨a.eval x,rfl,eM (aQ hs hv fun t ht=>ha t (by simp[gN,ht])) hc⟩
     | succ k=>simp at I;simpa using h3 k q I
    ·cases h
   ·cases h
  ·cases h
theorem oR {S:Sto}{μ:Mu}{H:cR}{cells rs:List R}{vs us:List Value}{off:Nat}(h:aW S μ H cells vs) (k:aW S μ H rs us):aW S μ H (bY cells off rs) (bY vs off us):=by
 have hl:=k.length;unfold bY;rw[hl];exact((h.take off).append k).append (h.drop _)
theorem aL4 {S:Sto}{μ:Mu}{H:cR}{places:List (Nat×Nat)}:∀(ps:List (Nat×List R)) (vs:List (Nat×Value)) (cells:List R) (cs:Array Value) (out:List R),aHo places cells ps=some out→aW S μ H cells cs.toList→
  vs.length=ps.length→(∀(k:Nat) (p:Nat×List R),ps[k]?=some p→∃v:Value,vs[k]?=some (p.1,v)∧aW S μ H p.2 v.cells.toList)→
  ∃I,Instr.fill (places[·]?) cs vs=some I∧aW S μ H out I.toList:=by
 intro ps
 induction ps with
 | nil=>
  intro vs cells cs out h N hl _;simp at hl;subst hl;simp[aHo] at h;subst h;exact⟨cs,rfl,N⟩
 | cons p ps ih=>
  intro vs cells cs out h N hl hp;obtain⟨i,rs⟩:=p
  match vs,hl with
  | q::vs,hl=>
   obtain⟨v,hv,J⟩:=hp 0 (i,rs) rfl;simp at hv;subst hv;simp only[aHo] at h;split at h
   ·rename_i off size Y;split at h
    ·rename_i hc;simp only[Ai] at hc;have hc1:=Ac hc.1;have hc2:=Aq hc.2;have Z:=J.length;have aa:=N.length;simp only[Bf] at Z aa;have W:=o6 off v.cells.toList 0 cs (by simp;omega);obtain⟨I,h1,h2⟩:=ih vs (bY cells off rs) ⟨bY cs.toList off v.cells.toList⟩ out h (oR N J) (by simpa using hl) fun k p hk=>by simpa using hp (k+1) p (by simpa using hk)
     refine⟨I,?_,h2⟩;simp only[Instr.fill];rw[Y];simp only[];have O:(v.cells.size≠size || decide (off+v.cells.size>cs.size))=false:=by
      simp only[Bool.or_eq_false_iff,Ct];exact⟨by simp;omega,by omega⟩
     simp only[O,Bc,Bv];have ab:(v.cells.zipIdx.foldl (fun cs (x:Value×Nat)=>cs.setIfInBounds (off+x.2) x.1) cs)=⟨bY cs.toList off v.cells.toList⟩:=by
      rw[←Array.foldl_toList,Array.toList_zipIdx];simpa using W
     rw[←h1];congr 1
    ·cases h
   ·cases h
theorem uL (I:Tok P T):∀(fs:List (Nat×TypeId)) (fields:List Field) (places:List (Nat×Nat)),fs=fields.map (fun f=>(f.offset,f.type))→lC T fs=some places→
  fields.mapM (fun f=>(P.info? f.type).map fun i=>(f.offset,i.size))=some places
 | _,[],places,h,hp=>by simp at h;subst h;simp[lC] at hp;subst hp;rfl
 | _,f::fields,places,h,hp=>by
  simp only[Am] at h;subst h;simp only[lC] at hp;split at hp
  ·rename_i i hi;split at hp
   ·rename_i l hl;cases hp;have N:=uL I _ fields l rfl hl;have q:=(I.get hi).info;simp only[List.mapM_cons,N];cases J:P.info? f.type with
    | none=>simp[J] at q
    | some inf=>
     simp[J] at q;simp[q]
   ·cases hp
  ·cases hp
theorem aTt {t:TypeId}{i:TI}{fs:List (Nat×TypeId)}{places:List (Nat×Nat)}{parts:Array (Nat×Operand)}{ps:List (Nat×List R)}{out:List R}(I:Tok P T) (Y:o.op=.build t parts) (hd:o.dst=some d) (J:d<n) (hi:T[t]?=some (some i)) (hk:i.k=.st fs)
  (N:lC T fs=some places) (O:pP st parts.toList=some ps) (hf:aHo places (i.zero.map R.c) ps=some out):Step P n o st ⟨gN parts.toList,[]⟩ ⟨some (d,some (aV5 out)),[]⟩:=by
 refine Step.value hd J fun st' ha G S μ a w hs=>?_
 obtain⟨vs,h1,h2,h3⟩:=aHc hs _ _ O ha.1;obtain⟨fields,hu,W⟩:=(I.get hi).struct hk;obtain⟨inf,dd,z,g1,g2,g3,g4,g5,g6,g7,g8⟩:=(I.get hi).ex;obtain⟨q,h4,h5⟩:=aL4 (S:=S) (μ:=μ) (H:=st'.h) ps vs (i.zero.map R.c) z.cells out hf (k8 g7).toR h2 h3;refine⟨.agg q,?_,?_⟩
 ·have hb:P.built t (parts.map fun(i,x)=>(i,a.eval x)).toList=some q:=by
   unfold Program.built;simp only[g1,hu,g6,uL I fs fields.toList places W N];rw[←h4,←h1];simp
  simp only[execOp,Y,Ae,run_build w t _ q hb,ε,Af]
 ·have:=aGo h5;simpa using this
theorem aTo {t ft:TypeId}{i I:TI}{fs:List (Nat×TypeId)}{f J:Nat}{x:Operand}{v y:V}{rs:List R}(O:Tok P T) (ho:o.op=.field t x f) (hd:o.dst=some d) (hdn:d<n) (hi:T[t]?=some (some i)) (hk:i.k=.st fs) (hf:fs[f]?=some (J,ft)) (N:T[ft]?=some (some I))
  (hx:opv st x=some v) (hag:(match v with | .pa _=>true | .ma _=>true | _=>false)=true) (hc:iM v=some rs) (hl:Nat.ble (J+I.size) rs.length=true) (hy:qE I ((rs.drop J).take I.size)=some y):Step P n o st ⟨opr x,[]⟩ ⟨some (d,some y),[]⟩:=by
 refine Step.value hd hdn fun st' ha G S μ a w hs=>?_
 have hv:=aQ hs hx ha.1;have q:=eM hv hc;have Z:∃cs,a.eval x=.agg cs:=by
  cases v<;>simp only[b6] at hv<;>simp at hag
  ·obtain⟨vs,h,_⟩:=hv;exact⟨_,h⟩
  ·obtain⟨vs,h,_⟩:=hv;exact⟨_,h⟩
 obtain⟨cs,W⟩:=Z;rw[W] at q;simp only[Value.cells] at q;have hll:=q.length;have hl':=Aq hl;simp only[Bf] at hll;obtain⟨fields,h1,h2⟩:=(O.get hi).struct hk;rw[h2] at hf;simp only[Az,B0,Array.getElem?_toList] at hf;obtain⟨fl,h3,h4⟩:=hf;cases h4;have aa:=lM ((q.drop fl.offset).take I.size) hy;refine⟨_,?_,aa⟩;simp only[execOp,ho,W,Ae,Instr.field,As h1 w,ε,h3,asAgg,Af,part,(O.get N).agg_run w];cases hka:I.k.agg with
 | true=>
  simp only[Cm,Ae,(O.get N).size_run w,ε,Af];congr 3;have:(cs.extract fl.offset (fl.offset+I.size)).toList=(cs.toList.drop fl.offset).take I.size:=by simp
  rw[←this]
 | false=>
  have h1s:=(O.get N).one hka;simp only[Bc,Bv];have Y:fl.offset<cs.size:=by omega
  have he:cs[fl.offset]?=some cs[fl.offset]:=by simp[Y]
  rw[he];simp only[Af,ε];congr 2;rw[h1s,List.take_one,List.head?_drop];simp[Y]
end
inductive Cle:C→C→Prop
 | refl {x}:Cle x x
 | nl {es}:Cle .nl (.sl es [])
 | sn {es l}:Cle (.sn es l) (.sl es l)
 | sg {te es l}:Cle (.sg te es l) (.sl es l)
theorem Cle.rep {S:Sto}{x y:C}{v:Value}(h:Cle x y) (k:Rep S x v):Rep S y v:=by
 cases h with
 | refl=>exact k
 | sg=>
  simp only[Rep] at k ⊢;obtain⟨a,len,cap,h1,h2,h3,h4,h5⟩:=k;rcases h5 with⟨rfl,h5,h6⟩ | ⟨b,o,rfl,h6,_⟩
  ·refine⟨none,len,cap,h1,h2,h3,h4,fun _=>⟨h5,h6⟩,by simp,0,0,by simp,?_⟩;have:(_:List (List C)).length=0:=h2.symm.trans h5;rw[A4 this];simp[bJ]
  ·exact⟨some ⟨b,o,none⟩,len,cap,h1,h2,h3,h4,by simp,fun q e _=>by cases e;rfl,b,o,fun q e=>by cases e;exact⟨rfl,rfl⟩,h6⟩
 | nl=>
  simp only[Rep] at k ⊢;exact⟨none,0,0,k,by simp,le_refl _,Aj _,fun _=>⟨rfl,rfl⟩,by simp,0,0,by simp,by simp[bJ]⟩
 | sn=>
  simp only[Rep] at k ⊢;obtain⟨b,o,sp,len,cap,h1,h2,h3,h4,I,h5⟩:=k;exact⟨some ⟨b,o,sp⟩,len,cap,h1,h2,h3,h4,by simp,by rintro q ⟨⟩;exact I,b,o,by rintro q ⟨⟩;exact⟨rfl,rfl⟩,h5⟩
inductive PureL (h:cR):List Nat→List R→List C→Prop
 | nil:PureL h [] [] []
 | c {ids rs cs x y}:Cle x y→PureL h ids rs cs→PureL h ids (.c x::rs) (y::cs)
 | hs {ids rs cs id off len sz te es elems e}:h id=some (.arr te es elems 2)→sz=elems.length→e=(elems.drop off).take len→PureL h ids rs cs→PureL h (id::ids) (.hs id off len sz::rs) (.sl es e::cs)
 | any {ids rs cs r}:PureL h ids rs cs→PureL h ids (r::rs) (.any::cs)
 | fn {ids rs cs f}:PureL h ids rs cs→PureL h ids (.clo f []::rs) (.fn f::cs)
 | ras {ids ids' ids0 rs cs n es l fl rows}:ids0=ids'++ids→PureL h ids' l fl→fl=rows.flatten→(∀r∈rows,r.length=es)→rows.length=n→PureL h ids rs cs→PureL h ids0 (.ras n es l::rs) (.sl es rows::cs)
theorem PureL.of_pure {h:cR}:∀{cs:List C},PureL h [] (cs.map R.c) cs
 | []=>.nil
 | _::_=>.c .refl PureL.of_pure
def aXm:List R→List C
 | []=>[]
 | .c x::l=>x::aXm l
 | .clo f []::l=>.fn f::aXm l
 | _::l=>.any::aXm l
theorem PureL.ofA {h:cR}:∀{rs:List R},PureL h [] rs (aXm rs)
 | []=>.nil
 | .c _::_=>.c .refl .ofA
 | .hs ..::_=>.any .ofA
 | .tl ..::_=>.any .ofA
 | .vp ..::_=>.any .ofA
 | .ep ..::_=>.any .ofA
 | .mr ..::_=>.any .ofA
 | .clo _ []::_=>.fn .ofA
 | .clo _ (_::_)::_=>.any .ofA
 | .mth ..::_=>.any .ofA
 | .yl ..::_=>.any .ofA
 | .ra ..::_=>.any .ofA
 | .rp ..::_=>.any .ofA
 | .ras ..::_=>.any .ofA
 | .pas ..::_=>.any .ofA
theorem aX3 {S:Sto}{μ:Mu}{H:cR}{w:World}{id off len sz te es:Nat}{elems:List (List C)}{v:Value}(I:mW S μ H w id (.arr te es elems 2)) (hh:H id=some (.arr te es elems 2)) (q:sz=elems.length)
  (hv:bF S μ H (.hs id off len sz) v):Rep S (.sl es ((elems.drop off).take len)) v:=by
 simp only[bF] at hv;obtain⟨_,hv | ⟨N,O,elems',W,h1,h2,h3⟩⟩:=hv
 ·rw[hh] at hv;cases hv
 rw[hh] at h1;cases h1;obtain⟨h4,⟨h5,h6,h7⟩ | ⟨b,base,cap,h5,h6⟩⟩:=h3 q
 ·subst h6;simp only[Rep];exact⟨none,0,0,h7,by simp,le_refl _,Aj _,fun _=>⟨rfl,rfl⟩,by simp,0,0,by simp,by simp[bJ]⟩
 ·obtain⟨g0,vs,g1,g2,g3,g4,g5,g6,g7,g8⟩:=I.arr h5;simp only[Rep];have hlen:((elems.drop off).take len).length=len:=by simp;omega
  refine⟨_,len,cap-off,h6,hlen.symm,by omega,le_trans (sub_le _ _) g4.1,by simp,by rintro J ⟨⟩;exact fun _=>rfl,b,base+off*es,by rintro J ⟨⟩;exact⟨rfl,rfl⟩,?_⟩;have:=bJ.of_flat g0 g5 (g8 rfl);exact(this.drop off).take len
theorem PureL.rel {S:Sto}{μ:Mu}{H H0:cR}{w:World}:∀{ids:List Nat}{rs:List R}{cs:List C}{vs:List Value},PureL H0 ids rs cs→(∀i∈ids,H i=H0 i)→(∀id o,H id=some o→mW S μ H w id o)→aW S μ H rs vs→dL S cs vs:=by
 intro ids rs cs vs hp
 induction hp generalizing vs with
 | nil=>intro _ _ h;simp only[aW] at h;subst h;simp[dL]
 | c hc _ I=>
  intro hi q h;simp only[aW] at h;obtain⟨v,vs',rfl,h1,h2⟩:=h;simp only[bF] at h1;simp only[dL];exact⟨v,vs',rfl,hc.rep h1,I hi q h2⟩
 | @ras ids ids' ids0 rs cs n es l fl rows J _ N O hn _ W I=>
  subst J;intro hi q h;simp only[aW] at h;obtain⟨v,vs',rfl,h1,h2⟩:=h;simp only[bF] at h1;simp only[dL];refine⟨v,vs',rfl,?_,I (fun i hh=>hi i (by simp[hh])) q h2⟩;obtain⟨a,cap,g1,g2,g3,g4,g5,g6,b,o,g7,us,g8,g9⟩:=h1;have g10:=W (fun i hh=>hi i (by simp[hh])) q g8;subst N;simp only[Rep];exact⟨a,n,cap,g1,hn.symm,g3,g4,g5,fun ad e _=>g6 ad e,b,o,g7,bJ.of_flat O g10 g9⟩
 | any _ I=>
  intro hi q h;simp only[aW] at h;obtain⟨v,vs',rfl,h1,h2⟩:=h;simp only[dL];exact⟨v,vs',rfl,by simp only[Rep];exact h1.one,I hi q h2⟩
 | fn _ I=>
  intro hi q h;simp only[aW] at h;obtain⟨v,vs',rfl,h1,h2⟩:=h;simp only[bF,aW] at h1;obtain⟨us,rfl,rfl⟩:=h1;simp only[dL];exact⟨_,vs',rfl,by simp only[Rep],I hi q h2⟩
 | @hs ids rs cs id off len sz te es elems e he Y Z _ I=>
  intro hi q h;simp only[aW] at h;obtain⟨v,vs',rfl,h1,h2⟩:=h;simp only[dL];have hh:H id=some (.arr te es elems 2):=by rw[hi id (by simp),he]
  exact⟨v,vs',rfl,by rw[Z];exact aX3 (q id _ hh) hh Y h1,I (fun i h=>hi i (by simp[h])) q h2⟩
inductive RowsV (st:St) (es:Nat):Nat→List Nat→List (Nat×Operand)→List (List C)→Prop
 | nil {k}:RowsV st es k [] [] []
 | cons {k ids ids' x ps v rs cs rows}:opv st x=some v→iM v=some rs→PureL st.h ids rs cs→Nat.beq rs.length es=true→RowsV st es (k+1) ids' ps rows→RowsV st es k (ids++ids') ((k,x)::ps) (cs::rows)
section
variable {P:Program}{n:Nat}{o:Oper}{st:St}{d:Nat}{T:TT}
theorem aGx {G:Ctx}{S:Sto}{μ:Mu}{st':St}{a:Act}{w:World}(hs:Sim G n S μ st' a w) {es:Nat}:∀{k:Nat}{ids:List Nat}{ps:List (Nat×Operand)}{rows:List (List C)},RowsV st es k ids ps rows→(∀t∈gN ps,st'.e t=st.e t)→(∀i∈ids,st'.h i=st.h i)→
  ∀(cells:Array Value),cells.size=(k+ps.length)*es→∃out:Array Value,Instr.fill (fun i=>some (i*es,es)) cells (ps.map fun(i,x)=>(i,a.eval x))=some out∧out.size=cells.size∧
   ∃us,dL S rows.flatten us∧out.toList=cells.toList.take (k*es)++us∧(∀r∈rows,r.length=es):=by
 intro k ids ps rows h
 induction h with
 | nil=>
  intro _ _ cells hc;refine⟨cells,rfl,rfl,[],by simp[dL],?_,by simp⟩;rw[A0,Bb];simp at hc;simp[hc]
 | @cons k ids ids' x ps v rs cs rows hv hc hp hl _ ih=>
  intro ha hi cells N;have hl':=Ac hl;have q:=eM (aQ hs hv fun t ht=>ha t (by simp[gN,ht])) hc;have I:=hp.rel (fun i h=>hi i (by simp[h])) hs.inv.obj q;have Z:=q.length;simp only[Bf] at Z;simp only[Ag] at N;have hke:(k+(ps.length+1))*es=k*es+es+ps.length*es:=by
   rw[A5,A5];omega
  have W:=o6 (k*es) (a.eval x).cells.toList 0 cells (by simp only[Bf];omega);have O:(bY cells.toList (k*es) (a.eval x).cells.toList).length=cells.size:=by
   unfold bY;simp;omega
  obtain⟨out,h1,h2,us,h3,h4,h5⟩:=ih (fun t ht=>ha t (by simp[gN,ht])) (fun i h=>hi i (by simp[h])) ⟨bY cells.toList (k*es) (a.eval x).cells.toList⟩ (by
   simp only[size_toArray,O,N];congr 1
   omega)
  refine⟨out,?_,by rw[h2];simpa using O,(a.eval x).cells.toList++us,?_,?_,?_⟩
  ·simp only[Am,Instr.fill];have J:((a.eval x).cells.size≠es || decide (k*es+(a.eval x).cells.size>cells.size))=false:=by
    simp only[Bool.or_eq_false_iff,Ct];exact⟨by simp;omega,by omega⟩
   simp only[J,Bc,Bv];have aa:((a.eval x).cells.zipIdx.foldl (fun cs (x:Value×Nat)=>cs.setIfInBounds (k*es+x.2) x.1) cells)=⟨bY cells.toList (k*es) (a.eval x).cells.toList⟩:=by
    rw[←Array.foldl_toList,Array.toList_zipIdx];simpa using W
   rw[←h1];congr 1
  ·rw[Bi];exact I.append h3
  ·rw[h4];have:(bY cells.toList (k*es) (a.eval x).cells.toList).take ((k+1)*es)=cells.toList.take (k*es)++(a.eval x).cells.toList:=by
    unfold bY;apply take_left';simp;rw[A5];omega
   show(bY cells.toList (k*es) (a.eval x).cells.toList).take ((k+1)*es)++us=_;rw[this,At]
  ·intro r Y;rcases Ao.1 Y with rfl | Y
   ·have:=I.length;simp only[Bf] at this;omega
   ·exact h5 r Y
theorem RowsV.lengths {es k:Nat}{ids:List Nat}{ps:List (Nat×Operand)}{rows:List (List C)}(h:RowsV st es k ids ps rows):rows.length=ps.length:=by
 induction h with
 | nil=>rfl
 | cons _ _ _ _ _ q=>simp[q]
theorem aJo {t e:TypeId}{i q:TI}{len:Nat}{parts:Array (Nat×Operand)}{ids:List Nat}{rows:List (List C)}(id:Nat) (N:Tok P T) (ho:o.op=.buildSlice t len parts) (hd:o.dst=some d) (ad:d<n) (hi:T[t]?=some (some i)) (hk:i.k=.sl e) (I:T[e]?=some (some q))
  (J:RowsV st q.size 0 ids parts.toList rows) (hlen:Nat.beq len parts.size=true) (O:Nat.ble (len*q.size) 16777216=true) (ab:Nat.ble len 16777216=true) (hid:st.h id=none):
  Step P n o st ⟨gN parts.toList,id::ids⟩ ⟨some (d,some (.one (.hs id 0 len len))),[(id,some (.arr e q.size rows 0))]⟩:=by
 refine Step.new hd ad hid (by simp) fun st' ha hid' G S μ a w hs=>?_
 have Z:=Ac hlen;have hsm:=Aq O;obtain⟨z,hz,ae,_⟩:=(N.get I).zero_run;have aa:=(ae S).length;rw[(N.get I).len] at aa;simp only[Bf] at aa;have ag:=J.lengths;simp only[Bf] at ag;have key:∀(cells:Array Value),cells.size=len*q.size→∃out:Array Value,Instr.fill (fun i=>some (i*q.size,q.size)) cells (parts.map fun(i,x)=>(i,a.eval x)).toList=some out∧out.size=len*q.size∧dL S rows.flatten out.toList∧(∀r∈rows,r.length=q.size):=by
  intro cells hc;obtain⟨out,h1,h2,us,h3,h4,h5⟩:=aGx hs J ha.1 (fun i h=>ha.2 i (by simp[h])) cells (by rw[hc,Z];simp);refine⟨out,by rw[←h1];simp,by rw[h2,hc],?_,h5⟩;simp at h4;rw[h4];exact h3
 have ac:∃out:Array Value,(Instr.buildSlice t len (parts.map fun(i,x)=>(i,a.eval x))).run P w=.ok (.slice (some ⟨w.heap.size,0,none⟩) len len) (w.alloc (.cells out e))∧out.size=len*q.size∧dL S rows.flatten out.toList∧(∀r∈rows,r.length=q.size):=by
  by_cases h0:len*q.size=0
  ·obtain⟨out,h1,h2,h3,h4⟩:=key ((Array.range (len*q.size)).map ((#[]:Array Value)[· %(#[]:Array Value).size]!)) (by simp);refine⟨out,?_,h2,h3,h4⟩;have W:¬len*q.size>2^24:=by omega
   simp only[Instr.buildSlice,Ae,As ((N.get hi).slice hk) w,ε,(N.get I).size_run w];rw[φ W,ξ h0];simp only[Ae,ε,Af,h1,iS]
  ·obtain⟨out,h1,h2,h3,h4⟩:=key ((Array.range (len*q.size)).map (z.cells[· %z.cells.size]!)) (by simp);refine⟨out,?_,h2,h3,h4⟩;have W:¬len*q.size>2^24:=by omega
   simp only[Instr.buildSlice,Ae,As ((N.get hi).slice hk) w,ε,(N.get I).size_run w];rw[φ W,φ h0];simp only[Ae,hz w,ε,Af,h1,iS]
 obtain⟨out,h1,h2,h3,h4⟩:=ac;have ah:len≤maxLen:=by
  have:=Aq ab;unfold maxLen;omega
 refine⟨_,_,.slice (some ⟨w.heap.size,0,none⟩) len len,(0,len),?_,WChg.alloc w (.cells out e),?_,?_⟩
 ·simp only[execOp,ho,Ae,h1,ε,Af]
 ·have Y:rows.length=len:=by omega
  refine⟨h4,.inr ⟨w.heap.size,0,len,out.toList,aK _ _ _,Ca w _,by simp[h2],by omega,⟨?_,s6 hs.inv⟩,?_,fun _ o _=>iH hs.inv o,fun o _=>iH hs.inv o,fun e=>by cases e⟩⟩
  ·exact ah
  ·simp only[Ce];rw[Bb (by simp[h2,Y])];exact h3
 ·simp only[b6,bF];have Y:rows.length=len:=by omega
  exact⟨⟨_,_,_,rfl⟩,.inr ⟨e,q.size,rows,0,aK _ _ _,by omega,fun _=>⟨by omega,.inr ⟨w.heap.size,0,len,aK _ _ _,by simp⟩⟩⟩⟩
end
inductive Src (st:St) (es:Nat):List Nat→V→List (List C)→Prop
 | hs {id off len sz te elems fz rows}:st.h id=some (.arr te es elems fz)→sz=elems.length→rows=(elems.drop off).take len→Src st es [id] (.one (.hs id off len sz)) rows
 | all {id sz te elems fz}:st.h id=some (.arr te es elems fz)→sz=elems.length→Src st es [id] (.one (.hs id 0 sz sz)) elems
 | sl {l}:Src st es [] (.one (.c (.sl es l))) l
 | nl:Src st es [] (.one (.c .nl)) []
 | sn {l}:Src st es [] (.one (.c (.sn es l))) l
theorem aAe {α:Type}{es:Nat}:∀{l:List (List α)},(∀r∈l,r.length=es)→∀k:Nat,(l.take k).flatten=l.flatten.take (k*es)
 | [],_,k=>by simp
 | x::xs,hl,0=>by simp
 | x::xs,hl,k+1=>by
  have hx:=hl x (by simp);have q:=aAe (l:=xs) (fun r I=>hl r (by simp[I])) k;rw[Ax,Bi,Bi,q,List.take_append,Bb (l:=x) (by rw[hx,A5];omega)];rw[show(k+1)*es-x.length=k*es by rw[hx,A5];omega]
theorem aAf {α:Type}{es:Nat}:∀{l:List (List α)},(∀r∈l,r.length=es)→∀k:Nat,(l.drop k).flatten=l.flatten.drop (k*es)
 | [],_,k=>by simp
 | x::xs,hl,0=>by simp
 | x::xs,hl,k+1=>by
  have hx:=hl x (by simp);have q:=aAf (l:=xs) (fun r I=>hl r (by simp[I])) k;rw[Cs,Bi,q,drop_append,drop_of_length_le (l:=x) (by rw[hx,A5];omega),Bd];rw[show(k+1)*es-x.length=k*es by rw[hx,A5];omega]
theorem bJ.flat {S:Sto}{es b:Nat}:∀{l:List (List C)}{o:Nat},bJ S es b l o→∃vs,dL S l.flatten vs∧fM S b o vs∧∀r∈l,r.length=es
 | [],_,_=>⟨[],by simp[dL],fun i v h=>by simp at h,by simp⟩
 | r::rs,o,h=>by
  simp only[bJ] at h;obtain⟨h1,⟨vs,h2,h3⟩,h4⟩:=h;obtain⟨us,h5,h6,h7⟩:=bJ.flat h4;have hl:=h2.length;refine⟨vs++us,by rw[Bi];exact h2.append h5,fun i v hi=>?_,?_⟩
  ·rw[By] at hi;split at hi
   ·exact h3 i v hi
   ·have:=h6 _ v hi;rwa [show o+es+(i-vs.length)=o+i by omega] at this
  ·intro q I;rcases Ao.1 I with rfl | I
   ·exact h1
   ·exact h7 q I
theorem Src.rel {G:Ctx}{n:Nat}{S:Sto}{μ:Mu}{st st':St}{a:Act}{w:World}{es:Nat}{ids:List Nat}{y:V}{rows:List (List C)}{v:Value}(hs:Sim G n S μ st' a w) (h:Src st es ids y rows) (hi:∀i∈ids,st'.h i=st.h i) (hv:b6 S μ st'.h y v):
  ∃q c news,v=.slice q rows.length c∧dL S rows.flatten news∧(∀r∈rows,r.length=es)∧(q=none→rows=[])∧∀x,q=some x→∀j u,news[j]?=some u→w.cell? (x.add j)=some u:=by
 have O:∀{id off len sz te elems fz rows},st.h id=some (.arr te es elems fz)→sz=elems.length→rows=(elems.drop off).take len→(∀i∈[id],st'.h i=st.h i)→b6 S μ st'.h (.one (.hs id off len sz)) v→
   ∃q c news,v=.slice q rows.length c∧dL S rows.flatten news∧(∀r∈rows,r.length=es)∧(q=none→rows=[])∧∀x,q=some x→∀j u,news[j]?=some u→w.cell? (x.add j)=some u:=by
  intro id off len sz te elems fz rows he N I hi hv;have hh:st'.h id=some (.arr te es elems fz):=by rw[hi id (by simp),he]
  simp only[b6,bF] at hv;obtain⟨_,hv | ⟨te',es',elems',fz',h1,h2,h3⟩⟩:=hv
  ·rw[hh] at hv;cases hv
  rw[hh] at h1;cases h1;obtain⟨h4,⟨h5,h6,h7⟩ | ⟨b,base,cap,h5,h6⟩⟩:=h3 N
  ·subst h6;simp at I;subst I;exact⟨none,0,[],h7,by simp[dL],by simp,fun _=>rfl,by simp⟩
  ·obtain⟨g0,vs,g1,g2,g3,g4,g5,g6,g7,g8⟩:=(hs.inv.obj id _ hh).arr h5;have hrl:rows.length=len:=by rw[I];simp;omega
   have hfl:rows.flatten=(elems.flatten.drop (off*es)).take (len*es):=by
    rw[I,aAe (fun r I=>g0 r (mem_of_mem_drop I)),aAf g0]
   refine⟨_,cap-off,_,by rw[hrl];exact h6,by rw[hfl];exact(g5.drop (off*es)).take (len*es),fun r hr'=>g0 r (mem_of_mem_drop (Bl (I▸hr'))),by simp,?_⟩;rintro x ⟨⟩ j u hj;rw[Addr.add_mid,cell_of_row w b _ ⟨vs⟩ te (0,0) g1];rw[Av] at hj;split at hj
   ·rw[Ap,Av] at hj;split at hj
    ·rw[Ap] at hj;simpa [B8] using hj
    ·cases hj
   ·cases hj
 cases h with
 | hs he N I=>exact O he N I hi hv
 | all he N=>
  subst N;exact O he rfl (by simp) hi hv
 | sl=>
  simp only[b6,bF,Rep] at hv;obtain⟨q,len,cap,h1,h2,h3,h4,h5,h6,b,off,h7,Z⟩:=hv;obtain⟨vs,J,q2,q3⟩:=bJ.flat Z;refine⟨q,cap,vs,by rw[h1,h2],J,q3,fun e=>A4 (by rw[←h2];exact(h5 e).1),?_⟩;rintro x rfl j u hj;obtain⟨h9,h10⟩:=h7 x rfl
  have Y:=h6 x rfl (by
   rintro rfl;have W:=A4 (show _=0 from Nat.le_zero.1 (h2▸h3));rw[W] at J;simp[dL] at J;subst J
   simp at hj)
  have hx:x=⟨b,off,none⟩:=by cases x;simp_all
  subst hx;rw[Addr.add_mid];exact hs.inv.holds.cell (q2 j u hj)
 | nl=>
  simp only[b6,bF,Rep] at hv;exact⟨none,0,[],hv,by simp[dL],by simp,fun _=>rfl,by simp⟩
 | sn=>
  simp only[b6,bF,Rep] at hv;obtain⟨b,off,sp,len,cap,h1,h2,h3,h4,hsp,Z⟩:=hv;obtain⟨vs,J,q2,q3⟩:=bJ.flat Z;refine⟨some ⟨b,off,sp⟩,cap,vs,by rw[h1,h2],J,q3,by simp,?_⟩;rintro x ⟨⟩ j u hj
  have Y:=hsp (by
   rintro rfl;have W:=A4 (show _=0 from Nat.le_zero.1 (h2▸h3));rw[W] at J;simp[dL] at J;subst J
   simp at hj)
  subst Y;rw[Addr.add_mid];exact hs.inv.holds.cell (q2 j u hj)
section
variable {P:Program}{n:Nat}{o:Oper}{st:St}{d:Nat}{T:TT}
theorem kK (w:World) (t ty e:TypeId) (i:TypeInfo) (ht:P.underlying t=some (.slice e)) (hi:P.info? e=some i)
  (g base q I:Nat) (cur:Array Value) (hg:w.heap[g]?=some (.cells cur e (0,0)))
  (a:Addr) (m c:Nat) (news:List Value) (hl:news.length=m*i.size) (J:∀j u,news[j]?=some u→w.cell? (a.add j)=some u) (h1:∀u∈news,u.oneCell'=true)
  (N:q+m≤I) (W:base+q*i.size+news.length≤cur.size):
  (Builtin.append_ #[t,t] ty #[.slice (some ⟨g,base,none⟩) q I,.slice (some a) m c]).run P w=
   .ok (.slice (some ⟨g,base,none⟩) (q+m) I) (w.setRow g (cur.toList.take (base+q*i.size)++news++cur.toList.drop (base+q*i.size+news.length)).toArray):=by
 have hf:=run_firstCells_some (P:=P) w i.size m a m c news hl J;have O:=run_storeCells_at P g (base+q*i.size) e news 0 cur w hg (by simpa using W) h1;simp only[Bw] at O;simp[Builtin.append_,As ht,sizeOf,typeInfo,hi,Builtin.lenOf,N,hf,Addr.add_mid,O]
theorem kY (w:World) (t ty e:TypeId) (i:TypeInfo) (ht:P.underlying t=some (.slice e)) (hi:P.info? e=some i) (s:Option Addr) (N:Option Addr) (q I c:Nat) (J:q≤I):
  (Builtin.append_ #[t,t] ty #[.slice s q I,.slice N 0 c]).run P w=.ok (.slice s q I) w:=by
 cases s<;>cases N<;>simp[Builtin.append_,As ht,sizeOf,typeInfo,hi,Builtin.lenOf,J,Builtin.firstCells,loadCells,loadCellsFrom,storeCells]
theorem fQ {x y:Operand}{t:TypeId}{a:Act}{w w':World}{u v r:Value}(q:o.op=.call { callee:=.builtin .append,args:= #[x,y],argTypes:= #[t,t] }) (hx:a.eval x=u) (hy:a.eval y=v) (I:(Builtin.append_ #[t,t] o.type #[u,v]).run P w=.ok r w'):
  (execOp a.eval o).run P w=.ok (.value r) w':=by
 simp only[execOp,q,resolve,map_toArray,Am,Bs,hx,hy,Ae,Af,ε,invoke,builtin,I]
theorem aLo {y:V}{id te es fz:Nat}{elems elems':List (List C)}(hd:o.dst=some d) (Z:d<n) (hlen:elems.length≤elems'.length) (I:Nat) {st':St}{G:Ctx}{S:Sto}{μ:Mu}{a:Act}{w:World}{K:Act→World→Prop}{Q:Exit→Act→World→Prop}
    (J:st'.h id=some (.arr te es elems fz)) (hs:Sim G n S μ st' a w) (hk:∀S' μ' a' w',Sim G n S' μ' (Eff.apply ⟨some (d,some y),[(id,some (.arr te es elems' I))]⟩ st') a' w'→K a' w')
    (h:∃w' v,(execOp a.eval o).run P w=.ok (.value v) w'∧
      ((w'=w∧elems'=elems∧(I=fz∨I=1)∧b6 S μ st'.h y v)∨
       (elems.length<elems'.length∧∃b bo c,(w.heap.size≤b∨∃c',μ id=some (b,c'))∧WChg w w' b bo∧mW S (upd μ id (some (b,c))) (upd st'.h id (some (.arr te es elems' I))) w' id (.arr te es elems' I)∧
         (∀o v,S.cell b o=some v→∃vs t fr,bo=.cells vs t fr∧vs[o]?=some v)∧(∀m,S.mapo b=some m→w.heap.size≤b)∧b6 S (upd μ id (some (b,c))) (upd st'.h id (some (.arr te es elems' I))) y v))):
    ∀ro,o.wpIn (Wd ro) 0 P a w K Q:=by
  obtain⟨w',v,hr,W⟩:=h;refine fun ro=>iO hr ?_
  rw[hd];rcases W with⟨rfl,rfl,hfz,hv⟩ | ⟨hlt,b,bo,c,hb,hw,Y,hS,hSm,hv⟩
  · have N:Evolve S μ st'.h S μ (upd st'.h id (some (.arr te es elems' I))):=⟨S.le_refl,fun j x hj=>by
      by_cases q:j=id
      · subst q
        rw[J] at hj;cases hj;exact⟨_,aK _ _ _,by simp[AObj.succ]⟩
      · exact⟨x,by rw[bE _ _ _ q];exact hj,x.succ_refl rfl⟩⟩
    have hi:Inv G S μ (upd st'.h id (some (.arr te es elems' I))) w':=by
      obtain⟨h1,h2,h3,h4,h5,h6,h7,h8,h9⟩:=hs.inv;have hold:∀j x,upd st'.h id (some (.arr te es elems' I)) j=some x→∃x',st'.h j=some x':=fun j x hj=>by
        by_cases q:j=id
        · subst q;exact⟨_,J⟩
        · rw[bE _ _ _ q] at hj;exact⟨_,hj⟩
      refine⟨h1,fun j x hj=>?_,fun i j x x' b c c' hi hj hm hm'=>?_,fun i x b c hi hm=>?_,h5,h6,h7,h8.trans N,h9⟩
      · by_cases q:j=id
        · subst q
          rw[aK] at hj;cases hj;have Y:=(h2 j _ J).evolve N rfl fun _ _ _=>⟨rfl,fun _=>rfl,rfl⟩
          rcases hfz with rfl | rfl
          · exact Y
          · obtain⟨g0,g1 | ⟨b,base,cap,vs,g1,g2,g3,g4,g5,g6,g7,g8,g9⟩⟩:=Y
            · exact⟨g0,.inl g1⟩
            · exact⟨g0,.inr ⟨b,base,cap,vs,g1,g2,g3,g4,g5,g6,(fun e=>by cases e),g8,(fun e=>by cases e)⟩⟩
        · rw[bE _ _ _ q] at hj
          exact(h2 j x hj).evolve N rfl fun _ _ _=>⟨rfl,fun _=>rfl,rfl⟩
      · obtain⟨_,O⟩:=hold _ _ hi
        obtain⟨_,hj'⟩:=hold _ _ hj;exact h3 i j _ _ b c c' O hj' hm hm'
      · obtain⟨_,O⟩:=hold _ _ hi
        exact h4 i _ b c O hm
    have:=hs.put hi N Z (x:=some y) (v:=v) (fun z hz=>by cases hz;exact b6.evolve N _ _ hv);refine hk S μ _ _ ?_;unfold Eff.apply;rw[dH];exact this
  · have N:Evolve S μ st'.h S (upd μ id (some (b,c))) (upd st'.h id (some (.arr te es elems' I))):=⟨S.le_refl,fun j x hj=>by
      by_cases q:j=id
      · subst q
        rw[J] at hj;cases hj;exact⟨_,aK _ _ _,by simp only[AObj.succ,true_and];exact⟨hlen,fun e=>by omega⟩⟩
      · exact⟨x,by rw[bE _ _ _ q];exact hj,x.succ_refl (bE _ _ _ q)⟩⟩
    have hi:=hs.inv.chg (id:=id) (cap:=c) (ao:=.arr te es elems' I) hw (hb.imp (fun h=>h) fun⟨c',h⟩=>⟨_,c',J,h⟩) N Y hS hSm;have:=hs.put hi N Z (x:=some y) (v:=v) (fun z hz=>by cases hz;exact hv);refine hk S (upd μ id (some (b,c))) _ _ ?_;unfold Eff.apply;rw[dH];exact this
theorem Step.grow {rd:Rd}{y:V}{id te es fz:Nat}{elems elems':List (List C)}(hd:o.dst=some d) (J:d<n) (hid:st.h id=some (.arr te es elems fz)) (N:id∈rd.h) (hlen:elems.length≤elems'.length) (q:Nat)
    (h:∀st',pM rd st st'→st'.h id=some (.arr te es elems fz)→∀G S μ a w,Sim G n S μ st' a w→∃w' v,(execOp a.eval o).run P w=.ok (.value v) w'∧
      ((w'=w∧elems'=elems∧(q=fz∨q=1)∧b6 S μ st'.h y v)∨
       (elems.length<elems'.length∧∃b O c,(w.heap.size≤b∨∃c',μ id=some (b,c'))∧WChg w w' b O∧mW S (upd μ id (some (b,c))) (upd st'.h id (some (.arr te es elems' q))) w' id (.arr te es elems' q)∧
         (∀o v,S.cell b o=some v→∃vs t fr,O=.cells vs t fr∧vs[o]?=some v)∧(∀m,S.mapo b=some m→w.heap.size≤b)∧b6 S (upd μ id (some (b,c))) (upd st'.h id (some (.arr te es elems' q))) y v))):
    Step P n o st rd ⟨some (d,some y),[(id,some (.arr te es elems' q))]⟩:=by
  intro st' ha G S μ a w K Q hs hk;have I:st'.h id=some (.arr te es elems fz):=by rw[ha.2 id N,hid]
  exact aLo hd J hlen q I hs hk (h st' ha I G S μ a w hs)
theorem aA9 {t e:TypeId}{i q:TI}{x y:Operand}{id sz fz:Nat}{elems rows:List (List C)}{vy:V}{ids:List Nat}{st':St}{G:Ctx}{S:Sto}{μ:Mu}{a:Act}{w:World}(hT:Tok P T) (Z:o.op=.call { callee:=.builtin .append,args:= #[x,y],argTypes:= #[t,t] })
    (hi:T[t]?=some (some i)) (hk:i.k=.sl e) (hei:T[e]?=some (some q)) (hes:Nat.ble 1 q.size=true) (heb:Nat.ble 1 q.bytes=true)
    (hsz:sz=elems.length) (hroom:(elems.length+rows.length)*q.bytes≤140737488355328) (Y:st'.h id=some (.arr e q.size elems fz)) (hs:Sim G n S μ st' a w)
    (hvx:b6 S μ st'.h (.one (.hs id 0 sz sz)) (a.eval x)) (hvy:b6 S μ st'.h vy (a.eval y)) (hsrc:Src st q.size ids vy rows) (hsi:∀i∈ids,st'.h i=st.h i):
    ∃w' v,(execOp a.eval o).run P w=.ok (.value v) w'∧
      ((w'=w∧elems++rows=elems∧((if fz=0 then 0 else 1)=fz∨(if fz=0 then 0 else 1)=1)∧b6 S μ st'.h (.one (.hs id 0 (elems.length+rows.length) (elems.length+rows.length))) v)∨
       (elems.length<(elems++rows).length∧∃b bo c,(w.heap.size≤b∨∃c',μ id=some (b,c'))∧WChg w w' b bo∧mW S (upd μ id (some (b,c))) (upd st'.h id (some (.arr e q.size (elems++rows) (if fz=0 then 0 else 1)))) w' id (.arr e q.size (elems++rows) (if fz=0 then 0 else 1))∧
         (∀o v,S.cell b o=some v→∃vs t fr,bo=.cells vs t fr∧vs[o]?=some v)∧(∀m,S.mapo b=some m→w.heap.size≤b)∧b6 S (upd μ id (some (b,c))) (upd st'.h id (some (.arr e q.size (elems++rows) (if fz=0 then 0 else 1)))) (.one (.hs id 0 (elems.length+rows.length) (elems.length+rows.length))) v)):=by
  subst hsz;have hes':=Aq hes;have heb':=Aq heb;obtain⟨ad,c,news,N,J,hrl,hnone,hcell⟩:=hsrc.rel hs hsi hvy;have O:news.length=rows.length*q.size:=by rw[J.length,j4 hrl]
  obtain⟨inf,dd,z,g1,g2,g3,g4,g5,g6,g7,g8⟩:=(hT.get hei).ex;have hu:=(hT.get hi).slice hk;have hzs:z.cells.size=q.size:=by
    have h1:=(k8 (S:=S) g7).length;rw[(hT.get hei).len] at h1;simpa using h1
  simp only[b6,bF] at hvx;obtain⟨_,hv | ⟨te',es',elems',fz',h1,h2,h3⟩⟩:=hvx
  · rw[Y] at hv;cases hv
  rw[Y] at h1;cases h1;obtain⟨h4,hcase⟩:=h3 rfl;have hbig:elems.length+rows.length≤140737488355328:=by
    have:(elems.length+rows.length)*1≤(elems.length+rows.length)*q.bytes:=mul_le_mul_left _ heb';omega
  have hone:∀u∈news,u.oneCell'=true:=(J.toR (μ:=μ) (H:=st'.h)).one;have hcap:∀old,elems.length+rows.length≤grownCap w (elems.length+rows.length) old e∧grownCap w (elems.length+rows.length) old e≤maxLen:=fun old=>
    ⟨grownCap_ge _ _ _ _,grownCap_le_maxLen _ _ _ _ (by unfold maxLen;omega)⟩
  have W:∀(aa:List Value) (old:Nat),dL S elems.flatten aa→0<rows.length→∀g0:(∀r∈elems,r.length=q.size),
      mW S (upd μ id (some (w.heap.size,0,grownCap w (elems.length+rows.length) old e))) (upd st'.h id (some (.arr e q.size (elems++rows) (if fz=0 then 0 else 1))))
        (w.drew.alloc (.cells (aa.toArray++news.toArray++Builtin.zeroCells z.cells (grownCap w (elems.length+rows.length) old e-(elems.length+rows.length))) e)) id (.arr e q.size (elems++rows) (if fz=0 then 0 else 1)):=by
    intro aa old hol hpos g0;obtain⟨hc1,hc2⟩:=hcap old;have ab:=hol.length;rw[j4 g0] at ab;refine⟨?_,.inr ⟨w.heap.size,0,grownCap w (elems.length+rows.length) old e,(aa.toArray++news.toArray++Builtin.zeroCells z.cells (grownCap w (elems.length+rows.length) old e-(elems.length+rows.length))).toList,aK _ _ _,Ca w.drew _,?_,by simpa using hc1,⟨hc2,s6 hs.inv⟩,?_,fun _ o _=>iH hs.inv o,fun o _=>iH hs.inv o,fun e=>by split at e<;>cases e⟩⟩
    · intro r I
      rcases χ.1 I with I | I
      · exact g0 r I
      · exact hrl r I
    · simp only[Array.toList_append,ω,Bf,size_zeroCells,hzs]
      simp only[ab,O,Be,←A5];exact Ay _ (by omega)
    · simp only[Array.toList_append,Ce,ω,flatten_append]
      rw[Cp (by simp[ab,O,A5]),Bb (by simp[ab,O,A5])];exact hol.append J
  have ac:(elems++rows).length=elems.length+rows.length:=by simp
  by_cases hm:rows.length=0
  · --nothing is appended
    have hr0:rows=[]:=A4 hm;have hfzz:(if fz=0 then 0 else 1)=fz∨(if fz=0 then 0 else 1)=1:=by
      by_cases h:fz=0
      · left;rw[ξ h,h]
      · right;rw[φ h]
    rcases hcase with⟨h5,h6,h7⟩ | ⟨b,base,cap,h5,h6⟩
    · refine⟨w,.slice none 0 0,fQ Z h7 N (by rw[hm];exact kY w t o.type e inf hu g1 none ad 0 0 c (le_refl _)),.inl ⟨rfl,by rw[hr0,A0],hfzz,?_⟩⟩
      simp only[b6,bF];exact⟨⟨_,_,_,rfl⟩,.inr ⟨e,q.size,elems,fz,Y,by omega,fun _=>⟨by omega,.inl ⟨h5,h6,(by first | rfl | trivial)⟩⟩⟩⟩
    · obtain⟨q0,vs,q1,q2,q3,q4,q5,q6,q7,q8⟩:=(hs.inv.obj id _ Y).arr h5
      refine⟨w,_,fQ Z h6 N (by rw[hm];exact kY w t o.type e inf hu g1 _ ad elems.length _ c (by omega)),.inl ⟨rfl,by rw[hr0,A0],hfzz,?_⟩⟩;simp only[b6,bF];exact⟨⟨_,_,_,rfl⟩,.inr ⟨e,q.size,elems,fz,Y,by omega,fun _=>⟨by omega,.inr ⟨b,base,cap,h5,by rw[hm,Bw]⟩⟩⟩⟩
  · cases ad with
    | none=>exact absurd (by rw[hnone rfl];rfl) hm
    | some ad=>
      have hc:=hcell ad rfl;rcases hcase with⟨h5,h6,h7⟩ | ⟨b,base,cap,h5,h6⟩
      · --the first elements
        subst h6;simp only[length_nil,Be] at hroom hbig W hcap;have I:=run_append_nil (P:=P) w t o.type e inf z hu g1 g6 ad rows.length c news (by rw[O,g3]) hc (by omega) (by omega) (by rw[g4];omega);refine⟨_,_,fQ Z h7 N I,.inr ⟨by simp;omega,w.heap.size,_,(0,grownCap w rows.length 0 e),.inl (le_refl _),WChg.alloc_drew w _,?_,(fun o v e=>by rw[iH hs.inv] at e;cases e),fun m e=>le_refl _,?_⟩⟩
        · have:=W [] 0 (by simp[dL]) (by omega) (by simp)
          simpa using this
        · simp only[b6,bF]
          exact⟨⟨_,_,_,rfl⟩,.inr ⟨e,q.size,_,_,aK _ _ _,by simp,fun _=>⟨by simp,.inr ⟨w.heap.size,0,_,aK _ _ _,by simp⟩⟩⟩⟩
      · obtain⟨q0,vs,q1,q2,q3,q4,q5,q6,q7,q8⟩:=(hs.inv.obj id _ Y).arr h5
        have hce:elems.length*q.size≤cap*q.size:=Ay _ q3;simp only[sub_zero,Nat.zero_mul,Bw] at h6;by_cases hroom':elems.length+rows.length≤cap
        · --there is room
          have hce2:(elems.length+rows.length)*q.size≤cap*q.size:=Ay _ hroom';rw[A5] at hce2;have I:=kK (P:=P) w t o.type e inf hu g1 b base elems.length cap ⟨vs⟩ q1 ad rows.length c news (by rw[O,g3]) hc hone hroom' (by rw[g3,O];simp only[size_toArray];omega);rw[g3] at I;have hW:=WChg.setRow w b ⟨vs⟩ ⟨vs.take (base+elems.length*q.size)++news++vs.drop (base+elems.length*q.size+news.length)⟩ e (0,0) q1;refine⟨_,_,fQ Z h6 N I,.inr ⟨by simp;omega,b,_,(base,cap),.inr ⟨_,h5⟩,hW,⟨?_,.inr ⟨b,base,cap,_,aK _ _ _,hW.new,?_,by rw[ac];omega,q4,?_,?_,?_,fun e=>by split at e<;>cases e⟩⟩,?_,fun m e=>j3 q4.2 m e,?_⟩⟩
          · intro r I
            rcases χ.1 I with I | I
            · exact q0 r I
            · exact hrl r I
          · simp only[ω,Au,Bx]
            omega
          · rw[ac,flatten_append]
            have e1:((vs.take (base+elems.length*q.size)++news++vs.drop (base+elems.length*q.size+news.length)).drop base).take ((elems.length+rows.length)*q.size)=(vs.drop base).take (elems.length*q.size)++news:=by
              rw[At,List.drop_append_of_le_length (by simp;omega),←At,Cp (by simp[A5];omega)];rw[Bb (by simp[A5];omega),drop_take];rw[show base+elems.length*q.size-base=elems.length*q.size by omega]
            rw[e1];exact q5.append J
          · intro e o Z
            exact q6 (Classical.byContradiction fun hne=>by rw[φ hne] at e;cases e) o Z
          · intro o Z
            rw[ac,A5] at Z;exact q7 o (by omega)
          · intro o v e
            by_cases hlt:o<base+elems.length*q.size
            · obtain⟨vs0,t0,fr0,p1,p2⟩:=hs.inv.holds.1 b o v e
              rw[q1] at p1;cases p1;refine⟨_,_,_,rfl,?_⟩;simp only[List.getElem?_toArray] at p2 ⊢;rw[At,A9 (by simp;omega),Av,ξ (by omega)];exact p2
            · rw[q7 o (by omega)] at e;cases e
          · simp only[b6,bF]
            exact⟨⟨_,_,_,rfl⟩,.inr ⟨e,q.size,_,_,aK _ _ _,by simp,fun _=>⟨by simp,.inr ⟨b,base,cap,aK _ _ _,by simp⟩⟩⟩⟩
        · --into a new block
          have I:=run_append_grow (P:=P) w t o.type e inf z hu g1 g6 ⟨b,base,none⟩ elems.length cap ((vs.drop base).take (elems.length*q.size)) (by rw[g3];simp;omega) (by
              intro j v hj;rw[Addr.add_mid,cell_of_row w b _ ⟨vs⟩ e (0,0) q1];rw[Av] at hj;split at hj
              · rw[Ap] at hj
                simpa using hj
              · cases hj) ad rows.length c news (by rw[O,g3]) hc (by omega) (by omega) (by rw[g4];exact growslice_fits (by omega) hroom)
          have hq5:dL S elems.flatten ((vs.drop base).take (elems.length*q.size)):=q5;refine⟨_,_,fQ Z h6 N I,.inr ⟨by simp;omega,w.heap.size,_,(0,grownCap w (elems.length+rows.length) cap e),.inl (le_refl _),WChg.alloc_drew w _,?_,(fun o v e=>by rw[iH hs.inv] at e;cases e),fun m e=>le_refl _,?_⟩⟩
          · have:=W _ cap hq5 (by omega) q0
            simpa using this
          · simp only[b6,bF]
            exact⟨⟨_,_,_,rfl⟩,.inr ⟨e,q.size,_,_,aK _ _ _,by simp,fun _=>⟨by simp,.inr ⟨w.heap.size,0,_,aK _ _ _,by simp⟩⟩⟩⟩
theorem aEs {t e:TypeId}{i q:TI}{x y:Operand}{id sz fz:Nat}{elems rows:List (List C)}{N:V}{ids:List Nat}(hT:Tok P T) (ho:o.op=.call { callee:=.builtin .append,args:= #[x,y],argTypes:= #[t,t] }) (hd:o.dst=some d) (O:d<n)
  (hi:T[t]?=some (some i)) (hk:i.k=.sl e) (W:T[e]?=some (some q)) (Y:Nat.ble 1 q.size=true) (Z:Nat.ble 1 q.bytes=true)
  (hx:opv st x=some (.one (.hs id 0 sz sz))) (hh:st.h id=some (.arr e q.size elems fz)) (aa:sz=elems.length) (hy:opv st y=some N) (J:Src st q.size ids N rows)
  (I:(elems.length+rows.length)*q.bytes≤140737488355328):
  Step P n o st ⟨opr x++opr y,id::ids⟩ ⟨some (d,some (.one (.hs id 0 (elems.length+rows.length) (elems.length+rows.length)))),[(id,some (.arr e q.size (elems++rows) (if fz=0 then 0 else 1)))]⟩:=by
 refine Step.grow hd O hh (by simp) (by simp) _ fun st' ha ab G S μ a w hs=>?_
 have ac:=aQ hs hx fun t ht=>ha.1 t (by simp[ht])
 have ad:=aQ hs hy fun t ht=>ha.1 t (by simp[ht])
 exact aA9 hT ho hi hk W Y Z aa I ab hs ac ad J fun i h=>ha.2 i (by simp[h])
end
mutual
def R.ren (σ:Nat→Nat):R→R
 | .c x=>.c x
 | .hs id off len sz=>.hs (σ id) off len sz
 | .tl id off len sz=>.tl (σ id) off len sz
 | .vp id off=>.vp (σ id) off
 | .ep id i fo sz=>.ep (σ id) i fo sz
 | .mr id=>.mr (σ id)
 | .clo f caps=>.clo f (R.renL σ caps)
 | .mth f x=>.mth f (x.ren σ)
 | .yl id=>.yl (σ id)
 | .ra id off len sz=>.ra (σ id) off len sz
 | .rp id i fo sz=>.rp (σ id) i fo sz
 | .ras n es l=>.ras n es (R.renL σ l)
 | .pas l=>.pas (R.renL σ l)
def R.renL (σ:Nat→Nat):List R→List R
 | []=>[]
 | r::rs=>r.ren σ::R.renL σ rs
end
mutual
def V.ren (σ:Nat→Nat):V→V
 | .one r=>.one (r.ren σ)
 | .pa l=>.pa l
 | .ma l=>.ma (R.renL σ l)
 | .tup l=>.tup (V.renL σ l)
def V.renL (σ:Nat→Nat):List V→List V
 | []=>[]
 | r::rs=>r.ren σ::V.renL σ rs
end
mutual
def R.refs:R→List Nat
 | .c _=>[]
 | .hs id _ _ _=>[id]
 | .tl id _ _ _=>[id]
 | .vp id _=>[id]
 | .ep id _ _ _=>[id]
 | .mr id=>[id]
 | .clo _ caps=>R.refsL caps
 | .mth _ x=>x.refs
 | .yl id=>[id]
 | .ra id _ _ _=>[id]
 | .rp id _ _ _=>[id]
 | .ras _ _ l=>R.refsL l
 | .pas l=>R.refsL l
def R.refsL:List R→List Nat
 | []=>[]
 | r::rs=>r.refs++R.refsL rs
end
mutual
def V.refs:V→List Nat
 | .one r=>r.refs
 | .pa _=>[]
 | .ma l=>R.refsL l
 | .tup l=>V.refsL l
def V.refsL:List V→List Nat
 | []=>[]
 | r::rs=>r.refs++V.refsL rs
end
def nT:List (Nat×V)→List Nat
 | []=>[]
 | (_,v)::l=>v.refs++nT l
def c8:List (List R)→List Nat
 | []=>[]
 | r::l=>R.refsL r++c8 l
def aH6 (σ:Nat→Nat):List (Nat×V)→List (Nat×V)
 | []=>[]
 | (t,v)::l=>(t,v.ren σ)::aH6 σ l
def mX (σ:Nat→Nat):List (List R)→List (List R)
 | []=>[]
 | r::l=>R.renL σ r::mX σ l
theorem rP:∀{l:List (Nat×V)}{t:Nat}{v:V},(t,v)∈l→∀i∈v.refs,i∈nT l
 | (k,u)::l,t,v,h,i,hi=>by
  simp only[nT,χ];rcases Ao.1 h with h | h
  ·cases h;exact .inl hi
  ·exact .inr (rP h i hi)
theorem aEq {σ:Nat→Nat}:∀{l:List (Nat×V)}{t:Nat}{v:V},(t,v)∈l→(t,v.ren σ)∈aH6 σ l
 | (k,u)::l,t,v,h=>by
  simp only[aH6];rcases Ao.1 h with h | h
  ·cases h;simp
  ·exact κ _ (aEq h)
theorem R.renL_length {σ:Nat→Nat}:∀{l:List R},(R.renL σ l).length=l.length
 | []=>rfl
 | _::l=>by simp[R.renL,R.renL_length (l:=l)]
theorem eX {σ:Nat→Nat}:∀{l:List (List R)},(mX σ l).length=l.length
 | []=>rfl
 | _::l=>by simp[mX,eX (l:=l)]
theorem R.renL_append {σ:Nat→Nat}:∀{l m:List R},R.renL σ (l++m)=R.renL σ l++R.renL σ m
 | [],_=>rfl
 | _::l,m=>by simp[R.renL,R.renL_append (l:=l)]
theorem R.refsL_append:∀{l m:List R},R.refsL (l++m)=R.refsL l++R.refsL m
 | [],_=>rfl
 | _::l,m=>by simp[R.refsL,R.refsL_append (l:=l)]
theorem yW {σ:Nat→Nat}:∀{l:List (List R)},(mX σ l).flatten=R.renL σ l.flatten
 | []=>rfl
 | _::l=>by simp[mX,yW (l:=l),R.renL_append]
theorem uG:∀{l:List (List R)},R.refsL l.flatten=c8 l
 | []=>rfl
 | _::l=>by simp[c8,uG (l:=l),R.refsL_append]
theorem l9 {σ:Nat→Nat}{es:Nat}:∀{l:List (List R)},(∀r∈mX σ l,r.length=es)→∀r∈l,r.length=es
 | [],_,r,h=>by simp at h
 | x::l,k,r,h=>by
  rcases Ao.1 h with rfl | h
  ·rw[←R.renL_length (σ:=σ)];exact k _ (by simp[mX])
  ·exact l9 (σ:=σ) (l:=l) (fun r q=>k r (by simp[mX,q])) r h
def AObj.refs:AObj→List Nat
 | .var _ cells=>R.refsL cells
 | .lp _ _ _ e=>nT e
 | .rarr _ _ elems=>c8 elems
 | .tok r _=>r.refs
 | _=>[]
inductive Ole (σ:Nat→Nat):AObj→AObj→Prop
 | var {t cells cells'}:cells=R.renL σ cells'→Ole σ (.var t cells) (.var t cells')
 | arr {te es elems fz}:Ole σ (.arr te es elems fz) (.arr te es elems fz)
 | arr1 {te es elems fz}:Ole σ (.arr te es elems fz) (.arr te es elems 1)
 | map {agg ents}:Ole σ (.map agg ents) (.map agg ents)
 | dead:Ole σ .dead .dead
 | lp {st j i e e'}:e=aH6 σ e'→Ole σ (.lp st j i e) (.lp st j i e')
 | dfr:Ole σ .dfr .dfr
 | rarr {te es elems elems'}:elems=mX σ elems'→Ole σ (.rarr te es elems) (.rarr te es elems')
 | tok {r r' k}:r=r'.ren σ→Ole σ (.tok r k) (.tok r' k)
theorem Ole.succ {σ:Nat→Nat}{o o':AObj}(h:Ole σ o o'):o.succ True o':=by
 cases h
 case rarr e=>subst e;simp[AObj.succ,eX]
 all_goals simp[AObj.succ]
section
variable {S:Sto}{μ:Mu}{H H':cR}{σ:Nat→Nat}
def Good (H H':cR) (σ:Nat→Nat) (id:Nat):Prop:=∃o o',H (σ id)=some o∧H' id=some o'∧Ole σ o o'
mutual
theorem bF.ren:∀(r:R) (v:Value),(∀id∈r.refs,Good H H' σ id)→bF S μ H (r.ren σ) v→bF S (fun i=>μ (σ i)) H' r v
 | .c x,v,_,k=>by simpa only[bF,R.ren] using k
 | .hs id off len sz,v,h,k=>by
  obtain⟨o,o',h1,h2,h3⟩:=h id (by simp[R.refs]);simp only[bF,R.ren] at k ⊢;refine⟨k.1,?_⟩;rcases k.2 with k | ⟨te,es,elems,fz,g1,g2,g3⟩
  ·rw[h1] at k;cases k;cases h3;exact .inl h2
  ·rw[h1] at g1;cases g1;cases h3
   ·exact .inr ⟨te,es,elems,_,h2,g2,g3⟩
   ·exact .inr ⟨te,es,elems,_,h2,g2,g3⟩
 | .tl id off len sz,v,h,k=>by
  obtain⟨o,o',h1,h2,h3⟩:=h id (by simp[R.refs]);simp only[bF,R.ren] at k ⊢;refine⟨k.1,?_⟩;rcases k.2 with k | ⟨te,es,elems,fz,g1,g2,g3⟩
  ·rw[h1] at k;cases k;cases h3;exact .inl h2
  ·rw[h1] at g1;cases g1;cases h3
   ·exact .inr ⟨te,es,elems,_,h2,g2,g3⟩
   ·exact .inr ⟨te,es,elems,_,h2,g2,g3⟩
 | .vp id off,v,h,k=>by
  obtain⟨o,o',h1,h2,h3⟩:=h id (by simp[R.refs]);simp only[bF,R.ren] at k ⊢;obtain⟨t,cells,b,c,g1,g2,g3⟩:=k;rw[h1] at g1;cases g1;cases h3;exact⟨_,_,b,c,h2,g2,g3⟩
 | .ep id i fo sz,v,h,k=>by
  obtain⟨o,o',h1,h2,h3⟩:=h id (by simp[R.refs]);simp only[bF,R.ren] at k ⊢;refine⟨k.1,?_⟩;rcases k.2 with k | ⟨te,es,elems,fz,g1,g2,g3⟩
  ·rw[h1] at k;cases k;cases h3;exact .inl h2
  ·rw[h1] at g1;cases g1;cases h3
   ·exact .inr ⟨te,es,elems,_,h2,g2,g3⟩
   ·exact .inr ⟨te,es,elems,_,h2,g2,g3⟩
 | .mr id,v,h,k=>by
  obtain⟨o,o',h1,h2,h3⟩:=h id (by simp[R.refs]);simp only[bF,R.ren] at k ⊢;obtain⟨agg,ents,b,c,g1,g2,g3⟩:=k;rw[h1] at g1;cases g1;cases h3;exact⟨_,_,b,c,h2,g2,g3⟩
 | .clo f caps,v,h,k=>by
  simp only[bF,R.ren] at k ⊢;obtain⟨vs,g1,g2⟩:=k;exact⟨vs,g1,aW.ren caps vs (by simpa only[R.refs] using h) g2⟩
 | .mth f x,v,h,k=>by
  simp only[bF,R.ren] at k ⊢;obtain⟨u,g1,g2⟩:=k;exact⟨u,g1,bF.ren x u (by simpa only[R.refs] using h) g2⟩
 | .rp id i fo sz,v,h,k=>by
  obtain⟨o,o',h1,h2,h3⟩:=h id (by simp[R.refs]);simp only[bF,R.ren] at k ⊢;refine⟨k.1,?_⟩;rcases k.2 with k | ⟨te,es,elems,g1,g2,g3⟩
  ·rw[h1] at k;cases k;cases h3;exact .inl h2
  ·rw[h1] at g1;cases g1;cases h3;rename_i elems' e;subst e;rw[eX] at g2 g3;exact .inr ⟨te,es,elems',h2,g2,g3⟩
 | .yl id,v,h,k=>by
  obtain⟨o,o',h1,h2,h3⟩:=h id (by simp[R.refs]);simp only[bF,R.ren] at k ⊢;obtain⟨st,j,i,e,b,c,g1,g2,g3⟩:=k;rw[h1] at g1;cases g1;cases h3;exact⟨_,_,_,_,b,c,h2,g2,g3⟩
 | .ra id off len sz,v,h,k=>by
  obtain⟨o,o',h1,h2,h3⟩:=h id (by simp[R.refs]);simp only[bF,R.ren] at k ⊢;refine⟨k.1,?_⟩;rcases k.2 with k | ⟨te,es,elems,g1,g2,g3⟩
  ·rw[h1] at k;cases k;cases h3;exact .inl h2
  ·rw[h1] at g1;cases g1;cases h3;rename_i elems' e;subst e;rw[eX] at g2 g3;refine .inr ⟨te,es,elems',h2,g2,fun e=>?_⟩;obtain⟨N,q⟩:=g3 e;refine⟨N,?_⟩;rcases q with⟨q,O,W⟩ | q
   ·exact .inl ⟨q,A4 (by rw[←eX (σ:=σ),O];rfl),W⟩
   ·exact .inr q
 | .ras n es l,v,h,k=>by
  simp only[bF,R.ren] at k ⊢;obtain⟨a,cap,h1,h2,h3,h4,h5,h6,b,o,h7,vs,I,J⟩:=k;exact⟨a,cap,h1,by rw[h2,R.renL_length],h3,h4,h5,h6,b,o,h7,vs,aW.ren l vs (by simpa only[R.refs] using h) I,J⟩
 | .pas l,v,h,k=>by
  simp only[bF,R.ren] at k ⊢;obtain⟨b,o,h1,vs,I,J⟩:=k;exact⟨b,o,h1,vs,aW.ren l vs (by simpa only[R.refs] using h) I,J⟩
theorem aW.ren:∀(r:List R) (v:List Value),(∀id∈R.refsL r,Good H H' σ id)→aW S μ H (R.renL σ r) v→aW S (fun i=>μ (σ i)) H' r v
 | [],_,_,k=>by simpa only[aW,R.renL] using k
 | r::rs,vs,h,k=>by
  simp only[aW,R.renL] at k ⊢;obtain⟨v,vs',h1,h2,h3⟩:=k;exact⟨v,vs',h1,bF.ren r v (fun i hi=>h i (by simp[R.refsL,hi])) h2,aW.ren rs vs' (fun i hi=>h i (by simp[R.refsL,hi])) h3⟩
end
mutual
theorem b6.ren:∀(r:V) (v:Value),(∀id∈r.refs,Good H H' σ id)→b6 S μ H (r.ren σ) v→b6 S (fun i=>μ (σ i)) H' r v
 | .one r,v,h,k=>by simp only[b6,V.ren] at k ⊢;exact bF.ren r v (by simpa only[V.refs] using h) k
 | .pa l,v,_,k=>by simpa only[b6,V.ren] using k
 | .ma l,v,h,k=>by
  simp only[b6,V.ren] at k ⊢;obtain⟨vs,h1,h2⟩:=k;exact⟨vs,h1,aW.ren l vs (by simpa only[V.refs] using h) h2⟩
 | .tup l,v,h,k=>by
  simp only[b6,V.ren] at k ⊢;obtain⟨vs,h1,h2⟩:=k;exact⟨vs,h1,bU.ren l vs (by simpa only[V.refs] using h) h2⟩
theorem bU.ren:∀(r:List V) (v:List Value),(∀id∈V.refsL r,Good H H' σ id)→bU S μ H (V.renL σ r) v→bU S (fun i=>μ (σ i)) H' r v
 | [],_,_,k=>by simpa only[bU,V.renL] using k
 | r::rs,vs,h,k=>by
  simp only[bU,V.renL] at k ⊢;obtain⟨v,vs',h1,h2,h3⟩:=k;exact⟨v,vs',h1,b6.ren r v (fun i hi=>h i (by simp[V.refsL,hi])) h2,bU.ren rs vs' (fun i hi=>h i (by simp[V.refsL,hi])) h3⟩
end
end
theorem mW.ren {S:Sto}{μ:Mu}{H H':cR}{σ:Nat→Nat}{w:World}{id:Nat}{o o':AObj}(h:mW S μ H w (σ id) o) (hl:Ole σ o o') (q:∀i∈o'.refs,Good H H' σ i):mW S (fun i=>μ (σ i)) H' w id o':=by
 cases hl with
 | @var t cells cells' hc=>
  subst hc;obtain⟨b,vs,h1,h2,h3,h4⟩:=h;exact⟨b,vs,h1,h2,aW.ren _ _ q h3,h4⟩
 | arr=>exact h
 | arr1=>
  obtain⟨g0,g1 | ⟨b,base,cap,vs,g1,g2,g3,g4,g5,g6,g7,g8,g9⟩⟩:=h
  ·exact⟨g0,.inl g1⟩
  ·exact⟨g0,.inr ⟨b,base,cap,vs,g1,g2,g3,g4,g5,g6,(fun e=>by cases e),g8,(fun e=>by cases e)⟩⟩
 | map=>exact h
 | dead=>exact h
 | lp he=>
  subst he;obtain⟨b,r,fn,tmps,h1,h2,h3,h4,h5⟩:=h;exact⟨b,r,fn,tmps,h1,h2,h3,fun t v ht=>b6.ren _ _ (fun i hi=>q i (rP ht i hi)) (h4 t _ (aEq ht)),h5⟩
 | dfr=>exact h
 | rarr he=>
  subst he;obtain⟨g0,g1 | ⟨b,base,cap,vs,g1,g2,g3,g4,g5,g6,g7⟩⟩:=h
  ·exact⟨l9 g0,.inl ⟨g1.1,A4 (by rw[←eX (σ:=σ),g1.2];rfl)⟩⟩
  ·rw[eX] at g4 g6;rw[yW] at g6;exact⟨l9 g0,.inr ⟨b,base,cap,vs,g1,g2,g3,g4,g5,aW.ren _ _ (fun i hi=>q i (by rw[uG] at hi;exact hi)) g6,g7⟩⟩
 | tok he=>
  subst he;obtain⟨g1,b,g2,g3⟩:=h;exact⟨g1,b,bF.ren _ _ q g2,g3⟩
def Ctx.keeps (G:Ctx) (kf:List Nat):Prop:=(∀id o,G.h0 id=some o→id∈kf)∧(997∈kf→G.h0 997=none→G.S0.noTop)
def Sub (kf:List Nat) (st2 st1:St):Prop:=∀G n S μ a w,G.keeps kf→Sim G n S μ st1 a w→∃S' μ',Sim G n S' μ' st2 a w
theorem Sub.refl (kf:List Nat) (st:St):Sub kf st st:=fun _ _ S μ _ _ _ h=>⟨S,μ,h⟩
theorem Sub.trans {kf:List Nat}{a b c:St}(h:Sub kf a b) (k:Sub kf b c):Sub kf a c:=fun G n S μ x w hg hs=>by
 obtain⟨S',μ',h1⟩:=k G n S μ x w hg hs;exact h G n S' μ' x w hg h1
def mk (el:List (Nat×V)) (hl:List (Nat×AObj)):St:=⟨look el,look hl,[]⟩
def mkd (el:List (Nat×V)) (hl:List (Nat×AObj)) (dl:List Nat):St:=⟨look el,look hl,dl⟩
theorem cD {α:Type}:∀{l:List (Nat×α)}{i:Nat}{x:α},look l i=some x→(i,x)∈l
 | [],_,_,h=>by simp[look] at h
 | (k,y)::l,i,x,h=>by
  simp only[look] at h;split at h
  ·rename_i hb;cases h;simp[Ac hb]
  ·simp[cD h]
def eW {α:Type}(p:α→Prop):List α→Prop
 | []=>True
 | x::l=>p x∧eW p l
theorem eW.mem {α:Type}{p:α→Prop}:∀{l:List α},eW p l→∀x∈l,p x
 | [],_,x,h=>by simp at h
 | y::l,h,x,hx=>by
  rcases Ao.1 hx with rfl | hx
  ·exact h.1
  ·exact eW.mem h.2 x hx
def subset (a b:List Nat):Bool:=a.all fun x=>b.contains x
def distinct:List Nat→Bool
 | []=>true
 | x::l=>!(l.contains x)&&distinct l
def dN:List (Nat×AObj)→List Nat
 | []=>[]
 | (_,o)::l=>o.refs++dN l
def aV0 (kf:List Nat) (σ:Nat→Nat) (el:List (Nat×V)) (hl:List (Nat×AObj)):Bool:=subset (nT el) (hl.map (·.1))&&subset (dN hl) (hl.map (·.1))&&distinct (hl.map fun p=>σ p.1)&&subset kf (hl.map (·.1))&&kf.all fun i=>Nat.beq (σ i) i
theorem bP {a b:List Nat}(h:subset a b=true):∀x∈a,x∈b:=fun x hx=>by simpa using (A7.1 h) x hx
theorem dO:∀{l:List Nat},distinct l=true→l.Nodup
 | [],_=>nodup_nil
 | x::l,h=>by
  simp only[distinct,Ai] at h;refine Br.2 ⟨?_,dO h.2⟩;simpa using h.1
theorem jV:∀{l:List (Nat×AObj)}{t:Nat}{v:AObj},(t,v)∈l→∀i∈v.refs,i∈dN l
 | (k,u)::l,t,v,h,i,hi=>by
  simp only[dN,χ];rcases Ao.1 h with h | h
  ·cases h;exact .inl hi
  ·exact .inr (jV h i hi)
theorem jG {α:Type}:∀{l:List (Nat×α)}{i:Nat},i∈l.map (·.1)→∃x,look l i=some x:=gC
theorem zM {α β:Type}{f:α→β}:∀{l:List α},(l.map f).Nodup→∀x∈l,∀y∈l,f x=f y→x=y
 | [],_,x,h,_,_,_=>by simp at h
 | z::l,hn,x,hx,y,hy,e=>by
  simp only[Am,Br] at hn;rcases Ao.1 hx with hx | hx
  ·rcases Ao.1 hy with hy | hy
   ·rw[hx,hy]
   ·exact absurd (Ad.2 ⟨y,hy,by rw[←e,hx]⟩) hn.1
  ·rcases Ao.1 hy with hy | hy
   ·exact absurd (Ad.2 ⟨x,hx,by rw[e,hy]⟩) hn.1
   ·exact zM hn.2 x hx y hy e
def eqL:List Nat→List Nat→Bool
 | [],[]=>true
 | a::l,b::m=>Nat.beq a b&&eqL l m
 | _,_=>false
theorem aR9:∀{l m:List Nat},eqL l m=true→l=m
 | [],[],_=>rfl
 | a::l,b::m,h=>by
  simp only[eqL,Ai] at h;rw[Ac h.1,aR9 h.2]
 | [],_::_,h=>by simp[eqL] at h
 | _::_,[],h=>by simp[eqL] at h
theorem Sub.listD {kf:List Nat}{I:St}{el:List (Nat×V)}{hl:List (Nat×AObj)}{dl:List Nat}(σ:Nat→Nat) (he:eW (fun p=>I.e p.1=some (p.2.ren σ)) el) (hh:eW (fun p=>∃o,I.h (σ p.1)=some o∧Ole σ o p.2) hl) (hok:(aV0 kf σ el hl&&(eqL (dl.map σ) I.d&&subset dl (hl.map (·.1))))=true):Sub kf (mkd el hl dl) I:=by
 intro G n S μ a w hg hs;rw[Ai,Ai] at hok;obtain⟨hok,J,Z⟩:=hok;have J:=aR9 J;simp only[aV0,Ai] at hok;obtain⟨⟨⟨⟨h1,h2⟩,h3⟩,h4⟩,h5⟩:=hok;have q:∀i∈hl.map (·.1),Good I.h (look hl) σ i:=by
  intro i hi;obtain⟨o',Y⟩:=gC hi;obtain⟨o,g1,g2⟩:=hh.mem _ (cD Y);exact⟨o,o',g1,Y,g2⟩
 have aa:=dO h3;refine⟨S,fun i=>μ (σ i),⟨⟨hs.inv.holds,fun id o N=>?_,fun i j o o' b c c' hi hj hm ab=>?_,fun i o b c hi hm=>?_,hs.inv.frame,hs.inv.sle,hs.inv.sto,⟨hs.inv.evo.le,fun id o N=>?_⟩,hs.inv.fre⟩,hs.size,?_,fun t v ht=>?_⟩⟩
 ·obtain⟨O,g1,g2⟩:=hh.mem _ (cD N);exact(hs.inv.obj _ _ g1).ren g2 fun i hi=>q i (bP h2 i (jV (cD N) i hi))
 ·obtain⟨O,g1,g2⟩:=hh.mem _ (cD hi);obtain⟨W,g3,g4⟩:=hh.mem _ (cD hj);have hσ:=hs.inv.inj _ _ _ _ b c c' g1 g3 hm ab;have:=zM aa _ (cD hi) _ (cD hj) hσ;exact(congrArg Prod.fst this)
 ·obtain⟨O,g1,g2⟩:=hh.mem _ (cD hi);exact hs.inv.own _ _ b c g1 hm
 ·obtain⟨o',g1,g2⟩:=hs.inv.evo.obj id o N;have hk:=hg.1 id o N;have hσ:σ id=id:=Ac ((A7.1 h5) id hk);obtain⟨O,W,g3,g4,g5⟩:=q id (bP h4 id hk);rw[hσ,g1] at g3;cases g3;refine⟨W,g4,?_⟩;show o.succ (μ (σ id)=G.μ0 id) W;rw[hσ];exact AObj.succ_trans g2 g5.succ fun e _=>e
 ·refine Marks.ren (H:=I.h) (μ:=μ) σ (by show Marks _ μ I.h (dl.map σ) a.defers;rw[J];exact hs.defers) fun id hid ac=>⟨rfl,?_⟩
  obtain⟨O,W,g3,g4,g5⟩:=q id (bP Z id hid);rw[ac] at g3;cases g3;cases g5;exact g4
 ·have hm:=cD (show look el t=some v from ht);have h4:=he.mem _ hm;exact b6.ren v _ (fun i hi=>q i (bP h1 i (rP hm i hi))) (hs.env t _ h4)
theorem Sub.list {kf:List Nat}{q:St}{el:List (Nat×V)}{hl:List (Nat×AObj)}(σ:Nat→Nat) (he:eW (fun p=>q.e p.1=some (p.2.ren σ)) el) (hh:eW (fun p=>∃o,q.h (σ p.1)=some o∧Ole σ o p.2) hl) (hok:(aV0 kf σ el hl&&eqL [] q.d)=true):Sub kf (mk el hl) q:=
 Sub.listD (dl:=[]) σ he hh (by
  rw[Ai] at hok;rw[Ai]
  exact⟨hok.1,by rw[Bs,hok.2];rfl⟩)
def Ctx.rok (G:Ctx):Option Nat→Prop
 | none=>True
 | some l=>(∃r,G.w0.heap[l]?=some (.loop r))∧¬G.F l
def AWp (ro:Option Nat) (P:Program) (n:Nat) (kf:List Nat) (c:Code) (st:St) (Q:Exit→St→Prop):Prop:=
 ∀G S μ a w (Q':Exit→Act→World→Prop),G.keeps kf∧G.rok ro→Sim G n S μ st a w→(∀ex st' S' μ' a' w',Q ex st'→Sim G n S' μ' st' a' w'→Q' ex a' w')→c.wpIn (Wd ro) 0 P Q' a w
section
variable {ro:Option Nat}{P:Program}{n:Nat}{kf:List Nat}{st:St}{Q:Exit→St→Prop}
theorem AWp.sub {c:Code}{st2:St}(h:Sub kf st2 st) (k:AWp ro P n kf c st2 Q):AWp ro P n kf c st Q:=fun G S μ a w Q' hg hs q=>by
 obtain⟨S',μ',I⟩:=h G n S μ a w hg.1 hs;exact k G S' μ' a w Q' hg I q
theorem AWp.post {c:Code}{Q2:Exit→St→Prop}(h:AWp ro P n kf c st Q) (N:∀ex st',Q ex st'→∃I,Sub kf I st'∧Q2 ex I):AWp ro P n kf c st Q2:=fun G S μ a w Q' hg hs O=>
 h G S μ a w Q' hg hs fun ex st' S' μ' J w' q s=>by
  obtain⟨I,h1,h2⟩:=N ex st' q;obtain⟨S2,W,h3⟩:=h1 G n S' μ' J w' hg.1 s;exact O ex I S2 W J w' h2 h3
theorem aD (h:Q .normal st):AWp ro P n kf .skip st Q:=fun _ S μ a w _ _ hs q=>wpIn_skip (q _ _ S μ a w h hs)
theorem aI (h:Q .ret st):AWp ro P n kf .ret st Q:=fun _ S μ a w _ _ hs q=>wpIn_ret (q _ _ S μ a w h hs)
theorem aO {id:Nat}(h:Q (.exit id) st):AWp ro P n kf (.exit id) st Q:=fun _ S μ a w _ _ hs q=>wpIn_exit (q _ _ S μ a w h hs)
def a1w (ro:Option Nat) (P:Program) (n:Nat) (kf:List Nat) (c:Code) (Q:Exit→St→Prop):Exit→St→Prop
 | .normal,st=>AWp ro P n kf c st Q
 | ex,st=>Q ex st
theorem a8 {x y:Code}(h:AWp ro P n kf x st (a1w ro P n kf y Q)):AWp ro P n kf (.seq x y) st Q:=fun G S μ a w Q' hg hs I=>
 wpIn_seq (h G S μ a w _ hg hs fun ex st' S' μ' J w' q s=>by
  cases ex with
  | normal=>exact q G S' μ' J w' Q' hg s I
  | _=>exact I _ st' S' μ' J w' q s)
theorem aA {c:Operand}{x y:Code}{b:Bool}(hc:opv st c=some (B b)) (ht:b=true→AWp ro P n kf x st Q) (hf:b=false→AWp ro P n kf y st Q):AWp ro P n kf (.cond c x y) st Q:=fun G S μ a w Q' hg hs q=>by
 have hb:=jE (aQ hs hc fun _ _=>rfl);cases b with
 | true=>exact wpIn_cond_true hb (ht rfl G S μ a w Q' hg hs q)
 | false=>exact wpIn_cond_false hb (hf rfl G S μ a w Q' hg hs q)
def aNw (id:Nat) (Q:Exit→St→Prop):Exit→St→Prop
 | .exit id',st=>if Nat.beq id' id then Q .normal st else Q (.exit id') st
 | ex,st=>Q ex st
theorem aC {id:Nat}{c:Code}(h:AWp ro P n kf c st (aNw id Q)):AWp ro P n kf (.block id c) st Q:=fun G S μ a w Q' hg hs J=>
 wpIn_block (h G S μ a w _ hg hs fun ex st' S' μ' N w' q s=>by
  cases ex with
  | exit I=>
   simp only[aNw] at q;simp only[Exit.inBlock];by_cases hb:I=id
   ·subst hb;simp only[B6,Cm] at q;simpa using J _ st' S' μ' N w' q s
   ·have:Nat.beq I id=false:=by
     cases O:Nat.beq I id with
     | false=>rfl
     | true=>exact absurd (Ac O) hb
    simp only[this,Bc,Bv] at q;simpa [hb] using J _ st' S' μ' N w' q s
  | _=>exact J _ st' S' μ' N w' q s)
def a07 {α:Type}(kf:List Nat) (σ:α→St) (I:α→Prop) (m:α→Nat) (x:α) (Q:Exit→St→Prop):Exit→St→Prop
 | .normal,st=>∃y,I y∧m y<m x∧Sub kf (σ y) st
 | ex,st=>Q ex st
theorem r5 {F:Fence}{m:Nat}{P:Program}{Q:Exit→Act→World→Prop}{a:Act}{w:World}{c:Code}(I:Nat→Act→World→Prop) (N:Nat) (Y:I N a w)
  (round:∀n a w,I n a w→c.wpIn F m P (Exit.then (fun J w'=>∃n',n'<n∧I n' J w') Q) a w):(Code.loop c).wpIn F m P Q a w:=by
 refine wpIn_loop (fun a w=>∃n,I n a w) (fun a w=>leastOf (fun n=>I n a w)) ⟨N,Y⟩ ?_;intro a w Z;refine wpIn_mono (round _ a w (leastOf_spec Z).1) ?_;intro e J w' O;cases e with
 | normal=>
  obtain⟨n',W,q⟩:=O;exact show(∃n,I n J w')∧leastOf (fun n=>I n J w')<leastOf (fun n=>I n a w) from⟨⟨n',q⟩,Cu ((leastOf_spec ⟨n',q⟩).2 n' q) W⟩
 | _=>exact O
theorem aL {α:Type}{c:Code}(σ:α→St) (I:α→Prop) (m:α→Nat) (J:α) (hI:I J) (h0:Sub kf (σ J) st) (h:∀x,I x→AWp ro P n kf c (σ x) (a07 kf σ I m x Q)):AWp ro P n kf (.loop c) st Q:=fun G S μ a w Q' hg hs hQ=>by
 obtain⟨S',μ',O⟩:=h0 G n S μ a w hg.1 hs;refine r5 (fun k a w=>∃x S μ,m x=k∧I x∧Sim G n S μ (σ x) a w) (m J) ⟨J,S',μ',rfl,hI,O⟩ ?_;rintro k a w ⟨x,S,μ,hk,hx,hs⟩;refine h x hx G S μ a w _ hg hs fun ex st' S1 W Y w' q s=>?_
 cases ex with
 | normal=>
  obtain⟨y,hy,Z,N⟩:=q;obtain⟨S2,μ2,h2⟩:=N G n S1 W Y w' hg.1 s;exact⟨m y,hk▸Z,y,S2,μ2,rfl,hy,h2⟩
 | _=>exact hQ _ st' S1 W Y w' q s
theorem vH {id:Nat}{ops:Array Oper}{draw:Bool}{st':St}{xs:REs}(hm:P.follows .mixedOrders=true) (N:Run P n ops 0 st xs st') (hlen:Nat.beq xs.length ops.size=true)
  (J:(!draw || (fH (oT ops) xs []&&iI ops))=true) (h:Q .normal st'):AWp ro P n kf (.region id ops draw) st Q:=fun G S μ a w Q' hg hs Z=>by
 have q:=Ac hlen;cases draw with
 | true=>
  simp only[Bool.not_true,Bool.false_or,Ai] at J;refine wpIn_region_any hm ?_;refine aTj (G:=G) N q J.1 J.2 (fun S' μ' I w' s=>Z _ st' S' μ' I w' h s) ops.size _ (by simp) ?_ ?_ S μ a _ ?_ ro
  ·have:((List.range ops.size).filter fun i=>!(Array.replicate ops.size false).getD i false)=List.range ops.size:=by
    apply List.filter_eq_self.2;intro i hi;simp at hi;simp[hi]
   rw[this,length_range]
  ·intro i o ho hl;simp[A8,Array.getElem?_replicate] at hl;split at hl<;>simp at hl
  ·have hz:∀(O:REs) (k:Nat) (s:St),eS (fun j=>(Array.replicate ops.size false).getD j false) k O s=s:=by
    intro O
    induction O with
    | nil=>intro k s;rfl
    | cons y O W=>
     intro k s;have hf:(Array.replicate ops.size false).getD k false=false:=by
      simp[A8,Array.getElem?_replicate];split<;>rfl
     simp only[eS,hf,Bq];exact W _ _
   rw[hz];exact⟨hs.inv.same rfl rfl rfl rfl,hs.size,hs.defers,hs.env⟩
 | false=>
  refine wpIn_region ?_;have key:∀(k:Nat) (st st':St) (xs:REs),Run P n ops k st xs st'→k+xs.length=ops.size→(∀S' μ' I w',Sim G n S' μ' st' I w'→Q' .normal I w')→∀S μ a w,Sim G n S μ st a w→wpOpsIn (Wd ro) 0 P ops Q' (List.range' k xs.length) a w:=by
   intro k st st' xs N
   induction N with
   | nil=>intro _ Y S μ a w hs;exact Y S μ a w hs
   | @cons k st rd f xs st' hg _ W=>
    intro hl Y S μ a w hs;simp only[Ag,List.range'_succ,wpOpsIn_cons];exact hg st (pM.refl _ _) G S μ a w _ Q' hs (fun S1 μ1 a1 w1 s1=>W (by simp at hl;omega) Y S1 μ1 a1 w1 s1) ro
  have:=key 0 st st' xs N (by omega) (fun S' μ' I w' s=>Z _ st' S' μ' I w' h s) S μ a w hs;rwa [List.range_eq_range',←q]
end
end Go.AM
