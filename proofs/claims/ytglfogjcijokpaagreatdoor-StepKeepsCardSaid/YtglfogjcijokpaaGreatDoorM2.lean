/-
  Texts Am7 to Am11 in one.
-/
import Derived.Test.YtglfogjcijokpaaGreatDoorM1
import Derived.Deep.LoopGhost
open List (all_eq_true append_assoc append_nil drop_append drop_of_length_le drop_succ_cons drop_take drop_zero eq_nil_of_length_eq_zero flatten_append flatten_cons foldl_cons length_append length_cons length_drop length_nil length_range length_set length_take map_cons map_nil map_toArray mem_append mem_cons mem_cons_of_mem mem_map mem_of_mem_drop mem_of_mem_take nil_append nodup_cons nodup_nil set_eq_take_append_cons_drop size_toArray take_append_of_le_length take_left' take_of_length_le take_succ_cons take_zero)
open Nat (add_assoc add_mul add_zero beq_refl eq_of_beq_eq_true le_of_ble_eq_true le_refl le_trans lt_of_le_of_lt mul_le_mul_left mul_le_mul_right sub_self sub_zero zero_add zero_le)
namespace Go.AM
open Go
section
variable {P:Program}{n:Nat}{o:Oper}{st:St}{d:Nat}{T:TT}
theorem run_store {t:TypeId}{i:TI}(O:TIok P t i) (w:World) (b off:Nat) (vs news:List Value) (J:TypeId) (v:Value) (W:w.heap[b]?=some (.cells ⟨vs⟩ J (0,0))) (hv:v.cells.toList=news) (hl:news.length=i.size) (I:off+news.length≤vs.length) (h1:∀u∈news,u.oneCell'=true):
  (Instr.storeAt t (.pointer (some ⟨b,off,none⟩)) v).run P w=.ok () (w.setRow b ⟨vs.take off++news++vs.drop (off+news.length)⟩):=by
 have N:v.cells.size=i.size:=by rw[←hl,←hv];simp
 have q:=run_storeCells_at (P:=P) b off J news 0 ⟨vs⟩ w W (by simpa using I) h1;simp only[By] at q;simp only[Instr.storeAt,Instr.sureAddr,Ad,Ae,κ,storeVar,O.size_run w,N,hv];simp only[ne_eq,not_true_eq_false,Br,q]
theorem iY {S:Sto}{μ:Mu}{H:c7}{id:Nat}{o o':AObj}{p:Nat×Nat×Nat}(h:H id=some o) (hm:μ id=some p) (hs:o.succ True o'):Evolve S μ H S (upd μ id (some p)) (upd H id (some o')):=by
 refine⟨S.le_refl,fun j x I=>?_⟩;by_cases q:j=id
 ·subst q;rw[h] at I;cases I;refine⟨o',aI _ _ _,?_⟩;have he:upd μ j (some p) j=μ j:=by rw[aI,hm]
  rw[he];simpa using hs
 ·exact⟨x,by rw[aS _ _ _ q];exact I,x.succ_refl (aS _ _ _ q)⟩
theorem Step.turn {rd:Rd}{id:Nat}{ao q:AObj}(hd:o.dst=none) (hid:st.h id=some ao) (O:id∈rd.h) (J:ao.succ True q)
  (h:∀st',mN rd st st'→st'.h id=some ao→∀G S μ a w,Sim G n S μ st' a w→∃w' N b c,(execOp a.eval o).run P w=.ok .skip w'∧μ id=some (b,c)∧WChg w w' b N∧
   lW S (upd μ id (some (b,c))) (upd st'.h id (some q)) w' id q∧(∀o v,S.cell b o=some v→∃vs t fr,N=.cells vs t fr∧vs[o]?=some v)∧(∀m,S.mapo b=some m→w.heap.size≤b)):
  Step P n o st rd ⟨none,[(id,some q)]⟩:=by
 intro st' ha G S μ a w K Q hs hk;have I:st'.h id=some ao:=by rw[ha.2 id O,hid]
 obtain⟨w',N,b,c,Z,hm,hw,hO,hS,W⟩:=h st' ha I G S μ a w hs;refine fun ro=>yO Z ?_
 rw[hd];have Y:=iY (S:=S) (μ:=μ) I hm J;have hi:=hs.inv.chg (id:=id) (cap:=c) (ao:=q) hw (.inr ⟨ao,c,I,hm⟩) Y hO hS W;refine hk S (upd μ id (some (b,c))) _ _ ?_;have:=hs.put_none hi Y undef;unfold Eff.apply;rw[dE];exact this
def bU {α:Type}(l:List α) (off:Nat) (new:List α):List α:=l.take off++new++l.drop (off+new.length)
theorem iU {S:Sto}{w:World}{b:Nat}(hb:S.mapo b=none) (m:MK) (e:S.mapo b=some m):w.heap.size≤b:=by
 rw[hb] at e;cases e
theorem aUf {t tv:TypeId}{i:TI}{x y:Operand}{id off:Nat}{cells rs:List R}{v:V}(hT:Tok P T) (ho:o.op=.store t x y) (hd:o.dst=none) (hi:T[t]?=some (some i)) (hx:opv st x=some (.one (.vp id off)))
  (hy:opv st y=some v) (hc:i6 v=some rs) (hh:st.h id=some (.var tv cells)) (hrs:rs.length=i.size) (hl:Nat.ble (off+i.size) cells.length=true):
  Step P n o st ⟨opr x++opr y,[id]⟩ ⟨none,[(id,some (.var tv (bU cells off rs)))]⟩:=by
 refine Step.turn hd hh (by simp) (by simp[AObj.succ]) fun st' ha I G S μ a w hs=>?_
 have J:=aM hs hx fun t ht=>ha.1 t (by simp[ht])
 have Y:=aM hs hy fun t ht=>ha.1 t (by simp[ht])
 simp only[aT,b6] at J;obtain⟨t',cells',b,c,h1,h2,h3⟩:=J;obtain⟨b',vs,g1,g2,g3,g4⟩:=hs.inv.obj id _ I;rw[g1] at h2;cases h2;have hlen:=Ap hl;have hvl:=g3.length;have q:=dW Y hc;have N:=q.length;have O:=run_store (hT.get hi) w b off vs (a.eval y).cells.toList tv (a.eval y) g2 rfl (by omega) (by omega) q.one;have W:=iY (S:=S) (μ:=μ) (o':=.var tv (bU cells off rs)) I g1 (by simp[AObj.succ]);have Z:=WChg.setRow w b ⟨vs⟩ ⟨vs.take off++(a.eval y).cells.toList++vs.drop (off+(a.eval y).cells.toList.length)⟩ tv (0,0) g2;refine⟨_,_,b,(0,0),?_,g1,Z,⟨b,_,aI _ _ _,Z.new,?_,g4⟩,(fun o v e=>by rw[g4.1] at e;cases e),fun m e=>iU g4.2 m e⟩
 ·simp only[execOp,ho,h3,Ad,O,κ,Ae]
 ·have h1:=aW.evolve W _ _ (g3.take off);have h2:=aW.evolve W _ _ q;have h3:=aW.evolve W _ _ (g3.drop (off+rs.length));rw[←N] at h3;have:=(h1.append h2).append h3;rw[show bU cells off rs=cells.take off++rs++cells.drop (off+(a.eval y).cells.toList.length) by rw[N];rfl] at this ⊢;exact this
theorem aC8 {α:Type}{es:Nat}:∀{l:List (List α)},(∀r∈l,r.length=es)→∀(k:Nat) (r:List α),l[k]?=some r→
  (l.take k).flatten=l.flatten.take (k*es)∧(l.drop (k+1)).flatten=l.flatten.drop (k*es+es)
 | [],_,k,r,h=>by simp at h
 | x::xs,hl,0,r,_=>by
  have hx:=hl x (by simp);simp only[Cb,List.flatten_nil,Nat.zero_mul,A6,Cu,Cc,Bf,true_and];rw[drop_append,hx,sub_self,Cc,drop_of_length_le (by omega),Bd]
 | x::xs,hl,k+1,r,h=>by
  have hx:=hl x (by simp);simp at h;obtain⟨h1,h2⟩:=aC8 (l:=xs) (fun r q=>hl r (by simp[q])) k r h;simp only[Ar,Bf,Cu];rw[h1,h2,List.take_append,drop_append,hx];have I:(k+1)*es-es=k*es:=by rw[Ay];omega
  have J:(k+1)*es+es-es=k*es+es:=by rw[Ay];omega
  rw[I,J,A3 (l:=x) (by rw[hx,Ay];omega),drop_of_length_le (l:=x) (by rw[hx,Ay];omega),Bd];exact⟨rfl,rfl⟩
theorem aHm {t te es:Nat}{i:TI}{x y:Operand}{id k fo sz:Nat}{elems:List (List C)}{v:V}{rs:List R}{cs r:List C}(hT:Tok P T) (ho:o.op=.store t x y) (hd:o.dst=none) (hi:T[t]?=some (some i)) (hx:opv st x=some (.one (.ep id k fo sz)))
  (hy:opv st y=some v) (hc:i6 v=some rs) (hp:j3 rs=some cs) (hh:st.h id=some (.arr te es elems 0)) (hsz:sz=elems.length) (hr:elems[k]?=some r) (hcs:cs.length=i.size) (hl:fo+i.size≤es):
  Step P n o st ⟨opr x++opr y,[id]⟩ ⟨none,[(id,some (.arr te es (elems.set k (bU r fo cs)) 0))]⟩:=by
 refine Step.turn hd hh (by simp) (by simp[AObj.succ]) fun st' ha N G S μ a w hs=>?_
 have hvx:=aM hs hx fun t ht=>ha.1 t (by simp[ht])
 have hvy:=aM hs hy fun t ht=>ha.1 t (by simp[ht])
 simp only[aT,b6] at hvx;obtain⟨_,hv | ⟨te',es',elems',fz',h1,h2,h3⟩⟩:=hvx
 ·rw[N] at hv;cases hv
 rw[N] at h1;cases h1;obtain⟨h4,b,base,cap,h5,h6⟩:=h3 hsz;obtain⟨g0,vs,g1,g2,g3,g4,g5,g6,g7⟩:=(hs.inv.obj id _ N).arr h5;have I:=dW hvy hc;rw[nQ hp] at I;have W:=I.pure;have hone:=I.one;have hnl:=W.length;have hk:k<elems.length:=(Aa.1 hr).1
 have hres:r.length=es:=g0 r (Ab hr);have hke:(k+1)*es≤elems.length*es:=Av _ hk;have hce:elems.length*es≤cap*es:=Av _ g3;rw[Ay] at hke;generalize hnews:(a.eval y).cells.toList=news at *;have hrun:=run_store (hT.get hi) w b (base+k*es+fo) vs news te (a.eval y) g1 hnews (by omega) (by omega) hone;have hE:=iY (S:=S) (μ:=μ) (o':=.arr te es (elems.set k (bU r fo cs)) 0) N h5 (by simp[AObj.succ]);have Y:=aSj g0 g5 hr;have O:=aC8 g0 k r hr;have hlen:(elems.set k (bU r fo cs)).length=elems.length:=by simp
 have hW:=WChg.setRow w b ⟨vs⟩ ⟨vs.take (base+k*es+fo)++news++vs.drop (base+k*es+fo+news.length)⟩ te (0,0) g1;refine⟨_,_,b,(base,cap),?_,h5,hW,⟨?_,.inr ⟨b,base,cap,_,aI _ _ _,hW.new,?_,by rw[hlen];exact g3,g4,?_,g6,by rw[hlen];exact g7.1,fun e=>by cases e⟩⟩,fun o v e=>?_,fun m e=>iU g4.2 m e⟩
 ·simp only[execOp,ho,h6,Ad,hrun,κ,Ae]
 ·intro q hq;rcases List.mem_or_eq_of_mem_set hq with hq | rfl
  ·exact g0 q hq
  ·unfold bU;simp;omega
 ·simp only[τ,Aq,Bz];omega
 ·rw[hlen];have e1:(elems.set k (bU r fo cs)).flatten=elems.flatten.take (k*es)++(r.take fo++cs++r.drop (fo+cs.length))++elems.flatten.drop (k*es+es):=by
   rw[Cd,ξ hk,flatten_append,Bf,O.1,O.2,←A0];rfl
  have e2:((vs.take (base+k*es+fo)++news++vs.drop (base+k*es+fo+news.length)).drop base).take (elems.length*es)=
    ((vs.drop base).take (elems.length*es)).take (k*es)++((((vs.drop (base+k*es)).take es).take fo)++news++(((vs.drop (base+k*es)).take es).drop (fo+cs.length)))++((vs.drop base).take (elems.length*es)).drop (k*es+es):=by
   apply Bw;intro j;simp only[At,An,B0,τ,Aq,Bz];have hm1:min (k*es) (min (elems.length*es) (vs.length-base))=k*es:=by omega
   have hm2:min (base+k*es+fo) vs.length=base+k*es+fo:=by omega
   have hm3:min fo es=fo:=by omega
   have hm4:min es (vs.length-(base+k*es))=es:=by omega
   simp only[hm1,hm2,hm3,hm4,hnl];by_cases c1:j<k*es
   ·have J:j<elems.length*es:=by omega
    have a2:base+j<base+k*es+fo:=by omega
    have a3:base+j<base+k*es+fo+cs.length:=by omega
    have a4:j<k*es+(fo+cs.length+(es-(fo+cs.length))):=by omega
    simp[c1,J,a2,a3,a4]
   ·by_cases c2:j<k*es+fo
    ·have J:j<elems.length*es:=by omega
     have a2:base+j<base+k*es+fo:=by omega
     have a3:base+j<base+k*es+fo+cs.length:=by omega
     have a4:j<k*es+(fo+cs.length+(es-(fo+cs.length))):=by omega
     have a5:j-k*es<fo+cs.length:=by omega
     have Z:j-k*es<fo:=by omega
     have a7:j-k*es<es:=by omega
     simp[c1,J,a2,a3,a4,a5,Z,a7,show base+k*es+(j-k*es)=base+j by omega]
    ·by_cases c3:j<k*es+fo+cs.length
     ·have J:j<elems.length*es:=by omega
      have a2:¬base+j<base+k*es+fo:=by omega
      have a3:base+j<base+k*es+fo+cs.length:=by omega
      have a4:j<k*es+(fo+cs.length+(es-(fo+cs.length))):=by omega
      have a5:j-k*es<fo+cs.length:=by omega
      have Z:¬j-k*es<fo:=by omega
      simp[c1,J,a2,a3,a4,a5,Z,show base+j-(base+k*es+fo)=j-k*es-fo by omega]
     ·by_cases c4:j<k*es+es
      ·have J:j<elems.length*es:=by omega
       have a3:¬base+j<base+k*es+fo+cs.length:=by omega
       have a4:j<k*es+(fo+cs.length+(es-(fo+cs.length))):=by omega
       have a5:¬j-k*es<fo+cs.length:=by omega
       have Z:fo+cs.length+(j-k*es-(fo+cs.length))<es:=by omega
       simp[c1,J,a3,a4,a5,Z,show base+k*es+fo+cs.length+(base+j-(base+k*es+fo+cs.length))=base+j by omega,show base+k*es+(fo+cs.length+(j-k*es-(fo+cs.length)))=base+j by omega]
      ·have a3:¬base+j<base+k*es+fo+cs.length:=by omega
       have a4:¬j<k*es+(fo+cs.length+(es-(fo+cs.length))):=by omega
       by_cases c5:j<elems.length*es
       ·have a5:k*es+es+(j-(k*es+(fo+cs.length+(es-(fo+cs.length)))))<elems.length*es:=by omega
        simp[a3,a4,c5,a5,show base+k*es+fo+cs.length+(base+j-(base+k*es+fo+cs.length))=base+j by omega,show base+(k*es+es+(j-(k*es+(fo+cs.length+(es-(fo+cs.length))))))=base+j by omega]
       ·have a5:¬k*es+es+(j-(k*es+(fo+cs.length+(es-(fo+cs.length)))))<elems.length*es:=by omega
        simp[a4,c5,a5]
  rw[e1];show cZ S _ (((vs.take (base+k*es+fo)++news++vs.drop (base+k*es+fo+news.length)).drop base).take (elems.length*es));rw[e2];exact((g5.take (k*es)).append (((Y.take fo).append W).append (Y.drop (fo+cs.length)))).append (g5.drop (k*es+es))
 ·--what stays is not touched
  by_cases hb:base≤o
  ·rw[g6 rfl o hb] at e;cases e
  ·obtain⟨vs0,t0,fr0,q1,q2⟩:=hs.inv.holds.1 b o v e;rw[g1] at q1;cases q1;refine⟨_,_,_,rfl,?_⟩;simp only[List.getElem?_toArray] at q2 ⊢;have hlt:o<vs.length:=(Aa.1 q2).1
   rw[A0,Ba (by simp;omega),At,ξ (by omega)];exact q2
theorem yI (b off k:Nat):(⟨b,off,none⟩:Addr).add k=⟨b,off+k,none⟩:=Addr.add_mid b off k
theorem iO {t I:TypeId}{i J:TI}{fs:List (Nat×TypeId)}{f q:Nat}(N:Tok P T) (hi:T[t]?=some (some i)) (hk:i.k=.st fs) (hf:fs[f]?=some (q,I)) (O:T[I]?=some (some J)) (W:J.size≠0) (w:World) (b off:Nat):
  (Instr.fieldAt t (.pointer (some ⟨b,off,none⟩)) f).run P w=.ok (.pointer (some ⟨b,off+q,none⟩)) w:=by
 obtain⟨fields,h1,h2⟩:=(N.get hi).struct hk;rw[h2] at hf;simp only[Bg,B5,Array.getElem?_toList] at hf;obtain⟨fl,h3,h4⟩:=hf;cases h4;simp only[Instr.fieldAt,Ad,Ao h1 w,κ,h3,Instr.sureAddr,Ae,fieldPlace,(N.get O).size_run w];simp[W,yI]
theorem aHr {t I:TypeId}{i J:TI}{fs:List (Nat×TypeId)}{f q:Nat}{x:Operand}{id off:Nat}(W:Tok P T) (ho:o.op=.fieldAddr t x f) (hd:o.dst=some d) (N:d<n) (hi:T[t]?=some (some i)) (hk:i.k=.st fs) (hf:fs[f]?=some (q,I)) (O:T[I]?=some (some J)) (Y:J.size≠0)
  (hx:opv st x=some (.one (.vp id off))):Step P n o st ⟨opr x,[]⟩ ⟨some (d,some (.one (.vp id (off+q)))),[]⟩:=by
 refine Step.value hd N fun st' ha G S μ a w hs=>?_
 have hv:=aM hs hx ha.1;simp only[aT,b6] at hv;obtain⟨t',cells',b,c,h1,h2,h3⟩:=hv;refine⟨.pointer (some ⟨b,off+q,none⟩),?_,?_⟩
 ·simp only[execOp,ho,h3,Ad,iO W hi hk hf O Y,κ,Ae]
 ·simp only[aT,b6];exact⟨t',cells',b,c,h1,h2,rfl⟩
theorem aHt {t I:TypeId}{i J:TI}{fs:List (Nat×TypeId)}{f q:Nat}{x:Operand}{l:List C}(Y:Tok P T) (ho:o.op=.fieldAddr t x f) (hd:o.dst=some d) (N:d<n) (hi:T[t]?=some (some i)) (hk:i.k=.st fs) (hf:fs[f]?=some (q,I)) (O:T[I]?=some (some J)) (Z:J.size≠0)
  (hx:opv st x=some (.one (.c (.pt l)))):Step P n o st ⟨opr x,[]⟩ ⟨some (d,some (.one (.c (.pt (l.drop q))))),[]⟩:=by
 refine Step.value hd N fun st' ha G S μ a w hs=>?_
 have hv:=aM hs hx ha.1;simp only[aT,b6,Rep] at hv;obtain⟨b,off,h1,vs,h2,h3⟩:=hv;refine⟨.pointer (some ⟨b,off+q,none⟩),?_,?_⟩
 ·simp only[execOp,ho,h1,Ad,iO Y hi hk hf O Z,κ,Ae]
 ·simp only[aT,b6,Rep];refine⟨b,off+q,rfl,vs.drop q,h2.drop q,fun j v W=>?_⟩;rw[An] at W;have:=h3 (q+j) v W;rwa [←Co] at this
theorem aHu {t J:TypeId}{i N:TI}{fs:List (Nat×TypeId)}{f q:Nat}{x:Operand}{id k fo sz:Nat}(Z:Tok P T) (ho:o.op=.fieldAddr t x f) (hd:o.dst=some d) (O:d<n) (hi:T[t]?=some (some i)) (hk:i.k=.st fs) (hf:fs[f]?=some (q,J)) (W:T[J]?=some (some N)) (hz:N.size≠0)
  {te es:Nat} {elems:List (List C)} {fz:Nat} (hx:opv st x=some (.one (.ep id k fo sz))) (hh:st.h id=some (.arr te es elems fz)) (Y:sz=elems.length):Step P n o st ⟨opr x,[id]⟩ ⟨some (d,some (.one (.ep id k (fo+q) sz))),[]⟩:=by
 refine Step.value hd O fun st' ha G S μ a w hs=>?_
 have hv:=aM hs hx ha.1;have I:st'.h id=some (.arr te es elems fz):=by rw[ha.2 id (by simp),hh]
 simp only[aT,b6] at hv;obtain⟨_,hv | ⟨te',es',elems',fz',h1,h2,h3⟩⟩:=hv
 ·rw[I] at hv;cases hv
 rw[I] at h1;cases h1;obtain⟨h4,b,base,cap,h5,h6⟩:=h3 Y;refine⟨.pointer (some ⟨b,base+k*es+fo+q,none⟩),?_,?_⟩
 ·simp only[execOp,ho,h6,Ad,iO Z hi hk hf W hz,κ,Ae]
 ·simp only[aT,b6];exact⟨⟨_,rfl⟩,.inr ⟨te,es,elems,fz,I,h2,fun _=>⟨h4,b,base,cap,h5,by rw[Co]⟩⟩⟩
theorem jW {t e:TypeId}{i ei:TI}(q:Tok P T) (hi:T[t]?=some (some i)) (hk:i.k=.sl e) (I:T[e]?=some (some ei)) (w:World) (b off len cap k:Nat) (kk:IntKind) (J:k<len):
  (Instr.indexAt t (.slice (some ⟨b,off,none⟩) len cap) (.int kk (k:Int))).run P w=.ok (.pointer (some ⟨b,off+k*ei.size,none⟩)) w:=by
 have h1:=(q.get hi).slice hk;simp only[Instr.indexAt,asIntOf,Ad,Ae,κ,Ao h1 w];rw[ξ ⟨by omega,by omega⟩];simp only[Ad,(q.get I).size_run w,κ,Ae,Int.toNat_natCast,yI]
theorem aUh {t e:TypeId}{i ei:TI}{x y:Operand}{es k:Nat}{kk:IntKind}{m:Int}{l:List (List C)}{r:List C}(hT:Tok P T) (ho:o.op=.indexAddr t x y) (hd:o.dst=some d) (J:d<n) (hi:T[t]?=some (some i)) (hk:i.k=.sl e) (N:T[e]?=some (some ei)) (O:ei.size=es)
  (hx:opv st x=some (.one (.c (.sl es l)))) (hy:opv st y=some (I kk m)) (hm:m=(k:Int)) (W:l[k]?=some r):Step P n o st ⟨opr x++opr y,[]⟩ ⟨some (d,some (.one (.c (.pt r)))),[]⟩:=by
 refine Step.value hd J fun st' ha G S μ a w hs=>?_
 have hv:=aM hs hx (eO ha).1;have Y:=eJ (aM hs hy (eO ha).2);have hlt:k<l.length:=(Aa.1 W).1
 simp only[aT,b6,Rep] at hv;obtain⟨q,len,cap,h1,h2,h3,h4,h5,h6,b,off,h7,h8⟩:=hv;cases q with
 | none=>have:=(h5 rfl).1;omega
 | some q=>
  obtain⟨h9,h10⟩:=h7 q rfl;have h11:=h6 q rfl (by omega);have Z:q=⟨b,off,none⟩:=by cases q;simp_all
  subst Z;subst hm;obtain⟨q1,vs,q2,q3⟩:=h8.get k r W;refine⟨.pointer (some ⟨b,off+k*es,none⟩),?_,?_⟩
  ·simp only[execOp,ho,h1,Y,Ad,jW hT hi hk N w b off len cap k kk (by omega),κ,Ae,O]
  ·simp only[aT,b6,Rep];exact⟨b,off+k*es,rfl,vs,q2,q3⟩
theorem uR {t e:TypeId}{i ei:TI}{x y:Operand}{te es k id off len sz:Nat}{kk:IntKind}{m:Int}{elems:List (List C)}{fz:Nat}(hT:Tok P T) (ho:o.op=.indexAddr t x y) (hd:o.dst=some d) (O:d<n) (hi:T[t]?=some (some i)) (hk:i.k=.sl e) (W:T[e]?=some (some ei)) (Y:ei.size=es)
  (hx:opv st x=some (.one (.hs id off len sz))) (hh:st.h id=some (.arr te es elems fz)) (J:sz=elems.length) (hy:opv st y=some (I kk m)) (hm:m=(k:Int)) (Z:k<len):Step P n o st ⟨opr x++opr y,[id]⟩ ⟨some (d,some (.one (.ep id (off+k) 0 sz))),[]⟩:=by
 refine Step.value hd O fun st' ha G S μ a w hs=>?_
 have hv:=aM hs hx fun t ht=>ha.1 t (by simp[ht])
 have aa:=eJ (aM hs hy fun t ht=>ha.1 t (by simp[ht]));have q:st'.h id=some (.arr te es elems fz):=by rw[ha.2 id (by simp),hh]
 simp only[aT,b6] at hv;obtain⟨_,hv | ⟨te',es',elems',fz',h1,h2,h3⟩⟩:=hv
 ·rw[q] at hv;cases hv
 rw[q] at h1;cases h1;obtain⟨h4,⟨h5,N,h7⟩ | ⟨b,base,cap,h5,N⟩⟩:=h3 J
 ·subst N;simp at J;omega
 subst hm;refine⟨.pointer (some ⟨b,base+(off+k)*es+0,none⟩),?_,?_⟩
 ·simp only[execOp,ho,N,aa,Ad,jW hT hi hk W w b (base+off*es) len _ k kk Z,κ,Ae,Y,By];rw[show base+off*es+k*es=base+(off+k)*es by rw[Ay];omega]
 ·simp only[aT,b6];exact⟨⟨_,rfl⟩,.inr ⟨te,es,elems,fz,q,h2,fun _=>⟨by omega,b,base,cap,h5,rfl⟩⟩⟩
theorem z8 {t e:TypeId}{m:Nat}{i ei:TI}(q:Tok P T) (hi:T[t]?=some (some i)) (hk:i.k=.ar m e) (I:T[e]?=some (some ei)) (w:World) (b off k:Nat) (kk:IntKind) (J:k<m):
  (Instr.indexAt t (.pointer (some ⟨b,off,none⟩)) (.int kk (k:Int))).run P w=.ok (.pointer (some ⟨b,off+k*ei.size,none⟩)) w:=by
 have h1:=(q.get hi).array hk;have h2:(Instr.sureAddr (.pointer (some ⟨b,off,none⟩))).run P w=.ok ⟨b,off,none⟩ w:=by simp[Instr.sureAddr]
 simp only[Instr.indexAt,asIntOf,Ad,Ae,κ,Ao h1 w,h2];rw[ξ ⟨by omega,by omega⟩];simp only[Ad,(q.get I).size_run w,κ,Ae,Int.toNat_natCast,yI]
theorem aCr {t e:TypeId}{i ei:TI}{x y:Operand}{id off k m:Nat}{kk:IntKind}{q:Int}(Y:Tok P T) (ho:o.op=.indexAddr t x y) (hd:o.dst=some d) (J:d<n) (hi:T[t]?=some (some i)) (hk:i.k=.ar m e) (N:T[e]?=some (some ei))
  (hx:opv st x=some (.one (.vp id off))) (Z:opv st y=some (I kk q)) (hm:q=(k:Int)) (O:k<m):Step P n o st ⟨opr x++opr y,[]⟩ ⟨some (d,some (.one (.vp id (off+k*ei.size)))),[]⟩:=by
 refine Step.value hd J fun st' ha G S μ a w hs=>?_
 have hv:=aM hs hx (eO ha).1;have W:=eJ (aM hs Z (eO ha).2);simp only[aT,b6] at hv;obtain⟨t',cells',b,c,h1,h2,h3⟩:=hv;subst hm;refine⟨.pointer (some ⟨b,off+k*ei.size,none⟩),?_,?_⟩
 ·simp only[execOp,ho,h3,W,Ad,z8 Y hi hk N w b off k kk O,κ,Ae]
 ·simp only[aT,b6];exact⟨t',cells',b,c,h1,h2,rfl⟩
def notNil:V→Bool
 | .one (.vp _ _)=>true
 | .one (.c (.pt _))=>true
 | .one (.pas _)=>true
 | _=>false
theorem aHn {x:Operand}{y:V}(ho:o.op=.nilCheck x) (hd:o.dst=some d) (I:d<n) (hx:opv st x=some y) (q:notNil y=true):Step P n o st ⟨opr x,[]⟩ ⟨some (d,some y),[]⟩:=by
 refine Step.value hd I fun st' ha G S μ a w hs=>⟨a.eval x,?_,aM hs hx ha.1⟩
 have hv:=aM hs hx ha.1;unfold notNil at q;split at q
 ·simp only[aT,b6] at hv;obtain⟨t',cells',b,c,h1,h2,h3⟩:=hv;simp[execOp,ho,h3]
 ·simp only[aT,b6,Rep] at hv;obtain⟨b,off,h1,_⟩:=hv;simp[execOp,ho,h1]
 ·simp only[aT,b6] at hv;obtain⟨b,off,h1,_⟩:=hv;simp[execOp,ho,h1]
 ·cases q
theorem jV {t:TypeId}{x:Operand}{a:Act}{w:World}{u:Value}{m:Int}(ho:o.op=.call { callee:=.builtin .len,args:= #[x],argTypes:= #[t] }) (hx:a.eval x=u) (q:(Builtin.len_ #[t] o.type #[u]).run P w=.ok (goInt m) w):
  (execOp a.eval o).run P w=.ok (.value (goInt m)) w:=by
 simp only[execOp,ho,resolve,map_toArray,Al,Bn,hx,Ad,Ae,κ,invoke,builtin,q]
theorem aPz {t e:TypeId}{i:TI}{x:Operand}{es:Nat}{l:List (List C)}(J:Tok P T) (ho:o.op=.call { callee:=.builtin .len,args:= #[x],argTypes:= #[t] }) (hd:o.dst=some d) (q:d<n) (hi:T[t]?=some (some i)) (hk:i.k=.sl e)
  (hx:opv st x=some (.one (.c (.sl es l)))):Step P n o st ⟨opr x,[]⟩ ⟨some (d,some (I .i64 (l.length:Int))),[]⟩:=by
 refine Step.value hd q fun st' ha G S μ a w hs=>?_
 have hv:=aM hs hx ha.1;simp only[aT,b6,Rep] at hv;obtain⟨N,len,cap,h1,h2,_⟩:=hv;refine⟨goInt l.length,jV ho h1 ?_,by simp[aT,b6,Rep,goInt]⟩;simp[Builtin.len_,Ao ((J.get hi).slice hk) w,h2]
theorem aP1 {t e:TypeId}{i:TI}{x:Operand}(J:Tok P T) (ho:o.op=.call { callee:=.builtin .len,args:= #[x],argTypes:= #[t] }) (hd:o.dst=some d) (q:d<n) (hi:T[t]?=some (some i)) (hk:i.k=.sl e)
  (hx:opv st x=some (.one (.c .nl))):Step P n o st ⟨opr x,[]⟩ ⟨some (d,some (I .i64 0)),[]⟩:=by
 refine Step.value hd q fun st' ha G S μ a w hs=>?_
 have hv:=aM hs hx ha.1;simp only[aT,b6,Rep] at hv;refine⟨goInt 0,jV ho hv ?_,by simp[aT,b6,Rep,goInt]⟩;simp[Builtin.len_,Ao ((J.get hi).slice hk) w]
theorem aFc {t e:TypeId}{i:TI}{x:Operand}{te es id off len sz:Nat}{elems:List (List C)}{fz:Nat}(O:Tok P T) (ho:o.op=.call { callee:=.builtin .len,args:= #[x],argTypes:= #[t] }) (hd:o.dst=some d) (W:d<n) (hi:T[t]?=some (some i)) (hk:i.k=.sl e)
  (hx:opv st x=some (.one (.hs id off len sz))) (hh:st.h id=some (.arr te es elems fz)) (q:sz=elems.length):Step P n o st ⟨opr x,[id]⟩ ⟨some (d,some (I .i64 (len:Int))),[]⟩:=by
 refine Step.value hd W fun st' ha G S μ a w hs=>?_
 have hv:=aM hs hx ha.1;have J:st'.h id=some (.arr te es elems fz):=by rw[ha.2 id (by simp),hh]
 simp only[aT,b6] at hv;obtain⟨_,hv | ⟨Z,aa,elems',ab,h1,h2,h3⟩⟩:=hv
 ·rw[J] at hv;cases hv
 rw[J] at h1;cases h1;obtain⟨h4,⟨h5,N,h7⟩ | ⟨b,base,cap,h5,N⟩⟩:=h3 q
 ·subst N;simp at q;have Y:len=0:=by omega
  refine⟨goInt len,jV ho h7 ?_,by simp[aT,b6,Rep,goInt]⟩;simp[Builtin.len_,Ao ((O.get hi).slice hk) w,Y]
 ·refine⟨goInt len,jV ho N ?_,by simp[aT,b6,Rep,goInt]⟩;simp[Builtin.len_,Ao ((O.get hi).slice hk) w]
theorem aKl {t:TypeId}{i:TI}{x:Operand}{s:List UInt8}(J:Tok P T) (ho:o.op=.call { callee:=.builtin .len,args:= #[x],argTypes:= #[t] }) (hd:o.dst=some d) (q:d<n) (hi:T[t]?=some (some i)) (hk:i.k=.str)
  (hx:opv st x=some (Go.AM.T s)):Step P n o st ⟨opr x,[]⟩ ⟨some (d,some (I .i64 (s.length:Int))),[]⟩:=by
 refine Step.value hd q fun st' ha G S μ a w hs=>?_
 have hv:=kY (aM hs hx ha.1);refine⟨goInt s.length,jV ho hv ?_,by simp[aT,b6,Rep,goInt]⟩;simp[Builtin.len_,Ao ((J.get hi).str hk) w];rfl
end
section
variable {P:Program}{n:Nat}{o:Oper}{st:St}{d:Nat}{T:TT}
theorem oE (off:Nat):∀(vs:List Value) (j:Nat) (cells:Array Value),off+j+vs.length≤cells.size→
  (vs.zipIdx j).foldl (fun cs (x:Value×Nat)=>cs.setIfInBounds (off+x.2) x.1) cells=⟨bU cells.toList (off+j) vs⟩
 | [],j,cells,_=>by simp[bU]
 | v::vs,j,cells,h=>by
  simp only[Ak] at h;have W:=oE off vs (j+1) (cells.setIfInBounds (off+j) v) (by simp;omega);simp only[List.zipIdx_cons,Cr,W];congr 1;unfold bU;simp only[Array.toList_setIfInBounds];apply Bw;intro k;simp only[B0,τ,Aq,Cn,A9,Ak,At,An,List.getElem?_set];have J:min (off+(j+1)) cells.size=off+j+1:=by omega
  have N:min (off+j) cells.size=off+j:=by omega
  simp only[J,N];by_cases c1:k<off+j
  ·have q:k<off+j+1+vs.length:=by omega
   have a2:k<off+j+1:=by omega
   have a3:k<off+(j+1):=by omega
   have a4:k<off+j+(vs.length+1):=by omega
   have a5:¬off+j=k:=by omega
   simp[c1,q,a2,a3,a4,a5]
  ·by_cases c2:k=off+j
   ·subst c2;have q:off+j<off+j+1+vs.length:=by omega
    have a5:off+j<cells.size:=by omega
    have I:off+j<off+(j+1):=by omega
    simp[q,a5,I]
   ·by_cases O:k<off+j+1+vs.length
    ·have a2:¬k<off+j+1:=by omega
     have a4:k<off+j+(vs.length+1):=by omega
     have I:k-(off+j)=(k-(off+j+1))+1:=by omega
     simp[c1,O,a2,a4,I]
    ·have a4:¬k<off+j+(vs.length+1):=by omega
     have a5:¬off+j=k:=by omega
     simp[O,a4,a5,show off+(j+1)+vs.length+(k-(off+j+1+vs.length))=k by omega,show off+j+(vs.length+1)+(k-(off+j+(vs.length+1)))=k by omega]
def qC (st:St):List (Nat×Operand)→Option (List (Nat×List R))
 | []=>some []
 | (i,x)::ps=>match opv st x with
  | some v=>match i6 v with
   | some rs=>match qC st ps with | some l=>some ((i,rs)::l) | none=>none
   | none=>none
  | none=>none
def gO:List (Nat×Operand)→List Nat
 | []=>[]
 | (_,x)::ps=>opr x++gO ps
def aH9 (places:List (Nat×Nat)):List R→List (Nat×List R)→Option (List R)
 | cells,[]=>some cells
 | cells,(i,rs)::ps=>match places[i]? with
  | some (off,size)=>if Nat.beq rs.length size&&Nat.ble (off+rs.length) cells.length then aH9 places (bU cells off rs) ps else none
  | none=>none
def kX (T:TT):List (Nat×TypeId)→Option (List (Nat×Nat))
 | []=>some []
 | (off,t)::fs=>match T[t]? with
  | some (some i)=>match kX T fs with | some l=>some ((off,i.size)::l) | none=>none
  | _=>none
theorem aHz {G:Ctx}{S:Sto}{μ:Mu}{st':St}{a:Act}{w:World}(hs:Sim G n S μ st' a w):∀(ps:List (Nat×Operand)) (l:List (Nat×List R)),qC st ps=some l→(∀t∈gO ps,st'.e t=st.e t)→
  ∃vs:List (Nat×Value),ps.map (fun(i,x)=>(i,a.eval x))=vs∧vs.length=l.length∧∀(k:Nat) (p:Nat×List R),l[k]?=some p→∃v:Value,vs[k]?=some (p.1,v)∧aW S μ st'.h p.2 v.cells.toList:=by
 intro ps
 induction ps with
 | nil=>intro l h _;simp[qC] at h;subst h;exact⟨[],rfl,rfl,fun k p h=>by simp at h⟩
 | cons p ps N=>
  obtain⟨i,x⟩:=p;intro l h ha;simp only[qC] at h;split at h
  ·rename_i v hv;split at h
   ·rename_i rs hc;split at h
    ·rename_i l' J;cases h;obtain⟨vs,h1,h2,h3⟩:=N l' J fun t ht=>ha t (by simp[gO,ht])
     refine⟨(i,a.eval x)::vs,by simp[h1],by simp[h2],fun k q I=>?_⟩;cases k with
     | zero=>
      simp at I;subst I;exact⟨a.eval x,rfl,dW (aM hs hv fun t ht=>ha t (by simp[gO,ht])) hc⟩
     | succ k=>simp at I;simpa using h3 k q I
    ·cases h
   ·cases h
  ·cases h
theorem p9 {S:Sto}{μ:Mu}{H:c7}{cells rs:List R}{vs us:List Value}{off:Nat}(h:aW S μ H cells vs) (k:aW S μ H rs us):aW S μ H (bU cells off rs) (bU vs off us):=by
 have hl:=k.length;unfold bU;rw[hl];exact((h.take off).append k).append (h.drop _)
theorem aMr {S:Sto}{μ:Mu}{H:c7}{places:List (Nat×Nat)}:∀(ps:List (Nat×List R)) (vs:List (Nat×Value)) (cells:List R) (cs:Array Value) (out:List R),aH9 places cells ps=some out→aW S μ H cells cs.toList→
  vs.length=ps.length→(∀(k:Nat) (p:Nat×List R),ps[k]?=some p→∃v:Value,vs[k]?=some (p.1,v)∧aW S μ H p.2 v.cells.toList)→
  ∃I,Instr.fill (places[·]?) cs vs=some I∧aW S μ H out I.toList:=by
 intro ps
 induction ps with
 | nil=>
  intro vs cells cs out h N hl _;simp at hl;subst hl;simp[aH9] at h;subst h;exact⟨cs,rfl,N⟩
 | cons p ps ih=>
  intro vs cells cs out h N hl hp;obtain⟨i,rs⟩:=p
  match vs,hl with
  | q::vs,hl=>
   obtain⟨v,hv,J⟩:=hp 0 (i,rs) rfl;simp at hv;subst hv;simp only[aH9] at h;split at h
   ·rename_i off size Y;split at h
    ·rename_i hc;simp only[Ac] at hc;have hc1:=ε hc.1;have hc2:=Ap hc.2;have Z:=J.length;have aa:=N.length;simp only[A9] at Z aa;have W:=oE off v.cells.toList 0 cs (by simp;omega);obtain⟨I,h1,h2⟩:=ih vs (bU cells off rs) ⟨bU cs.toList off v.cells.toList⟩ out h (p9 N J) (by simpa using hl) fun k p hk=>by simpa using hp (k+1) p (by simpa using hk)
     refine⟨I,?_,h2⟩;simp only[Instr.fill];rw[Y];simp only[];have O:(v.cells.size≠size || decide (off+v.cells.size>cs.size))=false:=by
      simp only[Bool.or_eq_false_iff,Cw];exact⟨by simp;omega,by omega⟩
     simp only[O,A1,Br];have ab:(v.cells.zipIdx.foldl (fun cs (x:Value×Nat)=>cs.setIfInBounds (off+x.2) x.1) cs)=⟨bU cs.toList off v.cells.toList⟩:=by
      rw[←Array.foldl_toList,Array.toList_zipIdx];simpa using W
     rw[←h1];congr 1
    ·cases h
   ·cases h
theorem uU (I:Tok P T):∀(fs:List (Nat×TypeId)) (fields:List Field) (places:List (Nat×Nat)),fs=fields.map (fun f=>(f.offset,f.type))→kX T fs=some places→
  fields.mapM (fun f=>(P.info? f.type).map fun i=>(f.offset,i.size))=some places
 | _,[],places,h,hp=>by simp at h;subst h;simp[kX] at hp;subst hp;rfl
 | _,f::fields,places,h,hp=>by
  simp only[Al] at h;subst h;simp only[kX] at hp;split at hp
  ·rename_i i hi;split at hp
   ·rename_i l hl;cases hp;have N:=uU I _ fields l rfl hl;have q:=(I.get hi).info;simp only[List.mapM_cons,N];cases J:P.info? f.type with
    | none=>simp[J] at q
    | some inf=>
     simp[J] at q;simp[q]
   ·cases hp
  ·cases hp
theorem aUm {t:TypeId}{i:TI}{fs:List (Nat×TypeId)}{places:List (Nat×Nat)}{parts:Array (Nat×Operand)}{ps:List (Nat×List R)}{out:List R}(I:Tok P T) (ho:o.op=.build t parts) (hd:o.dst=some d) (J:d<n) (hi:T[t]?=some (some i)) (hk:i.k=.st fs)
  (N:kX T fs=some places) (O:qC st parts.toList=some ps) (hf:aH9 places (i.zero.map R.c) ps=some out):Step P n o st ⟨gO parts.toList,[]⟩ ⟨some (d,some (aXa out)),[]⟩:=by
 refine Step.value hd J fun st' ha G S μ a w hs=>?_
 obtain⟨vs,h1,h2,h3⟩:=aHz hs _ _ O ha.1;obtain⟨fields,hu,W⟩:=(I.get hi).struct hk;obtain⟨inf,dd,z,g1,g2,g3,g4,g5,g6,g7,g8⟩:=(I.get hi).ex;obtain⟨q,h4,h5⟩:=aMr (S:=S) (μ:=μ) (H:=st'.h) ps vs (i.zero.map R.c) z.cells out hf (iM g7).toR h2 h3;refine⟨.agg q,?_,?_⟩
 ·have hb:P.built t (parts.map fun(i,x)=>(i,a.eval x)).toList=some q:=by
   unfold Program.built;simp only[g1,hu,g6,uU I fs fields.toList places W N];rw[←h4,←h1];simp
  simp only[execOp,ho,Ad,run_build w t _ q hb,κ,Ae]
 ·have:=aG8 h5;simpa using this
theorem aUi {t ft:TypeId}{i I:TI}{fs:List (Nat×TypeId)}{f J:Nat}{x:Operand}{v y:V}{rs:List R}(O:Tok P T) (ho:o.op=.field t x f) (hd:o.dst=some d) (hdn:d<n) (hi:T[t]?=some (some i)) (hk:i.k=.st fs) (hf:fs[f]?=some (J,ft)) (N:T[ft]?=some (some I))
  (hx:opv st x=some v) (hag:(match v with | .pa _=>true | .ma _=>true | _=>false)=true) (hc:i6 v=some rs) (hl:Nat.ble (J+I.size) rs.length=true) (hy:qS I ((rs.drop J).take I.size)=some y):Step P n o st ⟨opr x,[]⟩ ⟨some (d,some y),[]⟩:=by
 refine Step.value hd hdn fun st' ha G S μ a w hs=>?_
 have hv:=aM hs hx ha.1;have q:=dW hv hc;have Z:∃cs,a.eval x=.agg cs:=by
  cases v<;>simp only[aT] at hv<;>simp at hag
  ·obtain⟨vs,h,_⟩:=hv;exact⟨_,h⟩
  ·obtain⟨vs,h,_⟩:=hv;exact⟨_,h⟩
 obtain⟨cs,W⟩:=Z;rw[W] at q;simp only[Value.cells] at q;have hll:=q.length;have hl':=Ap hl;simp only[A9] at hll;obtain⟨fields,h1,h2⟩:=(O.get hi).struct hk;rw[h2] at hf;simp only[Bg,B5,Array.getElem?_toList] at hf;obtain⟨fl,h3,h4⟩:=hf;cases h4;have aa:=lD ((q.drop fl.offset).take I.size) hy;refine⟨_,?_,aa⟩;simp only[execOp,ho,W,Ad,Instr.field,Ao h1 w,κ,h3,asAgg,Ae,part,(O.get N).agg_run w];cases hka:I.k.agg with
 | true=>
  simp only[B3,Ad,(O.get N).size_run w,κ,Ae];congr 3;have:(cs.extract fl.offset (fl.offset+I.size)).toList=(cs.toList.drop fl.offset).take I.size:=by simp
  rw[←this]
 | false=>
  have h1s:=(O.get N).one hka;simp only[A1,Br];have Y:fl.offset<cs.size:=by omega
  have he:cs[fl.offset]?=some cs[fl.offset]:=by simp[Y]
  rw[he];simp only[Ae,κ];congr 2;rw[h1s,List.take_one,List.head?_drop];simp[Y]
end
inductive Cle:C→C→Prop
 | refl {x}:Cle x x
 | nl {es}:Cle .nl (.sl es [])
 | sn {es l}:Cle (.sn es l) (.sl es l)
 | sg {te es l}:Cle (.sg te es l) (.sl es l)
theorem Cle.rep {S:Sto}{x y:C}{v:Value}(h:Cle x y) (k:Rep S x v):Rep S y v:=by
 cases h with
 | refl=>exact k
 | sg=>
  simp only[Rep] at k ⊢;obtain⟨a,len,cap,h1,h2,h3,h4,h5⟩:=k;rcases h5 with⟨rfl,h5,q⟩ | ⟨b,o,rfl,q,_⟩
  ·refine⟨none,len,cap,h1,h2,h3,h4,fun _=>⟨h5,q⟩,by simp,0,0,by simp,?_⟩;have:(_:List (List C)).length=0:=h2.symm.trans h5;rw[A7 this];simp[bK]
  ·exact⟨some ⟨b,o,none⟩,len,cap,h1,h2,h3,h4,by simp,fun I e _=>by cases e;rfl,b,o,fun I e=>by cases e;exact⟨rfl,rfl⟩,q⟩
 | nl=>
  simp only[Rep] at k ⊢;exact⟨none,0,0,k,by simp,le_refl _,Aj _,fun _=>⟨rfl,rfl⟩,by simp,0,0,by simp,by simp[bK]⟩
 | sn=>
  simp only[Rep] at k ⊢;obtain⟨b,o,sp,len,cap,h1,h2,h3,h4,J,h5⟩:=k;exact⟨some ⟨b,o,sp⟩,len,cap,h1,h2,h3,h4,by simp,by rintro I ⟨⟩;exact J,b,o,by rintro I ⟨⟩;exact⟨rfl,rfl⟩,h5⟩
inductive PureL (h:c7):List Nat→List R→List C→Prop
 | nil:PureL h [] [] []
 | c {ids rs cs x y}:Cle x y→PureL h ids rs cs→PureL h ids (.c x::rs) (y::cs)
 | hs {ids rs cs id off len sz te es elems e}:h id=some (.arr te es elems 2)→sz=elems.length→e=(elems.drop off).take len→PureL h ids rs cs→PureL h (id::ids) (.hs id off len sz::rs) (.sl es e::cs)
 | any {ids rs cs r}:PureL h ids rs cs→PureL h ids (r::rs) (.any::cs)
 | fn {ids rs cs f}:PureL h ids rs cs→PureL h ids (.clo f []::rs) (.fn f::cs)
 | ras {ids ids' ids0 rs cs n es l fl rows}:ids0=ids'++ids→PureL h ids' l fl→fl=rows.flatten→(∀r∈rows,r.length=es)→rows.length=n→PureL h ids rs cs→PureL h ids0 (.ras n es l::rs) (.sl es rows::cs)
theorem PureL.of_pure {h:c7}:∀{cs:List C},PureL h [] (cs.map R.c) cs
 | []=>.nil
 | _::_=>.c .refl PureL.of_pure
def aYu:List R→List C
 | []=>[]
 | .c x::l=>x::aYu l
 | .clo f []::l=>.fn f::aYu l
 | _::l=>.any::aYu l
theorem PureL.ofA {h:c7}:∀{rs:List R},PureL h [] rs (aYu rs)
 | []=>.nil
 | .c _::_=>.c .refl .ofA
 | .hs ..::_=>.any .ofA
 | .tl ..::_=>.any .ofA
 | .vp ..::_=>.any .ofA
 | .ep ..::_=>.any .ofA
 | .mr ..::_=>.any .ofA
 | .clo _ []::_=>.fn .ofA
 | .clo _ (_::_)::_=>.any .ofA
 | .mth ..::_=>.any .ofA
 | .yl ..::_=>.any .ofA
 | .ra ..::_=>.any .ofA
 | .rp ..::_=>.any .ofA
 | .ras ..::_=>.any .ofA
 | .pas ..::_=>.any .ofA
theorem aZk {S:Sto}{μ:Mu}{H:c7}{w:World}{id off len sz te es:Nat}{elems:List (List C)}{v:Value}(J:lW S μ H w id (.arr te es elems 2)) (hh:H id=some (.arr te es elems 2)) (I:sz=elems.length)
  (hv:b6 S μ H (.hs id off len sz) v):Rep S (.sl es ((elems.drop off).take len)) v:=by
 simp only[b6] at hv;obtain⟨_,hv | ⟨O,W,elems',Y,h1,h2,h3⟩⟩:=hv
 ·rw[hh] at hv;cases hv
 rw[hh] at h1;cases h1;obtain⟨h4,⟨h5,q,h7⟩ | ⟨b,base,cap,h5,q⟩⟩:=h3 I
 ·subst q;simp only[Rep];exact⟨none,0,0,h7,by simp,le_refl _,Aj _,fun _=>⟨rfl,rfl⟩,by simp,0,0,by simp,by simp[bK]⟩
 ·obtain⟨g0,vs,g1,g2,g3,g4,g5,g6,g7,g8⟩:=J.arr h5;simp only[Rep];have hlen:((elems.drop off).take len).length=len:=by simp;omega
  refine⟨_,len,cap-off,q,hlen.symm,by omega,le_trans (Nat.sub_le _ _) g4.1,by simp,by rintro N ⟨⟩;exact fun _=>rfl,b,base+off*es,by rintro N ⟨⟩;exact⟨rfl,rfl⟩,?_⟩;have:=bK.of_flat g0 g5 (g8 rfl);exact(this.drop off).take len
theorem PureL.rel {S:Sto}{μ:Mu}{H H0:c7}{w:World}:∀{ids:List Nat}{rs:List R}{cs:List C}{vs:List Value},PureL H0 ids rs cs→(∀i∈ids,H i=H0 i)→(∀id o,H id=some o→lW S μ H w id o)→aW S μ H rs vs→cZ S cs vs:=by
 intro ids rs cs vs hp
 induction hp generalizing vs with
 | nil=>intro _ _ h;simp only[aW] at h;subst h;simp[cZ]
 | c hc _ I=>
  intro hi q h;simp only[aW] at h;obtain⟨v,vs',rfl,h1,h2⟩:=h;simp only[b6] at h1;simp only[cZ];exact⟨v,vs',rfl,hc.rep h1,I hi q h2⟩
 | @ras ids ids' ids0 rs cs n es l fl rows J _ N O hn _ W I=>
  subst J;intro hi q h;simp only[aW] at h;obtain⟨v,vs',rfl,h1,h2⟩:=h;simp only[b6] at h1;simp only[cZ];refine⟨v,vs',rfl,?_,I (fun i hh=>hi i (by simp[hh])) q h2⟩;obtain⟨a,cap,g1,g2,g3,g4,g5,g6,b,o,g7,us,g8,g9⟩:=h1;have g10:=W (fun i hh=>hi i (by simp[hh])) q g8;subst N;simp only[Rep];exact⟨a,n,cap,g1,hn.symm,g3,g4,g5,fun ad e _=>g6 ad e,b,o,g7,bK.of_flat O g10 g9⟩
 | any _ I=>
  intro hi q h;simp only[aW] at h;obtain⟨v,vs',rfl,h1,h2⟩:=h;simp only[cZ];exact⟨v,vs',rfl,by simp only[Rep];exact h1.one,I hi q h2⟩
 | fn _ I=>
  intro hi q h;simp only[aW] at h;obtain⟨v,vs',rfl,h1,h2⟩:=h;simp only[b6,aW] at h1;obtain⟨us,rfl,rfl⟩:=h1;simp only[cZ];exact⟨_,vs',rfl,by simp only[Rep],I hi q h2⟩
 | @hs ids rs cs id off len sz te es elems e he Y Z _ I=>
  intro hi q h;simp only[aW] at h;obtain⟨v,vs',rfl,h1,h2⟩:=h;simp only[cZ];have hh:H id=some (.arr te es elems 2):=by rw[hi id (by simp),he]
  exact⟨v,vs',rfl,by rw[Z];exact aZk (q id _ hh) hh Y h1,I (fun i h=>hi i (by simp[h])) q h2⟩
inductive RowsV (st:St) (es:Nat):Nat→List Nat→List (Nat×Operand)→List (List C)→Prop
 | nil {k}:RowsV st es k [] [] []
 | cons {k ids ids' x ps v rs cs rows}:opv st x=some v→i6 v=some rs→PureL st.h ids rs cs→Nat.beq rs.length es=true→RowsV st es (k+1) ids' ps rows→RowsV st es k (ids++ids') ((k,x)::ps) (cs::rows)
section
variable {P:Program}{n:Nat}{o:Oper}{st:St}{d:Nat}{T:TT}
theorem aHi {G:Ctx}{S:Sto}{μ:Mu}{st':St}{a:Act}{w:World}(hs:Sim G n S μ st' a w) {es:Nat}:∀{k:Nat}{ids:List Nat}{ps:List (Nat×Operand)}{rows:List (List C)},RowsV st es k ids ps rows→(∀t∈gO ps,st'.e t=st.e t)→(∀i∈ids,st'.h i=st.h i)→
  ∀(cells:Array Value),cells.size=(k+ps.length)*es→∃out:Array Value,Instr.fill (fun i=>some (i*es,es)) cells (ps.map fun(i,x)=>(i,a.eval x))=some out∧out.size=cells.size∧
   ∃us,cZ S rows.flatten us∧out.toList=cells.toList.take (k*es)++us∧(∀r∈rows,r.length=es):=by
 intro k ids ps rows h
 induction h with
 | nil=>
  intro _ _ cells hc;refine⟨cells,rfl,rfl,[],by simp[cZ],?_,by simp⟩;rw[A8,A3];simp at hc;simp[hc]
 | @cons k ids ids' x ps v rs cs rows hv hc hp hl _ ih=>
  intro ha hi cells N;have hl':=ε hl;have q:=dW (aM hs hv fun t ht=>ha t (by simp[gO,ht])) hc;have I:=hp.rel (fun i h=>hi i (by simp[h])) hs.inv.obj q;have Z:=q.length;simp only[A9] at Z;simp only[Ak] at N;have hke:(k+(ps.length+1))*es=k*es+es+ps.length*es:=by
   rw[Ay,Ay];omega
  have W:=oE (k*es) (a.eval x).cells.toList 0 cells (by simp only[A9];omega);have O:(bU cells.toList (k*es) (a.eval x).cells.toList).length=cells.size:=by
   unfold bU;simp;omega
  obtain⟨out,h1,h2,us,h3,h4,h5⟩:=ih (fun t ht=>ha t (by simp[gO,ht])) (fun i h=>hi i (by simp[h])) ⟨bU cells.toList (k*es) (a.eval x).cells.toList⟩ (by
   simp only[size_toArray,O,N];congr 1
   omega)
  refine⟨out,?_,by rw[h2];simpa using O,(a.eval x).cells.toList++us,?_,?_,?_⟩
  ·simp only[Al,Instr.fill];have J:((a.eval x).cells.size≠es || decide (k*es+(a.eval x).cells.size>cells.size))=false:=by
    simp only[Bool.or_eq_false_iff,Cw];exact⟨by simp;omega,by omega⟩
   simp only[J,A1,Br];have aa:((a.eval x).cells.zipIdx.foldl (fun cs (x:Value×Nat)=>cs.setIfInBounds (k*es+x.2) x.1) cells)=⟨bU cells.toList (k*es) (a.eval x).cells.toList⟩:=by
    rw[←Array.foldl_toList,Array.toList_zipIdx];simpa using W
   rw[←h1];congr 1
  ·rw[Bf];exact I.append h3
  ·rw[h4];have:(bU cells.toList (k*es) (a.eval x).cells.toList).take ((k+1)*es)=cells.toList.take (k*es)++(a.eval x).cells.toList:=by
    unfold bU;apply take_left';simp;rw[Ay];omega
   show(bU cells.toList (k*es) (a.eval x).cells.toList).take ((k+1)*es)++us=_;rw[this,A0]
  ·intro r Y;rcases Ai.1 Y with rfl | Y
   ·have:=I.length;simp only[A9] at this;omega
   ·exact h5 r Y
theorem RowsV.lengths {es k:Nat}{ids:List Nat}{ps:List (Nat×Operand)}{rows:List (List C)}(h:RowsV st es k ids ps rows):rows.length=ps.length:=by
 induction h with
 | nil=>rfl
 | cons _ _ _ _ _ q=>simp[q]
theorem aKe {t e:TypeId}{i ei:TI}{len:Nat}{parts:Array (Nat×Operand)}{ids:List Nat}{rows:List (List C)}(id:Nat) (J:Tok P T) (ho:o.op=.buildSlice t len parts) (hd:o.dst=some d) (ac:d<n) (hi:T[t]?=some (some i)) (hk:i.k=.sl e) (q:T[e]?=some (some ei))
  (I:RowsV st ei.size 0 ids parts.toList rows) (hlen:Nat.beq len parts.size=true) (N:Nat.ble (len*ei.size) 16777216=true) (aa:Nat.ble len 16777216=true) (hid:st.h id=none):
  Step P n o st ⟨gO parts.toList,id::ids⟩ ⟨some (d,some (.one (.hs id 0 len len))),[(id,some (.arr e ei.size rows 0))]⟩:=by
 refine Step.new hd ac hid (by simp) fun st' ha ah G S μ a w hs=>?_
 have Y:=ε hlen;have hsm:=Ap N;obtain⟨z,hz,ad,_⟩:=(J.get q).zero_run;have Z:=(ad S).length;rw[(J.get q).len] at Z;simp only[A9] at Z;have ae:=I.lengths;simp only[A9] at ae;have key:∀(cells:Array Value),cells.size=len*ei.size→∃out:Array Value,Instr.fill (fun i=>some (i*ei.size,ei.size)) cells (parts.map fun(i,x)=>(i,a.eval x)).toList=some out∧out.size=len*ei.size∧cZ S rows.flatten out.toList∧(∀r∈rows,r.length=ei.size):=by
  intro cells hc;obtain⟨out,h1,h2,us,h3,h4,h5⟩:=aHi hs I ha.1 (fun i h=>ha.2 i (by simp[h])) cells (by rw[hc,Y];simp);refine⟨out,by rw[←h1];simp,by rw[h2,hc],?_,h5⟩;simp at h4;rw[h4];exact h3
 have ab:∃out:Array Value,(Instr.buildSlice t len (parts.map fun(i,x)=>(i,a.eval x))).run P w=.ok (.slice (some ⟨w.heap.size,0,none⟩) len len) (w.alloc (.cells out e))∧out.size=len*ei.size∧cZ S rows.flatten out.toList∧(∀r∈rows,r.length=ei.size):=by
  by_cases h0:len*ei.size=0
  ·obtain⟨out,h1,h2,h3,h4⟩:=key ((Array.range (len*ei.size)).map ((#[]:Array Value)[· %(#[]:Array Value).size]!)) (by simp);refine⟨out,?_,h2,h3,h4⟩;have O:¬len*ei.size>2^24:=by omega
   simp only[Instr.buildSlice,Ad,Ao ((J.get hi).slice hk) w,κ,(J.get q).size_run w];rw[φ O,ξ h0];simp only[Ad,κ,Ae,h1,iK]
  ·obtain⟨out,h1,h2,h3,h4⟩:=key ((Array.range (len*ei.size)).map (z.cells[· %z.cells.size]!)) (by simp);refine⟨out,?_,h2,h3,h4⟩;have O:¬len*ei.size>2^24:=by omega
   simp only[Instr.buildSlice,Ad,Ao ((J.get hi).slice hk) w,κ,(J.get q).size_run w];rw[φ O,φ h0];simp only[Ad,hz w,κ,Ae,h1,iK]
 obtain⟨out,h1,h2,h3,h4⟩:=ab;have ag:len≤maxLen:=by
  have:=Ap aa;unfold maxLen;omega
 refine⟨_,_,.slice (some ⟨w.heap.size,0,none⟩) len len,(0,len),?_,WChg.alloc w (.cells out e),?_,?_⟩
 ·simp only[execOp,ho,Ad,h1,κ,Ae]
 ·have W:rows.length=len:=by omega
  refine⟨h4,.inr ⟨w.heap.size,0,len,out.toList,aI _ _ _,B4 w _,by simp[h2],by omega,⟨?_,qD hs.inv⟩,?_,fun _ o _=>fO hs.inv o,fun o _=>fO hs.inv o,fun e=>by cases e⟩⟩
  ·exact ag
  ·simp only[Cc];rw[A3 (by simp[h2,W])];exact h3
 ·simp only[aT,b6];have W:rows.length=len:=by omega
  exact⟨⟨_,_,_,rfl⟩,.inr ⟨e,ei.size,rows,0,aI _ _ _,by omega,fun _=>⟨by omega,.inr ⟨w.heap.size,0,len,aI _ _ _,by simp⟩⟩⟩⟩
end
inductive Src (st:St) (es:Nat):List Nat→V→List (List C)→Prop
 | hs {id off len sz te elems fz rows}:st.h id=some (.arr te es elems fz)→sz=elems.length→rows=(elems.drop off).take len→Src st es [id] (.one (.hs id off len sz)) rows
 | all {id sz te elems fz}:st.h id=some (.arr te es elems fz)→sz=elems.length→Src st es [id] (.one (.hs id 0 sz sz)) elems
 | sl {l}:Src st es [] (.one (.c (.sl es l))) l
 | nl:Src st es [] (.one (.c .nl)) []
 | sn {l}:Src st es [] (.one (.c (.sn es l))) l
theorem aAi {α:Type}{es:Nat}:∀{l:List (List α)},(∀r∈l,r.length=es)→∀k:Nat,(l.take k).flatten=l.flatten.take (k*es)
 | [],_,k=>by simp
 | x::xs,hl,0=>by simp
 | x::xs,hl,k+1=>by
  have hx:=hl x (by simp);have q:=aAi (l:=xs) (fun r I=>hl r (by simp[I])) k;rw[Ar,Bf,Bf,q,List.take_append,A3 (l:=x) (by rw[hx,Ay];omega)];rw[show(k+1)*es-x.length=k*es by rw[hx,Ay];omega]
theorem aAj {α:Type}{es:Nat}:∀{l:List (List α)},(∀r∈l,r.length=es)→∀k:Nat,(l.drop k).flatten=l.flatten.drop (k*es)
 | [],_,k=>by simp
 | x::xs,hl,0=>by simp
 | x::xs,hl,k+1=>by
  have hx:=hl x (by simp);have q:=aAj (l:=xs) (fun r I=>hl r (by simp[I])) k;rw[Cu,Bf,q,drop_append,drop_of_length_le (l:=x) (by rw[hx,Ay];omega),Bd];rw[show(k+1)*es-x.length=k*es by rw[hx,Ay];omega]
theorem bK.flat {S:Sto}{es b:Nat}:∀{l:List (List C)}{o:Nat},bK S es b l o→∃vs,cZ S l.flatten vs∧fR S b o vs∧∀r∈l,r.length=es
 | [],_,_=>⟨[],by simp[cZ],fun i v h=>by simp at h,by simp⟩
 | r::rs,o,h=>by
  simp only[bK] at h;obtain⟨h1,⟨vs,h2,h3⟩,h4⟩:=h;obtain⟨us,h5,J,h7⟩:=bK.flat h4;have hl:=h2.length;refine⟨vs++us,by rw[Bf];exact h2.append h5,fun i v hi=>?_,?_⟩
  ·rw[B0] at hi;split at hi
   ·exact h3 i v hi
   ·have:=J _ v hi;rwa [show o+es+(i-vs.length)=o+i by omega] at this
  ·intro q I;rcases Ai.1 I with rfl | I
   ·exact h1
   ·exact h7 q I
theorem Src.rel {G:Ctx}{n:Nat}{S:Sto}{μ:Mu}{st st':St}{a:Act}{w:World}{es:Nat}{ids:List Nat}{y:V}{rows:List (List C)}{v:Value}(hs:Sim G n S μ st' a w) (h:Src st es ids y rows) (hi:∀i∈ids,st'.h i=st.h i) (hv:aT S μ st'.h y v):
  ∃I c news,v=.slice I rows.length c∧cZ S rows.flatten news∧(∀r∈rows,r.length=es)∧(I=none→rows=[])∧∀x,I=some x→∀j u,news[j]?=some u→w.cell? (x.add j)=some u:=by
 have W:∀{id off len sz te elems fz rows},st.h id=some (.arr te es elems fz)→sz=elems.length→rows=(elems.drop off).take len→(∀i∈[id],st'.h i=st.h i)→aT S μ st'.h (.one (.hs id off len sz)) v→
   ∃I c news,v=.slice I rows.length c∧cZ S rows.flatten news∧(∀r∈rows,r.length=es)∧(I=none→rows=[])∧∀x,I=some x→∀j u,news[j]?=some u→w.cell? (x.add j)=some u:=by
  intro id off len sz te elems fz rows he O J hi hv;have hh:st'.h id=some (.arr te es elems fz):=by rw[hi id (by simp),he]
  simp only[aT,b6] at hv;obtain⟨_,hv | ⟨te',es',elems',fz',h1,h2,h3⟩⟩:=hv
  ·rw[hh] at hv;cases hv
  rw[hh] at h1;cases h1;obtain⟨h4,⟨h5,Y,h7⟩ | ⟨b,base,cap,h5,Y⟩⟩:=h3 O
  ·subst Y;simp at J;subst J;exact⟨none,0,[],h7,by simp[cZ],by simp,fun _=>rfl,by simp⟩
  ·obtain⟨g0,vs,g1,g2,g3,g4,g5,g6,g7,g8⟩:=(hs.inv.obj id _ hh).arr h5;have hrl:rows.length=len:=by rw[J];simp;omega
   have hfl:rows.flatten=(elems.flatten.drop (off*es)).take (len*es):=by
    rw[J,aAi (fun r J=>g0 r (C1 J)),aAj g0]
   refine⟨_,cap-off,_,by rw[hrl];exact Y,by rw[hfl];exact(g5.drop (off*es)).take (len*es),fun r hr'=>g0 r (C1 (Bx (J▸hr'))),by simp,?_⟩;rintro x ⟨⟩ j u q;rw[Addr.add_mid,cell_of_row w b _ ⟨vs⟩ te (0,0) g1];rw[At] at q;split at q
   ·rw[An,At] at q;split at q
    ·rw[An] at q;simpa [Co] using q
    ·cases q
   ·cases q
 cases h with
 | hs he O J=>exact W he O J hi hv
 | all he O=>
  subst O;exact W he rfl (by simp) hi hv
 | sl=>
  simp only[aT,b6,Rep] at hv;obtain⟨I,len,cap,h1,h2,h3,h4,h5,Y,b,off,h7,h8⟩:=hv;obtain⟨vs,N,q2,q3⟩:=bK.flat h8;refine⟨I,cap,vs,by rw[h1,h2],N,q3,fun e=>A7 (by rw[←h2];exact(h5 e).1),?_⟩;rintro x rfl j u q;obtain⟨h9,h10⟩:=h7 x rfl
  have aa:=Y x rfl (by
   rintro rfl;have Z:=A7 (show _=0 from Nat.le_zero.1 (h2▸h3));rw[Z] at N;simp[cZ] at N;subst N
   simp at q)
  have hx:x=⟨b,off,none⟩:=by cases x;simp_all
  subst hx;rw[Addr.add_mid];exact hs.inv.holds.cell (q2 j u q)
 | nl=>
  simp only[aT,b6,Rep] at hv;exact⟨none,0,[],hv,by simp[cZ],by simp,fun _=>rfl,by simp⟩
 | sn=>
  simp only[aT,b6,Rep] at hv;obtain⟨b,off,sp,len,cap,h1,h2,h3,h4,hsp,h8⟩:=hv;obtain⟨vs,N,q2,q3⟩:=bK.flat h8;refine⟨some ⟨b,off,sp⟩,cap,vs,by rw[h1,h2],N,q3,by simp,?_⟩;rintro x ⟨⟩ j u q
  have aa:=hsp (by
   rintro rfl;have Z:=A7 (show _=0 from Nat.le_zero.1 (h2▸h3));rw[Z] at N;simp[cZ] at N;subst N
   simp at q)
  subst aa;rw[Addr.add_mid];exact hs.inv.holds.cell (q2 j u q)
section
variable {P:Program}{n:Nat}{o:Oper}{st:St}{d:Nat}{T:TT}
theorem kH (w:World) (t ty e:TypeId) (i:TypeInfo) (ht:P.underlying t=some (.slice e)) (hi:P.info? e=some i)
  (g base q I:Nat) (cur:Array Value) (Y:w.heap[g]?=some (.cells cur e (0,0)))
  (a:Addr) (m c:Nat) (news:List Value) (hl:news.length=m*i.size) (J:∀j u,news[j]?=some u→w.cell? (a.add j)=some u) (h1:∀u∈news,u.oneCell'=true)
  (N:q+m≤I) (W:base+q*i.size+news.length≤cur.size):
  (Builtin.append_ #[t,t] ty #[.slice (some ⟨g,base,none⟩) q I,.slice (some a) m c]).run P w=
   .ok (.slice (some ⟨g,base,none⟩) (q+m) I) (w.setRow g (cur.toList.take (base+q*i.size)++news++cur.toList.drop (base+q*i.size+news.length)).toArray):=by
 have hf:=run_firstCells_some (P:=P) w i.size m a m c news hl J;have O:=run_storeCells_at P g (base+q*i.size) e news 0 cur w Y (by simpa using W) h1;simp only[By] at O;simp[Builtin.append_,Ao ht,sizeOf,typeInfo,hi,Builtin.lenOf,N,hf,Addr.add_mid,O]
theorem kT (w:World) (t ty e:TypeId) (i:TypeInfo) (ht:P.underlying t=some (.slice e)) (hi:P.info? e=some i) (s:Option Addr) (N:Option Addr) (q I c:Nat) (J:q≤I):
  (Builtin.append_ #[t,t] ty #[.slice s q I,.slice N 0 c]).run P w=.ok (.slice s q I) w:=by
 cases s<;>cases N<;>simp[Builtin.append_,Ao ht,sizeOf,typeInfo,hi,Builtin.lenOf,J,Builtin.firstCells,loadCells,loadCellsFrom,storeCells]
theorem fT {x y:Operand}{t:TypeId}{a:Act}{w w':World}{u v r:Value}(ho:o.op=.call { callee:=.builtin .append,args:= #[x,y],argTypes:= #[t,t] }) (hx:a.eval x=u) (q:a.eval y=v) (I:(Builtin.append_ #[t,t] o.type #[u,v]).run P w=.ok r w'):
  (execOp a.eval o).run P w=.ok (.value r) w':=by
 simp only[execOp,ho,resolve,map_toArray,Al,Bn,hx,q,Ad,Ae,κ,invoke,builtin,I]
theorem aMd {y:V}{id te es fz:Nat}{elems elems':List (List C)}(hd:o.dst=some d) (aa:d<n) (hlen:elems.length≤elems'.length) (I:Nat) {st':St}{G:Ctx}{S:Sto}{μ:Mu}{a:Act}{w:World}{K:Act→World→Prop}{Q:Exit→Act→World→Prop}
    (N:st'.h id=some (.arr te es elems fz)) (hs:Sim G n S μ st' a w) (hk:∀S' μ' a' w',Sim G n S' μ' (Eff.apply ⟨some (d,some y),[(id,some (.arr te es elems' I))]⟩ st') a' w'→K a' w')
    (h:∃w' v,(execOp a.eval o).run P w=.ok (.value v) w'∧
      ((w'=w∧elems'=elems∧(I=fz∨I=1)∧aT S μ st'.h y v)∨
       (elems.length<elems'.length∧∃b bo c,(w.heap.size≤b∨∃c',μ id=some (b,c'))∧WChg w w' b bo∧lW S (upd μ id (some (b,c))) (upd st'.h id (some (.arr te es elems' I))) w' id (.arr te es elems' I)∧
         (∀o v,S.cell b o=some v→∃vs t fr,bo=.cells vs t fr∧vs[o]?=some v)∧(∀m,S.mapo b=some m→w.heap.size≤b)∧aT S (upd μ id (some (b,c))) (upd st'.h id (some (.arr te es elems' I))) y v))):
    ∀ro,o.wpIn (Wd ro) 0 P a w K Q:=by
  obtain⟨w',v,hr,Y⟩:=h;refine fun ro=>iG hr ?_
  rw[hd];rcases Y with⟨rfl,rfl,hfz,hv⟩ | ⟨hlt,b,bo,c,hb,hw,Z,hS,hSm,hv⟩
  · have O:Evolve S μ st'.h S μ (upd st'.h id (some (.arr te es elems' I))):=⟨S.le_refl,fun j x J=>by
      by_cases q:j=id
      · subst q
        rw[N] at J;cases J;exact⟨_,aI _ _ _,by simp[AObj.succ]⟩
      · exact⟨x,by rw[aS _ _ _ q];exact J,x.succ_refl rfl⟩⟩
    have hi:Inv G S μ (upd st'.h id (some (.arr te es elems' I))) w':=by
      obtain⟨h1,h2,h3,h4,h5,h6,h7,h8,h9⟩:=hs.inv;have hold:∀j x,upd st'.h id (some (.arr te es elems' I)) j=some x→∃x',st'.h j=some x':=fun j x J=>by
        by_cases q:j=id
        · subst q;exact⟨_,N⟩
        · rw[aS _ _ _ q] at J;exact⟨_,J⟩
      refine⟨h1,fun j x J=>?_,fun i j x x' b c c' hi J hm hm'=>?_,fun i x b c hi hm=>?_,h5,h6,h7,h8.trans O,h9⟩
      · by_cases q:j=id
        · subst q
          rw[aI] at J;cases J;have Z:=(h2 j _ N).evolve O rfl fun _ _ _=>⟨rfl,fun _=>rfl,rfl⟩
          rcases hfz with rfl | rfl
          · exact Z
          · obtain⟨g0,g1 | ⟨b,base,cap,vs,g1,g2,g3,g4,g5,g6,g7,g8,g9⟩⟩:=Z
            · exact⟨g0,.inl g1⟩
            · exact⟨g0,.inr ⟨b,base,cap,vs,g1,g2,g3,g4,g5,g6,(fun e=>by cases e),g8,(fun e=>by cases e)⟩⟩
        · rw[aS _ _ _ q] at J
          exact(h2 j x J).evolve O rfl fun _ _ _=>⟨rfl,fun _=>rfl,rfl⟩
      · obtain⟨_,W⟩:=hold _ _ hi
        obtain⟨_,hj'⟩:=hold _ _ J;exact h3 i j _ _ b c c' W hj' hm hm'
      · obtain⟨_,W⟩:=hold _ _ hi
        exact h4 i _ b c W hm
    have:=hs.put hi O aa (x:=some y) (v:=v) (fun z hz=>by cases hz;exact aT.evolve O _ _ hv);refine hk S μ _ _ ?_;unfold Eff.apply;rw[dE];exact this
  · have O:Evolve S μ st'.h S (upd μ id (some (b,c))) (upd st'.h id (some (.arr te es elems' I))):=⟨S.le_refl,fun j x J=>by
      by_cases q:j=id
      · subst q
        rw[N] at J;cases J;exact⟨_,aI _ _ _,by simp only[AObj.succ,true_and];exact⟨hlen,fun e=>by omega⟩⟩
      · exact⟨x,by rw[aS _ _ _ q];exact J,x.succ_refl (aS _ _ _ q)⟩⟩
    have hi:=hs.inv.chg (id:=id) (cap:=c) (ao:=.arr te es elems' I) hw (hb.imp (fun h=>h) fun⟨c',h⟩=>⟨_,c',N,h⟩) O Z hS hSm;have:=hs.put hi O aa (x:=some y) (v:=v) (fun z hz=>by cases hz;exact hv);refine hk S (upd μ id (some (b,c))) _ _ ?_;unfold Eff.apply;rw[dE];exact this
theorem Step.grow {rd:Rd}{y:V}{id te es fz:Nat}{elems elems':List (List C)}(hd:o.dst=some d) (J:d<n) (hid:st.h id=some (.arr te es elems fz)) (N:id∈rd.h) (hlen:elems.length≤elems'.length) (q:Nat)
    (h:∀st',mN rd st st'→st'.h id=some (.arr te es elems fz)→∀G S μ a w,Sim G n S μ st' a w→∃w' v,(execOp a.eval o).run P w=.ok (.value v) w'∧
      ((w'=w∧elems'=elems∧(q=fz∨q=1)∧aT S μ st'.h y v)∨
       (elems.length<elems'.length∧∃b O c,(w.heap.size≤b∨∃c',μ id=some (b,c'))∧WChg w w' b O∧lW S (upd μ id (some (b,c))) (upd st'.h id (some (.arr te es elems' q))) w' id (.arr te es elems' q)∧
         (∀o v,S.cell b o=some v→∃vs t fr,O=.cells vs t fr∧vs[o]?=some v)∧(∀m,S.mapo b=some m→w.heap.size≤b)∧aT S (upd μ id (some (b,c))) (upd st'.h id (some (.arr te es elems' q))) y v))):
    Step P n o st rd ⟨some (d,some y),[(id,some (.arr te es elems' q))]⟩:=by
  intro st' ha G S μ a w K Q hs hk;have I:st'.h id=some (.arr te es elems fz):=by rw[ha.2 id N,hid]
  exact aMd hd J hlen q I hs hk (h st' ha I G S μ a w hs)
theorem aBb {t e:TypeId}{i ei:TI}{x y:Operand}{id sz fz:Nat}{elems rows:List (List C)}{vy:V}{ids:List Nat}{st':St}{G:Ctx}{S:Sto}{μ:Mu}{a:Act}{w:World}(hT:Tok P T) (ho:o.op=.call { callee:=.builtin .append,args:= #[x,y],argTypes:= #[t,t] })
    (hi:T[t]?=some (some i)) (hk:i.k=.sl e) (hei:T[e]?=some (some ei)) (hes:Nat.ble 1 ei.size=true) (heb:Nat.ble 1 ei.bytes=true)
    (hsz:sz=elems.length) (hroom:(elems.length+rows.length)*ei.bytes≤140737488355328) (W:st'.h id=some (.arr e ei.size elems fz)) (hs:Sim G n S μ st' a w)
    (hvx:aT S μ st'.h (.one (.hs id 0 sz sz)) (a.eval x)) (hvy:aT S μ st'.h vy (a.eval y)) (hsrc:Src st ei.size ids vy rows) (hsi:∀i∈ids,st'.h i=st.h i):
    ∃w' v,(execOp a.eval o).run P w=.ok (.value v) w'∧
      ((w'=w∧elems++rows=elems∧((if fz=0 then 0 else 1)=fz∨(if fz=0 then 0 else 1)=1)∧aT S μ st'.h (.one (.hs id 0 (elems.length+rows.length) (elems.length+rows.length))) v)∨
       (elems.length<(elems++rows).length∧∃b bo c,(w.heap.size≤b∨∃c',μ id=some (b,c'))∧WChg w w' b bo∧lW S (upd μ id (some (b,c))) (upd st'.h id (some (.arr e ei.size (elems++rows) (if fz=0 then 0 else 1)))) w' id (.arr e ei.size (elems++rows) (if fz=0 then 0 else 1))∧
         (∀o v,S.cell b o=some v→∃vs t fr,bo=.cells vs t fr∧vs[o]?=some v)∧(∀m,S.mapo b=some m→w.heap.size≤b)∧aT S (upd μ id (some (b,c))) (upd st'.h id (some (.arr e ei.size (elems++rows) (if fz=0 then 0 else 1)))) (.one (.hs id 0 (elems.length+rows.length) (elems.length+rows.length))) v)):=by
  subst hsz;have hes':=Ap hes;have heb':=Ap heb;obtain⟨ad,c,news,J,I,hrl,hnone,hcell⟩:=hsrc.rel hs hsi hvy;have N:news.length=rows.length*ei.size:=by rw[I.length,iV hrl]
  obtain⟨inf,dd,z,g1,g2,g3,g4,g5,g6,g7,g8⟩:=(hT.get hei).ex;have hu:=(hT.get hi).slice hk;have hzs:z.cells.size=ei.size:=by
    have h1:=(iM (S:=S) g7).length;rw[(hT.get hei).len] at h1;simpa using h1
  simp only[aT,b6] at hvx;obtain⟨_,hv | ⟨te',es',elems',fz',h1,h2,h3⟩⟩:=hvx
  · rw[W] at hv;cases hv
  rw[W] at h1;cases h1;obtain⟨h4,hcase⟩:=h3 rfl;have hbig:elems.length+rows.length≤140737488355328:=by
    have:(elems.length+rows.length)*1≤(elems.length+rows.length)*ei.bytes:=C2 _ heb';omega
  have hone:∀u∈news,u.oneCell'=true:=(I.toR (μ:=μ) (H:=st'.h)).one;have hcap:∀old,elems.length+rows.length≤grownCap w (elems.length+rows.length) old e∧grownCap w (elems.length+rows.length) old e≤maxLen:=fun old=>
    ⟨grownCap_ge _ _ _ _,grownCap_le_maxLen _ _ _ _ (by unfold maxLen;omega)⟩
  have O:∀(Y:List Value) (old:Nat),cZ S elems.flatten Y→0<rows.length→∀g0:(∀r∈elems,r.length=ei.size),
      lW S (upd μ id (some (w.heap.size,0,grownCap w (elems.length+rows.length) old e))) (upd st'.h id (some (.arr e ei.size (elems++rows) (if fz=0 then 0 else 1))))
        (w.drew.alloc (.cells (Y.toArray++news.toArray++Builtin.zeroCells z.cells (grownCap w (elems.length+rows.length) old e-(elems.length+rows.length))) e)) id (.arr e ei.size (elems++rows) (if fz=0 then 0 else 1)):=by
    intro Y old hol hpos g0;obtain⟨hc1,hc2⟩:=hcap old;have Z:=hol.length;rw[iV g0] at Z;refine⟨?_,.inr ⟨w.heap.size,0,grownCap w (elems.length+rows.length) old e,(Y.toArray++news.toArray++Builtin.zeroCells z.cells (grownCap w (elems.length+rows.length) old e-(elems.length+rows.length))).toList,aI _ _ _,B4 w.drew _,?_,by simpa using hc1,⟨hc2,qD hs.inv⟩,?_,fun _ o _=>fO hs.inv o,fun o _=>fO hs.inv o,fun e=>by split at e<;>cases e⟩⟩
    · intro r q
      rcases δ.1 q with q | q
      · exact g0 r q
      · exact hrl r q
    · simp only[Ct,τ,A9,size_zeroCells,hzs]
      simp only[Z,N,A6,←Ay];exact Av _ (by omega)
    · simp only[Ct,Cc,τ,flatten_append]
      rw[Cs (by simp[Z,N,Ay]),A3 (by simp[Z,N,Ay])];exact hol.append I
  have aa:(elems++rows).length=elems.length+rows.length:=by simp
  by_cases hm:rows.length=0
  · --nothing is appended
    have hr0:rows=[]:=A7 hm;have hfzz:(if fz=0 then 0 else 1)=fz∨(if fz=0 then 0 else 1)=1:=by
      by_cases h:fz=0
      · left;rw[ξ h,h]
      · right;rw[φ h]
    rcases hcase with⟨h5,h6,h7⟩ | ⟨b,base,cap,h5,h6⟩
    · refine⟨w,.slice none 0 0,fT ho h7 J (by rw[hm];exact kT w t o.type e inf hu g1 none ad 0 0 c (le_refl _)),.inl ⟨rfl,by rw[hr0,A8],hfzz,?_⟩⟩
      simp only[aT,b6];exact⟨⟨_,_,_,rfl⟩,.inr ⟨e,ei.size,elems,fz,W,by omega,fun _=>⟨by omega,.inl ⟨h5,h6,(by first | rfl | trivial)⟩⟩⟩⟩
    · obtain⟨q0,vs,q1,q2,q3,q4,q5,q6,q7,q8⟩:=(hs.inv.obj id _ W).arr h5
      refine⟨w,_,fT ho h6 J (by rw[hm];exact kT w t o.type e inf hu g1 _ ad elems.length _ c (by omega)),.inl ⟨rfl,by rw[hr0,A8],hfzz,?_⟩⟩;simp only[aT,b6];exact⟨⟨_,_,_,rfl⟩,.inr ⟨e,ei.size,elems,fz,W,by omega,fun _=>⟨by omega,.inr ⟨b,base,cap,h5,by rw[hm,By]⟩⟩⟩⟩
  · cases ad with
    | none=>exact absurd (by rw[hnone rfl];rfl) hm
    | some ad=>
      have hc:=hcell ad rfl;rcases hcase with⟨h5,h6,h7⟩ | ⟨b,base,cap,h5,h6⟩
      · --the first elements
        subst h6;simp only[length_nil,A6] at hroom hbig O hcap;have q:=run_append_nil (P:=P) w t o.type e inf z hu g1 g6 ad rows.length c news (by rw[N,g3]) hc (by omega) (by omega) (by rw[g4];omega);refine⟨_,_,fT ho h7 J q,.inr ⟨by simp;omega,w.heap.size,_,(0,grownCap w rows.length 0 e),.inl (le_refl _),WChg.alloc_drew w _,?_,(fun o v e=>by rw[fO hs.inv] at e;cases e),fun m e=>le_refl _,?_⟩⟩
        · have:=O [] 0 (by simp[cZ]) (by omega) (by simp)
          simpa using this
        · simp only[aT,b6]
          exact⟨⟨_,_,_,rfl⟩,.inr ⟨e,ei.size,_,_,aI _ _ _,by simp,fun _=>⟨by simp,.inr ⟨w.heap.size,0,_,aI _ _ _,by simp⟩⟩⟩⟩
      · obtain⟨q0,vs,q1,q2,q3,q4,q5,q6,q7,q8⟩:=(hs.inv.obj id _ W).arr h5
        have hce:elems.length*ei.size≤cap*ei.size:=Av _ q3;simp only[sub_zero,Nat.zero_mul,By] at h6;by_cases hroom':elems.length+rows.length≤cap
        · --there is room
          have hce2:(elems.length+rows.length)*ei.size≤cap*ei.size:=Av _ hroom';rw[Ay] at hce2;have q:=kH (P:=P) w t o.type e inf hu g1 b base elems.length cap ⟨vs⟩ q1 ad rows.length c news (by rw[N,g3]) hc hone hroom' (by rw[g3,N];simp only[size_toArray];omega);rw[g3] at q;have hW:=WChg.setRow w b ⟨vs⟩ ⟨vs.take (base+elems.length*ei.size)++news++vs.drop (base+elems.length*ei.size+news.length)⟩ e (0,0) q1;refine⟨_,_,fT ho h6 J q,.inr ⟨by simp;omega,b,_,(base,cap),.inr ⟨_,h5⟩,hW,⟨?_,.inr ⟨b,base,cap,_,aI _ _ _,hW.new,?_,by rw[aa];omega,q4,?_,?_,?_,fun e=>by split at e<;>cases e⟩⟩,?_,fun m e=>iU q4.2 m e,?_⟩⟩
          · intro r q
            rcases δ.1 q with q | q
            · exact q0 r q
            · exact hrl r q
          · simp only[τ,Aq,Bz]
            omega
          · rw[aa,flatten_append]
            have e1:((vs.take (base+elems.length*ei.size)++news++vs.drop (base+elems.length*ei.size+news.length)).drop base).take ((elems.length+rows.length)*ei.size)=(vs.drop base).take (elems.length*ei.size)++news:=by
              rw[A0,List.drop_append_of_le_length (by simp;omega),←A0,Cs (by simp[Ay];omega)];rw[A3 (by simp[Ay];omega),drop_take];rw[show base+elems.length*ei.size-base=elems.length*ei.size by omega]
            rw[e1];exact q5.append I
          · intro e o ho
            exact q6 (Classical.byContradiction fun hne=>by rw[φ hne] at e;cases e) o ho
          · intro o ho
            rw[aa,Ay] at ho;exact q7 o (by omega)
          · intro o v e
            by_cases hlt:o<base+elems.length*ei.size
            · obtain⟨vs0,t0,fr0,p1,p2⟩:=hs.inv.holds.1 b o v e
              rw[q1] at p1;cases p1;refine⟨_,_,_,rfl,?_⟩;simp only[List.getElem?_toArray] at p2 ⊢;rw[A0,Ba (by simp;omega),At,ξ (by omega)];exact p2
            · rw[q7 o (by omega)] at e;cases e
          · simp only[aT,b6]
            exact⟨⟨_,_,_,rfl⟩,.inr ⟨e,ei.size,_,_,aI _ _ _,by simp,fun _=>⟨by simp,.inr ⟨b,base,cap,aI _ _ _,by simp⟩⟩⟩⟩
        · --into a new block
          have q:=run_append_grow (P:=P) w t o.type e inf z hu g1 g6 ⟨b,base,none⟩ elems.length cap ((vs.drop base).take (elems.length*ei.size)) (by rw[g3];simp;omega) (by
              intro j v hj;rw[Addr.add_mid,cell_of_row w b _ ⟨vs⟩ e (0,0) q1];rw[At] at hj;split at hj
              · rw[An] at hj
                simpa using hj
              · cases hj) ad rows.length c news (by rw[N,g3]) hc (by omega) (by omega) (by rw[g4];exact growslice_fits (by omega) hroom)
          have hq5:cZ S elems.flatten ((vs.drop base).take (elems.length*ei.size)):=q5;refine⟨_,_,fT ho h6 J q,.inr ⟨by simp;omega,w.heap.size,_,(0,grownCap w (elems.length+rows.length) cap e),.inl (le_refl _),WChg.alloc_drew w _,?_,(fun o v e=>by rw[fO hs.inv] at e;cases e),fun m e=>le_refl _,?_⟩⟩
          · have:=O _ cap hq5 (by omega) q0
            simpa using this
          · simp only[aT,b6]
            exact⟨⟨_,_,_,rfl⟩,.inr ⟨e,ei.size,_,_,aI _ _ _,by simp,fun _=>⟨by simp,.inr ⟨w.heap.size,0,_,aI _ _ _,by simp⟩⟩⟩⟩
theorem aFd {t e:TypeId}{i ei:TI}{x y:Operand}{id sz fz:Nat}{elems rows:List (List C)}{J:V}{ids:List Nat}(hT:Tok P T) (ho:o.op=.call { callee:=.builtin .append,args:= #[x,y],argTypes:= #[t,t] }) (hd:o.dst=some d) (N:d<n)
  (hi:T[t]?=some (some i)) (hk:i.k=.sl e) (O:T[e]?=some (some ei)) (W:Nat.ble 1 ei.size=true) (Y:Nat.ble 1 ei.bytes=true)
  (hx:opv st x=some (.one (.hs id 0 sz sz))) (hh:st.h id=some (.arr e ei.size elems fz)) (Z:sz=elems.length) (hy:opv st y=some J) (I:Src st ei.size ids J rows)
  (q:(elems.length+rows.length)*ei.bytes≤140737488355328):
  Step P n o st ⟨opr x++opr y,id::ids⟩ ⟨some (d,some (.one (.hs id 0 (elems.length+rows.length) (elems.length+rows.length)))),[(id,some (.arr e ei.size (elems++rows) (if fz=0 then 0 else 1)))]⟩:=by
 refine Step.grow hd N hh (by simp) (by simp) _ fun st' ha aa G S μ a w hs=>?_
 have ab:=aM hs hx fun t ht=>ha.1 t (by simp[ht])
 have ac:=aM hs hy fun t ht=>ha.1 t (by simp[ht])
 exact aBb hT ho hi hk O W Y Z q aa hs ab ac I fun i h=>ha.2 i (by simp[h])
end
mutual
def R.ren (σ:Nat→Nat):R→R
 | .c x=>.c x
 | .hs id off len sz=>.hs (σ id) off len sz
 | .tl id off len sz=>.tl (σ id) off len sz
 | .vp id off=>.vp (σ id) off
 | .ep id i fo sz=>.ep (σ id) i fo sz
 | .mr id=>.mr (σ id)
 | .clo f caps=>.clo f (R.renL σ caps)
 | .mth f x=>.mth f (x.ren σ)
 | .yl id=>.yl (σ id)
 | .ra id off len sz=>.ra (σ id) off len sz
 | .rp id i fo sz=>.rp (σ id) i fo sz
 | .ras n es l=>.ras n es (R.renL σ l)
 | .pas l=>.pas (R.renL σ l)
def R.renL (σ:Nat→Nat):List R→List R
 | []=>[]
 | r::rs=>r.ren σ::R.renL σ rs
end
mutual
def V.ren (σ:Nat→Nat):V→V
 | .one r=>.one (r.ren σ)
 | .pa l=>.pa l
 | .ma l=>.ma (R.renL σ l)
 | .tup l=>.tup (V.renL σ l)
def V.renL (σ:Nat→Nat):List V→List V
 | []=>[]
 | r::rs=>r.ren σ::V.renL σ rs
end
mutual
def R.refs:R→List Nat
 | .c _=>[]
 | .hs id _ _ _=>[id]
 | .tl id _ _ _=>[id]
 | .vp id _=>[id]
 | .ep id _ _ _=>[id]
 | .mr id=>[id]
 | .clo _ caps=>R.refsL caps
 | .mth _ x=>x.refs
 | .yl id=>[id]
 | .ra id _ _ _=>[id]
 | .rp id _ _ _=>[id]
 | .ras _ _ l=>R.refsL l
 | .pas l=>R.refsL l
def R.refsL:List R→List Nat
 | []=>[]
 | r::rs=>r.refs++R.refsL rs
end
mutual
def V.refs:V→List Nat
 | .one r=>r.refs
 | .pa _=>[]
 | .ma l=>R.refsL l
 | .tup l=>V.refsL l
def V.refsL:List V→List Nat
 | []=>[]
 | r::rs=>r.refs++V.refsL rs
end
def kL:List (Nat×V)→List Nat
 | []=>[]
 | (_,v)::l=>v.refs++kL l
def bY:List (List R)→List Nat
 | []=>[]
 | r::l=>R.refsL r++bY l
def aIr (σ:Nat→Nat):List (Nat×V)→List (Nat×V)
 | []=>[]
 | (t,v)::l=>(t,v.ren σ)::aIr σ l
def mM (σ:Nat→Nat):List (List R)→List (List R)
 | []=>[]
 | r::l=>R.renL σ r::mM σ l
theorem nN:∀{l:List (Nat×V)}{t:Nat}{v:V},(t,v)∈l→∀i∈v.refs,i∈kL l
 | (k,u)::l,t,v,h,i,hi=>by
  simp only[kL,δ];rcases Ai.1 h with h | h
  ·cases h;exact .inl hi
  ·exact .inr (nN h i hi)
theorem aFb {σ:Nat→Nat}:∀{l:List (Nat×V)}{t:Nat}{v:V},(t,v)∈l→(t,v.ren σ)∈aIr σ l
 | (k,u)::l,t,v,h=>by
  simp only[aIr];rcases Ai.1 h with h | h
  ·cases h;simp
  ·exact ω _ (aFb h)
theorem R.renL_length {σ:Nat→Nat}:∀{l:List R},(R.renL σ l).length=l.length
 | []=>rfl
 | _::l=>by simp[R.renL,R.renL_length (l:=l)]
theorem eV {σ:Nat→Nat}:∀{l:List (List R)},(mM σ l).length=l.length
 | []=>rfl
 | _::l=>by simp[mM,eV (l:=l)]
theorem R.renL_append {σ:Nat→Nat}:∀{l m:List R},R.renL σ (l++m)=R.renL σ l++R.renL σ m
 | [],_=>rfl
 | _::l,m=>by simp[R.renL,R.renL_append (l:=l)]
theorem R.refsL_append:∀{l m:List R},R.refsL (l++m)=R.refsL l++R.refsL m
 | [],_=>rfl
 | _::l,m=>by simp[R.refsL,R.refsL_append (l:=l)]
theorem zH {σ:Nat→Nat}:∀{l:List (List R)},(mM σ l).flatten=R.renL σ l.flatten
 | []=>rfl
 | _::l=>by simp[mM,zH (l:=l),R.renL_append]
theorem uO:∀{l:List (List R)},R.refsL l.flatten=bY l
 | []=>rfl
 | _::l=>by simp[bY,uO (l:=l),R.refsL_append]
theorem kW {σ:Nat→Nat}{es:Nat}:∀{l:List (List R)},(∀r∈mM σ l,r.length=es)→∀r∈l,r.length=es
 | [],_,r,h=>by simp at h
 | x::l,k,r,h=>by
  rcases Ai.1 h with rfl | h
  ·rw[←R.renL_length (σ:=σ)];exact k _ (by simp[mM])
  ·exact kW (σ:=σ) (l:=l) (fun r q=>k r (by simp[mM,q])) r h
def AObj.refs:AObj→List Nat
 | .var _ cells=>R.refsL cells
 | .lp _ _ _ e=>kL e
 | .rarr _ _ elems=>bY elems
 | .tok r _=>r.refs
 | _=>[]
inductive Ole (σ:Nat→Nat):AObj→AObj→Prop
 | var {t cells cells'}:cells=R.renL σ cells'→Ole σ (.var t cells) (.var t cells')
 | arr {te es elems fz}:Ole σ (.arr te es elems fz) (.arr te es elems fz)
 | arr1 {te es elems fz}:Ole σ (.arr te es elems fz) (.arr te es elems 1)
 | map {agg ents}:Ole σ (.map agg ents) (.map agg ents)
 | dead:Ole σ .dead .dead
 | lp {st j i e e'}:e=aIr σ e'→Ole σ (.lp st j i e) (.lp st j i e')
 | dfr:Ole σ .dfr .dfr
 | rarr {te es elems elems'}:elems=mM σ elems'→Ole σ (.rarr te es elems) (.rarr te es elems')
 | tok {r r' k}:r=r'.ren σ→Ole σ (.tok r k) (.tok r' k)
theorem Ole.succ {σ:Nat→Nat}{o o':AObj}(h:Ole σ o o'):o.succ True o':=by
 cases h
 case rarr e=>subst e;simp[AObj.succ,eV]
 all_goals simp[AObj.succ]
section
variable {S:Sto}{μ:Mu}{H H':c7}{σ:Nat→Nat}
def Good (H H':c7) (σ:Nat→Nat) (id:Nat):Prop:=∃o o',H (σ id)=some o∧H' id=some o'∧Ole σ o o'
mutual
theorem b6.ren:∀(r:R) (v:Value),(∀id∈r.refs,Good H H' σ id)→b6 S μ H (r.ren σ) v→b6 S (fun i=>μ (σ i)) H' r v
 | .c x,v,_,k=>by simpa only[b6,R.ren] using k
 | .hs id off len sz,v,h,k=>by
  obtain⟨o,o',h1,h2,h3⟩:=h id (by simp[R.refs]);simp only[b6,R.ren] at k ⊢;refine⟨k.1,?_⟩;rcases k.2 with k | ⟨te,es,elems,fz,g1,g2,g3⟩
  ·rw[h1] at k;cases k;cases h3;exact .inl h2
  ·rw[h1] at g1;cases g1;cases h3
   ·exact .inr ⟨te,es,elems,_,h2,g2,g3⟩
   ·exact .inr ⟨te,es,elems,_,h2,g2,g3⟩
 | .tl id off len sz,v,h,k=>by
  obtain⟨o,o',h1,h2,h3⟩:=h id (by simp[R.refs]);simp only[b6,R.ren] at k ⊢;refine⟨k.1,?_⟩;rcases k.2 with k | ⟨te,es,elems,fz,g1,g2,g3⟩
  ·rw[h1] at k;cases k;cases h3;exact .inl h2
  ·rw[h1] at g1;cases g1;cases h3
   ·exact .inr ⟨te,es,elems,_,h2,g2,g3⟩
   ·exact .inr ⟨te,es,elems,_,h2,g2,g3⟩
 | .vp id off,v,h,k=>by
  obtain⟨o,o',h1,h2,h3⟩:=h id (by simp[R.refs]);simp only[b6,R.ren] at k ⊢;obtain⟨t,cells,b,c,g1,g2,g3⟩:=k;rw[h1] at g1;cases g1;cases h3;exact⟨_,_,b,c,h2,g2,g3⟩
 | .ep id i fo sz,v,h,k=>by
  obtain⟨o,o',h1,h2,h3⟩:=h id (by simp[R.refs]);simp only[b6,R.ren] at k ⊢;refine⟨k.1,?_⟩;rcases k.2 with k | ⟨te,es,elems,fz,g1,g2,g3⟩
  ·rw[h1] at k;cases k;cases h3;exact .inl h2
  ·rw[h1] at g1;cases g1;cases h3
   ·exact .inr ⟨te,es,elems,_,h2,g2,g3⟩
   ·exact .inr ⟨te,es,elems,_,h2,g2,g3⟩
 | .mr id,v,h,k=>by
  obtain⟨o,o',h1,h2,h3⟩:=h id (by simp[R.refs]);simp only[b6,R.ren] at k ⊢;obtain⟨agg,ents,b,c,g1,g2,g3⟩:=k;rw[h1] at g1;cases g1;cases h3;exact⟨_,_,b,c,h2,g2,g3⟩
 | .clo f caps,v,h,k=>by
  simp only[b6,R.ren] at k ⊢;obtain⟨vs,g1,g2⟩:=k;exact⟨vs,g1,aW.ren caps vs (by simpa only[R.refs] using h) g2⟩
 | .mth f x,v,h,k=>by
  simp only[b6,R.ren] at k ⊢;obtain⟨u,g1,g2⟩:=k;exact⟨u,g1,b6.ren x u (by simpa only[R.refs] using h) g2⟩
 | .rp id i fo sz,v,h,k=>by
  obtain⟨o,o',h1,h2,h3⟩:=h id (by simp[R.refs]);simp only[b6,R.ren] at k ⊢;refine⟨k.1,?_⟩;rcases k.2 with k | ⟨te,es,elems,g1,g2,g3⟩
  ·rw[h1] at k;cases k;cases h3;exact .inl h2
  ·rw[h1] at g1;cases g1;cases h3;rename_i elems' e;subst e;rw[eV] at g2 g3;exact .inr ⟨te,es,elems',h2,g2,g3⟩
 | .yl id,v,h,k=>by
  obtain⟨o,o',h1,h2,h3⟩:=h id (by simp[R.refs]);simp only[b6,R.ren] at k ⊢;obtain⟨st,j,i,e,b,c,g1,g2,g3⟩:=k;rw[h1] at g1;cases g1;cases h3;exact⟨_,_,_,_,b,c,h2,g2,g3⟩
 | .ra id off len sz,v,h,k=>by
  obtain⟨o,o',h1,h2,h3⟩:=h id (by simp[R.refs]);simp only[b6,R.ren] at k ⊢;refine⟨k.1,?_⟩;rcases k.2 with k | ⟨te,es,elems,g1,g2,g3⟩
  ·rw[h1] at k;cases k;cases h3;exact .inl h2
  ·rw[h1] at g1;cases g1;cases h3;rename_i elems' e;subst e;rw[eV] at g2 g3;refine .inr ⟨te,es,elems',h2,g2,fun e=>?_⟩;obtain⟨N,q⟩:=g3 e;refine⟨N,?_⟩;rcases q with⟨q,O,W⟩ | q
   ·exact .inl ⟨q,A7 (by rw[←eV (σ:=σ),O];rfl),W⟩
   ·exact .inr q
 | .ras n es l,v,h,k=>by
  simp only[b6,R.ren] at k ⊢;obtain⟨a,cap,h1,h2,h3,h4,h5,Y,b,o,h7,vs,I,J⟩:=k;exact⟨a,cap,h1,by rw[h2,R.renL_length],h3,h4,h5,Y,b,o,h7,vs,aW.ren l vs (by simpa only[R.refs] using h) I,J⟩
 | .pas l,v,h,k=>by
  simp only[b6,R.ren] at k ⊢;obtain⟨b,o,h1,vs,I,J⟩:=k;exact⟨b,o,h1,vs,aW.ren l vs (by simpa only[R.refs] using h) I,J⟩
theorem aW.ren:∀(r:List R) (v:List Value),(∀id∈R.refsL r,Good H H' σ id)→aW S μ H (R.renL σ r) v→aW S (fun i=>μ (σ i)) H' r v
 | [],_,_,k=>by simpa only[aW,R.renL] using k
 | r::rs,vs,h,k=>by
  simp only[aW,R.renL] at k ⊢;obtain⟨v,vs',h1,h2,h3⟩:=k;exact⟨v,vs',h1,b6.ren r v (fun i hi=>h i (by simp[R.refsL,hi])) h2,aW.ren rs vs' (fun i hi=>h i (by simp[R.refsL,hi])) h3⟩
end
mutual
theorem aT.ren:∀(r:V) (v:Value),(∀id∈r.refs,Good H H' σ id)→aT S μ H (r.ren σ) v→aT S (fun i=>μ (σ i)) H' r v
 | .one r,v,h,k=>by simp only[aT,V.ren] at k ⊢;exact b6.ren r v (by simpa only[V.refs] using h) k
 | .pa l,v,_,k=>by simpa only[aT,V.ren] using k
 | .ma l,v,h,k=>by
  simp only[aT,V.ren] at k ⊢;obtain⟨vs,h1,h2⟩:=k;exact⟨vs,h1,aW.ren l vs (by simpa only[V.refs] using h) h2⟩
 | .tup l,v,h,k=>by
  simp only[aT,V.ren] at k ⊢;obtain⟨vs,h1,h2⟩:=k;exact⟨vs,h1,bG.ren l vs (by simpa only[V.refs] using h) h2⟩
theorem bG.ren:∀(r:List V) (v:List Value),(∀id∈V.refsL r,Good H H' σ id)→bG S μ H (V.renL σ r) v→bG S (fun i=>μ (σ i)) H' r v
 | [],_,_,k=>by simpa only[bG,V.renL] using k
 | r::rs,vs,h,k=>by
  simp only[bG,V.renL] at k ⊢;obtain⟨v,vs',h1,h2,h3⟩:=k;exact⟨v,vs',h1,aT.ren r v (fun i hi=>h i (by simp[V.refsL,hi])) h2,bG.ren rs vs' (fun i hi=>h i (by simp[V.refsL,hi])) h3⟩
end
end
theorem lW.ren {S:Sto}{μ:Mu}{H H':c7}{σ:Nat→Nat}{w:World}{id:Nat}{o o':AObj}(h:lW S μ H w (σ id) o) (hl:Ole σ o o') (q:∀i∈o'.refs,Good H H' σ i):lW S (fun i=>μ (σ i)) H' w id o':=by
 cases hl with
 | @var t cells cells' hc=>
  subst hc;obtain⟨b,vs,h1,h2,h3,h4⟩:=h;exact⟨b,vs,h1,h2,aW.ren _ _ q h3,h4⟩
 | arr=>exact h
 | arr1=>
  obtain⟨g0,g1 | ⟨b,base,cap,vs,g1,g2,g3,g4,g5,g6,g7,g8,g9⟩⟩:=h
  ·exact⟨g0,.inl g1⟩
  ·exact⟨g0,.inr ⟨b,base,cap,vs,g1,g2,g3,g4,g5,g6,(fun e=>by cases e),g8,(fun e=>by cases e)⟩⟩
 | map=>exact h
 | dead=>exact h
 | lp he=>
  subst he;obtain⟨b,r,fn,tmps,h1,h2,h3,h4,h5⟩:=h;exact⟨b,r,fn,tmps,h1,h2,h3,fun t v ht=>aT.ren _ _ (fun i hi=>q i (nN ht i hi)) (h4 t _ (aFb ht)),h5⟩
 | dfr=>exact h
 | rarr he=>
  subst he;obtain⟨g0,g1 | ⟨b,base,cap,vs,g1,g2,g3,g4,g5,g6,g7⟩⟩:=h
  ·exact⟨kW g0,.inl ⟨g1.1,A7 (by rw[←eV (σ:=σ),g1.2];rfl)⟩⟩
  ·rw[eV] at g4 g6;rw[zH] at g6;exact⟨kW g0,.inr ⟨b,base,cap,vs,g1,g2,g3,g4,g5,aW.ren _ _ (fun i hi=>q i (by rw[uO] at hi;exact hi)) g6,g7⟩⟩
 | tok he=>
  subst he;obtain⟨g1,b,g2,g3⟩:=h;exact⟨g1,b,b6.ren _ _ q g2,g3⟩
def Ctx.keeps (G:Ctx) (kf:List Nat):Prop:=(∀id o,G.h0 id=some o→id∈kf)∧(997∈kf→G.h0 997=none→G.S0.noTop)
def Sub (kf:List Nat) (st2 st1:St):Prop:=∀G n S μ a w,G.keeps kf→Sim G n S μ st1 a w→∃S' μ',Sim G n S' μ' st2 a w
theorem Sub.refl (kf:List Nat) (st:St):Sub kf st st:=fun _ _ S μ _ _ _ h=>⟨S,μ,h⟩
theorem Sub.trans {kf:List Nat}{a b c:St}(h:Sub kf a b) (k:Sub kf b c):Sub kf a c:=fun G n S μ x w q hs=>by
 obtain⟨S',μ',h1⟩:=k G n S μ x w q hs;exact h G n S' μ' x w q h1
def mk (el:List (Nat×V)) (hl:List (Nat×AObj)):St:=⟨look el,look hl,[]⟩
def mkd (el:List (Nat×V)) (hl:List (Nat×AObj)) (dl:List Nat):St:=⟨look el,look hl,dl⟩
theorem bH {α:Type}:∀{l:List (Nat×α)}{i:Nat}{x:α},look l i=some x→(i,x)∈l
 | [],_,_,h=>by simp[look] at h
 | (k,y)::l,i,x,h=>by
  simp only[look] at h;split at h
  ·rename_i hb;cases h;simp[ε hb]
  ·simp[bH h]
def dM {α:Type}(p:α→Prop):List α→Prop
 | []=>True
 | x::l=>p x∧dM p l
theorem dM.mem {α:Type}{p:α→Prop}:∀{l:List α},dM p l→∀x∈l,p x
 | [],_,x,h=>by simp at h
 | y::l,h,x,hx=>by
  rcases Ai.1 hx with rfl | hx
  ·exact h.1
  ·exact dM.mem h.2 x hx
def subset (a b:List Nat):Bool:=a.all fun x=>b.contains x
def distinct:List Nat→Bool
 | []=>true
 | x::l=>!(l.contains x)&&distinct l
def cO:List (Nat×AObj)→List Nat
 | []=>[]
 | (_,o)::l=>o.refs++cO l
def aU4 (kf:List Nat) (σ:Nat→Nat) (el:List (Nat×V)) (hl:List (Nat×AObj)):Bool:=subset (kL el) (hl.map (·.1))&&subset (cO hl) (hl.map (·.1))&&distinct (hl.map fun p=>σ p.1)&&subset kf (hl.map (·.1))&&kf.all fun i=>Nat.beq (σ i) i
theorem bB {a b:List Nat}(h:subset a b=true):∀x∈a,x∈b:=fun x hx=>by simpa using (Au.1 h) x hx
theorem dG:∀{l:List Nat},distinct l=true→l.Nodup
 | [],_=>nodup_nil
 | x::l,h=>by
  simp only[distinct,Ac] at h;refine Bv.2 ⟨?_,dG h.2⟩;simpa using h.1
theorem iP:∀{l:List (Nat×AObj)}{t:Nat}{v:AObj},(t,v)∈l→∀i∈v.refs,i∈cO l
 | (k,u)::l,t,v,h,i,hi=>by
  simp only[cO,δ];rcases Ai.1 h with h | h
  ·cases h;exact .inl hi
  ·exact .inr (iP h i hi)
theorem jA {α:Type}:∀{l:List (Nat×α)}{i:Nat},i∈l.map (·.1)→∃x,look l i=some x:=cQ
theorem sF {α β:Type}{f:α→β}:∀{l:List α},(l.map f).Nodup→∀x∈l,∀y∈l,f x=f y→x=y
 | [],_,x,h,_,_,_=>by simp at h
 | z::l,hn,x,hx,y,q,e=>by
  simp only[Al,Bv] at hn;rcases Ai.1 hx with hx | hx
  ·rcases Ai.1 q with q | q
   ·rw[hx,q]
   ·exact absurd (Af.2 ⟨y,q,by rw[←e,hx]⟩) hn.1
  ·rcases Ai.1 q with q | q
   ·exact absurd (Af.2 ⟨x,hx,by rw[e,q]⟩) hn.1
   ·exact sF hn.2 x hx y q e
def eqL:List Nat→List Nat→Bool
 | [],[]=>true
 | a::l,b::m=>Nat.beq a b&&eqL l m
 | _,_=>false
theorem aTd:∀{l m:List Nat},eqL l m=true→l=m
 | [],[],_=>rfl
 | a::l,b::m,h=>by
  simp only[eqL,Ac] at h;rw[ε h.1,aTd h.2]
 | [],_::_,h=>by simp[eqL] at h
 | _::_,[],h=>by simp[eqL] at h
theorem Sub.listD {kf:List Nat}{I:St}{el:List (Nat×V)}{hl:List (Nat×AObj)}{dl:List Nat}(σ:Nat→Nat) (he:dM (fun p=>I.e p.1=some (p.2.ren σ)) el) (hh:dM (fun p=>∃o,I.h (σ p.1)=some o∧Ole σ o p.2) hl) (hok:(aU4 kf σ el hl&&(eqL (dl.map σ) I.d&&subset dl (hl.map (·.1))))=true):Sub kf (mkd el hl dl) I:=by
 intro G n S μ a w hg hs;rw[Ac,Ac] at hok;obtain⟨hok,J,Y⟩:=hok;have J:=aTd J;simp only[aU4,Ac] at hok;obtain⟨⟨⟨⟨h1,h2⟩,h3⟩,h4⟩,h5⟩:=hok;have q:∀i∈hl.map (·.1),Good I.h (look hl) σ i:=by
  intro i hi;obtain⟨o',W⟩:=cQ hi;obtain⟨o,g1,g2⟩:=hh.mem _ (bH W);exact⟨o,o',g1,W,g2⟩
 have Z:=dG h3;refine⟨S,fun i=>μ (σ i),⟨⟨hs.inv.holds,fun id o ho=>?_,fun i j o o' b c c' hi hj hm hm'=>?_,fun i o b c hi hm=>?_,hs.inv.frame,hs.inv.sle,hs.inv.sto,⟨hs.inv.evo.le,fun id o ho=>?_⟩,hs.inv.fre⟩,hs.size,?_,fun t v ht=>?_⟩⟩
 ·obtain⟨N,g1,g2⟩:=hh.mem _ (bH ho);exact(hs.inv.obj _ _ g1).ren g2 fun i hi=>q i (bB h2 i (iP (bH ho) i hi))
 ·obtain⟨N,g1,g2⟩:=hh.mem _ (bH hi);obtain⟨O,g3,g4⟩:=hh.mem _ (bH hj);have hσ:=hs.inv.inj _ _ _ _ b c c' g1 g3 hm hm';have:=sF Z _ (bH hi) _ (bH hj) hσ;exact(congrArg Prod.fst this)
 ·obtain⟨N,g1,g2⟩:=hh.mem _ (bH hi);exact hs.inv.own _ _ b c g1 hm
 ·obtain⟨o',g1,g2⟩:=hs.inv.evo.obj id o ho;have hk:=hg.1 id o ho;have hσ:σ id=id:=ε ((Au.1 h5) id hk);obtain⟨N,O,g3,g4,g5⟩:=q id (bB h4 id hk);rw[hσ,g1] at g3;cases g3;refine⟨O,g4,?_⟩;show o.succ (μ (σ id)=G.μ0 id) O;rw[hσ];exact AObj.succ_trans g2 g5.succ fun e _=>e
 ·refine Marks.ren (H:=I.h) (μ:=μ) σ (by show Marks _ μ I.h (dl.map σ) a.defers;rw[J];exact hs.defers) fun id hid hdf=>⟨rfl,?_⟩
  obtain⟨N,O,g3,g4,g5⟩:=q id (bB Y id hid);rw[hdf] at g3;cases g3;cases g5;exact g4
 ·have hm:=bH (show look el t=some v from ht);have h4:=he.mem _ hm;exact aT.ren v _ (fun i hi=>q i (bB h1 i (nN hm i hi))) (hs.env t _ h4)
theorem Sub.list {kf:List Nat}{q:St}{el:List (Nat×V)}{hl:List (Nat×AObj)}(σ:Nat→Nat) (he:dM (fun p=>q.e p.1=some (p.2.ren σ)) el) (hh:dM (fun p=>∃o,q.h (σ p.1)=some o∧Ole σ o p.2) hl) (hok:(aU4 kf σ el hl&&eqL [] q.d)=true):Sub kf (mk el hl) q:=
 Sub.listD (dl:=[]) σ he hh (by
  rw[Ac] at hok;rw[Ac]
  exact⟨hok.1,by rw[Bn,hok.2];rfl⟩)
def Ctx.rok (G:Ctx):Option Nat→Prop
 | none=>True
 | some l=>(∃r,G.w0.heap[l]?=some (.loop r))∧¬G.F l
def AWp (ro:Option Nat) (P:Program) (n:Nat) (kf:List Nat) (c:Code) (st:St) (Q:Exit→St→Prop):Prop:=
 ∀G S μ a w (Q':Exit→Act→World→Prop),G.keeps kf∧G.rok ro→Sim G n S μ st a w→(∀ex st' S' μ' a' w',Q ex st'→Sim G n S' μ' st' a' w'→Q' ex a' w')→c.wpIn (Wd ro) 0 P Q' a w
section
variable {ro:Option Nat}{P:Program}{n:Nat}{kf:List Nat}{st:St}{Q:Exit→St→Prop}
theorem AWp.sub {c:Code}{st2:St}(h:Sub kf st2 st) (k:AWp ro P n kf c st2 Q):AWp ro P n kf c st Q:=fun G S μ a w Q' q hs I=>by
 obtain⟨S',μ',J⟩:=h G n S μ a w q.1 hs;exact k G S' μ' a w Q' q J I
theorem AWp.post {c:Code}{Q2:Exit→St→Prop}(h:AWp ro P n kf c st Q) (O:∀ex st',Q ex st'→∃I,Sub kf I st'∧Q2 ex I):AWp ro P n kf c st Q2:=fun G S μ a w Q' J hs W=>
 h G S μ a w Q' J hs fun ex st' S' μ' N w' q s=>by
  obtain⟨I,h1,h2⟩:=O ex st' q;obtain⟨S2,Y,h3⟩:=h1 G n S' μ' N w' J.1 s;exact W ex I S2 Y N w' h2 h3
theorem aD (h:Q .normal st):AWp ro P n kf .skip st Q:=fun _ S μ a w _ _ hs q=>wpIn_skip (q _ _ S μ a w h hs)
theorem aF (h:Q .ret st):AWp ro P n kf .ret st Q:=fun _ S μ a w _ _ hs q=>wpIn_ret (q _ _ S μ a w h hs)
theorem aL {id:Nat}(h:Q (.exit id) st):AWp ro P n kf (.exit id) st Q:=fun _ S μ a w _ _ hs q=>wpIn_exit (q _ _ S μ a w h hs)
def a3x (ro:Option Nat) (P:Program) (n:Nat) (kf:List Nat) (c:Code) (Q:Exit→St→Prop):Exit→St→Prop
 | .normal,st=>AWp ro P n kf c st Q
 | ex,st=>Q ex st
theorem a8 {x y:Code}(h:AWp ro P n kf x st (a3x ro P n kf y Q)):AWp ro P n kf (.seq x y) st Q:=fun G S μ a w Q' I hs J=>
 wpIn_seq (h G S μ a w _ I hs fun ex st' S' μ' N w' q s=>by
  cases ex with
  | normal=>exact q G S' μ' N w' Q' I s J
  | _=>exact J _ st' S' μ' N w' q s)
theorem aA {c:Operand}{x y:Code}{b:Bool}(hc:opv st c=some (B b)) (ht:b=true→AWp ro P n kf x st Q) (hf:b=false→AWp ro P n kf y st Q):AWp ro P n kf (.cond c x y) st Q:=fun G S μ a w Q' q hs I=>by
 have hb:=j8 (aM hs hc fun _ _=>rfl);cases b with
 | true=>exact wpIn_cond_true hb (ht rfl G S μ a w Q' q hs I)
 | false=>exact wpIn_cond_false hb (hf rfl G S μ a w Q' q hs I)
def aOx (id:Nat) (Q:Exit→St→Prop):Exit→St→Prop
 | .exit id',st=>if Nat.beq id' id then Q .normal st else Q (.exit id') st
 | ex,st=>Q ex st
theorem aB {id:Nat}{c:Code}(h:AWp ro P n kf c st (aOx id Q)):AWp ro P n kf (.block id c) st Q:=fun G S μ a w Q' O hs J=>
 wpIn_block (h G S μ a w _ O hs fun ex st' S' μ' N w' q s=>by
  cases ex with
  | exit I=>
   simp only[aOx] at q;simp only[Exit.inBlock];by_cases hb:I=id
   ·subst hb;simp only[B6,B3] at q;simpa using J _ st' S' μ' N w' q s
   ·have:Nat.beq I id=false:=by
     cases W:Nat.beq I id with
     | false=>rfl
     | true=>exact absurd (ε W) hb
    simp only[this,A1,Br] at q;simpa [hb] using J _ st' S' μ' N w' q s
  | _=>exact J _ st' S' μ' N w' q s)
def a26 {α:Type}(kf:List Nat) (σ:α→St) (I:α→Prop) (m:α→Nat) (x:α) (Q:Exit→St→Prop):Exit→St→Prop
 | .normal,st=>∃y,I y∧m y<m x∧Sub kf (σ y) st
 | ex,st=>Q ex st
theorem rK {F:Fence}{m:Nat}{P:Program}{Q:Exit→Act→World→Prop}{a:Act}{w:World}{c:Code}(I:Nat→Act→World→Prop) (O:Nat) (Z:I O a w)
  (round:∀n a w,I n a w→c.wpIn F m P (Exit.then (fun N w'=>∃q,q<n∧I q N w') Q) a w):(Code.loop c).wpIn F m P Q a w:=by
 refine wpIn_loop (fun a w=>∃n,I n a w) (fun a w=>leastOf (fun n=>I n a w)) ⟨O,Z⟩ ?_;intro a w hI;refine wpIn_mono (round _ a w (leastOf_spec hI).1) ?_;intro e N w' W;cases e with
 | normal=>
  obtain⟨q,Y,J⟩:=W;exact show(∃n,I n N w')∧leastOf (fun n=>I n N w')<leastOf (fun n=>I n a w) from⟨⟨q,J⟩,lt_of_le_of_lt ((leastOf_spec ⟨q,J⟩).2 q J) Y⟩
 | _=>exact W
theorem aK {α:Type}{c:Code}(σ:α→St) (I:α→Prop) (m:α→Nat) (J:α) (hI:I J) (h0:Sub kf (σ J) st) (h:∀x,I x→AWp ro P n kf c (σ x) (a26 kf σ I m x Q)):AWp ro P n kf (.loop c) st Q:=fun G S μ a w Q' N hs hQ=>by
 obtain⟨S',μ',W⟩:=h0 G n S μ a w N.1 hs;refine rK (fun k a w=>∃x S μ,m x=k∧I x∧Sim G n S μ (σ x) a w) (m J) ⟨J,S',μ',rfl,hI,W⟩ ?_;rintro k a w ⟨x,S,μ,hk,hx,hs⟩;refine h x hx G S μ a w _ N hs fun ex st' S1 Y Z w' q s=>?_
 cases ex with
 | normal=>
  obtain⟨y,hy,aa,O⟩:=q;obtain⟨S2,μ2,h2⟩:=O G n S1 Y Z w' N.1 s;exact⟨m y,hk▸aa,y,S2,μ2,rfl,hy,h2⟩
 | _=>exact hQ _ st' S1 Y Z w' q s
theorem vS {id:Nat}{ops:Array Oper}{draw:Bool}{st':St}{xs:REs}(hm:P.follows .mixedOrders=true) (N:Run P n ops 0 st xs st') (hlen:Nat.beq xs.length ops.size=true)
  (J:(!draw || (fG (pC ops) xs []&&i7 ops))=true) (h:Q .normal st'):AWp ro P n kf (.region id ops draw) st Q:=fun G S μ a w Q' Z hs hQ=>by
 have q:=ε hlen;cases draw with
 | true=>
  simp only[Bool.not_true,Bool.false_or,Ac] at J;refine wpIn_region_any hm ?_;refine aUd (G:=G) N q J.1 J.2 (fun S' μ' I w' s=>hQ _ st' S' μ' I w' h s) ops.size _ (by simp) ?_ ?_ S μ a _ ?_ ro
  ·have:((List.range ops.size).filter fun i=>!(Array.replicate ops.size false).getD i false)=List.range ops.size:=by
    apply List.filter_eq_self.2;intro i hi;simp at hi;simp[hi]
   rw[this,length_range]
  ·intro i o ho hl;simp[Array.getElem?_replicate] at hl;split at hl<;>simp at hl
  ·have hz:∀(O:REs) (k:Nat) (s:St),eL (fun j=>(Array.replicate ops.size false).getD j false) k O s=s:=by
    intro O
    induction O with
    | nil=>intro k s;rfl
    | cons y O W=>
     intro k s;have hf:(Array.replicate ops.size false).getD k false=false:=by
      simp[Array.getElem?_replicate];split<;>rfl
     simp only[eL,hf,Bs];exact W _ _
   rw[hz];exact⟨hs.inv.same rfl rfl rfl rfl,hs.size,hs.defers,hs.env⟩
 | false=>
  refine wpIn_region ?_;have key:∀(k:Nat) (st st':St) (xs:REs),Run P n ops k st xs st'→k+xs.length=ops.size→(∀S' μ' I w',Sim G n S' μ' st' I w'→Q' .normal I w')→∀S μ a w,Sim G n S μ st a w→wpOpsIn (Wd ro) 0 P ops Q' (List.range' k xs.length) a w:=by
   intro k st st' xs N
   induction N with
   | nil=>intro _ Y S μ a w hs;exact Y S μ a w hs
   | @cons k st rd f xs st' Z _ W=>
    intro hl Y S μ a w hs;simp only[Ak,List.range'_succ,wpOpsIn_cons];exact Z st (mN.refl _ _) G S μ a w _ Q' hs (fun S1 μ1 a1 w1 s1=>W (by simp at hl;omega) Y S1 μ1 a1 w1 s1) ro
  have:=key 0 st st' xs N (by omega) (fun S' μ' I w' s=>hQ _ st' S' μ' I w' h s) S μ a w hs;rwa [List.range_eq_range',←q]
end
end Go.AM
