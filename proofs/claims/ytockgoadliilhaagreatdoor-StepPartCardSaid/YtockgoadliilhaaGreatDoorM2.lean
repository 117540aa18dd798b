/-
  Texts Am7 to Am11 in one.
-/
import Derived.Test.YtockgoadliilhaaGreatDoorM1
import Derived.Deep.LoopGhost
open List (all_eq_true append_assoc append_nil drop_append drop_of_length_le drop_succ_cons drop_take drop_zero eq_nil_of_length_eq_zero flatten_append flatten_cons foldl_cons length_append length_cons length_drop length_nil length_range length_set length_take map_cons map_nil map_toArray mem_append mem_cons mem_cons_of_mem mem_map mem_of_mem_drop mem_of_mem_take mem_or_eq_of_mem_set nil_append nodup_cons nodup_nil set_eq_take_append_cons_drop size_toArray take_append_of_le_length take_left' take_of_length_le take_succ_cons take_zero)
open Nat (add_assoc add_mul add_zero beq_refl eq_of_beq_eq_true le_of_ble_eq_true le_refl le_trans lt_of_le_of_lt mul_le_mul_left mul_le_mul_right sub_le sub_self sub_zero zero_add zero_le)
namespace Go.AM
open Go
section
variable {P:Program}{n:Nat}{o:Oper}{st:St}{d:Nat}{T:TT}
theorem run_store {t:TypeId}{i:TI}(O:TIok P t i) (w:World) (b off:Nat) (vs news:List Value) (tb:TypeId) (v:Value) (hg:w.heap[b]?=some (.cells ⟨vs⟩ tb (0,0))) (hv:v.cells.toList=news) (hl:news.length=i.size) (J:off+news.length≤vs.length) (h1:∀u∈news,u.oneCell'=true):
  (Instr.storeAt t (.pointer (some ⟨b,off,none⟩)) v).run P w=.ok () (w.setRow b ⟨vs.take off++news++vs.drop (off+news.length)⟩):=by
 have N:v.cells.size=i.size:=by rw[←hl,←hv];simp
 have I:=run_storeCells_at (P:=P) b off tb news 0 ⟨vs⟩ w hg (by simpa using J) h1;simp only[Bu] at I;simp only[Instr.storeAt,Instr.sureAddr,Ae,Af,χ,storeVar,O.size_run w,N,hv];simp only[ne_eq,not_true_eq_false,Bt,I]
theorem jR {S:Sto}{μ:Mu}{H:cO}{id:Nat}{o o':AObj}{p:Nat×Nat×Nat}(h:H id=some o) (hm:μ id=some p) (hs:o.succ True o'):Evolve S μ H S (upd μ id (some p)) (upd H id (some o')):=by
 refine⟨S.le_refl,fun j x hj=>?_⟩;by_cases I:j=id
 ·subst I;rw[h] at hj;cases hj;refine⟨o',aJ _ _ _,?_⟩;have he:upd μ j (some p) j=μ j:=by rw[aJ,hm]
  rw[he];simpa using hs
 ·exact⟨x,by rw[b8 _ _ _ I];exact hj,x.succ_refl (b8 _ _ _ I)⟩
theorem Step.turn {rd:Rd}{id:Nat}{ao I:AObj}(hd:o.dst=none) (hid:st.h id=some ao) (W:id∈rd.h) (N:ao.succ True I)
  (h:∀st',oU rd st st'→st'.h id=some ao→∀G S μ a w,Sim G n S μ st' a w→∃w' O b c,(execOp a.eval o).run P w=.ok .skip w'∧μ id=some (b,c)∧WChg w w' b O∧
   mG S (upd μ id (some (b,c))) (upd st'.h id (some I)) w' id I∧(∀o v,S.cell b o=some v→∃vs t fr,O=.cells vs t fr∧vs[o]?=some v)∧(∀m,S.mapo b=some m→w.heap.size≤b)):
  Step P n o st rd ⟨none,[(id,some I)]⟩:=by
 intro st' ha G S μ a w K Q hs hk;have J:st'.h id=some ao:=by rw[ha.2 id W,hid]
 obtain⟨w',O,b,c,hr,hm,hw,hO,hS,Y⟩:=h st' ha J G S μ a w hs;refine fun ro=>xS hr ?_
 rw[hd];have Z:=jR (S:=S) (μ:=μ) J hm N;have hi:=hs.inv.chg (id:=id) (cap:=c) (ao:=I) hw (.inr ⟨ao,c,J,hm⟩) Z hO hS Y;refine hk S (upd μ id (some (b,c))) _ _ ?_;have:=hs.put_none hi Z undef;unfold Eff.apply;rw[dE];exact this
def bX {α:Type}(l:List α) (off:Nat) (new:List α):List α:=l.take off++new++l.drop (off+new.length)
theorem iJ {S:Sto}{w:World}{b:Nat}(hb:S.mapo b=none) (m:MK) (e:S.mapo b=some m):w.heap.size≤b:=by
 rw[hb] at e;cases e
theorem aSm {t tv:TypeId}{i:TI}{x y:Operand}{id off:Nat}{cells rs:List R}{v:V}(hT:Tok P T) (ho:o.op=.store t x y) (hd:o.dst=none) (hi:T[t]?=some (some i)) (hx:opv st x=some (.one (.vp id off)))
  (hy:opv st y=some v) (hc:hJ v=some rs) (hh:st.h id=some (.var tv cells)) (hrs:rs.length=i.size) (hl:Nat.ble (off+i.size) cells.length=true):
  Step P n o st ⟨opr x++opr y,[id]⟩ ⟨none,[(id,some (.var tv (bX cells off rs)))]⟩:=by
 refine Step.turn hd hh (by simp) (by simp[AObj.succ]) fun st' ha J G S μ a w hs=>?_
 have N:=aO hs hx fun t ht=>ha.1 t (by simp[ht])
 have Z:=aO hs hy fun t ht=>ha.1 t (by simp[ht])
 simp only[aY,bB] at N;obtain⟨t',cells',b,c,h1,h2,h3⟩:=N;obtain⟨b',vs,g1,g2,g3,g4⟩:=hs.inv.obj id _ J;rw[g1] at h2;cases h2;have hlen:=Ap hl;have hvl:=g3.length;have I:=eL Z hc;have O:=I.length;have W:=run_store (hT.get hi) w b off vs (a.eval y).cells.toList tv (a.eval y) g2 rfl (by omega) (by omega) I.one;have Y:=jR (S:=S) (μ:=μ) (o':=.var tv (bX cells off rs)) J g1 (by simp[AObj.succ]);have hW:=WChg.setRow w b ⟨vs⟩ ⟨vs.take off++(a.eval y).cells.toList++vs.drop (off+(a.eval y).cells.toList.length)⟩ tv (0,0) g2;refine⟨_,_,b,(0,0),?_,g1,hW,⟨b,_,aJ _ _ _,hW.new,?_,g4⟩,(fun o v e=>by rw[g4.1] at e;cases e),fun m e=>iJ g4.2 m e⟩
 ·simp only[execOp,ho,h3,Ae,W,χ,Af]
 ·have h1:=aV.evolve Y _ _ (g3.take off);have h2:=aV.evolve Y _ _ I;have h3:=aV.evolve Y _ _ (g3.drop (off+rs.length));rw[←O] at h3;have:=(h1.append h2).append h3;rw[show bX cells off rs=cells.take off++rs++cells.drop (off+(a.eval y).cells.toList.length) by rw[O];rfl] at this ⊢;exact this
theorem aBw {α:Type}{es:Nat}:∀{l:List (List α)},(∀r∈l,r.length=es)→∀(k:Nat) (r:List α),l[k]?=some r→
  (l.take k).flatten=l.flatten.take (k*es)∧(l.drop (k+1)).flatten=l.flatten.drop (k*es+es)
 | [],_,k,r,h=>by simp at h
 | x::xs,hl,0,r,_=>by
  have hx:=hl x (by simp);simp only[Cm,List.flatten_nil,Nat.zero_mul,Bd,Cr,Cd,Bi,true_and];rw[drop_append,hx,sub_self,Cd,drop_of_length_le (by omega),Be]
 | x::xs,hl,k+1,r,h=>by
  have hx:=hl x (by simp);simp at h;obtain⟨h1,h2⟩:=aBw (l:=xs) (fun r I=>hl r (by simp[I])) k r h;simp only[Az,Bi,Cr];rw[h1,h2,List.take_append,drop_append,hx];have J:(k+1)*es-es=k*es:=by rw[A0];omega
  have N:(k+1)*es+es-es=k*es+es:=by rw[A0];omega
  rw[J,N,Ba (l:=x) (by rw[hx,A0];omega),drop_of_length_le (l:=x) (by rw[hx,A0];omega),Be];exact⟨rfl,rfl⟩
theorem aFz {t te es:Nat}{i:TI}{x y:Operand}{id k fo sz:Nat}{elems:List (List C)}{v:V}{rs:List R}{cs r:List C}(hT:Tok P T) (ho:o.op=.store t x y) (hd:o.dst=none) (hi:T[t]?=some (some i)) (hx:opv st x=some (.one (.ep id k fo sz)))
  (hy:opv st y=some v) (hc:hJ v=some rs) (hp:iS rs=some cs) (hh:st.h id=some (.arr te es elems 0)) (hsz:sz=elems.length) (hr:elems[k]?=some r) (hcs:cs.length=i.size) (hl:fo+i.size≤es):
  Step P n o st ⟨opr x++opr y,[id]⟩ ⟨none,[(id,some (.arr te es (elems.set k (bX r fo cs)) 0))]⟩:=by
 refine Step.turn hd hh (by simp) (by simp[AObj.succ]) fun st' ha N G S μ a w hs=>?_
 have hvx:=aO hs hx fun t ht=>ha.1 t (by simp[ht])
 have hvy:=aO hs hy fun t ht=>ha.1 t (by simp[ht])
 simp only[aY,bB] at hvx;obtain⟨_,hv | ⟨te',es',elems',fz',h1,h2,h3⟩⟩:=hvx
 ·rw[N] at hv;cases hv
 rw[N] at h1;cases h1;obtain⟨h4,b,base,cap,h5,h6⟩:=h3 hsz;obtain⟨g0,vs,g1,g2,g3,g4,g5,g6,g7⟩:=(hs.inv.obj id _ N).arr h5;have I:=eL hvy hc;rw[nE hp] at I;have W:=I.pure;have hone:=I.one;have hnl:=W.length;have hk:k<elems.length:=(ε.1 hr).1
 have hres:r.length=es:=g0 r (η hr);have hke:(k+1)*es≤elems.length*es:=Ax _ hk;have hce:elems.length*es≤cap*es:=Ax _ g3;rw[A0] at hke;generalize hnews:(a.eval y).cells.toList=news at *;have hrun:=run_store (hT.get hi) w b (base+k*es+fo) vs news te (a.eval y) g1 hnews (by omega) (by omega) hone;have hE:=jR (S:=S) (μ:=μ) (o':=.arr te es (elems.set k (bX r fo cs)) 0) N h5 (by simp[AObj.succ]);have Y:=aQj g0 g5 hr;have O:=aBw g0 k r hr;have hlen:(elems.set k (bX r fo cs)).length=elems.length:=by simp
 have hW:=WChg.setRow w b ⟨vs⟩ ⟨vs.take (base+k*es+fo)++news++vs.drop (base+k*es+fo+news.length)⟩ te (0,0) g1;refine⟨_,_,b,(base,cap),?_,h5,hW,⟨?_,.inr ⟨b,base,cap,_,aJ _ _ _,hW.new,?_,by rw[hlen];exact g3,g4,?_,g6,by rw[hlen];exact g7.1,fun e=>by cases e⟩⟩,fun o v e=>?_,fun m e=>iJ g4.2 m e⟩
 ·simp only[execOp,ho,h6,Ae,hrun,χ,Af]
 ·intro q hq;rcases mem_or_eq_of_mem_set hq with hq | rfl
  ·exact g0 q hq
  ·unfold bX;simp;omega
 ·simp only[Aa,At,Bw];omega
 ·rw[hlen];have e1:(elems.set k (bX r fo cs)).flatten=elems.flatten.take (k*es)++(r.take fo++cs++r.drop (fo+cs.length))++elems.flatten.drop (k*es+es):=by
   rw[Ce,θ hk,flatten_append,Bi,O.1,O.2,←Aw];rfl
  have e2:((vs.take (base+k*es+fo)++news++vs.drop (base+k*es+fo+news.length)).drop base).take (elems.length*es)=
    ((vs.drop base).take (elems.length*es)).take (k*es)++((((vs.drop (base+k*es)).take es).take fo)++news++(((vs.drop (base+k*es)).take es).drop (fo+cs.length)))++((vs.drop base).take (elems.length*es)).drop (k*es+es):=by
   apply Bo;intro j;simp only[Av,An,Bx,Aa,At,Bw];have hm1:min (k*es) (min (elems.length*es) (vs.length-base))=k*es:=by omega
   have hm2:min (base+k*es+fo) vs.length=base+k*es+fo:=by omega
   have hm3:min fo es=fo:=by omega
   have hm4:min es (vs.length-(base+k*es))=es:=by omega
   simp only[hm1,hm2,hm3,hm4,hnl];by_cases c1:j<k*es
   ·have J:j<elems.length*es:=by omega
    have a2:base+j<base+k*es+fo:=by omega
    have a3:base+j<base+k*es+fo+cs.length:=by omega
    have a4:j<k*es+(fo+cs.length+(es-(fo+cs.length))):=by omega
    simp[c1,J,a2,a3,a4]
   ·by_cases c2:j<k*es+fo
    ·have J:j<elems.length*es:=by omega
     have a2:base+j<base+k*es+fo:=by omega
     have a3:base+j<base+k*es+fo+cs.length:=by omega
     have a4:j<k*es+(fo+cs.length+(es-(fo+cs.length))):=by omega
     have a5:j-k*es<fo+cs.length:=by omega
     have Z:j-k*es<fo:=by omega
     have a7:j-k*es<es:=by omega
     simp[c1,J,a2,a3,a4,a5,Z,a7,show base+k*es+(j-k*es)=base+j by omega]
    ·by_cases c3:j<k*es+fo+cs.length
     ·have J:j<elems.length*es:=by omega
      have a2:¬base+j<base+k*es+fo:=by omega
      have a3:base+j<base+k*es+fo+cs.length:=by omega
      have a4:j<k*es+(fo+cs.length+(es-(fo+cs.length))):=by omega
      have a5:j-k*es<fo+cs.length:=by omega
      have Z:¬j-k*es<fo:=by omega
      simp[c1,J,a2,a3,a4,a5,Z,show base+j-(base+k*es+fo)=j-k*es-fo by omega]
     ·by_cases c4:j<k*es+es
      ·have J:j<elems.length*es:=by omega
       have a3:¬base+j<base+k*es+fo+cs.length:=by omega
       have a4:j<k*es+(fo+cs.length+(es-(fo+cs.length))):=by omega
       have a5:¬j-k*es<fo+cs.length:=by omega
       have Z:fo+cs.length+(j-k*es-(fo+cs.length))<es:=by omega
       simp[c1,J,a3,a4,a5,Z,show base+k*es+fo+cs.length+(base+j-(base+k*es+fo+cs.length))=base+j by omega,show base+k*es+(fo+cs.length+(j-k*es-(fo+cs.length)))=base+j by omega]
      ·have a3:¬base+j<base+k*es+fo+cs.length:=by omega
       have a4:¬j<k*es+(fo+cs.length+(es-(fo+cs.length))):=by omega
       by_cases c5:j<elems.length*es
       ·have a5:k*es+es+(j-(k*es+(fo+cs.length+(es-(fo+cs.length)))))<elems.length*es:=by omega
        simp[a3,a4,c5,a5,show base+k*es+fo+cs.length+(base+j-(base+k*es+fo+cs.length))=base+j by omega,show base+(k*es+es+(j-(k*es+(fo+cs.length+(es-(fo+cs.length))))))=base+j by omega]
       ·have a5:¬k*es+es+(j-(k*es+(fo+cs.length+(es-(fo+cs.length)))))<elems.length*es:=by omega
        simp[a4,c5,a5]
  rw[e1];show dI S _ (((vs.take (base+k*es+fo)++news++vs.drop (base+k*es+fo+news.length)).drop base).take (elems.length*es));rw[e2];exact((g5.take (k*es)).append (((Y.take fo).append W).append (Y.drop (fo+cs.length)))).append (g5.drop (k*es+es))
 ·--what stays is not touched
  by_cases hb:base≤o
  ·rw[g6 rfl o hb] at e;cases e
  ·obtain⟨vs0,t0,fr0,q1,q2⟩:=hs.inv.holds.1 b o v e;rw[g1] at q1;cases q1;refine⟨_,_,_,rfl,?_⟩;simp only[List.getElem?_toArray] at q2 ⊢;have hlt:o<vs.length:=(ε.1 q2).1
   rw[Aw,A7 (by simp;omega),Av,θ (by omega)];exact q2
theorem xM (b off k:Nat):(⟨b,off,none⟩:Addr).add k=⟨b,off+k,none⟩:=Addr.add_mid b off k
theorem iF {t J:TypeId}{i N:TI}{fs:List (Nat×TypeId)}{f I:Nat}(O:Tok P T) (hi:T[t]?=some (some i)) (hk:i.k=.st fs) (hf:fs[f]?=some (I,J)) (W:T[J]?=some (some N)) (hz:N.size≠0) (w:World) (b off:Nat):
  (Instr.fieldAt t (.pointer (some ⟨b,off,none⟩)) f).run P w=.ok (.pointer (some ⟨b,off+I,none⟩)) w:=by
 obtain⟨fields,h1,h2⟩:=(O.get hi).struct hk;rw[h2] at hf;simp only[A5,Bz,Array.getElem?_toList] at hf;obtain⟨fl,h3,h4⟩:=hf;cases h4;simp only[Instr.fieldAt,Ae,Aq h1 w,χ,h3,Instr.sureAddr,Af,fieldPlace,(O.get W).size_run w];simp[hz,xM]
theorem aF4 {t J:TypeId}{i N:TI}{fs:List (Nat×TypeId)}{f I:Nat}{x:Operand}{id off:Nat}(Y:Tok P T) (Z:o.op=.fieldAddr t x f) (hd:o.dst=some d) (O:d<n) (hi:T[t]?=some (some i)) (hk:i.k=.st fs) (hf:fs[f]?=some (I,J)) (W:T[J]?=some (some N)) (hz:N.size≠0)
  (hx:opv st x=some (.one (.vp id off))):Step P n o st ⟨opr x,[]⟩ ⟨some (d,some (.one (.vp id (off+I)))),[]⟩:=by
 refine Step.value hd O fun st' ha G S μ a w hs=>?_
 have hv:=aO hs hx ha.1;simp only[aY,bB] at hv;obtain⟨t',cells',b,c,h1,h2,h3⟩:=hv;refine⟨.pointer (some ⟨b,off+I,none⟩),?_,?_⟩
 ·simp only[execOp,Z,h3,Ae,iF Y hi hk hf W hz,χ,Af]
 ·simp only[aY,bB];exact⟨t',cells',b,c,h1,h2,rfl⟩
theorem aF6 {t J:TypeId}{i N:TI}{fs:List (Nat×TypeId)}{f I:Nat}{x:Operand}{l:List C}(Y:Tok P T) (Z:o.op=.fieldAddr t x f) (hd:o.dst=some d) (O:d<n) (hi:T[t]?=some (some i)) (hk:i.k=.st fs) (hf:fs[f]?=some (I,J)) (W:T[J]?=some (some N)) (hz:N.size≠0)
  (hx:opv st x=some (.one (.c (.pt l)))):Step P n o st ⟨opr x,[]⟩ ⟨some (d,some (.one (.c (.pt (l.drop I))))),[]⟩:=by
 refine Step.value hd O fun st' ha G S μ a w hs=>?_
 have hv:=aO hs hx ha.1;simp only[aY,bB,Rep] at hv;obtain⟨b,off,h1,vs,h2,h3⟩:=hv;refine⟨.pointer (some ⟨b,off+I,none⟩),?_,?_⟩
 ·simp only[execOp,Z,h1,Ae,iF Y hi hk hf W hz,χ,Af]
 ·simp only[aY,bB,Rep];refine⟨b,off+I,rfl,vs.drop I,h2.drop I,fun j v hj=>?_⟩;rw[An] at hj;have:=h3 (I+j) v hj;rwa [←Cc] at this
theorem aF7 {t N:TypeId}{i O:TI}{fs:List (Nat×TypeId)}{f I:Nat}{x:Operand}{id k fo sz:Nat}(hT:Tok P T) (ho:o.op=.fieldAddr t x f) (hd:o.dst=some d) (W:d<n) (hi:T[t]?=some (some i)) (hk:i.k=.st fs) (hf:fs[f]?=some (I,N)) (Y:T[N]?=some (some O)) (hz:O.size≠0)
  {te es:Nat} {elems:List (List C)} {fz:Nat} (hx:opv st x=some (.one (.ep id k fo sz))) (hh:st.h id=some (.arr te es elems fz)) (Z:sz=elems.length):Step P n o st ⟨opr x,[id]⟩ ⟨some (d,some (.one (.ep id k (fo+I) sz))),[]⟩:=by
 refine Step.value hd W fun st' ha G S μ a w hs=>?_
 have hv:=aO hs hx ha.1;have J:st'.h id=some (.arr te es elems fz):=by rw[ha.2 id (by simp),hh]
 simp only[aY,bB] at hv;obtain⟨_,hv | ⟨te',es',elems',fz',h1,h2,h3⟩⟩:=hv
 ·rw[J] at hv;cases hv
 rw[J] at h1;cases h1;obtain⟨h4,b,base,cap,h5,h6⟩:=h3 Z;refine⟨.pointer (some ⟨b,base+k*es+fo+I,none⟩),?_,?_⟩
 ·simp only[execOp,ho,h6,Ae,iF hT hi hk hf Y hz,χ,Af]
 ·simp only[aY,bB];exact⟨⟨_,rfl⟩,.inr ⟨te,es,elems,fz,J,h2,fun _=>⟨h4,b,base,cap,h5,by rw[Cc]⟩⟩⟩
theorem jL {t e:TypeId}{i I:TI}(J:Tok P T) (hi:T[t]?=some (some i)) (hk:i.k=.sl e) (N:T[e]?=some (some I)) (w:World) (b off len cap k:Nat) (kk:IntKind) (O:k<len):
  (Instr.indexAt t (.slice (some ⟨b,off,none⟩) len cap) (.int kk (k:Int))).run P w=.ok (.pointer (some ⟨b,off+k*I.size,none⟩)) w:=by
 have h1:=(J.get hi).slice hk;simp only[Instr.indexAt,asIntOf,Ae,Af,χ,Aq h1 w];rw[θ ⟨by omega,by omega⟩];simp only[Ae,(J.get N).size_run w,χ,Af,Int.toNat_natCast,xM]
theorem aSo {t e:TypeId}{i N:TI}{x y:Operand}{es k:Nat}{kk:IntKind}{m:Int}{l:List (List C)}{r:List C}(hT:Tok P T) (ho:o.op=.indexAddr t x y) (hd:o.dst=some d) (O:d<n) (hi:T[t]?=some (some i)) (hk:i.k=.sl e) (W:T[e]?=some (some N)) (Y:N.size=es)
  (hx:opv st x=some (.one (.c (.sl es l)))) (hy:opv st y=some (I kk m)) (hm:m=(k:Int)) (Z:l[k]?=some r):Step P n o st ⟨opr x++opr y,[]⟩ ⟨some (d,some (.one (.c (.pt r)))),[]⟩:=by
 refine Step.value hd O fun st' ha G S μ a w hs=>?_
 have hv:=aO hs hx (eO ha).1;have aa:=eY (aO hs hy (eO ha).2);have hlt:k<l.length:=(ε.1 Z).1
 simp only[aY,bB,Rep] at hv;obtain⟨J,len,cap,h1,h2,h3,h4,h5,h6,b,off,h7,h8⟩:=hv;cases J with
 | none=>have:=(h5 rfl).1;omega
 | some J=>
  obtain⟨h9,h10⟩:=h7 J rfl;have h11:=h6 J rfl (by omega);have ab:J=⟨b,off,none⟩:=by cases J;simp_all
  subst ab;subst hm;obtain⟨q1,vs,q2,q3⟩:=h8.get k r Z;refine⟨.pointer (some ⟨b,off+k*es,none⟩),?_,?_⟩
  ·simp only[execOp,ho,h1,aa,Ae,jL hT hi hk W w b off len cap k kk (by omega),χ,Af,Y]
  ·simp only[aY,bB,Rep];exact⟨b,off+k*es,rfl,vs,q2,q3⟩
theorem tM {t e:TypeId}{i O:TI}{x y:Operand}{te es k id off len sz:Nat}{kk:IntKind}{m:Int}{elems:List (List C)}{fz:Nat}(hT:Tok P T) (ho:o.op=.indexAddr t x y) (hd:o.dst=some d) (W:d<n) (hi:T[t]?=some (some i)) (hk:i.k=.sl e) (Y:T[e]?=some (some O)) (Z:O.size=es)
  (hx:opv st x=some (.one (.hs id off len sz))) (hh:st.h id=some (.arr te es elems fz)) (N:sz=elems.length) (hy:opv st y=some (I kk m)) (hm:m=(k:Int)) (aa:k<len):Step P n o st ⟨opr x++opr y,[id]⟩ ⟨some (d,some (.one (.ep id (off+k) 0 sz))),[]⟩:=by
 refine Step.value hd W fun st' ha G S μ a w hs=>?_
 have hv:=aO hs hx fun t ht=>ha.1 t (by simp[ht])
 have ab:=eY (aO hs hy fun t ht=>ha.1 t (by simp[ht]));have J:st'.h id=some (.arr te es elems fz):=by rw[ha.2 id (by simp),hh]
 simp only[aY,bB] at hv;obtain⟨_,hv | ⟨te',es',elems',fz',h1,h2,h3⟩⟩:=hv
 ·rw[J] at hv;cases hv
 rw[J] at h1;cases h1;obtain⟨h4,⟨h5,h6,h7⟩ | ⟨b,base,cap,h5,h6⟩⟩:=h3 N
 ·subst h6;simp at N;omega
 subst hm;refine⟨.pointer (some ⟨b,base+(off+k)*es+0,none⟩),?_,?_⟩
 ·simp only[execOp,ho,h6,ab,Ae,jL hT hi hk Y w b (base+off*es) len _ k kk aa,χ,Af,Z,Bu];rw[show base+off*es+k*es=base+(off+k)*es by rw[A0];omega]
 ·simp only[aY,bB];exact⟨⟨_,rfl⟩,.inr ⟨te,es,elems,fz,J,h2,fun _=>⟨by omega,b,base,cap,h5,rfl⟩⟩⟩
theorem y6 {t e:TypeId}{m:Nat}{i I:TI}(J:Tok P T) (hi:T[t]?=some (some i)) (hk:i.k=.ar m e) (N:T[e]?=some (some I)) (w:World) (b off k:Nat) (kk:IntKind) (O:k<m):
  (Instr.indexAt t (.pointer (some ⟨b,off,none⟩)) (.int kk (k:Int))).run P w=.ok (.pointer (some ⟨b,off+k*I.size,none⟩)) w:=by
 have h1:=(J.get hi).array hk;have h2:(Instr.sureAddr (.pointer (some ⟨b,off,none⟩))).run P w=.ok ⟨b,off,none⟩ w:=by simp[Instr.sureAddr]
 simp only[Instr.indexAt,asIntOf,Ae,Af,χ,Aq h1 w,h2];rw[θ ⟨by omega,by omega⟩];simp only[Ae,(J.get N).size_run w,χ,Af,Int.toNat_natCast,xM]
theorem aBh {t e:TypeId}{i J:TI}{x y:Operand}{id off k m:Nat}{kk:IntKind}{q:Int}(Z:Tok P T) (ho:o.op=.indexAddr t x y) (hd:o.dst=some d) (N:d<n) (hi:T[t]?=some (some i)) (hk:i.k=.ar m e) (O:T[e]?=some (some J))
  (hx:opv st x=some (.one (.vp id off))) (hy:opv st y=some (I kk q)) (hm:q=(k:Int)) (W:k<m):Step P n o st ⟨opr x++opr y,[]⟩ ⟨some (d,some (.one (.vp id (off+k*J.size)))),[]⟩:=by
 refine Step.value hd N fun st' ha G S μ a w hs=>?_
 have hv:=aO hs hx (eO ha).1;have Y:=eY (aO hs hy (eO ha).2);simp only[aY,bB] at hv;obtain⟨t',cells',b,c,h1,h2,h3⟩:=hv;subst hm;refine⟨.pointer (some ⟨b,off+k*J.size,none⟩),?_,?_⟩
 ·simp only[execOp,ho,h3,Y,Ae,y6 Z hi hk O w b off k kk W,χ,Af]
 ·simp only[aY,bB];exact⟨t',cells',b,c,h1,h2,rfl⟩
def notNil:V→Bool
 | .one (.vp _ _)=>true
 | .one (.c (.pt _))=>true
 | .one (.pas _)=>true
 | _=>false
theorem aF0 {x:Operand}{y:V}(J:o.op=.nilCheck x) (hd:o.dst=some d) (N:d<n) (hx:opv st x=some y) (I:notNil y=true):Step P n o st ⟨opr x,[]⟩ ⟨some (d,some y),[]⟩:=by
 refine Step.value hd N fun st' ha G S μ a w hs=>⟨a.eval x,?_,aO hs hx ha.1⟩
 have hv:=aO hs hx ha.1;unfold notNil at I;split at I
 ·simp only[aY,bB] at hv;obtain⟨t',cells',b,c,h1,h2,h3⟩:=hv;simp[execOp,J,h3]
 ·simp only[aY,bB,Rep] at hv;obtain⟨b,off,h1,_⟩:=hv;simp[execOp,J,h1]
 ·simp only[aY,bB] at hv;obtain⟨b,off,h1,_⟩:=hv;simp[execOp,J,h1]
 ·cases I
theorem jK {t:TypeId}{x:Operand}{a:Act}{w:World}{u:Value}{m:Int}(I:o.op=.call { callee:=.builtin .len,args:= #[x],argTypes:= #[t] }) (hx:a.eval x=u) (J:(Builtin.len_ #[t] o.type #[u]).run P w=.ok (goInt m) w):
  (execOp a.eval o).run P w=.ok (.value (goInt m)) w:=by
 simp only[execOp,I,resolve,map_toArray,Al,By,hx,Ae,Af,χ,invoke,builtin,J]
theorem aN4 {t e:TypeId}{i:TI}{x:Operand}{es:Nat}{l:List (List C)}(N:Tok P T) (O:o.op=.call { callee:=.builtin .len,args:= #[x],argTypes:= #[t] }) (hd:o.dst=some d) (J:d<n) (hi:T[t]?=some (some i)) (hk:i.k=.sl e)
  (hx:opv st x=some (.one (.c (.sl es l)))):Step P n o st ⟨opr x,[]⟩ ⟨some (d,some (I .i64 (l.length:Int))),[]⟩:=by
 refine Step.value hd J fun st' ha G S μ a w hs=>?_
 have hv:=aO hs hx ha.1;simp only[aY,bB,Rep] at hv;obtain⟨W,len,cap,h1,h2,_⟩:=hv;refine⟨goInt l.length,jK O h1 ?_,by simp[aY,bB,Rep,goInt]⟩;simp[Builtin.len_,Aq ((N.get hi).slice hk) w,h2]
theorem aN6 {t e:TypeId}{i:TI}{x:Operand}(N:Tok P T) (O:o.op=.call { callee:=.builtin .len,args:= #[x],argTypes:= #[t] }) (hd:o.dst=some d) (J:d<n) (hi:T[t]?=some (some i)) (hk:i.k=.sl e)
  (hx:opv st x=some (.one (.c .nl))):Step P n o st ⟨opr x,[]⟩ ⟨some (d,some (I .i64 0)),[]⟩:=by
 refine Step.value hd J fun st' ha G S μ a w hs=>?_
 have hv:=aO hs hx ha.1;simp only[aY,bB,Rep] at hv;refine⟨goInt 0,jK O hv ?_,by simp[aY,bB,Rep,goInt]⟩;simp[Builtin.len_,Aq ((N.get hi).slice hk) w]
theorem aDv {t e:TypeId}{i:TI}{x:Operand}{te es id off len sz:Nat}{elems:List (List C)}{fz:Nat}(O:Tok P T) (W:o.op=.call { callee:=.builtin .len,args:= #[x],argTypes:= #[t] }) (hd:o.dst=some d) (Y:d<n) (hi:T[t]?=some (some i)) (hk:i.k=.sl e)
  (hx:opv st x=some (.one (.hs id off len sz))) (hh:st.h id=some (.arr te es elems fz)) (J:sz=elems.length):Step P n o st ⟨opr x,[id]⟩ ⟨some (d,some (I .i64 (len:Int))),[]⟩:=by
 refine Step.value hd Y fun st' ha G S μ a w hs=>?_
 have hv:=aO hs hx ha.1;have N:st'.h id=some (.arr te es elems fz):=by rw[ha.2 id (by simp),hh]
 simp only[aY,bB] at hv;obtain⟨_,hv | ⟨aa,ab,elems',ac,h1,h2,h3⟩⟩:=hv
 ·rw[N] at hv;cases hv
 rw[N] at h1;cases h1;obtain⟨h4,⟨h5,h6,h7⟩ | ⟨b,base,cap,h5,h6⟩⟩:=h3 J
 ·subst h6;simp at J;have Z:len=0:=by omega
  refine⟨goInt len,jK W h7 ?_,by simp[aY,bB,Rep,goInt]⟩;simp[Builtin.len_,Aq ((O.get hi).slice hk) w,Z]
 ·refine⟨goInt len,jK W h6 ?_,by simp[aY,bB,Rep,goInt]⟩;simp[Builtin.len_,Aq ((O.get hi).slice hk) w]
theorem aIt {t:TypeId}{i:TI}{x:Operand}{s:List UInt8}(N:Tok P T) (O:o.op=.call { callee:=.builtin .len,args:= #[x],argTypes:= #[t] }) (hd:o.dst=some d) (J:d<n) (hi:T[t]?=some (some i)) (hk:i.k=.str)
  (hx:opv st x=some (Go.AM.T s)):Step P n o st ⟨opr x,[]⟩ ⟨some (d,some (I .i64 (s.length:Int))),[]⟩:=by
 refine Step.value hd J fun st' ha G S μ a w hs=>?_
 have hv:=kQ (aO hs hx ha.1);refine⟨goInt s.length,jK O hv ?_,by simp[aY,bB,Rep,goInt]⟩;simp[Builtin.len_,Aq ((N.get hi).str hk) w];rfl
end
section
variable {P:Program}{n:Nat}{o:Oper}{st:St}{d:Nat}{T:TT}
theorem nN (off:Nat):∀(vs:List Value) (j:Nat) (cells:Array Value),off+j+vs.length≤cells.size→
  (vs.zipIdx j).foldl (fun cs (x:Value×Nat)=>cs.setIfInBounds (off+x.2) x.1) cells=⟨bX cells.toList (off+j) vs⟩
 | [],j,cells,_=>by simp[bX]
 | v::vs,j,cells,h=>by
  simp only[Aj] at h;have Z:=nN off vs (j+1) (cells.setIfInBounds (off+j) v) (by simp;omega);simp only[List.zipIdx_cons,foldl_cons,Z];congr 1;unfold bX;simp only[Array.toList_setIfInBounds];apply Bo;intro k;simp only[Bx,Aa,At,B0,Bf,Aj,Av,An,List.getElem?_set];have N:min (off+(j+1)) cells.size=off+j+1:=by omega
  have O:min (off+j) cells.size=off+j:=by omega
  simp only[N,O];by_cases W:k<off+j
  ·have I:k<off+j+1+vs.length:=by omega
   have a2:k<off+j+1:=by omega
   have a3:k<off+(j+1):=by omega
   have a4:k<off+j+(vs.length+1):=by omega
   have a5:¬off+j=k:=by omega
   simp[W,I,a2,a3,a4,a5]
  ·by_cases c2:k=off+j
   ·subst c2;have I:off+j<off+j+1+vs.length:=by omega
    have a5:off+j<cells.size:=by omega
    have J:off+j<off+(j+1):=by omega
    simp[I,a5,J]
   ·by_cases Y:k<off+j+1+vs.length
    ·have a2:¬k<off+j+1:=by omega
     have a4:k<off+j+(vs.length+1):=by omega
     have J:k-(off+j)=(k-(off+j+1))+1:=by omega
     simp[W,Y,a2,a4,J]
    ·have a4:¬k<off+j+(vs.length+1):=by omega
     have a5:¬off+j=k:=by omega
     simp[Y,a4,a5,show off+(j+1)+vs.length+(k-(off+j+1+vs.length))=k by omega,show off+j+(vs.length+1)+(k-(off+j+(vs.length+1)))=k by omega]
def oY (st:St):List (Nat×Operand)→Option (List (Nat×List R))
 | []=>some []
 | (i,x)::ps=>match opv st x with
  | some v=>match hJ v with
   | some rs=>match oY st ps with | some l=>some ((i,rs)::l) | none=>none
   | none=>none
  | none=>none
def fU:List (Nat×Operand)→List Nat
 | []=>[]
 | (_,x)::ps=>opr x++fU ps
def aGm (places:List (Nat×Nat)):List R→List (Nat×List R)→Option (List R)
 | cells,[]=>some cells
 | cells,(i,rs)::ps=>match places[i]? with
  | some (off,size)=>if Nat.beq rs.length size&&Nat.ble (off+rs.length) cells.length then aGm places (bX cells off rs) ps else none
  | none=>none
def kP (T:TT):List (Nat×TypeId)→Option (List (Nat×Nat))
 | []=>some []
 | (off,t)::fs=>match T[t]? with
  | some (some i)=>match kP T fs with | some l=>some ((off,i.size)::l) | none=>none
  | _=>none
theorem aGb {G:Ctx}{S:Sto}{μ:Mu}{st':St}{a:Act}{w:World}(hs:Sim G n S μ st' a w):∀(ps:List (Nat×Operand)) (l:List (Nat×List R)),oY st ps=some l→(∀t∈fU ps,st'.e t=st.e t)→
  ∃vs:List (Nat×Value),ps.map (fun(i,x)=>(i,a.eval x))=vs∧vs.length=l.length∧∀(k:Nat) (p:Nat×List R),l[k]?=some p→∃v:Value,vs[k]?=some (p.1,v)∧aV S μ st'.h p.2 v.cells.toList:=by
 intro ps
 induction ps with
 | nil=>intro l h _;simp[oY] at h;subst h;exact⟨[],rfl,rfl,fun k p h=>by simp at h⟩
 | cons p ps N=>
  obtain⟨i,x⟩:=p;intro l h ha;simp only[oY] at h;split at h
  ·rename_i v hv;split at h
   ·rename_i rs hc;split at h
    ·rename_i l' J;cases h;obtain⟨vs,h1,h2,h3⟩:=N l' J fun t ht=>ha t (by simp[fU,ht])
     refine⟨(i,a.eval x)::vs,by simp[h1],by simp[h2],fun k q I=>?_⟩;cases k with
     | zero=>
      simp at I;subst I;exact⟨a.eval x,rfl,eL (aO hs hv fun t ht=>ha t (by simp[fU,ht])) hc⟩
     | succ k=>simp at I;simpa using h3 k q I
    ·cases h
   ·cases h
  ·cases h
theorem oC {S:Sto}{μ:Mu}{H:cO}{cells rs:List R}{vs us:List Value}{off:Nat}(h:aV S μ H cells vs) (k:aV S μ H rs us):aV S μ H (bX cells off rs) (bX vs off us):=by
 have hl:=k.length;unfold bX;rw[hl];exact((h.take off).append k).append (h.drop _)
theorem aK3 {S:Sto}{μ:Mu}{H:cO}{places:List (Nat×Nat)}:∀(ps:List (Nat×List R)) (vs:List (Nat×Value)) (cells:List R) (cs:Array Value) (out:List R),aGm places cells ps=some out→aV S μ H cells cs.toList→
  vs.length=ps.length→(∀(k:Nat) (p:Nat×List R),ps[k]?=some p→∃v:Value,vs[k]?=some (p.1,v)∧aV S μ H p.2 v.cells.toList)→
  ∃I,Instr.fill (places[·]?) cs vs=some I∧aV S μ H out I.toList:=by
 intro ps
 induction ps with
 | nil=>
  intro vs cells cs out h N hl _;simp at hl;subst hl;simp[aGm] at h;subst h;exact⟨cs,rfl,N⟩
 | cons p ps ih=>
  intro vs cells cs out h N hl hp;obtain⟨i,rs⟩:=p
  match vs,hl with
  | q::vs,hl=>
   obtain⟨v,hv,J⟩:=hp 0 (i,rs) rfl;simp at hv;subst hv;simp only[aGm] at h;split at h
   ·rename_i off size Y;split at h
    ·rename_i hc;simp only[Ah] at hc;have hc1:=Ab hc.1;have hc2:=Ap hc.2;have Z:=J.length;have aa:=N.length;simp only[Bf] at Z aa;have W:=nN off v.cells.toList 0 cs (by simp;omega);obtain⟨I,h1,h2⟩:=ih vs (bX cells off rs) ⟨bX cs.toList off v.cells.toList⟩ out h (oC N J) (by simpa using hl) fun k p hk=>by simpa using hp (k+1) p (by simpa using hk)
     refine⟨I,?_,h2⟩;simp only[Instr.fill];rw[Y];simp only[];have O:(v.cells.size≠size || decide (off+v.cells.size>cs.size))=false:=by
      simp only[Bool.or_eq_false_iff,Cs];exact⟨by simp;omega,by omega⟩
     simp only[O,Bc,Bt];have ab:(v.cells.zipIdx.foldl (fun cs (x:Value×Nat)=>cs.setIfInBounds (off+x.2) x.1) cs)=⟨bX cs.toList off v.cells.toList⟩:=by
      rw[←Array.foldl_toList,Array.toList_zipIdx];simpa using W
     rw[←h1];congr 1
    ·cases h
   ·cases h
theorem tT (J:Tok P T):∀(fs:List (Nat×TypeId)) (fields:List Field) (places:List (Nat×Nat)),fs=fields.map (fun f=>(f.offset,f.type))→kP T fs=some places→
  fields.mapM (fun f=>(P.info? f.type).map fun i=>(f.offset,i.size))=some places
 | _,[],places,h,hp=>by simp at h;subst h;simp[kP] at hp;subst hp;rfl
 | _,f::fields,places,h,hp=>by
  simp only[Al] at h;subst h;simp only[kP] at hp;split at hp
  ·rename_i i hi;split at hp
   ·rename_i l hl;cases hp;have O:=tT J _ fields l rfl hl;have I:=(J.get hi).info;simp only[List.mapM_cons,O];cases N:P.info? f.type with
    | none=>simp[N] at I
    | some inf=>
     simp[N] at I;simp[I]
   ·cases hp
  ·cases hp
theorem aSu {t:TypeId}{i:TI}{fs:List (Nat×TypeId)}{places:List (Nat×Nat)}{parts:Array (Nat×Operand)}{ps:List (Nat×List R)}{out:List R}(J:Tok P T) (Z:o.op=.build t parts) (hd:o.dst=some d) (N:d<n) (hi:T[t]?=some (some i)) (hk:i.k=.st fs)
  (O:kP T fs=some places) (W:oY st parts.toList=some ps) (hf:aGm places (i.zero.map R.c) ps=some out):Step P n o st ⟨fU parts.toList,[]⟩ ⟨some (d,some (aUz out)),[]⟩:=by
 refine Step.value hd N fun st' ha G S μ a w hs=>?_
 obtain⟨vs,h1,h2,h3⟩:=aGb hs _ _ W ha.1;obtain⟨fields,hu,Y⟩:=(J.get hi).struct hk;obtain⟨inf,dd,z,g1,g2,g3,g4,g5,g6,g7,g8⟩:=(J.get hi).ex;obtain⟨I,h4,h5⟩:=aK3 (S:=S) (μ:=μ) (H:=st'.h) ps vs (i.zero.map R.c) z.cells out hf (jF g7).toR h2 h3;refine⟨.agg I,?_,?_⟩
 ·have hb:P.built t (parts.map fun(i,x)=>(i,a.eval x)).toList=some I:=by
   unfold Program.built;simp only[g1,hu,g6,tT J fs fields.toList places Y O];rw[←h4,←h1];simp
  simp only[execOp,Z,Ae,run_build w t _ I hb,χ,Af]
 ·have:=aFo h5;simpa using this
theorem aSp {t ft:TypeId}{i J:TI}{fs:List (Nat×TypeId)}{f N:Nat}{x:Operand}{v y:V}{rs:List R}(W:Tok P T) (ho:o.op=.field t x f) (hd:o.dst=some d) (hdn:d<n) (hi:T[t]?=some (some i)) (hk:i.k=.st fs) (hf:fs[f]?=some (N,ft)) (O:T[ft]?=some (some J))
  (hx:opv st x=some v) (hag:(match v with | .pa _=>true | .ma _=>true | _=>false)=true) (hc:hJ v=some rs) (hl:Nat.ble (N+J.size) rs.length=true) (hy:pL J ((rs.drop N).take J.size)=some y):Step P n o st ⟨opr x,[]⟩ ⟨some (d,some y),[]⟩:=by
 refine Step.value hd hdn fun st' ha G S μ a w hs=>?_
 have hv:=aO hs hx ha.1;have I:=eL hv hc;have aa:∃cs,a.eval x=.agg cs:=by
  cases v<;>simp only[aY] at hv<;>simp at hag
  ·obtain⟨vs,h,_⟩:=hv;exact⟨_,h⟩
  ·obtain⟨vs,h,_⟩:=hv;exact⟨_,h⟩
 obtain⟨cs,Y⟩:=aa;rw[Y] at I;simp only[Value.cells] at I;have hll:=I.length;have hl':=Ap hl;simp only[Bf] at hll;obtain⟨fields,h1,h2⟩:=(W.get hi).struct hk;rw[h2] at hf;simp only[A5,Bz,Array.getElem?_toList] at hf;obtain⟨fl,h3,h4⟩:=hf;cases h4;have ab:=kW ((I.drop fl.offset).take J.size) hy;refine⟨_,?_,ab⟩;simp only[execOp,ho,Y,Ae,Instr.field,Aq h1 w,χ,h3,asAgg,Af,part,(W.get O).agg_run w];cases hka:J.k.agg with
 | true=>
  simp only[Cn,Ae,(W.get O).size_run w,χ,Af];congr 3;have:(cs.extract fl.offset (fl.offset+J.size)).toList=(cs.toList.drop fl.offset).take J.size:=by simp
  rw[←this]
 | false=>
  have h1s:=(W.get O).one hka;simp only[Bc,Bt];have Z:fl.offset<cs.size:=by omega
  have he:cs[fl.offset]?=some cs[fl.offset]:=by simp[Z]
  rw[he];simp only[Af,χ];congr 2;rw[h1s,List.take_one,List.head?_drop];simp[Z]
end
inductive Cle:C→C→Prop
 | refl {x}:Cle x x
 | nl {es}:Cle .nl (.sl es [])
 | sn {es l}:Cle (.sn es l) (.sl es l)
 | sg {te es l}:Cle (.sg te es l) (.sl es l)
theorem Cle.rep {S:Sto}{x y:C}{v:Value}(h:Cle x y) (k:Rep S x v):Rep S y v:=by
 cases h with
 | refl=>exact k
 | sg=>
  simp only[Rep] at k ⊢;obtain⟨a,len,cap,h1,h2,h3,h4,h5⟩:=k;rcases h5 with⟨rfl,h5,h6⟩ | ⟨b,o,rfl,h6,_⟩
  ·refine⟨none,len,cap,h1,h2,h3,h4,fun _=>⟨h5,h6⟩,by simp,0,0,by simp,?_⟩;have:(_:List (List C)).length=0:=h2.symm.trans h5;rw[Bb this];simp[bG]
  ·exact⟨some ⟨b,o,none⟩,len,cap,h1,h2,h3,h4,by simp,fun I e _=>by cases e;rfl,b,o,fun I e=>by cases e;exact⟨rfl,rfl⟩,h6⟩
 | nl=>
  simp only[Rep] at k ⊢;exact⟨none,0,0,k,by simp,le_refl _,Ak _,fun _=>⟨rfl,rfl⟩,by simp,0,0,by simp,by simp[bG]⟩
 | sn=>
  simp only[Rep] at k ⊢;obtain⟨b,o,sp,len,cap,h1,h2,h3,h4,J,h5⟩:=k;exact⟨some ⟨b,o,sp⟩,len,cap,h1,h2,h3,h4,by simp,by rintro I ⟨⟩;exact J,b,o,by rintro I ⟨⟩;exact⟨rfl,rfl⟩,h5⟩
inductive PureL (h:cO):List Nat→List R→List C→Prop
 | nil:PureL h [] [] []
 | c {ids rs cs x y}:Cle x y→PureL h ids rs cs→PureL h ids (.c x::rs) (y::cs)
 | hs {ids rs cs id off len sz te es elems e}:h id=some (.arr te es elems 2)→sz=elems.length→e=(elems.drop off).take len→PureL h ids rs cs→PureL h (id::ids) (.hs id off len sz::rs) (.sl es e::cs)
 | any {ids rs cs r}:PureL h ids rs cs→PureL h ids (r::rs) (.any::cs)
 | fn {ids rs cs f}:PureL h ids rs cs→PureL h ids (.clo f []::rs) (.fn f::cs)
 | ras {ids ids' ids0 rs cs n es l fl rows}:ids0=ids'++ids→PureL h ids' l fl→fl=rows.flatten→(∀r∈rows,r.length=es)→rows.length=n→PureL h ids rs cs→PureL h ids0 (.ras n es l::rs) (.sl es rows::cs)
theorem PureL.of_pure {h:cO}:∀{cs:List C},PureL h [] (cs.map R.c) cs
 | []=>.nil
 | _::_=>.c .refl PureL.of_pure
def aWg:List R→List C
 | []=>[]
 | .c x::l=>x::aWg l
 | .clo f []::l=>.fn f::aWg l
 | _::l=>.any::aWg l
theorem PureL.ofA {h:cO}:∀{rs:List R},PureL h [] rs (aWg rs)
 | []=>.nil
 | .c _::_=>.c .refl .ofA
 | .hs ..::_=>.any .ofA
 | .tl ..::_=>.any .ofA
 | .vp ..::_=>.any .ofA
 | .ep ..::_=>.any .ofA
 | .mr ..::_=>.any .ofA
 | .clo _ []::_=>.fn .ofA
 | .clo _ (_::_)::_=>.any .ofA
 | .mth ..::_=>.any .ofA
 | .yl ..::_=>.any .ofA
 | .ra ..::_=>.any .ofA
 | .rp ..::_=>.any .ofA
 | .ras ..::_=>.any .ofA
 | .pas ..::_=>.any .ofA
theorem aW0 {S:Sto}{μ:Mu}{H:cO}{w:World}{id off len sz te es:Nat}{elems:List (List C)}{v:Value}(J:mG S μ H w id (.arr te es elems 2)) (hh:H id=some (.arr te es elems 2)) (I:sz=elems.length)
  (hv:bB S μ H (.hs id off len sz) v):Rep S (.sl es ((elems.drop off).take len)) v:=by
 simp only[bB] at hv;obtain⟨_,hv | ⟨O,W,elems',Y,h1,h2,h3⟩⟩:=hv
 ·rw[hh] at hv;cases hv
 rw[hh] at h1;cases h1;obtain⟨h4,⟨h5,h6,h7⟩ | ⟨b,base,cap,h5,h6⟩⟩:=h3 I
 ·subst h6;simp only[Rep];exact⟨none,0,0,h7,by simp,le_refl _,Ak _,fun _=>⟨rfl,rfl⟩,by simp,0,0,by simp,by simp[bG]⟩
 ·obtain⟨g0,vs,g1,g2,g3,g4,g5,g6,g7,g8⟩:=J.arr h5;simp only[Rep];have hlen:((elems.drop off).take len).length=len:=by simp;omega
  refine⟨_,len,cap-off,h6,hlen.symm,by omega,le_trans (sub_le _ _) g4.1,by simp,by rintro N ⟨⟩;exact fun _=>rfl,b,base+off*es,by rintro N ⟨⟩;exact⟨rfl,rfl⟩,?_⟩;have:=bG.of_flat g0 g5 (g8 rfl);exact(this.drop off).take len
theorem PureL.rel {S:Sto}{μ:Mu}{H H0:cO}{w:World}:∀{ids:List Nat}{rs:List R}{cs:List C}{vs:List Value},PureL H0 ids rs cs→(∀i∈ids,H i=H0 i)→(∀id o,H id=some o→mG S μ H w id o)→aV S μ H rs vs→dI S cs vs:=by
 intro ids rs cs vs hp
 induction hp generalizing vs with
 | nil=>intro _ _ h;simp only[aV] at h;subst h;simp[dI]
 | c hc _ J=>
  intro hi I h;simp only[aV] at h;obtain⟨v,vs',rfl,h1,h2⟩:=h;simp only[bB] at h1;simp only[dI];exact⟨v,vs',rfl,hc.rep h1,J hi I h2⟩
 | @ras ids ids' ids0 rs cs n es l fl rows N _ O W hn _ Y J=>
  subst N;intro hi I h;simp only[aV] at h;obtain⟨v,vs',rfl,h1,h2⟩:=h;simp only[bB] at h1;simp only[dI];refine⟨v,vs',rfl,?_,J (fun i hh=>hi i (by simp[hh])) I h2⟩;obtain⟨a,cap,g1,g2,g3,g4,g5,g6,b,o,g7,us,g8,g9⟩:=h1;have g10:=Y (fun i hh=>hi i (by simp[hh])) I g8;subst O;simp only[Rep];exact⟨a,n,cap,g1,hn.symm,g3,g4,g5,fun ad e _=>g6 ad e,b,o,g7,bG.of_flat W g10 g9⟩
 | any _ J=>
  intro hi I h;simp only[aV] at h;obtain⟨v,vs',rfl,h1,h2⟩:=h;simp only[dI];exact⟨v,vs',rfl,by simp only[Rep];exact h1.one,J hi I h2⟩
 | fn _ J=>
  intro hi I h;simp only[aV] at h;obtain⟨v,vs',rfl,h1,h2⟩:=h;simp only[bB,aV] at h1;obtain⟨us,rfl,rfl⟩:=h1;simp only[dI];exact⟨_,vs',rfl,by simp only[Rep],J hi I h2⟩
 | @hs ids rs cs id off len sz te es elems e he Z aa _ J=>
  intro hi I h;simp only[aV] at h;obtain⟨v,vs',rfl,h1,h2⟩:=h;simp only[dI];have hh:H id=some (.arr te es elems 2):=by rw[hi id (by simp),he]
  exact⟨v,vs',rfl,by rw[aa];exact aW0 (I id _ hh) hh Z h1,J (fun i h=>hi i (by simp[h])) I h2⟩
inductive RowsV (st:St) (es:Nat):Nat→List Nat→List (Nat×Operand)→List (List C)→Prop
 | nil {k}:RowsV st es k [] [] []
 | cons {k ids ids' x ps v rs cs rows}:opv st x=some v→hJ v=some rs→PureL st.h ids rs cs→Nat.beq rs.length es=true→RowsV st es (k+1) ids' ps rows→RowsV st es k (ids++ids') ((k,x)::ps) (cs::rows)
section
variable {P:Program}{n:Nat}{o:Oper}{st:St}{d:Nat}{T:TT}
theorem aFw {G:Ctx}{S:Sto}{μ:Mu}{st':St}{a:Act}{w:World}(hs:Sim G n S μ st' a w) {es:Nat}:∀{k:Nat}{ids:List Nat}{ps:List (Nat×Operand)}{rows:List (List C)},RowsV st es k ids ps rows→(∀t∈fU ps,st'.e t=st.e t)→(∀i∈ids,st'.h i=st.h i)→
  ∀(cells:Array Value),cells.size=(k+ps.length)*es→∃out:Array Value,Instr.fill (fun i=>some (i*es,es)) cells (ps.map fun(i,x)=>(i,a.eval x))=some out∧out.size=cells.size∧
   ∃us,dI S rows.flatten us∧out.toList=cells.toList.take (k*es)++us∧(∀r∈rows,r.length=es):=by
 intro k ids ps rows h
 induction h with
 | nil=>
  intro _ _ cells hc;refine⟨cells,rfl,rfl,[],by simp[dI],?_,by simp⟩;rw[A8,Ba];simp at hc;simp[hc]
 | @cons k ids ids' x ps v rs cs rows hv hc hp hl _ ih=>
  intro ha hi cells O;have hl':=Ab hl;have I:=eL (aO hs hv fun t ht=>ha t (by simp[fU,ht])) hc;have J:=hp.rel (fun i h=>hi i (by simp[h])) hs.inv.obj I;have aa:=I.length;simp only[Bf] at aa;simp only[Aj] at O;have hke:(k+(ps.length+1))*es=k*es+es+ps.length*es:=by
   rw[A0,A0];omega
  have Y:=nN (k*es) (a.eval x).cells.toList 0 cells (by simp only[Bf];omega);have W:(bX cells.toList (k*es) (a.eval x).cells.toList).length=cells.size:=by
   unfold bX;simp;omega
  obtain⟨out,h1,h2,us,h3,h4,h5⟩:=ih (fun t ht=>ha t (by simp[fU,ht])) (fun i h=>hi i (by simp[h])) ⟨bX cells.toList (k*es) (a.eval x).cells.toList⟩ (by
   simp only[size_toArray,W,O];congr 1
   omega)
  refine⟨out,?_,by rw[h2];simpa using W,(a.eval x).cells.toList++us,?_,?_,?_⟩
  ·simp only[Al,Instr.fill];have N:((a.eval x).cells.size≠es || decide (k*es+(a.eval x).cells.size>cells.size))=false:=by
    simp only[Bool.or_eq_false_iff,Cs];exact⟨by simp;omega,by omega⟩
   simp only[N,Bc,Bt];have ab:((a.eval x).cells.zipIdx.foldl (fun cs (x:Value×Nat)=>cs.setIfInBounds (k*es+x.2) x.1) cells)=⟨bX cells.toList (k*es) (a.eval x).cells.toList⟩:=by
    rw[←Array.foldl_toList,Array.toList_zipIdx];simpa using Y
   rw[←h1];congr 1
  ·rw[Bi];exact J.append h3
  ·rw[h4];have:(bX cells.toList (k*es) (a.eval x).cells.toList).take ((k+1)*es)=cells.toList.take (k*es)++(a.eval x).cells.toList:=by
    unfold bX;apply take_left';simp;rw[A0];omega
   show(bX cells.toList (k*es) (a.eval x).cells.toList).take ((k+1)*es)++us=_;rw[this,Aw]
  ·intro r Z;rcases Ao.1 Z with rfl | Z
   ·have:=J.length;simp only[Bf] at this;omega
   ·exact h5 r Z
theorem RowsV.lengths {es k:Nat}{ids:List Nat}{ps:List (Nat×Operand)}{rows:List (List C)}(h:RowsV st es k ids ps rows):rows.length=ps.length:=by
 induction h with
 | nil=>rfl
 | cons _ _ _ _ _ I=>simp[I]
theorem aIn {t e:TypeId}{i I:TI}{len:Nat}{parts:Array (Nat×Operand)}{ids:List Nat}{rows:List (List C)}(id:Nat) (O:Tok P T) (ho:o.op=.buildSlice t len parts) (hd:o.dst=some d) (ae:d<n) (hi:T[t]?=some (some i)) (hk:i.k=.sl e) (J:T[e]?=some (some I))
  (N:RowsV st I.size 0 ids parts.toList rows) (hlen:Nat.beq len parts.size=true) (W:Nat.ble (len*I.size) 16777216=true) (ac:Nat.ble len 16777216=true) (hid:st.h id=none):
  Step P n o st ⟨fU parts.toList,id::ids⟩ ⟨some (d,some (.one (.hs id 0 len len))),[(id,some (.arr e I.size rows 0))]⟩:=by
 refine Step.new hd ae hid (by simp) fun st' ha hid' G S μ a w hs=>?_
 have aa:=Ab hlen;have hsm:=Ap W;obtain⟨z,hz,ag,_⟩:=(O.get J).zero_run;have ab:=(ag S).length;rw[(O.get J).len] at ab;simp only[Bf] at ab;have ah:=N.lengths;simp only[Bf] at ah;have key:∀(cells:Array Value),cells.size=len*I.size→∃out:Array Value,Instr.fill (fun i=>some (i*I.size,I.size)) cells (parts.map fun(i,x)=>(i,a.eval x)).toList=some out∧out.size=len*I.size∧dI S rows.flatten out.toList∧(∀r∈rows,r.length=I.size):=by
  intro cells hc;obtain⟨out,h1,h2,us,h3,h4,h5⟩:=aFw hs N ha.1 (fun i h=>ha.2 i (by simp[h])) cells (by rw[hc,aa];simp);refine⟨out,by rw[←h1];simp,by rw[h2,hc],?_,h5⟩;simp at h4;rw[h4];exact h3
 have ad:∃out:Array Value,(Instr.buildSlice t len (parts.map fun(i,x)=>(i,a.eval x))).run P w=.ok (.slice (some ⟨w.heap.size,0,none⟩) len len) (w.alloc (.cells out e))∧out.size=len*I.size∧dI S rows.flatten out.toList∧(∀r∈rows,r.length=I.size):=by
  by_cases h0:len*I.size=0
  ·obtain⟨out,h1,h2,h3,h4⟩:=key ((Array.range (len*I.size)).map ((#[]:Array Value)[· %(#[]:Array Value).size]!)) (by simp);refine⟨out,?_,h2,h3,h4⟩;have Y:¬len*I.size>2^24:=by omega
   simp only[Instr.buildSlice,Ae,Aq ((O.get hi).slice hk) w,χ,(O.get J).size_run w];rw[ψ Y,θ h0];simp only[Ae,χ,Af,h1,iA]
  ·obtain⟨out,h1,h2,h3,h4⟩:=key ((Array.range (len*I.size)).map (z.cells[· %z.cells.size]!)) (by simp);refine⟨out,?_,h2,h3,h4⟩;have Y:¬len*I.size>2^24:=by omega
   simp only[Instr.buildSlice,Ae,Aq ((O.get hi).slice hk) w,χ,(O.get J).size_run w];rw[ψ Y,ψ h0];simp only[Ae,hz w,χ,Af,h1,iA]
 obtain⟨out,h1,h2,h3,h4⟩:=ad;have ai:len≤maxLen:=by
  have:=Ap ac;unfold maxLen;omega
 refine⟨_,_,.slice (some ⟨w.heap.size,0,none⟩) len len,(0,len),?_,WChg.alloc w (.cells out e),?_,?_⟩
 ·simp only[execOp,ho,Ae,h1,χ,Af]
 ·have Z:rows.length=len:=by omega
  refine⟨h4,.inr ⟨w.heap.size,0,len,out.toList,aJ _ _ _,B7 w _,by simp[h2],by omega,⟨?_,rH hs.inv⟩,?_,fun _ o _=>gV hs.inv o,fun o _=>gV hs.inv o,fun e=>by cases e⟩⟩
  ·exact ai
  ·simp only[Cd];rw[Ba (by simp[h2,Z])];exact h3
 ·simp only[aY,bB];have Z:rows.length=len:=by omega
  exact⟨⟨_,_,_,rfl⟩,.inr ⟨e,I.size,rows,0,aJ _ _ _,by omega,fun _=>⟨by omega,.inr ⟨w.heap.size,0,len,aJ _ _ _,by simp⟩⟩⟩⟩
end
inductive Src (st:St) (es:Nat):List Nat→V→List (List C)→Prop
 | hs {id off len sz te elems fz rows}:st.h id=some (.arr te es elems fz)→sz=elems.length→rows=(elems.drop off).take len→Src st es [id] (.one (.hs id off len sz)) rows
 | all {id sz te elems fz}:st.h id=some (.arr te es elems fz)→sz=elems.length→Src st es [id] (.one (.hs id 0 sz sz)) elems
 | sl {l}:Src st es [] (.one (.c (.sl es l))) l
 | nl:Src st es [] (.one (.c .nl)) []
 | sn {l}:Src st es [] (.one (.c (.sn es l))) l
theorem z8 {α:Type}{es:Nat}:∀{l:List (List α)},(∀r∈l,r.length=es)→∀k:Nat,(l.take k).flatten=l.flatten.take (k*es)
 | [],_,k=>by simp
 | x::xs,hl,0=>by simp
 | x::xs,hl,k+1=>by
  have hx:=hl x (by simp);have I:=z8 (l:=xs) (fun r J=>hl r (by simp[J])) k;rw[Az,Bi,Bi,I,List.take_append,Ba (l:=x) (by rw[hx,A0];omega)];rw[show(k+1)*es-x.length=k*es by rw[hx,A0];omega]
theorem zA {α:Type}{es:Nat}:∀{l:List (List α)},(∀r∈l,r.length=es)→∀k:Nat,(l.drop k).flatten=l.flatten.drop (k*es)
 | [],_,k=>by simp
 | x::xs,hl,0=>by simp
 | x::xs,hl,k+1=>by
  have hx:=hl x (by simp);have I:=zA (l:=xs) (fun r J=>hl r (by simp[J])) k;rw[Cr,Bi,I,drop_append,drop_of_length_le (l:=x) (by rw[hx,A0];omega),Be];rw[show(k+1)*es-x.length=k*es by rw[hx,A0];omega]
theorem bG.flat {S:Sto}{es b:Nat}:∀{l:List (List C)}{o:Nat},bG S es b l o→∃vs,dI S l.flatten vs∧fH S b o vs∧∀r∈l,r.length=es
 | [],_,_=>⟨[],by simp[dI],fun i v h=>by simp at h,by simp⟩
 | r::rs,o,h=>by
  simp only[bG] at h;obtain⟨h1,⟨vs,h2,h3⟩,h4⟩:=h;obtain⟨us,h5,h6,h7⟩:=bG.flat h4;have hl:=h2.length;refine⟨vs++us,by rw[Bi];exact h2.append h5,fun i v hi=>?_,?_⟩
  ·rw[Bx] at hi;split at hi
   ·exact h3 i v hi
   ·have:=h6 _ v hi;rwa [show o+es+(i-vs.length)=o+i by omega] at this
  ·intro q I;rcases Ao.1 I with rfl | I
   ·exact h1
   ·exact h7 q I
theorem Src.rel {G:Ctx}{n:Nat}{S:Sto}{μ:Mu}{st st':St}{a:Act}{w:World}{es:Nat}{ids:List Nat}{y:V}{rows:List (List C)}{v:Value}(hs:Sim G n S μ st' a w) (h:Src st es ids y rows) (hi:∀i∈ids,st'.h i=st.h i) (hv:aY S μ st'.h y v):
  ∃I c news,v=.slice I rows.length c∧dI S rows.flatten news∧(∀r∈rows,r.length=es)∧(I=none→rows=[])∧∀x,I=some x→∀j u,news[j]?=some u→w.cell? (x.add j)=some u:=by
 have W:∀{id off len sz te elems fz rows},st.h id=some (.arr te es elems fz)→sz=elems.length→rows=(elems.drop off).take len→(∀i∈[id],st'.h i=st.h i)→aY S μ st'.h (.one (.hs id off len sz)) v→
   ∃I c news,v=.slice I rows.length c∧dI S rows.flatten news∧(∀r∈rows,r.length=es)∧(I=none→rows=[])∧∀x,I=some x→∀j u,news[j]?=some u→w.cell? (x.add j)=some u:=by
  intro id off len sz te elems fz rows he O J hi hv;have hh:st'.h id=some (.arr te es elems fz):=by rw[hi id (by simp),he]
  simp only[aY,bB] at hv;obtain⟨_,hv | ⟨te',es',elems',fz',h1,h2,h3⟩⟩:=hv
  ·rw[hh] at hv;cases hv
  rw[hh] at h1;cases h1;obtain⟨h4,⟨h5,h6,h7⟩ | ⟨b,base,cap,h5,h6⟩⟩:=h3 O
  ·subst h6;simp at J;subst J;exact⟨none,0,[],h7,by simp[dI],by simp,fun _=>rfl,by simp⟩
  ·obtain⟨g0,vs,g1,g2,g3,g4,g5,g6,g7,g8⟩:=(hs.inv.obj id _ hh).arr h5;have hrl:rows.length=len:=by rw[J];simp;omega
   have hfl:rows.flatten=(elems.flatten.drop (off*es)).take (len*es):=by
    rw[J,z8 (fun r J=>g0 r (Cx J)),zA g0]
   refine⟨_,cap-off,_,by rw[hrl];exact h6,by rw[hfl];exact(g5.drop (off*es)).take (len*es),fun r hr'=>g0 r (Cx (Bs (J▸hr'))),by simp,?_⟩;rintro x ⟨⟩ j u hj;rw[Addr.add_mid,cell_of_row w b _ ⟨vs⟩ te (0,0) g1];rw[Av] at hj;split at hj
   ·rw[An,Av] at hj;split at hj
    ·rw[An] at hj;simpa [Cc] using hj
    ·cases hj
   ·cases hj
 cases h with
 | hs he O J=>exact W he O J hi hv
 | all he O=>
  subst O;exact W he rfl (by simp) hi hv
 | sl=>
  simp only[aY,bB,Rep] at hv;obtain⟨I,len,cap,h1,h2,h3,h4,h5,h6,b,off,h7,h8⟩:=hv;obtain⟨vs,N,q2,q3⟩:=bG.flat h8;refine⟨I,cap,vs,by rw[h1,h2],N,q3,fun e=>Bb (by rw[←h2];exact(h5 e).1),?_⟩;rintro x rfl j u hj;obtain⟨h9,h10⟩:=h7 x rfl
  have Z:=h6 x rfl (by
   rintro rfl;have Y:=Bb (show _=0 from Nat.le_zero.1 (h2▸h3));rw[Y] at N;simp[dI] at N;subst N
   simp at hj)
  have hx:x=⟨b,off,none⟩:=by cases x;simp_all
  subst hx;rw[Addr.add_mid];exact hs.inv.holds.cell (q2 j u hj)
 | nl=>
  simp only[aY,bB,Rep] at hv;exact⟨none,0,[],hv,by simp[dI],by simp,fun _=>rfl,by simp⟩
 | sn=>
  simp only[aY,bB,Rep] at hv;obtain⟨b,off,sp,len,cap,h1,h2,h3,h4,hsp,h8⟩:=hv;obtain⟨vs,N,q2,q3⟩:=bG.flat h8;refine⟨some ⟨b,off,sp⟩,cap,vs,by rw[h1,h2],N,q3,by simp,?_⟩;rintro x ⟨⟩ j u hj
  have Z:=hsp (by
   rintro rfl;have Y:=Bb (show _=0 from Nat.le_zero.1 (h2▸h3));rw[Y] at N;simp[dI] at N;subst N
   simp at hj)
  subst Z;rw[Addr.add_mid];exact hs.inv.holds.cell (q2 j u hj)
section
variable {P:Program}{n:Nat}{o:Oper}{st:St}{d:Nat}{T:TT}
theorem jW (w:World) (t ty e:TypeId) (i:TypeInfo) (ht:P.underlying t=some (.slice e)) (hi:P.info? e=some i)
  (g base I J:Nat) (cur:Array Value) (hg:w.heap[g]?=some (.cells cur e (0,0)))
  (a:Addr) (m c:Nat) (news:List Value) (hl:news.length=m*i.size) (N:∀j u,news[j]?=some u→w.cell? (a.add j)=some u) (h1:∀u∈news,u.oneCell'=true)
  (O:I+m≤J) (Y:base+I*i.size+news.length≤cur.size):
  (Builtin.append_ #[t,t] ty #[.slice (some ⟨g,base,none⟩) I J,.slice (some a) m c]).run P w=
   .ok (.slice (some ⟨g,base,none⟩) (I+m) J) (w.setRow g (cur.toList.take (base+I*i.size)++news++cur.toList.drop (base+I*i.size+news.length)).toArray):=by
 have hf:=run_firstCells_some (P:=P) w i.size m a m c news hl N;have W:=run_storeCells_at P g (base+I*i.size) e news 0 cur w hg (by simpa using Y) h1;simp only[Bu] at W;simp[Builtin.append_,Aq ht,sizeOf,typeInfo,hi,Builtin.lenOf,O,hf,Addr.add_mid,W]
theorem kJ (w:World) (t ty e:TypeId) (i:TypeInfo) (ht:P.underlying t=some (.slice e)) (hi:P.info? e=some i) (s:Option Addr) (O:Option Addr) (I J c:Nat) (N:I≤J):
  (Builtin.append_ #[t,t] ty #[.slice s I J,.slice O 0 c]).run P w=.ok (.slice s I J) w:=by
 cases s<;>cases O<;>simp[Builtin.append_,Aq ht,sizeOf,typeInfo,hi,Builtin.lenOf,N,Builtin.firstCells,loadCells,loadCellsFrom,storeCells]
theorem fJ {x y:Operand}{t:TypeId}{a:Act}{w w':World}{u v r:Value}(I:o.op=.call { callee:=.builtin .append,args:= #[x,y],argTypes:= #[t,t] }) (hx:a.eval x=u) (hy:a.eval y=v) (J:(Builtin.append_ #[t,t] o.type #[u,v]).run P w=.ok r w'):
  (execOp a.eval o).run P w=.ok (.value r) w':=by
 simp only[execOp,I,resolve,map_toArray,Al,By,hx,hy,Ae,Af,χ,invoke,builtin,J]
theorem aKj {y:V}{id te es fz:Nat}{elems elems':List (List C)}(hd:o.dst=some d) (aa:d<n) (hlen:elems.length≤elems'.length) (J:Nat) {st':St}{G:Ctx}{S:Sto}{μ:Mu}{a:Act}{w:World}{K:Act→World→Prop}{Q:Exit→Act→World→Prop}
    (N:st'.h id=some (.arr te es elems fz)) (hs:Sim G n S μ st' a w) (hk:∀S' μ' a' w',Sim G n S' μ' (Eff.apply ⟨some (d,some y),[(id,some (.arr te es elems' J))]⟩ st') a' w'→K a' w')
    (h:∃w' v,(execOp a.eval o).run P w=.ok (.value v) w'∧
      ((w'=w∧elems'=elems∧(J=fz∨J=1)∧aY S μ st'.h y v)∨
       (elems.length<elems'.length∧∃b bo c,(w.heap.size≤b∨∃c',μ id=some (b,c'))∧WChg w w' b bo∧mG S (upd μ id (some (b,c))) (upd st'.h id (some (.arr te es elems' J))) w' id (.arr te es elems' J)∧
         (∀o v,S.cell b o=some v→∃vs t fr,bo=.cells vs t fr∧vs[o]?=some v)∧(∀m,S.mapo b=some m→w.heap.size≤b)∧aY S (upd μ id (some (b,c))) (upd st'.h id (some (.arr te es elems' J))) y v))):
    ∀ro,o.wpIn (Wd ro) 0 P a w K Q:=by
  obtain⟨w',v,hr,Y⟩:=h;refine fun ro=>hZ hr ?_
  rw[hd];rcases Y with⟨rfl,rfl,hfz,hv⟩ | ⟨hlt,b,bo,c,hb,hw,Z,hS,hSm,hv⟩
  · have O:Evolve S μ st'.h S μ (upd st'.h id (some (.arr te es elems' J))):=⟨S.le_refl,fun j x hj=>by
      by_cases I:j=id
      · subst I
        rw[N] at hj;cases hj;exact⟨_,aJ _ _ _,by simp[AObj.succ]⟩
      · exact⟨x,by rw[b8 _ _ _ I];exact hj,x.succ_refl rfl⟩⟩
    have hi:Inv G S μ (upd st'.h id (some (.arr te es elems' J))) w':=by
      obtain⟨h1,h2,h3,h4,h5,h6,h7,h8,h9⟩:=hs.inv;have hold:∀j x,upd st'.h id (some (.arr te es elems' J)) j=some x→∃x',st'.h j=some x':=fun j x hj=>by
        by_cases I:j=id
        · subst I;exact⟨_,N⟩
        · rw[b8 _ _ _ I] at hj;exact⟨_,hj⟩
      refine⟨h1,fun j x hj=>?_,fun i j x x' b c c' hi hj hm hm'=>?_,fun i x b c hi hm=>?_,h5,h6,h7,h8.trans O,h9⟩
      · by_cases I:j=id
        · subst I
          rw[aJ] at hj;cases hj;have Z:=(h2 j _ N).evolve O rfl fun _ _ _=>⟨rfl,fun _=>rfl,rfl⟩
          rcases hfz with rfl | rfl
          · exact Z
          · obtain⟨g0,g1 | ⟨b,base,cap,vs,g1,g2,g3,g4,g5,g6,g7,g8,g9⟩⟩:=Z
            · exact⟨g0,.inl g1⟩
            · exact⟨g0,.inr ⟨b,base,cap,vs,g1,g2,g3,g4,g5,g6,(fun e=>by cases e),g8,(fun e=>by cases e)⟩⟩
        · rw[b8 _ _ _ I] at hj
          exact(h2 j x hj).evolve O rfl fun _ _ _=>⟨rfl,fun _=>rfl,rfl⟩
      · obtain⟨_,W⟩:=hold _ _ hi
        obtain⟨_,hj'⟩:=hold _ _ hj;exact h3 i j _ _ b c c' W hj' hm hm'
      · obtain⟨_,W⟩:=hold _ _ hi
        exact h4 i _ b c W hm
    have:=hs.put hi O aa (x:=some y) (v:=v) (fun z hz=>by cases hz;exact aY.evolve O _ _ hv);refine hk S μ _ _ ?_;unfold Eff.apply;rw[dE];exact this
  · have O:Evolve S μ st'.h S (upd μ id (some (b,c))) (upd st'.h id (some (.arr te es elems' J))):=⟨S.le_refl,fun j x hj=>by
      by_cases I:j=id
      · subst I
        rw[N] at hj;cases hj;exact⟨_,aJ _ _ _,by simp only[AObj.succ,true_and];exact⟨hlen,fun e=>by omega⟩⟩
      · exact⟨x,by rw[b8 _ _ _ I];exact hj,x.succ_refl (b8 _ _ _ I)⟩⟩
    have hi:=hs.inv.chg (id:=id) (cap:=c) (ao:=.arr te es elems' J) hw (hb.imp (fun h=>h) fun⟨c',h⟩=>⟨_,c',N,h⟩) O Z hS hSm;have:=hs.put hi O aa (x:=some y) (v:=v) (fun z hz=>by cases hz;exact hv);refine hk S (upd μ id (some (b,c))) _ _ ?_;unfold Eff.apply;rw[dE];exact this
theorem Step.grow {rd:Rd}{y:V}{id te es fz:Nat}{elems elems':List (List C)}(hd:o.dst=some d) (N:d<n) (hid:st.h id=some (.arr te es elems fz)) (O:id∈rd.h) (hlen:elems.length≤elems'.length) (I:Nat)
    (h:∀st',oU rd st st'→st'.h id=some (.arr te es elems fz)→∀G S μ a w,Sim G n S μ st' a w→∃w' v,(execOp a.eval o).run P w=.ok (.value v) w'∧
      ((w'=w∧elems'=elems∧(I=fz∨I=1)∧aY S μ st'.h y v)∨
       (elems.length<elems'.length∧∃b W c,(w.heap.size≤b∨∃c',μ id=some (b,c'))∧WChg w w' b W∧mG S (upd μ id (some (b,c))) (upd st'.h id (some (.arr te es elems' I))) w' id (.arr te es elems' I)∧
         (∀o v,S.cell b o=some v→∃vs t fr,W=.cells vs t fr∧vs[o]?=some v)∧(∀m,S.mapo b=some m→w.heap.size≤b)∧aY S (upd μ id (some (b,c))) (upd st'.h id (some (.arr te es elems' I))) y v))):
    Step P n o st rd ⟨some (d,some y),[(id,some (.arr te es elems' I))]⟩:=by
  intro st' ha G S μ a w K Q hs hk;have J:st'.h id=some (.arr te es elems fz):=by rw[ha.2 id O,hid]
  exact aKj hd N hlen I J hs hk (h st' ha J G S μ a w hs)
theorem aAe {t e:TypeId}{i I:TI}{x y:Operand}{id sz fz:Nat}{elems rows:List (List C)}{vy:V}{ids:List Nat}{st':St}{G:Ctx}{S:Sto}{μ:Mu}{a:Act}{w:World}(hT:Tok P T) (ho:o.op=.call { callee:=.builtin .append,args:= #[x,y],argTypes:= #[t,t] })
    (hi:T[t]?=some (some i)) (hk:i.k=.sl e) (hei:T[e]?=some (some I)) (hes:Nat.ble 1 I.size=true) (heb:Nat.ble 1 I.bytes=true)
    (hsz:sz=elems.length) (hroom:(elems.length+rows.length)*I.bytes≤140737488355328) (Z:st'.h id=some (.arr e I.size elems fz)) (hs:Sim G n S μ st' a w)
    (hvx:aY S μ st'.h (.one (.hs id 0 sz sz)) (a.eval x)) (hvy:aY S μ st'.h vy (a.eval y)) (hsrc:Src st I.size ids vy rows) (hsi:∀i∈ids,st'.h i=st.h i):
    ∃w' v,(execOp a.eval o).run P w=.ok (.value v) w'∧
      ((w'=w∧elems++rows=elems∧((if fz=0 then 0 else 1)=fz∨(if fz=0 then 0 else 1)=1)∧aY S μ st'.h (.one (.hs id 0 (elems.length+rows.length) (elems.length+rows.length))) v)∨
       (elems.length<(elems++rows).length∧∃b bo c,(w.heap.size≤b∨∃c',μ id=some (b,c'))∧WChg w w' b bo∧mG S (upd μ id (some (b,c))) (upd st'.h id (some (.arr e I.size (elems++rows) (if fz=0 then 0 else 1)))) w' id (.arr e I.size (elems++rows) (if fz=0 then 0 else 1))∧
         (∀o v,S.cell b o=some v→∃vs t fr,bo=.cells vs t fr∧vs[o]?=some v)∧(∀m,S.mapo b=some m→w.heap.size≤b)∧aY S (upd μ id (some (b,c))) (upd st'.h id (some (.arr e I.size (elems++rows) (if fz=0 then 0 else 1)))) (.one (.hs id 0 (elems.length+rows.length) (elems.length+rows.length))) v)):=by
  subst hsz;have hes':=Ap hes;have heb':=Ap heb;obtain⟨ad,c,news,O,N,hrl,hnone,hcell⟩:=hsrc.rel hs hsi hvy;have W:news.length=rows.length*I.size:=by rw[N.length,iK hrl]
  obtain⟨inf,dd,z,g1,g2,g3,g4,g5,g6,g7,g8⟩:=(hT.get hei).ex;have hu:=(hT.get hi).slice hk;have hzs:z.cells.size=I.size:=by
    have h1:=(jF (S:=S) g7).length;rw[(hT.get hei).len] at h1;simpa using h1
  simp only[aY,bB] at hvx;obtain⟨_,hv | ⟨te',es',elems',fz',h1,h2,h3⟩⟩:=hvx
  · rw[Z] at hv;cases hv
  rw[Z] at h1;cases h1;obtain⟨h4,hcase⟩:=h3 rfl;have hbig:elems.length+rows.length≤140737488355328:=by
    have:(elems.length+rows.length)*1≤(elems.length+rows.length)*I.bytes:=mul_le_mul_left _ heb';omega
  have hone:∀u∈news,u.oneCell'=true:=(N.toR (μ:=μ) (H:=st'.h)).one;have hcap:∀old,elems.length+rows.length≤grownCap w (elems.length+rows.length) old e∧grownCap w (elems.length+rows.length) old e≤maxLen:=fun old=>
    ⟨grownCap_ge _ _ _ _,grownCap_le_maxLen _ _ _ _ (by unfold maxLen;omega)⟩
  have Y:∀(olds:List Value) (old:Nat),dI S elems.flatten olds→0<rows.length→∀g0:(∀r∈elems,r.length=I.size),
      mG S (upd μ id (some (w.heap.size,0,grownCap w (elems.length+rows.length) old e))) (upd st'.h id (some (.arr e I.size (elems++rows) (if fz=0 then 0 else 1))))
        (w.drew.alloc (.cells (olds.toArray++news.toArray++Builtin.zeroCells z.cells (grownCap w (elems.length+rows.length) old e-(elems.length+rows.length))) e)) id (.arr e I.size (elems++rows) (if fz=0 then 0 else 1)):=by
    intro olds old hol hpos g0;obtain⟨hc1,hc2⟩:=hcap old;have hol':=hol.length;rw[iK g0] at hol';refine⟨?_,.inr ⟨w.heap.size,0,grownCap w (elems.length+rows.length) old e,(olds.toArray++news.toArray++Builtin.zeroCells z.cells (grownCap w (elems.length+rows.length) old e-(elems.length+rows.length))).toList,aJ _ _ _,B7 w.drew _,?_,by simpa using hc1,⟨hc2,rH hs.inv⟩,?_,fun _ o _=>gV hs.inv o,fun o _=>gV hs.inv o,fun e=>by split at e<;>cases e⟩⟩
    · intro r J
      rcases ω.1 J with J | J
      · exact g0 r J
      · exact hrl r J
    · simp only[Array.toList_append,Aa,Bf,size_zeroCells,hzs]
      simp only[hol',W,Bd,←A0];exact Ax _ (by omega)
    · simp only[Array.toList_append,Cd,Aa,flatten_append]
      rw[Co (by simp[hol',W,A0]),Ba (by simp[hol',W,A0])];exact hol.append N
  have hlen':(elems++rows).length=elems.length+rows.length:=by simp
  by_cases hm:rows.length=0
  · --nothing is appended
    have hr0:rows=[]:=Bb hm;have hfzz:(if fz=0 then 0 else 1)=fz∨(if fz=0 then 0 else 1)=1:=by
      by_cases h:fz=0
      · left;rw[θ h,h]
      · right;rw[ψ h]
    rcases hcase with⟨h5,h6,h7⟩ | ⟨b,base,cap,h5,h6⟩
    · refine⟨w,.slice none 0 0,fJ ho h7 O (by rw[hm];exact kJ w t o.type e inf hu g1 none ad 0 0 c (le_refl _)),.inl ⟨rfl,by rw[hr0,A8],hfzz,?_⟩⟩
      simp only[aY,bB];exact⟨⟨_,_,_,rfl⟩,.inr ⟨e,I.size,elems,fz,Z,by omega,fun _=>⟨by omega,.inl ⟨h5,h6,(by first | rfl | trivial)⟩⟩⟩⟩
    · obtain⟨q0,vs,q1,q2,q3,q4,q5,q6,q7,q8⟩:=(hs.inv.obj id _ Z).arr h5
      refine⟨w,_,fJ ho h6 O (by rw[hm];exact kJ w t o.type e inf hu g1 _ ad elems.length _ c (by omega)),.inl ⟨rfl,by rw[hr0,A8],hfzz,?_⟩⟩;simp only[aY,bB];exact⟨⟨_,_,_,rfl⟩,.inr ⟨e,I.size,elems,fz,Z,by omega,fun _=>⟨by omega,.inr ⟨b,base,cap,h5,by rw[hm,Bu]⟩⟩⟩⟩
  · cases ad with
    | none=>exact absurd (by rw[hnone rfl];rfl) hm
    | some ad=>
      have hc:=hcell ad rfl;rcases hcase with⟨h5,h6,h7⟩ | ⟨b,base,cap,h5,h6⟩
      · --the first elements
        subst h6;simp only[length_nil,Bd] at hroom hbig Y hcap;have J:=run_append_nil (P:=P) w t o.type e inf z hu g1 g6 ad rows.length c news (by rw[W,g3]) hc (by omega) (by omega) (by rw[g4];omega);refine⟨_,_,fJ ho h7 O J,.inr ⟨by simp;omega,w.heap.size,_,(0,grownCap w rows.length 0 e),.inl (le_refl _),WChg.alloc_drew w _,?_,(fun o v e=>by rw[gV hs.inv] at e;cases e),fun m e=>le_refl _,?_⟩⟩
        · have:=Y [] 0 (by simp[dI]) (by omega) (by simp)
          simpa using this
        · simp only[aY,bB]
          exact⟨⟨_,_,_,rfl⟩,.inr ⟨e,I.size,_,_,aJ _ _ _,by simp,fun _=>⟨by simp,.inr ⟨w.heap.size,0,_,aJ _ _ _,by simp⟩⟩⟩⟩
      · obtain⟨q0,vs,q1,q2,q3,q4,q5,q6,q7,q8⟩:=(hs.inv.obj id _ Z).arr h5
        have hce:elems.length*I.size≤cap*I.size:=Ax _ q3;simp only[sub_zero,Nat.zero_mul,Bu] at h6;by_cases hroom':elems.length+rows.length≤cap
        · --there is room
          have hce2:(elems.length+rows.length)*I.size≤cap*I.size:=Ax _ hroom';rw[A0] at hce2;have J:=jW (P:=P) w t o.type e inf hu g1 b base elems.length cap ⟨vs⟩ q1 ad rows.length c news (by rw[W,g3]) hc hone hroom' (by rw[g3,W];simp only[size_toArray];omega);rw[g3] at J;have hW:=WChg.setRow w b ⟨vs⟩ ⟨vs.take (base+elems.length*I.size)++news++vs.drop (base+elems.length*I.size+news.length)⟩ e (0,0) q1;refine⟨_,_,fJ ho h6 O J,.inr ⟨by simp;omega,b,_,(base,cap),.inr ⟨_,h5⟩,hW,⟨?_,.inr ⟨b,base,cap,_,aJ _ _ _,hW.new,?_,by rw[hlen'];omega,q4,?_,?_,?_,fun e=>by split at e<;>cases e⟩⟩,?_,fun m e=>iJ q4.2 m e,?_⟩⟩
          · intro r J
            rcases ω.1 J with J | J
            · exact q0 r J
            · exact hrl r J
          · simp only[Aa,At,Bw]
            omega
          · rw[hlen',flatten_append]
            have e1:((vs.take (base+elems.length*I.size)++news++vs.drop (base+elems.length*I.size+news.length)).drop base).take ((elems.length+rows.length)*I.size)=(vs.drop base).take (elems.length*I.size)++news:=by
              rw[Aw,List.drop_append_of_le_length (by simp;omega),←Aw,Co (by simp[A0];omega)];rw[Ba (by simp[A0];omega),drop_take];rw[show base+elems.length*I.size-base=elems.length*I.size by omega]
            rw[e1];exact q5.append N
          · intro e o ho
            exact q6 (Classical.byContradiction fun hne=>by rw[ψ hne] at e;cases e) o ho
          · intro o ho
            rw[hlen',A0] at ho;exact q7 o (by omega)
          · intro o v e
            by_cases hlt:o<base+elems.length*I.size
            · obtain⟨vs0,t0,fr0,p1,p2⟩:=hs.inv.holds.1 b o v e
              rw[q1] at p1;cases p1;refine⟨_,_,_,rfl,?_⟩;simp only[List.getElem?_toArray] at p2 ⊢;rw[Aw,A7 (by simp;omega),Av,θ (by omega)];exact p2
            · rw[q7 o (by omega)] at e;cases e
          · simp only[aY,bB]
            exact⟨⟨_,_,_,rfl⟩,.inr ⟨e,I.size,_,_,aJ _ _ _,by simp,fun _=>⟨by simp,.inr ⟨b,base,cap,aJ _ _ _,by simp⟩⟩⟩⟩
        · --into a new block
          have J:=run_append_grow (P:=P) w t o.type e inf z hu g1 g6 ⟨b,base,none⟩ elems.length cap ((vs.drop base).take (elems.length*I.size)) (by rw[g3];simp;omega) (by
              intro j v hj;rw[Addr.add_mid,cell_of_row w b _ ⟨vs⟩ e (0,0) q1];rw[Av] at hj;split at hj
              · rw[An] at hj
                simpa using hj
              · cases hj) ad rows.length c news (by rw[W,g3]) hc (by omega) (by omega) (by rw[g4];exact growslice_fits (by omega) hroom)
          have hq5:dI S elems.flatten ((vs.drop base).take (elems.length*I.size)):=q5;refine⟨_,_,fJ ho h6 O J,.inr ⟨by simp;omega,w.heap.size,_,(0,grownCap w (elems.length+rows.length) cap e),.inl (le_refl _),WChg.alloc_drew w _,?_,(fun o v e=>by rw[gV hs.inv] at e;cases e),fun m e=>le_refl _,?_⟩⟩
          · have:=Y _ cap hq5 (by omega) q0
            simpa using this
          · simp only[aY,bB]
            exact⟨⟨_,_,_,rfl⟩,.inr ⟨e,I.size,_,_,aJ _ _ _,by simp,fun _=>⟨by simp,.inr ⟨w.heap.size,0,_,aJ _ _ _,by simp⟩⟩⟩⟩
theorem aDw {t e:TypeId}{i I:TI}{x y:Operand}{id sz fz:Nat}{elems rows:List (List C)}{O:V}{ids:List Nat}(hT:Tok P T) (ho:o.op=.call { callee:=.builtin .append,args:= #[x,y],argTypes:= #[t,t] }) (hd:o.dst=some d) (W:d<n)
  (hi:T[t]?=some (some i)) (hk:i.k=.sl e) (Y:T[e]?=some (some I)) (Z:Nat.ble 1 I.size=true) (aa:Nat.ble 1 I.bytes=true)
  (hx:opv st x=some (.one (.hs id 0 sz sz))) (hh:st.h id=some (.arr e I.size elems fz)) (ab:sz=elems.length) (hy:opv st y=some O) (N:Src st I.size ids O rows)
  (J:(elems.length+rows.length)*I.bytes≤140737488355328):
  Step P n o st ⟨opr x++opr y,id::ids⟩ ⟨some (d,some (.one (.hs id 0 (elems.length+rows.length) (elems.length+rows.length)))),[(id,some (.arr e I.size (elems++rows) (if fz=0 then 0 else 1)))]⟩:=by
 refine Step.grow hd W hh (by simp) (by simp) _ fun st' ha ac G S μ a w hs=>?_
 have ad:=aO hs hx fun t ht=>ha.1 t (by simp[ht])
 have ae:=aO hs hy fun t ht=>ha.1 t (by simp[ht])
 exact aAe hT ho hi hk Y Z aa ab J ac hs ad ae N fun i h=>ha.2 i (by simp[h])
end
mutual
def R.ren (σ:Nat→Nat):R→R
 | .c x=>.c x
 | .hs id off len sz=>.hs (σ id) off len sz
 | .tl id off len sz=>.tl (σ id) off len sz
 | .vp id off=>.vp (σ id) off
 | .ep id i fo sz=>.ep (σ id) i fo sz
 | .mr id=>.mr (σ id)
 | .clo f caps=>.clo f (R.renL σ caps)
 | .mth f x=>.mth f (x.ren σ)
 | .yl id=>.yl (σ id)
 | .ra id off len sz=>.ra (σ id) off len sz
 | .rp id i fo sz=>.rp (σ id) i fo sz
 | .ras n es l=>.ras n es (R.renL σ l)
 | .pas l=>.pas (R.renL σ l)
def R.renL (σ:Nat→Nat):List R→List R
 | []=>[]
 | r::rs=>r.ren σ::R.renL σ rs
end
mutual
def V.ren (σ:Nat→Nat):V→V
 | .one r=>.one (r.ren σ)
 | .pa l=>.pa l
 | .ma l=>.ma (R.renL σ l)
 | .tup l=>.tup (V.renL σ l)
def V.renL (σ:Nat→Nat):List V→List V
 | []=>[]
 | r::rs=>r.ren σ::V.renL σ rs
end
mutual
def R.refs:R→List Nat
 | .c _=>[]
 | .hs id _ _ _=>[id]
 | .tl id _ _ _=>[id]
 | .vp id _=>[id]
 | .ep id _ _ _=>[id]
 | .mr id=>[id]
 | .clo _ caps=>R.refsL caps
 | .mth _ x=>x.refs
 | .yl id=>[id]
 | .ra id _ _ _=>[id]
 | .rp id _ _ _=>[id]
 | .ras _ _ l=>R.refsL l
 | .pas l=>R.refsL l
def R.refsL:List R→List Nat
 | []=>[]
 | r::rs=>r.refs++R.refsL rs
end
mutual
def V.refs:V→List Nat
 | .one r=>r.refs
 | .pa _=>[]
 | .ma l=>R.refsL l
 | .tup l=>V.refsL l
def V.refsL:List V→List Nat
 | []=>[]
 | r::rs=>r.refs++V.refsL rs
end
def nC:List (Nat×V)→List Nat
 | []=>[]
 | (_,v)::l=>v.refs++nC l
def c7:List (List R)→List Nat
 | []=>[]
 | r::l=>R.refsL r++c7 l
def aG7 (σ:Nat→Nat):List (Nat×V)→List (Nat×V)
 | []=>[]
 | (t,v)::l=>(t,v.ren σ)::aG7 σ l
def mI (σ:Nat→Nat):List (List R)→List (List R)
 | []=>[]
 | r::l=>R.renL σ r::mI σ l
theorem r6:∀{l:List (Nat×V)}{t:Nat}{v:V},(t,v)∈l→∀i∈v.refs,i∈nC l
 | (k,u)::l,t,v,h,i,hi=>by
  simp only[nC,ω];rcases Ao.1 h with h | h
  ·cases h;exact .inl hi
  ·exact .inr (r6 h i hi)
theorem aDu {σ:Nat→Nat}:∀{l:List (Nat×V)}{t:Nat}{v:V},(t,v)∈l→(t,v.ren σ)∈aG7 σ l
 | (k,u)::l,t,v,h=>by
  simp only[aG7];rcases Ao.1 h with h | h
  ·cases h;simp
  ·exact κ _ (aDu h)
theorem R.renL_length {σ:Nat→Nat}:∀{l:List R},(R.renL σ l).length=l.length
 | []=>rfl
 | _::l=>by simp[R.renL,R.renL_length (l:=l)]
theorem eS {σ:Nat→Nat}:∀{l:List (List R)},(mI σ l).length=l.length
 | []=>rfl
 | _::l=>by simp[mI,eS (l:=l)]
theorem R.renL_append {σ:Nat→Nat}:∀{l m:List R},R.renL σ (l++m)=R.renL σ l++R.renL σ m
 | [],_=>rfl
 | _::l,m=>by simp[R.renL,R.renL_append (l:=l)]
theorem R.refsL_append:∀{l m:List R},R.refsL (l++m)=R.refsL l++R.refsL m
 | [],_=>rfl
 | _::l,m=>by simp[R.refsL,R.refsL_append (l:=l)]
theorem yB {σ:Nat→Nat}:∀{l:List (List R)},(mI σ l).flatten=R.renL σ l.flatten
 | []=>rfl
 | _::l=>by simp[mI,yB (l:=l),R.renL_append]
theorem tK:∀{l:List (List R)},R.refsL l.flatten=c7 l
 | []=>rfl
 | _::l=>by simp[c7,tK (l:=l),R.refsL_append]
theorem kM {σ:Nat→Nat}{es:Nat}:∀{l:List (List R)},(∀r∈mI σ l,r.length=es)→∀r∈l,r.length=es
 | [],_,r,h=>by simp at h
 | x::l,k,r,h=>by
  rcases Ao.1 h with rfl | h
  ·rw[←R.renL_length (σ:=σ)];exact k _ (by simp[mI])
  ·exact kM (σ:=σ) (l:=l) (fun r I=>k r (by simp[mI,I])) r h
def AObj.refs:AObj→List Nat
 | .var _ cells=>R.refsL cells
 | .lp _ _ _ e=>nC e
 | .rarr _ _ elems=>c7 elems
 | .tok r _=>r.refs
 | _=>[]
inductive Ole (σ:Nat→Nat):AObj→AObj→Prop
 | var {t cells cells'}:cells=R.renL σ cells'→Ole σ (.var t cells) (.var t cells')
 | arr {te es elems fz}:Ole σ (.arr te es elems fz) (.arr te es elems fz)
 | arr1 {te es elems fz}:Ole σ (.arr te es elems fz) (.arr te es elems 1)
 | map {agg ents}:Ole σ (.map agg ents) (.map agg ents)
 | dead:Ole σ .dead .dead
 | lp {st j i e e'}:e=aG7 σ e'→Ole σ (.lp st j i e) (.lp st j i e')
 | dfr:Ole σ .dfr .dfr
 | rarr {te es elems elems'}:elems=mI σ elems'→Ole σ (.rarr te es elems) (.rarr te es elems')
 | tok {r r' k}:r=r'.ren σ→Ole σ (.tok r k) (.tok r' k)
theorem Ole.succ {σ:Nat→Nat}{o o':AObj}(h:Ole σ o o'):o.succ True o':=by
 cases h
 case rarr e=>subst e;simp[AObj.succ,eS]
 all_goals simp[AObj.succ]
section
variable {S:Sto}{μ:Mu}{H H':cO}{σ:Nat→Nat}
def Good (H H':cO) (σ:Nat→Nat) (id:Nat):Prop:=∃o o',H (σ id)=some o∧H' id=some o'∧Ole σ o o'
mutual
theorem bB.ren:∀(r:R) (v:Value),(∀id∈r.refs,Good H H' σ id)→bB S μ H (r.ren σ) v→bB S (fun i=>μ (σ i)) H' r v
 | .c x,v,_,k=>by simpa only[bB,R.ren] using k
 | .hs id off len sz,v,h,k=>by
  obtain⟨o,o',h1,h2,h3⟩:=h id (by simp[R.refs]);simp only[bB,R.ren] at k ⊢;refine⟨k.1,?_⟩;rcases k.2 with k | ⟨te,es,elems,fz,g1,g2,g3⟩
  ·rw[h1] at k;cases k;cases h3;exact .inl h2
  ·rw[h1] at g1;cases g1;cases h3
   ·exact .inr ⟨te,es,elems,_,h2,g2,g3⟩
   ·exact .inr ⟨te,es,elems,_,h2,g2,g3⟩
 | .tl id off len sz,v,h,k=>by
  obtain⟨o,o',h1,h2,h3⟩:=h id (by simp[R.refs]);simp only[bB,R.ren] at k ⊢;refine⟨k.1,?_⟩;rcases k.2 with k | ⟨te,es,elems,fz,g1,g2,g3⟩
  ·rw[h1] at k;cases k;cases h3;exact .inl h2
  ·rw[h1] at g1;cases g1;cases h3
   ·exact .inr ⟨te,es,elems,_,h2,g2,g3⟩
   ·exact .inr ⟨te,es,elems,_,h2,g2,g3⟩
 | .vp id off,v,h,k=>by
  obtain⟨o,o',h1,h2,h3⟩:=h id (by simp[R.refs]);simp only[bB,R.ren] at k ⊢;obtain⟨t,cells,b,c,g1,g2,g3⟩:=k;rw[h1] at g1;cases g1;cases h3;exact⟨_,_,b,c,h2,g2,g3⟩
 | .ep id i fo sz,v,h,k=>by
  obtain⟨o,o',h1,h2,h3⟩:=h id (by simp[R.refs]);simp only[bB,R.ren] at k ⊢;refine⟨k.1,?_⟩;rcases k.2 with k | ⟨te,es,elems,fz,g1,g2,g3⟩
  ·rw[h1] at k;cases k;cases h3;exact .inl h2
  ·rw[h1] at g1;cases g1;cases h3
   ·exact .inr ⟨te,es,elems,_,h2,g2,g3⟩
   ·exact .inr ⟨te,es,elems,_,h2,g2,g3⟩
 | .mr id,v,h,k=>by
  obtain⟨o,o',h1,h2,h3⟩:=h id (by simp[R.refs]);simp only[bB,R.ren] at k ⊢;obtain⟨agg,ents,b,c,g1,g2,g3⟩:=k;rw[h1] at g1;cases g1;cases h3;exact⟨_,_,b,c,h2,g2,g3⟩
 | .clo f caps,v,h,k=>by
  simp only[bB,R.ren] at k ⊢;obtain⟨vs,g1,g2⟩:=k;exact⟨vs,g1,aV.ren caps vs (by simpa only[R.refs] using h) g2⟩
 | .mth f x,v,h,k=>by
  simp only[bB,R.ren] at k ⊢;obtain⟨u,g1,g2⟩:=k;exact⟨u,g1,bB.ren x u (by simpa only[R.refs] using h) g2⟩
 | .rp id i fo sz,v,h,k=>by
  obtain⟨o,o',h1,h2,h3⟩:=h id (by simp[R.refs]);simp only[bB,R.ren] at k ⊢;refine⟨k.1,?_⟩;rcases k.2 with k | ⟨te,es,elems,g1,g2,g3⟩
  ·rw[h1] at k;cases k;cases h3;exact .inl h2
  ·rw[h1] at g1;cases g1;cases h3;rename_i elems' e;subst e;rw[eS] at g2 g3;exact .inr ⟨te,es,elems',h2,g2,g3⟩
 | .yl id,v,h,k=>by
  obtain⟨o,o',h1,h2,h3⟩:=h id (by simp[R.refs]);simp only[bB,R.ren] at k ⊢;obtain⟨st,j,i,e,b,c,g1,g2,g3⟩:=k;rw[h1] at g1;cases g1;cases h3;exact⟨_,_,_,_,b,c,h2,g2,g3⟩
 | .ra id off len sz,v,h,k=>by
  obtain⟨o,o',h1,h2,h3⟩:=h id (by simp[R.refs]);simp only[bB,R.ren] at k ⊢;refine⟨k.1,?_⟩;rcases k.2 with k | ⟨te,es,elems,g1,g2,g3⟩
  ·rw[h1] at k;cases k;cases h3;exact .inl h2
  ·rw[h1] at g1;cases g1;cases h3;rename_i elems' e;subst e;rw[eS] at g2 g3;refine .inr ⟨te,es,elems',h2,g2,fun e=>?_⟩;obtain⟨O,I⟩:=g3 e;refine⟨O,?_⟩;rcases I with⟨I,W,Y⟩ | I
   ·exact .inl ⟨I,Bb (by rw[←eS (σ:=σ),W];rfl),Y⟩
   ·exact .inr I
 | .ras n es l,v,h,k=>by
  simp only[bB,R.ren] at k ⊢;obtain⟨a,cap,h1,h2,h3,h4,h5,h6,b,o,h7,vs,J,N⟩:=k;exact⟨a,cap,h1,by rw[h2,R.renL_length],h3,h4,h5,h6,b,o,h7,vs,aV.ren l vs (by simpa only[R.refs] using h) J,N⟩
 | .pas l,v,h,k=>by
  simp only[bB,R.ren] at k ⊢;obtain⟨b,o,h1,vs,J,N⟩:=k;exact⟨b,o,h1,vs,aV.ren l vs (by simpa only[R.refs] using h) J,N⟩
theorem aV.ren:∀(r:List R) (v:List Value),(∀id∈R.refsL r,Good H H' σ id)→aV S μ H (R.renL σ r) v→aV S (fun i=>μ (σ i)) H' r v
 | [],_,_,k=>by simpa only[aV,R.renL] using k
 | r::rs,vs,h,k=>by
  simp only[aV,R.renL] at k ⊢;obtain⟨v,vs',h1,h2,h3⟩:=k;exact⟨v,vs',h1,bB.ren r v (fun i hi=>h i (by simp[R.refsL,hi])) h2,aV.ren rs vs' (fun i hi=>h i (by simp[R.refsL,hi])) h3⟩
end
mutual
theorem aY.ren:∀(r:V) (v:Value),(∀id∈r.refs,Good H H' σ id)→aY S μ H (r.ren σ) v→aY S (fun i=>μ (σ i)) H' r v
 | .one r,v,h,k=>by simp only[aY,V.ren] at k ⊢;exact bB.ren r v (by simpa only[V.refs] using h) k
 | .pa l,v,_,k=>by simpa only[aY,V.ren] using k
 | .ma l,v,h,k=>by
  simp only[aY,V.ren] at k ⊢;obtain⟨vs,h1,h2⟩:=k;exact⟨vs,h1,aV.ren l vs (by simpa only[V.refs] using h) h2⟩
 | .tup l,v,h,k=>by
  simp only[aY,V.ren] at k ⊢;obtain⟨vs,h1,h2⟩:=k;exact⟨vs,h1,bS.ren l vs (by simpa only[V.refs] using h) h2⟩
theorem bS.ren:∀(r:List V) (v:List Value),(∀id∈V.refsL r,Good H H' σ id)→bS S μ H (V.renL σ r) v→bS S (fun i=>μ (σ i)) H' r v
 | [],_,_,k=>by simpa only[bS,V.renL] using k
 | r::rs,vs,h,k=>by
  simp only[bS,V.renL] at k ⊢;obtain⟨v,vs',h1,h2,h3⟩:=k;exact⟨v,vs',h1,aY.ren r v (fun i hi=>h i (by simp[V.refsL,hi])) h2,bS.ren rs vs' (fun i hi=>h i (by simp[V.refsL,hi])) h3⟩
end
end
theorem mG.ren {S:Sto}{μ:Mu}{H H':cO}{σ:Nat→Nat}{w:World}{id:Nat}{o o':AObj}(h:mG S μ H w (σ id) o) (hl:Ole σ o o') (I:∀i∈o'.refs,Good H H' σ i):mG S (fun i=>μ (σ i)) H' w id o':=by
 cases hl with
 | @var t cells cells' hc=>
  subst hc;obtain⟨b,vs,h1,h2,h3,h4⟩:=h;exact⟨b,vs,h1,h2,aV.ren _ _ I h3,h4⟩
 | arr=>exact h
 | arr1=>
  obtain⟨g0,g1 | ⟨b,base,cap,vs,g1,g2,g3,g4,g5,g6,g7,g8,g9⟩⟩:=h
  ·exact⟨g0,.inl g1⟩
  ·exact⟨g0,.inr ⟨b,base,cap,vs,g1,g2,g3,g4,g5,g6,(fun e=>by cases e),g8,(fun e=>by cases e)⟩⟩
 | map=>exact h
 | dead=>exact h
 | lp he=>
  subst he;obtain⟨b,r,fn,tmps,h1,h2,h3,h4,h5⟩:=h;exact⟨b,r,fn,tmps,h1,h2,h3,fun t v ht=>aY.ren _ _ (fun i hi=>I i (r6 ht i hi)) (h4 t _ (aDu ht)),h5⟩
 | dfr=>exact h
 | rarr he=>
  subst he;obtain⟨g0,g1 | ⟨b,base,cap,vs,g1,g2,g3,g4,g5,g6,g7⟩⟩:=h
  ·exact⟨kM g0,.inl ⟨g1.1,Bb (by rw[←eS (σ:=σ),g1.2];rfl)⟩⟩
  ·rw[eS] at g4 g6;rw[yB] at g6;exact⟨kM g0,.inr ⟨b,base,cap,vs,g1,g2,g3,g4,g5,aV.ren _ _ (fun i hi=>I i (by rw[tK] at hi;exact hi)) g6,g7⟩⟩
 | tok he=>
  subst he;obtain⟨g1,b,g2,g3⟩:=h;exact⟨g1,b,bB.ren _ _ I g2,g3⟩
def Ctx.keeps (G:Ctx) (kf:List Nat):Prop:=(∀id o,G.h0 id=some o→id∈kf)∧(997∈kf→G.h0 997=none→G.S0.noTop)
def Sub (kf:List Nat) (st2 st1:St):Prop:=∀G n S μ a w,G.keeps kf→Sim G n S μ st1 a w→∃S' μ',Sim G n S' μ' st2 a w
theorem Sub.refl (kf:List Nat) (st:St):Sub kf st st:=fun _ _ S μ _ _ _ h=>⟨S,μ,h⟩
theorem Sub.trans {kf:List Nat}{a b c:St}(h:Sub kf a b) (k:Sub kf b c):Sub kf a c:=fun G n S μ x w hg hs=>by
 obtain⟨S',μ',h1⟩:=k G n S μ x w hg hs;exact h G n S' μ' x w hg h1
def mk (el:List (Nat×V)) (hl:List (Nat×AObj)):St:=⟨look el,look hl,[]⟩
def mkd (el:List (Nat×V)) (hl:List (Nat×AObj)) (dl:List Nat):St:=⟨look el,look hl,dl⟩
theorem c9 {α:Type}:∀{l:List (Nat×α)}{i:Nat}{x:α},look l i=some x→(i,x)∈l
 | [],_,_,h=>by simp[look] at h
 | (k,y)::l,i,x,h=>by
  simp only[look] at h;split at h
  ·rename_i hb;cases h;simp[Ab hb]
  ·simp[c9 h]
def eQ {α:Type}(p:α→Prop):List α→Prop
 | []=>True
 | x::l=>p x∧eQ p l
theorem eQ.mem {α:Type}{p:α→Prop}:∀{l:List α},eQ p l→∀x∈l,p x
 | [],_,x,h=>by simp at h
 | y::l,h,x,hx=>by
  rcases Ao.1 hx with rfl | hx
  ·exact h.1
  ·exact eQ.mem h.2 x hx
def subset (a b:List Nat):Bool:=a.all fun x=>b.contains x
def distinct:List Nat→Bool
 | []=>true
 | x::l=>!(l.contains x)&&distinct l
def dM:List (Nat×AObj)→List Nat
 | []=>[]
 | (_,o)::l=>o.refs++dM l
def aUu (kf:List Nat) (σ:Nat→Nat) (el:List (Nat×V)) (hl:List (Nat×AObj)):Bool:=subset (nC el) (hl.map (·.1))&&subset (dM hl) (hl.map (·.1))&&distinct (hl.map fun p=>σ p.1)&&subset kf (hl.map (·.1))&&kf.all fun i=>Nat.beq (σ i) i
theorem bL {a b:List Nat}(h:subset a b=true):∀x∈a,x∈b:=fun x hx=>by simpa using (A3.1 h) x hx
theorem dN:∀{l:List Nat},distinct l=true→l.Nodup
 | [],_=>nodup_nil
 | x::l,h=>by
  simp only[distinct,Ah] at h;refine Bq.2 ⟨?_,dN h.2⟩;simpa using h.1
theorem j8:∀{l:List (Nat×AObj)}{t:Nat}{v:AObj},(t,v)∈l→∀i∈v.refs,i∈dM l
 | (k,u)::l,t,v,h,i,hi=>by
  simp only[dM,ω];rcases Ao.1 h with h | h
  ·cases h;exact .inl hi
  ·exact .inr (j8 h i hi)
theorem iX {α:Type}:∀{l:List (Nat×α)}{i:Nat},i∈l.map (·.1)→∃x,look l i=some x:=fQ
theorem yP {α β:Type}{f:α→β}:∀{l:List α},(l.map f).Nodup→∀x∈l,∀y∈l,f x=f y→x=y
 | [],_,x,h,_,_,_=>by simp at h
 | z::l,hn,x,hx,y,hy,e=>by
  simp only[Al,Bq] at hn;rcases Ao.1 hx with hx | hx
  ·rcases Ao.1 hy with hy | hy
   ·rw[hx,hy]
   ·exact absurd (Ad.2 ⟨y,hy,by rw[←e,hx]⟩) hn.1
  ·rcases Ao.1 hy with hy | hy
   ·exact absurd (Ad.2 ⟨x,hx,by rw[e,hy]⟩) hn.1
   ·exact yP hn.2 x hx y hy e
def eqL:List Nat→List Nat→Bool
 | [],[]=>true
 | a::l,b::m=>Nat.beq a b&&eqL l m
 | _,_=>false
theorem aRf:∀{l m:List Nat},eqL l m=true→l=m
 | [],[],_=>rfl
 | a::l,b::m,h=>by
  simp only[eqL,Ah] at h;rw[Ab h.1,aRf h.2]
 | [],_::_,h=>by simp[eqL] at h
 | _::_,[],h=>by simp[eqL] at h
theorem Sub.listD {kf:List Nat}{J:St}{el:List (Nat×V)}{hl:List (Nat×AObj)}{dl:List Nat}(σ:Nat→Nat) (he:eQ (fun p=>J.e p.1=some (p.2.ren σ)) el) (hh:eQ (fun p=>∃o,J.h (σ p.1)=some o∧Ole σ o p.2) hl) (hok:(aUu kf σ el hl&&(eqL (dl.map σ) J.d&&subset dl (hl.map (·.1))))=true):Sub kf (mkd el hl dl) J:=by
 intro G n S μ a w hg hs;rw[Ah,Ah] at hok;obtain⟨hok,N,aa⟩:=hok;have N:=aRf N;simp only[aUu,Ah] at hok;obtain⟨⟨⟨⟨h1,h2⟩,h3⟩,h4⟩,h5⟩:=hok;have I:∀i∈hl.map (·.1),Good J.h (look hl) σ i:=by
  intro i hi;obtain⟨o',Z⟩:=fQ hi;obtain⟨o,g1,g2⟩:=hh.mem _ (c9 Z);exact⟨o,o',g1,Z,g2⟩
 have ab:=dN h3;refine⟨S,fun i=>μ (σ i),⟨⟨hs.inv.holds,fun id o O=>?_,fun i j o o' b c c' hi hj hm ac=>?_,fun i o b c hi hm=>?_,hs.inv.frame,hs.inv.sle,hs.inv.sto,⟨hs.inv.evo.le,fun id o O=>?_⟩,hs.inv.fre⟩,hs.size,?_,fun t v ht=>?_⟩⟩
 ·obtain⟨W,g1,g2⟩:=hh.mem _ (c9 O);exact(hs.inv.obj _ _ g1).ren g2 fun i hi=>I i (bL h2 i (j8 (c9 O) i hi))
 ·obtain⟨W,g1,g2⟩:=hh.mem _ (c9 hi);obtain⟨Y,g3,g4⟩:=hh.mem _ (c9 hj);have hσ:=hs.inv.inj _ _ _ _ b c c' g1 g3 hm ac;have:=yP ab _ (c9 hi) _ (c9 hj) hσ;exact(congrArg Prod.fst this)
 ·obtain⟨W,g1,g2⟩:=hh.mem _ (c9 hi);exact hs.inv.own _ _ b c g1 hm
 ·obtain⟨o',g1,g2⟩:=hs.inv.evo.obj id o O;have hk:=hg.1 id o O;have hσ:σ id=id:=Ab ((A3.1 h5) id hk);obtain⟨W,Y,g3,g4,g5⟩:=I id (bL h4 id hk);rw[hσ,g1] at g3;cases g3;refine⟨Y,g4,?_⟩;show o.succ (μ (σ id)=G.μ0 id) Y;rw[hσ];exact AObj.succ_trans g2 g5.succ fun e _=>e
 ·refine Marks.ren (H:=J.h) (μ:=μ) σ (by show Marks _ μ J.h (dl.map σ) a.defers;rw[N];exact hs.defers) fun id hid ad=>⟨rfl,?_⟩
  obtain⟨W,Y,g3,g4,g5⟩:=I id (bL aa id hid);rw[ad] at g3;cases g3;cases g5;exact g4
 ·have hm:=c9 (show look el t=some v from ht);have h4:=he.mem _ hm;exact aY.ren v _ (fun i hi=>I i (bL h1 i (r6 hm i hi))) (hs.env t _ h4)
theorem Sub.list {kf:List Nat}{I:St}{el:List (Nat×V)}{hl:List (Nat×AObj)}(σ:Nat→Nat) (he:eQ (fun p=>I.e p.1=some (p.2.ren σ)) el) (hh:eQ (fun p=>∃o,I.h (σ p.1)=some o∧Ole σ o p.2) hl) (hok:(aUu kf σ el hl&&eqL [] I.d)=true):Sub kf (mk el hl) I:=
 Sub.listD (dl:=[]) σ he hh (by
  rw[Ah] at hok;rw[Ah]
  exact⟨hok.1,by rw[By,hok.2];rfl⟩)
def Ctx.rok (G:Ctx):Option Nat→Prop
 | none=>True
 | some l=>(∃r,G.w0.heap[l]?=some (.loop r))∧¬G.F l
def AWp (ro:Option Nat) (P:Program) (n:Nat) (kf:List Nat) (c:Code) (st:St) (Q:Exit→St→Prop):Prop:=
 ∀G S μ a w (Q':Exit→Act→World→Prop),G.keeps kf∧G.rok ro→Sim G n S μ st a w→(∀ex st' S' μ' a' w',Q ex st'→Sim G n S' μ' st' a' w'→Q' ex a' w')→c.wpIn (Wd ro) 0 P Q' a w
section
variable {ro:Option Nat}{P:Program}{n:Nat}{kf:List Nat}{st:St}{Q:Exit→St→Prop}
theorem AWp.sub {c:Code}{st2:St}(h:Sub kf st2 st) (k:AWp ro P n kf c st2 Q):AWp ro P n kf c st Q:=fun G S μ a w Q' hg hs I=>by
 obtain⟨S',μ',J⟩:=h G n S μ a w hg.1 hs;exact k G S' μ' a w Q' hg J I
theorem AWp.post {c:Code}{Q2:Exit→St→Prop}(h:AWp ro P n kf c st Q) (N:∀ex st',Q ex st'→∃I,Sub kf I st'∧Q2 ex I):AWp ro P n kf c st Q2:=fun G S μ a w Q' hg hs O=>
 h G S μ a w Q' hg hs fun ex st' S' μ' J w' q s=>by
  obtain⟨I,h1,h2⟩:=N ex st' q;obtain⟨S2,W,h3⟩:=h1 G n S' μ' J w' hg.1 s;exact O ex I S2 W J w' h2 h3
theorem aD (h:Q .normal st):AWp ro P n kf .skip st Q:=fun _ S μ a w _ _ hs I=>wpIn_skip (I _ _ S μ a w h hs)
theorem aI (h:Q .ret st):AWp ro P n kf .ret st Q:=fun _ S μ a w _ _ hs I=>wpIn_ret (I _ _ S μ a w h hs)
theorem aM {id:Nat}(h:Q (.exit id) st):AWp ro P n kf (.exit id) st Q:=fun _ S μ a w _ _ hs I=>wpIn_exit (I _ _ S μ a w h hs)
def a0p (ro:Option Nat) (P:Program) (n:Nat) (kf:List Nat) (c:Code) (Q:Exit→St→Prop):Exit→St→Prop
 | .normal,st=>AWp ro P n kf c st Q
 | ex,st=>Q ex st
theorem a8 {x y:Code}(h:AWp ro P n kf x st (a0p ro P n kf y Q)):AWp ro P n kf (.seq x y) st Q:=fun G S μ a w Q' hg hs I=>
 wpIn_seq (h G S μ a w _ hg hs fun ex st' S' μ' J w' q s=>by
  cases ex with
  | normal=>exact q G S' μ' J w' Q' hg s I
  | _=>exact I _ st' S' μ' J w' q s)
theorem aA {c:Operand}{x y:Code}{b:Bool}(hc:opv st c=some (B b)) (ht:b=true→AWp ro P n kf x st Q) (hf:b=false→AWp ro P n kf y st Q):AWp ro P n kf (.cond c x y) st Q:=fun G S μ a w Q' hg hs I=>by
 have hb:=iV (aO hs hc fun _ _=>rfl);cases b with
 | true=>exact wpIn_cond_true hb (ht rfl G S μ a w Q' hg hs I)
 | false=>exact wpIn_cond_false hb (hf rfl G S μ a w Q' hg hs I)
def aM3 (id:Nat) (Q:Exit→St→Prop):Exit→St→Prop
 | .exit id',st=>if Nat.beq id' id then Q .normal st else Q (.exit id') st
 | ex,st=>Q ex st
theorem aC {id:Nat}{c:Code}(h:AWp ro P n kf c st (aM3 id Q)):AWp ro P n kf (.block id c) st Q:=fun G S μ a w Q' hg hs J=>
 wpIn_block (h G S μ a w _ hg hs fun ex st' S' μ' N w' q s=>by
  cases ex with
  | exit I=>
   simp only[aM3] at q;simp only[Exit.inBlock];by_cases hb:I=id
   ·subst hb;simp only[B4,Cn] at q;simpa using J _ st' S' μ' N w' q s
   ·have:Nat.beq I id=false:=by
     cases O:Nat.beq I id with
     | false=>rfl
     | true=>exact absurd (Ab O) hb
    simp only[this,Bc,Bt] at q;simpa [hb] using J _ st' S' μ' N w' q s
  | _=>exact J _ st' S' μ' N w' q s)
def aZ1 {α:Type}(kf:List Nat) (σ:α→St) (I:α→Prop) (m:α→Nat) (x:α) (Q:Exit→St→Prop):Exit→St→Prop
 | .normal,st=>∃y,I y∧m y<m x∧Sub kf (σ y) st
 | ex,st=>Q ex st
theorem qJ {F:Fence}{m:Nat}{P:Program}{Q:Exit→Act→World→Prop}{a:Act}{w:World}{c:Code}(I:Nat→Act→World→Prop) (O:Nat) (Z:I O a w)
  (round:∀n a w,I n a w→c.wpIn F m P (Exit.then (fun N w'=>∃n',n'<n∧I n' N w') Q) a w):(Code.loop c).wpIn F m P Q a w:=by
 refine wpIn_loop (fun a w=>∃n,I n a w) (fun a w=>leastOf (fun n=>I n a w)) ⟨O,Z⟩ ?_;intro a w hI;refine wpIn_mono (round _ a w (leastOf_spec hI).1) ?_;intro e N w' W;cases e with
 | normal=>
  obtain⟨n',Y,J⟩:=W;exact show(∃n,I n N w')∧leastOf (fun n=>I n N w')<leastOf (fun n=>I n a w) from⟨⟨n',J⟩,lt_of_le_of_lt ((leastOf_spec ⟨n',J⟩).2 n' J) Y⟩
 | _=>exact W
theorem aL {α:Type}{c:Code}(σ:α→St) (I:α→Prop) (m:α→Nat) (J:α) (hI:I J) (h0:Sub kf (σ J) st) (h:∀x,I x→AWp ro P n kf c (σ x) (aZ1 kf σ I m x Q)):AWp ro P n kf (.loop c) st Q:=fun G S μ a w Q' hg hs hQ=>by
 obtain⟨S',μ',O⟩:=h0 G n S μ a w hg.1 hs;refine qJ (fun k a w=>∃x S μ,m x=k∧I x∧Sim G n S μ (σ x) a w) (m J) ⟨J,S',μ',rfl,hI,O⟩ ?_;rintro k a w ⟨x,S,μ,hk,hx,hs⟩;refine h x hx G S μ a w _ hg hs fun ex st' S1 W Y w' q s=>?_
 cases ex with
 | normal=>
  obtain⟨y,hy,Z,N⟩:=q;obtain⟨S2,μ2,h2⟩:=N G n S1 W Y w' hg.1 s;exact⟨m y,hk▸Z,y,S2,μ2,rfl,hy,h2⟩
 | _=>exact hQ _ st' S1 W Y w' q s
theorem uM {id:Nat}{ops:Array Oper}{draw:Bool}{st':St}{xs:REs}(hm:P.follows .mixedOrders=true) (O:Run P n ops 0 st xs st') (hlen:Nat.beq xs.length ops.size=true)
  (N:(!draw || (fC (oE ops) xs []&&gY ops))=true) (h:Q .normal st'):AWp ro P n kf (.region id ops draw) st Q:=fun G S μ a w Q' hg hs hQ=>by
 have I:=Ab hlen;cases draw with
 | true=>
  simp only[Bool.not_true,Bool.false_or,Ah] at N;refine wpIn_region_any hm ?_;refine aSk (G:=G) O I N.1 N.2 (fun S' μ' J w' s=>hQ _ st' S' μ' J w' h s) ops.size _ (by simp) ?_ ?_ S μ a _ ?_ ro
  ·have:((List.range ops.size).filter fun i=>!(Array.replicate ops.size false).getD i false)=List.range ops.size:=by
    apply List.filter_eq_self.2;intro i hi;simp at hi;simp[hi]
   rw[this,length_range]
  ·intro i o ho hl;simp[A4,Array.getElem?_replicate] at hl;split at hl<;>simp at hl
  ·have hz:∀(W:REs) (k:Nat) (s:St),eM (fun j=>(Array.replicate ops.size false).getD j false) k W s=s:=by
    intro W
    induction W with
    | nil=>intro k s;rfl
    | cons y W Y=>
     intro k s;have hf:(Array.replicate ops.size false).getD k false=false:=by
      simp[A4,Array.getElem?_replicate];split<;>rfl
     simp only[eM,hf,Bn];exact Y _ _
   rw[hz];exact⟨hs.inv.same rfl rfl rfl rfl,hs.size,hs.defers,hs.env⟩
 | false=>
  refine wpIn_region ?_;have key:∀(k:Nat) (st st':St) (xs:REs),Run P n ops k st xs st'→k+xs.length=ops.size→(∀S' μ' J w',Sim G n S' μ' st' J w'→Q' .normal J w')→∀S μ a w,Sim G n S μ st a w→wpOpsIn (Wd ro) 0 P ops Q' (List.range' k xs.length) a w:=by
   intro k st st' xs O
   induction O with
   | nil=>intro _ Z S μ a w hs;exact Z S μ a w hs
   | @cons k st rd f xs st' hg _ Y=>
    intro hl Z S μ a w hs;simp only[Aj,List.range'_succ,wpOpsIn_cons];exact hg st (oU.refl _ _) G S μ a w _ Q' hs (fun S1 μ1 a1 w1 s1=>Y (by simp at hl;omega) Z S1 μ1 a1 w1 s1) ro
  have:=key 0 st st' xs O (by omega) (fun S' μ' J w' s=>hQ _ st' S' μ' J w' h s) S μ a w hs;rwa [List.range_eq_range',←I]
end
end Go.AM
