/-
  Texts Am6 to Am11 in one.
-/
import Derived.Test.YtpmheldmadendaaGreatDoorM1
import Derived.Deep.MidRow
import Derived.Deep.LoopGhost
open List (all_eq_true append_assoc append_nil drop_append drop_append_of_le_length drop_drop drop_of_length_le drop_succ_cons drop_take drop_zero eq_nil_of_length_eq_zero filter_eq_self flatten_append flatten_cons length_append length_cons length_drop length_nil length_range length_set length_take map_cons map_nil map_toArray mem_append mem_cons mem_cons_of_mem mem_map mem_of_mem_take mem_or_eq_of_mem_set nil_append nodup_cons range'_succ range_eq_range' size_toArray take_append_of_le_length take_left' take_of_length_le take_succ_cons take_take take_zero)
open Nat (add_assoc add_mul add_zero beq_refl eq_of_beq_eq_true le_of_ble_eq_true le_refl le_trans lt_irrefl lt_of_le_of_lt min_eq_left mul_le_mul_left mul_le_mul_right sub_self sub_zero zero_add zero_le zero_mul)
namespace Go.AM
open Go
section
variable {P:Program}{n:Nat}{o:Oper}{st:St}{d:Nat}{T:TT}
theorem fM {S:Sto}{μ:Mu}{H:cE}{id:Nat}(h:H id=none) (p:Option (Nat×Nat×Nat)) (x:Option AObj):Evolve S μ H S (upd μ id p) (upd H id x):=
 ⟨S.le_refl,fun j o hj=>by
  have q:j≠id:=fun e=>by subst e;rw[h] at hj;cases hj
  exact⟨o,by rw[bH _ _ _ q];exact hj,o.succ_refl (bH _ _ _ q)⟩⟩
theorem Step.new {rd:Rd}{y:V}{id:Nat}{ao:AObj}(hd:o.dst=some d) (r:d<n) (hid:st.h id=none) (u:id∈rd.h)
  (h:∀st',fR rd st st'→st'.h id=none→∀G S μ a w,Sim G n S μ st' a w→∃w' B v c,(execOp a.eval o).run P w=.ok (.value v) w'∧WChg w w' w.heap.size B∧
   kL S (upd μ id (some (w.heap.size,c))) (upd st'.h id (some ao)) w' id ao∧aO S (upd μ id (some (w.heap.size,c))) (upd st'.h id (some ao)) y v):
  Step P n o st rd ⟨some (d,some y),[(id,some ao)]⟩:=by
 intro st' ha G S μ a w K Q hs E;have q:st'.h id=none:=by rw[ha.2 id u,hid]
 obtain⟨w',B,v,c,I,hw,hO,hv⟩:=h st' ha q G S μ a w hs;refine fun ro=>eY I ?_
 rw[hd];have hi:=hs.inv.chg (id:=id) (cap:=c) (ao:=ao) hw (.inl (le_refl _)) (fM q _ _) hO
  (fun o v e=>by obtain⟨vs,t,M,h1,_⟩:=hs.inv.holds.1 _ _ _ e;exact absurd (cA h1) (lt_irrefl _)) (fun m e=>le_refl _)
 refine E S (upd μ id (some (w.heap.size,c))) _ _ ?_;have:=hs.put hi (fM q _ _) r (x:=some y) (fun z J=>by cases J;exact hv);unfold Eff.apply;rw[cD];exact this
theorem fA {G:Ctx}{S:Sto}{μ:Mu}{H:cE}{w:World}(h:Inv G S μ H w) (o:Nat):S.cell w.heap.size o=none:=by
 cases hc:S.cell w.heap.size o with
 | none=>rfl
 | some v=>obtain⟨vs,t,q,h1,_⟩:=h.holds.1 _ _ _ hc;exact absurd (cA h1) (lt_irrefl _)
theorem pI {G:Ctx}{S:Sto}{μ:Mu}{H:cE}{w:World}(h:Inv G S μ H w):S.mapo w.heap.size=none:=by
 cases hc:S.mapo w.heap.size with
 | none=>rfl
 | some v=>obtain⟨_,h1⟩:=MK.holds_some (h.holds.2 _ _ hc);exact absurd (cA h1) (lt_irrefl _)
theorem gZ (P:Program) (w:World) (t:TypeId) (cs:Array Value):(newRow t cs).run P w=.ok ⟨w.heap.size,0,none⟩ (w.alloc (.cells cs t)):=rfl
theorem aQ1 {t:TypeId}{i:TI}(id:Nat) (u:Tok P T) (ho:o.op=.alloc t) (hd:o.dst=some d) (q:d<n) (hi:T[t]?=some (some i)) (hid:st.h id=none):
  Step P n o st ⟨[],[id]⟩ ⟨some (d,some (.one (.vp id 0))),[(id,some (.var t (i.zero.map R.c)))]⟩:=by
 refine Step.new hd q hid (by simp) fun st' _ y G S μ a w hs=>?_
 obtain⟨z,B,r,_⟩:=(u.get hi).zero_run;refine⟨_,_,.pointer (some ⟨w.heap.size,0,none⟩),(0,0),?_,WChg.alloc w (.cells z.cells t),?_,?_⟩
 ·simp[execOp,ho,Instr.alloc,B,newVar,gZ]
 ·exact⟨w.heap.size,z.cells.toList,aJ _ _ _,Bx w _,(r S).toR,fA hs.inv,pI hs.inv⟩
 ·simp only[aO,aZ];exact⟨t,_,_,_,aJ _ _ _,aJ _ _ _,rfl⟩
theorem aY7 {t:TypeId}{x:Operand}{y:V}{rs:List R}(id:Nat) (ho:o.op=.box t x) (hd:o.dst=some d) (r:d<n) (hx:opv st x=some y) (hc:gK y=some rs) (hid:st.h id=none):
  Step P n o st ⟨opr x,[id]⟩ ⟨some (d,some (.one (.vp id 0))),[(id,some (.var t rs))]⟩:=by
 refine Step.new hd r hid (by simp) fun st' ha q G S μ a w hs=>?_
 have hv:=aM hs hx ha.1;refine⟨_,_,.pointer (some ⟨w.heap.size,0,none⟩),(0,0),?_,WChg.alloc w (.cells (a.eval x).cells t),?_,?_⟩
 ·simp[execOp,ho,Instr.box,newVar,gZ]
 ·exact⟨w.heap.size,(a.eval x).cells.toList,aJ _ _ _,Bx w _,aR.evolve (fM q _ _) _ _ (dM hv hc),fA hs.inv,pI hs.inv⟩
 ·simp only[aO,aZ];exact⟨t,_,_,_,aJ _ _ _,aJ _ _ _,rfl⟩
theorem aG0 {t:TypeId}(id:Nat) (agg:Bool) (ho:o.op=.makeMap t none) (hd:o.dst=some d) (q:d<n) (hid:st.h id=none):
  Step P n o st ⟨[],[id]⟩ ⟨some (d,some (.one (.mr id))),[(id,some (.map agg []))]⟩:=by
 refine Step.new hd q hid (by simp) fun st' _ r G S μ a w hs=>?_
 refine⟨w.alloc (.map #[] 0),_,.map (some w.heap.size),(0,0),?_,WChg.alloc w (.map #[] 0),?_,?_⟩
 ·simp only[execOp,ho,Instr.makeMap,Option.map_none];rfl
 ·exact⟨w.heap.size, #[],0,aJ _ _ _,Bx w _,.inr (.inl (by simp[bE])),.inl (pI hs.inv)⟩
 ·simp only[aO,aZ];exact⟨_,_,_,_,aJ _ _ _,aJ _ _ _,rfl⟩
theorem jU {w:World}{b:Nat}{vs:List Value}{t:TypeId}(h:w.heap[b]?=some (.cells ⟨vs⟩ t (0,0))) (off k:Nat):w.rangeAt b off ((vs.drop off).take k):=by
 intro j v hj;rw[cell_of_row w b (off+j) ⟨vs⟩ t (0,0) h];rw[Ao] at hj;split at hj
 ·rw[Ap] at hj;simpa using hj
 ·cases hj
theorem run_load {t:TypeId}{i:TI}(r:TIok P t i) (w:World) (b off:Nat) (cs:List Value) (B:w.rangeAt b off cs) (hl:cs.length=i.size):
  (Instr.loadAt t (.pointer (some ⟨b,off,none⟩))).run P w=.ok (if i.k.agg then .agg ⟨cs⟩ else cs.headD undef) w:=by
 obtain⟨inf,dd,z,g1,g2,g3,g4,g5,g6,g7,g8⟩:=r.ex;cases u:i.k.agg with
 | true=>
  have y:dd.isRow=true:=by
   cases E:i.k<;>rw[E] at g5 u<;>cases dd<;>simp[TK.fits,TK.agg] at g5 u<;>rfl
  rw[run_loadAt_mid w b off t cs dd B g2 y (by rw[r.info,hl])];simp
 | false=>
  have hs:=r.one u;rw[hs] at hl
  match cs,hl with
  | [c],_=>
   have hc:=B 0 c rfl;have q:=r.agg_run w;rw[u] at q;simp only[Instr.loadAt,Instr.sureAddr,Ab,Ac,δ,loadVar,q];simp only[As,Bq,load];simp only[Sem.run];rw[show(⟨b,off,none⟩:Addr)=⟨b,off+0,none⟩ from rfl,hc];simp
def k8 (i:TI) (rs:List R):Option V:=if i.k.agg then some (aTy rs) else match rs with | [r]=>some (.one r) | _=>none
theorem lK {i:TI}{S:Sto}{μ:Mu}{H:cE}{rs:List R}{vs:List Value}{y:V}(h:aR S μ H rs vs) (hy:k8 i rs=some y):aO S μ H y (if i.k.agg then .agg ⟨vs⟩ else vs.headD undef):=by
 unfold k8 at hy;cases q:i.k.agg with
 | true=>
  simp only[q,Cv] at hy ⊢;cases hy;exact aDv h
 | false=>
  simp only[q,As,Bq] at hy ⊢;split at hy
  ·cases hy;simp only[aR] at h;obtain⟨v,vs',rfl,h1,rfl⟩:=h;simpa [aO] using h1
  ·cases hy
theorem aZr {α:Type}{l:List α}{off k:Nat}(h:off+k≤l.length):((l.drop off).take k).length=k:=by simp;omega
theorem aU0 {t tv:TypeId}{i:TI}{x:Operand}{id off:Nat}{cells:List R}{y:V}(u:Tok P T) (ho:o.op=.load t x) (hd:o.dst=some d) (q:d<n) (hi:T[t]?=some (some i)) (hx:opv st x=some (.one (.vp id off)))
  (hh:st.h id=some (.var tv cells)) (hl:Nat.ble (off+i.size) cells.length=true) (hy:k8 i ((cells.drop off).take i.size)=some y):Step P n o st ⟨opr x,[id]⟩ ⟨some (d,some y),[]⟩:=by
 refine Step.value hd q fun st' ha G S μ a w hs=>?_
 have r:st'.h id=some (.var tv cells):=by rw[ha.2 id (by simp),hh]
 have hv:=aM hs hx ha.1;simp only[aO,aZ] at hv;obtain⟨I,cells',b,c,h1,h2,B⟩:=hv;obtain⟨J,vs,g1,g2,g3,g4⟩:=hs.inv.obj id _ r;rw[g1] at h2;cases h2;have hlen:=Aq hl;have E:=g3.length;refine⟨_,?_,lK ((g3.drop off).take i.size) hy⟩;simp only[execOp,ho,B,Ab,run_load (u.get hi) w b off _ (jU g2 off i.size) (aZr (by omega)),δ,Ac]
def aEu (i:TI) (l:List C):Option V:=if i.k.agg then some (.pa l) else match l with | [c]=>some (.one (.c c)) | _=>none
theorem wZ {i:TI}{S:Sto}{μ:Mu}{H:cE}{l:List C}{vs:List Value}{y:V}(h:c0 S l vs) (hy:aEu i l=some y):aO S μ H y (if i.k.agg then .agg ⟨vs⟩ else vs.headD undef):=by
 unfold aEu at hy;cases q:i.k.agg with
 | true=>
  simp only[q,Cv] at hy ⊢;cases hy;simp only[aO];exact⟨vs,rfl,h⟩
 | false=>
  simp only[q,As,Bq] at hy ⊢;split at hy
  ·cases hy;simp only[c0] at h;obtain⟨v,vs',rfl,h1,rfl⟩:=h;simpa [aO,aZ] using h1
  ·cases hy
theorem mT {S:Sto}{w:World}(hh:Holds S w) {b off:Nat}{vs:List Value}(h:eL S b off vs):w.rangeAt b off vs:=fun j v hj=>hh.cell (h j v hj)
theorem aG3 {t:TypeId}{i:TI}{x:Operand}{l:List C}{y:V}(u:Tok P T) (ho:o.op=.load t x) (hd:o.dst=some d) (q:d<n) (hi:T[t]?=some (some i)) (hx:opv st x=some (.one (.c (.pt l))))
  (hl:i.size≤l.length) (hy:aEu i (l.take i.size)=some y):Step P n o st ⟨opr x,[]⟩ ⟨some (d,some y),[]⟩:=by
 refine Step.value hd q fun st' ha G S μ a w hs=>?_
 have hv:=aM hs hx ha.1;simp only[aO,aZ,Rep] at hv;obtain⟨b,off,h1,vs,h2,B⟩:=hv;have I:=h2.length;refine⟨_,?_,wZ (h2.take i.size) hy⟩;have E:=mT hs.inv.holds B;have r:w.rangeAt b off (vs.take i.size):=fun j v hj=>by
  rw[Ao] at hj;split at hj
  ·exact E j v hj
  ·cases hj
 simp only[execOp,ho,h1,Ab,run_load (u.get hi) w b off _ r (by simp;omega),δ,Ac]
theorem qT {α:Type}{es:Nat}:∀{l:List (List α)},(∀r∈l,r.length=es)→∀(k:Nat),∀r,l[k]?=some r→(l.flatten.drop (k*es)).take es=r
 | [],_,k,r,h=>by simp at h
 | x::xs,hl,0,r,h=>by
  simp at h;subst h;have:=hl x (by simp);simp[←this]
 | x::xs,hl,k+1,r,h=>by
  simp at h;have hx:=hl x (by simp);have:=qT (l:=xs) (fun r q=>hl r (by simp[q])) k r h;rw[Bh,drop_append,show(k+1)*es-x.length=k*es by rw[hx,Be];omega];rw[drop_of_length_le (by rw[hx,Be];omega),Ak];exact this
theorem iG {α:Type}{es:Nat}:∀{l:List (List α)},(∀r∈l,r.length=es)→l.flatten.length=l.length*es
 | [],_=>by simp
 | x::xs,hl=>by
  rw[Bh,θ,iG (fun r q=>hl r (by simp[q])),hl x (by simp),χ,Be];omega
theorem kL.arr {S:Sto}{μ:Mu}{H:cE}{w:World}{id:Nat}{te es:Nat}{elems:List (List C)}{fz:Nat}(h:kL S μ H w id (.arr te es elems fz)) {b base cap:Nat}(hm:μ id=some (b,base,cap)):
  (∀r∈elems,r.length=es)∧∃vs,w.heap[b]?=some (.cells ⟨vs⟩ te (0,0))∧
   base+cap*es≤vs.length∧elems.length≤cap∧(cap≤maxLen∧S.mapo b=none)∧c0 S elems.flatten ((vs.drop base).take (elems.length*es))∧
   (fz=0→∀o,base≤o→S.cell b o=none)∧(∀o,base+elems.length*es≤o→S.cell b o=none)∧(fz=2→eL S b base ((vs.drop base).take (elems.length*es))):=by
 obtain⟨h0,⟨h1,_⟩ | ⟨y,q,u,vs,h1,h2⟩⟩:=h
 ·rw[hm] at h1;cases h1
 ·rw[hm] at h1;cases h1;exact⟨h0,vs,h2⟩
theorem aOx {S:Sto}{es base:Nat}{elems:List (List C)}{vs:List Value}(h0:∀r∈elems,r.length=es) (h:c0 S elems.flatten ((vs.drop base).take (elems.length*es))) {k:Nat}{r:List C}(q:elems[k]?=some r):
  c0 S r ((vs.drop (base+k*es)).take es):=by
 have h1:=(h.drop (k*es)).take es;rw[qT h0 k r q] at h1;have u:k<elems.length:=(Ai.1 q).1
 have hle:(k+1)*es≤elems.length*es:=A0 _ u;rw[Be] at hle;rw[drop_take,C1,take_take] at h1;rwa [Da (by omega)] at h1
theorem aG4 {t te es:Nat}{i:TI}{x:Operand}{id k fo sz:Nat}{elems:List (List C)}{fz:Nat}{r:List C}{y:V}(J:Tok P T) (ho:o.op=.load t x) (hd:o.dst=some d) (E:d<n) (hi:T[t]?=some (some i)) (hx:opv st x=some (.one (.ep id k fo sz)))
  (hh:st.h id=some (.arr te es elems fz)) (hsz:sz=elems.length) (I:elems[k]?=some r) (hl:fo+i.size≤es) (hy:aEu i ((r.drop fo).take i.size)=some y):Step P n o st ⟨opr x,[id]⟩ ⟨some (d,some y),[]⟩:=by
 refine Step.value hd E fun st' ha G S μ a w hs=>?_
 have q:st'.h id=some (.arr te es elems fz):=by rw[ha.2 id (by simp),hh]
 have hv:=aM hs hx ha.1;simp only[aO,aZ] at hv;obtain⟨_,hv | ⟨te',es',elems',fz',h1,h2,M⟩⟩:=hv
 ·rw[q] at hv;cases hv
 rw[q] at h1;cases h1;obtain⟨h4,b,base,cap,O,U⟩:=M hsz;obtain⟨g0,vs,g1,g2,g3,g4,g5,g6,g7⟩:=(hs.inv.obj id _ q).arr O;have u:=aOx g0 g5 I;have hlr:=u.length;have Y:r.length=es:=g0 r (τ I);have B:=((u.drop fo).take i.size)
 have hlen:=B.length;have hE:((List.drop fo (List.take es (List.drop (base+k*es) vs))).take i.size)=(vs.drop (base+k*es+fo)).take i.size:=by
  rw[drop_take,C1,take_take,Da (by omega)]
 rw[hE] at B hlen;refine⟨_,?_,wZ B hy⟩;simp only[execOp,ho,U,Ab,run_load (J.get hi) w b (base+k*es+fo) _ (jU g1 _ i.size) (by rw[hlen];simp;omega),δ,Ac]
end
section
variable {P:Program}{n:Nat}{o:Oper}{st:St}{d:Nat}{T:TT}
theorem run_store {t:TypeId}{i:TI}(B:TIok P t i) (w:World) (b off:Nat) (vs news:List Value) (y:TypeId) (v:Value) (E:w.heap[b]?=some (.cells ⟨vs⟩ y (0,0))) (hv:v.cells.toList=news) (hl:news.length=i.size) (r:off+news.length≤vs.length) (h1:∀u∈news,u.oneCell'=true):
  (Instr.storeAt t (.pointer (some ⟨b,off,none⟩)) v).run P w=.ok () (w.setRow b ⟨vs.take off++news++vs.drop (off+news.length)⟩):=by
 have hsz:v.cells.size=i.size:=by rw[←hl,←hv];simp
 have q:=run_storeCells_at (P:=P) b off y news 0 ⟨vs⟩ w E (by simpa using r) h1;simp only[Cu] at q;simp only[Instr.storeAt,Instr.sureAddr,Ab,Ac,δ,storeVar,B.size_run w,hsz,hv];simp only[ne_eq,not_true_eq_false,Bq,q]
theorem iI {S:Sto}{μ:Mu}{H:cE}{id:Nat}{o o':AObj}{p:Nat×Nat×Nat}(h:H id=some o) (hm:μ id=some p) (hs:o.succ True o'):Evolve S μ H S (upd μ id (some p)) (upd H id (some o')):=by
 refine⟨S.le_refl,fun j x hj=>?_⟩;by_cases q:j=id
 ·subst q;rw[h] at hj;cases hj;refine⟨o',aJ _ _ _,?_⟩;have he:upd μ j (some p) j=μ j:=by rw[aJ,hm]
  rw[he];simpa using hs
 ·exact⟨x,by rw[bH _ _ _ q];exact hj,x.succ_refl (bH _ _ _ q)⟩
theorem Step.turn {rd:Rd}{id:Nat}{ao q:AObj}(hd:o.dst=none) (hid:st.h id=some ao) (B:id∈rd.h) (u:ao.succ True q)
  (h:∀st',fR rd st st'→st'.h id=some ao→∀G S μ a w,Sim G n S μ st' a w→∃w' y b c,(execOp a.eval o).run P w=.ok .skip w'∧μ id=some (b,c)∧WChg w w' b y∧
   kL S (upd μ id (some (b,c))) (upd st'.h id (some q)) w' id q∧(∀o v,S.cell b o=some v→∃vs t J,y=.cells vs t J∧vs[o]?=some v)∧(∀m,S.mapo b=some m→w.heap.size≤b)):
  Step P n o st rd ⟨none,[(id,some q)]⟩:=by
 intro st' ha G S μ a w K Q hs M;have r:st'.h id=some ao:=by rw[ha.2 id B,hid]
 obtain⟨w',y,b,c,O,hm,hw,hO,hS,E⟩:=h st' ha r G S μ a w hs;refine fun ro=>vP O ?_
 rw[hd];have I:=iI (S:=S) (μ:=μ) r hm u;have hi:=hs.inv.chg (id:=id) (cap:=c) (ao:=q) hw (.inr ⟨ao,c,r,hm⟩) I hO hS E;refine M S (upd μ id (some (b,c))) _ _ ?_;have:=hs.put_none hi I undef;unfold Eff.apply;rw[cD];exact this
def bV {α:Type}(l:List α) (off:Nat) (new:List α):List α:=l.take off++new++l.drop (off+new.length)
theorem fL {S:Sto}{w:World}{b:Nat}(hb:S.mapo b=none) (m:MK) (e:S.mapo b=some m):w.heap.size≤b:=by
 rw[hb] at e;cases e
theorem aQs {t tv:TypeId}{i:TI}{x y:Operand}{id off:Nat}{cells rs:List R}{v:V}(O:Tok P T) (ho:o.op=.store t x y) (hd:o.dst=none) (hi:T[t]?=some (some i)) (hx:opv st x=some (.one (.vp id off)))
  (hy:opv st y=some v) (hc:gK v=some rs) (hh:st.h id=some (.var tv cells)) (U:rs.length=i.size) (hl:Nat.ble (off+i.size) cells.length=true):
  Step P n o st ⟨opr x++opr y,[id]⟩ ⟨none,[(id,some (.var tv (bV cells off rs)))]⟩:=by
 refine Step.turn hd hh (by simp) (by simp[AObj.succ]) fun st' ha r G S μ a w hs=>?_
 have u:=aM hs hx fun t ht=>ha.1 t (by simp[ht])
 have J:=aM hs hy fun t ht=>ha.1 t (by simp[ht])
 simp only[aO,aZ] at u;obtain⟨t',cells',b,c,h1,h2,q⟩:=u;obtain⟨b',vs,g1,g2,g3,g4⟩:=hs.inv.obj id _ r;rw[g1] at h2;cases h2;have hlen:=Aq hl;have Y:=g3.length;have hrel:=dM J hc;have B:=hrel.length;have E:=run_store (O.get hi) w b off vs (a.eval y).cells.toList tv (a.eval y) g2 rfl (by omega) (by omega) hrel.one;have I:=iI (S:=S) (μ:=μ) (o':=.var tv (bV cells off rs)) r g1 (by simp[AObj.succ]);have M:=WChg.setRow w b ⟨vs⟩ ⟨vs.take off++(a.eval y).cells.toList++vs.drop (off+(a.eval y).cells.toList.length)⟩ tv (0,0) g2;refine⟨_,_,b,(0,0),?_,g1,M,⟨b,_,aJ _ _ _,M.new,?_,g4⟩,(fun o v e=>by rw[g4.1] at e;cases e),fun m e=>fL g4.2 m e⟩
 ·simp only[execOp,ho,q,Ab,E,δ,Ac]
 ·have h1:=aR.evolve I _ _ (g3.take off);have h2:=aR.evolve I _ _ hrel;have q:=aR.evolve I _ _ (g3.drop (off+rs.length));rw[←B] at q;have:=(h1.append h2).append q;rw[show bV cells off rs=cells.take off++rs++cells.drop (off+(a.eval y).cells.toList.length) by rw[B];rfl] at this ⊢;exact this
theorem aAc {α:Type}{es:Nat}:∀{l:List (List α)},(∀r∈l,r.length=es)→∀(k:Nat) (r:List α),l[k]?=some r→
  (l.take k).flatten=l.flatten.take (k*es)∧(l.drop (k+1)).flatten=l.flatten.drop (k*es+es)
 | [],_,k,r,h=>by simp at h
 | x::xs,hl,0,r,_=>by
  have hx:=hl x (by simp);simp only[take_zero,List.flatten_nil,zero_mul,Bj,C0,B5,Bh,true_and];rw[drop_append,hx,Cg,B5,drop_of_length_le (by omega),Ak]
 | x::xs,hl,k+1,r,h=>by
  have hx:=hl x (by simp);simp at h;obtain⟨h1,h2⟩:=aAc (l:=xs) (fun r q=>hl r (by simp[q])) k r h;simp only[A5,Bh,C0];rw[h1,h2,List.take_append,drop_append,hx];have u:(k+1)*es-es=k*es:=by rw[Be];omega
  have y:(k+1)*es+es-es=k*es+es:=by rw[Be];omega
  rw[u,y,Az (l:=x) (by rw[hx,Be];omega),drop_of_length_le (l:=x) (by rw[hx,Be];omega),Ak];exact⟨rfl,rfl⟩
theorem aD8 {t te es:Nat}{i:TI}{x y:Operand}{id k fo sz:Nat}{elems:List (List C)}{v:V}{rs:List R}{cs r:List C}(hT:Tok P T) (ho:o.op=.store t x y) (hd:o.dst=none) (hi:T[t]?=some (some i)) (hx:opv st x=some (.one (.ep id k fo sz)))
  (hy:opv st y=some v) (hc:gK v=some rs) (hp:iU rs=some cs) (hh:st.h id=some (.arr te es elems 0)) (hsz:sz=elems.length) (O:elems[k]?=some r) (hcs:cs.length=i.size) (hl:fo+i.size≤es):
  Step P n o st ⟨opr x++opr y,[id]⟩ ⟨none,[(id,some (.arr te es (elems.set k (bV r fo cs)) 0))]⟩:=by
 refine Step.turn hd hh (by simp) (by simp[AObj.succ]) fun st' ha B G S μ a w hs=>?_
 have aa:=aM hs hx fun t ht=>ha.1 t (by simp[ht])
 have hvy:=aM hs hy fun t ht=>ha.1 t (by simp[ht])
 simp only[aO,aZ] at aa;obtain⟨_,hv | ⟨te',es',elems',fz',h1,h2,h3⟩⟩:=aa
 ·rw[B] at hv;cases hv
 rw[B] at h1;cases h1;obtain⟨h4,b,base,cap,h5,h6⟩:=h3 hsz;obtain⟨g0,vs,g1,g2,g3,g4,g5,g6,g7⟩:=(hs.inv.obj id _ B).arr h5;have hrel:=dM hvy hc;rw[nN hp] at hrel;have I:=hrel.pure;have hone:=hrel.one;have hnl:=I.length;have hk:k<elems.length:=(Ai.1 O).1
 have hres:r.length=es:=g0 r (τ O);have hke:(k+1)*es≤elems.length*es:=A0 _ hk;have hce:elems.length*es≤cap*es:=A0 _ g3;rw[Be] at hke;generalize U:(a.eval y).cells.toList=news at *;have hrun:=run_store (hT.get hi) w b (base+k*es+fo) vs news te (a.eval y) g1 U (by omega) (by omega) hone;have hE:=iI (S:=S) (μ:=μ) (o':=.arr te es (elems.set k (bV r fo cs)) 0) B h5 (by simp[AObj.succ]);have J:=aOx g0 g5 O;have E:=aAc g0 k r O;have hlen:(elems.set k (bV r fo cs)).length=elems.length:=by simp
 have hW:=WChg.setRow w b ⟨vs⟩ ⟨vs.take (base+k*es+fo)++news++vs.drop (base+k*es+fo+news.length)⟩ te (0,0) g1;refine⟨_,_,b,(base,cap),?_,h5,hW,⟨?_,.inr ⟨b,base,cap,_,aJ _ _ _,hW.new,?_,by rw[hlen];exact g3,g4,?_,g6,by rw[hlen];exact g7.1,fun e=>by cases e⟩⟩,fun o v e=>?_,fun m e=>fL g4.2 m e⟩
 ·simp only[execOp,ho,h6,Ab,hrun,δ,Ac]
 ·intro q hq;rcases mem_or_eq_of_mem_set hq with hq | rfl
  ·exact g0 q hq
  ·unfold bV;simp;omega
 ·simp only[θ,An,Bg];omega
 ·rw[hlen];have e1:(elems.set k (bV r fo cs)).flatten=elems.flatten.take (k*es)++(r.take fo++cs++r.drop (fo+cs.length))++elems.flatten.drop (k*es+es):=by
   rw[Cr,ζ hk,C2,Bh,E.1,E.2,←Ae];rfl
  have e2:((vs.take (base+k*es+fo)++news++vs.drop (base+k*es+fo+news.length)).drop base).take (elems.length*es)=
    ((vs.drop base).take (elems.length*es)).take (k*es)++((((vs.drop (base+k*es)).take es).take fo)++news++(((vs.drop (base+k*es)).take es).drop (fo+cs.length)))++((vs.drop base).take (elems.length*es)).drop (k*es+es):=by
   apply Ce;intro j;simp only[Ao,Ap,Ca,θ,An,Bg];have hm1:min (k*es) (min (elems.length*es) (vs.length-base))=k*es:=by omega
   have hm2:min (base+k*es+fo) vs.length=base+k*es+fo:=by omega
   have hm3:min fo es=fo:=by omega
   have hm4:min es (vs.length-(base+k*es))=es:=by omega
   simp only[hm1,hm2,hm3,hm4,hnl];by_cases Y:j<k*es
   ·have u:j<elems.length*es:=by omega
    have a2:base+j<base+k*es+fo:=by omega
    have a3:base+j<base+k*es+fo+cs.length:=by omega
    have a4:j<k*es+(fo+cs.length+(es-(fo+cs.length))):=by omega
    simp[Y,u,a2,a3,a4]
   ·by_cases c2:j<k*es+fo
    ·have u:j<elems.length*es:=by omega
     have a2:base+j<base+k*es+fo:=by omega
     have a3:base+j<base+k*es+fo+cs.length:=by omega
     have a4:j<k*es+(fo+cs.length+(es-(fo+cs.length))):=by omega
     have a5:j-k*es<fo+cs.length:=by omega
     have M:j-k*es<fo:=by omega
     have a7:j-k*es<es:=by omega
     simp[Y,u,a2,a3,a4,a5,M,a7,show base+k*es+(j-k*es)=base+j by omega]
    ·by_cases c3:j<k*es+fo+cs.length
     ·have u:j<elems.length*es:=by omega
      have a2:¬base+j<base+k*es+fo:=by omega
      have a3:base+j<base+k*es+fo+cs.length:=by omega
      have a4:j<k*es+(fo+cs.length+(es-(fo+cs.length))):=by omega
      have a5:j-k*es<fo+cs.length:=by omega
      have M:¬j-k*es<fo:=by omega
      simp[Y,u,a2,a3,a4,a5,M,show base+j-(base+k*es+fo)=j-k*es-fo by omega]
     ·by_cases c4:j<k*es+es
      ·have u:j<elems.length*es:=by omega
       have a3:¬base+j<base+k*es+fo+cs.length:=by omega
       have a4:j<k*es+(fo+cs.length+(es-(fo+cs.length))):=by omega
       have a5:¬j-k*es<fo+cs.length:=by omega
       have M:fo+cs.length+(j-k*es-(fo+cs.length))<es:=by omega
       simp[Y,u,a3,a4,a5,M,show base+k*es+fo+cs.length+(base+j-(base+k*es+fo+cs.length))=base+j by omega,show base+k*es+(fo+cs.length+(j-k*es-(fo+cs.length)))=base+j by omega]
      ·have a3:¬base+j<base+k*es+fo+cs.length:=by omega
       have a4:¬j<k*es+(fo+cs.length+(es-(fo+cs.length))):=by omega
       by_cases c5:j<elems.length*es
       ·have a5:k*es+es+(j-(k*es+(fo+cs.length+(es-(fo+cs.length)))))<elems.length*es:=by omega
        simp[a3,a4,c5,a5,show base+k*es+fo+cs.length+(base+j-(base+k*es+fo+cs.length))=base+j by omega,show base+(k*es+es+(j-(k*es+(fo+cs.length+(es-(fo+cs.length))))))=base+j by omega]
       ·have a5:¬k*es+es+(j-(k*es+(fo+cs.length+(es-(fo+cs.length)))))<elems.length*es:=by omega
        simp[a4,c5,a5]
  rw[e1];show c0 S _ (((vs.take (base+k*es+fo)++news++vs.drop (base+k*es+fo+news.length)).drop base).take (elems.length*es));rw[e2];exact((g5.take (k*es)).append (((J.take fo).append I).append (J.drop (fo+cs.length)))).append (g5.drop (k*es+es))
 ·--what stays is not touched
  by_cases hb:base≤o
  ·rw[g6 rfl o hb] at e;cases e
  ·obtain⟨vs0,t0,fr0,q1,q2⟩:=hs.inv.holds.1 b o v e;rw[g1] at q1;cases q1;refine⟨_,_,_,rfl,?_⟩;simp only[Cq] at q2 ⊢;have hlt:o<vs.length:=(Ai.1 q2).1
   rw[Ae,Bc (by simp;omega),Ao,ζ (by omega)];exact q2
theorem vE (b off k:Nat):(⟨b,off,none⟩:Addr).add k=⟨b,off+k,none⟩:=Addr.add_mid b off k
theorem iA {t u:TypeId}{i y:TI}{fs:List (Nat×TypeId)}{f q:Nat}(B:Tok P T) (hi:T[t]?=some (some i)) (I:i.k=.st fs) (r:fs[f]?=some (q,u)) (E:T[u]?=some (some y)) (J:y.size≠0) (w:World) (b off:Nat):
  (Instr.fieldAt t (.pointer (some ⟨b,off,none⟩)) f).run P w=.ok (.pointer (some ⟨b,off+q,none⟩)) w:=by
 obtain⟨fields,h1,h2⟩:=(B.get hi).struct I;rw[h2] at r;simp only[By,Option.map_eq_some_iff,Array.getElem?_toList] at r;obtain⟨fl,M,O⟩:=r;cases O;simp only[Instr.fieldAt,Ab,Am h1 w,δ,M,Instr.sureAddr,Ac,fieldPlace,(B.get E).size_run w];simp[J,vE]
theorem aEd {t r:TypeId}{i u:TI}{fs:List (Nat×TypeId)}{f q:Nat}{x:Operand}{id off:Nat}(E:Tok P T) (ho:o.op=.fieldAddr t x f) (hd:o.dst=some d) (y:d<n) (hi:T[t]?=some (some i)) (I:i.k=.st fs) (J:fs[f]?=some (q,r)) (B:T[r]?=some (some u)) (M:u.size≠0)
  (hx:opv st x=some (.one (.vp id off))):Step P n o st ⟨opr x,[]⟩ ⟨some (d,some (.one (.vp id (off+q)))),[]⟩:=by
 refine Step.value hd y fun st' ha G S μ a w hs=>?_
 have hv:=aM hs hx ha.1;simp only[aO,aZ] at hv;obtain⟨O,cells',b,c,h1,h2,U⟩:=hv;refine⟨.pointer (some ⟨b,off+q,none⟩),?_,?_⟩
 ·simp only[execOp,ho,U,Ab,iA E hi I J B M,δ,Ac]
 ·simp only[aO,aZ];exact⟨O,cells',b,c,h1,h2,rfl⟩
theorem aEf {t r:TypeId}{i u:TI}{fs:List (Nat×TypeId)}{f q:Nat}{x:Operand}{l:List C}(E:Tok P T) (ho:o.op=.fieldAddr t x f) (hd:o.dst=some d) (y:d<n) (hi:T[t]?=some (some i)) (I:i.k=.st fs) (J:fs[f]?=some (q,r)) (B:T[r]?=some (some u)) (M:u.size≠0)
  (hx:opv st x=some (.one (.c (.pt l)))):Step P n o st ⟨opr x,[]⟩ ⟨some (d,some (.one (.c (.pt (l.drop q))))),[]⟩:=by
 refine Step.value hd y fun st' ha G S μ a w hs=>?_
 have hv:=aM hs hx ha.1;simp only[aO,aZ,Rep] at hv;obtain⟨b,off,h1,vs,h2,O⟩:=hv;refine⟨.pointer (some ⟨b,off+q,none⟩),?_,?_⟩
 ·simp only[execOp,ho,h1,Ab,iA E hi I J B M,δ,Ac]
 ·simp only[aO,aZ,Rep];refine⟨b,off+q,rfl,vs.drop q,h2.drop q,fun j v hj=>?_⟩;rw[Ap] at hj;have:=O (q+j) v hj;rwa [←add_assoc] at this
theorem aEg {t u:TypeId}{i y:TI}{fs:List (Nat×TypeId)}{f q:Nat}{x:Operand}{id k fo sz:Nat}(I:Tok P T) (ho:o.op=.fieldAddr t x f) (hd:o.dst=some d) (B:d<n) (hi:T[t]?=some (some i)) (J:i.k=.st fs) (M:fs[f]?=some (q,u)) (E:T[u]?=some (some y)) (O:y.size≠0)
  {te es:Nat} {elems:List (List C)} {fz:Nat} (hx:opv st x=some (.one (.ep id k fo sz))) (hh:st.h id=some (.arr te es elems fz)) (hsz:sz=elems.length):Step P n o st ⟨opr x,[id]⟩ ⟨some (d,some (.one (.ep id k (fo+q) sz))),[]⟩:=by
 refine Step.value hd B fun st' ha G S μ a w hs=>?_
 have hv:=aM hs hx ha.1;have r:st'.h id=some (.arr te es elems fz):=by rw[ha.2 id (by simp),hh]
 simp only[aO,aZ] at hv;obtain⟨_,hv | ⟨te',es',elems',fz',h1,h2,U⟩⟩:=hv
 ·rw[r] at hv;cases hv
 rw[r] at h1;cases h1;obtain⟨Y,b,base,cap,h5,h6⟩:=U hsz;refine⟨.pointer (some ⟨b,base+k*es+fo+q,none⟩),?_,?_⟩
 ·simp only[execOp,ho,h6,Ab,iA I hi J M E O,δ,Ac]
 ·simp only[aO,aZ];exact⟨⟨_,rfl⟩,.inr ⟨te,es,elems,fz,r,h2,fun _=>⟨Y,b,base,cap,h5,by rw[add_assoc]⟩⟩⟩
theorem jS {t e:TypeId}{i q:TI}(r:Tok P T) (hi:T[t]?=some (some i)) (y:i.k=.sl e) (u:T[e]?=some (some q)) (w:World) (b off len cap k:Nat) (kk:IntKind) (B:k<len):
  (Instr.indexAt t (.slice (some ⟨b,off,none⟩) len cap) (.int kk (k:Int))).run P w=.ok (.pointer (some ⟨b,off+k*q.size,none⟩)) w:=by
 have h1:=(r.get hi).slice y;simp only[Instr.indexAt,asIntOf,Ab,Ac,δ,Am h1 w];rw[ζ ⟨by omega,by omega⟩];simp only[Ab,(r.get u).size_run w,δ,Ac,Int.toNat_natCast,vE]
theorem aQw {t e:TypeId}{i u:TI}{x y:Operand}{es k:Nat}{kk:IntKind}{m:Int}{l:List (List C)}{r:List C}(Y:Tok P T) (ho:o.op=.indexAddr t x y) (hd:o.dst=some d) (B:d<n) (hi:T[t]?=some (some i)) (hk:i.k=.sl e) (E:T[e]?=some (some u)) (J:u.size=es)
  (hx:opv st x=some (.one (.c (.sl es l)))) (hy:opv st y=some (I kk m)) (hm:m=(k:Int)) (M:l[k]?=some r):Step P n o st ⟨opr x++opr y,[]⟩ ⟨some (d,some (.one (.c (.pt r)))),[]⟩:=by
 refine Step.value hd B fun st' ha G S μ a w hs=>?_
 have hv:=aM hs hx (dA ha).1;have O:=dT (aM hs hy (dA ha).2);have hlt:k<l.length:=(Ai.1 M).1
 simp only[aO,aZ,Rep] at hv;obtain⟨q,len,cap,h1,h2,h3,h4,h5,h6,b,off,h7,h8⟩:=hv;cases q with
 | none=>have:=(h5 rfl).1;omega
 | some q=>
  obtain⟨h9,h10⟩:=h7 q rfl;have h11:=h6 q rfl (by omega);have U:q=⟨b,off,none⟩:=by cases q;simp_all
  subst U;subst hm;obtain⟨q1,vs,q2,q3⟩:=h8.get k r M;refine⟨.pointer (some ⟨b,off+k*es,none⟩),?_,?_⟩
  ·simp only[execOp,ho,h1,O,Ab,jS Y hi hk E w b off len cap k kk (by omega),δ,Ac,J]
  ·simp only[aO,aZ,Rep];exact⟨b,off+k*es,rfl,vs,q2,q3⟩
theorem aEc {t e:TypeId}{i u:TI}{x y:Operand}{te es k id off len sz:Nat}{kk:IntKind}{m:Int}{elems:List (List C)}{fz:Nat}(Y:Tok P T) (ho:o.op=.indexAddr t x y) (hd:o.dst=some d) (B:d<n) (hi:T[t]?=some (some i)) (hk:i.k=.sl e) (E:T[e]?=some (some u)) (J:u.size=es)
  (hx:opv st x=some (.one (.hs id off len sz))) (hh:st.h id=some (.arr te es elems fz)) (hsz:sz=elems.length) (hy:opv st y=some (I kk m)) (hm:m=(k:Int)) (M:k<len):Step P n o st ⟨opr x++opr y,[id]⟩ ⟨some (d,some (.one (.ep id (off+k) 0 sz))),[]⟩:=by
 refine Step.value hd B fun st' ha G S μ a w hs=>?_
 have hv:=aM hs hx fun t ht=>ha.1 t (by simp[ht])
 have O:=dT (aM hs hy fun t ht=>ha.1 t (by simp[ht]));have q:st'.h id=some (.arr te es elems fz):=by rw[ha.2 id (by simp),hh]
 simp only[aO,aZ] at hv;obtain⟨_,hv | ⟨te',es',elems',fz',h1,h2,h3⟩⟩:=hv
 ·rw[q] at hv;cases hv
 rw[q] at h1;cases h1;obtain⟨h4,⟨U,r,h7⟩ | ⟨b,base,cap,U,r⟩⟩:=h3 hsz
 ·subst r;simp at hsz;omega
 subst hm;refine⟨.pointer (some ⟨b,base+(off+k)*es+0,none⟩),?_,?_⟩
 ·simp only[execOp,ho,r,O,Ab,jS Y hi hk E w b (base+off*es) len _ k kk M,δ,Ac,J,Cu];rw[show base+off*es+k*es=base+(off+k)*es by rw[Be];omega]
 ·simp only[aO,aZ];exact⟨⟨_,rfl⟩,.inr ⟨te,es,elems,fz,q,h2,fun _=>⟨by omega,b,base,cap,U,rfl⟩⟩⟩
theorem vY {t e:TypeId}{m:Nat}{i q:TI}(r:Tok P T) (hi:T[t]?=some (some i)) (y:i.k=.ar m e) (u:T[e]?=some (some q)) (w:World) (b off k:Nat) (kk:IntKind) (B:k<m):
  (Instr.indexAt t (.pointer (some ⟨b,off,none⟩)) (.int kk (k:Int))).run P w=.ok (.pointer (some ⟨b,off+k*q.size,none⟩)) w:=by
 have h1:=(r.get hi).array y;have h2:(Instr.sureAddr (.pointer (some ⟨b,off,none⟩))).run P w=.ok ⟨b,off,none⟩ w:=by simp[Instr.sureAddr]
 simp only[Instr.indexAt,asIntOf,Ab,Ac,δ,Am h1 w,h2];rw[ζ ⟨by omega,by omega⟩];simp only[Ab,(r.get u).size_run w,δ,Ac,Int.toNat_natCast,vE]
theorem zJ {t e:TypeId}{i r:TI}{x y:Operand}{id off k m:Nat}{kk:IntKind}{q:Int}(M:Tok P T) (ho:o.op=.indexAddr t x y) (hd:o.dst=some d) (u:d<n) (hi:T[t]?=some (some i)) (O:i.k=.ar m e) (B:T[e]?=some (some r))
  (hx:opv st x=some (.one (.vp id off))) (hy:opv st y=some (I kk q)) (hm:q=(k:Int)) (E:k<m):Step P n o st ⟨opr x++opr y,[]⟩ ⟨some (d,some (.one (.vp id (off+k*r.size)))),[]⟩:=by
 refine Step.value hd u fun st' ha G S μ a w hs=>?_
 have hv:=aM hs hx (dA ha).1;have J:=dT (aM hs hy (dA ha).2);simp only[aO,aZ] at hv;obtain⟨U,cells',b,c,h1,h2,Y⟩:=hv;subst hm;refine⟨.pointer (some ⟨b,off+k*r.size,none⟩),?_,?_⟩
 ·simp only[execOp,ho,Y,J,Ab,vY M hi O B w b off k kk E,δ,Ac]
 ·simp only[aO,aZ];exact⟨U,cells',b,c,h1,h2,rfl⟩
def notNil:V→Bool
 | .one (.vp _ _)=>true
 | .one (.c (.pt _))=>true
 | .one (.pas _)=>true
 | _=>false
theorem aD9 {x:Operand}{y:V}(ho:o.op=.nilCheck x) (hd:o.dst=some d) (r:d<n) (hx:opv st x=some y) (q:notNil y=true):Step P n o st ⟨opr x,[]⟩ ⟨some (d,some y),[]⟩:=by
 refine Step.value hd r fun st' ha G S μ a w hs=>⟨a.eval x,?_,aM hs hx ha.1⟩
 have hv:=aM hs hx ha.1;unfold notNil at q;split at q
 ·simp only[aO,aZ] at hv;obtain⟨B,cells',b,c,h1,h2,u⟩:=hv;simp[execOp,ho,u]
 ·simp only[aO,aZ,Rep] at hv;obtain⟨b,off,h1,_⟩:=hv;simp[execOp,ho,h1]
 ·simp only[aO,aZ] at hv;obtain⟨b,off,h1,_⟩:=hv;simp[execOp,ho,h1]
 ·cases q
theorem jR {t:TypeId}{x:Operand}{a:Act}{w:World}{u:Value}{m:Int}(ho:o.op=.call { callee:=.builtin .len,args:= #[x],argTypes:= #[t] }) (hx:a.eval x=u) (q:(Builtin.len_ #[t] o.type #[u]).run P w=.ok (goInt m) w):
  (execOp a.eval o).run P w=.ok (.value (goInt m)) w:=by
 simp only[execOp,ho,resolve,map_toArray,Ar,Ch,hx,Ab,Ac,δ,invoke,builtin,q]
theorem aLy {t e:TypeId}{i:TI}{x:Operand}{es:Nat}{l:List (List C)}(r:Tok P T) (ho:o.op=.call { callee:=.builtin .len,args:= #[x],argTypes:= #[t] }) (hd:o.dst=some d) (q:d<n) (hi:T[t]?=some (some i)) (u:i.k=.sl e)
  (hx:opv st x=some (.one (.c (.sl es l)))):Step P n o st ⟨opr x,[]⟩ ⟨some (d,some (I .i64 (l.length:Int))),[]⟩:=by
 refine Step.value hd q fun st' ha G S μ a w hs=>?_
 have hv:=aM hs hx ha.1;simp only[aO,aZ,Rep] at hv;obtain⟨y,len,cap,h1,h2,_⟩:=hv;refine⟨goInt l.length,jR ho h1 ?_,by simp[aO,aZ,Rep,goInt]⟩;simp[Builtin.len_,Am ((r.get hi).slice u) w,h2]
theorem aL0 {t e:TypeId}{i:TI}{x:Operand}(r:Tok P T) (ho:o.op=.call { callee:=.builtin .len,args:= #[x],argTypes:= #[t] }) (hd:o.dst=some d) (q:d<n) (hi:T[t]?=some (some i)) (u:i.k=.sl e)
  (hx:opv st x=some (.one (.c .nl))):Step P n o st ⟨opr x,[]⟩ ⟨some (d,some (I .i64 0)),[]⟩:=by
 refine Step.value hd q fun st' ha G S μ a w hs=>?_
 have hv:=aM hs hx ha.1;simp only[aO,aZ,Rep] at hv;refine⟨goInt 0,jR ho hv ?_,by simp[aO,aZ,Rep,goInt]⟩;simp[Builtin.len_,Am ((r.get hi).slice u) w]
theorem aL1 {t e:TypeId}{i:TI}{x:Operand}{te es id off len sz:Nat}{elems:List (List C)}{fz:Nat}(u:Tok P T) (ho:o.op=.call { callee:=.builtin .len,args:= #[x],argTypes:= #[t] }) (hd:o.dst=some d) (y:d<n) (hi:T[t]?=some (some i)) (B:i.k=.sl e)
  (hx:opv st x=some (.one (.hs id off len sz))) (hh:st.h id=some (.arr te es elems fz)) (hsz:sz=elems.length):Step P n o st ⟨opr x,[id]⟩ ⟨some (d,some (I .i64 (len:Int))),[]⟩:=by
 refine Step.value hd y fun st' ha G S μ a w hs=>?_
 have hv:=aM hs hx ha.1;have q:st'.h id=some (.arr te es elems fz):=by rw[ha.2 id (by simp),hh]
 simp only[aO,aZ] at hv;obtain⟨_,hv | ⟨U,Y,elems',aa,h1,h2,J⟩⟩:=hv
 ·rw[q] at hv;cases hv
 rw[q] at h1;cases h1;obtain⟨h4,⟨M,r,O⟩ | ⟨b,base,cap,M,r⟩⟩:=J hsz
 ·subst r;simp at hsz;have E:len=0:=by omega
  refine⟨goInt len,jR ho O ?_,by simp[aO,aZ,Rep,goInt]⟩;simp[Builtin.len_,Am ((u.get hi).slice B) w,E]
 ·refine⟨goInt len,jR ho r ?_,by simp[aO,aZ,Rep,goInt]⟩;simp[Builtin.len_,Am ((u.get hi).slice B) w]
theorem aG5 {t:TypeId}{i:TI}{x:Operand}{s:List UInt8}(r:Tok P T) (ho:o.op=.call { callee:=.builtin .len,args:= #[x],argTypes:= #[t] }) (hd:o.dst=some d) (q:d<n) (hi:T[t]?=some (some i)) (u:i.k=.str)
  (hx:opv st x=some (Go.AM.T s)):Step P n o st ⟨opr x,[]⟩ ⟨some (d,some (I .i64 (s.length:Int))),[]⟩:=by
 refine Step.value hd q fun st' ha G S μ a w hs=>?_
 have hv:=lH (aM hs hx ha.1);refine⟨goInt s.length,jR ho hv ?_,by simp[aO,aZ,Rep,goInt]⟩;simp[Builtin.len_,Am ((r.get hi).str u) w];rfl
end
section
variable {P:Program}{n:Nat}{o:Oper}{st:St}{d:Nat}{T:TT}
theorem nU (off:Nat):∀(vs:List Value) (j:Nat) (cells:Array Value),off+j+vs.length≤cells.size→
  (vs.zipIdx j).foldl (fun cs (x:Value×Nat)=>cs.setIfInBounds (off+x.2) x.1) cells=⟨bV cells.toList (off+j) vs⟩
 | [],j,cells,_=>by simp[bV]
 | v::vs,j,cells,h=>by
  simp only[χ] at h;have I:=nU off vs (j+1) (cells.setIfInBounds (off+j) v) (by simp;omega);simp only[List.zipIdx_cons,List.foldl_cons,I];congr 1;unfold bV;simp only[Array.toList_setIfInBounds];apply Ce;intro k;simp only[Ca,θ,An,Cx,A4,χ,Ao,Ap,List.getElem?_set];have u:min (off+(j+1)) cells.size=off+j+1:=by omega
  have y:min (off+j) cells.size=off+j:=by omega
  simp only[u,y];by_cases B:k<off+j
  ·have q:k<off+j+1+vs.length:=by omega
   have a2:k<off+j+1:=by omega
   have a3:k<off+(j+1):=by omega
   have a4:k<off+j+(vs.length+1):=by omega
   have a5:¬off+j=k:=by omega
   simp[B,q,a2,a3,a4,a5]
  ·by_cases J:k=off+j
   ·subst J;have q:off+j<off+j+1+vs.length:=by omega
    have a5:off+j<cells.size:=by omega
    have r:off+j<off+(j+1):=by omega
    simp[q,a5,r]
   ·by_cases E:k<off+j+1+vs.length
    ·have a2:¬k<off+j+1:=by omega
     have a4:k<off+j+(vs.length+1):=by omega
     have r:k-(off+j)=(k-(off+j+1))+1:=by omega
     simp[B,E,a2,a4,r]
    ·have a4:¬k<off+j+(vs.length+1):=by omega
     have a5:¬off+j=k:=by omega
     simp[E,a4,a5,show off+(j+1)+vs.length+(k-(off+j+1+vs.length))=k by omega,show off+j+(vs.length+1)+(k-(off+j+(vs.length+1)))=k by omega]
def pH (st:St):List (Nat×Operand)→Option (List (Nat×List R))
 | []=>some []
 | (i,x)::ps=>match opv st x with
  | some v=>match gK v with
   | some rs=>match pH st ps with | some l=>some ((i,rs)::l) | none=>none
   | none=>none
  | none=>none
def fF:List (Nat×Operand)→List Nat
 | []=>[]
 | (_,x)::ps=>opr x++fF ps
def aE1 (places:List (Nat×Nat)):List R→List (Nat×List R)→Option (List R)
 | cells,[]=>some cells
 | cells,(i,rs)::ps=>match places[i]? with
  | some (off,size)=>if Nat.beq rs.length size&&Nat.ble (off+rs.length) cells.length then aE1 places (bV cells off rs) ps else none
  | none=>none
def lF (T:TT):List (Nat×TypeId)→Option (List (Nat×Nat))
 | []=>some []
 | (off,t)::fs=>match T[t]? with
  | some (some i)=>match lF T fs with | some l=>some ((off,i.size)::l) | none=>none
  | _=>none
theorem aEm {G:Ctx}{S:Sto}{μ:Mu}{st':St}{a:Act}{w:World}(hs:Sim G n S μ st' a w):∀(ps:List (Nat×Operand)) (l:List (Nat×List R)),pH st ps=some l→(∀t∈fF ps,st'.e t=st.e t)→
  ∃vs:List (Nat×Value),ps.map (fun(i,x)=>(i,a.eval x))=vs∧vs.length=l.length∧∀(k:Nat) (p:Nat×List R),l[k]?=some p→∃v:Value,vs[k]?=some (p.1,v)∧aR S μ st'.h p.2 v.cells.toList:=by
 intro ps
 induction ps with
 | nil=>intro l h _;simp[pH] at h;subst h;exact⟨[],rfl,rfl,fun k p h=>by simp at h⟩
 | cons p ps u=>
  obtain⟨i,x⟩:=p;intro l h ha;simp only[pH] at h;split at h
  ·rename_i v hv;split at h
   ·rename_i rs hc;split at h
    ·rename_i y r;cases h;obtain⟨vs,h1,h2,B⟩:=u y r fun t ht=>ha t (by simp[fF,ht])
     refine⟨(i,a.eval x)::vs,by simp[h1],by simp[h2],fun k q hq=>?_⟩;cases k with
     | zero=>
      simp at hq;subst hq;exact⟨a.eval x,rfl,dM (aM hs hv fun t ht=>ha t (by simp[fF,ht])) hc⟩
     | succ k=>simp at hq;simpa using B k q hq
    ·cases h
   ·cases h
  ·cases h
theorem sM {S:Sto}{μ:Mu}{H:cE}{cells rs:List R}{vs us:List Value}{off:Nat}(h:aR S μ H cells vs) (k:aR S μ H rs us):aR S μ H (bV cells off rs) (bV vs off us):=by
 have hl:=k.length;unfold bV;rw[hl];exact((h.take off).append k).append (h.drop _)
theorem aIv {S:Sto}{μ:Mu}{H:cE}{places:List (Nat×Nat)}:∀(ps:List (Nat×List R)) (vs:List (Nat×Value)) (cells:List R) (cs:Array Value) (out:List R),aE1 places cells ps=some out→aR S μ H cells cs.toList→
  vs.length=ps.length→(∀(k:Nat) (p:Nat×List R),ps[k]?=some p→∃v:Value,vs[k]?=some (p.1,v)∧aR S μ H p.2 v.cells.toList)→
  ∃r,Instr.fill (places[·]?) cs vs=some r∧aR S μ H out r.toList:=by
 intro ps
 induction ps with
 | nil=>
  intro vs cells cs out h u hl _;simp at hl;subst hl;simp[aE1] at h;subst h;exact⟨cs,rfl,u⟩
 | cons p ps O=>
  intro vs cells cs out h u hl hp;obtain⟨i,rs⟩:=p
  match vs,hl with
  | q::vs,hl=>
   obtain⟨v,hv,hrel⟩:=hp 0 (i,rs) rfl;simp at hv;subst hv;simp only[aE1] at h;split at h
   ·rename_i off size E;split at h
    ·rename_i hc;simp only[π] at hc;have Y:=Aa hc.1;have aa:=Aq hc.2;have I:=hrel.length;have J:=u.length;simp only[A4] at I J;have B:=nU off v.cells.toList 0 cs (by simp;omega);obtain⟨r,h1,h2⟩:=O vs (bV cells off rs) ⟨bV cs.toList off v.cells.toList⟩ out h (sM u hrel) (by simpa using hl) fun k p U=>by simpa using hp (k+1) p (by simpa using U)
     refine⟨r,?_,h2⟩;simp only[Instr.fill];rw[E];simp only[];have y:(v.cells.size≠size || decide (off+v.cells.size>cs.size))=false:=by
      simp only[Cb,C3];exact⟨by simp;omega,by omega⟩
     simp only[y,As,Bq];have M:(v.cells.zipIdx.foldl (fun cs (x:Value×Nat)=>cs.setIfInBounds (off+x.2) x.1) cs)=⟨bV cs.toList off v.cells.toList⟩:=by
      rw[←Array.foldl_toList,Array.toList_zipIdx];simpa using B
     rw[←h1];congr 1
    ·cases h
   ·cases h
theorem sS (q:Tok P T):∀(fs:List (Nat×TypeId)) (fields:List Field) (places:List (Nat×Nat)),fs=fields.map (fun f=>(f.offset,f.type))→lF T fs=some places→
  fields.mapM (fun f=>(P.info? f.type).map fun i=>(f.offset,i.size))=some places
 | _,[],places,h,hp=>by simp at h;subst h;simp[lF] at hp;subst hp;rfl
 | _,f::fields,places,h,hp=>by
  simp only[Ar] at h;subst h;simp only[lF] at hp;split at hp
  ·rename_i i hi;split at hp
   ·rename_i l hl;cases hp;have r:=sS q _ fields l rfl hl;have hsz:=(q.get hi).info;simp only[List.mapM_cons,r];cases hq:P.info? f.type with
    | none=>simp[hq] at hsz
    | some inf=>
     simp[hq] at hsz;simp[hsz]
   ·cases hp
  ·cases hp
theorem aQ0 {t:TypeId}{i:TI}{fs:List (Nat×TypeId)}{places:List (Nat×Nat)}{parts:Array (Nat×Operand)}{ps:List (Nat×List R)}{out:List R}(r:Tok P T) (ho:o.op=.build t parts) (hd:o.dst=some d) (u:d<n) (hi:T[t]?=some (some i)) (I:i.k=.st fs)
  (y:lF T fs=some places) (B:pH st parts.toList=some ps) (J:aE1 places (i.zero.map R.c) ps=some out):Step P n o st ⟨fF parts.toList,[]⟩ ⟨some (d,some (aTy out)),[]⟩:=by
 refine Step.value hd u fun st' ha G S μ a w hs=>?_
 obtain⟨vs,h1,h2,M⟩:=aEm hs _ _ B ha.1;obtain⟨fields,hu,E⟩:=(r.get hi).struct I;obtain⟨inf,dd,z,g1,g2,g3,g4,g5,g6,g7,g8⟩:=(r.get hi).ex;obtain⟨q,O,U⟩:=aIv (S:=S) (μ:=μ) (H:=st'.h) ps vs (i.zero.map R.c) z.cells out J (hJ g7).toR h2 M;refine⟨.agg q,?_,?_⟩
 ·have hb:P.built t (parts.map fun(i,x)=>(i,a.eval x)).toList=some q:=by
   unfold Program.built;simp only[g1,hu,g6,sS r fs fields.toList places E y];rw[←O,←h1];simp
  simp only[execOp,ho,Ab,run_build w t _ q hb,δ,Ac]
 ·have:=aDv U;simpa using this
theorem aQx {t U:TypeId}{i q:TI}{fs:List (Nat×TypeId)}{f r:Nat}{x:Operand}{v y:V}{rs:List R}(B:Tok P T) (ho:o.op=.field t x f) (hd:o.dst=some d) (Y:d<n) (hi:T[t]?=some (some i)) (hk:i.k=.st fs) (J:fs[f]?=some (r,U)) (u:T[U]?=some (some q))
  (hx:opv st x=some v) (aa:(match v with | .pa _=>true | .ma _=>true | _=>false)=true) (hc:gK v=some rs) (hl:Nat.ble (r+q.size) rs.length=true) (hy:k8 q ((rs.drop r).take q.size)=some y):Step P n o st ⟨opr x,[]⟩ ⟨some (d,some y),[]⟩:=by
 refine Step.value hd Y fun st' ha G S μ a w hs=>?_
 have hv:=aM hs hx ha.1;have hrel:=dM hv hc;have M:∃cs,a.eval x=.agg cs:=by
  cases v<;>simp only[aO] at hv<;>simp at aa
  ·obtain⟨vs,h,_⟩:=hv;exact⟨_,h⟩
  ·obtain⟨vs,h,_⟩:=hv;exact⟨_,h⟩
 obtain⟨cs,E⟩:=M;rw[E] at hrel;simp only[Value.cells] at hrel;have ab:=hrel.length;have hl':=Aq hl;simp only[A4] at ab;obtain⟨fields,h1,h2⟩:=(B.get hi).struct hk;rw[h2] at J;simp only[By,Option.map_eq_some_iff,Array.getElem?_toList] at J;obtain⟨fl,h3,h4⟩:=J;cases h4;have O:=lK ((hrel.drop fl.offset).take q.size) hy;refine⟨_,?_,O⟩;simp only[execOp,ho,E,Ab,Instr.field,Am h1 w,δ,h3,asAgg,Ac,part,(B.get u).agg_run w];cases ac:q.k.agg with
 | true=>
  simp only[Cv,Ab,(B.get u).size_run w,δ,Ac];congr 3;have:(cs.extract fl.offset (fl.offset+q.size)).toList=(cs.toList.drop fl.offset).take q.size:=by simp
  rw[←this]
 | false=>
  have ad:=(B.get u).one ac;simp only[As,Bq];have I:fl.offset<cs.size:=by omega
  have he:cs[fl.offset]?=some cs[fl.offset]:=by simp[I]
  rw[he];simp only[Ac,δ];congr 2;rw[ad,List.take_one,List.head?_drop];simp[I]
end
inductive Cle:C→C→Prop
 | refl {x}:Cle x x
 | nl {es}:Cle .nl (.sl es [])
 | sn {es l}:Cle (.sn es l) (.sl es l)
 | sg {te es l}:Cle (.sg te es l) (.sl es l)
theorem Cle.rep {S:Sto}{x y:C}{v:Value}(h:Cle x y) (k:Rep S x v):Rep S y v:=by
 cases h with
 | refl=>exact k
 | sg=>
  simp only[Rep] at k ⊢;obtain⟨a,len,cap,h1,h2,r,u,q⟩:=k;rcases q with⟨rfl,q,B⟩ | ⟨b,o,rfl,B,_⟩
  ·refine⟨none,len,cap,h1,h2,r,u,fun _=>⟨q,B⟩,by simp,0,0,by simp,?_⟩;have:(_:List (List C)).length=0:=h2.symm.trans q;rw[Aw this];simp[bG]
  ·exact⟨some ⟨b,o,none⟩,len,cap,h1,h2,r,u,by simp,fun E e _=>by cases e;rfl,b,o,fun E e=>by cases e;exact⟨rfl,rfl⟩,B⟩
 | nl=>
  simp only[Rep] at k ⊢;exact⟨none,0,0,k,by simp,le_refl _,ε _,fun _=>⟨rfl,rfl⟩,by simp,0,0,by simp,by simp[bG]⟩
 | sn=>
  simp only[Rep] at k ⊢;obtain⟨b,o,sp,len,cap,h1,h2,r,u,I,q⟩:=k;exact⟨some ⟨b,o,sp⟩,len,cap,h1,h2,r,u,by simp,by rintro E ⟨⟩;exact I,b,o,by rintro E ⟨⟩;exact⟨rfl,rfl⟩,q⟩
inductive PureL (h:cE):List Nat→List R→List C→Prop
 | nil:PureL h [] [] []
 | c {ids rs cs x y}:Cle x y→PureL h ids rs cs→PureL h ids (.c x::rs) (y::cs)
 | hs {ids rs cs id off len sz te es elems e}:h id=some (.arr te es elems 2)→sz=elems.length→e=(elems.drop off).take len→PureL h ids rs cs→PureL h (id::ids) (.hs id off len sz::rs) (.sl es e::cs)
 | any {ids rs cs r}:PureL h ids rs cs→PureL h ids (r::rs) (.any::cs)
 | fn {ids rs cs f}:PureL h ids rs cs→PureL h ids (.clo f []::rs) (.fn f::cs)
 | ras {ids ids' ids0 rs cs n es l fl rows}:ids0=ids'++ids→PureL h ids' l fl→fl=rows.flatten→(∀r∈rows,r.length=es)→rows.length=n→PureL h ids rs cs→PureL h ids0 (.ras n es l::rs) (.sl es rows::cs)
theorem PureL.of_pure {h:cE}:∀{cs:List C},PureL h [] (cs.map R.c) cs
 | []=>.nil
 | _::_=>.c .refl PureL.of_pure
def aU5:List R→List C
 | []=>[]
 | .c x::l=>x::aU5 l
 | .clo f []::l=>.fn f::aU5 l
 | _::l=>.any::aU5 l
theorem PureL.ofA {h:cE}:∀{rs:List R},PureL h [] rs (aU5 rs)
 | []=>.nil
 | .c _::_=>.c .refl .ofA
 | .hs ..::_=>.any .ofA
 | .tl ..::_=>.any .ofA
 | .vp ..::_=>.any .ofA
 | .ep ..::_=>.any .ofA
 | .mr ..::_=>.any .ofA
 | .clo _ []::_=>.fn .ofA
 | .clo _ (_::_)::_=>.any .ofA
 | .mth ..::_=>.any .ofA
 | .yl ..::_=>.any .ofA
 | .ra ..::_=>.any .ofA
 | .rp ..::_=>.any .ofA
 | .ras ..::_=>.any .ofA
 | .pas ..::_=>.any .ofA
theorem aVz {S:Sto}{μ:Mu}{H:cE}{w:World}{id off len sz te es:Nat}{elems:List (List C)}{v:Value}(hO:kL S μ H w id (.arr te es elems 2)) (hh:H id=some (.arr te es elems 2)) (hsz:sz=elems.length)
  (hv:aZ S μ H (.hs id off len sz) v):Rep S (.sl es ((elems.drop off).take len)) v:=by
 simp only[aZ] at hv;obtain⟨_,hv | ⟨E,I,elems',J,h1,h2,u⟩⟩:=hv
 ·rw[hh] at hv;cases hv
 rw[hh] at h1;cases h1;obtain⟨M,⟨r,q,y⟩ | ⟨b,base,cap,r,q⟩⟩:=u hsz
 ·subst q;simp only[Rep];exact⟨none,0,0,y,by simp,le_refl _,ε _,fun _=>⟨rfl,rfl⟩,by simp,0,0,by simp,by simp[bG]⟩
 ·obtain⟨g0,vs,g1,g2,g3,g4,g5,g6,g7,g8⟩:=hO.arr r;simp only[Rep];have hlen:((elems.drop off).take len).length=len:=by simp;omega
  refine⟨_,len,cap-off,q,hlen.symm,by omega,le_trans (Nat.sub_le _ _) g4.1,by simp,by rintro B ⟨⟩;exact fun _=>rfl,b,base+off*es,by rintro B ⟨⟩;exact⟨rfl,rfl⟩,?_⟩;have:=bG.of_flat g0 g5 (g8 rfl);exact(this.drop off).take len
theorem PureL.rel {S:Sto}{μ:Mu}{H H0:cE}{w:World}:∀{ids:List Nat}{rs:List R}{cs:List C}{vs:List Value},PureL H0 ids rs cs→(∀i∈ids,H i=H0 i)→(∀id o,H id=some o→kL S μ H w id o)→aR S μ H rs vs→c0 S cs vs:=by
 intro ids rs cs vs hp
 induction hp generalizing vs with
 | nil=>intro _ _ h;simp only[aR] at h;subst h;simp[c0]
 | c hc _ q=>
  intro hi hO h;simp only[aR] at h;obtain⟨v,vs',rfl,h1,h2⟩:=h;simp only[aZ] at h1;simp only[c0];exact⟨v,vs',rfl,hc.rep h1,q hi hO h2⟩
 | @ras ids ids' ids0 rs cs n es l fl rows r _ u y hn _ B q=>
  subst r;intro hi hO h;simp only[aR] at h;obtain⟨v,vs',rfl,h1,h2⟩:=h;simp only[aZ] at h1;simp only[c0];refine⟨v,vs',rfl,?_,q (fun i hh=>hi i (by simp[hh])) hO h2⟩;obtain⟨a,cap,g1,g2,g3,g4,g5,g6,b,o,g7,us,g8,g9⟩:=h1;have g10:=B (fun i hh=>hi i (by simp[hh])) hO g8;subst u;simp only[Rep];exact⟨a,n,cap,g1,hn.symm,g3,g4,g5,fun I e _=>g6 I e,b,o,g7,bG.of_flat y g10 g9⟩
 | any _ q=>
  intro hi hO h;simp only[aR] at h;obtain⟨v,vs',rfl,h1,h2⟩:=h;simp only[c0];exact⟨v,vs',rfl,by simp only[Rep];exact h1.one,q hi hO h2⟩
 | fn _ q=>
  intro hi hO h;simp only[aR] at h;obtain⟨v,vs',rfl,h1,h2⟩:=h;simp only[aZ,aR] at h1;obtain⟨us,rfl,rfl⟩:=h1;simp only[c0];exact⟨_,vs',rfl,by simp only[Rep],q hi hO h2⟩
 | @hs ids rs cs id off len sz te es elems e he hsz E _ q=>
  intro hi hO h;simp only[aR] at h;obtain⟨v,vs',rfl,h1,h2⟩:=h;simp only[c0];have hh:H id=some (.arr te es elems 2):=by rw[hi id (by simp),he]
  exact⟨v,vs',rfl,by rw[E];exact aVz (hO id _ hh) hh hsz h1,q (fun i h=>hi i (by simp[h])) hO h2⟩
inductive RowsV (st:St) (es:Nat):Nat→List Nat→List (Nat×Operand)→List (List C)→Prop
 | nil {k}:RowsV st es k [] [] []
 | cons {k ids ids' x ps v rs cs rows}:opv st x=some v→gK v=some rs→PureL st.h ids rs cs→Nat.beq rs.length es=true→RowsV st es (k+1) ids' ps rows→RowsV st es k (ids++ids') ((k,x)::ps) (cs::rows)
section
variable {P:Program}{n:Nat}{o:Oper}{st:St}{d:Nat}{T:TT}
theorem aD5 {G:Ctx}{S:Sto}{μ:Mu}{st':St}{a:Act}{w:World}(hs:Sim G n S μ st' a w) {es:Nat}:∀{k:Nat}{ids:List Nat}{ps:List (Nat×Operand)}{rows:List (List C)},RowsV st es k ids ps rows→(∀t∈fF ps,st'.e t=st.e t)→(∀i∈ids,st'.h i=st.h i)→
  ∀(cells:Array Value),cells.size=(k+ps.length)*es→∃out:Array Value,Instr.fill (fun i=>some (i*es,es)) cells (ps.map fun(i,x)=>(i,a.eval x))=some out∧out.size=cells.size∧
   ∃us,c0 S rows.flatten us∧out.toList=cells.toList.take (k*es)++us∧(∀r∈rows,r.length=es):=by
 intro k ids ps rows h
 induction h with
 | nil=>
  intro _ _ cells hc;refine⟨cells,rfl,rfl,[],by simp[c0],?_,by simp⟩;rw[A3,Az];simp at hc;simp[hc]
 | @cons k ids ids' x ps v rs cs rows hv hc hp hl _ M=>
  intro ha hi cells hsz;have aa:=Aa hl;have hrel:=dM (aM hs hv fun t ht=>ha t (by simp[fF,ht])) hc;have q:=hp.rel (fun i h=>hi i (by simp[h])) hs.inv.obj hrel;have I:=hrel.length;simp only[A4] at I;simp only[χ] at hsz;have ab:(k+(ps.length+1))*es=k*es+es+ps.length*es:=by
   rw[Be,Be];omega
  have B:=nU (k*es) (a.eval x).cells.toList 0 cells (by simp only[A4];omega);have y:(bV cells.toList (k*es) (a.eval x).cells.toList).length=cells.size:=by
   unfold bV;simp;omega
  obtain⟨out,h1,h2,us,O,U,Y⟩:=M (fun t ht=>ha t (by simp[fF,ht])) (fun i h=>hi i (by simp[h])) ⟨bV cells.toList (k*es) (a.eval x).cells.toList⟩ (by
   simp only[size_toArray,y,hsz];congr 1
   omega)
  refine⟨out,?_,by rw[h2];simpa using y,(a.eval x).cells.toList++us,?_,?_,?_⟩
  ·simp only[Ar,Instr.fill];have u:((a.eval x).cells.size≠es || decide (k*es+(a.eval x).cells.size>cells.size))=false:=by
    simp only[Cb,C3];exact⟨by simp;omega,by omega⟩
   simp only[u,As,Bq];have J:((a.eval x).cells.zipIdx.foldl (fun cs (x:Value×Nat)=>cs.setIfInBounds (k*es+x.2) x.1) cells)=⟨bV cells.toList (k*es) (a.eval x).cells.toList⟩:=by
    rw[←Array.foldl_toList,Array.toList_zipIdx];simpa using B
   rw[←h1];congr 1
  ·rw[Bh];exact q.append O
  ·rw[U];have:(bV cells.toList (k*es) (a.eval x).cells.toList).take ((k+1)*es)=cells.toList.take (k*es)++(a.eval x).cells.toList:=by
    unfold bV;apply take_left';simp;rw[Be];omega
   show(bV cells.toList (k*es) (a.eval x).cells.toList).take ((k+1)*es)++us=_;rw[this,Ae]
  ·intro r E;rcases Au.1 E with rfl | E
   ·have:=q.length;simp only[A4] at this;omega
   ·exact Y r E
theorem RowsV.lengths {es k:Nat}{ids:List Nat}{ps:List (Nat×Operand)}{rows:List (List C)}(h:RowsV st es k ids ps rows):rows.length=ps.length:=by
 induction h with
 | nil=>rfl
 | cons _ _ _ _ _ q=>simp[q]
theorem aGy {t e:TypeId}{i q:TI}{len:Nat}{parts:Array (Nat×Operand)}{ids:List Nat}{rows:List (List C)}(id:Nat) (I:Tok P T) (ho:o.op=.buildSlice t len parts) (hd:o.dst=some d) (ac:d<n) (hi:T[t]?=some (some i)) (hk:i.k=.sl e) (B:T[e]?=some (some q))
  (E:RowsV st q.size 0 ids parts.toList rows) (hlen:Nat.beq len parts.size=true) (J:Nat.ble (len*q.size) 16777216=true) (aa:Nat.ble len 16777216=true) (hid:st.h id=none):
  Step P n o st ⟨fF parts.toList,id::ids⟩ ⟨some (d,some (.one (.hs id 0 len len))),[(id,some (.arr e q.size rows 0))]⟩:=by
 refine Step.new hd ac hid (by simp) fun st' ha hid' G S μ a w hs=>?_
 have U:=Aa hlen;have hsm:=Aq J;obtain⟨z,hz,hzr,_⟩:=(I.get B).zero_run;have Y:=(hzr S).length;rw[(I.get B).len] at Y;simp only[A4] at Y;have hrl:=E.lengths;simp only[A4] at hrl;have key:∀(cells:Array Value),cells.size=len*q.size→∃out:Array Value,Instr.fill (fun i=>some (i*q.size,q.size)) cells (parts.map fun(i,x)=>(i,a.eval x)).toList=some out∧out.size=len*q.size∧c0 S rows.flatten out.toList∧(∀r∈rows,r.length=q.size):=by
  intro cells hc;obtain⟨out,h1,h2,us,y,u,h5⟩:=aD5 hs E ha.1 (fun i h=>ha.2 i (by simp[h])) cells (by rw[hc,U];simp);refine⟨out,by rw[←h1];simp,by rw[h2,hc],?_,h5⟩;simp at u;rw[u];exact y
 have ab:∃out:Array Value,(Instr.buildSlice t len (parts.map fun(i,x)=>(i,a.eval x))).run P w=.ok (.slice (some ⟨w.heap.size,0,none⟩) len len) (w.alloc (.cells out e))∧out.size=len*q.size∧c0 S rows.flatten out.toList∧(∀r∈rows,r.length=q.size):=by
  by_cases h0:len*q.size=0
  ·obtain⟨out,h1,h2,y,u⟩:=key ((Array.range (len*q.size)).map ((#[]:Array Value)[· %(#[]:Array Value).size]!)) (by simp);refine⟨out,?_,h2,y,u⟩;have M:¬len*q.size>2^24:=by omega
   simp only[Instr.buildSlice,Ab,Am ((I.get hi).slice hk) w,δ,(I.get B).size_run w];rw[ξ M,ζ h0];simp only[Ab,δ,Ac,h1,gZ]
  ·obtain⟨out,h1,h2,y,u⟩:=key ((Array.range (len*q.size)).map (z.cells[· %z.cells.size]!)) (by simp);refine⟨out,?_,h2,y,u⟩;have M:¬len*q.size>2^24:=by omega
   simp only[Instr.buildSlice,Ab,Am ((I.get hi).slice hk) w,δ,(I.get B).size_run w];rw[ξ M,ξ h0];simp only[Ab,hz w,δ,Ac,h1,gZ]
 obtain⟨out,h1,h2,y,u⟩:=ab;have hlm:len≤maxLen:=by
  have:=Aq aa;unfold maxLen;omega
 refine⟨_,_,.slice (some ⟨w.heap.size,0,none⟩) len len,(0,len),?_,WChg.alloc w (.cells out e),?_,?_⟩
 ·simp only[execOp,ho,Ab,h1,δ,Ac]
 ·have O:rows.length=len:=by omega
  refine⟨u,.inr ⟨w.heap.size,0,len,out.toList,aJ _ _ _,Bx w _,by simp[h2],by omega,⟨?_,pI hs.inv⟩,?_,fun _ o _=>fA hs.inv o,fun o _=>fA hs.inv o,fun e=>by cases e⟩⟩
  ·exact hlm
  ·simp only[B5];rw[Az (by simp[h2,O])];exact y
 ·simp only[aO,aZ];have O:rows.length=len:=by omega
  exact⟨⟨_,_,_,rfl⟩,.inr ⟨e,q.size,rows,0,aJ _ _ _,by omega,fun _=>⟨by omega,.inr ⟨w.heap.size,0,len,aJ _ _ _,by simp⟩⟩⟩⟩
end
inductive Src (st:St) (es:Nat):List Nat→V→List (List C)→Prop
 | hs {id off len sz te elems fz rows}:st.h id=some (.arr te es elems fz)→sz=elems.length→rows=(elems.drop off).take len→Src st es [id] (.one (.hs id off len sz)) rows
 | all {id sz te elems fz}:st.h id=some (.arr te es elems fz)→sz=elems.length→Src st es [id] (.one (.hs id 0 sz sz)) elems
 | sl {l}:Src st es [] (.one (.c (.sl es l))) l
 | nl:Src st es [] (.one (.c .nl)) []
 | sn {l}:Src st es [] (.one (.c (.sn es l))) l
theorem xG {α:Type}{es:Nat}:∀{l:List (List α)},(∀r∈l,r.length=es)→∀k:Nat,(l.take k).flatten=l.flatten.take (k*es)
 | [],_,k=>by simp
 | x::xs,hl,0=>by simp
 | x::xs,hl,k+1=>by
  have hx:=hl x (by simp);have q:=xG (l:=xs) (fun r u=>hl r (by simp[u])) k;rw[A5,Bh,Bh,q,List.take_append,Az (l:=x) (by rw[hx,Be];omega)];rw[show(k+1)*es-x.length=k*es by rw[hx,Be];omega]
theorem xI {α:Type}{es:Nat}:∀{l:List (List α)},(∀r∈l,r.length=es)→∀k:Nat,(l.drop k).flatten=l.flatten.drop (k*es)
 | [],_,k=>by simp
 | x::xs,hl,0=>by simp
 | x::xs,hl,k+1=>by
  have hx:=hl x (by simp);have q:=xI (l:=xs) (fun r u=>hl r (by simp[u])) k;rw[C0,Bh,q,drop_append,drop_of_length_le (l:=x) (by rw[hx,Be];omega),Ak];rw[show(k+1)*es-x.length=k*es by rw[hx,Be];omega]
theorem bG.flat {S:Sto}{es b:Nat}:∀{l:List (List C)}{o:Nat},bG S es b l o→∃vs,c0 S l.flatten vs∧eL S b o vs∧∀r∈l,r.length=es
 | [],_,_=>⟨[],by simp[c0],fun i v h=>by simp at h,by simp⟩
 | r::rs,o,h=>by
  simp only[bG] at h;obtain⟨h1,⟨vs,h2,u⟩,y⟩:=h;obtain⟨us,B,E,I⟩:=bG.flat y;have hl:=h2.length;refine⟨vs++us,by rw[Bh];exact h2.append B,fun i v hi=>?_,?_⟩
  ·rw[Ca] at hi;split at hi
   ·exact u i v hi
   ·have:=E _ v hi;rwa [show o+es+(i-vs.length)=o+i by omega] at this
  ·intro q hq;rcases Au.1 hq with rfl | hq
   ·exact h1
   ·exact I q hq
theorem Src.rel {G:Ctx}{n:Nat}{S:Sto}{μ:Mu}{st st':St}{a:Act}{w:World}{es:Nat}{ids:List Nat}{y:V}{rows:List (List C)}{v:Value}(hs:Sim G n S μ st' a w) (h:Src st es ids y rows) (hi:∀i∈ids,st'.h i=st.h i) (hv:aO S μ st'.h y v):
  ∃q c news,v=.slice q rows.length c∧c0 S rows.flatten news∧(∀r∈rows,r.length=es)∧(q=none→rows=[])∧∀x,q=some x→∀j u,news[j]?=some u→w.cell? (x.add j)=some u:=by
 have I:∀{id off len sz te elems fz rows},st.h id=some (.arr te es elems fz)→sz=elems.length→rows=(elems.drop off).take len→(∀i∈[id],st'.h i=st.h i)→aO S μ st'.h (.one (.hs id off len sz)) v→
   ∃q c news,v=.slice q rows.length c∧c0 S rows.flatten news∧(∀r∈rows,r.length=es)∧(q=none→rows=[])∧∀x,q=some x→∀j u,news[j]?=some u→w.cell? (x.add j)=some u:=by
  intro id off len sz te elems fz rows he hsz B hi hv;have hh:st'.h id=some (.arr te es elems fz):=by rw[hi id (by simp),he]
  simp only[aO,aZ] at hv;obtain⟨_,hv | ⟨te',es',elems',fz',h1,h2,J⟩⟩:=hv
  ·rw[hh] at hv;cases hv
  rw[hh] at h1;cases h1;obtain⟨h4,⟨U,M,h7⟩ | ⟨b,base,cap,U,M⟩⟩:=J hsz
  ·subst M;simp at B;subst B;exact⟨none,0,[],h7,by simp[c0],by simp,fun _=>rfl,by simp⟩
  ·obtain⟨g0,vs,g1,g2,g3,g4,g5,g6,g7,g8⟩:=(hs.inv.obj id _ hh).arr U;have hrl:rows.length=len:=by rw[B];simp;omega
   have hfl:rows.flatten=(elems.flatten.drop (off*es)).take (len*es):=by
    rw[B,xG (fun r B=>g0 r (List.mem_of_mem_drop B)),xI g0]
   refine⟨_,cap-off,_,by rw[hrl];exact M,by rw[hfl];exact(g5.drop (off*es)).take (len*es),fun r hr'=>g0 r (List.mem_of_mem_drop (Cf (B▸hr'))),by simp,?_⟩;rintro x ⟨⟩ j u hj;rw[Addr.add_mid,cell_of_row w b _ ⟨vs⟩ te (0,0) g1];rw[Ao] at hj;split at hj
   ·rw[Ap,Ao] at hj;split at hj
    ·rw[Ap] at hj;simpa [add_assoc] using hj
    ·cases hj
   ·cases hj
 cases h with
 | hs he hsz B=>exact I he hsz B hi hv
 | all he hsz=>
  subst hsz;exact I he rfl (by simp) hi hv
 | sl=>
  simp only[aO,aZ,Rep] at hv;obtain⟨q,len,cap,h1,h2,J,h4,U,M,b,off,h7,h8⟩:=hv;obtain⟨vs,E,q2,q3⟩:=bG.flat h8;refine⟨q,cap,vs,by rw[h1,h2],E,q3,fun e=>Aw (by rw[←h2];exact(U e).1),?_⟩;rintro x rfl j u hj;obtain⟨h9,h10⟩:=h7 x rfl
  have Y:=M x rfl (by
   rintro rfl;have O:=Aw (show _=0 from Nat.le_zero.1 (h2▸J));rw[O] at E;simp[c0] at E;subst E
   simp at hj)
  have hx:x=⟨b,off,none⟩:=by cases x;simp_all
  subst hx;rw[Addr.add_mid];exact hs.inv.holds.cell (q2 j u hj)
 | nl=>
  simp only[aO,aZ,Rep] at hv;exact⟨none,0,[],hv,by simp[c0],by simp,fun _=>rfl,by simp⟩
 | sn=>
  simp only[aO,aZ,Rep] at hv;obtain⟨b,off,sp,len,cap,h1,h2,J,h4,hsp,h8⟩:=hv;obtain⟨vs,E,q2,q3⟩:=bG.flat h8;refine⟨some ⟨b,off,sp⟩,cap,vs,by rw[h1,h2],E,q3,by simp,?_⟩;rintro x ⟨⟩ j u hj
  have Y:=hsp (by
   rintro rfl;have O:=Aw (show _=0 from Nat.le_zero.1 (h2▸J));rw[O] at E;simp[c0] at E;subst E
   simp at hj)
  subst Y;rw[Addr.add_mid];exact hs.inv.holds.cell (q2 j u hj)
section
variable {P:Program}{n:Nat}{o:Oper}{st:St}{d:Nat}{T:TT}
theorem kG (w:World) (t ty e:TypeId) (i:TypeInfo) (ht:P.underlying t=some (.slice e)) (hi:P.info? e=some i)
  (g base q r:Nat) (cur:Array Value) (J:w.heap[g]?=some (.cells cur e (0,0)))
  (a:Addr) (m c:Nat) (news:List Value) (hl:news.length=m*i.size) (y:∀j u,news[j]?=some u→w.cell? (a.add j)=some u) (h1:∀u∈news,u.oneCell'=true)
  (B:q+m≤r) (I:base+q*i.size+news.length≤cur.size):
  (Builtin.append_ #[t,t] ty #[.slice (some ⟨g,base,none⟩) q r,.slice (some a) m c]).run P w=
   .ok (.slice (some ⟨g,base,none⟩) (q+m) r) (w.setRow g (cur.toList.take (base+q*i.size)++news++cur.toList.drop (base+q*i.size+news.length)).toArray):=by
 have M:=run_firstCells_some (P:=P) w i.size m a m c news hl y;have E:=run_storeCells_at P g (base+q*i.size) e news 0 cur w J (by simpa using I) h1;simp only[Cu] at E;simp[Builtin.append_,Am ht,sizeOf,typeInfo,hi,Builtin.lenOf,B,M,Addr.add_mid,E]
theorem kZ (w:World) (t ty e:TypeId) (i:TypeInfo) (ht:P.underlying t=some (.slice e)) (hi:P.info? e=some i) (s:Option Addr) (y:Option Addr) (q r c:Nat) (u:q≤r):
  (Builtin.append_ #[t,t] ty #[.slice s q r,.slice y 0 c]).run P w=.ok (.slice s q r) w:=by
 cases s<;>cases y<;>simp[Builtin.append_,Am ht,sizeOf,typeInfo,hi,Builtin.lenOf,u,Builtin.firstCells,loadCells,loadCellsFrom,storeCells]
theorem eO {x y:Operand}{t:TypeId}{a:Act}{w w':World}{u v r:Value}(ho:o.op=.call { callee:=.builtin .append,args:= #[x,y],argTypes:= #[t,t] }) (hx:a.eval x=u) (hy:a.eval y=v) (q:(Builtin.append_ #[t,t] o.type #[u,v]).run P w=.ok r w'):
  (execOp a.eval o).run P w=.ok (.value r) w':=by
 simp only[execOp,ho,resolve,map_toArray,Ar,Ch,hx,hy,Ab,Ac,δ,invoke,builtin,q]
theorem aIn {y:V}{id te es fz:Nat}{elems elems':List (List C)}(hd:o.dst=some d) (J:d<n) (hlen:elems.length≤elems'.length) (r:Nat) {st':St}{G:Ctx}{S:Sto}{μ:Mu}{a:Act}{w:World}{K:Act→World→Prop}{Q:Exit→Act→World→Prop}
    (u:st'.h id=some (.arr te es elems fz)) (hs:Sim G n S μ st' a w) (U:∀S' μ' Y w',Sim G n S' μ' (Eff.apply ⟨some (d,some y),[(id,some (.arr te es elems' r))]⟩ st') Y w'→K Y w')
    (h:∃w' v,(execOp a.eval o).run P w=.ok (.value v) w'∧
      ((w'=w∧elems'=elems∧(r=fz∨r=1)∧aO S μ st'.h y v)∨
       (elems.length<elems'.length∧∃b M c,(w.heap.size≤b∨∃c',μ id=some (b,c'))∧WChg w w' b M∧kL S (upd μ id (some (b,c))) (upd st'.h id (some (.arr te es elems' r))) w' id (.arr te es elems' r)∧
         (∀o v,S.cell b o=some v→∃vs t fr,M=.cells vs t fr∧vs[o]?=some v)∧(∀m,S.mapo b=some m→w.heap.size≤b)∧aO S (upd μ id (some (b,c))) (upd st'.h id (some (.arr te es elems' r))) y v))):
    ∀ro,o.wpIn (Wd ro) 0 P a w K Q:=by
  obtain⟨w',v,hr,I⟩:=h;refine fun ro=>eY hr ?_
  rw[hd];rcases I with⟨rfl,rfl,hfz,hv⟩ | ⟨hlt,b,M,c,hb,hw,hO,hS,aa,hv⟩
  · have B:Evolve S μ st'.h S μ (upd st'.h id (some (.arr te es elems' r))):=⟨S.le_refl,fun j x hj=>by
      by_cases q:j=id
      · subst q
        rw[u] at hj;cases hj;exact⟨_,aJ _ _ _,by simp[AObj.succ]⟩
      · exact⟨x,by rw[bH _ _ _ q];exact hj,x.succ_refl rfl⟩⟩
    have hi:Inv G S μ (upd st'.h id (some (.arr te es elems' r))) w':=by
      obtain⟨h1,h2,h3,h4,h5,h6,h7,h8,h9⟩:=hs.inv;have hold:∀j x,upd st'.h id (some (.arr te es elems' r)) j=some x→∃x',st'.h j=some x':=fun j x hj=>by
        by_cases q:j=id
        · subst q;exact⟨_,u⟩
        · rw[bH _ _ _ q] at hj;exact⟨_,hj⟩
      refine⟨h1,fun j x hj=>?_,fun i j x x' b c c' hi hj hm hm'=>?_,fun i x b c hi hm=>?_,h5,h6,h7,h8.trans B,h9⟩
      · by_cases q:j=id
        · subst q
          rw[aJ] at hj;cases hj;have hO:=(h2 j _ u).evolve B rfl fun _ _ _=>⟨rfl,fun _=>rfl,rfl⟩
          rcases hfz with rfl | rfl
          · exact hO
          · obtain⟨g0,g1 | ⟨b,base,cap,vs,g1,g2,g3,g4,g5,g6,g7,g8,g9⟩⟩:=hO
            · exact⟨g0,.inl g1⟩
            · exact⟨g0,.inr ⟨b,base,cap,vs,g1,g2,g3,g4,g5,g6,(fun e=>by cases e),g8,(fun e=>by cases e)⟩⟩
        · rw[bH _ _ _ q] at hj
          exact(h2 j x hj).evolve B rfl fun _ _ _=>⟨rfl,fun _=>rfl,rfl⟩
      · obtain⟨_,E⟩:=hold _ _ hi
        obtain⟨_,hj'⟩:=hold _ _ hj;exact h3 i j _ _ b c c' E hj' hm hm'
      · obtain⟨_,E⟩:=hold _ _ hi
        exact h4 i _ b c E hm
    have:=hs.put hi B J (x:=some y) (v:=v) (fun z O=>by cases O;exact aO.evolve B _ _ hv);refine U S μ _ _ ?_;unfold Eff.apply;rw[cD];exact this
  · have B:Evolve S μ st'.h S (upd μ id (some (b,c))) (upd st'.h id (some (.arr te es elems' r))):=⟨S.le_refl,fun j x hj=>by
      by_cases q:j=id
      · subst q
        rw[u] at hj;cases hj;exact⟨_,aJ _ _ _,by simp only[AObj.succ,true_and];exact⟨hlen,fun e=>by omega⟩⟩
      · exact⟨x,by rw[bH _ _ _ q];exact hj,x.succ_refl (bH _ _ _ q)⟩⟩
    have hi:=hs.inv.chg (id:=id) (cap:=c) (ao:=.arr te es elems' r) hw (hb.imp (fun h=>h) fun⟨c',h⟩=>⟨_,c',u,h⟩) B hO hS aa;have:=hs.put hi B J (x:=some y) (v:=v) (fun z O=>by cases O;exact hv);refine U S (upd μ id (some (b,c))) _ _ ?_;unfold Eff.apply;rw[cD];exact this
theorem Step.grow {rd:Rd}{y:V}{id te es fz:Nat}{elems elems':List (List C)}(hd:o.dst=some d) (u:d<n) (hid:st.h id=some (.arr te es elems fz)) (B:id∈rd.h) (hlen:elems.length≤elems'.length) (q:Nat)
    (h:∀st',fR rd st st'→st'.h id=some (.arr te es elems fz)→∀G S μ a w,Sim G n S μ st' a w→∃w' v,(execOp a.eval o).run P w=.ok (.value v) w'∧
      ((w'=w∧elems'=elems∧(q=fz∨q=1)∧aO S μ st'.h y v)∨
       (elems.length<elems'.length∧∃b E c,(w.heap.size≤b∨∃c',μ id=some (b,c'))∧WChg w w' b E∧kL S (upd μ id (some (b,c))) (upd st'.h id (some (.arr te es elems' q))) w' id (.arr te es elems' q)∧
         (∀o v,S.cell b o=some v→∃vs t I,E=.cells vs t I∧vs[o]?=some v)∧(∀m,S.mapo b=some m→w.heap.size≤b)∧aO S (upd μ id (some (b,c))) (upd st'.h id (some (.arr te es elems' q))) y v))):
    Step P n o st rd ⟨some (d,some y),[(id,some (.arr te es elems' q))]⟩:=by
  intro st' ha G S μ a w K Q hs J;have r:st'.h id=some (.arr te es elems fz):=by rw[ha.2 id B,hid]
  exact aIn hd u hlen q r hs J (h st' ha r G S μ a w hs)
theorem yN {t e:TypeId}{i q:TI}{x y:Operand}{id sz fz:Nat}{elems rows:List (List C)}{vy:V}{ids:List Nat}{st':St}{G:Ctx}{S:Sto}{μ:Mu}{a:Act}{w:World}(hT:Tok P T) (ho:o.op=.call { callee:=.builtin .append,args:= #[x,y],argTypes:= #[t,t] })
    (hi:T[t]?=some (some i)) (hk:i.k=.sl e) (hei:T[e]?=some (some q)) (hes:Nat.ble 1 q.size=true) (heb:Nat.ble 1 q.bytes=true)
    (hsz:sz=elems.length) (hroom:(elems.length+rows.length)*q.bytes≤140737488355328) (O:st'.h id=some (.arr e q.size elems fz)) (hs:Sim G n S μ st' a w)
    (hvx:aO S μ st'.h (.one (.hs id 0 sz sz)) (a.eval x)) (hvy:aO S μ st'.h vy (a.eval y)) (hsrc:Src st q.size ids vy rows) (hsi:∀i∈ids,st'.h i=st.h i):
    ∃w' v,(execOp a.eval o).run P w=.ok (.value v) w'∧
      ((w'=w∧elems++rows=elems∧((if fz=0 then 0 else 1)=fz∨(if fz=0 then 0 else 1)=1)∧aO S μ st'.h (.one (.hs id 0 (elems.length+rows.length) (elems.length+rows.length))) v)∨
       (elems.length<(elems++rows).length∧∃b bo c,(w.heap.size≤b∨∃c',μ id=some (b,c'))∧WChg w w' b bo∧kL S (upd μ id (some (b,c))) (upd st'.h id (some (.arr e q.size (elems++rows) (if fz=0 then 0 else 1)))) w' id (.arr e q.size (elems++rows) (if fz=0 then 0 else 1))∧
         (∀o v,S.cell b o=some v→∃vs t fr,bo=.cells vs t fr∧vs[o]?=some v)∧(∀m,S.mapo b=some m→w.heap.size≤b)∧aO S (upd μ id (some (b,c))) (upd st'.h id (some (.arr e q.size (elems++rows) (if fz=0 then 0 else 1)))) (.one (.hs id 0 (elems.length+rows.length) (elems.length+rows.length))) v)):=by
  subst hsz;have hes':=Aq hes;have heb':=Aq heb;obtain⟨ad,c,news,I,E,hrl,hnone,hcell⟩:=hsrc.rel hs hsi hvy;have J:news.length=rows.length*q.size:=by rw[E.length,iG hrl]
  obtain⟨inf,dd,z,g1,g2,g3,g4,g5,g6,g7,g8⟩:=(hT.get hei).ex;have hu:=(hT.get hi).slice hk;have hzs:z.cells.size=q.size:=by
    have h1:=(hJ (S:=S) g7).length;rw[(hT.get hei).len] at h1;simpa using h1
  simp only[aO,aZ] at hvx;obtain⟨_,hv | ⟨te',es',elems',fz',h1,h2,h3⟩⟩:=hvx
  · rw[O] at hv;cases hv
  rw[O] at h1;cases h1;obtain⟨h4,hcase⟩:=h3 rfl;have hbig:elems.length+rows.length≤140737488355328:=by
    have:(elems.length+rows.length)*1≤(elems.length+rows.length)*q.bytes:=mul_le_mul_left _ heb';omega
  have hone:∀u∈news,u.oneCell'=true:=(E.toR (μ:=μ) (H:=st'.h)).one;have hcap:∀old,elems.length+rows.length≤grownCap w (elems.length+rows.length) old e∧grownCap w (elems.length+rows.length) old e≤maxLen:=fun old=>
    ⟨grownCap_ge _ _ _ _,grownCap_le_maxLen _ _ _ _ (by unfold maxLen;omega)⟩
  have M:∀(U:List Value) (old:Nat),c0 S elems.flatten U→0<rows.length→∀g0:(∀r∈elems,r.length=q.size),
      kL S (upd μ id (some (w.heap.size,0,grownCap w (elems.length+rows.length) old e))) (upd st'.h id (some (.arr e q.size (elems++rows) (if fz=0 then 0 else 1))))
        (w.drew.alloc (.cells (U.toArray++news.toArray++Builtin.zeroCells z.cells (grownCap w (elems.length+rows.length) old e-(elems.length+rows.length))) e)) id (.arr e q.size (elems++rows) (if fz=0 then 0 else 1)):=by
    intro U old hol hpos g0;obtain⟨hc1,hc2⟩:=hcap old;have Y:=hol.length;rw[iG g0] at Y;refine⟨?_,.inr ⟨w.heap.size,0,grownCap w (elems.length+rows.length) old e,(U.toArray++news.toArray++Builtin.zeroCells z.cells (grownCap w (elems.length+rows.length) old e-(elems.length+rows.length))).toList,aJ _ _ _,Bx w.drew _,?_,by simpa using hc1,⟨hc2,pI hs.inv⟩,?_,fun _ o _=>fA hs.inv o,fun o _=>fA hs.inv o,fun e=>by split at e<;>cases e⟩⟩
    · intro r B
      rcases Bk.1 B with B | B
      · exact g0 r B
      · exact hrl r B
    · simp only[Array.toList_append,θ,A4,size_zeroCells,hzs]
      simp only[Y,J,Bj,←Be];exact A0 _ (by omega)
    · simp only[Array.toList_append,B5,θ,C2]
      rw[B7 (by simp[Y,J,Be]),Az (by simp[Y,J,Be])];exact hol.append E
  have aa:(elems++rows).length=elems.length+rows.length:=by simp
  by_cases hm:rows.length=0
  · --nothing is appended
    have hr0:rows=[]:=Aw hm;have hfzz:(if fz=0 then 0 else 1)=fz∨(if fz=0 then 0 else 1)=1:=by
      by_cases h:fz=0
      · left;rw[ζ h,h]
      · right;rw[ξ h]
    rcases hcase with⟨h5,h6,h7⟩ | ⟨b,base,cap,h5,h6⟩
    · refine⟨w,.slice none 0 0,eO ho h7 I (by rw[hm];exact kZ w t o.type e inf hu g1 none ad 0 0 c (le_refl _)),.inl ⟨rfl,by rw[hr0,A3],hfzz,?_⟩⟩
      simp only[aO,aZ];exact⟨⟨_,_,_,rfl⟩,.inr ⟨e,q.size,elems,fz,O,by omega,fun _=>⟨by omega,.inl ⟨h5,h6,(by first | rfl | trivial)⟩⟩⟩⟩
    · obtain⟨q0,vs,q1,q2,q3,q4,q5,q6,q7,q8⟩:=(hs.inv.obj id _ O).arr h5
      refine⟨w,_,eO ho h6 I (by rw[hm];exact kZ w t o.type e inf hu g1 _ ad elems.length _ c (by omega)),.inl ⟨rfl,by rw[hr0,A3],hfzz,?_⟩⟩;simp only[aO,aZ];exact⟨⟨_,_,_,rfl⟩,.inr ⟨e,q.size,elems,fz,O,by omega,fun _=>⟨by omega,.inr ⟨b,base,cap,h5,by rw[hm,Cu]⟩⟩⟩⟩
  · cases ad with
    | none=>exact absurd (by rw[hnone rfl];rfl) hm
    | some ad=>
      have hc:=hcell ad rfl;rcases hcase with⟨h5,h6,h7⟩ | ⟨b,base,cap,h5,h6⟩
      · --the first elements
        subst h6;simp only[length_nil,Bj] at hroom hbig M hcap;have B:=run_append_nil (P:=P) w t o.type e inf z hu g1 g6 ad rows.length c news (by rw[J,g3]) hc (by omega) (by omega) (by rw[g4];omega);refine⟨_,_,eO ho h7 I B,.inr ⟨by simp;omega,w.heap.size,_,(0,grownCap w rows.length 0 e),.inl (le_refl _),WChg.alloc_drew w _,?_,(fun o v e=>by rw[fA hs.inv] at e;cases e),fun m e=>le_refl _,?_⟩⟩
        · have:=M [] 0 (by simp[c0]) (by omega) (by simp)
          simpa using this
        · simp only[aO,aZ]
          exact⟨⟨_,_,_,rfl⟩,.inr ⟨e,q.size,_,_,aJ _ _ _,by simp,fun _=>⟨by simp,.inr ⟨w.heap.size,0,_,aJ _ _ _,by simp⟩⟩⟩⟩
      · obtain⟨q0,vs,q1,q2,q3,q4,q5,q6,q7,q8⟩:=(hs.inv.obj id _ O).arr h5
        have hce:elems.length*q.size≤cap*q.size:=A0 _ q3;simp only[sub_zero,zero_mul,Cu] at h6;by_cases hroom':elems.length+rows.length≤cap
        · --there is room
          have hce2:(elems.length+rows.length)*q.size≤cap*q.size:=A0 _ hroom';rw[Be] at hce2;have B:=kG (P:=P) w t o.type e inf hu g1 b base elems.length cap ⟨vs⟩ q1 ad rows.length c news (by rw[J,g3]) hc hone hroom' (by rw[g3,J];simp only[size_toArray];omega);rw[g3] at B;have hW:=WChg.setRow w b ⟨vs⟩ ⟨vs.take (base+elems.length*q.size)++news++vs.drop (base+elems.length*q.size+news.length)⟩ e (0,0) q1;refine⟨_,_,eO ho h6 I B,.inr ⟨by simp;omega,b,_,(base,cap),.inr ⟨_,h5⟩,hW,⟨?_,.inr ⟨b,base,cap,_,aJ _ _ _,hW.new,?_,by rw[aa];omega,q4,?_,?_,?_,fun e=>by split at e<;>cases e⟩⟩,?_,fun m e=>fL q4.2 m e,?_⟩⟩
          · intro r B
            rcases Bk.1 B with B | B
            · exact q0 r B
            · exact hrl r B
          · simp only[θ,An,Bg]
            omega
          · rw[aa,C2]
            have e1:((vs.take (base+elems.length*q.size)++news++vs.drop (base+elems.length*q.size+news.length)).drop base).take ((elems.length+rows.length)*q.size)=(vs.drop base).take (elems.length*q.size)++news:=by
              rw[Ae,Bo (by simp;omega),←Ae,B7 (by simp[Be];omega)];rw[Az (by simp[Be];omega),drop_take];rw[show base+elems.length*q.size-base=elems.length*q.size by omega]
            rw[e1];exact q5.append E
          · intro e o ho
            exact q6 (Classical.byContradiction fun hne=>by rw[ξ hne] at e;cases e) o ho
          · intro o ho
            rw[aa,Be] at ho;exact q7 o (by omega)
          · intro o v e
            by_cases hlt:o<base+elems.length*q.size
            · obtain⟨vs0,t0,fr0,p1,p2⟩:=hs.inv.holds.1 b o v e
              rw[q1] at p1;cases p1;refine⟨_,_,_,rfl,?_⟩;simp only[Cq] at p2 ⊢;rw[Ae,Bc (by simp;omega),Ao,ζ (by omega)];exact p2
            · rw[q7 o (by omega)] at e;cases e
          · simp only[aO,aZ]
            exact⟨⟨_,_,_,rfl⟩,.inr ⟨e,q.size,_,_,aJ _ _ _,by simp,fun _=>⟨by simp,.inr ⟨b,base,cap,aJ _ _ _,by simp⟩⟩⟩⟩
        · --into a new block
          have B:=run_append_grow (P:=P) w t o.type e inf z hu g1 g6 ⟨b,base,none⟩ elems.length cap ((vs.drop base).take (elems.length*q.size)) (by rw[g3];simp;omega) (by
              intro j v hj;rw[Addr.add_mid,cell_of_row w b _ ⟨vs⟩ e (0,0) q1];rw[Ao] at hj;split at hj
              · rw[Ap] at hj
                simpa using hj
              · cases hj) ad rows.length c news (by rw[J,g3]) hc (by omega) (by omega) (by rw[g4];exact growslice_fits (by omega) hroom)
          have hq5:c0 S elems.flatten ((vs.drop base).take (elems.length*q.size)):=q5;refine⟨_,_,eO ho h6 I B,.inr ⟨by simp;omega,w.heap.size,_,(0,grownCap w (elems.length+rows.length) cap e),.inl (le_refl _),WChg.alloc_drew w _,?_,(fun o v e=>by rw[fA hs.inv] at e;cases e),fun m e=>le_refl _,?_⟩⟩
          · have:=M _ cap hq5 (by omega) q0
            simpa using this
          · simp only[aO,aZ]
            exact⟨⟨_,_,_,rfl⟩,.inr ⟨e,q.size,_,_,aJ _ _ _,by simp,fun _=>⟨by simp,.inr ⟨w.heap.size,0,_,aJ _ _ _,by simp⟩⟩⟩⟩
theorem aBr {t e:TypeId}{i q:TI}{x y:Operand}{id sz fz:Nat}{elems rows:List (List C)}{B:V}{ids:List Nat}(hT:Tok P T) (ho:o.op=.call { callee:=.builtin .append,args:= #[x,y],argTypes:= #[t,t] }) (hd:o.dst=some d) (E:d<n)
  (hi:T[t]?=some (some i)) (hk:i.k=.sl e) (I:T[e]?=some (some q)) (J:Nat.ble 1 q.size=true) (M:Nat.ble 1 q.bytes=true)
  (hx:opv st x=some (.one (.hs id 0 sz sz))) (hh:st.h id=some (.arr e q.size elems fz)) (hsz:sz=elems.length) (hy:opv st y=some B) (u:Src st q.size ids B rows)
  (r:(elems.length+rows.length)*q.bytes≤140737488355328):
  Step P n o st ⟨opr x++opr y,id::ids⟩ ⟨some (d,some (.one (.hs id 0 (elems.length+rows.length) (elems.length+rows.length)))),[(id,some (.arr e q.size (elems++rows) (if fz=0 then 0 else 1)))]⟩:=by
 refine Step.grow hd E hh (by simp) (by simp) _ fun st' ha O G S μ a w hs=>?_
 have U:=aM hs hx fun t ht=>ha.1 t (by simp[ht])
 have Y:=aM hs hy fun t ht=>ha.1 t (by simp[ht])
 exact yN hT ho hi hk I J M hsz r O hs U Y u fun i h=>ha.2 i (by simp[h])
end
mutual
def R.ren (σ:Nat→Nat):R→R
 | .c x=>.c x
 | .hs id off len sz=>.hs (σ id) off len sz
 | .tl id off len sz=>.tl (σ id) off len sz
 | .vp id off=>.vp (σ id) off
 | .ep id i fo sz=>.ep (σ id) i fo sz
 | .mr id=>.mr (σ id)
 | .clo f caps=>.clo f (R.renL σ caps)
 | .mth f x=>.mth f (x.ren σ)
 | .yl id=>.yl (σ id)
 | .ra id off len sz=>.ra (σ id) off len sz
 | .rp id i fo sz=>.rp (σ id) i fo sz
 | .ras n es l=>.ras n es (R.renL σ l)
 | .pas l=>.pas (R.renL σ l)
def R.renL (σ:Nat→Nat):List R→List R
 | []=>[]
 | r::rs=>r.ren σ::R.renL σ rs
end
mutual
def V.ren (σ:Nat→Nat):V→V
 | .one r=>.one (r.ren σ)
 | .pa l=>.pa l
 | .ma l=>.ma (R.renL σ l)
 | .tup l=>.tup (V.renL σ l)
def V.renL (σ:Nat→Nat):List V→List V
 | []=>[]
 | r::rs=>r.ren σ::V.renL σ rs
end
mutual
def R.refs:R→List Nat
 | .c _=>[]
 | .hs id _ _ _=>[id]
 | .tl id _ _ _=>[id]
 | .vp id _=>[id]
 | .ep id _ _ _=>[id]
 | .mr id=>[id]
 | .clo _ caps=>R.refsL caps
 | .mth _ x=>x.refs
 | .yl id=>[id]
 | .ra id _ _ _=>[id]
 | .rp id _ _ _=>[id]
 | .ras _ _ l=>R.refsL l
 | .pas l=>R.refsL l
def R.refsL:List R→List Nat
 | []=>[]
 | r::rs=>r.refs++R.refsL rs
end
mutual
def V.refs:V→List Nat
 | .one r=>r.refs
 | .pa _=>[]
 | .ma l=>R.refsL l
 | .tup l=>V.refsL l
def V.refsL:List V→List Nat
 | []=>[]
 | r::rs=>r.refs++V.refsL rs
end
def aGx:List (Nat×V)→List Nat
 | []=>[]
 | (_,v)::l=>v.refs++aGx l
def aLt:List (List R)→List Nat
 | []=>[]
 | r::l=>R.refsL r++aLt l
def aTo (σ:Nat→Nat):List (Nat×V)→List (Nat×V)
 | []=>[]
 | (t,v)::l=>(t,v.ren σ)::aTo σ l
def aGv (σ:Nat→Nat):List (List R)→List (List R)
 | []=>[]
 | r::l=>R.renL σ r::aGv σ l
theorem qZ:∀{l:List (Nat×V)}{t:Nat}{v:V},(t,v)∈l→∀i∈v.refs,i∈aGx l
 | (k,u)::l,t,v,h,i,hi=>by
  simp only[aGx,Bk];rcases Au.1 h with h | h
  ·cases h;exact .inl hi
  ·exact .inr (qZ h i hi)
theorem aBq {σ:Nat→Nat}:∀{l:List (Nat×V)}{t:Nat}{v:V},(t,v)∈l→(t,v.ren σ)∈aTo σ l
 | (k,u)::l,t,v,h=>by
  simp only[aTo];rcases Au.1 h with h | h
  ·cases h;simp
  ·exact A1 _ (aBq h)
theorem R.renL_length {σ:Nat→Nat}:∀{l:List R},(R.renL σ l).length=l.length
 | []=>rfl
 | _::l=>by simp[R.renL,R.renL_length (l:=l)]
theorem eI {σ:Nat→Nat}:∀{l:List (List R)},(aGv σ l).length=l.length
 | []=>rfl
 | _::l=>by simp[aGv,eI (l:=l)]
theorem R.renL_append {σ:Nat→Nat}:∀{l m:List R},R.renL σ (l++m)=R.renL σ l++R.renL σ m
 | [],_=>rfl
 | _::l,m=>by simp[R.renL,R.renL_append (l:=l)]
theorem R.refsL_append:∀{l m:List R},R.refsL (l++m)=R.refsL l++R.refsL m
 | [],_=>rfl
 | _::l,m=>by simp[R.refsL,R.refsL_append (l:=l)]
theorem wD {σ:Nat→Nat}:∀{l:List (List R)},(aGv σ l).flatten=R.renL σ l.flatten
 | []=>rfl
 | _::l=>by simp[aGv,wD (l:=l),R.renL_append]
theorem sO:∀{l:List (List R)},R.refsL l.flatten=aLt l
 | []=>rfl
 | _::l=>by simp[aLt,sO (l:=l),R.refsL_append]
theorem lC {σ:Nat→Nat}{es:Nat}:∀{l:List (List R)},(∀r∈aGv σ l,r.length=es)→∀r∈l,r.length=es
 | [],_,r,h=>by simp at h
 | x::l,k,r,h=>by
  rcases Au.1 h with rfl | h
  ·rw[←R.renL_length (σ:=σ)];exact k _ (by simp[aGv])
  ·exact lC (σ:=σ) (l:=l) (fun r q=>k r (by simp[aGv,q])) r h
def AObj.refs:AObj→List Nat
 | .var _ cells=>R.refsL cells
 | .lp _ _ _ e=>aGx e
 | .rarr _ _ elems=>aLt elems
 | .tok r _=>r.refs
 | _=>[]
inductive Ole (σ:Nat→Nat):AObj→AObj→Prop
 | var {t cells cells'}:cells=R.renL σ cells'→Ole σ (.var t cells) (.var t cells')
 | arr {te es elems fz}:Ole σ (.arr te es elems fz) (.arr te es elems fz)
 | arr1 {te es elems fz}:Ole σ (.arr te es elems fz) (.arr te es elems 1)
 | map {agg ents}:Ole σ (.map agg ents) (.map agg ents)
 | dead:Ole σ .dead .dead
 | lp {st j i e e'}:e=aTo σ e'→Ole σ (.lp st j i e) (.lp st j i e')
 | dfr:Ole σ .dfr .dfr
 | rarr {te es elems elems'}:elems=aGv σ elems'→Ole σ (.rarr te es elems) (.rarr te es elems')
 | tok {r r' k}:r=r'.ren σ→Ole σ (.tok r k) (.tok r' k)
theorem Ole.succ {σ:Nat→Nat}{o o':AObj}(h:Ole σ o o'):o.succ True o':=by
 cases h
 case rarr e=>subst e;simp[AObj.succ,eI]
 all_goals simp[AObj.succ]
section
variable {S:Sto}{μ:Mu}{H H':cE}{σ:Nat→Nat}
def Good (H H':cE) (σ:Nat→Nat) (id:Nat):Prop:=∃o o',H (σ id)=some o∧H' id=some o'∧Ole σ o o'
mutual
theorem aZ.ren:∀(r:R) (v:Value),(∀id∈r.refs,Good H H' σ id)→aZ S μ H (r.ren σ) v→aZ S (fun i=>μ (σ i)) H' r v
 | .c x,v,_,k=>by simpa only[aZ,R.ren] using k
 | .hs id off len sz,v,h,k=>by
  obtain⟨o,o',h1,h2,q⟩:=h id (by simp[R.refs]);simp only[aZ,R.ren] at k ⊢;refine⟨k.1,?_⟩;rcases k.2 with k | ⟨te,es,elems,fz,g1,g2,g3⟩
  ·rw[h1] at k;cases k;cases q;exact .inl h2
  ·rw[h1] at g1;cases g1;cases q
   ·exact .inr ⟨te,es,elems,_,h2,g2,g3⟩
   ·exact .inr ⟨te,es,elems,_,h2,g2,g3⟩
 | .tl id off len sz,v,h,k=>by
  obtain⟨o,o',h1,h2,q⟩:=h id (by simp[R.refs]);simp only[aZ,R.ren] at k ⊢;refine⟨k.1,?_⟩;rcases k.2 with k | ⟨te,es,elems,fz,g1,g2,g3⟩
  ·rw[h1] at k;cases k;cases q;exact .inl h2
  ·rw[h1] at g1;cases g1;cases q
   ·exact .inr ⟨te,es,elems,_,h2,g2,g3⟩
   ·exact .inr ⟨te,es,elems,_,h2,g2,g3⟩
 | .vp id off,v,h,k=>by
  obtain⟨o,o',h1,h2,q⟩:=h id (by simp[R.refs]);simp only[aZ,R.ren] at k ⊢;obtain⟨t,cells,b,c,g1,g2,g3⟩:=k;rw[h1] at g1;cases g1;cases q;exact⟨_,_,b,c,h2,g2,g3⟩
 | .ep id i fo sz,v,h,k=>by
  obtain⟨o,o',h1,h2,q⟩:=h id (by simp[R.refs]);simp only[aZ,R.ren] at k ⊢;refine⟨k.1,?_⟩;rcases k.2 with k | ⟨te,es,elems,fz,g1,g2,g3⟩
  ·rw[h1] at k;cases k;cases q;exact .inl h2
  ·rw[h1] at g1;cases g1;cases q
   ·exact .inr ⟨te,es,elems,_,h2,g2,g3⟩
   ·exact .inr ⟨te,es,elems,_,h2,g2,g3⟩
 | .mr id,v,h,k=>by
  obtain⟨o,o',h1,h2,q⟩:=h id (by simp[R.refs]);simp only[aZ,R.ren] at k ⊢;obtain⟨agg,ents,b,c,g1,g2,g3⟩:=k;rw[h1] at g1;cases g1;cases q;exact⟨_,_,b,c,h2,g2,g3⟩
 | .clo f caps,v,h,k=>by
  simp only[aZ,R.ren] at k ⊢;obtain⟨vs,g1,g2⟩:=k;exact⟨vs,g1,aR.ren caps vs (by simpa only[R.refs] using h) g2⟩
 | .mth f x,v,h,k=>by
  simp only[aZ,R.ren] at k ⊢;obtain⟨u,g1,g2⟩:=k;exact⟨u,g1,aZ.ren x u (by simpa only[R.refs] using h) g2⟩
 | .rp id i fo sz,v,h,k=>by
  obtain⟨o,o',h1,h2,q⟩:=h id (by simp[R.refs]);simp only[aZ,R.ren] at k ⊢;refine⟨k.1,?_⟩;rcases k.2 with k | ⟨te,es,elems,g1,g2,g3⟩
  ·rw[h1] at k;cases k;cases q;exact .inl h2
  ·rw[h1] at g1;cases g1;cases q;rename_i elems' e;subst e;rw[eI] at g2 g3;exact .inr ⟨te,es,elems',h2,g2,g3⟩
 | .yl id,v,h,k=>by
  obtain⟨o,o',h1,h2,q⟩:=h id (by simp[R.refs]);simp only[aZ,R.ren] at k ⊢;obtain⟨st,j,i,e,b,c,g1,g2,g3⟩:=k;rw[h1] at g1;cases g1;cases q;exact⟨_,_,_,_,b,c,h2,g2,g3⟩
 | .ra id off len sz,v,h,k=>by
  obtain⟨o,o',h1,h2,q⟩:=h id (by simp[R.refs]);simp only[aZ,R.ren] at k ⊢;refine⟨k.1,?_⟩;rcases k.2 with k | ⟨te,es,elems,g1,g2,g3⟩
  ·rw[h1] at k;cases k;cases q;exact .inl h2
  ·rw[h1] at g1;cases g1;cases q;rename_i elems' e;subst e;rw[eI] at g2 g3;refine .inr ⟨te,es,elems',h2,g2,fun e=>?_⟩;obtain⟨I,y⟩:=g3 e;refine⟨I,?_⟩;rcases y with⟨y,J,M⟩ | y
   ·exact .inl ⟨y,Aw (by rw[←eI (σ:=σ),J];rfl),M⟩
   ·exact .inr y
 | .ras n es l,v,h,k=>by
  simp only[aZ,R.ren] at k ⊢;obtain⟨a,cap,h1,h2,q,O,U,Y,b,o,h7,vs,B,E⟩:=k;exact⟨a,cap,h1,by rw[h2,R.renL_length],q,O,U,Y,b,o,h7,vs,aR.ren l vs (by simpa only[R.refs] using h) B,E⟩
 | .pas l,v,h,k=>by
  simp only[aZ,R.ren] at k ⊢;obtain⟨b,o,h1,vs,B,E⟩:=k;exact⟨b,o,h1,vs,aR.ren l vs (by simpa only[R.refs] using h) B,E⟩
theorem aR.ren:∀(r:List R) (v:List Value),(∀id∈R.refsL r,Good H H' σ id)→aR S μ H (R.renL σ r) v→aR S (fun i=>μ (σ i)) H' r v
 | [],_,_,k=>by simpa only[aR,R.renL] using k
 | r::rs,vs,h,k=>by
  simp only[aR,R.renL] at k ⊢;obtain⟨v,vs',h1,h2,q⟩:=k;exact⟨v,vs',h1,aZ.ren r v (fun i hi=>h i (by simp[R.refsL,hi])) h2,aR.ren rs vs' (fun i hi=>h i (by simp[R.refsL,hi])) q⟩
end
mutual
theorem aO.ren:∀(r:V) (v:Value),(∀id∈r.refs,Good H H' σ id)→aO S μ H (r.ren σ) v→aO S (fun i=>μ (σ i)) H' r v
 | .one r,v,h,k=>by simp only[aO,V.ren] at k ⊢;exact aZ.ren r v (by simpa only[V.refs] using h) k
 | .pa l,v,_,k=>by simpa only[aO,V.ren] using k
 | .ma l,v,h,k=>by
  simp only[aO,V.ren] at k ⊢;obtain⟨vs,h1,h2⟩:=k;exact⟨vs,h1,aR.ren l vs (by simpa only[V.refs] using h) h2⟩
 | .tup l,v,h,k=>by
  simp only[aO,V.ren] at k ⊢;obtain⟨vs,h1,h2⟩:=k;exact⟨vs,h1,b5.ren l vs (by simpa only[V.refs] using h) h2⟩
theorem b5.ren:∀(r:List V) (v:List Value),(∀id∈V.refsL r,Good H H' σ id)→b5 S μ H (V.renL σ r) v→b5 S (fun i=>μ (σ i)) H' r v
 | [],_,_,k=>by simpa only[b5,V.renL] using k
 | r::rs,vs,h,k=>by
  simp only[b5,V.renL] at k ⊢;obtain⟨v,vs',h1,h2,q⟩:=k;exact⟨v,vs',h1,aO.ren r v (fun i hi=>h i (by simp[V.refsL,hi])) h2,b5.ren rs vs' (fun i hi=>h i (by simp[V.refsL,hi])) q⟩
end
end
theorem kL.ren {S:Sto}{μ:Mu}{H H':cE}{σ:Nat→Nat}{w:World}{id:Nat}{o o':AObj}(h:kL S μ H w (σ id) o) (hl:Ole σ o o') (q:∀i∈o'.refs,Good H H' σ i):kL S (fun i=>μ (σ i)) H' w id o':=by
 cases hl with
 | @var t cells cells' hc=>
  subst hc;obtain⟨b,vs,h1,h2,u,y⟩:=h;exact⟨b,vs,h1,h2,aR.ren _ _ q u,y⟩
 | arr=>exact h
 | arr1=>
  obtain⟨g0,g1 | ⟨b,base,cap,vs,g1,g2,g3,g4,g5,g6,g7,g8,g9⟩⟩:=h
  ·exact⟨g0,.inl g1⟩
  ·exact⟨g0,.inr ⟨b,base,cap,vs,g1,g2,g3,g4,g5,g6,(fun e=>by cases e),g8,(fun e=>by cases e)⟩⟩
 | map=>exact h
 | dead=>exact h
 | lp he=>
  subst he;obtain⟨b,r,fn,tmps,h1,h2,u,y,B⟩:=h;exact⟨b,r,fn,tmps,h1,h2,u,fun t v ht=>aO.ren _ _ (fun i hi=>q i (qZ ht i hi)) (y t _ (aBq ht)),B⟩
 | dfr=>exact h
 | rarr he=>
  subst he;obtain⟨g0,g1 | ⟨b,base,cap,vs,g1,g2,g3,g4,g5,g6,g7⟩⟩:=h
  ·exact⟨lC g0,.inl ⟨g1.1,Aw (by rw[←eI (σ:=σ),g1.2];rfl)⟩⟩
  ·rw[eI] at g4 g6;rw[wD] at g6;exact⟨lC g0,.inr ⟨b,base,cap,vs,g1,g2,g3,g4,g5,aR.ren _ _ (fun i hi=>q i (by rw[sO] at hi;exact hi)) g6,g7⟩⟩
 | tok he=>
  subst he;obtain⟨g1,b,g2,g3⟩:=h;exact⟨g1,b,aZ.ren _ _ q g2,g3⟩
def Ctx.keeps (G:Ctx) (kf:List Nat):Prop:=(∀id o,G.h0 id=some o→id∈kf)∧(997∈kf→G.h0 997=none→G.S0.noTop)
def Sub (kf:List Nat) (st2 st1:St):Prop:=∀G n S μ a w,G.keeps kf→Sim G n S μ st1 a w→∃S' μ',Sim G n S' μ' st2 a w
theorem Sub.refl (kf:List Nat) (st:St):Sub kf st st:=fun _ _ S μ _ _ _ h=>⟨S,μ,h⟩
theorem Sub.trans {kf:List Nat}{a b c:St}(h:Sub kf a b) (k:Sub kf b c):Sub kf a c:=fun G n S μ x w q hs=>by
 obtain⟨S',μ',h1⟩:=k G n S μ x w q hs;exact h G n S' μ' x w q h1
def mk (el:List (Nat×V)) (hl:List (Nat×AObj)):St:=⟨look el,look hl,[]⟩
def mkd (el:List (Nat×V)) (hl:List (Nat×AObj)) (dl:List Nat):St:=⟨look el,look hl,dl⟩
theorem bD {α:Type}:∀{l:List (Nat×α)}{i:Nat}{x:α},look l i=some x→(i,x)∈l
 | [],_,_,h=>by simp[look] at h
 | (k,y)::l,i,x,h=>by
  simp only[look] at h;split at h
  ·rename_i hb;cases h;simp[Aa hb]
  ·simp[bD h]
def gN {α:Type}(p:α→Prop):List α→Prop
 | []=>True
 | x::l=>p x∧gN p l
theorem gN.mem {α:Type}{p:α→Prop}:∀{l:List α},gN p l→∀x∈l,p x
 | [],_,x,h=>by simp at h
 | y::l,h,x,hx=>by
  rcases Au.1 hx with rfl | hx
  ·exact h.1
  ·exact gN.mem h.2 x hx
def subset (a b:List Nat):Bool:=a.all fun x=>b.contains x
def distinct:List Nat→Bool
 | []=>true
 | x::l=>!(l.contains x)&&distinct l
def gO:List (Nat×AObj)→List Nat
 | []=>[]
 | (_,o)::l=>o.refs++gO l
def aXy (kf:List Nat) (σ:Nat→Nat) (el:List (Nat×V)) (hl:List (Nat×AObj)):Bool:=subset (aGx el) (hl.map (·.1))&&subset (gO hl) (hl.map (·.1))&&distinct (hl.map fun p=>σ p.1)&&subset kf (hl.map (·.1))&&kf.all fun i=>Nat.beq (σ i) i
theorem bW {a b:List Nat}(h:subset a b=true):∀x∈a,x∈b:=fun x hx=>by simpa using (Av.1 h) x hx
theorem nW:∀{l:List Nat},distinct l=true→l.Nodup
 | [],_=>List.nodup_nil
 | x::l,h=>by
  simp only[distinct,π] at h;refine nodup_cons.2 ⟨?_,nW h.2⟩;simpa using h.1
theorem lD:∀{l:List (Nat×AObj)}{t:Nat}{v:AObj},(t,v)∈l→∀i∈v.refs,i∈gO l
 | (k,u)::l,t,v,h,i,hi=>by
  simp only[gO,Bk];rcases Au.1 h with h | h
  ·cases h;exact .inl hi
  ·exact .inr (lD h i hi)
theorem wP {α β:Type}{f:α→β}:∀{l:List α},(l.map f).Nodup→∀x∈l,∀y∈l,f x=f y→x=y
 | [],_,x,h,_,_,_=>by simp at h
 | z::l,hn,x,hx,y,hy,e=>by
  simp only[Ar,nodup_cons] at hn;rcases Au.1 hx with hx | hx
  ·rcases Au.1 hy with hy | hy
   ·rw[hx,hy]
   ·exact absurd (Cz.2 ⟨y,hy,by rw[←e,hx]⟩) hn.1
  ·rcases Au.1 hy with hy | hy
   ·exact absurd (Cz.2 ⟨x,hx,by rw[e,hy]⟩) hn.1
   ·exact wP hn.2 x hx y hy e
def eqL:List Nat→List Nat→Bool
 | [],[]=>true
 | a::l,b::m=>Nat.beq a b&&eqL l m
 | _,_=>false
theorem aPj:∀{l m:List Nat},eqL l m=true→l=m
 | [],[],_=>rfl
 | a::l,b::m,h=>by
  simp only[eqL,π] at h;rw[Aa h.1,aPj h.2]
 | [],_::_,h=>by simp[eqL] at h
 | _::_,[],h=>by simp[eqL] at h
theorem Sub.listD {kf:List Nat}{r:St}{y:List (Nat×V)}{hl:List (Nat×AObj)}{dl:List Nat}(σ:Nat→Nat) (he:gN (fun p=>r.e p.1=some (p.2.ren σ)) y) (hh:gN (fun p=>∃o,r.h (σ p.1)=some o∧Ole σ o p.2) hl) (hok:(aXy kf σ y hl&&(eqL (dl.map σ) r.d&&subset dl (hl.map (·.1))))=true):Sub kf (mkd y hl dl) r:=by
 intro G n S μ a w hg hs;rw[π,π] at hok;obtain⟨hok,u,O⟩:=hok;have u:=aPj u;simp only[aXy,π] at hok;obtain⟨⟨⟨⟨h1,h2⟩,h3⟩,M⟩,h5⟩:=hok;have q:∀i∈hl.map (·.1),Good r.h (look hl) σ i:=by
  intro i hi;obtain⟨o',J⟩:=cU hi;obtain⟨o,g1,g2⟩:=hh.mem _ (bD J);exact⟨o,o',g1,J,g2⟩
 have U:=nW h3;refine⟨S,fun i=>μ (σ i),⟨⟨hs.inv.holds,fun id o ho=>?_,fun i j o o' b c c' hi hj hm Y=>?_,fun i o b c hi hm=>?_,hs.inv.frame,hs.inv.sle,hs.inv.sto,⟨hs.inv.evo.le,fun id o ho=>?_⟩,hs.inv.fre⟩,hs.size,?_,fun t v ht=>?_⟩⟩
 ·obtain⟨B,g1,g2⟩:=hh.mem _ (bD ho);exact(hs.inv.obj _ _ g1).ren g2 fun i hi=>q i (bW h2 i (lD (bD ho) i hi))
 ·obtain⟨B,g1,g2⟩:=hh.mem _ (bD hi);obtain⟨E,g3,g4⟩:=hh.mem _ (bD hj);have I:=hs.inv.inj _ _ _ _ b c c' g1 g3 hm Y;have:=wP U _ (bD hi) _ (bD hj) I;exact(congrArg Prod.fst this)
 ·obtain⟨B,g1,g2⟩:=hh.mem _ (bD hi);exact hs.inv.own _ _ b c g1 hm
 ·obtain⟨o',g1,g2⟩:=hs.inv.evo.obj id o ho;have hk:=hg.1 id o ho;have I:σ id=id:=Aa ((Av.1 h5) id hk);obtain⟨B,E,g3,g4,g5⟩:=q id (bW M id hk);rw[I,g1] at g3;cases g3;refine⟨E,g4,?_⟩;show o.succ (μ (σ id)=G.μ0 id) E;rw[I];exact AObj.succ_trans g2 g5.succ fun e _=>e
 ·refine Marks.ren (H:=r.h) (μ:=μ) σ (by show Marks _ μ r.h (dl.map σ) a.defers;rw[u];exact hs.defers) fun id hid hdf=>⟨rfl,?_⟩
  obtain⟨B,E,g3,g4,g5⟩:=q id (bW O id hid);rw[hdf] at g3;cases g3;cases g5;exact g4
 ·have hm:=bD (show look y t=some v from ht);have M:=he.mem _ hm;exact aO.ren v _ (fun i hi=>q i (bW h1 i (qZ hm i hi))) (hs.env t _ M)
theorem Sub.list {kf:List Nat}{q:St}{r:List (Nat×V)}{hl:List (Nat×AObj)}(σ:Nat→Nat) (he:gN (fun p=>q.e p.1=some (p.2.ren σ)) r) (hh:gN (fun p=>∃o,q.h (σ p.1)=some o∧Ole σ o p.2) hl) (hok:(aXy kf σ r hl&&eqL [] q.d)=true):Sub kf (mk r hl) q:=
 Sub.listD (dl:=[]) σ he hh (by
  rw[π] at hok;rw[π]
  exact⟨hok.1,by rw[Ch,hok.2];rfl⟩)
def Ctx.rok (G:Ctx):Option Nat→Prop
 | none=>True
 | some l=>(∃r,G.w0.heap[l]?=some (.loop r))∧¬G.F l
def AWp (ro:Option Nat) (P:Program) (n:Nat) (kf:List Nat) (c:Code) (st:St) (Q:Exit→St→Prop):Prop:=
 ∀G S μ a w (Q':Exit→Act→World→Prop),G.keeps kf∧G.rok ro→Sim G n S μ st a w→(∀ex st' S' μ' a' w',Q ex st'→Sim G n S' μ' st' a' w'→Q' ex a' w')→c.wpIn (Wd ro) 0 P Q' a w
section
variable {ro:Option Nat}{P:Program}{n:Nat}{kf:List Nat}{st:St}{Q:Exit→St→Prop}
theorem AWp.sub {c:Code}{st2:St}(h:Sub kf st2 st) (k:AWp ro P n kf c st2 Q):AWp ro P n kf c st Q:=fun G S μ a w Q' q hs r=>by
 obtain⟨S',μ',h'⟩:=h G n S μ a w q.1 hs;exact k G S' μ' a w Q' q h' r
theorem AWp.post {c:Code}{Q2:Exit→St→Prop}(h:AWp ro P n kf c st Q) (hq:∀ex st',Q ex st'→∃r,Sub kf r st'∧Q2 ex r):AWp ro P n kf c st Q2:=fun G S μ a w Q' u hs B=>
 h G S μ a w Q' u hs fun ex st' S' μ' y w' q s=>by
  obtain⟨r,h1,h2⟩:=hq ex st' q;obtain⟨S2,E,I⟩:=h1 G n S' μ' y w' u.1 s;exact B ex r S2 E y w' h2 I
theorem aD (h:Q .normal st):AWp ro P n kf .skip st Q:=fun _ S μ a w _ _ hs q=>wpIn_skip (q _ _ S μ a w h hs)
theorem aE (h:Q .ret st):AWp ro P n kf .ret st Q:=fun _ S μ a w _ _ hs q=>wpIn_ret (q _ _ S μ a w h hs)
theorem aH {id:Nat}(h:Q (.exit id) st):AWp ro P n kf (.exit id) st Q:=fun _ S μ a w _ _ hs q=>wpIn_exit (q _ _ S μ a w h hs)
def aT0 (ro:Option Nat) (P:Program) (n:Nat) (kf:List Nat) (c:Code) (Q:Exit→St→Prop):Exit→St→Prop
 | .normal,st=>AWp ro P n kf c st Q
 | ex,st=>Q ex st
theorem aA {x y:Code}(h:AWp ro P n kf x st (aT0 ro P n kf y Q)):AWp ro P n kf (.seq x y) st Q:=fun G S μ a w Q' r hs u=>
 Db (h G S μ a w _ r hs fun ex st' S' μ' B w' q s=>by
  cases ex with
  | normal=>exact q G S' μ' B w' Q' r s u
  | _=>exact u _ st' S' μ' B w' q s)
theorem aB {c:Operand}{x y:Code}{b:Bool}(hc:opv st c=some (B b)) (ht:b=true→AWp ro P n kf x st Q) (u:b=false→AWp ro P n kf y st Q):AWp ro P n kf (.cond c x y) st Q:=fun G S μ a w Q' q hs r=>by
 have hb:=iZ (aM hs hc fun _ _=>rfl);cases b with
 | true=>exact wpIn_cond_true hb (ht rfl G S μ a w Q' q hs r)
 | false=>exact wpIn_cond_false hb (u rfl G S μ a w Q' q hs r)
def nG (id:Nat) (Q:Exit→St→Prop):Exit→St→Prop
 | .exit id',st=>if Nat.beq id' id then Q .normal st else Q (.exit id') st
 | ex,st=>Q ex st
theorem aF {id:Nat}{c:Code}(h:AWp ro P n kf c st (nG id Q)):AWp ro P n kf (.block id c) st Q:=fun G S μ a w Q' B hs u=>
 wpIn_block (h G S μ a w _ B hs fun ex st' S' μ' y w' q s=>by
  cases ex with
  | exit r=>
   simp only[nG] at q;simp only[Exit.inBlock];by_cases hb:r=id
   ·subst hb;simp only[beq_refl,Cv] at q;simpa using u _ st' S' μ' y w' q s
   ·have:Nat.beq r id=false:=by
     cases hq:Nat.beq r id with
     | false=>rfl
     | true=>exact absurd (Aa hq) hb
    simp only[this,As,Bq] at q;simpa [hb] using u _ st' S' μ' y w' q s
  | _=>exact u _ st' S' μ' y w' q s)
def aZ1 {α:Type}(kf:List Nat) (σ:α→St) (I:α→Prop) (m:α→Nat) (x:α) (Q:Exit→St→Prop):Exit→St→Prop
 | .normal,st=>∃y,I y∧m y<m x∧Sub kf (σ y) st
 | ex,st=>Q ex st
theorem qO {F:Fence}{m:Nat}{P:Program}{Q:Exit→Act→World→Prop}{a:Act}{w:World}{c:Code}(I:Nat→Act→World→Prop) (y:Nat) (E:I y a w)
  (round:∀n a w,I n a w→c.wpIn F m P (Exit.then (fun u w'=>∃q,q<n∧I q u w') Q) a w):(Code.loop c).wpIn F m P Q a w:=by
 refine wpIn_loop (fun a w=>∃n,I n a w) (fun a w=>leastOf (fun n=>I n a w)) ⟨y,E⟩ ?_;intro a w J;refine wpIn_mono (round _ a w (leastOf_spec J).1) ?_;intro e u w' hq;cases e with
 | normal=>
  obtain⟨q,B,r⟩:=hq;exact show(∃n,I n u w')∧leastOf (fun n=>I n u w')<leastOf (fun n=>I n a w) from⟨⟨q,r⟩,Bz ((leastOf_spec ⟨q,r⟩).2 q r) B⟩
 | _=>exact hq
theorem aK {α:Type}{c:Code}(σ:α→St) (I:α→Prop) (m:α→Nat) (r:α) (U:I r) (h0:Sub kf (σ r) st) (h:∀x,I x→AWp ro P n kf c (σ x) (aZ1 kf σ I m x Q)):AWp ro P n kf (.loop c) st Q:=fun G S μ a w Q' u hs Y=>by
 obtain⟨S',μ',E⟩:=h0 G n S μ a w u.1 hs;refine qO (fun k a w=>∃x S μ,m x=k∧I x∧Sim G n S μ (σ x) a w) (m r) ⟨r,S',μ',rfl,U,E⟩ ?_;rintro k a w ⟨x,S,μ,hk,hx,hs⟩;refine h x hx G S μ a w _ u hs fun ex st' S1 J M w' q s=>?_
 cases ex with
 | normal=>
  obtain⟨y,hy,O,B⟩:=q;obtain⟨S2,μ2,h2⟩:=B G n S1 J M w' u.1 s;exact⟨m y,hk▸O,y,S2,μ2,rfl,hy,h2⟩
 | _=>exact Y _ st' S1 J M w' q s
theorem tJ {id:Nat}{ops:Array Oper}{draw:Bool}{st':St}{xs:REs}(hm:P.follows .mixedOrders=true) (B:Run P n ops 0 st xs st') (hlen:Nat.beq xs.length ops.size=true)
  (u:(!draw || (cZ (preds ops) xs []&&dV ops))=true) (h:Q .normal st'):AWp ro P n kf (.region id ops draw) st Q:=fun G S μ a w Q' J hs M=>by
 have q:=Aa hlen;cases draw with
 | true=>
  simp only[Bool.not_true,A9,π] at u;refine wpIn_region_any hm ?_;refine aGq (G:=G) B q u.1 u.2 (fun S' μ' r w' s=>M _ st' S' μ' r w' h s) ops.size _ (by simp) ?_ ?_ S μ a _ ?_ ro
  ·have:((List.range ops.size).filter fun i=>!(Array.replicate ops.size false).getD i false)=List.range ops.size:=by
    apply filter_eq_self.2;intro i hi;simp at hi;simp[hi]
   rw[this,length_range]
  ·intro i o ho hl;simp[A6] at hl;split at hl<;>simp at hl
  ·have O:∀(E:REs) (k:Nat) (s:St),cG (fun j=>(Array.replicate ops.size false).getD j false) k E s=s:=by
    intro E
    induction E with
    | nil=>intro k s;rfl
    | cons y E I=>
     intro k s;have U:(Array.replicate ops.size false).getD k false=false:=by
      simp[A6];split<;>rfl
     simp only[cG,U,Bp];exact I _ _
   rw[O];exact⟨hs.inv.same rfl rfl rfl rfl,hs.size,hs.defers,hs.env⟩
 | false=>
  refine wpIn_region ?_;have key:∀(k:Nat) (st st':St) (xs:REs),Run P n ops k st xs st'→k+xs.length=ops.size→(∀S' μ' r w',Sim G n S' μ' st' r w'→Q' .normal r w')→∀S μ a w,Sim G n S μ st a w→wpOpsIn (Wd ro) 0 P ops Q' (List.range' k xs.length) a w:=by
   intro k st st' xs B
   induction B with
   | nil=>intro _ hq S μ a w hs;exact hq S μ a w hs
   | @cons k st rd f xs st' J _ I=>
    intro hl hq S μ a w hs;simp only[χ,range'_succ,Bu];exact J st (fR.refl _ _) G S μ a w _ Q' hs (fun S1 Y a1 w1 s1=>I (by simp at hl;omega) hq S1 Y a1 w1 s1) ro
  have:=key 0 st st' xs B (by omega) (fun S' μ' r w' s=>M _ st' S' μ' r w' h s) S μ a w hs;rwa [range_eq_range',←q]
end
end Go.AM
