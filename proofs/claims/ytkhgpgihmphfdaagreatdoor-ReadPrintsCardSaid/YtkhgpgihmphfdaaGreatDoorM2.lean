/-
  Texts Am6 to Am11 in one.
-/
import Derived.Test.YtkhgpgihmphfdaaGreatDoorM1
import Derived.Deep.MidRow
import Derived.Deep.LoopGhost
open List (all_eq_true append_assoc append_nil drop_append drop_append_of_le_length drop_drop drop_of_length_le drop_succ_cons drop_take drop_zero eq_nil_of_length_eq_zero filter_eq_self flatten_append flatten_cons length_append length_cons length_drop length_nil length_range length_set length_take map_cons map_nil map_toArray mem_append mem_cons mem_cons_of_mem mem_map mem_of_mem_take nil_append nodup_cons range'_succ range_eq_range' size_toArray take_append_of_le_length take_left' take_of_length_le take_succ_cons take_take take_zero)
open Nat (add_assoc add_mul add_zero beq_refl eq_of_beq_eq_true le_of_ble_eq_true le_refl le_trans lt_irrefl lt_of_le_of_lt min_eq_left mul_le_mul_left mul_le_mul_right sub_self sub_zero zero_add zero_le zero_mul)
namespace Go.AM
open Go
section
variable {P:Program}{n:Nat}{o:Oper}{st:St}{d:Nat}{T:TT}
theorem gM {S:Sto}{μ:Mu}{H:cF}{id:Nat}(h:H id=none) (p:Option (Nat×Nat×Nat)) (x:Option AObj):Evolve S μ H S (upd μ id p) (upd H id x):=
 ⟨S.le_refl,fun j o hj=>by
  have q:j≠id:=fun e=>by subst e;rw[h] at hj;cases hj
  exact⟨o,by rw[bJ _ _ _ q];exact hj,o.succ_refl (bJ _ _ _ q)⟩⟩
theorem Step.new {rd:Rd}{y:V}{id:Nat}{ao:AObj}(E:o.dst=some d) (u:d<n) (hid:st.h id=none) (A:id∈rd.h)
  (h:∀st',gS rd st st'→st'.h id=none→∀G S μ a w,Sim G n S μ st' a w→∃w' B v c,(execOp a.eval o).run P w=.ok (.value v) w'∧WChg w w' w.heap.size B∧
   mB S (upd μ id (some (w.heap.size,c))) (upd st'.h id (some ao)) w' id ao∧aS S (upd μ id (some (w.heap.size,c))) (upd st'.h id (some ao)) y v):
  Step P n o st rd ⟨some (d,some y),[(id,some ao)]⟩:=by
 intro st' ha G S μ a w K Q hs I;have q:st'.h id=none:=by rw[ha.2 id A,hid]
 obtain⟨w',B,v,c,J,hw,hO,hv⟩:=h st' ha q G S μ a w hs;refine fun ro=>fS J ?_
 rw[E];have hi:=hs.inv.chg (id:=id) (cap:=c) (ao:=ao) hw (.inl (le_refl _)) (gM q _ _) hO
  (fun o v e=>by obtain⟨vs,t,O,h1,_⟩:=hs.inv.holds.1 _ _ _ e;exact absurd (cA h1) (lt_irrefl _)) (fun m e=>le_refl _)
 refine I S (upd μ id (some (w.heap.size,c))) _ _ ?_;have:=hs.put hi (gM q _ _) u (x:=some y) (fun z M=>by cases M;exact hv);unfold Eff.apply;rw[cE];exact this
theorem fU {G:Ctx}{S:Sto}{μ:Mu}{H:cF}{w:World}(h:Inv G S μ H w) (o:Nat):S.cell w.heap.size o=none:=by
 cases hc:S.cell w.heap.size o with
 | none=>rfl
 | some v=>obtain⟨vs,t,q,h1,_⟩:=h.holds.1 _ _ _ hc;exact absurd (cA h1) (lt_irrefl _)
theorem rE {G:Ctx}{S:Sto}{μ:Mu}{H:cF}{w:World}(h:Inv G S μ H w):S.mapo w.heap.size=none:=by
 cases hc:S.mapo w.heap.size with
 | none=>rfl
 | some v=>obtain⟨_,h1⟩:=MK.holds_some (h.holds.2 _ _ hc);exact absurd (cA h1) (lt_irrefl _)
theorem iU (P:Program) (w:World) (t:TypeId) (cs:Array Value):(newRow t cs).run P w=.ok ⟨w.heap.size,0,none⟩ (w.alloc (.cells cs t)):=rfl
theorem aTh {t:TypeId}{i:TI}(id:Nat) (y:Tok P T) (ho:o.op=.alloc t) (A:o.dst=some d) (q:d<n) (hi:T[t]?=some (some i)) (hid:st.h id=none):
  Step P n o st ⟨[],[id]⟩ ⟨some (d,some (.one (.vp id 0))),[(id,some (.var t (i.zero.map R.c)))]⟩:=by
 refine Step.new A q hid (by simp) fun st' _ B G S μ a w hs=>?_
 obtain⟨z,E,u,_⟩:=(y.get hi).zero_run;refine⟨_,_,.pointer (some ⟨w.heap.size,0,none⟩),(0,0),?_,WChg.alloc w (.cells z.cells t),?_,?_⟩
 ·simp[execOp,ho,Instr.alloc,E,newVar,iU]
 ·exact⟨w.heap.size,z.cells.toList,aN _ _ _,B2 w _,(u S).toR,fU hs.inv,rE hs.inv⟩
 ·simp only[aS,aZ];exact⟨t,_,_,_,aN _ _ _,aN _ _ _,rfl⟩
theorem a17 {t:TypeId}{x:Operand}{y:V}{rs:List R}(id:Nat) (ho:o.op=.box t x) (A:o.dst=some d) (u:d<n) (hx:opv st x=some y) (hc:iK y=some rs) (hid:st.h id=none):
  Step P n o st ⟨opr x,[id]⟩ ⟨some (d,some (.one (.vp id 0))),[(id,some (.var t rs))]⟩:=by
 refine Step.new A u hid (by simp) fun st' ha q G S μ a w hs=>?_
 have hv:=aO hs hx ha.1;refine⟨_,_,.pointer (some ⟨w.heap.size,0,none⟩),(0,0),?_,WChg.alloc w (.cells (a.eval x).cells t),?_,?_⟩
 ·simp[execOp,ho,Instr.box,newVar,iU]
 ·exact⟨w.heap.size,(a.eval x).cells.toList,aN _ _ _,B2 w _,aT.evolve (gM q _ _) _ _ (dZ hv hc),fU hs.inv,rE hs.inv⟩
 ·simp only[aS,aZ];exact⟨t,_,_,_,aN _ _ _,aN _ _ _,rfl⟩
theorem aJo {t:TypeId}(id:Nat) (agg:Bool) (ho:o.op=.makeMap t none) (u:o.dst=some d) (q:d<n) (hid:st.h id=none):
  Step P n o st ⟨[],[id]⟩ ⟨some (d,some (.one (.mr id))),[(id,some (.map agg []))]⟩:=by
 refine Step.new u q hid (by simp) fun st' _ y G S μ a w hs=>?_
 refine⟨w.alloc (.map #[] 0),_,.map (some w.heap.size),(0,0),?_,WChg.alloc w (.map #[] 0),?_,?_⟩
 ·simp only[execOp,ho,Instr.makeMap,Option.map_none];rfl
 ·exact⟨w.heap.size, #[],0,aN _ _ _,B2 w _,.inr (.inl (by simp[bG])),.inl (rE hs.inv)⟩
 ·simp only[aS,aZ];exact⟨_,_,_,_,aN _ _ _,aN _ _ _,rfl⟩
theorem lG {w:World}{b:Nat}{vs:List Value}{t:TypeId}(h:w.heap[b]?=some (.cells ⟨vs⟩ t (0,0))) (off k:Nat):w.rangeAt b off ((vs.drop off).take k):=by
 intro j v hj;rw[cell_of_row w b (off+j) ⟨vs⟩ t (0,0) h];rw[An] at hj;split at hj
 ·rw[Ao] at hj;simpa using hj
 ·cases hj
theorem run_load {t:TypeId}{i:TI}(u:TIok P t i) (w:World) (b off:Nat) (cs:List Value) (B:w.rangeAt b off cs) (hl:cs.length=i.size):
  (Instr.loadAt t (.pointer (some ⟨b,off,none⟩))).run P w=.ok (if i.k.agg then .agg ⟨cs⟩ else cs.headD undef) w:=by
 obtain⟨inf,dd,z,g1,g2,g3,g4,g5,g6,g7,g8⟩:=u.ex;cases y:i.k.agg with
 | true=>
  have A:dd.isRow=true:=by
   cases E:i.k<;>rw[E] at g5 y<;>cases dd<;>simp[TK.fits,TK.agg] at g5 y<;>rfl
  rw[run_loadAt_mid w b off t cs dd B g2 A (by rw[u.info,hl])];simp
 | false=>
  have hs:=u.one y;rw[hs] at hl
  match cs,hl with
  | [c],_=>
   have hc:=B 0 c rfl;have q:=u.agg_run w;rw[y] at q;simp only[Instr.loadAt,Instr.sureAddr,Aa,Ad,δ,loadVar,q];simp only[Ax,Bw,load];simp only[Sem.run];rw[show(⟨b,off,none⟩:Addr)=⟨b,off+0,none⟩ from rfl,hc];simp
def lO (i:TI) (rs:List R):Option V:=if i.k.agg then some (aW1 rs) else match rs with | [r]=>some (.one r) | _=>none
theorem mV {i:TI}{S:Sto}{μ:Mu}{H:cF}{rs:List R}{vs:List Value}{y:V}(h:aT S μ H rs vs) (hy:lO i rs=some y):aS S μ H y (if i.k.agg then .agg ⟨vs⟩ else vs.headD undef):=by
 unfold lO at hy;cases q:i.k.agg with
 | true=>
  simp only[q,Cu] at hy ⊢;cases hy;exact aGq h
 | false=>
  simp only[q,Ax,Bw] at hy ⊢;split at hy
  ·cases hy;simp only[aT] at h;obtain⟨v,vs',rfl,h1,rfl⟩:=h;simpa [aS] using h1
  ·cases hy
theorem a2s {α:Type}{l:List α}{off k:Nat}(h:off+k≤l.length):((l.drop off).take k).length=k:=by simp;omega
theorem aXz {t tv:TypeId}{i:TI}{x:Operand}{id off:Nat}{cells:List R}{y:V}(A:Tok P T) (ho:o.op=.load t x) (B:o.dst=some d) (q:d<n) (hi:T[t]?=some (some i)) (hx:opv st x=some (.one (.vp id off)))
  (hh:st.h id=some (.var tv cells)) (hl:Nat.ble (off+i.size) cells.length=true) (hy:lO i ((cells.drop off).take i.size)=some y):Step P n o st ⟨opr x,[id]⟩ ⟨some (d,some y),[]⟩:=by
 refine Step.value B q fun st' ha G S μ a w hs=>?_
 have u:st'.h id=some (.var tv cells):=by rw[ha.2 id (by simp),hh]
 have hv:=aO hs hx ha.1;simp only[aS,aZ] at hv;obtain⟨J,cells',b,c,h1,h2,E⟩:=hv;obtain⟨M,vs,g1,g2,g3,g4⟩:=hs.inv.obj id _ u;rw[g1] at h2;cases h2;have hlen:=Ap hl;have I:=g3.length;refine⟨_,?_,mV ((g3.drop off).take i.size) hy⟩;simp only[execOp,ho,E,Aa,run_load (A.get hi) w b off _ (lG g2 off i.size) (a2s (by omega)),δ,Ad]
def aHm (i:TI) (l:List C):Option V:=if i.k.agg then some (.pa l) else match l with | [c]=>some (.one (.c c)) | _=>none
theorem aAh {i:TI}{S:Sto}{μ:Mu}{H:cF}{l:List C}{vs:List Value}{y:V}(h:bZ S l vs) (hy:aHm i l=some y):aS S μ H y (if i.k.agg then .agg ⟨vs⟩ else vs.headD undef):=by
 unfold aHm at hy;cases q:i.k.agg with
 | true=>
  simp only[q,Cu] at hy ⊢;cases hy;simp only[aS];exact⟨vs,rfl,h⟩
 | false=>
  simp only[q,Ax,Bw] at hy ⊢;split at hy
  ·cases hy;simp only[bZ] at h;obtain⟨v,vs',rfl,h1,rfl⟩:=h;simpa [aS,aZ] using h1
  ·cases hy
theorem o5 {S:Sto}{w:World}(hh:Holds S w) {b off:Nat}{vs:List Value}(h:fD S b off vs):w.rangeAt b off vs:=fun j v hj=>hh.cell (h j v hj)
theorem aJr {t:TypeId}{i:TI}{x:Operand}{l:List C}{y:V}(A:Tok P T) (ho:o.op=.load t x) (B:o.dst=some d) (q:d<n) (hi:T[t]?=some (some i)) (hx:opv st x=some (.one (.c (.pt l))))
  (hl:i.size≤l.length) (hy:aHm i (l.take i.size)=some y):Step P n o st ⟨opr x,[]⟩ ⟨some (d,some y),[]⟩:=by
 refine Step.value B q fun st' ha G S μ a w hs=>?_
 have hv:=aO hs hx ha.1;simp only[aS,aZ,Rep] at hv;obtain⟨b,off,h1,vs,h2,E⟩:=hv;have J:=h2.length;refine⟨_,?_,aAh (h2.take i.size) hy⟩;have I:=o5 hs.inv.holds E;have u:w.rangeAt b off (vs.take i.size):=fun j v hj=>by
  rw[An] at hj;split at hj
  ·exact I j v hj
  ·cases hj
 simp only[execOp,ho,h1,Aa,run_load (A.get hi) w b off _ u (by simp;omega),δ,Ad]
theorem sZ {α:Type}{es:Nat}:∀{l:List (List α)},(∀r∈l,r.length=es)→∀(k:Nat),∀r,l[k]?=some r→(l.flatten.drop (k*es)).take es=r
 | [],_,k,r,h=>by simp at h
 | x::xs,hl,0,r,h=>by
  simp at h;subst h;have:=hl x (by simp);simp[←this]
 | x::xs,hl,k+1,r,h=>by
  simp at h;have hx:=hl x (by simp);have:=sZ (l:=xs) (fun r q=>hl r (by simp[q])) k r h;rw[Bj,drop_append,show(k+1)*es-x.length=k*es by rw[hx,Be];omega];rw[drop_of_length_le (by rw[hx,Be];omega),Av];exact this
theorem jH {α:Type}{es:Nat}:∀{l:List (List α)},(∀r∈l,r.length=es)→l.flatten.length=l.length*es
 | [],_=>by simp
 | x::xs,hl=>by
  rw[Bj,ψ,jH (fun r q=>hl r (by simp[q])),hl x (by simp),ω,Be];omega
theorem mB.arr {S:Sto}{μ:Mu}{H:cF}{w:World}{id:Nat}{te es:Nat}{elems:List (List C)}{fz:Nat}(h:mB S μ H w id (.arr te es elems fz)) {b base cap:Nat}(hm:μ id=some (b,base,cap)):
  (∀r∈elems,r.length=es)∧∃vs,w.heap[b]?=some (.cells ⟨vs⟩ te (0,0))∧
   base+cap*es≤vs.length∧elems.length≤cap∧(cap≤maxLen∧S.mapo b=none)∧bZ S elems.flatten ((vs.drop base).take (elems.length*es))∧
   (fz=0→∀o,base≤o→S.cell b o=none)∧(∀o,base+elems.length*es≤o→S.cell b o=none)∧(fz=2→fD S b base ((vs.drop base).take (elems.length*es))):=by
 obtain⟨h0,⟨h1,_⟩ | ⟨y,q,u,vs,h1,h2⟩⟩:=h
 ·rw[hm] at h1;cases h1
 ·rw[hm] at h1;cases h1;exact⟨h0,vs,h2⟩
theorem aRd {S:Sto}{es base:Nat}{elems:List (List C)}{vs:List Value}(h0:∀r∈elems,r.length=es) (h:bZ S elems.flatten ((vs.drop base).take (elems.length*es))) {k:Nat}{r:List C}(q:elems[k]?=some r):
  bZ S r ((vs.drop (base+k*es)).take es):=by
 have h1:=(h.drop (k*es)).take es;rw[sZ h0 k r q] at h1;have u:k<elems.length:=(Ah.1 q).1
 have hle:(k+1)*es≤elems.length*es:=A2 _ u;rw[Be] at hle;rw[drop_take,Cx,take_take] at h1;rwa [C4 (by omega)] at h1
theorem aJs {t te es:Nat}{i:TI}{x:Operand}{id k fo sz:Nat}{elems:List (List C)}{fz:Nat}{r:List C}{y:V}(I:Tok P T) (ho:o.op=.load t x) (J:o.dst=some d) (B:d<n) (hi:T[t]?=some (some i)) (hx:opv st x=some (.one (.ep id k fo sz)))
  (hh:st.h id=some (.arr te es elems fz)) (hsz:sz=elems.length) (E:elems[k]?=some r) (hl:fo+i.size≤es) (hy:aHm i ((r.drop fo).take i.size)=some y):Step P n o st ⟨opr x,[id]⟩ ⟨some (d,some y),[]⟩:=by
 refine Step.value J B fun st' ha G S μ a w hs=>?_
 have q:st'.h id=some (.arr te es elems fz):=by rw[ha.2 id (by simp),hh]
 have hv:=aO hs hx ha.1;simp only[aS,aZ] at hv;obtain⟨_,hv | ⟨te',es',elems',fz',h1,h2,M⟩⟩:=hv
 ·rw[q] at hv;cases hv
 rw[q] at h1;cases h1;obtain⟨h4,b,base,cap,O,U⟩:=M hsz;obtain⟨g0,vs,g1,g2,g3,g4,g5,g6,g7⟩:=(hs.inv.obj id _ q).arr O;have u:=aRd g0 g5 E;have hlr:=u.length;have Y:r.length=es:=g0 r (ε E);have A:=((u.drop fo).take i.size)
 have hlen:=A.length;have hE:((List.drop fo (List.take es (List.drop (base+k*es) vs))).take i.size)=(vs.drop (base+k*es+fo)).take i.size:=by
  rw[drop_take,Cx,take_take,C4 (by omega)]
 rw[hE] at A hlen;refine⟨_,?_,aAh A hy⟩;simp only[execOp,ho,U,Aa,run_load (I.get hi) w b (base+k*es+fo) _ (lG g1 _ i.size) (by rw[hlen];simp;omega),δ,Ad]
end
section
variable {P:Program}{n:Nat}{o:Oper}{st:St}{d:Nat}{T:TT}
theorem run_store {t:TypeId}{i:TI}(B:TIok P t i) (w:World) (b off:Nat) (vs news:List Value) (A:TypeId) (v:Value) (E:w.heap[b]?=some (.cells ⟨vs⟩ A (0,0))) (hv:v.cells.toList=news) (hl:news.length=i.size) (y:off+news.length≤vs.length) (h1:∀u∈news,u.oneCell'=true):
  (Instr.storeAt t (.pointer (some ⟨b,off,none⟩)) v).run P w=.ok () (w.setRow b ⟨vs.take off++news++vs.drop (off+news.length)⟩):=by
 have hsz:v.cells.size=i.size:=by rw[←hl,←hv];simp
 have q:=run_storeCells_at (P:=P) b off A news 0 ⟨vs⟩ w E (by simpa using y) h1;simp only[Ct] at q;simp only[Instr.storeAt,Instr.sureAddr,Aa,Ad,δ,storeVar,B.size_run w,hsz,hv];simp only[ne_eq,not_true_eq_false,Bw,q]
theorem jJ {S:Sto}{μ:Mu}{H:cF}{id:Nat}{o o':AObj}{p:Nat×Nat×Nat}(h:H id=some o) (hm:μ id=some p) (hs:o.succ True o'):Evolve S μ H S (upd μ id (some p)) (upd H id (some o')):=by
 refine⟨S.le_refl,fun j x hj=>?_⟩;by_cases q:j=id
 ·subst q;rw[h] at hj;cases hj;refine⟨o',aN _ _ _,?_⟩;have he:upd μ j (some p) j=μ j:=by rw[aN,hm]
  rw[he];simpa using hs
 ·exact⟨x,by rw[bJ _ _ _ q];exact hj,x.succ_refl (bJ _ _ _ q)⟩
theorem Step.turn {rd:Rd}{id:Nat}{ao q:AObj}(J:o.dst=none) (hid:st.h id=some ao) (B:id∈rd.h) (y:ao.succ True q)
  (h:∀st',gS rd st st'→st'.h id=some ao→∀G S μ a w,Sim G n S μ st' a w→∃w' A b c,(execOp a.eval o).run P w=.ok .skip w'∧μ id=some (b,c)∧WChg w w' b A∧
   mB S (upd μ id (some (b,c))) (upd st'.h id (some q)) w' id q∧(∀o v,S.cell b o=some v→∃vs t M,A=.cells vs t M∧vs[o]?=some v)∧(∀m,S.mapo b=some m→w.heap.size≤b)):
  Step P n o st rd ⟨none,[(id,some q)]⟩:=by
 intro st' ha G S μ a w K Q hs O;have u:st'.h id=some ao:=by rw[ha.2 id B,hid]
 obtain⟨w',A,b,c,U,hm,hw,hO,hS,E⟩:=h st' ha u G S μ a w hs;refine fun ro=>yS U ?_
 rw[J];have I:=jJ (S:=S) (μ:=μ) u hm y;have hi:=hs.inv.chg (id:=id) (cap:=c) (ao:=q) hw (.inr ⟨ao,c,u,hm⟩) I hO hS E;refine O S (upd μ id (some (b,c))) _ _ ?_;have:=hs.put_none hi I undef;unfold Eff.apply;rw[cE];exact this
def bW {α:Type}(l:List α) (off:Nat) (new:List α):List α:=l.take off++new++l.drop (off+new.length)
theorem gL {S:Sto}{w:World}{b:Nat}(hb:S.mapo b=none) (m:MK) (e:S.mapo b=some m):w.heap.size≤b:=by
 rw[hb] at e;cases e
theorem aS7 {t tv:TypeId}{i:TI}{x y:Operand}{id off:Nat}{cells rs:List R}{v:V}(O:Tok P T) (ho:o.op=.store t x y) (U:o.dst=none) (hi:T[t]?=some (some i)) (hx:opv st x=some (.one (.vp id off)))
  (hy:opv st y=some v) (hc:iK v=some rs) (hh:st.h id=some (.var tv cells)) (Y:rs.length=i.size) (hl:Nat.ble (off+i.size) cells.length=true):
  Step P n o st ⟨opr x++opr y,[id]⟩ ⟨none,[(id,some (.var tv (bW cells off rs)))]⟩:=by
 refine Step.turn U hh (by simp) (by simp[AObj.succ]) fun st' ha u G S μ a w hs=>?_
 have A:=aO hs hx fun t ht=>ha.1 t (by simp[ht])
 have J:=aO hs hy fun t ht=>ha.1 t (by simp[ht])
 simp only[aS,aZ] at A;obtain⟨t',cells',b,c,h1,h2,q⟩:=A;obtain⟨b',vs,g1,g2,g3,g4⟩:=hs.inv.obj id _ u;rw[g1] at h2;cases h2;have hlen:=Ap hl;have aa:=g3.length;have hrel:=dZ J hc;have B:=hrel.length;have E:=run_store (O.get hi) w b off vs (a.eval y).cells.toList tv (a.eval y) g2 rfl (by omega) (by omega) hrel.one;have I:=jJ (S:=S) (μ:=μ) (o':=.var tv (bW cells off rs)) u g1 (by simp[AObj.succ]);have M:=WChg.setRow w b ⟨vs⟩ ⟨vs.take off++(a.eval y).cells.toList++vs.drop (off+(a.eval y).cells.toList.length)⟩ tv (0,0) g2;refine⟨_,_,b,(0,0),?_,g1,M,⟨b,_,aN _ _ _,M.new,?_,g4⟩,(fun o v e=>by rw[g4.1] at e;cases e),fun m e=>gL g4.2 m e⟩
 ·simp only[execOp,ho,q,Aa,E,δ,Ad]
 ·have h1:=aT.evolve I _ _ (g3.take off);have h2:=aT.evolve I _ _ hrel;have q:=aT.evolve I _ _ (g3.drop (off+rs.length));rw[←B] at q;have:=(h1.append h2).append q;rw[show bW cells off rs=cells.take off++rs++cells.drop (off+(a.eval y).cells.toList.length) by rw[B];rfl] at this ⊢;exact this
theorem aC0 {α:Type}{es:Nat}:∀{l:List (List α)},(∀r∈l,r.length=es)→∀(k:Nat) (r:List α),l[k]?=some r→
  (l.take k).flatten=l.flatten.take (k*es)∧(l.drop (k+1)).flatten=l.flatten.drop (k*es+es)
 | [],_,k,r,h=>by simp at h
 | x::xs,hl,0,r,_=>by
  have hx:=hl x (by simp);simp only[Bl,List.flatten_nil,zero_mul,Bk,Cw,B8,Bj,true_and];rw[drop_append,hx,Cq,B8,drop_of_length_le (by omega),Av]
 | x::xs,hl,k+1,r,h=>by
  have hx:=hl x (by simp);simp at h;obtain⟨h1,h2⟩:=aC0 (l:=xs) (fun r q=>hl r (by simp[q])) k r h;simp only[A3,Bj,Cw];rw[h1,h2,List.take_append,drop_append,hx];have u:(k+1)*es-es=k*es:=by rw[Be];omega
  have y:(k+1)*es+es-es=k*es+es:=by rw[Be];omega
  rw[u,y,Au (l:=x) (by rw[hx,Be];omega),drop_of_length_le (l:=x) (by rw[hx,Be];omega),Av];exact⟨rfl,rfl⟩
theorem aG5 {t te es:Nat}{i:TI}{x y:Operand}{id k fo sz:Nat}{elems:List (List C)}{v:V}{rs:List R}{cs r:List C}(hT:Tok P T) (ho:o.op=.store t x y) (hd:o.dst=none) (hi:T[t]?=some (some i)) (hx:opv st x=some (.one (.ep id k fo sz)))
  (hy:opv st y=some v) (hc:iK v=some rs) (hp:jU rs=some cs) (hh:st.h id=some (.arr te es elems 0)) (hsz:sz=elems.length) (M:elems[k]?=some r) (hcs:cs.length=i.size) (hl:fo+i.size≤es):
  Step P n o st ⟨opr x++opr y,[id]⟩ ⟨none,[(id,some (.arr te es (elems.set k (bW r fo cs)) 0))]⟩:=by
 refine Step.turn hd hh (by simp) (by simp[AObj.succ]) fun st' ha A G S μ a w hs=>?_
 have Y:=aO hs hx fun t ht=>ha.1 t (by simp[ht])
 have hvy:=aO hs hy fun t ht=>ha.1 t (by simp[ht])
 simp only[aS,aZ] at Y;obtain⟨_,hv | ⟨te',es',elems',fz',h1,h2,h3⟩⟩:=Y
 ·rw[A] at hv;cases hv
 rw[A] at h1;cases h1;obtain⟨h4,b,base,cap,h5,h6⟩:=h3 hsz;obtain⟨g0,vs,g1,g2,g3,g4,g5,g6,g7⟩:=(hs.inv.obj id _ A).arr h5;have hrel:=dZ hvy hc;rw[pA hp] at hrel;have E:=hrel.pure;have hone:=hrel.one;have hnl:=E.length;have hk:k<elems.length:=(Ah.1 M).1
 have hres:r.length=es:=g0 r (ε M);have hke:(k+1)*es≤elems.length*es:=A2 _ hk;have hce:elems.length*es≤cap*es:=A2 _ g3;rw[Be] at hke;generalize O:(a.eval y).cells.toList=news at *;have hrun:=run_store (hT.get hi) w b (base+k*es+fo) vs news te (a.eval y) g1 O (by omega) (by omega) hone;have hE:=jJ (S:=S) (μ:=μ) (o':=.arr te es (elems.set k (bW r fo cs)) 0) A h5 (by simp[AObj.succ]);have I:=aRd g0 g5 M;have B:=aC0 g0 k r M;have hlen:(elems.set k (bW r fo cs)).length=elems.length:=by simp
 have hW:=WChg.setRow w b ⟨vs⟩ ⟨vs.take (base+k*es+fo)++news++vs.drop (base+k*es+fo+news.length)⟩ te (0,0) g1;refine⟨_,_,b,(base,cap),?_,h5,hW,⟨?_,.inr ⟨b,base,cap,_,aN _ _ _,hW.new,?_,by rw[hlen];exact g3,g4,?_,g6,by rw[hlen];exact g7.1,fun e=>by cases e⟩⟩,fun o v e=>?_,fun m e=>gL g4.2 m e⟩
 ·simp only[execOp,ho,h6,Aa,hrun,δ,Ad]
 ·intro q hq;rcases List.mem_or_eq_of_mem_set hq with hq | rfl
  ·exact g0 q hq
  ·unfold bW;simp;omega
 ·simp only[ψ,Ai,Bi];omega
 ·rw[hlen];have e1:(elems.set k (bW r fo cs)).flatten=elems.flatten.take (k*es)++(r.take fo++cs++r.drop (fo+cs.length))++elems.flatten.drop (k*es+es):=by
   rw[Cs,ζ hk,Cy,Bj,B.1,B.2,←Aj];rfl
  have e2:((vs.take (base+k*es+fo)++news++vs.drop (base+k*es+fo+news.length)).drop base).take (elems.length*es)=
    ((vs.drop base).take (elems.length*es)).take (k*es)++((((vs.drop (base+k*es)).take es).take fo)++news++(((vs.drop (base+k*es)).take es).drop (fo+cs.length)))++((vs.drop base).take (elems.length*es)).drop (k*es+es):=by
   apply Cv;intro j;simp only[An,Ao,Cf,ψ,Ai,Bi];have hm1:min (k*es) (min (elems.length*es) (vs.length-base))=k*es:=by omega
   have hm2:min (base+k*es+fo) vs.length=base+k*es+fo:=by omega
   have hm3:min fo es=fo:=by omega
   have hm4:min es (vs.length-(base+k*es))=es:=by omega
   simp only[hm1,hm2,hm3,hm4,hnl];by_cases U:j<k*es
   ·have u:j<elems.length*es:=by omega
    have a2:base+j<base+k*es+fo:=by omega
    have a3:base+j<base+k*es+fo+cs.length:=by omega
    have a4:j<k*es+(fo+cs.length+(es-(fo+cs.length))):=by omega
    simp[U,u,a2,a3,a4]
   ·by_cases c2:j<k*es+fo
    ·have u:j<elems.length*es:=by omega
     have a2:base+j<base+k*es+fo:=by omega
     have a3:base+j<base+k*es+fo+cs.length:=by omega
     have a4:j<k*es+(fo+cs.length+(es-(fo+cs.length))):=by omega
     have a5:j-k*es<fo+cs.length:=by omega
     have J:j-k*es<fo:=by omega
     have a7:j-k*es<es:=by omega
     simp[U,u,a2,a3,a4,a5,J,a7,show base+k*es+(j-k*es)=base+j by omega]
    ·by_cases c3:j<k*es+fo+cs.length
     ·have u:j<elems.length*es:=by omega
      have a2:¬base+j<base+k*es+fo:=by omega
      have a3:base+j<base+k*es+fo+cs.length:=by omega
      have a4:j<k*es+(fo+cs.length+(es-(fo+cs.length))):=by omega
      have a5:j-k*es<fo+cs.length:=by omega
      have J:¬j-k*es<fo:=by omega
      simp[U,u,a2,a3,a4,a5,J,show base+j-(base+k*es+fo)=j-k*es-fo by omega]
     ·by_cases c4:j<k*es+es
      ·have u:j<elems.length*es:=by omega
       have a3:¬base+j<base+k*es+fo+cs.length:=by omega
       have a4:j<k*es+(fo+cs.length+(es-(fo+cs.length))):=by omega
       have a5:¬j-k*es<fo+cs.length:=by omega
       have J:fo+cs.length+(j-k*es-(fo+cs.length))<es:=by omega
       simp[U,u,a3,a4,a5,J,show base+k*es+fo+cs.length+(base+j-(base+k*es+fo+cs.length))=base+j by omega,show base+k*es+(fo+cs.length+(j-k*es-(fo+cs.length)))=base+j by omega]
      ·have a3:¬base+j<base+k*es+fo+cs.length:=by omega
       have a4:¬j<k*es+(fo+cs.length+(es-(fo+cs.length))):=by omega
       by_cases c5:j<elems.length*es
       ·have a5:k*es+es+(j-(k*es+(fo+cs.length+(es-(fo+cs.length)))))<elems.length*es:=by omega
        simp[a3,a4,c5,a5,show base+k*es+fo+cs.length+(base+j-(base+k*es+fo+cs.length))=base+j by omega,show base+(k*es+es+(j-(k*es+(fo+cs.length+(es-(fo+cs.length))))))=base+j by omega]
       ·have a5:¬k*es+es+(j-(k*es+(fo+cs.length+(es-(fo+cs.length)))))<elems.length*es:=by omega
        simp[a4,c5,a5]
  rw[e1];show bZ S _ (((vs.take (base+k*es+fo)++news++vs.drop (base+k*es+fo+news.length)).drop base).take (elems.length*es));rw[e2];exact((g5.take (k*es)).append (((I.take fo).append E).append (I.drop (fo+cs.length)))).append (g5.drop (k*es+es))
 ·--what stays is not touched
  by_cases hb:base≤o
  ·rw[g6 rfl o hb] at e;cases e
  ·obtain⟨vs0,t0,fr0,q1,q2⟩:=hs.inv.holds.1 b o v e;rw[g1] at q1;cases q1;refine⟨_,_,_,rfl,?_⟩;simp only[Cr] at q2 ⊢;have hlt:o<vs.length:=(Ah.1 q2).1
   rw[Aj,Bc (by simp;omega),An,ζ (by omega)];exact q2
theorem yH (b off k:Nat):(⟨b,off,none⟩:Addr).add k=⟨b,off+k,none⟩:=Addr.add_mid b off k
theorem jB {t y:TypeId}{i A:TI}{fs:List (Nat×TypeId)}{f q:Nat}(B:Tok P T) (hi:T[t]?=some (some i)) (I:i.k=.st fs) (u:fs[f]?=some (q,y)) (E:T[y]?=some (some A)) (J:A.size≠0) (w:World) (b off:Nat):
  (Instr.fieldAt t (.pointer (some ⟨b,off,none⟩)) f).run P w=.ok (.pointer (some ⟨b,off+q,none⟩)) w:=by
 obtain⟨fields,h1,h2⟩:=(B.get hi).struct I;rw[h2] at u;simp only[Br,Option.map_eq_some_iff,Array.getElem?_toList] at u;obtain⟨fl,M,O⟩:=u;cases O;simp only[Instr.fieldAt,Aa,Ak h1 w,δ,M,Instr.sureAddr,Ad,fieldPlace,(B.get E).size_run w];simp[J,yH]
theorem aHa {t u:TypeId}{i y:TI}{fs:List (Nat×TypeId)}{f q:Nat}{x:Operand}{id off:Nat}(E:Tok P T) (ho:o.op=.fieldAddr t x f) (I:o.dst=some d) (A:d<n) (hi:T[t]?=some (some i)) (J:i.k=.st fs) (M:fs[f]?=some (q,u)) (B:T[u]?=some (some y)) (O:y.size≠0)
  (hx:opv st x=some (.one (.vp id off))):Step P n o st ⟨opr x,[]⟩ ⟨some (d,some (.one (.vp id (off+q)))),[]⟩:=by
 refine Step.value I A fun st' ha G S μ a w hs=>?_
 have hv:=aO hs hx ha.1;simp only[aS,aZ] at hv;obtain⟨U,cells',b,c,h1,h2,Y⟩:=hv;refine⟨.pointer (some ⟨b,off+q,none⟩),?_,?_⟩
 ·simp only[execOp,ho,Y,Aa,jB E hi J M B O,δ,Ad]
 ·simp only[aS,aZ];exact⟨U,cells',b,c,h1,h2,rfl⟩
theorem aHc {t u:TypeId}{i y:TI}{fs:List (Nat×TypeId)}{f q:Nat}{x:Operand}{l:List C}(E:Tok P T) (ho:o.op=.fieldAddr t x f) (I:o.dst=some d) (A:d<n) (hi:T[t]?=some (some i)) (J:i.k=.st fs) (M:fs[f]?=some (q,u)) (B:T[u]?=some (some y)) (O:y.size≠0)
  (hx:opv st x=some (.one (.c (.pt l)))):Step P n o st ⟨opr x,[]⟩ ⟨some (d,some (.one (.c (.pt (l.drop q))))),[]⟩:=by
 refine Step.value I A fun st' ha G S μ a w hs=>?_
 have hv:=aO hs hx ha.1;simp only[aS,aZ,Rep] at hv;obtain⟨b,off,h1,vs,h2,U⟩:=hv;refine⟨.pointer (some ⟨b,off+q,none⟩),?_,?_⟩
 ·simp only[execOp,ho,h1,Aa,jB E hi J M B O,δ,Ad]
 ·simp only[aS,aZ,Rep];refine⟨b,off+q,rfl,vs.drop q,h2.drop q,fun j v hj=>?_⟩;rw[Ao] at hj;have:=U (q+j) v hj;rwa [←add_assoc] at this
theorem aHd {t y:TypeId}{i A:TI}{fs:List (Nat×TypeId)}{f q:Nat}{x:Operand}{id k fo sz:Nat}(I:Tok P T) (ho:o.op=.fieldAddr t x f) (J:o.dst=some d) (B:d<n) (hi:T[t]?=some (some i)) (M:i.k=.st fs) (O:fs[f]?=some (q,y)) (E:T[y]?=some (some A)) (U:A.size≠0)
  {te es:Nat} {elems:List (List C)} {fz:Nat} (hx:opv st x=some (.one (.ep id k fo sz))) (hh:st.h id=some (.arr te es elems fz)) (hsz:sz=elems.length):Step P n o st ⟨opr x,[id]⟩ ⟨some (d,some (.one (.ep id k (fo+q) sz))),[]⟩:=by
 refine Step.value J B fun st' ha G S μ a w hs=>?_
 have hv:=aO hs hx ha.1;have u:st'.h id=some (.arr te es elems fz):=by rw[ha.2 id (by simp),hh]
 simp only[aS,aZ] at hv;obtain⟨_,hv | ⟨te',es',elems',fz',h1,h2,Y⟩⟩:=hv
 ·rw[u] at hv;cases hv
 rw[u] at h1;cases h1;obtain⟨h4,b,base,cap,h5,h6⟩:=Y hsz;refine⟨.pointer (some ⟨b,base+k*es+fo+q,none⟩),?_,?_⟩
 ·simp only[execOp,ho,h6,Aa,jB I hi M O E U,δ,Ad]
 ·simp only[aS,aZ];exact⟨⟨_,rfl⟩,.inr ⟨te,es,elems,fz,u,h2,fun _=>⟨h4,b,base,cap,h5,by rw[add_assoc]⟩⟩⟩
theorem lE {t e:TypeId}{i q:TI}(u:Tok P T) (hi:T[t]?=some (some i)) (A:i.k=.sl e) (y:T[e]?=some (some q)) (w:World) (b off len cap k:Nat) (kk:IntKind) (B:k<len):
  (Instr.indexAt t (.slice (some ⟨b,off,none⟩) len cap) (.int kk (k:Int))).run P w=.ok (.pointer (some ⟨b,off+k*q.size,none⟩)) w:=by
 have h1:=(u.get hi).slice A;simp only[Instr.indexAt,asIntOf,Aa,Ad,δ,Ak h1 w];rw[ζ ⟨by omega,by omega⟩];simp only[Aa,(u.get y).size_run w,δ,Ad,Int.toNat_natCast,yH]
theorem aTc {t e:TypeId}{i u:TI}{x y:Operand}{es k:Nat}{kk:IntKind}{m:Int}{l:List (List C)}{r:List C}(U:Tok P T) (ho:o.op=.indexAddr t x y) (Y:o.dst=some d) (A:d<n) (hi:T[t]?=some (some i)) (hk:i.k=.sl e) (B:T[e]?=some (some u)) (E:u.size=es)
  (hx:opv st x=some (.one (.c (.sl es l)))) (hy:opv st y=some (I kk m)) (hm:m=(k:Int)) (J:l[k]?=some r):Step P n o st ⟨opr x++opr y,[]⟩ ⟨some (d,some (.one (.c (.pt r)))),[]⟩:=by
 refine Step.value Y A fun st' ha G S μ a w hs=>?_
 have hv:=aO hs hx (dB ha).1;have M:=eG (aO hs hy (dB ha).2);have hlt:k<l.length:=(Ah.1 J).1
 simp only[aS,aZ,Rep] at hv;obtain⟨q,len,cap,h1,h2,h3,h4,h5,h6,b,off,h7,h8⟩:=hv;cases q with
 | none=>have:=(h5 rfl).1;omega
 | some q=>
  obtain⟨h9,h10⟩:=h7 q rfl;have h11:=h6 q rfl (by omega);have O:q=⟨b,off,none⟩:=by cases q;simp_all
  subst O;subst hm;obtain⟨q1,vs,q2,q3⟩:=h8.get k r J;refine⟨.pointer (some ⟨b,off+k*es,none⟩),?_,?_⟩
  ·simp only[execOp,ho,h1,M,Aa,lE U hi hk B w b off len cap k kk (by omega),δ,Ad,E]
  ·simp only[aS,aZ,Rep];exact⟨b,off+k*es,rfl,vs,q2,q3⟩
theorem aG9 {t e:TypeId}{i A:TI}{x y:Operand}{te es k id off len sz:Nat}{kk:IntKind}{m:Int}{elems:List (List C)}{fz:Nat}(Y:Tok P T) (ho:o.op=.indexAddr t x y) (hd:o.dst=some d) (B:d<n) (hi:T[t]?=some (some i)) (hk:i.k=.sl e) (E:T[e]?=some (some A)) (J:A.size=es)
  (hx:opv st x=some (.one (.hs id off len sz))) (hh:st.h id=some (.arr te es elems fz)) (hsz:sz=elems.length) (hy:opv st y=some (I kk m)) (hm:m=(k:Int)) (M:k<len):Step P n o st ⟨opr x++opr y,[id]⟩ ⟨some (d,some (.one (.ep id (off+k) 0 sz))),[]⟩:=by
 refine Step.value hd B fun st' ha G S μ a w hs=>?_
 have hv:=aO hs hx fun t ht=>ha.1 t (by simp[ht])
 have O:=eG (aO hs hy fun t ht=>ha.1 t (by simp[ht]));have q:st'.h id=some (.arr te es elems fz):=by rw[ha.2 id (by simp),hh]
 simp only[aS,aZ] at hv;obtain⟨_,hv | ⟨te',es',elems',fz',h1,h2,h3⟩⟩:=hv
 ·rw[q] at hv;cases hv
 rw[q] at h1;cases h1;obtain⟨h4,⟨U,u,h7⟩ | ⟨b,base,cap,U,u⟩⟩:=h3 hsz
 ·subst u;simp at hsz;omega
 subst hm;refine⟨.pointer (some ⟨b,base+(off+k)*es+0,none⟩),?_,?_⟩
 ·simp only[execOp,ho,u,O,Aa,lE Y hi hk E w b (base+off*es) len _ k kk M,δ,Ad,J,Ct];rw[show base+off*es+k*es=base+(off+k)*es by rw[Be];omega]
 ·simp only[aS,aZ];exact⟨⟨_,rfl⟩,.inr ⟨te,es,elems,fz,q,h2,fun _=>⟨by omega,b,base,cap,U,rfl⟩⟩⟩
theorem zC {t e:TypeId}{m:Nat}{i q:TI}(u:Tok P T) (hi:T[t]?=some (some i)) (A:i.k=.ar m e) (y:T[e]?=some (some q)) (w:World) (b off k:Nat) (kk:IntKind) (B:k<m):
  (Instr.indexAt t (.pointer (some ⟨b,off,none⟩)) (.int kk (k:Int))).run P w=.ok (.pointer (some ⟨b,off+k*q.size,none⟩)) w:=by
 have h1:=(u.get hi).array A;have h2:(Instr.sureAddr (.pointer (some ⟨b,off,none⟩))).run P w=.ok ⟨b,off,none⟩ w:=by simp[Instr.sureAddr]
 simp only[Instr.indexAt,asIntOf,Aa,Ad,δ,Ak h1 w,h2];rw[ζ ⟨by omega,by omega⟩];simp only[Aa,(u.get y).size_run w,δ,Ad,Int.toNat_natCast,yH]
theorem aCh {t e:TypeId}{i u:TI}{x y:Operand}{id off k m:Nat}{kk:IntKind}{q:Int}(M:Tok P T) (ho:o.op=.indexAddr t x y) (O:o.dst=some d) (A:d<n) (hi:T[t]?=some (some i)) (U:i.k=.ar m e) (B:T[e]?=some (some u))
  (hx:opv st x=some (.one (.vp id off))) (hy:opv st y=some (I kk q)) (hm:q=(k:Int)) (E:k<m):Step P n o st ⟨opr x++opr y,[]⟩ ⟨some (d,some (.one (.vp id (off+k*u.size)))),[]⟩:=by
 refine Step.value O A fun st' ha G S μ a w hs=>?_
 have hv:=aO hs hx (dB ha).1;have J:=eG (aO hs hy (dB ha).2);simp only[aS,aZ] at hv;obtain⟨Y,cells',b,c,h1,h2,h3⟩:=hv;subst hm;refine⟨.pointer (some ⟨b,off+k*u.size,none⟩),?_,?_⟩
 ·simp only[execOp,ho,h3,J,Aa,zC M hi U B w b off k kk E,δ,Ad]
 ·simp only[aS,aZ];exact⟨Y,cells',b,c,h1,h2,rfl⟩
def notNil:V→Bool
 | .one (.vp _ _)=>true
 | .one (.c (.pt _))=>true
 | .one (.pas _)=>true
 | _=>false
theorem aG6 {x:Operand}{y:V}(ho:o.op=.nilCheck x) (A:o.dst=some d) (u:d<n) (hx:opv st x=some y) (q:notNil y=true):Step P n o st ⟨opr x,[]⟩ ⟨some (d,some y),[]⟩:=by
 refine Step.value A u fun st' ha G S μ a w hs=>⟨a.eval x,?_,aO hs hx ha.1⟩
 have hv:=aO hs hx ha.1;unfold notNil at q;split at q
 ·simp only[aS,aZ] at hv;obtain⟨E,cells',b,c,h1,h2,B⟩:=hv;simp[execOp,ho,B]
 ·simp only[aS,aZ,Rep] at hv;obtain⟨b,off,h1,_⟩:=hv;simp[execOp,ho,h1]
 ·simp only[aS,aZ] at hv;obtain⟨b,off,h1,_⟩:=hv;simp[execOp,ho,h1]
 ·cases q
theorem lD {t:TypeId}{x:Operand}{a:Act}{w:World}{u:Value}{m:Int}(ho:o.op=.call { callee:=.builtin .len,args:= #[x],argTypes:= #[t] }) (hx:a.eval x=u) (q:(Builtin.len_ #[t] o.type #[u]).run P w=.ok (goInt m) w):
  (execOp a.eval o).run P w=.ok (.value (goInt m)) w:=by
 simp only[execOp,ho,resolve,map_toArray,Ar,Ca,hx,Aa,Ad,δ,invoke,builtin,q]
theorem aOm {t e:TypeId}{i:TI}{x:Operand}{es:Nat}{l:List (List C)}(u:Tok P T) (ho:o.op=.call { callee:=.builtin .len,args:= #[x],argTypes:= #[t] }) (y:o.dst=some d) (q:d<n) (hi:T[t]?=some (some i)) (A:i.k=.sl e)
  (hx:opv st x=some (.one (.c (.sl es l)))):Step P n o st ⟨opr x,[]⟩ ⟨some (d,some (I .i64 (l.length:Int))),[]⟩:=by
 refine Step.value y q fun st' ha G S μ a w hs=>?_
 have hv:=aO hs hx ha.1;simp only[aS,aZ,Rep] at hv;obtain⟨B,len,cap,h1,h2,_⟩:=hv;refine⟨goInt l.length,lD ho h1 ?_,by simp[aS,aZ,Rep,goInt]⟩;simp[Builtin.len_,Ak ((u.get hi).slice A) w,h2]
theorem aOo {t e:TypeId}{i:TI}{x:Operand}(u:Tok P T) (ho:o.op=.call { callee:=.builtin .len,args:= #[x],argTypes:= #[t] }) (y:o.dst=some d) (q:d<n) (hi:T[t]?=some (some i)) (A:i.k=.sl e)
  (hx:opv st x=some (.one (.c .nl))):Step P n o st ⟨opr x,[]⟩ ⟨some (d,some (I .i64 0)),[]⟩:=by
 refine Step.value y q fun st' ha G S μ a w hs=>?_
 have hv:=aO hs hx ha.1;simp only[aS,aZ,Rep] at hv;refine⟨goInt 0,lD ho hv ?_,by simp[aS,aZ,Rep,goInt]⟩;simp[Builtin.len_,Ak ((u.get hi).slice A) w]
theorem aOp {t e:TypeId}{i:TI}{x:Operand}{te es id off len sz:Nat}{elems:List (List C)}{fz:Nat}(y:Tok P T) (ho:o.op=.call { callee:=.builtin .len,args:= #[x],argTypes:= #[t] }) (J:o.dst=some d) (A:d<n) (hi:T[t]?=some (some i)) (B:i.k=.sl e)
  (hx:opv st x=some (.one (.hs id off len sz))) (hh:st.h id=some (.arr te es elems fz)) (hsz:sz=elems.length):Step P n o st ⟨opr x,[id]⟩ ⟨some (d,some (I .i64 (len:Int))),[]⟩:=by
 refine Step.value J A fun st' ha G S μ a w hs=>?_
 have hv:=aO hs hx ha.1;have q:st'.h id=some (.arr te es elems fz):=by rw[ha.2 id (by simp),hh]
 simp only[aS,aZ] at hv;obtain⟨_,hv | ⟨Y,aa,elems',ab,h1,h2,M⟩⟩:=hv
 ·rw[q] at hv;cases hv
 rw[q] at h1;cases h1;obtain⟨h4,⟨O,u,U⟩ | ⟨b,base,cap,O,u⟩⟩:=M hsz
 ·subst u;simp at hsz;have E:len=0:=by omega
  refine⟨goInt len,lD ho U ?_,by simp[aS,aZ,Rep,goInt]⟩;simp[Builtin.len_,Ak ((y.get hi).slice B) w,E]
 ·refine⟨goInt len,lD ho u ?_,by simp[aS,aZ,Rep,goInt]⟩;simp[Builtin.len_,Ak ((y.get hi).slice B) w]
theorem aJt {t:TypeId}{i:TI}{x:Operand}{s:List UInt8}(u:Tok P T) (ho:o.op=.call { callee:=.builtin .len,args:= #[x],argTypes:= #[t] }) (y:o.dst=some d) (q:d<n) (hi:T[t]?=some (some i)) (A:i.k=.str)
  (hx:opv st x=some (Go.AM.T s)):Step P n o st ⟨opr x,[]⟩ ⟨some (d,some (I .i64 (s.length:Int))),[]⟩:=by
 refine Step.value y q fun st' ha G S μ a w hs=>?_
 have hv:=mS (aO hs hx ha.1);refine⟨goInt s.length,lD ho hv ?_,by simp[aS,aZ,Rep,goInt]⟩;simp[Builtin.len_,Ak ((u.get hi).str A) w];rfl
end
section
variable {P:Program}{n:Nat}{o:Oper}{st:St}{d:Nat}{T:TT}
theorem pK (off:Nat):∀(vs:List Value) (j:Nat) (cells:Array Value),off+j+vs.length≤cells.size→
  (vs.zipIdx j).foldl (fun cs (x:Value×Nat)=>cs.setIfInBounds (off+x.2) x.1) cells=⟨bW cells.toList (off+j) vs⟩
 | [],j,cells,_=>by simp[bW]
 | v::vs,j,cells,h=>by
  simp only[ω] at h;have I:=pK off vs (j+1) (cells.setIfInBounds (off+j) v) (by simp;omega);simp only[List.zipIdx_cons,List.foldl_cons,I];congr 1;unfold bW;simp only[Array.toList_setIfInBounds];apply Cv;intro k;simp only[Cf,ψ,Ai,C3,A6,ω,An,Ao,List.getElem?_set];have y:min (off+(j+1)) cells.size=off+j+1:=by omega
  have A:min (off+j) cells.size=off+j:=by omega
  simp only[y,A];by_cases B:k<off+j
  ·have q:k<off+j+1+vs.length:=by omega
   have a2:k<off+j+1:=by omega
   have a3:k<off+(j+1):=by omega
   have a4:k<off+j+(vs.length+1):=by omega
   have a5:¬off+j=k:=by omega
   simp[B,q,a2,a3,a4,a5]
  ·by_cases J:k=off+j
   ·subst J;have q:off+j<off+j+1+vs.length:=by omega
    have a5:off+j<cells.size:=by omega
    have u:off+j<off+(j+1):=by omega
    simp[q,a5,u]
   ·by_cases E:k<off+j+1+vs.length
    ·have a2:¬k<off+j+1:=by omega
     have a4:k<off+j+(vs.length+1):=by omega
     have u:k-(off+j)=(k-(off+j+1))+1:=by omega
     simp[B,E,a2,a4,u]
    ·have a4:¬k<off+j+(vs.length+1):=by omega
     have a5:¬off+j=k:=by omega
     simp[E,a4,a5,show off+(j+1)+vs.length+(k-(off+j+1+vs.length))=k by omega,show off+j+(vs.length+1)+(k-(off+j+(vs.length+1)))=k by omega]
def rD (st:St):List (Nat×Operand)→Option (List (Nat×List R))
 | []=>some []
 | (i,x)::ps=>match opv st x with
  | some v=>match iK v with
   | some rs=>match rD st ps with | some l=>some ((i,rs)::l) | none=>none
   | none=>none
  | none=>none
def gD:List (Nat×Operand)→List Nat
 | []=>[]
 | (_,x)::ps=>opr x++gD ps
def aHu (places:List (Nat×Nat)):List R→List (Nat×List R)→Option (List R)
 | cells,[]=>some cells
 | cells,(i,rs)::ps=>match places[i]? with
  | some (off,size)=>if Nat.beq rs.length size&&Nat.ble (off+rs.length) cells.length then aHu places (bW cells off rs) ps else none
  | none=>none
def mR (T:TT):List (Nat×TypeId)→Option (List (Nat×Nat))
 | []=>some []
 | (off,t)::fs=>match T[t]? with
  | some (some i)=>match mR T fs with | some l=>some ((off,i.size)::l) | none=>none
  | _=>none
theorem aHg {G:Ctx}{S:Sto}{μ:Mu}{st':St}{a:Act}{w:World}(hs:Sim G n S μ st' a w):∀(ps:List (Nat×Operand)) (l:List (Nat×List R)),rD st ps=some l→(∀t∈gD ps,st'.e t=st.e t)→
  ∃vs:List (Nat×Value),ps.map (fun(i,x)=>(i,a.eval x))=vs∧vs.length=l.length∧∀(k:Nat) (p:Nat×List R),l[k]?=some p→∃v:Value,vs[k]?=some (p.1,v)∧aT S μ st'.h p.2 v.cells.toList:=by
 intro ps
 induction ps with
 | nil=>intro l h _;simp[rD] at h;subst h;exact⟨[],rfl,rfl,fun k p h=>by simp at h⟩
 | cons p ps y=>
  obtain⟨i,x⟩:=p;intro l h ha;simp only[rD] at h;split at h
  ·rename_i v hv;split at h
   ·rename_i rs hc;split at h
    ·rename_i A u;cases h;obtain⟨vs,h1,h2,B⟩:=y A u fun t ht=>ha t (by simp[gD,ht])
     refine⟨(i,a.eval x)::vs,by simp[h1],by simp[h2],fun k q hq=>?_⟩;cases k with
     | zero=>
      simp at hq;subst hq;exact⟨a.eval x,rfl,dZ (aO hs hv fun t ht=>ha t (by simp[gD,ht])) hc⟩
     | succ k=>simp at hq;simpa using B k q hq
    ·cases h
   ·cases h
  ·cases h
theorem vA {S:Sto}{μ:Mu}{H:cF}{cells rs:List R}{vs us:List Value}{off:Nat}(h:aT S μ H cells vs) (k:aT S μ H rs us):aT S μ H (bW cells off rs) (bW vs off us):=by
 have hl:=k.length;unfold bW;rw[hl];exact((h.take off).append k).append (h.drop _)
theorem aK8 {S:Sto}{μ:Mu}{H:cF}{places:List (Nat×Nat)}:∀(ps:List (Nat×List R)) (vs:List (Nat×Value)) (cells:List R) (cs:Array Value) (out:List R),aHu places cells ps=some out→aT S μ H cells cs.toList→
  vs.length=ps.length→(∀(k:Nat) (p:Nat×List R),ps[k]?=some p→∃v:Value,vs[k]?=some (p.1,v)∧aT S μ H p.2 v.cells.toList)→
  ∃u,Instr.fill (places[·]?) cs vs=some u∧aT S μ H out u.toList:=by
 intro ps
 induction ps with
 | nil=>
  intro vs cells cs out h y hl _;simp at hl;subst hl;simp[aHu] at h;subst h;exact⟨cs,rfl,y⟩
 | cons p ps O=>
  intro vs cells cs out h y hl hp;obtain⟨i,rs⟩:=p
  match vs,hl with
  | q::vs,hl=>
   obtain⟨v,hv,hrel⟩:=hp 0 (i,rs) rfl;simp at hv;subst hv;simp only[aHu] at h;split at h
   ·rename_i off size E;split at h
    ·rename_i hc;simp only[π] at hc;have Y:=τ hc.1;have aa:=Ap hc.2;have I:=hrel.length;have J:=y.length;simp only[A6] at I J;have B:=pK off v.cells.toList 0 cs (by simp;omega);obtain⟨u,h1,h2⟩:=O vs (bW cells off rs) ⟨bW cs.toList off v.cells.toList⟩ out h (vA y hrel) (by simpa using hl) fun k p U=>by simpa using hp (k+1) p (by simpa using U)
     refine⟨u,?_,h2⟩;simp only[Instr.fill];rw[E];simp only[];have A:(v.cells.size≠size || decide (off+v.cells.size>cs.size))=false:=by
      simp only[Bool.or_eq_false_iff,decide_eq_false_iff_not];exact⟨by simp;omega,by omega⟩
     simp only[A,Ax,Bw];have M:(v.cells.zipIdx.foldl (fun cs (x:Value×Nat)=>cs.setIfInBounds (off+x.2) x.1) cs)=⟨bW cs.toList off v.cells.toList⟩:=by
      rw[←Array.foldl_toList,Array.toList_zipIdx];simpa using B
     rw[←h1];congr 1
    ·cases h
   ·cases h
theorem vF (q:Tok P T):∀(fs:List (Nat×TypeId)) (fields:List Field) (places:List (Nat×Nat)),fs=fields.map (fun f=>(f.offset,f.type))→mR T fs=some places→
  fields.mapM (fun f=>(P.info? f.type).map fun i=>(f.offset,i.size))=some places
 | _,[],places,h,hp=>by simp at h;subst h;simp[mR] at hp;subst hp;rfl
 | _,f::fields,places,h,hp=>by
  simp only[Ar] at h;subst h;simp only[mR] at hp;split at hp
  ·rename_i i hi;split at hp
   ·rename_i l hl;cases hp;have u:=vF q _ fields l rfl hl;have hsz:=(q.get hi).info;simp only[List.mapM_cons,u];cases hq:P.info? f.type with
    | none=>simp[hq] at hsz
    | some inf=>
     simp[hq] at hsz;simp[hsz]
   ·cases hp
  ·cases hp
theorem aTg {t:TypeId}{i:TI}{fs:List (Nat×TypeId)}{places:List (Nat×Nat)}{parts:Array (Nat×Operand)}{ps:List (Nat×List R)}{out:List R}(u:Tok P T) (ho:o.op=.build t parts) (I:o.dst=some d) (y:d<n) (hi:T[t]?=some (some i)) (J:i.k=.st fs)
  (A:mR T fs=some places) (B:rD st parts.toList=some ps) (M:aHu places (i.zero.map R.c) ps=some out):Step P n o st ⟨gD parts.toList,[]⟩ ⟨some (d,some (aW1 out)),[]⟩:=by
 refine Step.value I y fun st' ha G S μ a w hs=>?_
 obtain⟨vs,h1,h2,O⟩:=aHg hs _ _ B ha.1;obtain⟨fields,hu,E⟩:=(u.get hi).struct J;obtain⟨inf,dd,z,g1,g2,g3,g4,g5,g6,g7,g8⟩:=(u.get hi).ex;obtain⟨q,U,Y⟩:=aK8 (S:=S) (μ:=μ) (H:=st'.h) ps vs (i.zero.map R.c) z.cells out M (iY g7).toR h2 O;refine⟨.agg q,?_,?_⟩
 ·have hb:P.built t (parts.map fun(i,x)=>(i,a.eval x)).toList=some q:=by
   unfold Program.built;simp only[g1,hu,g6,vF u fs fields.toList places E A];rw[←U,←h1];simp
  simp only[execOp,ho,Aa,run_build w t _ q hb,δ,Ad]
 ·have:=aGq Y;simpa using this
theorem aTd {t U:TypeId}{i q:TI}{fs:List (Nat×TypeId)}{f u:Nat}{x:Operand}{v y:V}{rs:List R}(B:Tok P T) (ho:o.op=.field t x f) (hd:o.dst=some d) (Y:d<n) (hi:T[t]?=some (some i)) (hk:i.k=.st fs) (J:fs[f]?=some (u,U)) (A:T[U]?=some (some q))
  (hx:opv st x=some v) (aa:(match v with | .pa _=>true | .ma _=>true | _=>false)=true) (hc:iK v=some rs) (hl:Nat.ble (u+q.size) rs.length=true) (hy:lO q ((rs.drop u).take q.size)=some y):Step P n o st ⟨opr x,[]⟩ ⟨some (d,some y),[]⟩:=by
 refine Step.value hd Y fun st' ha G S μ a w hs=>?_
 have hv:=aO hs hx ha.1;have hrel:=dZ hv hc;have M:∃cs,a.eval x=.agg cs:=by
  cases v<;>simp only[aS] at hv<;>simp at aa
  ·obtain⟨vs,h,_⟩:=hv;exact⟨_,h⟩
  ·obtain⟨vs,h,_⟩:=hv;exact⟨_,h⟩
 obtain⟨cs,E⟩:=M;rw[E] at hrel;simp only[Value.cells] at hrel;have ab:=hrel.length;have hl':=Ap hl;simp only[A6] at ab;obtain⟨fields,h1,h2⟩:=(B.get hi).struct hk;rw[h2] at J;simp only[Br,Option.map_eq_some_iff,Array.getElem?_toList] at J;obtain⟨fl,h3,h4⟩:=J;cases h4;have O:=mV ((hrel.drop fl.offset).take q.size) hy;refine⟨_,?_,O⟩;simp only[execOp,ho,E,Aa,Instr.field,Ak h1 w,δ,h3,asAgg,Ad,part,(B.get A).agg_run w];cases ac:q.k.agg with
 | true=>
  simp only[Cu,Aa,(B.get A).size_run w,δ,Ad];congr 3;have:(cs.extract fl.offset (fl.offset+q.size)).toList=(cs.toList.drop fl.offset).take q.size:=by simp
  rw[←this]
 | false=>
  have ad:=(B.get A).one ac;simp only[Ax,Bw];have I:fl.offset<cs.size:=by omega
  have he:cs[fl.offset]?=some cs[fl.offset]:=by simp[I]
  rw[he];simp only[Ad,δ];congr 2;rw[ad,List.take_one,List.head?_drop];simp[I]
end
inductive Cle:C→C→Prop
 | refl {x}:Cle x x
 | nl {es}:Cle .nl (.sl es [])
 | sn {es l}:Cle (.sn es l) (.sl es l)
 | sg {te es l}:Cle (.sg te es l) (.sl es l)
theorem Cle.rep {S:Sto}{x y:C}{v:Value}(h:Cle x y) (k:Rep S x v):Rep S y v:=by
 cases h with
 | refl=>exact k
 | sg=>
  simp only[Rep] at k ⊢;obtain⟨a,len,cap,h1,h2,u,A,q⟩:=k;rcases q with⟨rfl,q,B⟩ | ⟨b,o,rfl,B,_⟩
  ·refine⟨none,len,cap,h1,h2,u,A,fun _=>⟨q,B⟩,by simp,0,0,by simp,?_⟩;have:(_:List (List C)).length=0:=h2.symm.trans q;rw[Aw this];simp[bI]
  ·exact⟨some ⟨b,o,none⟩,len,cap,h1,h2,u,A,by simp,fun E e _=>by cases e;rfl,b,o,fun E e=>by cases e;exact⟨rfl,rfl⟩,B⟩
 | nl=>
  simp only[Rep] at k ⊢;exact⟨none,0,0,k,by simp,le_refl _,Ab _,fun _=>⟨rfl,rfl⟩,by simp,0,0,by simp,by simp[bI]⟩
 | sn=>
  simp only[Rep] at k ⊢;obtain⟨b,o,sp,len,cap,h1,h2,u,A,I,q⟩:=k;exact⟨some ⟨b,o,sp⟩,len,cap,h1,h2,u,A,by simp,by rintro E ⟨⟩;exact I,b,o,by rintro E ⟨⟩;exact⟨rfl,rfl⟩,q⟩
inductive PureL (h:cF):List Nat→List R→List C→Prop
 | nil:PureL h [] [] []
 | c {ids rs cs x y}:Cle x y→PureL h ids rs cs→PureL h ids (.c x::rs) (y::cs)
 | hs {ids rs cs id off len sz te es elems e}:h id=some (.arr te es elems 2)→sz=elems.length→e=(elems.drop off).take len→PureL h ids rs cs→PureL h (id::ids) (.hs id off len sz::rs) (.sl es e::cs)
 | any {ids rs cs r}:PureL h ids rs cs→PureL h ids (r::rs) (.any::cs)
 | fn {ids rs cs f}:PureL h ids rs cs→PureL h ids (.clo f []::rs) (.fn f::cs)
 | ras {ids ids' ids0 rs cs n es l fl rows}:ids0=ids'++ids→PureL h ids' l fl→fl=rows.flatten→(∀r∈rows,r.length=es)→rows.length=n→PureL h ids rs cs→PureL h ids0 (.ras n es l::rs) (.sl es rows::cs)
theorem PureL.of_pure {h:cF}:∀{cs:List C},PureL h [] (cs.map R.c) cs
 | []=>.nil
 | _::_=>.c .refl PureL.of_pure
def aX4:List R→List C
 | []=>[]
 | .c x::l=>x::aX4 l
 | .clo f []::l=>.fn f::aX4 l
 | _::l=>.any::aX4 l
theorem PureL.ofA {h:cF}:∀{rs:List R},PureL h [] rs (aX4 rs)
 | []=>.nil
 | .c _::_=>.c .refl .ofA
 | .hs ..::_=>.any .ofA
 | .tl ..::_=>.any .ofA
 | .vp ..::_=>.any .ofA
 | .ep ..::_=>.any .ofA
 | .mr ..::_=>.any .ofA
 | .clo _ []::_=>.fn .ofA
 | .clo _ (_::_)::_=>.any .ofA
 | .mth ..::_=>.any .ofA
 | .yl ..::_=>.any .ofA
 | .ra ..::_=>.any .ofA
 | .rp ..::_=>.any .ofA
 | .ras ..::_=>.any .ofA
 | .pas ..::_=>.any .ofA
theorem aYt {S:Sto}{μ:Mu}{H:cF}{w:World}{id off len sz te es:Nat}{elems:List (List C)}{v:Value}(hO:mB S μ H w id (.arr te es elems 2)) (hh:H id=some (.arr te es elems 2)) (hsz:sz=elems.length)
  (hv:aZ S μ H (.hs id off len sz) v):Rep S (.sl es ((elems.drop off).take len)) v:=by
 simp only[aZ] at hv;obtain⟨_,hv | ⟨E,I,elems',J,h1,h2,y⟩⟩:=hv
 ·rw[hh] at hv;cases hv
 rw[hh] at h1;cases h1;obtain⟨M,⟨u,q,A⟩ | ⟨b,base,cap,u,q⟩⟩:=y hsz
 ·subst q;simp only[Rep];exact⟨none,0,0,A,by simp,le_refl _,Ab _,fun _=>⟨rfl,rfl⟩,by simp,0,0,by simp,by simp[bI]⟩
 ·obtain⟨g0,vs,g1,g2,g3,g4,g5,g6,g7,g8⟩:=hO.arr u;simp only[Rep];have hlen:((elems.drop off).take len).length=len:=by simp;omega
  refine⟨_,len,cap-off,q,hlen.symm,by omega,le_trans (Nat.sub_le _ _) g4.1,by simp,by rintro B ⟨⟩;exact fun _=>rfl,b,base+off*es,by rintro B ⟨⟩;exact⟨rfl,rfl⟩,?_⟩;have:=bI.of_flat g0 g5 (g8 rfl);exact(this.drop off).take len
theorem PureL.rel {S:Sto}{μ:Mu}{H H0:cF}{w:World}:∀{ids:List Nat}{rs:List R}{cs:List C}{vs:List Value},PureL H0 ids rs cs→(∀i∈ids,H i=H0 i)→(∀id o,H id=some o→mB S μ H w id o)→aT S μ H rs vs→bZ S cs vs:=by
 intro ids rs cs vs hp
 induction hp generalizing vs with
 | nil=>intro _ _ h;simp only[aT] at h;subst h;simp[bZ]
 | c hc _ q=>
  intro hi hO h;simp only[aT] at h;obtain⟨v,vs',rfl,h1,h2⟩:=h;simp only[aZ] at h1;simp only[bZ];exact⟨v,vs',rfl,hc.rep h1,q hi hO h2⟩
 | @ras ids ids' ids0 rs cs n es l fl rows u _ y A hn _ B q=>
  subst u;intro hi hO h;simp only[aT] at h;obtain⟨v,vs',rfl,h1,h2⟩:=h;simp only[aZ] at h1;simp only[bZ];refine⟨v,vs',rfl,?_,q (fun i hh=>hi i (by simp[hh])) hO h2⟩;obtain⟨a,cap,g1,g2,g3,g4,g5,g6,b,o,g7,us,g8,g9⟩:=h1;have g10:=B (fun i hh=>hi i (by simp[hh])) hO g8;subst y;simp only[Rep];exact⟨a,n,cap,g1,hn.symm,g3,g4,g5,fun I e _=>g6 I e,b,o,g7,bI.of_flat A g10 g9⟩
 | any _ q=>
  intro hi hO h;simp only[aT] at h;obtain⟨v,vs',rfl,h1,h2⟩:=h;simp only[bZ];exact⟨v,vs',rfl,by simp only[Rep];exact h1.one,q hi hO h2⟩
 | fn _ q=>
  intro hi hO h;simp only[aT] at h;obtain⟨v,vs',rfl,h1,h2⟩:=h;simp only[aZ,aT] at h1;obtain⟨us,rfl,rfl⟩:=h1;simp only[bZ];exact⟨_,vs',rfl,by simp only[Rep],q hi hO h2⟩
 | @hs ids rs cs id off len sz te es elems e he hsz E _ q=>
  intro hi hO h;simp only[aT] at h;obtain⟨v,vs',rfl,h1,h2⟩:=h;simp only[bZ];have hh:H id=some (.arr te es elems 2):=by rw[hi id (by simp),he]
  exact⟨v,vs',rfl,by rw[E];exact aYt (hO id _ hh) hh hsz h1,q (fun i h=>hi i (by simp[h])) hO h2⟩
inductive RowsV (st:St) (es:Nat):Nat→List Nat→List (Nat×Operand)→List (List C)→Prop
 | nil {k}:RowsV st es k [] [] []
 | cons {k ids ids' x ps v rs cs rows}:opv st x=some v→iK v=some rs→PureL st.h ids rs cs→Nat.beq rs.length es=true→RowsV st es (k+1) ids' ps rows→RowsV st es k (ids++ids') ((k,x)::ps) (cs::rows)
section
variable {P:Program}{n:Nat}{o:Oper}{st:St}{d:Nat}{T:TT}
theorem aG2 {G:Ctx}{S:Sto}{μ:Mu}{st':St}{a:Act}{w:World}(hs:Sim G n S μ st' a w) {es:Nat}:∀{k:Nat}{ids:List Nat}{ps:List (Nat×Operand)}{rows:List (List C)},RowsV st es k ids ps rows→(∀t∈gD ps,st'.e t=st.e t)→(∀i∈ids,st'.h i=st.h i)→
  ∀(cells:Array Value),cells.size=(k+ps.length)*es→∃out:Array Value,Instr.fill (fun i=>some (i*es,es)) cells (ps.map fun(i,x)=>(i,a.eval x))=some out∧out.size=cells.size∧
   ∃us,bZ S rows.flatten us∧out.toList=cells.toList.take (k*es)++us∧(∀r∈rows,r.length=es):=by
 intro k ids ps rows h
 induction h with
 | nil=>
  intro _ _ cells hc;refine⟨cells,rfl,rfl,[],by simp[bZ],?_,by simp⟩;rw[Ay,Au];simp at hc;simp[hc]
 | @cons k ids ids' x ps v rs cs rows hv hc hp hl _ J=>
  intro ha hi cells hsz;have Y:=τ hl;have hrel:=dZ (aO hs hv fun t ht=>ha t (by simp[gD,ht])) hc;have q:=hp.rel (fun i h=>hi i (by simp[h])) hs.inv.obj hrel;have E:=hrel.length;simp only[A6] at E;simp only[ω] at hsz;have aa:(k+(ps.length+1))*es=k*es+es+ps.length*es:=by
   rw[Be,Be];omega
  have A:=pK (k*es) (a.eval x).cells.toList 0 cells (by simp only[A6];omega);have y:(bW cells.toList (k*es) (a.eval x).cells.toList).length=cells.size:=by
   unfold bW;simp;omega
  obtain⟨out,h1,h2,us,M,O,U⟩:=J (fun t ht=>ha t (by simp[gD,ht])) (fun i h=>hi i (by simp[h])) ⟨bW cells.toList (k*es) (a.eval x).cells.toList⟩ (by
   simp only[size_toArray,y,hsz];congr 1
   omega)
  refine⟨out,?_,by rw[h2];simpa using y,(a.eval x).cells.toList++us,?_,?_,?_⟩
  ·simp only[Ar,Instr.fill];have u:((a.eval x).cells.size≠es || decide (k*es+(a.eval x).cells.size>cells.size))=false:=by
    simp only[Bool.or_eq_false_iff,decide_eq_false_iff_not];exact⟨by simp;omega,by omega⟩
   simp only[u,Ax,Bw];have I:((a.eval x).cells.zipIdx.foldl (fun cs (x:Value×Nat)=>cs.setIfInBounds (k*es+x.2) x.1) cells)=⟨bW cells.toList (k*es) (a.eval x).cells.toList⟩:=by
    rw[←Array.foldl_toList,Array.toList_zipIdx];simpa using A
   rw[←h1];congr 1
  ·rw[Bj];exact q.append M
  ·rw[O];have:(bW cells.toList (k*es) (a.eval x).cells.toList).take ((k+1)*es)=cells.toList.take (k*es)++(a.eval x).cells.toList:=by
    unfold bW;apply take_left';simp;rw[Be];omega
   show(bW cells.toList (k*es) (a.eval x).cells.toList).take ((k+1)*es)++us=_;rw[this,Aj]
  ·intro r B;rcases Aq.1 B with rfl | B
   ·have:=q.length;simp only[A6] at this;omega
   ·exact U r B
theorem RowsV.lengths {es k:Nat}{ids:List Nat}{ps:List (Nat×Operand)}{rows:List (List C)}(h:RowsV st es k ids ps rows):rows.length=ps.length:=by
 induction h with
 | nil=>rfl
 | cons _ _ _ _ _ q=>simp[q]
theorem aJm {t e:TypeId}{i q:TI}{len:Nat}{parts:Array (Nat×Operand)}{ids:List Nat}{rows:List (List C)}(id:Nat) (E:Tok P T) (ho:o.op=.buildSlice t len parts) (hd:o.dst=some d) (ab:d<n) (hi:T[t]?=some (some i)) (hk:i.k=.sl e) (A:T[e]?=some (some q))
  (B:RowsV st q.size 0 ids parts.toList rows) (hlen:Nat.beq len parts.size=true) (I:Nat.ble (len*q.size) 16777216=true) (Y:Nat.ble len 16777216=true) (hid:st.h id=none):
  Step P n o st ⟨gD parts.toList,id::ids⟩ ⟨some (d,some (.one (.hs id 0 len len))),[(id,some (.arr e q.size rows 0))]⟩:=by
 refine Step.new hd ab hid (by simp) fun st' ha hid' G S μ a w hs=>?_
 have O:=τ hlen;have hsm:=Ap I;obtain⟨z,hz,hzr,_⟩:=(E.get A).zero_run;have U:=(hzr S).length;rw[(E.get A).len] at U;simp only[A6] at U;have hrl:=B.lengths;simp only[A6] at hrl;have key:∀(cells:Array Value),cells.size=len*q.size→∃out:Array Value,Instr.fill (fun i=>some (i*q.size,q.size)) cells (parts.map fun(i,x)=>(i,a.eval x)).toList=some out∧out.size=len*q.size∧bZ S rows.flatten out.toList∧(∀r∈rows,r.length=q.size):=by
  intro cells hc;obtain⟨out,h1,h2,us,y,u,h5⟩:=aG2 hs B ha.1 (fun i h=>ha.2 i (by simp[h])) cells (by rw[hc,O];simp);refine⟨out,by rw[←h1];simp,by rw[h2,hc],?_,h5⟩;simp at u;rw[u];exact y
 have aa:∃out:Array Value,(Instr.buildSlice t len (parts.map fun(i,x)=>(i,a.eval x))).run P w=.ok (.slice (some ⟨w.heap.size,0,none⟩) len len) (w.alloc (.cells out e))∧out.size=len*q.size∧bZ S rows.flatten out.toList∧(∀r∈rows,r.length=q.size):=by
  by_cases h0:len*q.size=0
  ·obtain⟨out,h1,h2,y,u⟩:=key ((Array.range (len*q.size)).map ((#[]:Array Value)[· %(#[]:Array Value).size]!)) (by simp);refine⟨out,?_,h2,y,u⟩;have J:¬len*q.size>2^24:=by omega
   simp only[Instr.buildSlice,Aa,Ak ((E.get hi).slice hk) w,δ,(E.get A).size_run w];rw[η J,ζ h0];simp only[Aa,δ,Ad,h1,iU]
  ·obtain⟨out,h1,h2,y,u⟩:=key ((Array.range (len*q.size)).map (z.cells[· %z.cells.size]!)) (by simp);refine⟨out,?_,h2,y,u⟩;have J:¬len*q.size>2^24:=by omega
   simp only[Instr.buildSlice,Aa,Ak ((E.get hi).slice hk) w,δ,(E.get A).size_run w];rw[η J,η h0];simp only[Aa,hz w,δ,Ad,h1,iU]
 obtain⟨out,h1,h2,y,u⟩:=aa;have hlm:len≤maxLen:=by
  have:=Ap Y;unfold maxLen;omega
 refine⟨_,_,.slice (some ⟨w.heap.size,0,none⟩) len len,(0,len),?_,WChg.alloc w (.cells out e),?_,?_⟩
 ·simp only[execOp,ho,Aa,h1,δ,Ad]
 ·have M:rows.length=len:=by omega
  refine⟨u,.inr ⟨w.heap.size,0,len,out.toList,aN _ _ _,B2 w _,by simp[h2],by omega,⟨?_,rE hs.inv⟩,?_,fun _ o _=>fU hs.inv o,fun o _=>fU hs.inv o,fun e=>by cases e⟩⟩
  ·exact hlm
  ·simp only[B8];rw[Au (by simp[h2,M])];exact y
 ·simp only[aS,aZ];have M:rows.length=len:=by omega
  exact⟨⟨_,_,_,rfl⟩,.inr ⟨e,q.size,rows,0,aN _ _ _,by omega,fun _=>⟨by omega,.inr ⟨w.heap.size,0,len,aN _ _ _,by simp⟩⟩⟩⟩
end
inductive Src (st:St) (es:Nat):List Nat→V→List (List C)→Prop
 | hs {id off len sz te elems fz rows}:st.h id=some (.arr te es elems fz)→sz=elems.length→rows=(elems.drop off).take len→Src st es [id] (.one (.hs id off len sz)) rows
 | all {id sz te elems fz}:st.h id=some (.arr te es elems fz)→sz=elems.length→Src st es [id] (.one (.hs id 0 sz sz)) elems
 | sl {l}:Src st es [] (.one (.c (.sl es l))) l
 | nl:Src st es [] (.one (.c .nl)) []
 | sn {l}:Src st es [] (.one (.c (.sn es l))) l
theorem aAs {α:Type}{es:Nat}:∀{l:List (List α)},(∀r∈l,r.length=es)→∀k:Nat,(l.take k).flatten=l.flatten.take (k*es)
 | [],_,k=>by simp
 | x::xs,hl,0=>by simp
 | x::xs,hl,k+1=>by
  have hx:=hl x (by simp);have q:=aAs (l:=xs) (fun r u=>hl r (by simp[u])) k;rw[A3,Bj,Bj,q,List.take_append,Au (l:=x) (by rw[hx,Be];omega)];rw[show(k+1)*es-x.length=k*es by rw[hx,Be];omega]
theorem aAu {α:Type}{es:Nat}:∀{l:List (List α)},(∀r∈l,r.length=es)→∀k:Nat,(l.drop k).flatten=l.flatten.drop (k*es)
 | [],_,k=>by simp
 | x::xs,hl,0=>by simp
 | x::xs,hl,k+1=>by
  have hx:=hl x (by simp);have q:=aAu (l:=xs) (fun r u=>hl r (by simp[u])) k;rw[Cw,Bj,q,drop_append,drop_of_length_le (l:=x) (by rw[hx,Be];omega),Av];rw[show(k+1)*es-x.length=k*es by rw[hx,Be];omega]
theorem bI.flat {S:Sto}{es b:Nat}:∀{l:List (List C)}{o:Nat},bI S es b l o→∃vs,bZ S l.flatten vs∧fD S b o vs∧∀r∈l,r.length=es
 | [],_,_=>⟨[],by simp[bZ],fun i v h=>by simp at h,by simp⟩
 | r::rs,o,h=>by
  simp only[bI] at h;obtain⟨h1,⟨vs,h2,u⟩,y⟩:=h;obtain⟨us,A,B,E⟩:=bI.flat y;have hl:=h2.length;refine⟨vs++us,by rw[Bj];exact h2.append A,fun i v hi=>?_,?_⟩
  ·rw[Cf] at hi;split at hi
   ·exact u i v hi
   ·have:=B _ v hi;rwa [show o+es+(i-vs.length)=o+i by omega] at this
  ·intro q hq;rcases Aq.1 hq with rfl | hq
   ·exact h1
   ·exact E q hq
theorem Src.rel {G:Ctx}{n:Nat}{S:Sto}{μ:Mu}{st st':St}{a:Act}{w:World}{es:Nat}{ids:List Nat}{y:V}{rows:List (List C)}{v:Value}(hs:Sim G n S μ st' a w) (h:Src st es ids y rows) (hi:∀i∈ids,st'.h i=st.h i) (hv:aS S μ st'.h y v):
  ∃q c news,v=.slice q rows.length c∧bZ S rows.flatten news∧(∀r∈rows,r.length=es)∧(q=none→rows=[])∧∀x,q=some x→∀j u,news[j]?=some u→w.cell? (x.add j)=some u:=by
 have E:∀{id off len sz te elems fz rows},st.h id=some (.arr te es elems fz)→sz=elems.length→rows=(elems.drop off).take len→(∀i∈[id],st'.h i=st.h i)→aS S μ st'.h (.one (.hs id off len sz)) v→
   ∃q c news,v=.slice q rows.length c∧bZ S rows.flatten news∧(∀r∈rows,r.length=es)∧(q=none→rows=[])∧∀x,q=some x→∀j u,news[j]?=some u→w.cell? (x.add j)=some u:=by
  intro id off len sz te elems fz rows he hsz A hi hv;have hh:st'.h id=some (.arr te es elems fz):=by rw[hi id (by simp),he]
  simp only[aS,aZ] at hv;obtain⟨_,hv | ⟨te',es',elems',fz',h1,h2,I⟩⟩:=hv
  ·rw[hh] at hv;cases hv
  rw[hh] at h1;cases h1;obtain⟨h4,⟨O,J,Y⟩ | ⟨b,base,cap,O,J⟩⟩:=I hsz
  ·subst J;simp at A;subst A;exact⟨none,0,[],Y,by simp[bZ],by simp,fun _=>rfl,by simp⟩
  ·obtain⟨g0,vs,g1,g2,g3,g4,g5,g6,g7,g8⟩:=(hs.inv.obj id _ hh).arr O;have hrl:rows.length=len:=by rw[A];simp;omega
   have hfl:rows.flatten=(elems.flatten.drop (off*es)).take (len*es):=by
    rw[A,aAs (fun r A=>g0 r (List.mem_of_mem_drop A)),aAu g0]
   refine⟨_,cap-off,_,by rw[hrl];exact J,by rw[hfl];exact(g5.drop (off*es)).take (len*es),fun r hr'=>g0 r (List.mem_of_mem_drop (Bb (A▸hr'))),by simp,?_⟩;rintro x ⟨⟩ j u hj;rw[Addr.add_mid,cell_of_row w b _ ⟨vs⟩ te (0,0) g1];rw[An] at hj;split at hj
   ·rw[Ao,An] at hj;split at hj
    ·rw[Ao] at hj;simpa [add_assoc] using hj
    ·cases hj
   ·cases hj
 cases h with
 | hs he hsz A=>exact E he hsz A hi hv
 | all he hsz=>
  subst hsz;exact E he rfl (by simp) hi hv
 | sl=>
  simp only[aS,aZ,Rep] at hv;obtain⟨q,len,cap,h1,h2,I,h4,O,J,b,off,Y,h8⟩:=hv;obtain⟨vs,B,q2,q3⟩:=bI.flat h8;refine⟨q,cap,vs,by rw[h1,h2],B,q3,fun e=>Aw (by rw[←h2];exact(O e).1),?_⟩;rintro x rfl j u hj;obtain⟨h9,h10⟩:=Y x rfl
  have U:=J x rfl (by
   rintro rfl;have M:=Aw (show _=0 from Nat.le_zero.1 (h2▸I));rw[M] at B;simp[bZ] at B;subst B
   simp at hj)
  have hx:x=⟨b,off,none⟩:=by cases x;simp_all
  subst hx;rw[Addr.add_mid];exact hs.inv.holds.cell (q2 j u hj)
 | nl=>
  simp only[aS,aZ,Rep] at hv;exact⟨none,0,[],hv,by simp[bZ],by simp,fun _=>rfl,by simp⟩
 | sn=>
  simp only[aS,aZ,Rep] at hv;obtain⟨b,off,sp,len,cap,h1,h2,I,h4,hsp,h8⟩:=hv;obtain⟨vs,B,q2,q3⟩:=bI.flat h8;refine⟨some ⟨b,off,sp⟩,cap,vs,by rw[h1,h2],B,q3,by simp,?_⟩;rintro x ⟨⟩ j u hj
  have U:=hsp (by
   rintro rfl;have M:=Aw (show _=0 from Nat.le_zero.1 (h2▸I));rw[M] at B;simp[bZ] at B;subst B
   simp at hj)
  subst U;rw[Addr.add_mid];exact hs.inv.holds.cell (q2 j u hj)
section
variable {P:Program}{n:Nat}{o:Oper}{st:St}{d:Nat}{T:TT}
theorem lW (w:World) (t ty e:TypeId) (i:TypeInfo) (ht:P.underlying t=some (.slice e)) (hi:P.info? e=some i)
  (g base q y:Nat) (cur:Array Value) (J:w.heap[g]?=some (.cells cur e (0,0)))
  (a:Addr) (m c:Nat) (news:List Value) (hl:news.length=m*i.size) (A:∀j u,news[j]?=some u→w.cell? (a.add j)=some u) (h1:∀u∈news,u.oneCell'=true)
  (B:q+m≤y) (I:base+q*i.size+news.length≤cur.size):
  (Builtin.append_ #[t,t] ty #[.slice (some ⟨g,base,none⟩) q y,.slice (some a) m c]).run P w=
   .ok (.slice (some ⟨g,base,none⟩) (q+m) y) (w.setRow g (cur.toList.take (base+q*i.size)++news++cur.toList.drop (base+q*i.size+news.length)).toArray):=by
 have M:=run_firstCells_some (P:=P) w i.size m a m c news hl A;have E:=run_storeCells_at P g (base+q*i.size) e news 0 cur w J (by simpa using I) h1;simp only[Ct] at E;simp[Builtin.append_,Ak ht,sizeOf,typeInfo,hi,Builtin.lenOf,B,M,Addr.add_mid,E]
theorem mJ (w:World) (t ty e:TypeId) (i:TypeInfo) (ht:P.underlying t=some (.slice e)) (hi:P.info? e=some i) (s:Option Addr) (A:Option Addr) (q u c:Nat) (y:q≤u):
  (Builtin.append_ #[t,t] ty #[.slice s q u,.slice A 0 c]).run P w=.ok (.slice s q u) w:=by
 cases s<;>cases A<;>simp[Builtin.append_,Ak ht,sizeOf,typeInfo,hi,Builtin.lenOf,y,Builtin.firstCells,loadCells,loadCellsFrom,storeCells]
theorem fG {x y:Operand}{t:TypeId}{a:Act}{w w':World}{u v r:Value}(ho:o.op=.call { callee:=.builtin .append,args:= #[x,y],argTypes:= #[t,t] }) (hx:a.eval x=u) (hy:a.eval y=v) (q:(Builtin.append_ #[t,t] o.type #[u,v]).run P w=.ok r w'):
  (execOp a.eval o).run P w=.ok (.value r) w':=by
 simp only[execOp,ho,resolve,map_toArray,Ar,Ca,hx,hy,Aa,Ad,δ,invoke,builtin,q]
theorem aKz {y:V}{id te es fz:Nat}{elems elems':List (List C)}(hd:o.dst=some d) (J:d<n) (hlen:elems.length≤elems'.length) (u:Nat) {st':St}{G:Ctx}{S:Sto}{μ:Mu}{a:Act}{w:World}{K:Act→World→Prop}{Q:Exit→Act→World→Prop}
    (A:st'.h id=some (.arr te es elems fz)) (hs:Sim G n S μ st' a w) (U:∀S' μ' Y w',Sim G n S' μ' (Eff.apply ⟨some (d,some y),[(id,some (.arr te es elems' u))]⟩ st') Y w'→K Y w')
    (h:∃w' v,(execOp a.eval o).run P w=.ok (.value v) w'∧
      ((w'=w∧elems'=elems∧(u=fz∨u=1)∧aS S μ st'.h y v)∨
       (elems.length<elems'.length∧∃b M c,(w.heap.size≤b∨∃c',μ id=some (b,c'))∧WChg w w' b M∧mB S (upd μ id (some (b,c))) (upd st'.h id (some (.arr te es elems' u))) w' id (.arr te es elems' u)∧
         (∀o v,S.cell b o=some v→∃vs t fr,M=.cells vs t fr∧vs[o]?=some v)∧(∀m,S.mapo b=some m→w.heap.size≤b)∧aS S (upd μ id (some (b,c))) (upd st'.h id (some (.arr te es elems' u))) y v))):
    ∀ro,o.wpIn (Wd ro) 0 P a w K Q:=by
  obtain⟨w',v,hr,I⟩:=h;refine fun ro=>fS hr ?_
  rw[hd];rcases I with⟨rfl,rfl,hfz,hv⟩ | ⟨hlt,b,M,c,hb,hw,hO,hS,aa,hv⟩
  · have B:Evolve S μ st'.h S μ (upd st'.h id (some (.arr te es elems' u))):=⟨S.le_refl,fun j x hj=>by
      by_cases q:j=id
      · subst q
        rw[A] at hj;cases hj;exact⟨_,aN _ _ _,by simp[AObj.succ]⟩
      · exact⟨x,by rw[bJ _ _ _ q];exact hj,x.succ_refl rfl⟩⟩
    have hi:Inv G S μ (upd st'.h id (some (.arr te es elems' u))) w':=by
      obtain⟨h1,h2,h3,h4,h5,h6,h7,h8,h9⟩:=hs.inv;have hold:∀j x,upd st'.h id (some (.arr te es elems' u)) j=some x→∃x',st'.h j=some x':=fun j x hj=>by
        by_cases q:j=id
        · subst q;exact⟨_,A⟩
        · rw[bJ _ _ _ q] at hj;exact⟨_,hj⟩
      refine⟨h1,fun j x hj=>?_,fun i j x x' b c c' hi hj hm hm'=>?_,fun i x b c hi hm=>?_,h5,h6,h7,h8.trans B,h9⟩
      · by_cases q:j=id
        · subst q
          rw[aN] at hj;cases hj;have hO:=(h2 j _ A).evolve B rfl fun _ _ _=>⟨rfl,fun _=>rfl,rfl⟩
          rcases hfz with rfl | rfl
          · exact hO
          · obtain⟨g0,g1 | ⟨b,base,cap,vs,g1,g2,g3,g4,g5,g6,g7,g8,g9⟩⟩:=hO
            · exact⟨g0,.inl g1⟩
            · exact⟨g0,.inr ⟨b,base,cap,vs,g1,g2,g3,g4,g5,g6,(fun e=>by cases e),g8,(fun e=>by cases e)⟩⟩
        · rw[bJ _ _ _ q] at hj
          exact(h2 j x hj).evolve B rfl fun _ _ _=>⟨rfl,fun _=>rfl,rfl⟩
      · obtain⟨_,E⟩:=hold _ _ hi
        obtain⟨_,hj'⟩:=hold _ _ hj;exact h3 i j _ _ b c c' E hj' hm hm'
      · obtain⟨_,E⟩:=hold _ _ hi
        exact h4 i _ b c E hm
    have:=hs.put hi B J (x:=some y) (v:=v) (fun z O=>by cases O;exact aS.evolve B _ _ hv);refine U S μ _ _ ?_;unfold Eff.apply;rw[cE];exact this
  · have B:Evolve S μ st'.h S (upd μ id (some (b,c))) (upd st'.h id (some (.arr te es elems' u))):=⟨S.le_refl,fun j x hj=>by
      by_cases q:j=id
      · subst q
        rw[A] at hj;cases hj;exact⟨_,aN _ _ _,by simp only[AObj.succ,true_and];exact⟨hlen,fun e=>by omega⟩⟩
      · exact⟨x,by rw[bJ _ _ _ q];exact hj,x.succ_refl (bJ _ _ _ q)⟩⟩
    have hi:=hs.inv.chg (id:=id) (cap:=c) (ao:=.arr te es elems' u) hw (hb.imp (fun h=>h) fun⟨c',h⟩=>⟨_,c',A,h⟩) B hO hS aa;have:=hs.put hi B J (x:=some y) (v:=v) (fun z O=>by cases O;exact hv);refine U S (upd μ id (some (b,c))) _ _ ?_;unfold Eff.apply;rw[cE];exact this
theorem Step.grow {rd:Rd}{y:V}{id te es fz:Nat}{elems elems':List (List C)}(I:o.dst=some d) (A:d<n) (hid:st.h id=some (.arr te es elems fz)) (B:id∈rd.h) (hlen:elems.length≤elems'.length) (q:Nat)
    (h:∀st',gS rd st st'→st'.h id=some (.arr te es elems fz)→∀G S μ a w,Sim G n S μ st' a w→∃w' v,(execOp a.eval o).run P w=.ok (.value v) w'∧
      ((w'=w∧elems'=elems∧(q=fz∨q=1)∧aS S μ st'.h y v)∨
       (elems.length<elems'.length∧∃b E c,(w.heap.size≤b∨∃c',μ id=some (b,c'))∧WChg w w' b E∧mB S (upd μ id (some (b,c))) (upd st'.h id (some (.arr te es elems' q))) w' id (.arr te es elems' q)∧
         (∀o v,S.cell b o=some v→∃vs t J,E=.cells vs t J∧vs[o]?=some v)∧(∀m,S.mapo b=some m→w.heap.size≤b)∧aS S (upd μ id (some (b,c))) (upd st'.h id (some (.arr te es elems' q))) y v))):
    Step P n o st rd ⟨some (d,some y),[(id,some (.arr te es elems' q))]⟩:=by
  intro st' ha G S μ a w K Q hs M;have u:st'.h id=some (.arr te es elems fz):=by rw[ha.2 id B,hid]
  exact aKz I A hlen q u hs M (h st' ha u G S μ a w hs)
theorem aB1 {t e:TypeId}{i q:TI}{x y:Operand}{id sz fz:Nat}{elems rows:List (List C)}{vy:V}{ids:List Nat}{st':St}{G:Ctx}{S:Sto}{μ:Mu}{a:Act}{w:World}(hT:Tok P T) (ho:o.op=.call { callee:=.builtin .append,args:= #[x,y],argTypes:= #[t,t] })
    (hi:T[t]?=some (some i)) (hk:i.k=.sl e) (hei:T[e]?=some (some q)) (hes:Nat.ble 1 q.size=true) (heb:Nat.ble 1 q.bytes=true)
    (hsz:sz=elems.length) (hroom:(elems.length+rows.length)*q.bytes≤140737488355328) (M:st'.h id=some (.arr e q.size elems fz)) (hs:Sim G n S μ st' a w)
    (hvx:aS S μ st'.h (.one (.hs id 0 sz sz)) (a.eval x)) (hvy:aS S μ st'.h vy (a.eval y)) (hsrc:Src st q.size ids vy rows) (hsi:∀i∈ids,st'.h i=st.h i):
    ∃w' v,(execOp a.eval o).run P w=.ok (.value v) w'∧
      ((w'=w∧elems++rows=elems∧((if fz=0 then 0 else 1)=fz∨(if fz=0 then 0 else 1)=1)∧aS S μ st'.h (.one (.hs id 0 (elems.length+rows.length) (elems.length+rows.length))) v)∨
       (elems.length<(elems++rows).length∧∃b bo c,(w.heap.size≤b∨∃c',μ id=some (b,c'))∧WChg w w' b bo∧mB S (upd μ id (some (b,c))) (upd st'.h id (some (.arr e q.size (elems++rows) (if fz=0 then 0 else 1)))) w' id (.arr e q.size (elems++rows) (if fz=0 then 0 else 1))∧
         (∀o v,S.cell b o=some v→∃vs t fr,bo=.cells vs t fr∧vs[o]?=some v)∧(∀m,S.mapo b=some m→w.heap.size≤b)∧aS S (upd μ id (some (b,c))) (upd st'.h id (some (.arr e q.size (elems++rows) (if fz=0 then 0 else 1)))) (.one (.hs id 0 (elems.length+rows.length) (elems.length+rows.length))) v)):=by
  subst hsz;have hes':=Ap hes;have heb':=Ap heb;obtain⟨ad,c,news,E,B,hrl,hnone,hcell⟩:=hsrc.rel hs hsi hvy;have I:news.length=rows.length*q.size:=by rw[B.length,jH hrl]
  obtain⟨inf,dd,z,g1,g2,g3,g4,g5,g6,g7,g8⟩:=(hT.get hei).ex;have hu:=(hT.get hi).slice hk;have hzs:z.cells.size=q.size:=by
    have h1:=(iY (S:=S) g7).length;rw[(hT.get hei).len] at h1;simpa using h1
  simp only[aS,aZ] at hvx;obtain⟨_,hv | ⟨te',es',elems',fz',h1,h2,h3⟩⟩:=hvx
  · rw[M] at hv;cases hv
  rw[M] at h1;cases h1;obtain⟨h4,hcase⟩:=h3 rfl;have hbig:elems.length+rows.length≤140737488355328:=by
    have:(elems.length+rows.length)*1≤(elems.length+rows.length)*q.bytes:=mul_le_mul_left _ heb';omega
  have hone:∀u∈news,u.oneCell'=true:=(B.toR (μ:=μ) (H:=st'.h)).one;have hcap:∀old,elems.length+rows.length≤grownCap w (elems.length+rows.length) old e∧grownCap w (elems.length+rows.length) old e≤maxLen:=fun old=>
    ⟨grownCap_ge _ _ _ _,grownCap_le_maxLen _ _ _ _ (by unfold maxLen;omega)⟩
  have J:∀(O:List Value) (old:Nat),bZ S elems.flatten O→0<rows.length→∀g0:(∀r∈elems,r.length=q.size),
      mB S (upd μ id (some (w.heap.size,0,grownCap w (elems.length+rows.length) old e))) (upd st'.h id (some (.arr e q.size (elems++rows) (if fz=0 then 0 else 1))))
        (w.drew.alloc (.cells (O.toArray++news.toArray++Builtin.zeroCells z.cells (grownCap w (elems.length+rows.length) old e-(elems.length+rows.length))) e)) id (.arr e q.size (elems++rows) (if fz=0 then 0 else 1)):=by
    intro O old hol hpos g0;obtain⟨hc1,hc2⟩:=hcap old;have U:=hol.length;rw[jH g0] at U;refine⟨?_,.inr ⟨w.heap.size,0,grownCap w (elems.length+rows.length) old e,(O.toArray++news.toArray++Builtin.zeroCells z.cells (grownCap w (elems.length+rows.length) old e-(elems.length+rows.length))).toList,aN _ _ _,B2 w.drew _,?_,by simpa using hc1,⟨hc2,rE hs.inv⟩,?_,fun _ o _=>fU hs.inv o,fun o _=>fU hs.inv o,fun e=>by split at e<;>cases e⟩⟩
    · intro r A
      rcases A4.1 A with A | A
      · exact g0 r A
      · exact hrl r A
    · simp only[Array.toList_append,ψ,A6,size_zeroCells,hzs]
      simp only[U,I,Bk,←Be];exact A2 _ (by omega)
    · simp only[Array.toList_append,B8,ψ,Cy]
      rw[Cc (by simp[U,I,Be]),Au (by simp[U,I,Be])];exact hol.append B
  have Y:(elems++rows).length=elems.length+rows.length:=by simp
  by_cases hm:rows.length=0
  · --nothing is appended
    have hr0:rows=[]:=Aw hm;have hfzz:(if fz=0 then 0 else 1)=fz∨(if fz=0 then 0 else 1)=1:=by
      by_cases h:fz=0
      · left;rw[ζ h,h]
      · right;rw[η h]
    rcases hcase with⟨h5,h6,h7⟩ | ⟨b,base,cap,h5,h6⟩
    · refine⟨w,.slice none 0 0,fG ho h7 E (by rw[hm];exact mJ w t o.type e inf hu g1 none ad 0 0 c (le_refl _)),.inl ⟨rfl,by rw[hr0,Ay],hfzz,?_⟩⟩
      simp only[aS,aZ];exact⟨⟨_,_,_,rfl⟩,.inr ⟨e,q.size,elems,fz,M,by omega,fun _=>⟨by omega,.inl ⟨h5,h6,(by first | rfl | trivial)⟩⟩⟩⟩
    · obtain⟨q0,vs,q1,q2,q3,q4,q5,q6,q7,q8⟩:=(hs.inv.obj id _ M).arr h5
      refine⟨w,_,fG ho h6 E (by rw[hm];exact mJ w t o.type e inf hu g1 _ ad elems.length _ c (by omega)),.inl ⟨rfl,by rw[hr0,Ay],hfzz,?_⟩⟩;simp only[aS,aZ];exact⟨⟨_,_,_,rfl⟩,.inr ⟨e,q.size,elems,fz,M,by omega,fun _=>⟨by omega,.inr ⟨b,base,cap,h5,by rw[hm,Ct]⟩⟩⟩⟩
  · cases ad with
    | none=>exact absurd (by rw[hnone rfl];rfl) hm
    | some ad=>
      have hc:=hcell ad rfl;rcases hcase with⟨h5,h6,h7⟩ | ⟨b,base,cap,h5,h6⟩
      · --the first elements
        subst h6;simp only[length_nil,Bk] at hroom hbig J hcap;have A:=run_append_nil (P:=P) w t o.type e inf z hu g1 g6 ad rows.length c news (by rw[I,g3]) hc (by omega) (by omega) (by rw[g4];omega);refine⟨_,_,fG ho h7 E A,.inr ⟨by simp;omega,w.heap.size,_,(0,grownCap w rows.length 0 e),.inl (le_refl _),WChg.alloc_drew w _,?_,(fun o v e=>by rw[fU hs.inv] at e;cases e),fun m e=>le_refl _,?_⟩⟩
        · have:=J [] 0 (by simp[bZ]) (by omega) (by simp)
          simpa using this
        · simp only[aS,aZ]
          exact⟨⟨_,_,_,rfl⟩,.inr ⟨e,q.size,_,_,aN _ _ _,by simp,fun _=>⟨by simp,.inr ⟨w.heap.size,0,_,aN _ _ _,by simp⟩⟩⟩⟩
      · obtain⟨q0,vs,q1,q2,q3,q4,q5,q6,q7,q8⟩:=(hs.inv.obj id _ M).arr h5
        have hce:elems.length*q.size≤cap*q.size:=A2 _ q3;simp only[sub_zero,zero_mul,Ct] at h6;by_cases hroom':elems.length+rows.length≤cap
        · --there is room
          have hce2:(elems.length+rows.length)*q.size≤cap*q.size:=A2 _ hroom';rw[Be] at hce2;have A:=lW (P:=P) w t o.type e inf hu g1 b base elems.length cap ⟨vs⟩ q1 ad rows.length c news (by rw[I,g3]) hc hone hroom' (by rw[g3,I];simp only[size_toArray];omega);rw[g3] at A;have hW:=WChg.setRow w b ⟨vs⟩ ⟨vs.take (base+elems.length*q.size)++news++vs.drop (base+elems.length*q.size+news.length)⟩ e (0,0) q1;refine⟨_,_,fG ho h6 E A,.inr ⟨by simp;omega,b,_,(base,cap),.inr ⟨_,h5⟩,hW,⟨?_,.inr ⟨b,base,cap,_,aN _ _ _,hW.new,?_,by rw[Y];omega,q4,?_,?_,?_,fun e=>by split at e<;>cases e⟩⟩,?_,fun m e=>gL q4.2 m e,?_⟩⟩
          · intro r A
            rcases A4.1 A with A | A
            · exact q0 r A
            · exact hrl r A
          · simp only[ψ,Ai,Bi]
            omega
          · rw[Y,Cy]
            have e1:((vs.take (base+elems.length*q.size)++news++vs.drop (base+elems.length*q.size+news.length)).drop base).take ((elems.length+rows.length)*q.size)=(vs.drop base).take (elems.length*q.size)++news:=by
              rw[Aj,Bp (by simp;omega),←Aj,Cc (by simp[Be];omega)];rw[Au (by simp[Be];omega),drop_take];rw[show base+elems.length*q.size-base=elems.length*q.size by omega]
            rw[e1];exact q5.append B
          · intro e o ho
            exact q6 (Classical.byContradiction fun hne=>by rw[η hne] at e;cases e) o ho
          · intro o ho
            rw[Y,Be] at ho;exact q7 o (by omega)
          · intro o v e
            by_cases hlt:o<base+elems.length*q.size
            · obtain⟨vs0,t0,fr0,p1,p2⟩:=hs.inv.holds.1 b o v e
              rw[q1] at p1;cases p1;refine⟨_,_,_,rfl,?_⟩;simp only[Cr] at p2 ⊢;rw[Aj,Bc (by simp;omega),An,ζ (by omega)];exact p2
            · rw[q7 o (by omega)] at e;cases e
          · simp only[aS,aZ]
            exact⟨⟨_,_,_,rfl⟩,.inr ⟨e,q.size,_,_,aN _ _ _,by simp,fun _=>⟨by simp,.inr ⟨b,base,cap,aN _ _ _,by simp⟩⟩⟩⟩
        · --into a new block
          have A:=run_append_grow (P:=P) w t o.type e inf z hu g1 g6 ⟨b,base,none⟩ elems.length cap ((vs.drop base).take (elems.length*q.size)) (by rw[g3];simp;omega) (by
              intro j v hj;rw[Addr.add_mid,cell_of_row w b _ ⟨vs⟩ e (0,0) q1];rw[An] at hj;split at hj
              · rw[Ao] at hj
                simpa using hj
              · cases hj) ad rows.length c news (by rw[I,g3]) hc (by omega) (by omega) (by rw[g4];exact growslice_fits (by omega) hroom)
          have hq5:bZ S elems.flatten ((vs.drop base).take (elems.length*q.size)):=q5;refine⟨_,_,fG ho h6 E A,.inr ⟨by simp;omega,w.heap.size,_,(0,grownCap w (elems.length+rows.length) cap e),.inl (le_refl _),WChg.alloc_drew w _,?_,(fun o v e=>by rw[fU hs.inv] at e;cases e),fun m e=>le_refl _,?_⟩⟩
          · have:=J _ cap hq5 (by omega) q0
            simpa using this
          · simp only[aS,aZ]
            exact⟨⟨_,_,_,rfl⟩,.inr ⟨e,q.size,_,_,aN _ _ _,by simp,fun _=>⟨by simp,.inr ⟨w.heap.size,0,_,aN _ _ _,by simp⟩⟩⟩⟩
theorem aEf {t e:TypeId}{i q:TI}{x y:Operand}{id sz fz:Nat}{elems rows:List (List C)}{B:V}{ids:List Nat}(hT:Tok P T) (ho:o.op=.call { callee:=.builtin .append,args:= #[x,y],argTypes:= #[t,t] }) (hd:o.dst=some d) (E:d<n)
  (hi:T[t]?=some (some i)) (hk:i.k=.sl e) (I:T[e]?=some (some q)) (J:Nat.ble 1 q.size=true) (M:Nat.ble 1 q.bytes=true)
  (hx:opv st x=some (.one (.hs id 0 sz sz))) (hh:st.h id=some (.arr e q.size elems fz)) (hsz:sz=elems.length) (hy:opv st y=some B) (A:Src st q.size ids B rows)
  (u:(elems.length+rows.length)*q.bytes≤140737488355328):
  Step P n o st ⟨opr x++opr y,id::ids⟩ ⟨some (d,some (.one (.hs id 0 (elems.length+rows.length) (elems.length+rows.length)))),[(id,some (.arr e q.size (elems++rows) (if fz=0 then 0 else 1)))]⟩:=by
 refine Step.grow hd E hh (by simp) (by simp) _ fun st' ha O G S μ a w hs=>?_
 have U:=aO hs hx fun t ht=>ha.1 t (by simp[ht])
 have Y:=aO hs hy fun t ht=>ha.1 t (by simp[ht])
 exact aB1 hT ho hi hk I J M hsz u O hs U Y A fun i h=>ha.2 i (by simp[h])
end
mutual
def R.ren (σ:Nat→Nat):R→R
 | .c x=>.c x
 | .hs id off len sz=>.hs (σ id) off len sz
 | .tl id off len sz=>.tl (σ id) off len sz
 | .vp id off=>.vp (σ id) off
 | .ep id i fo sz=>.ep (σ id) i fo sz
 | .mr id=>.mr (σ id)
 | .clo f caps=>.clo f (R.renL σ caps)
 | .mth f x=>.mth f (x.ren σ)
 | .yl id=>.yl (σ id)
 | .ra id off len sz=>.ra (σ id) off len sz
 | .rp id i fo sz=>.rp (σ id) i fo sz
 | .ras n es l=>.ras n es (R.renL σ l)
 | .pas l=>.pas (R.renL σ l)
def R.renL (σ:Nat→Nat):List R→List R
 | []=>[]
 | r::rs=>r.ren σ::R.renL σ rs
end
mutual
def V.ren (σ:Nat→Nat):V→V
 | .one r=>.one (r.ren σ)
 | .pa l=>.pa l
 | .ma l=>.ma (R.renL σ l)
 | .tup l=>.tup (V.renL σ l)
def V.renL (σ:Nat→Nat):List V→List V
 | []=>[]
 | r::rs=>r.ren σ::V.renL σ rs
end
mutual
def R.refs:R→List Nat
 | .c _=>[]
 | .hs id _ _ _=>[id]
 | .tl id _ _ _=>[id]
 | .vp id _=>[id]
 | .ep id _ _ _=>[id]
 | .mr id=>[id]
 | .clo _ caps=>R.refsL caps
 | .mth _ x=>x.refs
 | .yl id=>[id]
 | .ra id _ _ _=>[id]
 | .rp id _ _ _=>[id]
 | .ras _ _ l=>R.refsL l
 | .pas l=>R.refsL l
def R.refsL:List R→List Nat
 | []=>[]
 | r::rs=>r.refs++R.refsL rs
end
mutual
def V.refs:V→List Nat
 | .one r=>r.refs
 | .pa _=>[]
 | .ma l=>R.refsL l
 | .tup l=>V.refsL l
def V.refsL:List V→List Nat
 | []=>[]
 | r::rs=>r.refs++V.refsL rs
end
def aJl:List (Nat×V)→List Nat
 | []=>[]
 | (_,v)::l=>v.refs++aJl l
def aOh:List (List R)→List Nat
 | []=>[]
 | r::l=>R.refsL r++aOh l
def aWp (σ:Nat→Nat):List (Nat×V)→List (Nat×V)
 | []=>[]
 | (t,v)::l=>(t,v.ren σ)::aWp σ l
def aJj (σ:Nat→Nat):List (List R)→List (List R)
 | []=>[]
 | r::l=>R.renL σ r::aJj σ l
theorem tD:∀{l:List (Nat×V)}{t:Nat}{v:V},(t,v)∈l→∀i∈v.refs,i∈aJl l
 | (k,u)::l,t,v,h,i,hi=>by
  simp only[aJl,A4];rcases Aq.1 h with h | h
  ·cases h;exact .inl hi
  ·exact .inr (tD h i hi)
theorem aEe {σ:Nat→Nat}:∀{l:List (Nat×V)}{t:Nat}{v:V},(t,v)∈l→(t,v.ren σ)∈aWp σ l
 | (k,u)::l,t,v,h=>by
  simp only[aWp];rcases Aq.1 h with h | h
  ·cases h;simp
  ·exact Bf _ (aEe h)
theorem R.renL_length {σ:Nat→Nat}:∀{l:List R},(R.renL σ l).length=l.length
 | []=>rfl
 | _::l=>by simp[R.renL,R.renL_length (l:=l)]
theorem fA {σ:Nat→Nat}:∀{l:List (List R)},(aJj σ l).length=l.length
 | []=>rfl
 | _::l=>by simp[aJj,fA (l:=l)]
theorem R.renL_append {σ:Nat→Nat}:∀{l m:List R},R.renL σ (l++m)=R.renL σ l++R.renL σ m
 | [],_=>rfl
 | _::l,m=>by simp[R.renL,R.renL_append (l:=l)]
theorem R.refsL_append:∀{l m:List R},R.refsL (l++m)=R.refsL l++R.refsL m
 | [],_=>rfl
 | _::l,m=>by simp[R.refsL,R.refsL_append (l:=l)]
theorem zI {σ:Nat→Nat}:∀{l:List (List R)},(aJj σ l).flatten=R.renL σ l.flatten
 | []=>rfl
 | _::l=>by simp[aJj,zI (l:=l),R.renL_append]
theorem vC:∀{l:List (List R)},R.refsL l.flatten=aOh l
 | []=>rfl
 | _::l=>by simp[aOh,vC (l:=l),R.refsL_append]
theorem mM {σ:Nat→Nat}{es:Nat}:∀{l:List (List R)},(∀r∈aJj σ l,r.length=es)→∀r∈l,r.length=es
 | [],_,r,h=>by simp at h
 | x::l,k,r,h=>by
  rcases Aq.1 h with rfl | h
  ·rw[←R.renL_length (σ:=σ)];exact k _ (by simp[aJj])
  ·exact mM (σ:=σ) (l:=l) (fun r q=>k r (by simp[aJj,q])) r h
def AObj.refs:AObj→List Nat
 | .var _ cells=>R.refsL cells
 | .lp _ _ _ e=>aJl e
 | .rarr _ _ elems=>aOh elems
 | .tok r _=>r.refs
 | _=>[]
inductive Ole (σ:Nat→Nat):AObj→AObj→Prop
 | var {t cells cells'}:cells=R.renL σ cells'→Ole σ (.var t cells) (.var t cells')
 | arr {te es elems fz}:Ole σ (.arr te es elems fz) (.arr te es elems fz)
 | arr1 {te es elems fz}:Ole σ (.arr te es elems fz) (.arr te es elems 1)
 | map {agg ents}:Ole σ (.map agg ents) (.map agg ents)
 | dead:Ole σ .dead .dead
 | lp {st j i e e'}:e=aWp σ e'→Ole σ (.lp st j i e) (.lp st j i e')
 | dfr:Ole σ .dfr .dfr
 | rarr {te es elems elems'}:elems=aJj σ elems'→Ole σ (.rarr te es elems) (.rarr te es elems')
 | tok {r r' k}:r=r'.ren σ→Ole σ (.tok r k) (.tok r' k)
theorem Ole.succ {σ:Nat→Nat}{o o':AObj}(h:Ole σ o o'):o.succ True o':=by
 cases h
 case rarr e=>subst e;simp[AObj.succ,fA]
 all_goals simp[AObj.succ]
section
variable {S:Sto}{μ:Mu}{H H':cF}{σ:Nat→Nat}
def Good (H H':cF) (σ:Nat→Nat) (id:Nat):Prop:=∃o o',H (σ id)=some o∧H' id=some o'∧Ole σ o o'
mutual
theorem aZ.ren:∀(r:R) (v:Value),(∀id∈r.refs,Good H H' σ id)→aZ S μ H (r.ren σ) v→aZ S (fun i=>μ (σ i)) H' r v
 | .c x,v,_,k=>by simpa only[aZ,R.ren] using k
 | .hs id off len sz,v,h,k=>by
  obtain⟨o,o',h1,h2,q⟩:=h id (by simp[R.refs]);simp only[aZ,R.ren] at k ⊢;refine⟨k.1,?_⟩;rcases k.2 with k | ⟨te,es,elems,fz,g1,g2,g3⟩
  ·rw[h1] at k;cases k;cases q;exact .inl h2
  ·rw[h1] at g1;cases g1;cases q
   ·exact .inr ⟨te,es,elems,_,h2,g2,g3⟩
   ·exact .inr ⟨te,es,elems,_,h2,g2,g3⟩
 | .tl id off len sz,v,h,k=>by
  obtain⟨o,o',h1,h2,q⟩:=h id (by simp[R.refs]);simp only[aZ,R.ren] at k ⊢;refine⟨k.1,?_⟩;rcases k.2 with k | ⟨te,es,elems,fz,g1,g2,g3⟩
  ·rw[h1] at k;cases k;cases q;exact .inl h2
  ·rw[h1] at g1;cases g1;cases q
   ·exact .inr ⟨te,es,elems,_,h2,g2,g3⟩
   ·exact .inr ⟨te,es,elems,_,h2,g2,g3⟩
 | .vp id off,v,h,k=>by
  obtain⟨o,o',h1,h2,q⟩:=h id (by simp[R.refs]);simp only[aZ,R.ren] at k ⊢;obtain⟨t,cells,b,c,g1,g2,g3⟩:=k;rw[h1] at g1;cases g1;cases q;exact⟨_,_,b,c,h2,g2,g3⟩
 | .ep id i fo sz,v,h,k=>by
  obtain⟨o,o',h1,h2,q⟩:=h id (by simp[R.refs]);simp only[aZ,R.ren] at k ⊢;refine⟨k.1,?_⟩;rcases k.2 with k | ⟨te,es,elems,fz,g1,g2,g3⟩
  ·rw[h1] at k;cases k;cases q;exact .inl h2
  ·rw[h1] at g1;cases g1;cases q
   ·exact .inr ⟨te,es,elems,_,h2,g2,g3⟩
   ·exact .inr ⟨te,es,elems,_,h2,g2,g3⟩
 | .mr id,v,h,k=>by
  obtain⟨o,o',h1,h2,q⟩:=h id (by simp[R.refs]);simp only[aZ,R.ren] at k ⊢;obtain⟨agg,ents,b,c,g1,g2,g3⟩:=k;rw[h1] at g1;cases g1;cases q;exact⟨_,_,b,c,h2,g2,g3⟩
 | .clo f caps,v,h,k=>by
  simp only[aZ,R.ren] at k ⊢;obtain⟨vs,g1,g2⟩:=k;exact⟨vs,g1,aT.ren caps vs (by simpa only[R.refs] using h) g2⟩
 | .mth f x,v,h,k=>by
  simp only[aZ,R.ren] at k ⊢;obtain⟨u,g1,g2⟩:=k;exact⟨u,g1,aZ.ren x u (by simpa only[R.refs] using h) g2⟩
 | .rp id i fo sz,v,h,k=>by
  obtain⟨o,o',h1,h2,q⟩:=h id (by simp[R.refs]);simp only[aZ,R.ren] at k ⊢;refine⟨k.1,?_⟩;rcases k.2 with k | ⟨te,es,elems,g1,g2,g3⟩
  ·rw[h1] at k;cases k;cases q;exact .inl h2
  ·rw[h1] at g1;cases g1;cases q;rename_i elems' e;subst e;rw[fA] at g2 g3;exact .inr ⟨te,es,elems',h2,g2,g3⟩
 | .yl id,v,h,k=>by
  obtain⟨o,o',h1,h2,q⟩:=h id (by simp[R.refs]);simp only[aZ,R.ren] at k ⊢;obtain⟨st,j,i,e,b,c,g1,g2,g3⟩:=k;rw[h1] at g1;cases g1;cases q;exact⟨_,_,_,_,b,c,h2,g2,g3⟩
 | .ra id off len sz,v,h,k=>by
  obtain⟨o,o',h1,h2,q⟩:=h id (by simp[R.refs]);simp only[aZ,R.ren] at k ⊢;refine⟨k.1,?_⟩;rcases k.2 with k | ⟨te,es,elems,g1,g2,g3⟩
  ·rw[h1] at k;cases k;cases q;exact .inl h2
  ·rw[h1] at g1;cases g1;cases q;rename_i elems' e;subst e;rw[fA] at g2 g3;refine .inr ⟨te,es,elems',h2,g2,fun e=>?_⟩;obtain⟨E,y⟩:=g3 e;refine⟨E,?_⟩;rcases y with⟨y,I,J⟩ | y
   ·exact .inl ⟨y,Aw (by rw[←fA (σ:=σ),I];rfl),J⟩
   ·exact .inr y
 | .ras n es l,v,h,k=>by
  simp only[aZ,R.ren] at k ⊢;obtain⟨a,cap,h1,h2,q,M,O,U,b,o,Y,vs,A,B⟩:=k;exact⟨a,cap,h1,by rw[h2,R.renL_length],q,M,O,U,b,o,Y,vs,aT.ren l vs (by simpa only[R.refs] using h) A,B⟩
 | .pas l,v,h,k=>by
  simp only[aZ,R.ren] at k ⊢;obtain⟨b,o,h1,vs,A,B⟩:=k;exact⟨b,o,h1,vs,aT.ren l vs (by simpa only[R.refs] using h) A,B⟩
theorem aT.ren:∀(r:List R) (v:List Value),(∀id∈R.refsL r,Good H H' σ id)→aT S μ H (R.renL σ r) v→aT S (fun i=>μ (σ i)) H' r v
 | [],_,_,k=>by simpa only[aT,R.renL] using k
 | r::rs,vs,h,k=>by
  simp only[aT,R.renL] at k ⊢;obtain⟨v,vs',h1,h2,q⟩:=k;exact⟨v,vs',h1,aZ.ren r v (fun i hi=>h i (by simp[R.refsL,hi])) h2,aT.ren rs vs' (fun i hi=>h i (by simp[R.refsL,hi])) q⟩
end
mutual
theorem aS.ren:∀(r:V) (v:Value),(∀id∈r.refs,Good H H' σ id)→aS S μ H (r.ren σ) v→aS S (fun i=>μ (σ i)) H' r v
 | .one r,v,h,k=>by simp only[aS,V.ren] at k ⊢;exact aZ.ren r v (by simpa only[V.refs] using h) k
 | .pa l,v,_,k=>by simpa only[aS,V.ren] using k
 | .ma l,v,h,k=>by
  simp only[aS,V.ren] at k ⊢;obtain⟨vs,h1,h2⟩:=k;exact⟨vs,h1,aT.ren l vs (by simpa only[V.refs] using h) h2⟩
 | .tup l,v,h,k=>by
  simp only[aS,V.ren] at k ⊢;obtain⟨vs,h1,h2⟩:=k;exact⟨vs,h1,b7.ren l vs (by simpa only[V.refs] using h) h2⟩
theorem b7.ren:∀(r:List V) (v:List Value),(∀id∈V.refsL r,Good H H' σ id)→b7 S μ H (V.renL σ r) v→b7 S (fun i=>μ (σ i)) H' r v
 | [],_,_,k=>by simpa only[b7,V.renL] using k
 | r::rs,vs,h,k=>by
  simp only[b7,V.renL] at k ⊢;obtain⟨v,vs',h1,h2,q⟩:=k;exact⟨v,vs',h1,aS.ren r v (fun i hi=>h i (by simp[V.refsL,hi])) h2,b7.ren rs vs' (fun i hi=>h i (by simp[V.refsL,hi])) q⟩
end
end
theorem mB.ren {S:Sto}{μ:Mu}{H H':cF}{σ:Nat→Nat}{w:World}{id:Nat}{o o':AObj}(h:mB S μ H w (σ id) o) (hl:Ole σ o o') (q:∀i∈o'.refs,Good H H' σ i):mB S (fun i=>μ (σ i)) H' w id o':=by
 cases hl with
 | @var t cells cells' hc=>
  subst hc;obtain⟨b,vs,h1,h2,u,y⟩:=h;exact⟨b,vs,h1,h2,aT.ren _ _ q u,y⟩
 | arr=>exact h
 | arr1=>
  obtain⟨g0,g1 | ⟨b,base,cap,vs,g1,g2,g3,g4,g5,g6,g7,g8,g9⟩⟩:=h
  ·exact⟨g0,.inl g1⟩
  ·exact⟨g0,.inr ⟨b,base,cap,vs,g1,g2,g3,g4,g5,g6,(fun e=>by cases e),g8,(fun e=>by cases e)⟩⟩
 | map=>exact h
 | dead=>exact h
 | lp he=>
  subst he;obtain⟨b,r,fn,tmps,h1,h2,u,y,A⟩:=h;exact⟨b,r,fn,tmps,h1,h2,u,fun t v ht=>aS.ren _ _ (fun i hi=>q i (tD ht i hi)) (y t _ (aEe ht)),A⟩
 | dfr=>exact h
 | rarr he=>
  subst he;obtain⟨g0,g1 | ⟨b,base,cap,vs,g1,g2,g3,g4,g5,g6,g7⟩⟩:=h
  ·exact⟨mM g0,.inl ⟨g1.1,Aw (by rw[←fA (σ:=σ),g1.2];rfl)⟩⟩
  ·rw[fA] at g4 g6;rw[zI] at g6;exact⟨mM g0,.inr ⟨b,base,cap,vs,g1,g2,g3,g4,g5,aT.ren _ _ (fun i hi=>q i (by rw[vC] at hi;exact hi)) g6,g7⟩⟩
 | tok he=>
  subst he;obtain⟨g1,b,g2,g3⟩:=h;exact⟨g1,b,aZ.ren _ _ q g2,g3⟩
def Ctx.keeps (G:Ctx) (kf:List Nat):Prop:=(∀id o,G.h0 id=some o→id∈kf)∧(997∈kf→G.h0 997=none→G.S0.noTop)
def Sub (kf:List Nat) (st2 st1:St):Prop:=∀G n S μ a w,G.keeps kf→Sim G n S μ st1 a w→∃S' μ',Sim G n S' μ' st2 a w
theorem Sub.refl (kf:List Nat) (st:St):Sub kf st st:=fun _ _ S μ _ _ _ h=>⟨S,μ,h⟩
theorem Sub.trans {kf:List Nat}{a b c:St}(h:Sub kf a b) (k:Sub kf b c):Sub kf a c:=fun G n S μ x w q hs=>by
 obtain⟨S',μ',h1⟩:=k G n S μ x w q hs;exact h G n S' μ' x w q h1
def mk (el:List (Nat×V)) (hl:List (Nat×AObj)):St:=⟨look el,look hl,[]⟩
def mkd (el:List (Nat×V)) (hl:List (Nat×AObj)) (dl:List Nat):St:=⟨look el,look hl,dl⟩
theorem bE {α:Type}:∀{l:List (Nat×α)}{i:Nat}{x:α},look l i=some x→(i,x)∈l
 | [],_,_,h=>by simp[look] at h
 | (k,y)::l,i,x,h=>by
  simp only[look] at h;split at h
  ·rename_i hb;cases h;simp[τ hb]
  ·simp[bE h]
def iM {α:Type}(p:α→Prop):List α→Prop
 | []=>True
 | x::l=>p x∧iM p l
theorem iM.mem {α:Type}{p:α→Prop}:∀{l:List α},iM p l→∀x∈l,p x
 | [],_,x,h=>by simp at h
 | y::l,h,x,hx=>by
  rcases Aq.1 hx with rfl | hx
  ·exact h.1
  ·exact iM.mem h.2 x hx
def subset (a b:List Nat):Bool:=a.all fun x=>b.contains x
def distinct:List Nat→Bool
 | []=>true
 | x::l=>!(l.contains x)&&distinct l
def iN:List (Nat×AObj)→List Nat
 | []=>[]
 | (_,o)::l=>o.refs++iN l
def a03 (kf:List Nat) (σ:Nat→Nat) (el:List (Nat×V)) (hl:List (Nat×AObj)):Bool:=subset (aJl el) (hl.map (·.1))&&subset (iN hl) (hl.map (·.1))&&distinct (hl.map fun p=>σ p.1)&&subset kf (hl.map (·.1))&&kf.all fun i=>Nat.beq (σ i) i
theorem bY {a b:List Nat}(h:subset a b=true):∀x∈a,x∈b:=fun x hx=>by simpa using (A5.1 h) x hx
theorem pN:∀{l:List Nat},distinct l=true→l.Nodup
 | [],_=>List.nodup_nil
 | x::l,h=>by
  simp only[distinct,π] at h;refine nodup_cons.2 ⟨?_,pN h.2⟩;simpa using h.1
theorem mN:∀{l:List (Nat×AObj)}{t:Nat}{v:AObj},(t,v)∈l→∀i∈v.refs,i∈iN l
 | (k,u)::l,t,v,h,i,hi=>by
  simp only[iN,A4];rcases Aq.1 h with h | h
  ·cases h;exact .inl hi
  ·exact .inr (mN h i hi)
theorem zW {α β:Type}{f:α→β}:∀{l:List α},(l.map f).Nodup→∀x∈l,∀y∈l,f x=f y→x=y
 | [],_,x,h,_,_,_=>by simp at h
 | z::l,hn,x,hx,y,hy,e=>by
  simp only[Ar,nodup_cons] at hn;rcases Aq.1 hx with hx | hx
  ·rcases Aq.1 hy with hy | hy
   ·rw[hx,hy]
   ·exact absurd (C7.2 ⟨y,hy,by rw[←e,hx]⟩) hn.1
  ·rcases Aq.1 hy with hy | hy
   ·exact absurd (C7.2 ⟨x,hx,by rw[e,hy]⟩) hn.1
   ·exact zW hn.2 x hx y hy e
def eqL:List Nat→List Nat→Bool
 | [],[]=>true
 | a::l,b::m=>Nat.beq a b&&eqL l m
 | _,_=>false
theorem aRz:∀{l m:List Nat},eqL l m=true→l=m
 | [],[],_=>rfl
 | a::l,b::m,h=>by
  simp only[eqL,π] at h;rw[τ h.1,aRz h.2]
 | [],_::_,h=>by simp[eqL] at h
 | _::_,[],h=>by simp[eqL] at h
theorem Sub.listD {kf:List Nat}{u:St}{A:List (Nat×V)}{hl:List (Nat×AObj)}{dl:List Nat}(σ:Nat→Nat) (he:iM (fun p=>u.e p.1=some (p.2.ren σ)) A) (hh:iM (fun p=>∃o,u.h (σ p.1)=some o∧Ole σ o p.2) hl) (hok:(a03 kf σ A hl&&(eqL (dl.map σ) u.d&&subset dl (hl.map (·.1))))=true):Sub kf (mkd A hl dl) u:=by
 intro G n S μ a w hg hs;rw[π,π] at hok;obtain⟨hok,y,O⟩:=hok;have y:=aRz y;simp only[a03,π] at hok;obtain⟨⟨⟨⟨h1,h2⟩,h3⟩,M⟩,h5⟩:=hok;have q:∀i∈hl.map (·.1),Good u.h (look hl) σ i:=by
  intro i hi;obtain⟨o',J⟩:=cW hi;obtain⟨o,g1,g2⟩:=hh.mem _ (bE J);exact⟨o,o',g1,J,g2⟩
 have U:=pN h3;refine⟨S,fun i=>μ (σ i),⟨⟨hs.inv.holds,fun id o ho=>?_,fun i j o o' b c c' hi hj hm Y=>?_,fun i o b c hi hm=>?_,hs.inv.frame,hs.inv.sle,hs.inv.sto,⟨hs.inv.evo.le,fun id o ho=>?_⟩,hs.inv.fre⟩,hs.size,?_,fun t v ht=>?_⟩⟩
 ·obtain⟨B,g1,g2⟩:=hh.mem _ (bE ho);exact(hs.inv.obj _ _ g1).ren g2 fun i hi=>q i (bY h2 i (mN (bE ho) i hi))
 ·obtain⟨B,g1,g2⟩:=hh.mem _ (bE hi);obtain⟨E,g3,g4⟩:=hh.mem _ (bE hj);have I:=hs.inv.inj _ _ _ _ b c c' g1 g3 hm Y;have:=zW U _ (bE hi) _ (bE hj) I;exact(congrArg Prod.fst this)
 ·obtain⟨B,g1,g2⟩:=hh.mem _ (bE hi);exact hs.inv.own _ _ b c g1 hm
 ·obtain⟨o',g1,g2⟩:=hs.inv.evo.obj id o ho;have hk:=hg.1 id o ho;have I:σ id=id:=τ ((A5.1 h5) id hk);obtain⟨B,E,g3,g4,g5⟩:=q id (bY M id hk);rw[I,g1] at g3;cases g3;refine⟨E,g4,?_⟩;show o.succ (μ (σ id)=G.μ0 id) E;rw[I];exact AObj.succ_trans g2 g5.succ fun e _=>e
 ·refine Marks.ren (H:=u.h) (μ:=μ) σ (by show Marks _ μ u.h (dl.map σ) a.defers;rw[y];exact hs.defers) fun id hid hdf=>⟨rfl,?_⟩
  obtain⟨B,E,g3,g4,g5⟩:=q id (bY O id hid);rw[hdf] at g3;cases g3;cases g5;exact g4
 ·have hm:=bE (show look A t=some v from ht);have M:=he.mem _ hm;exact aS.ren v _ (fun i hi=>q i (bY h1 i (tD hm i hi))) (hs.env t _ M)
theorem Sub.list {kf:List Nat}{q:St}{u:List (Nat×V)}{hl:List (Nat×AObj)}(σ:Nat→Nat) (he:iM (fun p=>q.e p.1=some (p.2.ren σ)) u) (hh:iM (fun p=>∃o,q.h (σ p.1)=some o∧Ole σ o p.2) hl) (hok:(a03 kf σ u hl&&eqL [] q.d)=true):Sub kf (mk u hl) q:=
 Sub.listD (dl:=[]) σ he hh (by
  rw[π] at hok;rw[π]
  exact⟨hok.1,by rw[Ca,hok.2];rfl⟩)
def Ctx.rok (G:Ctx):Option Nat→Prop
 | none=>True
 | some l=>(∃r,G.w0.heap[l]?=some (.loop r))∧¬G.F l
def AWp (ro:Option Nat) (P:Program) (n:Nat) (kf:List Nat) (c:Code) (st:St) (Q:Exit→St→Prop):Prop:=
 ∀G S μ a w (Q':Exit→Act→World→Prop),G.keeps kf∧G.rok ro→Sim G n S μ st a w→(∀ex st' S' μ' a' w',Q ex st'→Sim G n S' μ' st' a' w'→Q' ex a' w')→c.wpIn (Wd ro) 0 P Q' a w
section
variable {ro:Option Nat}{P:Program}{n:Nat}{kf:List Nat}{st:St}{Q:Exit→St→Prop}
theorem AWp.sub {c:Code}{st2:St}(h:Sub kf st2 st) (k:AWp ro P n kf c st2 Q):AWp ro P n kf c st Q:=fun G S μ a w Q' q hs u=>by
 obtain⟨S',μ',h'⟩:=h G n S μ a w q.1 hs;exact k G S' μ' a w Q' q h' u
theorem AWp.post {c:Code}{Q2:Exit→St→Prop}(h:AWp ro P n kf c st Q) (hq:∀ex st',Q ex st'→∃u,Sub kf u st'∧Q2 ex u):AWp ro P n kf c st Q2:=fun G S μ a w Q' y hs B=>
 h G S μ a w Q' y hs fun ex st' S' μ' A w' q s=>by
  obtain⟨u,h1,h2⟩:=hq ex st' q;obtain⟨S2,E,I⟩:=h1 G n S' μ' A w' y.1 s;exact B ex u S2 E A w' h2 I
theorem aD (h:Q .normal st):AWp ro P n kf .skip st Q:=fun _ S μ a w _ _ hs q=>wpIn_skip (q _ _ S μ a w h hs)
theorem aE (h:Q .ret st):AWp ro P n kf .ret st Q:=fun _ S μ a w _ _ hs q=>wpIn_ret (q _ _ S μ a w h hs)
theorem aH {id:Nat}(h:Q (.exit id) st):AWp ro P n kf (.exit id) st Q:=fun _ S μ a w _ _ hs q=>wpIn_exit (q _ _ S μ a w h hs)
def aNf (ro:Option Nat) (P:Program) (n:Nat) (kf:List Nat) (c:Code) (Q:Exit→St→Prop):Exit→St→Prop
 | .normal,st=>AWp ro P n kf c st Q
 | ex,st=>Q ex st
theorem aA {x y:Code}(h:AWp ro P n kf x st (aNf ro P n kf y Q)):AWp ro P n kf (.seq x y) st Q:=fun G S μ a w Q' u hs A=>
 C5 (h G S μ a w _ u hs fun ex st' S' μ' B w' q s=>by
  cases ex with
  | normal=>exact q G S' μ' B w' Q' u s A
  | _=>exact A _ st' S' μ' B w' q s)
theorem aB {c:Operand}{x y:Code}{b:Bool}(hc:opv st c=some (B b)) (ht:b=true→AWp ro P n kf x st Q) (A:b=false→AWp ro P n kf y st Q):AWp ro P n kf (.cond c x y) st Q:=fun G S μ a w Q' q hs u=>by
 have hb:=kA (aO hs hc fun _ _=>rfl);cases b with
 | true=>exact wpIn_cond_true hb (ht rfl G S μ a w Q' q hs u)
 | false=>exact wpIn_cond_false hb (A rfl G S μ a w Q' q hs u)
def iJ (id:Nat) (Q:Exit→St→Prop):Exit→St→Prop
 | .exit id',st=>if Nat.beq id' id then Q .normal st else Q (.exit id') st
 | ex,st=>Q ex st
theorem aF {id:Nat}{c:Code}(h:AWp ro P n kf c st (iJ id Q)):AWp ro P n kf (.block id c) st Q:=fun G S μ a w Q' B hs y=>
 wpIn_block (h G S μ a w _ B hs fun ex st' S' μ' A w' q s=>by
  cases ex with
  | exit u=>
   simp only[iJ] at q;simp only[Exit.inBlock];by_cases hb:u=id
   ·subst hb;simp only[beq_refl,Cu] at q;simpa using y _ st' S' μ' A w' q s
   ·have:Nat.beq u id=false:=by
     cases hq:Nat.beq u id with
     | false=>rfl
     | true=>exact absurd (τ hq) hb
    simp only[this,Ax,Bw] at q;simpa [hb] using y _ st' S' μ' A w' q s
  | _=>exact y _ st' S' μ' A w' q s)
def a3f {α:Type}(kf:List Nat) (σ:α→St) (I:α→Prop) (m:α→Nat) (x:α) (Q:Exit→St→Prop):Exit→St→Prop
 | .normal,st=>∃y,I y∧m y<m x∧Sub kf (σ y) st
 | ex,st=>Q ex st
theorem sT {F:Fence}{m:Nat}{P:Program}{Q:Exit→Act→World→Prop}{a:Act}{w:World}{c:Code}(I:Nat→Act→World→Prop) (A:Nat) (E:I A a w)
  (round:∀n a w,I n a w→c.wpIn F m P (Exit.then (fun y w'=>∃q,q<n∧I q y w') Q) a w):(Code.loop c).wpIn F m P Q a w:=by
 refine wpIn_loop (fun a w=>∃n,I n a w) (fun a w=>leastOf (fun n=>I n a w)) ⟨A,E⟩ ?_;intro a w J;refine wpIn_mono (round _ a w (leastOf_spec J).1) ?_;intro e y w' hq;cases e with
 | normal=>
  obtain⟨q,B,u⟩:=hq;exact show(∃n,I n y w')∧leastOf (fun n=>I n y w')<leastOf (fun n=>I n a w) from⟨⟨q,u⟩,B3 ((leastOf_spec ⟨q,u⟩).2 q u) B⟩
 | _=>exact hq
theorem aJ {α:Type}{c:Code}(σ:α→St) (I:α→Prop) (m:α→Nat) (u:α) (U:I u) (h0:Sub kf (σ u) st) (h:∀x,I x→AWp ro P n kf c (σ x) (a3f kf σ I m x Q)):AWp ro P n kf (.loop c) st Q:=fun G S μ a w Q' A hs Y=>by
 obtain⟨S',μ',E⟩:=h0 G n S μ a w A.1 hs;refine sT (fun k a w=>∃x S μ,m x=k∧I x∧Sim G n S μ (σ x) a w) (m u) ⟨u,S',μ',rfl,U,E⟩ ?_;rintro k a w ⟨x,S,μ,hk,hx,hs⟩;refine h x hx G S μ a w _ A hs fun ex st' S1 J M w' q s=>?_
 cases ex with
 | normal=>
  obtain⟨y,hy,O,B⟩:=q;obtain⟨S2,μ2,h2⟩:=B G n S1 J M w' A.1 s;exact⟨m y,hk▸O,y,S2,μ2,rfl,hy,h2⟩
 | _=>exact Y _ st' S1 J M w' q s
theorem vU {id:Nat}{ops:Array Oper}{draw:Bool}{st':St}{xs:REs}(hm:P.follows .mixedOrders=true) (B:Run P n ops 0 st xs st') (hlen:Nat.beq xs.length ops.size=true)
  (A:(!draw || (dA (preds ops) xs []&&eJ ops))=true) (h:Q .normal st'):AWp ro P n kf (.region id ops draw) st Q:=fun G S μ a w Q' J hs M=>by
 have q:=τ hlen;cases draw with
 | true=>
  simp only[Bool.not_true,A9,π] at A;refine wpIn_region_any hm ?_;refine aJf (G:=G) B q A.1 A.2 (fun S' μ' u w' s=>M _ st' S' μ' u w' h s) ops.size _ (by simp) ?_ ?_ S μ a _ ?_ ro
  ·have:((List.range ops.size).filter fun i=>!(Array.replicate ops.size false).getD i false)=List.range ops.size:=by
    apply filter_eq_self.2;intro i hi;simp at hi;simp[hi]
   rw[this,length_range]
  ·intro i o ho hl;simp[A7] at hl;split at hl<;>simp at hl
  ·have O:∀(E:REs) (k:Nat) (s:St),cH (fun j=>(Array.replicate ops.size false).getD j false) k E s=s:=by
    intro E
    induction E with
    | nil=>intro k s;rfl
    | cons y E I=>
     intro k s;have U:(Array.replicate ops.size false).getD k false=false:=by
      simp[A7];split<;>rfl
     simp only[cH,U,Bq];exact I _ _
   rw[O];exact⟨hs.inv.same rfl rfl rfl rfl,hs.size,hs.defers,hs.env⟩
 | false=>
  refine wpIn_region ?_;have key:∀(k:Nat) (st st':St) (xs:REs),Run P n ops k st xs st'→k+xs.length=ops.size→(∀S' μ' u w',Sim G n S' μ' st' u w'→Q' .normal u w')→∀S μ a w,Sim G n S μ st a w→wpOpsIn (Wd ro) 0 P ops Q' (List.range' k xs.length) a w:=by
   intro k st st' xs B
   induction B with
   | nil=>intro _ hq S μ a w hs;exact hq S μ a w hs
   | @cons k st rd f xs st' J _ I=>
    intro hl hq S μ a w hs;simp only[ω,range'_succ,By];exact J st (gS.refl _ _) G S μ a w _ Q' hs (fun S1 Y a1 w1 s1=>I (by simp at hl;omega) hq S1 Y a1 w1 s1) ro
  have:=key 0 st st' xs B (by omega) (fun S' μ' u w' s=>M _ st' S' μ' u w' h s) S μ a w hs;rwa [range_eq_range',←q]
end
end Go.AM
