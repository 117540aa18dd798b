/-
  Texts Am6 to Am11 in one.
-/
import Derived.Test.YtpmheldmadendaaGreatDoorM1
import Derived.Deep.MidRow
import Derived.Deep.LoopGhost
open List (all_eq_true append_assoc append_nil drop_append drop_drop drop_of_length_le drop_succ_cons drop_take drop_zero eq_nil_of_length_eq_zero filter_eq_self flatten_append flatten_cons length_append length_cons length_drop length_nil length_range length_set length_take map_cons map_nil map_toArray mem_append mem_cons mem_cons_of_mem mem_map mem_of_mem_take nil_append nodup_cons range'_succ range_eq_range' size_toArray take_append_of_le_length take_left' take_of_length_le take_succ_cons take_take take_zero)
open Nat (add_assoc add_mul add_zero beq_refl eq_of_beq_eq_true le_of_ble_eq_true le_refl le_trans lt_irrefl lt_of_le_of_lt min_eq_left mul_le_mul_right sub_self sub_zero zero_add zero_le zero_mul)
namespace Go.AM
open Go
section
variable {P:Program}{n:Nat}{o:Oper}{st:St}{d:Nat}{T:TT}
theorem eM {S:Sto}{μ:Mu}{H:bZ}{id:Nat}(h:H id=none) (p:Option (Nat×Nat×Nat)) (x:Option AObj):Evolve S μ H S (upd μ id p) (upd H id x):=
 ⟨S.le_refl,fun j o q=>by
  have c:j≠id:=fun e=>by subst e;rw[h] at q;cases q
  exact⟨o,by rw[bC _ _ _ c];exact q,o.succ_refl (bC _ _ _ c)⟩⟩
theorem Step.new {rd:Rd}{y:V}{id:Nat}{ao:AObj}(A:o.dst=some d) (q:d<n) (hid:st.h id=none) (r:id∈rd.h)
  (h:∀st',eR rd st st'→st'.h id=none→∀G S μ a w,Sim G n S μ st' a w→∃w' u v c,(execOp a.eval o).run P w=.ok (.value v) w'∧WChg w w' w.heap.size u∧
   j6 S (upd μ id (some (w.heap.size,c))) (upd st'.h id (some ao)) w' id ao∧aO S (upd μ id (some (w.heap.size,c))) (upd st'.h id (some ao)) y v):
  Step P n o st rd ⟨some (d,some y),[(id,some ao)]⟩:=by
 intro st' ha G S μ a w K Q hs B;have j:st'.h id=none:=by rw[ha.2 id r,hid]
 obtain⟨w',u,v,c,E,hw,hO,I⟩:=h st' ha j G S μ a w hs;refine fun ro=>eB E ?_
 rw[A];have hi:=hs.inv.chg (id:=id) (cap:=c) (ao:=ao) hw (.inl (le_refl _)) (eM j _ _) hO
  (fun o v e=>by obtain⟨vs,t,M,h1,_⟩:=hs.inv.holds.1 _ _ _ e;exact absurd (bV h1) (lt_irrefl _)) (fun m e=>le_refl _)
 refine B S (upd μ id (some (w.heap.size,c))) _ _ ?_;have:=hs.put hi (eM j _ _) q (x:=some y) (fun z J=>by cases J;exact I);unfold Eff.apply;rw[bY];exact this
theorem fB {G:Ctx}{S:Sto}{μ:Mu}{H:bZ}{w:World}(h:Inv G S μ H w) (o:Nat):S.cell w.heap.size o=none:=by
 cases hc:S.cell w.heap.size o with
 | none=>rfl
 | some v=>obtain⟨vs,t,c,h1,_⟩:=h.holds.1 _ _ _ hc;exact absurd (bV h1) (lt_irrefl _)
theorem pQ {G:Ctx}{S:Sto}{μ:Mu}{H:bZ}{w:World}(h:Inv G S μ H w):S.mapo w.heap.size=none:=by
 cases hc:S.mapo w.heap.size with
 | none=>rfl
 | some v=>obtain⟨_,h1⟩:=MK.holds_some (h.holds.2 _ _ hc);exact absurd (bV h1) (lt_irrefl _)
theorem fP (P:Program) (w:World) (t:TypeId) (cs:Array Value):(newRow t cs).run P w=.ok ⟨w.heap.size,0,none⟩ (w.alloc (.cells cs t)):=rfl
theorem aL0 {t:TypeId}{i:TI}(id:Nat) (r:Tok P T) (ho:o.op=.alloc t) (u:o.dst=some d) (j:d<n) (hi:T[t]?=some (some i)) (hid:st.h id=none):
  Step P n o st ⟨[],[id]⟩ ⟨some (d,some (.one (.vp id 0))),[(id,some (.var t (i.zero.map R.c)))]⟩:=by
 refine Step.new u j hid (by simp) fun st' _ y G S μ a w hs=>?_
 obtain⟨z,A,q,_⟩:=(r.get hi).zero_run;refine⟨_,_,.pointer (some ⟨w.heap.size,0,none⟩),(0,0),?_,WChg.alloc w (.cells z.cells t),?_,?_⟩
 ·simp[execOp,ho,Instr.alloc,A,newVar,fP]
 ·exact⟨w.heap.size,z.cells.toList,aJ _ _ _,B1 w _,(q S).toR,fB hs.inv,pQ hs.inv⟩
 ·simp only[aO,aT];exact⟨t,_,_,_,aJ _ _ _,aJ _ _ _,rfl⟩
theorem aSe {t:TypeId}{x:Operand}{y:V}{rs:List R}(id:Nat) (ho:o.op=.box t x) (q:o.dst=some d) (j:d<n) (hx:opv st x=some y) (hc:fF y=some rs) (hid:st.h id=none):
  Step P n o st ⟨opr x,[id]⟩ ⟨some (d,some (.one (.vp id 0))),[(id,some (.var t rs))]⟩:=by
 refine Step.new q j hid (by simp) fun st' ha c G S μ a w hs=>?_
 have r:=aL hs hx ha.1;refine⟨_,_,.pointer (some ⟨w.heap.size,0,none⟩),(0,0),?_,WChg.alloc w (.cells (a.eval x).cells t),?_,?_⟩
 ·simp[execOp,ho,Instr.box,newVar,fP]
 ·exact⟨w.heap.size,(a.eval x).cells.toList,aJ _ _ _,B1 w _,aP.evolve (eM c _ _) _ _ (cV r hc),fB hs.inv,pQ hs.inv⟩
 ·simp only[aO,aT];exact⟨t,_,_,_,aJ _ _ _,aJ _ _ _,rfl⟩
theorem aDy {t:TypeId}(id:Nat) (agg:Bool) (ho:o.op=.makeMap t none) (j:o.dst=some d) (c:d<n) (hid:st.h id=none):
  Step P n o st ⟨[],[id]⟩ ⟨some (d,some (.one (.mr id))),[(id,some (.map agg []))]⟩:=by
 refine Step.new j c hid (by simp) fun st' _ q G S μ a w hs=>?_
 refine⟨w.alloc (.map #[] 0),_,.map (some w.heap.size),(0,0),?_,WChg.alloc w (.map #[] 0),?_,?_⟩
 ·simp only[execOp,ho,Instr.makeMap,Option.map_none];rfl
 ·exact⟨w.heap.size, #[],0,aJ _ _ _,B1 w _,.inr (.inl (by simp[bA])),.inl (pQ hs.inv)⟩
 ·simp only[aO,aT];exact⟨_,_,_,_,aJ _ _ _,aJ _ _ _,rfl⟩
theorem iN {w:World}{b:Nat}{vs:List Value}{t:TypeId}(h:w.heap[b]?=some (.cells ⟨vs⟩ t (0,0))) (off k:Nat):w.rangeAt b off ((vs.drop off).take k):=by
 intro j v c;rw[cell_of_row w b (off+j) ⟨vs⟩ t (0,0) h];rw[Aj] at c;split at c
 ·rw[Ak] at c;simpa using c
 ·cases c
theorem run_load {t:TypeId}{i:TI}(q:TIok P t i) (w:World) (b off:Nat) (cs:List Value) (y:w.rangeAt b off cs) (hl:cs.length=i.size):
  (Instr.loadAt t (.pointer (some ⟨b,off,none⟩))).run P w=.ok (if i.k.agg then .agg ⟨cs⟩ else cs.headD undef) w:=by
 obtain⟨inf,dd,z,g1,g2,g3,g4,g5,g6,g7,g8⟩:=q.ex;cases r:i.k.agg with
 | true=>
  have u:dd.isRow=true:=by
   cases A:i.k<;>rw[A] at g5 r<;>cases dd<;>simp[TK.fits,TK.agg] at g5 r<;>rfl
  rw[run_loadAt_mid w b off t cs dd y g2 u (by rw[q.info,hl])];simp
 | false=>
  have hs:=q.one r;rw[hs] at hl
  match cs,hl with
  | [c],_=>
   have hc:=y 0 c rfl;have j:=q.agg_run w;rw[r] at j;simp only[Instr.loadAt,Instr.sureAddr,π,Aa,κ,loadVar,j];simp only[Ao,Bm,load];simp only[Sem.run];rw[show(⟨b,off,none⟩:Addr)=⟨b,off+0,none⟩ from rfl,hc];simp
def iS (i:TI) (rs:List R):Option V:=if i.k.agg then some (aOf rs) else match rs with | [r]=>some (.one r) | _=>none
theorem jP {i:TI}{S:Sto}{μ:Mu}{H:bZ}{rs:List R}{vs:List Value}{y:V}(h:aP S μ H rs vs) (hy:iS i rs=some y):aO S μ H y (if i.k.agg then .agg ⟨vs⟩ else vs.headD undef):=by
 unfold iS at hy;cases c:i.k.agg with
 | true=>
  simp only[c,Ch] at hy ⊢;cases hy;exact aA5 h
 | false=>
  simp only[c,Ao,Bm] at hy ⊢;split at hy
  ·cases hy;simp only[aP] at h;obtain⟨v,vs',rfl,h1,rfl⟩:=h;simpa [aO] using h1
  ·cases hy
theorem aSq {α:Type}{l:List α}{off k:Nat}(h:off+k≤l.length):((l.drop off).take k).length=k:=by simp;omega
theorem aO8 {t tv:TypeId}{i:TI}{x:Operand}{id off:Nat}{cells:List R}{y:V}(u:Tok P T) (ho:o.op=.load t x) (A:o.dst=some d) (j:d<n) (hi:T[t]?=some (some i)) (hx:opv st x=some (.one (.vp id off)))
  (hh:st.h id=some (.var tv cells)) (hl:Nat.ble (off+i.size) cells.length=true) (hy:iS i ((cells.drop off).take i.size)=some y):Step P n o st ⟨opr x,[id]⟩ ⟨some (d,some y),[]⟩:=by
 refine Step.value A j fun st' ha G S μ a w hs=>?_
 have q:st'.h id=some (.var tv cells):=by rw[ha.2 id (by simp),hh]
 have r:=aL hs hx ha.1;simp only[aO,aT] at r;obtain⟨I,cells',b,c,h1,h2,B⟩:=r;obtain⟨J,vs,g1,g2,g3,g4⟩:=hs.inv.obj id _ q;rw[g1] at h2;cases h2;have hlen:=Al hl;have E:=g3.length;refine⟨_,?_,jP ((g3.drop off).take i.size) hy⟩;simp only[execOp,ho,B,π,run_load (u.get hi) w b off _ (iN g2 off i.size) (aSq (by omega)),κ,Aa]
def aB0 (i:TI) (l:List C):Option V:=if i.k.agg then some (.pa l) else match l with | [c]=>some (.one (.c c)) | _=>none
theorem uL {i:TI}{S:Sto}{μ:Mu}{H:bZ}{l:List C}{vs:List Value}{y:V}(h:bW S l vs) (hy:aB0 i l=some y):aO S μ H y (if i.k.agg then .agg ⟨vs⟩ else vs.headD undef):=by
 unfold aB0 at hy;cases c:i.k.agg with
 | true=>
  simp only[c,Ch] at hy ⊢;cases hy;simp only[aO];exact⟨vs,rfl,h⟩
 | false=>
  simp only[c,Ao,Bm] at hy ⊢;split at hy
  ·cases hy;simp only[bW] at h;obtain⟨v,vs',rfl,h1,rfl⟩:=h;simpa [aO,aT] using h1
  ·cases hy
theorem lA {S:Sto}{w:World}(hh:Holds S w) {b off:Nat}{vs:List Value}(h:dS S b off vs):w.rangeAt b off vs:=fun j v c=>hh.cell (h j v c)
theorem aD1 {t:TypeId}{i:TI}{x:Operand}{l:List C}{y:V}(B:Tok P T) (ho:o.op=.load t x) (E:o.dst=some d) (r:d<n) (hi:T[t]?=some (some i)) (hx:opv st x=some (.one (.c (.pt l))))
  (hl:i.size≤l.length) (hy:aB0 i (l.take i.size)=some y):Step P n o st ⟨opr x,[]⟩ ⟨some (d,some y),[]⟩:=by
 refine Step.value E r fun st' ha G S μ a w hs=>?_
 have u:=aL hs hx ha.1;simp only[aO,aT,Rep] at u;obtain⟨b,off,h1,vs,h2,I⟩:=u;have M:=h2.length;refine⟨_,?_,uL (h2.take i.size) hy⟩;have J:=lA hs.inv.holds I;have A:w.rangeAt b off (vs.take i.size):=fun j v q=>by
  rw[Aj] at q;split at q
  ·exact J j v q
  ·cases q
 simp only[execOp,ho,h1,π,run_load (B.get hi) w b off _ A (by simp;omega),κ,Aa]
theorem pA {α:Type}{es:Nat}:∀{l:List (List α)},(∀r∈l,r.length=es)→∀(k:Nat),∀r,l[k]?=some r→(l.flatten.drop (k*es)).take es=r
 | [],_,k,r,h=>by simp at h
 | x::xs,hl,0,r,h=>by
  simp at h;subst h;have:=hl x (by simp);simp[←this]
 | x::xs,hl,k+1,r,h=>by
  simp at h;have hx:=hl x (by simp);have:=pA (l:=xs) (fun r c=>hl r (by simp[c])) k r h;rw[A9,drop_append,show(k+1)*es-x.length=k*es by rw[hx,A2];omega];rw[drop_of_length_le (by rw[hx,A2];omega),Br];exact this
theorem fZ {α:Type}{es:Nat}:∀{l:List (List α)},(∀r∈l,r.length=es)→l.flatten.length=l.length*es
 | [],_=>by simp
 | x::xs,hl=>by
  rw[A9,ζ,fZ (fun r c=>hl r (by simp[c])),hl x (by simp),ε,A2];omega
theorem j6.arr {S:Sto}{μ:Mu}{H:bZ}{w:World}{id:Nat}{te es:Nat}{elems:List (List C)}{fz:Nat}(h:j6 S μ H w id (.arr te es elems fz)) {b base cap:Nat}(hm:μ id=some (b,base,cap)):
  (∀r∈elems,r.length=es)∧∃vs,w.heap[b]?=some (.cells ⟨vs⟩ te (0,0))∧
   base+cap*es≤vs.length∧elems.length≤cap∧(cap≤maxLen∧S.mapo b=none)∧bW S elems.flatten ((vs.drop base).take (elems.length*es))∧
   (fz=0→∀o,base≤o→S.cell b o=none)∧(∀o,base+elems.length*es≤o→S.cell b o=none)∧(fz=2→dS S b base ((vs.drop base).take (elems.length*es))):=by
 obtain⟨h0,⟨h1,_⟩ | ⟨q,c,j,vs,h1,h2⟩⟩:=h
 ·rw[hm] at h1;cases h1
 ·rw[hm] at h1;cases h1;exact⟨h0,vs,h2⟩
theorem aKi {S:Sto}{es base:Nat}{elems:List (List C)}{vs:List Value}(h0:∀r∈elems,r.length=es) (h:bW S elems.flatten ((vs.drop base).take (elems.length*es))) {k:Nat}{r:List C}(c:elems[k]?=some r):
  bW S r ((vs.drop (base+k*es)).take es):=by
 have h1:=(h.drop (k*es)).take es;rw[pA h0 k r c] at h1;have j:k<elems.length:=(Af.1 c).1
 have hle:(k+1)*es≤elems.length*es:=Ar _ j;rw[A2] at hle;rw[drop_take,Cr,take_take] at h1;rwa [min_eq_left (by omega)] at h1
theorem aD2 {t te es:Nat}{i:TI}{x:Operand}{id k fo sz:Nat}{elems:List (List C)}{fz:Nat}{r:List C}{y:V}(E:Tok P T) (ho:o.op=.load t x) (I:o.dst=some d) (A:d<n) (hi:T[t]?=some (some i)) (hx:opv st x=some (.one (.ep id k fo sz)))
  (hh:st.h id=some (.arr te es elems fz)) (hsz:sz=elems.length) (B:elems[k]?=some r) (hl:fo+i.size≤es) (hy:aB0 i ((r.drop fo).take i.size)=some y):Step P n o st ⟨opr x,[id]⟩ ⟨some (d,some y),[]⟩:=by
 refine Step.value I A fun st' ha G S μ a w hs=>?_
 have c:st'.h id=some (.arr te es elems fz):=by rw[ha.2 id (by simp),hh]
 have j:=aL hs hx ha.1;simp only[aO,aT] at j;obtain⟨_,j | ⟨aa,ab,elems',ac,h1,h2,J⟩⟩:=j
 ·rw[c] at j;cases j
 rw[c] at h1;cases h1;obtain⟨h4,b,base,cap,M,O⟩:=J hsz;obtain⟨g0,vs,g1,g2,g3,g4,g5,g6,g7⟩:=(hs.inv.obj id _ c).arr M;have q:=aKi g0 g5 B;have ad:=q.length;have U:r.length=es:=g0 r (Ag B);have u:=((q.drop fo).take i.size)
 have hlen:=u.length;have Y:((List.drop fo (List.take es (List.drop (base+k*es) vs))).take i.size)=(vs.drop (base+k*es+fo)).take i.size:=by
  rw[drop_take,Cr,take_take,min_eq_left (by omega)]
 rw[Y] at u hlen;refine⟨_,?_,uL u hy⟩;simp only[execOp,ho,O,π,run_load (E.get hi) w b (base+k*es+fo) _ (iN g1 _ i.size) (by rw[hlen];simp;omega),κ,Aa]
end
section
variable {P:Program}{n:Nat}{o:Oper}{st:St}{d:Nat}{T:TT}
theorem run_store {t:TypeId}{i:TI}(y:TIok P t i) (w:World) (b off:Nat) (vs news:List Value) (q:TypeId) (v:Value) (A:w.heap[b]?=some (.cells ⟨vs⟩ q (0,0))) (r:v.cells.toList=news) (hl:news.length=i.size) (j:off+news.length≤vs.length) (h1:∀u∈news,u.oneCell'=true):
  (Instr.storeAt t (.pointer (some ⟨b,off,none⟩)) v).run P w=.ok () (w.setRow b ⟨vs.take off++news++vs.drop (off+news.length)⟩):=by
 have hsz:v.cells.size=i.size:=by rw[←hl,←r];simp
 have c:=run_storeCells_at (P:=P) b off q news 0 ⟨vs⟩ w A (by simpa using j) h1;simp only[Cf] at c;simp only[Instr.storeAt,Instr.sureAddr,π,Aa,κ,storeVar,y.size_run w,hsz,r];simp only[ne_eq,not_true_eq_false,Bm,c]
theorem gG {S:Sto}{μ:Mu}{H:bZ}{id:Nat}{o o':AObj}{p:Nat×Nat×Nat}(h:H id=some o) (hm:μ id=some p) (hs:o.succ True o'):Evolve S μ H S (upd μ id (some p)) (upd H id (some o')):=by
 refine⟨S.le_refl,fun j x q=>?_⟩;by_cases c:j=id
 ·subst c;rw[h] at q;cases q;refine⟨o',aJ _ _ _,?_⟩;have he:upd μ j (some p) j=μ j:=by rw[aJ,hm]
  rw[he];simpa using hs
 ·exact⟨x,by rw[bC _ _ _ c];exact q,x.succ_refl (bC _ _ _ c)⟩
theorem Step.turn {rd:Rd}{id:Nat}{ao j:AObj}(E:o.dst=none) (hid:st.h id=some ao) (y:id∈rd.h) (r:ao.succ True j)
  (h:∀st',eR rd st st'→st'.h id=some ao→∀G S μ a w,Sim G n S μ st' a w→∃w' u b c,(execOp a.eval o).run P w=.ok .skip w'∧μ id=some (b,c)∧WChg w w' b u∧
   j6 S (upd μ id (some (b,c))) (upd st'.h id (some j)) w' id j∧(∀o v,S.cell b o=some v→∃vs t I,u=.cells vs t I∧vs[o]?=some v)∧(∀m,S.mapo b=some m→w.heap.size≤b)):
  Step P n o st rd ⟨none,[(id,some j)]⟩:=by
 intro st' ha G S μ a w K Q hs J;have q:st'.h id=some ao:=by rw[ha.2 id y,hid]
 obtain⟨w',u,b,c,M,hm,hw,hO,hS,A⟩:=h st' ha q G S μ a w hs;refine fun ro=>tL M ?_
 rw[E];have B:=gG (S:=S) (μ:=μ) q hm r;have hi:=hs.inv.chg (id:=id) (cap:=c) (ao:=j) hw (.inr ⟨ao,c,q,hm⟩) B hO hS A;refine J S (upd μ id (some (b,c))) _ _ ?_;have:=hs.put_none hi B undef;unfold Eff.apply;rw[bY];exact this
def bQ {α:Type}(l:List α) (off:Nat) (new:List α):List α:=l.take off++new++l.drop (off+new.length)
theorem eL {S:Sto}{w:World}{b:Nat}(hb:S.mapo b=none) (m:MK) (e:S.mapo b=some m):w.heap.size≤b:=by
 rw[hb] at e;cases e
theorem aLr {t tv:TypeId}{i:TI}{x y:Operand}{id off:Nat}{cells rs:List R}{v:V}(J:Tok P T) (ho:o.op=.store t x y) (M:o.dst=none) (hi:T[t]?=some (some i)) (hx:opv st x=some (.one (.vp id off)))
  (hy:opv st y=some v) (hc:fF v=some rs) (hh:st.h id=some (.var tv cells)) (O:rs.length=i.size) (hl:Nat.ble (off+i.size) cells.length=true):
  Step P n o st ⟨opr x++opr y,[id]⟩ ⟨none,[(id,some (.var tv (bQ cells off rs)))]⟩:=by
 refine Step.turn M hh (by simp) (by simp[AObj.succ]) fun st' ha q G S μ a w hs=>?_
 have r:=aL hs hx fun t ht=>ha.1 t (by simp[ht])
 have E:=aL hs hy fun t ht=>ha.1 t (by simp[ht])
 simp only[aO,aT] at r;obtain⟨Y,cells',b,c,h1,h2,j⟩:=r;obtain⟨b',vs,g1,g2,g3,g4⟩:=hs.inv.obj id _ q;rw[g1] at h2;cases h2;have hlen:=Al hl;have U:=g3.length;have hrel:=cV E hc;have u:=hrel.length;have A:=run_store (J.get hi) w b off vs (a.eval y).cells.toList tv (a.eval y) g2 rfl (by omega) (by omega) hrel.one;have B:=gG (S:=S) (μ:=μ) (o':=.var tv (bQ cells off rs)) q g1 (by simp[AObj.succ]);have I:=WChg.setRow w b ⟨vs⟩ ⟨vs.take off++(a.eval y).cells.toList++vs.drop (off+(a.eval y).cells.toList.length)⟩ tv (0,0) g2;refine⟨_,_,b,(0,0),?_,g1,I,⟨b,_,aJ _ _ _,I.new,?_,g4⟩,(fun o v e=>by rw[g4.1] at e;cases e),fun m e=>eL g4.2 m e⟩
 ·simp only[execOp,ho,j,π,A,κ,Aa]
 ·have h1:=aP.evolve B _ _ (g3.take off);have h2:=aP.evolve B _ _ hrel;have j:=aP.evolve B _ _ (g3.drop (off+rs.length));rw[←u] at j;have:=(h1.append h2).append j;rw[show bQ cells off rs=cells.take off++rs++cells.drop (off+(a.eval y).cells.toList.length) by rw[u];rfl] at this ⊢;exact this
theorem xD {α:Type}{es:Nat}:∀{l:List (List α)},(∀r∈l,r.length=es)→∀(k:Nat) (r:List α),l[k]?=some r→
  (l.take k).flatten=l.flatten.take (k*es)∧(l.drop (k+1)).flatten=l.flatten.drop (k*es+es)
 | [],_,k,r,h=>by simp at h
 | x::xs,hl,0,r,_=>by
  have hx:=hl x (by simp);simp only[take_zero,List.flatten_nil,zero_mul,Bb,Ck,B5,A9,true_and];rw[drop_append,hx,Cb,B5,drop_of_length_le (by omega),Br]
 | x::xs,hl,k+1,r,h=>by
  have hx:=hl x (by simp);simp at h;obtain⟨h1,h2⟩:=xD (l:=xs) (fun r c=>hl r (by simp[c])) k r h;simp only[A8,A9,Ck];rw[h1,h2,List.take_append,drop_append,hx];have j:(k+1)*es-es=k*es:=by rw[A2];omega
  have q:(k+1)*es+es-es=k*es+es:=by rw[A2];omega
  rw[j,q,A5 (l:=x) (by rw[hx,A2];omega),drop_of_length_le (l:=x) (by rw[hx,A2];omega),Br];exact⟨rfl,rfl⟩
theorem aBi {t te es:Nat}{i:TI}{x y:Operand}{id k fo sz:Nat}{elems:List (List C)}{v:V}{rs:List R}{cs r:List C}(hT:Tok P T) (ho:o.op=.store t x y) (hd:o.dst=none) (hi:T[t]?=some (some i)) (hx:opv st x=some (.one (.ep id k fo sz)))
  (hy:opv st y=some v) (hc:fF v=some rs) (hp:gQ rs=some cs) (hh:st.h id=some (.arr te es elems 0)) (hsz:sz=elems.length) (J:elems[k]?=some r) (hcs:cs.length=i.size) (hl:fo+i.size≤es):
  Step P n o st ⟨opr x++opr y,[id]⟩ ⟨none,[(id,some (.arr te es (elems.set k (bQ r fo cs)) 0))]⟩:=by
 refine Step.turn hd hh (by simp) (by simp[AObj.succ]) fun st' ha u G S μ a w hs=>?_
 have U:=aL hs hx fun t ht=>ha.1 t (by simp[ht])
 have hvy:=aL hs hy fun t ht=>ha.1 t (by simp[ht])
 simp only[aO,aT] at U;obtain⟨_,hv | ⟨te',es',elems',fz',h1,h2,h3⟩⟩:=U
 ·rw[u] at hv;cases hv
 rw[u] at h1;cases h1;obtain⟨h4,b,base,cap,Y,h6⟩:=h3 hsz;obtain⟨g0,vs,g1,g2,g3,g4,g5,g6,g7⟩:=(hs.inv.obj id _ u).arr Y;have hrel:=cV hvy hc;rw[mC hp] at hrel;have B:=hrel.pure;have aa:=hrel.one;have hnl:=B.length;have hk:k<elems.length:=(Af.1 J).1
 have hres:r.length=es:=g0 r (Ag J);have hke:(k+1)*es≤elems.length*es:=Ar _ hk;have hce:elems.length*es≤cap*es:=Ar _ g3;rw[A2] at hke;generalize M:(a.eval y).cells.toList=news at *;have ab:=run_store (hT.get hi) w b (base+k*es+fo) vs news te (a.eval y) g1 M (by omega) (by omega) aa;have hE:=gG (S:=S) (μ:=μ) (o':=.arr te es (elems.set k (bQ r fo cs)) 0) u Y (by simp[AObj.succ]);have E:=aKi g0 g5 J;have A:=xD g0 k r J;have hlen:(elems.set k (bQ r fo cs)).length=elems.length:=by simp
 have hW:=WChg.setRow w b ⟨vs⟩ ⟨vs.take (base+k*es+fo)++news++vs.drop (base+k*es+fo+news.length)⟩ te (0,0) g1;refine⟨_,_,b,(base,cap),?_,Y,hW,⟨?_,.inr ⟨b,base,cap,_,aJ _ _ _,hW.new,?_,by rw[hlen];exact g3,g4,?_,g6,by rw[hlen];exact g7.1,fun e=>by cases e⟩⟩,fun o v e=>?_,fun m e=>eL g4.2 m e⟩
 ·simp only[execOp,ho,h6,π,ab,κ,Aa]
 ·intro q hq;rcases List.mem_or_eq_of_mem_set hq with hq | rfl
  ·exact g0 q hq
  ·unfold bQ;simp;omega
 ·simp only[ζ,Am,Bg];omega
 ·rw[hlen];have e1:(elems.set k (bQ r fo cs)).flatten=elems.flatten.take (k*es)++(r.take fo++cs++r.drop (fo+cs.length))++elems.flatten.drop (k*es+es):=by
   rw[Ce,θ hk,Cm,A9,A.1,A.2,←As];rfl
  have e2:((vs.take (base+k*es+fo)++news++vs.drop (base+k*es+fo+news.length)).drop base).take (elems.length*es)=
    ((vs.drop base).take (elems.length*es)).take (k*es)++((((vs.drop (base+k*es)).take es).take fo)++news++(((vs.drop (base+k*es)).take es).drop (fo+cs.length)))++((vs.drop base).take (elems.length*es)).drop (k*es+es):=by
   apply B6;intro j;simp only[Aj,Ak,B2,ζ,Am,Bg];have hm1:min (k*es) (min (elems.length*es) (vs.length-base))=k*es:=by omega
   have hm2:min (base+k*es+fo) vs.length=base+k*es+fo:=by omega
   have hm3:min fo es=fo:=by omega
   have hm4:min es (vs.length-(base+k*es))=es:=by omega
   simp only[hm1,hm2,hm3,hm4,hnl];by_cases O:j<k*es
   ·have c:j<elems.length*es:=by omega
    have a2:base+j<base+k*es+fo:=by omega
    have a3:base+j<base+k*es+fo+cs.length:=by omega
    have a4:j<k*es+(fo+cs.length+(es-(fo+cs.length))):=by omega
    simp[O,c,a2,a3,a4]
   ·by_cases c2:j<k*es+fo
    ·have c:j<elems.length*es:=by omega
     have a2:base+j<base+k*es+fo:=by omega
     have a3:base+j<base+k*es+fo+cs.length:=by omega
     have a4:j<k*es+(fo+cs.length+(es-(fo+cs.length))):=by omega
     have a5:j-k*es<fo+cs.length:=by omega
     have I:j-k*es<fo:=by omega
     have a7:j-k*es<es:=by omega
     simp[O,c,a2,a3,a4,a5,I,a7,show base+k*es+(j-k*es)=base+j by omega]
    ·by_cases c3:j<k*es+fo+cs.length
     ·have c:j<elems.length*es:=by omega
      have a2:¬base+j<base+k*es+fo:=by omega
      have a3:base+j<base+k*es+fo+cs.length:=by omega
      have a4:j<k*es+(fo+cs.length+(es-(fo+cs.length))):=by omega
      have a5:j-k*es<fo+cs.length:=by omega
      have I:¬j-k*es<fo:=by omega
      simp[O,c,a2,a3,a4,a5,I,show base+j-(base+k*es+fo)=j-k*es-fo by omega]
     ·by_cases c4:j<k*es+es
      ·have c:j<elems.length*es:=by omega
       have a3:¬base+j<base+k*es+fo+cs.length:=by omega
       have a4:j<k*es+(fo+cs.length+(es-(fo+cs.length))):=by omega
       have a5:¬j-k*es<fo+cs.length:=by omega
       have I:fo+cs.length+(j-k*es-(fo+cs.length))<es:=by omega
       simp[O,c,a3,a4,a5,I,show base+k*es+fo+cs.length+(base+j-(base+k*es+fo+cs.length))=base+j by omega,show base+k*es+(fo+cs.length+(j-k*es-(fo+cs.length)))=base+j by omega]
      ·have a3:¬base+j<base+k*es+fo+cs.length:=by omega
       have a4:¬j<k*es+(fo+cs.length+(es-(fo+cs.length))):=by omega
       by_cases c5:j<elems.length*es
       ·have a5:k*es+es+(j-(k*es+(fo+cs.length+(es-(fo+cs.length)))))<elems.length*es:=by omega
        simp[a3,a4,c5,a5,show base+k*es+fo+cs.length+(base+j-(base+k*es+fo+cs.length))=base+j by omega,show base+(k*es+es+(j-(k*es+(fo+cs.length+(es-(fo+cs.length))))))=base+j by omega]
       ·have a5:¬k*es+es+(j-(k*es+(fo+cs.length+(es-(fo+cs.length)))))<elems.length*es:=by omega
        simp[a4,c5,a5]
  rw[e1];show bW S _ (((vs.take (base+k*es+fo)++news++vs.drop (base+k*es+fo+news.length)).drop base).take (elems.length*es));rw[e2];exact((g5.take (k*es)).append (((E.take fo).append B).append (E.drop (fo+cs.length)))).append (g5.drop (k*es+es))
 ·--what stays is not touched
  by_cases hb:base≤o
  ·rw[g6 rfl o hb] at e;cases e
  ·obtain⟨vs0,t0,fr0,q1,q2⟩:=hs.inv.holds.1 b o v e;rw[g1] at q1;cases q1;refine⟨_,_,_,rfl,?_⟩;simp only[Cd] at q2 ⊢;have hlt:o<vs.length:=(Af.1 q2).1
   rw[As,A1 (by simp;omega),Aj,θ (by omega)];exact q2
theorem tB (b off k:Nat):(⟨b,off,none⟩:Addr).add k=⟨b,off+k,none⟩:=Addr.add_mid b off k
theorem fT {t q:TypeId}{i r:TI}{fs:List (Nat×TypeId)}{f c:Nat}(u:Tok P T) (hi:T[t]?=some (some i)) (A:i.k=.st fs) (j:fs[f]?=some (c,q)) (y:T[q]?=some (some r)) (B:r.size≠0) (w:World) (b off:Nat):
  (Instr.fieldAt t (.pointer (some ⟨b,off,none⟩)) f).run P w=.ok (.pointer (some ⟨b,off+c,none⟩)) w:=by
 obtain⟨fields,h1,h2⟩:=(u.get hi).struct A;rw[h2] at j;simp only[List.getElem?_map,Option.map_eq_some_iff,Array.getElem?_toList] at j;obtain⟨fl,E,I⟩:=j;cases I;simp only[Instr.fieldAt,π,Ah h1 w,κ,E,Instr.sureAddr,Aa,fieldPlace,(u.get y).size_run w];simp[B,tB]
theorem aBn {t q:TypeId}{i r:TI}{fs:List (Nat×TypeId)}{f j:Nat}{x:Operand}{id off:Nat}(B:Tok P T) (ho:o.op=.fieldAddr t x f) (E:o.dst=some d) (u:d<n) (hi:T[t]?=some (some i)) (I:i.k=.st fs) (J:fs[f]?=some (j,q)) (y:T[q]?=some (some r)) (M:r.size≠0)
  (hx:opv st x=some (.one (.vp id off))):Step P n o st ⟨opr x,[]⟩ ⟨some (d,some (.one (.vp id (off+j)))),[]⟩:=by
 refine Step.value E u fun st' ha G S μ a w hs=>?_
 have A:=aL hs hx ha.1;simp only[aO,aT] at A;obtain⟨O,cells',b,c,h1,h2,U⟩:=A;refine⟨.pointer (some ⟨b,off+j,none⟩),?_,?_⟩
 ·simp only[execOp,ho,U,π,fT B hi I J y M,κ,Aa]
 ·simp only[aO,aT];exact⟨O,cells',b,c,h1,h2,rfl⟩
theorem aBp {t r:TypeId}{i u:TI}{fs:List (Nat×TypeId)}{f q:Nat}{x:Operand}{l:List C}(I:Tok P T) (ho:o.op=.fieldAddr t x f) (J:o.dst=some d) (y:d<n) (hi:T[t]?=some (some i)) (M:i.k=.st fs) (O:fs[f]?=some (q,r)) (A:T[r]?=some (some u)) (U:u.size≠0)
  (hx:opv st x=some (.one (.c (.pt l)))):Step P n o st ⟨opr x,[]⟩ ⟨some (d,some (.one (.c (.pt (l.drop q))))),[]⟩:=by
 refine Step.value J y fun st' ha G S μ a w hs=>?_
 have B:=aL hs hx ha.1;simp only[aO,aT,Rep] at B;obtain⟨b,off,h1,vs,h2,Y⟩:=B;refine⟨.pointer (some ⟨b,off+q,none⟩),?_,?_⟩
 ·simp only[execOp,ho,h1,π,fT I hi M O A U,κ,Aa]
 ·simp only[aO,aT,Rep];refine⟨b,off+q,rfl,vs.drop q,h2.drop q,fun j v E=>?_⟩;rw[Ak] at E;have:=Y (q+j) v E;rwa [←add_assoc] at this
theorem aBq {t r:TypeId}{i u:TI}{fs:List (Nat×TypeId)}{f c:Nat}{x:Operand}{id k fo sz:Nat}(B:Tok P T) (ho:o.op=.fieldAddr t x f) (E:o.dst=some d) (y:d<n) (hi:T[t]?=some (some i)) (I:i.k=.st fs) (J:fs[f]?=some (c,r)) (A:T[r]?=some (some u)) (M:u.size≠0)
  {te es:Nat} {elems:List (List C)} {fz:Nat} (hx:opv st x=some (.one (.ep id k fo sz))) (hh:st.h id=some (.arr te es elems fz)) (hsz:sz=elems.length):Step P n o st ⟨opr x,[id]⟩ ⟨some (d,some (.one (.ep id k (fo+c) sz))),[]⟩:=by
 refine Step.value E y fun st' ha G S μ a w hs=>?_
 have j:=aL hs hx ha.1;have q:st'.h id=some (.arr te es elems fz):=by rw[ha.2 id (by simp),hh]
 simp only[aO,aT] at j;obtain⟨_,j | ⟨te',es',elems',fz',h1,h2,O⟩⟩:=j
 ·rw[q] at j;cases j
 rw[q] at h1;cases h1;obtain⟨U,b,base,cap,Y,h6⟩:=O hsz;refine⟨.pointer (some ⟨b,base+k*es+fo+c,none⟩),?_,?_⟩
 ·simp only[execOp,ho,h6,π,fT B hi I J A M,κ,Aa]
 ·simp only[aO,aT];exact⟨⟨_,rfl⟩,.inr ⟨te,es,elems,fz,q,h2,fun _=>⟨U,b,base,cap,Y,by rw[add_assoc]⟩⟩⟩
theorem iL {t e:TypeId}{i c:TI}(j:Tok P T) (hi:T[t]?=some (some i)) (r:i.k=.sl e) (q:T[e]?=some (some c)) (w:World) (b off len cap k:Nat) (kk:IntKind) (u:k<len):
  (Instr.indexAt t (.slice (some ⟨b,off,none⟩) len cap) (.int kk (k:Int))).run P w=.ok (.pointer (some ⟨b,off+k*c.size,none⟩)) w:=by
 have h1:=(j.get hi).slice r;simp only[Instr.indexAt,asIntOf,π,Aa,κ,Ah h1 w];rw[θ ⟨by omega,by omega⟩];simp only[π,(j.get q).size_run w,κ,Aa,Int.toNat_natCast,tB]
theorem aLv {t e:TypeId}{i q:TI}{x y:Operand}{es k:Nat}{kk:IntKind}{m:Int}{l:List (List C)}{r:List C}(U:Tok P T) (ho:o.op=.indexAddr t x y) (Y:o.dst=some d) (u:d<n) (hi:T[t]?=some (some i)) (hk:i.k=.sl e) (A:T[e]?=some (some q)) (B:q.size=es)
  (hx:opv st x=some (.one (.c (.sl es l)))) (hy:opv st y=some (I kk m)) (hm:m=(k:Int)) (E:l[k]?=some r):Step P n o st ⟨opr x++opr y,[]⟩ ⟨some (d,some (.one (.c (.pt r)))),[]⟩:=by
 refine Step.value Y u fun st' ha G S μ a w hs=>?_
 have J:=aL hs hx (cI ha).1;have M:=dB (aL hs hy (cI ha).2);have hlt:k<l.length:=(Af.1 E).1
 simp only[aO,aT,Rep] at J;obtain⟨j,len,cap,h1,h2,h3,h4,h5,h6,b,off,h7,h8⟩:=J;cases j with
 | none=>have:=(h5 rfl).1;omega
 | some j=>
  obtain⟨h9,h10⟩:=h7 j rfl;have h11:=h6 j rfl (by omega);have O:j=⟨b,off,none⟩:=by cases j;simp_all
  subst O;subst hm;obtain⟨q1,vs,q2,q3⟩:=h8.get k r E;refine⟨.pointer (some ⟨b,off+k*es,none⟩),?_,?_⟩
  ·simp only[execOp,ho,h1,M,π,iL U hi hk A w b off len cap k kk (by omega),κ,Aa,B]
  ·simp only[aO,aT,Rep];exact⟨b,off+k*es,rfl,vs,q2,q3⟩
theorem aBm {t e:TypeId}{i r:TI}{x y:Operand}{te es k id off len sz:Nat}{kk:IntKind}{m:Int}{elems:List (List C)}{fz:Nat}(O:Tok P T) (ho:o.op=.indexAddr t x y) (U:o.dst=some d) (u:d<n) (hi:T[t]?=some (some i)) (Y:i.k=.sl e) (A:T[e]?=some (some r)) (B:r.size=es)
  (hx:opv st x=some (.one (.hs id off len sz))) (hh:st.h id=some (.arr te es elems fz)) (hsz:sz=elems.length) (hy:opv st y=some (I kk m)) (hm:m=(k:Int)) (E:k<len):Step P n o st ⟨opr x++opr y,[id]⟩ ⟨some (d,some (.one (.ep id (off+k) 0 sz))),[]⟩:=by
 refine Step.value U u fun st' ha G S μ a w hs=>?_
 have c:=aL hs hx fun t ht=>ha.1 t (by simp[ht])
 have J:=dB (aL hs hy fun t ht=>ha.1 t (by simp[ht]));have j:st'.h id=some (.arr te es elems fz):=by rw[ha.2 id (by simp),hh]
 simp only[aO,aT] at c;obtain⟨_,c | ⟨te',es',elems',fz',h1,h2,h3⟩⟩:=c
 ·rw[j] at c;cases c
 rw[j] at h1;cases h1;obtain⟨h4,⟨M,q,h7⟩ | ⟨b,base,cap,M,q⟩⟩:=h3 hsz
 ·subst q;simp at hsz;omega
 subst hm;refine⟨.pointer (some ⟨b,base+(off+k)*es+0,none⟩),?_,?_⟩
 ·simp only[execOp,ho,q,J,π,iL O hi Y A w b (base+off*es) len _ k kk E,κ,Aa,B,Cf];rw[show base+off*es+k*es=base+(off+k)*es by rw[A2];omega]
 ·simp only[aO,aT];exact⟨⟨_,rfl⟩,.inr ⟨te,es,elems,fz,j,h2,fun _=>⟨by omega,b,base,cap,M,rfl⟩⟩⟩
theorem tT {t e:TypeId}{m:Nat}{i c:TI}(j:Tok P T) (hi:T[t]?=some (some i)) (r:i.k=.ar m e) (q:T[e]?=some (some c)) (w:World) (b off k:Nat) (kk:IntKind) (u:k<m):
  (Instr.indexAt t (.pointer (some ⟨b,off,none⟩)) (.int kk (k:Int))).run P w=.ok (.pointer (some ⟨b,off+k*c.size,none⟩)) w:=by
 have h1:=(j.get hi).array r;have h2:(Instr.sureAddr (.pointer (some ⟨b,off,none⟩))).run P w=.ok ⟨b,off,none⟩ w:=by simp[Instr.sureAddr]
 simp only[Instr.indexAt,asIntOf,π,Aa,κ,Ah h1 w,h2];rw[θ ⟨by omega,by omega⟩];simp only[π,(j.get q).size_run w,κ,Aa,Int.toNat_natCast,tB]
theorem wO {t e:TypeId}{i j:TI}{x y:Operand}{id off k m:Nat}{kk:IntKind}{q:Int}(J:Tok P T) (ho:o.op=.indexAddr t x y) (M:o.dst=some d) (r:d<n) (hi:T[t]?=some (some i)) (O:i.k=.ar m e) (u:T[e]?=some (some j))
  (hx:opv st x=some (.one (.vp id off))) (hy:opv st y=some (I kk q)) (hm:q=(k:Int)) (A:k<m):Step P n o st ⟨opr x++opr y,[]⟩ ⟨some (d,some (.one (.vp id (off+k*j.size)))),[]⟩:=by
 refine Step.value M r fun st' ha G S μ a w hs=>?_
 have B:=aL hs hx (cI ha).1;have E:=dB (aL hs hy (cI ha).2);simp only[aO,aT] at B;obtain⟨U,cells',b,c,h1,h2,Y⟩:=B;subst hm;refine⟨.pointer (some ⟨b,off+k*j.size,none⟩),?_,?_⟩
 ·simp only[execOp,ho,Y,E,π,tT J hi O u w b off k kk A,κ,Aa]
 ·simp only[aO,aT];exact⟨U,cells',b,c,h1,h2,rfl⟩
def notNil:V→Bool
 | .one (.vp _ _)=>true
 | .one (.c (.pt _))=>true
 | .one (.pas _)=>true
 | _=>false
theorem aBj {x:Operand}{y:V}(ho:o.op=.nilCheck x) (u:o.dst=some d) (r:d<n) (hx:opv st x=some y) (q:notNil y=true):Step P n o st ⟨opr x,[]⟩ ⟨some (d,some y),[]⟩:=by
 refine Step.value u r fun st' ha G S μ a w hs=>⟨a.eval x,?_,aL hs hx ha.1⟩
 have j:=aL hs hx ha.1;unfold notNil at q;split at q
 ·simp only[aO,aT] at j;obtain⟨B,cells',b,c,h1,h2,A⟩:=j;simp[execOp,ho,A]
 ·simp only[aO,aT,Rep] at j;obtain⟨b,off,h1,_⟩:=j;simp[execOp,ho,h1]
 ·simp only[aO,aT] at j;obtain⟨b,off,h1,_⟩:=j;simp[execOp,ho,h1]
 ·cases q
theorem iK {t:TypeId}{x:Operand}{a:Act}{w:World}{u:Value}{m:Int}(ho:o.op=.call { callee:=.builtin .len,args:= #[x],argTypes:= #[t] }) (hx:a.eval x=u) (c:(Builtin.len_ #[t] o.type #[u]).run P w=.ok (goInt m) w):
  (execOp a.eval o).run P w=.ok (.value (goInt m)) w:=by
 simp only[execOp,ho,resolve,map_toArray,Av,map_nil,hx,π,Aa,κ,invoke,builtin,c]
theorem aH7 {t e:TypeId}{i:TI}{x:Operand}{es:Nat}{l:List (List C)}(r:Tok P T) (ho:o.op=.call { callee:=.builtin .len,args:= #[x],argTypes:= #[t] }) (u:o.dst=some d) (j:d<n) (hi:T[t]?=some (some i)) (y:i.k=.sl e)
  (hx:opv st x=some (.one (.c (.sl es l)))):Step P n o st ⟨opr x,[]⟩ ⟨some (d,some (I .i64 (l.length:Int))),[]⟩:=by
 refine Step.value u j fun st' ha G S μ a w hs=>?_
 have q:=aL hs hx ha.1;simp only[aO,aT,Rep] at q;obtain⟨A,len,cap,h1,h2,_⟩:=q;refine⟨goInt l.length,iK ho h1 ?_,by simp[aO,aT,Rep,goInt]⟩;simp[Builtin.len_,Ah ((r.get hi).slice y) w,h2]
theorem aH9 {t e:TypeId}{i:TI}{x:Operand}(r:Tok P T) (ho:o.op=.call { callee:=.builtin .len,args:= #[x],argTypes:= #[t] }) (u:o.dst=some d) (j:d<n) (hi:T[t]?=some (some i)) (y:i.k=.sl e)
  (hx:opv st x=some (.one (.c .nl))):Step P n o st ⟨opr x,[]⟩ ⟨some (d,some (I .i64 0)),[]⟩:=by
 refine Step.value u j fun st' ha G S μ a w hs=>?_
 have q:=aL hs hx ha.1;simp only[aO,aT,Rep] at q;refine⟨goInt 0,iK ho q ?_,by simp[aO,aT,Rep,goInt]⟩;simp[Builtin.len_,Ah ((r.get hi).slice y) w]
theorem aIa {t e:TypeId}{i:TI}{x:Operand}{te es id off len sz:Nat}{elems:List (List C)}{fz:Nat}(r:Tok P T) (ho:o.op=.call { callee:=.builtin .len,args:= #[x],argTypes:= #[t] }) (B:o.dst=some d) (u:d<n) (hi:T[t]?=some (some i)) (y:i.k=.sl e)
  (hx:opv st x=some (.one (.hs id off len sz))) (hh:st.h id=some (.arr te es elems fz)) (hsz:sz=elems.length):Step P n o st ⟨opr x,[id]⟩ ⟨some (d,some (I .i64 (len:Int))),[]⟩:=by
 refine Step.value B u fun st' ha G S μ a w hs=>?_
 have c:=aL hs hx ha.1;have j:st'.h id=some (.arr te es elems fz):=by rw[ha.2 id (by simp),hh]
 simp only[aO,aT] at c;obtain⟨_,c | ⟨O,U,elems',Y,h1,h2,E⟩⟩:=c
 ·rw[j] at c;cases c
 rw[j] at h1;cases h1;obtain⟨h4,⟨J,q,M⟩ | ⟨b,base,cap,J,q⟩⟩:=E hsz
 ·subst q;simp at hsz;have A:len=0:=by omega
  refine⟨goInt len,iK ho M ?_,by simp[aO,aT,Rep,goInt]⟩;simp[Builtin.len_,Ah ((r.get hi).slice y) w,A]
 ·refine⟨goInt len,iK ho q ?_,by simp[aO,aT,Rep,goInt]⟩;simp[Builtin.len_,Ah ((r.get hi).slice y) w]
theorem aD3 {t:TypeId}{i:TI}{x:Operand}{s:List UInt8}(j:Tok P T) (ho:o.op=.call { callee:=.builtin .len,args:= #[x],argTypes:= #[t] }) (q:o.dst=some d) (c:d<n) (hi:T[t]?=some (some i)) (r:i.k=.str)
  (hx:opv st x=some (Go.AM.T s)):Step P n o st ⟨opr x,[]⟩ ⟨some (d,some (I .i64 (s.length:Int))),[]⟩:=by
 refine Step.value q c fun st' ha G S μ a w hs=>?_
 have u:=jN (aL hs hx ha.1);refine⟨goInt s.length,iK ho u ?_,by simp[aO,aT,Rep,goInt]⟩;simp[Builtin.len_,Ah ((j.get hi).str r) w];rfl
end
section
variable {P:Program}{n:Nat}{o:Oper}{st:St}{d:Nat}{T:TT}
theorem mH (off:Nat):∀(vs:List Value) (j:Nat) (cells:Array Value),off+j+vs.length≤cells.size→
  (vs.zipIdx j).foldl (fun cs (x:Value×Nat)=>cs.setIfInBounds (off+x.2) x.1) cells=⟨bQ cells.toList (off+j) vs⟩
 | [],j,cells,_=>by simp[bQ]
 | v::vs,j,cells,h=>by
  simp only[ε] at h;have B:=mH off vs (j+1) (cells.setIfInBounds (off+j) v) (by simp;omega);simp only[List.zipIdx_cons,List.foldl_cons,B];congr 1;unfold bQ;simp only[Array.toList_setIfInBounds];apply B6;intro k;simp only[B2,ζ,Am,length_set,Au,ε,Aj,Ak,List.getElem?_set];have r:min (off+(j+1)) cells.size=off+j+1:=by omega
  have u:min (off+j) cells.size=off+j:=by omega
  simp only[r,u];by_cases y:k<off+j
  ·have c:k<off+j+1+vs.length:=by omega
   have a2:k<off+j+1:=by omega
   have a3:k<off+(j+1):=by omega
   have a4:k<off+j+(vs.length+1):=by omega
   have a5:¬off+j=k:=by omega
   simp[y,c,a2,a3,a4,a5]
  ·by_cases E:k=off+j
   ·subst E;have c:off+j<off+j+1+vs.length:=by omega
    have a5:off+j<cells.size:=by omega
    have q:off+j<off+(j+1):=by omega
    simp[c,a5,q]
   ·by_cases A:k<off+j+1+vs.length
    ·have a2:¬k<off+j+1:=by omega
     have a4:k<off+j+(vs.length+1):=by omega
     have q:k-(off+j)=(k-(off+j+1))+1:=by omega
     simp[y,A,a2,a4,q]
    ·have a4:¬k<off+j+(vs.length+1):=by omega
     have a5:¬off+j=k:=by omega
     simp[A,a4,a5,show off+(j+1)+vs.length+(k-(off+j+1+vs.length))=k by omega,show off+j+(vs.length+1)+(k-(off+j+(vs.length+1)))=k by omega]
def nT (st:St):List (Nat×Operand)→Option (List (Nat×List R))
 | []=>some []
 | (i,x)::ps=>match opv st x with
  | some v=>match fF v with
   | some rs=>match nT st ps with | some l=>some ((i,rs)::l) | none=>none
   | none=>none
  | none=>none
def eF:List (Nat×Operand)→List Nat
 | []=>[]
 | (_,x)::ps=>opr x++eF ps
def aB7 (places:List (Nat×Nat)):List R→List (Nat×List R)→Option (List R)
 | cells,[]=>some cells
 | cells,(i,rs)::ps=>match places[i]? with
  | some (off,size)=>if Nat.beq rs.length size&&Nat.ble (off+rs.length) cells.length then aB7 places (bQ cells off rs) ps else none
  | none=>none
def jM (T:TT):List (Nat×TypeId)→Option (List (Nat×Nat))
 | []=>some []
 | (off,t)::fs=>match T[t]? with
  | some (some i)=>match jM T fs with | some l=>some ((off,i.size)::l) | none=>none
  | _=>none
theorem aBu {G:Ctx}{S:Sto}{μ:Mu}{st':St}{a:Act}{w:World}(hs:Sim G n S μ st' a w):∀(ps:List (Nat×Operand)) (l:List (Nat×List R)),nT st ps=some l→(∀t∈eF ps,st'.e t=st.e t)→
  ∃vs:List (Nat×Value),ps.map (fun(i,x)=>(i,a.eval x))=vs∧vs.length=l.length∧∀(k:Nat) (p:Nat×List R),l[k]?=some p→∃v:Value,vs[k]?=some (p.1,v)∧aP S μ st'.h p.2 v.cells.toList:=by
 intro ps
 induction ps with
 | nil=>intro l h _;simp[nT] at h;subst h;exact⟨[],rfl,rfl,fun k p h=>by simp at h⟩
 | cons p ps j=>
  obtain⟨i,x⟩:=p;intro l h ha;simp only[nT] at h;split at h
  ·rename_i v r;split at h
   ·rename_i rs hc;split at h
    ·rename_i u c;cases h;obtain⟨vs,h1,h2,y⟩:=j u c fun t ht=>ha t (by simp[eF,ht])
     refine⟨(i,a.eval x)::vs,by simp[h1],by simp[h2],fun k q hq=>?_⟩;cases k with
     | zero=>
      simp at hq;subst hq;exact⟨a.eval x,rfl,cV (aL hs r fun t ht=>ha t (by simp[eF,ht])) hc⟩
     | succ k=>simp at hq;simpa using y k q hq
    ·cases h
   ·cases h
  ·cases h
theorem qW {S:Sto}{μ:Mu}{H:bZ}{cells rs:List R}{vs us:List Value}{off:Nat}(h:aP S μ H cells vs) (k:aP S μ H rs us):aP S μ H (bQ cells off rs) (bQ vs off us):=by
 have hl:=k.length;unfold bQ;rw[hl];exact((h.take off).append k).append (h.drop _)
theorem aFc {S:Sto}{μ:Mu}{H:bZ}{places:List (Nat×Nat)}:∀(ps:List (Nat×List R)) (vs:List (Nat×Value)) (cells:List R) (cs:Array Value) (out:List R),aB7 places cells ps=some out→aP S μ H cells cs.toList→
  vs.length=ps.length→(∀(k:Nat) (p:Nat×List R),ps[k]?=some p→∃v:Value,vs[k]?=some (p.1,v)∧aP S μ H p.2 v.cells.toList)→
  ∃c,Instr.fill (places[·]?) cs vs=some c∧aP S μ H out c.toList:=by
 intro ps
 induction ps with
 | nil=>
  intro vs cells cs out h j hl _;simp at hl;subst hl;simp[aB7] at h;subst h;exact⟨cs,rfl,j⟩
 | cons p ps J=>
  intro vs cells cs out h j hl hp;obtain⟨i,rs⟩:=p
  match vs,hl with
  | q::vs,hl=>
   obtain⟨v,y,hrel⟩:=hp 0 (i,rs) rfl;simp at y;subst y;simp only[aB7] at h;split at h
   ·rename_i off size A;split at h
    ·rename_i hc;simp only[τ] at hc;have O:=δ hc.1;have U:=Al hc.2;have B:=hrel.length;have E:=j.length;simp only[Au] at B E;have u:=mH off v.cells.toList 0 cs (by simp;omega);obtain⟨c,h1,h2⟩:=J vs (bQ cells off rs) ⟨bQ cs.toList off v.cells.toList⟩ out h (qW j hrel) (by simpa using hl) fun k p M=>by simpa using hp (k+1) p (by simpa using M)
     refine⟨c,?_,h2⟩;simp only[Instr.fill];rw[A];simp only[];have r:(v.cells.size≠size || decide (off+v.cells.size>cs.size))=false:=by
      simp only[Bool.or_eq_false_iff,decide_eq_false_iff_not];exact⟨by simp;omega,by omega⟩
     simp only[r,Ao,Bm];have I:(v.cells.zipIdx.foldl (fun cs (x:Value×Nat)=>cs.setIfInBounds (off+x.2) x.1) cs)=⟨bQ cs.toList off v.cells.toList⟩:=by
      rw[←Array.foldl_toList,Array.toList_zipIdx];simpa using u
     rw[←h1];congr 1
    ·cases h
   ·cases h
theorem r2 (c:Tok P T):∀(fs:List (Nat×TypeId)) (fields:List Field) (places:List (Nat×Nat)),fs=fields.map (fun f=>(f.offset,f.type))→jM T fs=some places→
  fields.mapM (fun f=>(P.info? f.type).map fun i=>(f.offset,i.size))=some places
 | _,[],places,h,hp=>by simp at h;subst h;simp[jM] at hp;subst hp;rfl
 | _,f::fields,places,h,hp=>by
  simp only[Av] at h;subst h;simp only[jM] at hp;split at hp
  ·rename_i i hi;split at hp
   ·rename_i l hl;cases hp;have j:=r2 c _ fields l rfl hl;have hsz:=(c.get hi).info;simp only[List.mapM_cons,j];cases hq:P.info? f.type with
    | none=>simp[hq] at hsz
    | some inf=>
     simp[hq] at hsz;simp[hsz]
   ·cases hp
  ·cases hp
theorem aLz {t:TypeId}{i:TI}{fs:List (Nat×TypeId)}{places:List (Nat×Nat)}{parts:Array (Nat×Operand)}{ps:List (Nat×List R)}{out:List R}(q:Tok P T) (ho:o.op=.build t parts) (B:o.dst=some d) (r:d<n) (hi:T[t]?=some (some i)) (E:i.k=.st fs)
  (u:jM T fs=some places) (y:nT st parts.toList=some ps) (I:aB7 places (i.zero.map R.c) ps=some out):Step P n o st ⟨eF parts.toList,[]⟩ ⟨some (d,some (aOf out)),[]⟩:=by
 refine Step.value B r fun st' ha G S μ a w hs=>?_
 obtain⟨vs,h1,h2,J⟩:=aBu hs _ _ y ha.1;obtain⟨fields,hu,A⟩:=(q.get hi).struct E;obtain⟨inf,dd,z,g1,g2,g3,g4,g5,g6,g7,g8⟩:=(q.get hi).ex;obtain⟨j,M,O⟩:=aFc (S:=S) (μ:=μ) (H:=st'.h) ps vs (i.zero.map R.c) z.cells out I (iE g7).toR h2 J;refine⟨.agg j,?_,?_⟩
 ·have hb:P.built t (parts.map fun(i,x)=>(i,a.eval x)).toList=some j:=by
   unfold Program.built;simp only[g1,hu,g6,r2 q fs fields.toList places A u];rw[←M,←h1];simp
  simp only[execOp,ho,π,run_build w t _ j hb,κ,Aa]
 ·have:=aA5 O;simpa using this
theorem aLw {t M:TypeId}{i c:TI}{fs:List (Nat×TypeId)}{f j:Nat}{x:Operand}{v y:V}{rs:List R}(r:Tok P T) (ho:o.op=.field t x f) (hd:o.dst=some d) (O:d<n) (hi:T[t]?=some (some i)) (hk:i.k=.st fs) (E:fs[f]?=some (j,M)) (q:T[M]?=some (some c))
  (hx:opv st x=some v) (U:(match v with | .pa _=>true | .ma _=>true | _=>false)=true) (hc:fF v=some rs) (hl:Nat.ble (j+c.size) rs.length=true) (hy:iS c ((rs.drop j).take c.size)=some y):Step P n o st ⟨opr x,[]⟩ ⟨some (d,some y),[]⟩:=by
 refine Step.value hd O fun st' ha G S μ a w hs=>?_
 have u:=aL hs hx ha.1;have hrel:=cV u hc;have I:∃cs,a.eval x=.agg cs:=by
  cases v<;>simp only[aO] at u<;>simp at U
  ·obtain⟨vs,h,_⟩:=u;exact⟨_,h⟩
  ·obtain⟨vs,h,_⟩:=u;exact⟨_,h⟩
 obtain⟨cs,A⟩:=I;rw[A] at hrel;simp only[Value.cells] at hrel;have Y:=hrel.length;have hl':=Al hl;simp only[Au] at Y;obtain⟨fields,h1,h2⟩:=(r.get hi).struct hk;rw[h2] at E;simp only[List.getElem?_map,Option.map_eq_some_iff,Array.getElem?_toList] at E;obtain⟨fl,h3,h4⟩:=E;cases h4;have J:=jP ((hrel.drop fl.offset).take c.size) hy;refine⟨_,?_,J⟩;simp only[execOp,ho,A,π,Instr.field,Ah h1 w,κ,h3,asAgg,Aa,part,(r.get q).agg_run w];cases aa:c.k.agg with
 | true=>
  simp only[Ch,π,(r.get q).size_run w,κ,Aa];congr 3;have:(cs.extract fl.offset (fl.offset+c.size)).toList=(cs.toList.drop fl.offset).take c.size:=by simp
  rw[←this]
 | false=>
  have ab:=(r.get q).one aa;simp only[Ao,Bm];have B:fl.offset<cs.size:=by omega
  have he:cs[fl.offset]?=some cs[fl.offset]:=by simp[B]
  rw[he];simp only[Aa,κ];congr 2;rw[ab,List.take_one,List.head?_drop];simp[B]
end
inductive Cle:C→C→Prop
 | refl {x}:Cle x x
 | nl {es}:Cle .nl (.sl es [])
 | sn {es l}:Cle (.sn es l) (.sl es l)
 | sg {te es l}:Cle (.sg te es l) (.sl es l)
theorem Cle.rep {S:Sto}{x y:C}{v:Value}(h:Cle x y) (k:Rep S x v):Rep S y v:=by
 cases h with
 | refl=>exact k
 | sg=>
  simp only[Rep] at k ⊢;obtain⟨a,len,cap,h1,h2,j,q,c⟩:=k;rcases c with⟨rfl,c,r⟩ | ⟨b,o,rfl,r,_⟩
  ·refine⟨none,len,cap,h1,h2,j,q,fun _=>⟨c,r⟩,by simp,0,0,by simp,?_⟩;have:(_:List (List C)).length=0:=h2.symm.trans c;rw[An this];simp[bF]
  ·exact⟨some ⟨b,o,none⟩,len,cap,h1,h2,j,q,by simp,fun u e _=>by cases e;rfl,b,o,fun u e=>by cases e;exact⟨rfl,rfl⟩,r⟩
 | nl=>
  simp only[Rep] at k ⊢;exact⟨none,0,0,k,by simp,le_refl _,Ac _,fun _=>⟨rfl,rfl⟩,by simp,0,0,by simp,by simp[bF]⟩
 | sn=>
  simp only[Rep] at k ⊢;obtain⟨b,o,sp,len,cap,h1,h2,j,q,A,c⟩:=k;exact⟨some ⟨b,o,sp⟩,len,cap,h1,h2,j,q,by simp,by rintro u ⟨⟩;exact A,b,o,by rintro u ⟨⟩;exact⟨rfl,rfl⟩,c⟩
inductive PureL (h:bZ):List Nat→List R→List C→Prop
 | nil:PureL h [] [] []
 | c {ids rs cs x y}:Cle x y→PureL h ids rs cs→PureL h ids (.c x::rs) (y::cs)
 | hs {ids rs cs id off len sz te es elems e}:h id=some (.arr te es elems 2)→sz=elems.length→e=(elems.drop off).take len→PureL h ids rs cs→PureL h (id::ids) (.hs id off len sz::rs) (.sl es e::cs)
 | any {ids rs cs r}:PureL h ids rs cs→PureL h ids (r::rs) (.any::cs)
 | fn {ids rs cs f}:PureL h ids rs cs→PureL h ids (.clo f []::rs) (.fn f::cs)
 | ras {ids ids' ids0 rs cs n es l fl rows}:ids0=ids'++ids→PureL h ids' l fl→fl=rows.flatten→(∀r∈rows,r.length=es)→rows.length=n→PureL h ids rs cs→PureL h ids0 (.ras n es l::rs) (.sl es rows::cs)
theorem PureL.of_pure {h:bZ}:∀{cs:List C},PureL h [] (cs.map R.c) cs
 | []=>.nil
 | _::_=>.c .refl PureL.of_pure
def aPd:List R→List C
 | []=>[]
 | .c x::l=>x::aPd l
 | .clo f []::l=>.fn f::aPd l
 | _::l=>.any::aPd l
theorem PureL.ofA {h:bZ}:∀{rs:List R},PureL h [] rs (aPd rs)
 | []=>.nil
 | .c _::_=>.c .refl .ofA
 | .hs ..::_=>.any .ofA
 | .tl ..::_=>.any .ofA
 | .vp ..::_=>.any .ofA
 | .ep ..::_=>.any .ofA
 | .mr ..::_=>.any .ofA
 | .clo _ []::_=>.fn .ofA
 | .clo _ (_::_)::_=>.any .ofA
 | .mth ..::_=>.any .ofA
 | .yl ..::_=>.any .ofA
 | .ra ..::_=>.any .ofA
 | .rp ..::_=>.any .ofA
 | .ras ..::_=>.any .ofA
 | .pas ..::_=>.any .ofA
theorem aPp {S:Sto}{μ:Mu}{H:bZ}{w:World}{id off len sz te es:Nat}{elems:List (List C)}{v:Value}(hO:j6 S μ H w id (.arr te es elems 2)) (hh:H id=some (.arr te es elems 2)) (hsz:sz=elems.length)
  (c:aT S μ H (.hs id off len sz) v):Rep S (.sl es ((elems.drop off).take len)) v:=by
 simp only[aT] at c;obtain⟨_,c | ⟨A,B,elems',E,h1,h2,r⟩⟩:=c
 ·rw[hh] at c;cases c
 rw[hh] at h1;cases h1;obtain⟨I,⟨q,j,u⟩ | ⟨b,base,cap,q,j⟩⟩:=r hsz
 ·subst j;simp only[Rep];exact⟨none,0,0,u,by simp,le_refl _,Ac _,fun _=>⟨rfl,rfl⟩,by simp,0,0,by simp,by simp[bF]⟩
 ·obtain⟨g0,vs,g1,g2,g3,g4,g5,g6,g7,g8⟩:=hO.arr q;simp only[Rep];have hlen:((elems.drop off).take len).length=len:=by simp;omega
  refine⟨_,len,cap-off,j,hlen.symm,by omega,le_trans (Nat.sub_le _ _) g4.1,by simp,by rintro y ⟨⟩;exact fun _=>rfl,b,base+off*es,by rintro y ⟨⟩;exact⟨rfl,rfl⟩,?_⟩;have:=bF.of_flat g0 g5 (g8 rfl);exact(this.drop off).take len
theorem PureL.rel {S:Sto}{μ:Mu}{H H0:bZ}{w:World}:∀{ids:List Nat}{rs:List R}{cs:List C}{vs:List Value},PureL H0 ids rs cs→(∀i∈ids,H i=H0 i)→(∀id o,H id=some o→j6 S μ H w id o)→aP S μ H rs vs→bW S cs vs:=by
 intro ids rs cs vs hp
 induction hp generalizing vs with
 | nil=>intro _ _ h;simp only[aP] at h;subst h;simp[bW]
 | c hc _ j=>
  intro hi hO h;simp only[aP] at h;obtain⟨v,vs',rfl,h1,h2⟩:=h;simp only[aT] at h1;simp only[bW];exact⟨v,vs',rfl,hc.rep h1,j hi hO h2⟩
 | @ras ids ids' ids0 rs cs n es l fl rows q _ r u hn _ y j=>
  subst q;intro hi hO h;simp only[aP] at h;obtain⟨v,vs',rfl,h1,h2⟩:=h;simp only[aT] at h1;simp only[bW];refine⟨v,vs',rfl,?_,j (fun i hh=>hi i (by simp[hh])) hO h2⟩;obtain⟨a,cap,g1,g2,g3,g4,g5,g6,b,o,g7,us,g8,g9⟩:=h1;have g10:=y (fun i hh=>hi i (by simp[hh])) hO g8;subst r;simp only[Rep];exact⟨a,n,cap,g1,hn.symm,g3,g4,g5,fun B e _=>g6 B e,b,o,g7,bF.of_flat u g10 g9⟩
 | any _ j=>
  intro hi hO h;simp only[aP] at h;obtain⟨v,vs',rfl,h1,h2⟩:=h;simp only[bW];exact⟨v,vs',rfl,by simp only[Rep];exact h1.one,j hi hO h2⟩
 | fn _ j=>
  intro hi hO h;simp only[aP] at h;obtain⟨v,vs',rfl,h1,h2⟩:=h;simp only[aT,aP] at h1;obtain⟨us,rfl,rfl⟩:=h1;simp only[bW];exact⟨_,vs',rfl,by simp only[Rep],j hi hO h2⟩
 | @hs ids rs cs id off len sz te es elems e he hsz A _ j=>
  intro hi hO h;simp only[aP] at h;obtain⟨v,vs',rfl,h1,h2⟩:=h;simp only[bW];have hh:H id=some (.arr te es elems 2):=by rw[hi id (by simp),he]
  exact⟨v,vs',rfl,by rw[A];exact aPp (hO id _ hh) hh hsz h1,j (fun i h=>hi i (by simp[h])) hO h2⟩
inductive RowsV (st:St) (es:Nat):Nat→List Nat→List (Nat×Operand)→List (List C)→Prop
 | nil {k}:RowsV st es k [] [] []
 | cons {k ids ids' x ps v rs cs rows}:opv st x=some v→fF v=some rs→PureL st.h ids rs cs→Nat.beq rs.length es=true→RowsV st es (k+1) ids' ps rows→RowsV st es k (ids++ids') ((k,x)::ps) (cs::rows)
section
variable {P:Program}{n:Nat}{o:Oper}{st:St}{d:Nat}{T:TT}
theorem aBf {G:Ctx}{S:Sto}{μ:Mu}{st':St}{a:Act}{w:World}(hs:Sim G n S μ st' a w) {es:Nat}:∀{k:Nat}{ids:List Nat}{ps:List (Nat×Operand)}{rows:List (List C)},RowsV st es k ids ps rows→(∀t∈eF ps,st'.e t=st.e t)→(∀i∈ids,st'.h i=st.h i)→
  ∀(cells:Array Value),cells.size=(k+ps.length)*es→∃out:Array Value,Instr.fill (fun i=>some (i*es,es)) cells (ps.map fun(i,x)=>(i,a.eval x))=some out∧out.size=cells.size∧
   ∃us,bW S rows.flatten us∧out.toList=cells.toList.take (k*es)++us∧(∀r∈rows,r.length=es):=by
 intro k ids ps rows h
 induction h with
 | nil=>
  intro _ _ cells hc;refine⟨cells,rfl,rfl,[],by simp[bW],?_,by simp⟩;rw[Cc,A5];simp at hc;simp[hc]
 | @cons k ids ids' x ps v rs cs rows E hc hp hl _ I=>
  intro ha hi cells hsz;have U:=δ hl;have hrel:=cV (aL hs E fun t ht=>ha t (by simp[eF,ht])) hc;have c:=hp.rel (fun i h=>hi i (by simp[h])) hs.inv.obj hrel;have A:=hrel.length;simp only[Au] at A;simp only[ε] at hsz;have Y:(k+(ps.length+1))*es=k*es+es+ps.length*es:=by
   rw[A2,A2];omega
  have u:=mH (k*es) (a.eval x).cells.toList 0 cells (by simp only[Au];omega);have q:(bQ cells.toList (k*es) (a.eval x).cells.toList).length=cells.size:=by
   unfold bQ;simp;omega
  obtain⟨out,h1,h2,us,J,M,O⟩:=I (fun t ht=>ha t (by simp[eF,ht])) (fun i h=>hi i (by simp[h])) ⟨bQ cells.toList (k*es) (a.eval x).cells.toList⟩ (by
   simp only[size_toArray,q,hsz];congr 1
   omega)
  refine⟨out,?_,by rw[h2];simpa using q,(a.eval x).cells.toList++us,?_,?_,?_⟩
  ·simp only[Av,Instr.fill];have j:((a.eval x).cells.size≠es || decide (k*es+(a.eval x).cells.size>cells.size))=false:=by
    simp only[Bool.or_eq_false_iff,decide_eq_false_iff_not];exact⟨by simp;omega,by omega⟩
   simp only[j,Ao,Bm];have B:((a.eval x).cells.zipIdx.foldl (fun cs (x:Value×Nat)=>cs.setIfInBounds (k*es+x.2) x.1) cells)=⟨bQ cells.toList (k*es) (a.eval x).cells.toList⟩:=by
    rw[←Array.foldl_toList,Array.toList_zipIdx];simpa using u
   rw[←h1];congr 1
  ·rw[A9];exact c.append J
  ·rw[M];have:(bQ cells.toList (k*es) (a.eval x).cells.toList).take ((k+1)*es)=cells.toList.take (k*es)++(a.eval x).cells.toList:=by
    unfold bQ;apply take_left';simp;rw[A2];omega
   show(bQ cells.toList (k*es) (a.eval x).cells.toList).take ((k+1)*es)++us=_;rw[this,As]
  ·intro r y;rcases Ap.1 y with rfl | y
   ·have:=c.length;simp only[Au] at this;omega
   ·exact O r y
theorem RowsV.lengths {es k:Nat}{ids:List Nat}{ps:List (Nat×Operand)}{rows:List (List C)}(h:RowsV st es k ids ps rows):rows.length=ps.length:=by
 induction h with
 | nil=>rfl
 | cons _ _ _ _ _ c=>simp[c]
theorem aDw {t e:TypeId}{i c:TI}{len:Nat}{parts:Array (Nat×Operand)}{ids:List Nat}{rows:List (List C)}(id:Nat) (A:Tok P T) (ho:o.op=.buildSlice t len parts) (hd:o.dst=some d) (Y:d<n) (hi:T[t]?=some (some i)) (hk:i.k=.sl e) (u:T[e]?=some (some c))
  (y:RowsV st c.size 0 ids parts.toList rows) (hlen:Nat.beq len parts.size=true) (B:Nat.ble (len*c.size) 16777216=true) (O:Nat.ble len 16777216=true) (hid:st.h id=none):
  Step P n o st ⟨eF parts.toList,id::ids⟩ ⟨some (d,some (.one (.hs id 0 len len))),[(id,some (.arr e c.size rows 0))]⟩:=by
 refine Step.new hd Y hid (by simp) fun st' ha hid' G S μ a w hs=>?_
 have J:=δ hlen;have hsm:=Al B;obtain⟨z,hz,hzr,_⟩:=(A.get u).zero_run;have M:=(hzr S).length;rw[(A.get u).len] at M;simp only[Au] at M;have hrl:=y.lengths;simp only[Au] at hrl;have key:∀(cells:Array Value),cells.size=len*c.size→∃out:Array Value,Instr.fill (fun i=>some (i*c.size,c.size)) cells (parts.map fun(i,x)=>(i,a.eval x)).toList=some out∧out.size=len*c.size∧bW S rows.flatten out.toList∧(∀r∈rows,r.length=c.size):=by
  intro cells hc;obtain⟨out,h1,h2,us,q,j,h5⟩:=aBf hs y ha.1 (fun i h=>ha.2 i (by simp[h])) cells (by rw[hc,J];simp);refine⟨out,by rw[←h1];simp,by rw[h2,hc],?_,h5⟩;simp at j;rw[j];exact q
 have U:∃out:Array Value,(Instr.buildSlice t len (parts.map fun(i,x)=>(i,a.eval x))).run P w=.ok (.slice (some ⟨w.heap.size,0,none⟩) len len) (w.alloc (.cells out e))∧out.size=len*c.size∧bW S rows.flatten out.toList∧(∀r∈rows,r.length=c.size):=by
  by_cases h0:len*c.size=0
  ·obtain⟨out,h1,h2,q,j⟩:=key ((Array.range (len*c.size)).map ((#[]:Array Value)[· %(#[]:Array Value).size]!)) (by simp);refine⟨out,?_,h2,q,j⟩;have E:¬len*c.size>2^24:=by omega
   simp only[Instr.buildSlice,π,Ah ((A.get hi).slice hk) w,κ,(A.get u).size_run w];rw[ξ E,θ h0];simp only[π,κ,Aa,h1,fP]
  ·obtain⟨out,h1,h2,q,j⟩:=key ((Array.range (len*c.size)).map (z.cells[· %z.cells.size]!)) (by simp);refine⟨out,?_,h2,q,j⟩;have E:¬len*c.size>2^24:=by omega
   simp only[Instr.buildSlice,π,Ah ((A.get hi).slice hk) w,κ,(A.get u).size_run w];rw[ξ E,ξ h0];simp only[π,hz w,κ,Aa,h1,fP]
 obtain⟨out,h1,h2,q,j⟩:=U;have hlm:len≤maxLen:=by
  have:=Al O;unfold maxLen;omega
 refine⟨_,_,.slice (some ⟨w.heap.size,0,none⟩) len len,(0,len),?_,WChg.alloc w (.cells out e),?_,?_⟩
 ·simp only[execOp,ho,π,h1,κ,Aa]
 ·have I:rows.length=len:=by omega
  refine⟨j,.inr ⟨w.heap.size,0,len,out.toList,aJ _ _ _,B1 w _,by simp[h2],by omega,⟨?_,pQ hs.inv⟩,?_,fun _ o _=>fB hs.inv o,fun o _=>fB hs.inv o,fun e=>by cases e⟩⟩
  ·exact hlm
  ·simp only[B5];rw[A5 (by simp[h2,I])];exact q
 ·simp only[aO,aT];have I:rows.length=len:=by omega
  exact⟨⟨_,_,_,rfl⟩,.inr ⟨e,c.size,rows,0,aJ _ _ _,by omega,fun _=>⟨by omega,.inr ⟨w.heap.size,0,len,aJ _ _ _,by simp⟩⟩⟩⟩
end
inductive Src (st:St) (es:Nat):List Nat→V→List (List C)→Prop
 | hs {id off len sz te elems fz rows}:st.h id=some (.arr te es elems fz)→sz=elems.length→rows=(elems.drop off).take len→Src st es [id] (.one (.hs id off len sz)) rows
 | all {id sz te elems fz}:st.h id=some (.arr te es elems fz)→sz=elems.length→Src st es [id] (.one (.hs id 0 sz sz)) elems
 | sl {l}:Src st es [] (.one (.c (.sl es l))) l
 | nl:Src st es [] (.one (.c .nl)) []
 | sn {l}:Src st es [] (.one (.c (.sn es l))) l
theorem uR {α:Type}{es:Nat}:∀{l:List (List α)},(∀r∈l,r.length=es)→∀k:Nat,(l.take k).flatten=l.flatten.take (k*es)
 | [],_,k=>by simp
 | x::xs,hl,0=>by simp
 | x::xs,hl,k+1=>by
  have hx:=hl x (by simp);have c:=uR (l:=xs) (fun r j=>hl r (by simp[j])) k;rw[A8,A9,A9,c,List.take_append,A5 (l:=x) (by rw[hx,A2];omega)];rw[show(k+1)*es-x.length=k*es by rw[hx,A2];omega]
theorem uT {α:Type}{es:Nat}:∀{l:List (List α)},(∀r∈l,r.length=es)→∀k:Nat,(l.drop k).flatten=l.flatten.drop (k*es)
 | [],_,k=>by simp
 | x::xs,hl,0=>by simp
 | x::xs,hl,k+1=>by
  have hx:=hl x (by simp);have c:=uT (l:=xs) (fun r j=>hl r (by simp[j])) k;rw[Ck,A9,c,drop_append,drop_of_length_le (l:=x) (by rw[hx,A2];omega),Br];rw[show(k+1)*es-x.length=k*es by rw[hx,A2];omega]
theorem bF.flat {S:Sto}{es b:Nat}:∀{l:List (List C)}{o:Nat},bF S es b l o→∃vs,bW S l.flatten vs∧dS S b o vs∧∀r∈l,r.length=es
 | [],_,_=>⟨[],by simp[bW],fun i v h=>by simp at h,by simp⟩
 | r::rs,o,h=>by
  simp only[bF] at h;obtain⟨h1,⟨vs,h2,c⟩,j⟩:=h;obtain⟨us,u,y,A⟩:=bF.flat j;have hl:=h2.length;refine⟨vs++us,by rw[A9];exact h2.append u,fun i v hi=>?_,?_⟩
  ·rw[B2] at hi;split at hi
   ·exact c i v hi
   ·have:=y _ v hi;rwa [show o+es+(i-vs.length)=o+i by omega] at this
  ·intro q hq;rcases Ap.1 hq with rfl | hq
   ·exact h1
   ·exact A q hq
theorem Src.rel {G:Ctx}{n:Nat}{S:Sto}{μ:Mu}{st st':St}{a:Act}{w:World}{es:Nat}{ids:List Nat}{y:V}{rows:List (List C)}{v:Value}(hs:Sim G n S μ st' a w) (h:Src st es ids y rows) (hi:∀i∈ids,st'.h i=st.h i) (q:aO S μ st'.h y v):
  ∃B c news,v=.slice B rows.length c∧bW S rows.flatten news∧(∀r∈rows,r.length=es)∧(B=none→rows=[])∧∀x,B=some x→∀j u,news[j]?=some u→w.cell? (x.add j)=some u:=by
 have J:∀{id off len sz te elems fz rows},st.h id=some (.arr te es elems fz)→sz=elems.length→rows=(elems.drop off).take len→(∀i∈[id],st'.h i=st.h i)→aO S μ st'.h (.one (.hs id off len sz)) v→
   ∃B c news,v=.slice B rows.length c∧bW S rows.flatten news∧(∀r∈rows,r.length=es)∧(B=none→rows=[])∧∀x,B=some x→∀j u,news[j]?=some u→w.cell? (x.add j)=some u:=by
  intro id off len sz te elems fz rows he hsz E hi q;have hh:st'.h id=some (.arr te es elems fz):=by rw[hi id (by simp),he]
  simp only[aO,aT] at q;obtain⟨_,q | ⟨te',es',elems',fz',h1,h2,M⟩⟩:=q
  ·rw[hh] at q;cases q
  rw[hh] at h1;cases h1;obtain⟨h4,⟨Y,O,h7⟩ | ⟨b,base,cap,Y,O⟩⟩:=M hsz
  ·subst O;simp at E;subst E;exact⟨none,0,[],h7,by simp[bW],by simp,fun _=>rfl,by simp⟩
  ·obtain⟨g0,vs,g1,g2,g3,g4,g5,g6,g7,g8⟩:=(hs.inv.obj id _ hh).arr Y;have hrl:rows.length=len:=by rw[E];simp;omega
   have hfl:rows.flatten=(elems.flatten.drop (off*es)).take (len*es):=by
    rw[E,uR (fun r E=>g0 r (List.mem_of_mem_drop E)),uT g0]
   refine⟨_,cap-off,_,by rw[hrl];exact O,by rw[hfl];exact(g5.drop (off*es)).take (len*es),fun r hr'=>g0 r (List.mem_of_mem_drop (Cq (E▸hr'))),by simp,?_⟩;rintro x ⟨⟩ j u A;rw[Addr.add_mid,cell_of_row w b _ ⟨vs⟩ te (0,0) g1];rw[Aj] at A;split at A
   ·rw[Ak,Aj] at A;split at A
    ·rw[Ak] at A;simpa [add_assoc] using A
    ·cases A
   ·cases A
 cases h with
 | hs he hsz E=>exact J he hsz E hi q
 | all he hsz=>
  subst hsz;exact J he rfl (by simp) hi q
 | sl=>
  simp only[aO,aT,Rep] at q;obtain⟨B,len,cap,h1,h2,M,h4,Y,O,b,off,h7,h8⟩:=q;obtain⟨vs,I,q2,q3⟩:=bF.flat h8;refine⟨B,cap,vs,by rw[h1,h2],I,q3,fun e=>An (by rw[←h2];exact(Y e).1),?_⟩;rintro x rfl j u A;obtain⟨h9,h10⟩:=h7 x rfl
  have aa:=O x rfl (by
   rintro rfl;have U:=An (show _=0 from Nat.le_zero.1 (h2▸M));rw[U] at I;simp[bW] at I;subst I
   simp at A)
  have hx:x=⟨b,off,none⟩:=by cases x;simp_all
  subst hx;rw[Addr.add_mid];exact hs.inv.holds.cell (q2 j u A)
 | nl=>
  simp only[aO,aT,Rep] at q;exact⟨none,0,[],q,by simp[bW],by simp,fun _=>rfl,by simp⟩
 | sn=>
  simp only[aO,aT,Rep] at q;obtain⟨b,off,sp,len,cap,h1,h2,M,h4,hsp,h8⟩:=q;obtain⟨vs,I,q2,q3⟩:=bF.flat h8;refine⟨some ⟨b,off,sp⟩,cap,vs,by rw[h1,h2],I,q3,by simp,?_⟩;rintro x ⟨⟩ j u A
  have aa:=hsp (by
   rintro rfl;have U:=An (show _=0 from Nat.le_zero.1 (h2▸M));rw[U] at I;simp[bW] at I;subst I
   simp at A)
  subst aa;rw[Addr.add_mid];exact hs.inv.holds.cell (q2 j u A)
section
variable {P:Program}{n:Nat}{o:Oper}{st:St}{d:Nat}{T:TT}
theorem j0 (w:World) (t ty e:TypeId) (i:TypeInfo) (ht:P.underlying t=some (.slice e)) (hi:P.info? e=some i)
  (g base q r:Nat) (cur:Array Value) (I:w.heap[g]?=some (.cells cur e (0,0)))
  (a:Addr) (m c:Nat) (news:List Value) (hl:news.length=m*i.size) (y:∀j u,news[j]?=some u→w.cell? (a.add j)=some u) (h1:∀u∈news,u.oneCell'=true)
  (A:q+m≤r) (E:base+q*i.size+news.length≤cur.size):
  (Builtin.append_ #[t,t] ty #[.slice (some ⟨g,base,none⟩) q r,.slice (some a) m c]).run P w=
   .ok (.slice (some ⟨g,base,none⟩) (q+m) r) (w.setRow g (cur.toList.take (base+q*i.size)++news++cur.toList.drop (base+q*i.size+news.length)).toArray):=by
 have J:=run_firstCells_some (P:=P) w i.size m a m c news hl y;have B:=run_storeCells_at P g (base+q*i.size) e news 0 cur w I (by simpa using E) h1;simp only[Cf] at B;simp[Builtin.append_,Ah ht,sizeOf,typeInfo,hi,Builtin.lenOf,A,J,Addr.add_mid,B]
theorem jF (w:World) (t ty e:TypeId) (i:TypeInfo) (ht:P.underlying t=some (.slice e)) (hi:P.info? e=some i) (s:Option Addr) (u:Option Addr) (j q c:Nat) (r:j≤q):
  (Builtin.append_ #[t,t] ty #[.slice s j q,.slice u 0 c]).run P w=.ok (.slice s j q) w:=by
 cases s<;>cases u<;>simp[Builtin.append_,Ah ht,sizeOf,typeInfo,hi,Builtin.lenOf,r,Builtin.firstCells,loadCells,loadCellsFrom,storeCells]
theorem dV {x y:Operand}{t:TypeId}{a:Act}{w w':World}{u v r:Value}(ho:o.op=.call { callee:=.builtin .append,args:= #[x,y],argTypes:= #[t,t] }) (hx:a.eval x=u) (hy:a.eval y=v) (c:(Builtin.append_ #[t,t] o.type #[u,v]).run P w=.ok r w'):
  (execOp a.eval o).run P w=.ok (.value r) w':=by
 simp only[execOp,ho,resolve,map_toArray,Av,map_nil,hx,hy,π,Aa,κ,invoke,builtin,c]
theorem aE4 {y:V}{id te es fz:Nat}{elems elems':List (List C)}(hd:o.dst=some d) (J:d<n) (hlen:elems.length≤elems'.length) (r:Nat) {st':St}{G:Ctx}{S:Sto}{μ:Mu}{a:Act}{w:World}{K:Act→World→Prop}{Q:Exit→Act→World→Prop}
    (A:st'.h id=some (.arr te es elems fz)) (hs:Sim G n S μ st' a w) (Y:∀S' μ' a' w',Sim G n S' μ' (Eff.apply ⟨some (d,some y),[(id,some (.arr te es elems' r))]⟩ st') a' w'→K a' w')
    (h:∃w' v,(execOp a.eval o).run P w=.ok (.value v) w'∧
      ((w'=w∧elems'=elems∧(r=fz∨r=1)∧aO S μ st'.h y v)∨
       (elems.length<elems'.length∧∃b M c,(w.heap.size≤b∨∃c',μ id=some (b,c'))∧WChg w w' b M∧j6 S (upd μ id (some (b,c))) (upd st'.h id (some (.arr te es elems' r))) w' id (.arr te es elems' r)∧
         (∀o v,S.cell b o=some v→∃vs t fr,M=.cells vs t fr∧vs[o]?=some v)∧(∀m,S.mapo b=some m→w.heap.size≤b)∧aO S (upd μ id (some (b,c))) (upd st'.h id (some (.arr te es elems' r))) y v))):
    ∀ro,o.wpIn (Wd ro) 0 P a w K Q:=by
  obtain⟨w',v,hr,I⟩:=h;refine fun ro=>eB hr ?_
  rw[hd];rcases I with⟨rfl,rfl,hfz,O⟩ | ⟨hlt,b,M,c,hb,hw,hO,hS,hSm,O⟩
  · have B:Evolve S μ st'.h S μ (upd st'.h id (some (.arr te es elems' r))):=⟨S.le_refl,fun j x u=>by
      by_cases q:j=id
      · subst q
        rw[A] at u;cases u;exact⟨_,aJ _ _ _,by simp[AObj.succ]⟩
      · exact⟨x,by rw[bC _ _ _ q];exact u,x.succ_refl rfl⟩⟩
    have hi:Inv G S μ (upd st'.h id (some (.arr te es elems' r))) w':=by
      obtain⟨h1,h2,h3,h4,h5,h6,h7,h8,h9⟩:=hs.inv;have hold:∀j x,upd st'.h id (some (.arr te es elems' r)) j=some x→∃x',st'.h j=some x':=fun j x u=>by
        by_cases q:j=id
        · subst q;exact⟨_,A⟩
        · rw[bC _ _ _ q] at u;exact⟨_,u⟩
      refine⟨h1,fun j x u=>?_,fun i j x x' b c c' hi u hm hm'=>?_,fun i x b c hi hm=>?_,h5,h6,h7,h8.trans B,h9⟩
      · by_cases q:j=id
        · subst q
          rw[aJ] at u;cases u;have hO:=(h2 j _ A).evolve B rfl fun _ _ _=>⟨rfl,fun _=>rfl,rfl⟩
          rcases hfz with rfl | rfl
          · exact hO
          · obtain⟨g0,g1 | ⟨b,base,cap,vs,g1,g2,g3,g4,g5,g6,g7,g8,g9⟩⟩:=hO
            · exact⟨g0,.inl g1⟩
            · exact⟨g0,.inr ⟨b,base,cap,vs,g1,g2,g3,g4,g5,g6,(fun e=>by cases e),g8,(fun e=>by cases e)⟩⟩
        · rw[bC _ _ _ q] at u
          exact(h2 j x u).evolve B rfl fun _ _ _=>⟨rfl,fun _=>rfl,rfl⟩
      · obtain⟨_,E⟩:=hold _ _ hi
        obtain⟨_,hj'⟩:=hold _ _ u;exact h3 i j _ _ b c c' E hj' hm hm'
      · obtain⟨_,E⟩:=hold _ _ hi
        exact h4 i _ b c E hm
    have:=hs.put hi B J (x:=some y) (v:=v) (fun z U=>by cases U;exact aO.evolve B _ _ O);refine Y S μ _ _ ?_;unfold Eff.apply;rw[bY];exact this
  · have B:Evolve S μ st'.h S (upd μ id (some (b,c))) (upd st'.h id (some (.arr te es elems' r))):=⟨S.le_refl,fun j x u=>by
      by_cases q:j=id
      · subst q
        rw[A] at u;cases u;exact⟨_,aJ _ _ _,by simp only[AObj.succ,true_and];exact⟨hlen,fun e=>by omega⟩⟩
      · exact⟨x,by rw[bC _ _ _ q];exact u,x.succ_refl (bC _ _ _ q)⟩⟩
    have hi:=hs.inv.chg (id:=id) (cap:=c) (ao:=.arr te es elems' r) hw (hb.imp (fun h=>h) fun⟨c',h⟩=>⟨_,c',A,h⟩) B hO hS hSm;have:=hs.put hi B J (x:=some y) (v:=v) (fun z U=>by cases U;exact O);refine Y S (upd μ id (some (b,c))) _ _ ?_;unfold Eff.apply;rw[bY];exact this
theorem Step.grow {rd:Rd}{y:V}{id te es fz:Nat}{elems elems':List (List C)}(B:o.dst=some d) (r:d<n) (hid:st.h id=some (.arr te es elems fz)) (u:id∈rd.h) (hlen:elems.length≤elems'.length) (j:Nat)
    (h:∀st',eR rd st st'→st'.h id=some (.arr te es elems fz)→∀G S μ a w,Sim G n S μ st' a w→∃w' v,(execOp a.eval o).run P w=.ok (.value v) w'∧
      ((w'=w∧elems'=elems∧(j=fz∨j=1)∧aO S μ st'.h y v)∨
       (elems.length<elems'.length∧∃b A c,(w.heap.size≤b∨∃c',μ id=some (b,c'))∧WChg w w' b A∧j6 S (upd μ id (some (b,c))) (upd st'.h id (some (.arr te es elems' j))) w' id (.arr te es elems' j)∧
         (∀o v,S.cell b o=some v→∃vs t E,A=.cells vs t E∧vs[o]?=some v)∧(∀m,S.mapo b=some m→w.heap.size≤b)∧aO S (upd μ id (some (b,c))) (upd st'.h id (some (.arr te es elems' j))) y v))):
    Step P n o st rd ⟨some (d,some y),[(id,some (.arr te es elems' j))]⟩:=by
  intro st' ha G S μ a w K Q hs I;have q:st'.h id=some (.arr te es elems fz):=by rw[ha.2 id u,hid]
  exact aE4 B r hlen j q hs I (h st' ha q G S μ a w hs)
theorem w9 {t e:TypeId}{i q:TI}{x y:Operand}{id sz fz:Nat}{elems rows:List (List C)}{vy:V}{ids:List Nat}{st':St}{G:Ctx}{S:Sto}{μ:Mu}{a:Act}{w:World}(hT:Tok P T) (ho:o.op=.call { callee:=.builtin .append,args:= #[x,y],argTypes:= #[t,t] })
    (hi:T[t]?=some (some i)) (hk:i.k=.sl e) (hei:T[e]?=some (some q)) (hes:Nat.ble 1 q.size=true) (heb:Nat.ble 1 q.bytes=true)
    (hsz:sz=elems.length) (hroom:(elems.length+rows.length)*q.bytes≤140737488355328) (M:st'.h id=some (.arr e q.size elems fz)) (hs:Sim G n S μ st' a w)
    (hvx:aO S μ st'.h (.one (.hs id 0 sz sz)) (a.eval x)) (hvy:aO S μ st'.h vy (a.eval y)) (hsrc:Src st q.size ids vy rows) (hsi:∀i∈ids,st'.h i=st.h i):
    ∃w' v,(execOp a.eval o).run P w=.ok (.value v) w'∧
      ((w'=w∧elems++rows=elems∧((if fz=0 then 0 else 1)=fz∨(if fz=0 then 0 else 1)=1)∧aO S μ st'.h (.one (.hs id 0 (elems.length+rows.length) (elems.length+rows.length))) v)∨
       (elems.length<(elems++rows).length∧∃b bo c,(w.heap.size≤b∨∃c',μ id=some (b,c'))∧WChg w w' b bo∧j6 S (upd μ id (some (b,c))) (upd st'.h id (some (.arr e q.size (elems++rows) (if fz=0 then 0 else 1)))) w' id (.arr e q.size (elems++rows) (if fz=0 then 0 else 1))∧
         (∀o v,S.cell b o=some v→∃vs t fr,bo=.cells vs t fr∧vs[o]?=some v)∧(∀m,S.mapo b=some m→w.heap.size≤b)∧aO S (upd μ id (some (b,c))) (upd st'.h id (some (.arr e q.size (elems++rows) (if fz=0 then 0 else 1)))) (.one (.hs id 0 (elems.length+rows.length) (elems.length+rows.length))) v)):=by
  subst hsz;have hes':=Al hes;have heb':=Al heb;obtain⟨ad,c,news,E,B,hrl,hnone,hcell⟩:=hsrc.rel hs hsi hvy;have I:news.length=rows.length*q.size:=by rw[B.length,fZ hrl]
  obtain⟨inf,dd,z,g1,g2,g3,g4,g5,g6,g7,g8⟩:=(hT.get hei).ex;have hu:=(hT.get hi).slice hk;have hzs:z.cells.size=q.size:=by
    have h1:=(iE (S:=S) g7).length;rw[(hT.get hei).len] at h1;simpa using h1
  simp only[aO,aT] at hvx;obtain⟨_,hv | ⟨te',es',elems',fz',h1,h2,h3⟩⟩:=hvx
  · rw[M] at hv;cases hv
  rw[M] at h1;cases h1;obtain⟨h4,hcase⟩:=h3 rfl;have hbig:elems.length+rows.length≤140737488355328:=by
    have:(elems.length+rows.length)*1≤(elems.length+rows.length)*q.bytes:=Nat.mul_le_mul_left _ heb';omega
  have hone:∀u∈news,u.oneCell'=true:=(B.toR (μ:=μ) (H:=st'.h)).one;have hcap:∀old,elems.length+rows.length≤grownCap w (elems.length+rows.length) old e∧grownCap w (elems.length+rows.length) old e≤maxLen:=fun old=>
    ⟨grownCap_ge _ _ _ _,grownCap_le_maxLen _ _ _ _ (by unfold maxLen;omega)⟩
  have J:∀(O:List Value) (old:Nat),bW S elems.flatten O→0<rows.length→∀g0:(∀r∈elems,r.length=q.size),
      j6 S (upd μ id (some (w.heap.size,0,grownCap w (elems.length+rows.length) old e))) (upd st'.h id (some (.arr e q.size (elems++rows) (if fz=0 then 0 else 1))))
        (w.drew.alloc (.cells (O.toArray++news.toArray++Builtin.zeroCells z.cells (grownCap w (elems.length+rows.length) old e-(elems.length+rows.length))) e)) id (.arr e q.size (elems++rows) (if fz=0 then 0 else 1)):=by
    intro O old hol hpos g0;obtain⟨hc1,hc2⟩:=hcap old;have U:=hol.length;rw[fZ g0] at U;refine⟨?_,.inr ⟨w.heap.size,0,grownCap w (elems.length+rows.length) old e,(O.toArray++news.toArray++Builtin.zeroCells z.cells (grownCap w (elems.length+rows.length) old e-(elems.length+rows.length))).toList,aJ _ _ _,B1 w.drew _,?_,by simpa using hc1,⟨hc2,pQ hs.inv⟩,?_,fun _ o _=>fB hs.inv o,fun o _=>fB hs.inv o,fun e=>by split at e<;>cases e⟩⟩
    · intro r A
      rcases Bi.1 A with A | A
      · exact g0 r A
      · exact hrl r A
    · simp only[Array.toList_append,ζ,Au,size_zeroCells,hzs]
      simp only[U,I,Bb,←A2];exact Ar _ (by omega)
    · simp only[Array.toList_append,B5,ζ,Cm]
      rw[Cj (by simp[U,I,A2]),A5 (by simp[U,I,A2])];exact hol.append B
  have Y:(elems++rows).length=elems.length+rows.length:=by simp
  by_cases hm:rows.length=0
  · --nothing is appended
    have hr0:rows=[]:=An hm;have hfzz:(if fz=0 then 0 else 1)=fz∨(if fz=0 then 0 else 1)=1:=by
      by_cases h:fz=0
      · left;rw[θ h,h]
      · right;rw[ξ h]
    rcases hcase with⟨h5,h6,h7⟩ | ⟨b,base,cap,h5,h6⟩
    · refine⟨w,.slice none 0 0,dV ho h7 E (by rw[hm];exact jF w t o.type e inf hu g1 none ad 0 0 c (le_refl _)),.inl ⟨rfl,by rw[hr0,Cc],hfzz,?_⟩⟩
      simp only[aO,aT];exact⟨⟨_,_,_,rfl⟩,.inr ⟨e,q.size,elems,fz,M,by omega,fun _=>⟨by omega,.inl ⟨h5,h6,(by first | rfl | trivial)⟩⟩⟩⟩
    · obtain⟨q0,vs,q1,q2,q3,q4,q5,q6,q7,q8⟩:=(hs.inv.obj id _ M).arr h5
      refine⟨w,_,dV ho h6 E (by rw[hm];exact jF w t o.type e inf hu g1 _ ad elems.length _ c (by omega)),.inl ⟨rfl,by rw[hr0,Cc],hfzz,?_⟩⟩;simp only[aO,aT];exact⟨⟨_,_,_,rfl⟩,.inr ⟨e,q.size,elems,fz,M,by omega,fun _=>⟨by omega,.inr ⟨b,base,cap,h5,by rw[hm,Cf]⟩⟩⟩⟩
  · cases ad with
    | none=>exact absurd (by rw[hnone rfl];rfl) hm
    | some ad=>
      have hc:=hcell ad rfl;rcases hcase with⟨h5,h6,h7⟩ | ⟨b,base,cap,h5,h6⟩
      · --the first elements
        subst h6;simp only[length_nil,Bb] at hroom hbig J hcap;have A:=run_append_nil (P:=P) w t o.type e inf z hu g1 g6 ad rows.length c news (by rw[I,g3]) hc (by omega) (by omega) (by rw[g4];omega);refine⟨_,_,dV ho h7 E A,.inr ⟨by simp;omega,w.heap.size,_,(0,grownCap w rows.length 0 e),.inl (le_refl _),WChg.alloc_drew w _,?_,(fun o v e=>by rw[fB hs.inv] at e;cases e),fun m e=>le_refl _,?_⟩⟩
        · have:=J [] 0 (by simp[bW]) (by omega) (by simp)
          simpa using this
        · simp only[aO,aT]
          exact⟨⟨_,_,_,rfl⟩,.inr ⟨e,q.size,_,_,aJ _ _ _,by simp,fun _=>⟨by simp,.inr ⟨w.heap.size,0,_,aJ _ _ _,by simp⟩⟩⟩⟩
      · obtain⟨q0,vs,q1,q2,q3,q4,q5,q6,q7,q8⟩:=(hs.inv.obj id _ M).arr h5
        have hce:elems.length*q.size≤cap*q.size:=Ar _ q3;simp only[sub_zero,zero_mul,Cf] at h6;by_cases hroom':elems.length+rows.length≤cap
        · --there is room
          have hce2:(elems.length+rows.length)*q.size≤cap*q.size:=Ar _ hroom';rw[A2] at hce2;have A:=j0 (P:=P) w t o.type e inf hu g1 b base elems.length cap ⟨vs⟩ q1 ad rows.length c news (by rw[I,g3]) hc hone hroom' (by rw[g3,I];simp only[size_toArray];omega);rw[g3] at A;have hW:=WChg.setRow w b ⟨vs⟩ ⟨vs.take (base+elems.length*q.size)++news++vs.drop (base+elems.length*q.size+news.length)⟩ e (0,0) q1;refine⟨_,_,dV ho h6 E A,.inr ⟨by simp;omega,b,_,(base,cap),.inr ⟨_,h5⟩,hW,⟨?_,.inr ⟨b,base,cap,_,aJ _ _ _,hW.new,?_,by rw[Y];omega,q4,?_,?_,?_,fun e=>by split at e<;>cases e⟩⟩,?_,fun m e=>eL q4.2 m e,?_⟩⟩
          · intro r A
            rcases Bi.1 A with A | A
            · exact q0 r A
            · exact hrl r A
          · simp only[ζ,Am,Bg]
            omega
          · rw[Y,Cm]
            have e1:((vs.take (base+elems.length*q.size)++news++vs.drop (base+elems.length*q.size+news.length)).drop base).take ((elems.length+rows.length)*q.size)=(vs.drop base).take (elems.length*q.size)++news:=by
              rw[As,List.drop_append_of_le_length (by simp;omega),←As,Cj (by simp[A2];omega)];rw[A5 (by simp[A2];omega),drop_take];rw[show base+elems.length*q.size-base=elems.length*q.size by omega]
            rw[e1];exact q5.append B
          · intro e o ho
            exact q6 (Classical.byContradiction fun hne=>by rw[ξ hne] at e;cases e) o ho
          · intro o ho
            rw[Y,A2] at ho;exact q7 o (by omega)
          · intro o v e
            by_cases hlt:o<base+elems.length*q.size
            · obtain⟨vs0,t0,fr0,p1,p2⟩:=hs.inv.holds.1 b o v e
              rw[q1] at p1;cases p1;refine⟨_,_,_,rfl,?_⟩;simp only[Cd] at p2 ⊢;rw[As,A1 (by simp;omega),Aj,θ (by omega)];exact p2
            · rw[q7 o (by omega)] at e;cases e
          · simp only[aO,aT]
            exact⟨⟨_,_,_,rfl⟩,.inr ⟨e,q.size,_,_,aJ _ _ _,by simp,fun _=>⟨by simp,.inr ⟨b,base,cap,aJ _ _ _,by simp⟩⟩⟩⟩
        · --into a new block
          have A:=run_append_grow (P:=P) w t o.type e inf z hu g1 g6 ⟨b,base,none⟩ elems.length cap ((vs.drop base).take (elems.length*q.size)) (by rw[g3];simp;omega) (by
              intro j v hj;rw[Addr.add_mid,cell_of_row w b _ ⟨vs⟩ e (0,0) q1];rw[Aj] at hj;split at hj
              · rw[Ak] at hj
                simpa using hj
              · cases hj) ad rows.length c news (by rw[I,g3]) hc (by omega) (by omega) (by rw[g4];exact growslice_fits (by omega) hroom)
          have hq5:bW S elems.flatten ((vs.drop base).take (elems.length*q.size)):=q5;refine⟨_,_,dV ho h6 E A,.inr ⟨by simp;omega,w.heap.size,_,(0,grownCap w (elems.length+rows.length) cap e),.inl (le_refl _),WChg.alloc_drew w _,?_,(fun o v e=>by rw[fB hs.inv] at e;cases e),fun m e=>le_refl _,?_⟩⟩
          · have:=J _ cap hq5 (by omega) q0
            simpa using this
          · simp only[aO,aT]
            exact⟨⟨_,_,_,rfl⟩,.inr ⟨e,q.size,_,_,aJ _ _ _,by simp,fun _=>⟨by simp,.inr ⟨w.heap.size,0,_,aJ _ _ _,by simp⟩⟩⟩⟩
theorem yM {t e:TypeId}{i c:TI}{x y:Operand}{id sz fz:Nat}{elems rows:List (List C)}{r:V}{ids:List Nat}(O:Tok P T) (ho:o.op=.call { callee:=.builtin .append,args:= #[x,y],argTypes:= #[t,t] }) (U:o.dst=some d) (u:d<n)
  (hi:T[t]?=some (some i)) (Y:i.k=.sl e) (A:T[e]?=some (some c)) (B:Nat.ble 1 c.size=true) (E:Nat.ble 1 c.bytes=true)
  (hx:opv st x=some (.one (.hs id 0 sz sz))) (hh:st.h id=some (.arr e c.size elems fz)) (hsz:sz=elems.length) (hy:opv st y=some r) (q:Src st c.size ids r rows)
  (j:(elems.length+rows.length)*c.bytes≤140737488355328):
  Step P n o st ⟨opr x++opr y,id::ids⟩ ⟨some (d,some (.one (.hs id 0 (elems.length+rows.length) (elems.length+rows.length)))),[(id,some (.arr e c.size (elems++rows) (if fz=0 then 0 else 1)))]⟩:=by
 refine Step.grow U u hh (by simp) (by simp) _ fun st' ha I G S μ a w hs=>?_
 have J:=aL hs hx fun t ht=>ha.1 t (by simp[ht])
 have M:=aL hs hy fun t ht=>ha.1 t (by simp[ht])
 exact w9 O ho hi Y A B E hsz j I hs J M q fun i h=>ha.2 i (by simp[h])
end
mutual
def R.ren (σ:Nat→Nat):R→R
 | .c x=>.c x
 | .hs id off len sz=>.hs (σ id) off len sz
 | .tl id off len sz=>.tl (σ id) off len sz
 | .vp id off=>.vp (σ id) off
 | .ep id i fo sz=>.ep (σ id) i fo sz
 | .mr id=>.mr (σ id)
 | .clo f caps=>.clo f (R.renL σ caps)
 | .mth f x=>.mth f (x.ren σ)
 | .yl id=>.yl (σ id)
 | .ra id off len sz=>.ra (σ id) off len sz
 | .rp id i fo sz=>.rp (σ id) i fo sz
 | .ras n es l=>.ras n es (R.renL σ l)
 | .pas l=>.pas (R.renL σ l)
def R.renL (σ:Nat→Nat):List R→List R
 | []=>[]
 | r::rs=>r.ren σ::R.renL σ rs
end
mutual
def V.ren (σ:Nat→Nat):V→V
 | .one r=>.one (r.ren σ)
 | .pa l=>.pa l
 | .ma l=>.ma (R.renL σ l)
 | .tup l=>.tup (V.renL σ l)
def V.renL (σ:Nat→Nat):List V→List V
 | []=>[]
 | r::rs=>r.ren σ::V.renL σ rs
end
mutual
def R.refs:R→List Nat
 | .c _=>[]
 | .hs id _ _ _=>[id]
 | .tl id _ _ _=>[id]
 | .vp id _=>[id]
 | .ep id _ _ _=>[id]
 | .mr id=>[id]
 | .clo _ caps=>R.refsL caps
 | .mth _ x=>x.refs
 | .yl id=>[id]
 | .ra id _ _ _=>[id]
 | .rp id _ _ _=>[id]
 | .ras _ _ l=>R.refsL l
 | .pas l=>R.refsL l
def R.refsL:List R→List Nat
 | []=>[]
 | r::rs=>r.refs++R.refsL rs
end
mutual
def V.refs:V→List Nat
 | .one r=>r.refs
 | .pa _=>[]
 | .ma l=>R.refsL l
 | .tup l=>V.refsL l
def V.refsL:List V→List Nat
 | []=>[]
 | r::rs=>r.refs++V.refsL rs
end
def aDu:List (Nat×V)→List Nat
 | []=>[]
 | (_,v)::l=>v.refs++aDu l
def aH2:List (List R)→List Nat
 | []=>[]
 | r::l=>R.refsL r++aH2 l
def aN3 (σ:Nat→Nat):List (Nat×V)→List (Nat×V)
 | []=>[]
 | (t,v)::l=>(t,v.ren σ)::aN3 σ l
def aDs (σ:Nat→Nat):List (List R)→List (List R)
 | []=>[]
 | r::l=>R.renL σ r::aDs σ l
theorem pI:∀{l:List (Nat×V)}{t:Nat}{v:V},(t,v)∈l→∀i∈v.refs,i∈aDu l
 | (k,u)::l,t,v,h,i,hi=>by
  simp only[aDu,Bi];rcases Ap.1 h with h | h
  ·cases h;exact .inl hi
  ·exact .inr (pI h i hi)
theorem yL {σ:Nat→Nat}:∀{l:List (Nat×V)}{t:Nat}{v:V},(t,v)∈l→(t,v.ren σ)∈aN3 σ l
 | (k,u)::l,t,v,h=>by
  simp only[aN3];rcases Ap.1 h with h | h
  ·cases h;simp
  ·exact Ba _ (yL h)
theorem R.renL_length {σ:Nat→Nat}:∀{l:List R},(R.renL σ l).length=l.length
 | []=>rfl
 | _::l=>by simp[R.renL,R.renL_length (l:=l)]
theorem dQ {σ:Nat→Nat}:∀{l:List (List R)},(aDs σ l).length=l.length
 | []=>rfl
 | _::l=>by simp[aDs,dQ (l:=l)]
theorem R.renL_append {σ:Nat→Nat}:∀{l m:List R},R.renL σ (l++m)=R.renL σ l++R.renL σ m
 | [],_=>rfl
 | _::l,m=>by simp[R.renL,R.renL_append (l:=l)]
theorem R.refsL_append:∀{l m:List R},R.refsL (l++m)=R.refsL l++R.refsL m
 | [],_=>rfl
 | _::l,m=>by simp[R.refsL,R.refsL_append (l:=l)]
theorem tY {σ:Nat→Nat}:∀{l:List (List R)},(aDs σ l).flatten=R.renL σ l.flatten
 | []=>rfl
 | _::l=>by simp[aDs,tY (l:=l),R.renL_append]
theorem qY:∀{l:List (List R)},R.refsL l.flatten=aH2 l
 | []=>rfl
 | _::l=>by simp[aH2,qY (l:=l),R.refsL_append]
theorem jI {σ:Nat→Nat}{es:Nat}:∀{l:List (List R)},(∀r∈aDs σ l,r.length=es)→∀r∈l,r.length=es
 | [],_,r,h=>by simp at h
 | x::l,k,r,h=>by
  rcases Ap.1 h with rfl | h
  ·rw[←R.renL_length (σ:=σ)];exact k _ (by simp[aDs])
  ·exact jI (σ:=σ) (l:=l) (fun r c=>k r (by simp[aDs,c])) r h
def AObj.refs:AObj→List Nat
 | .var _ cells=>R.refsL cells
 | .lp _ _ _ e=>aDu e
 | .rarr _ _ elems=>aH2 elems
 | .tok r _=>r.refs
 | _=>[]
inductive Ole (σ:Nat→Nat):AObj→AObj→Prop
 | var {t cells cells'}:cells=R.renL σ cells'→Ole σ (.var t cells) (.var t cells')
 | arr {te es elems fz}:Ole σ (.arr te es elems fz) (.arr te es elems fz)
 | arr1 {te es elems fz}:Ole σ (.arr te es elems fz) (.arr te es elems 1)
 | map {agg ents}:Ole σ (.map agg ents) (.map agg ents)
 | dead:Ole σ .dead .dead
 | lp {st j i e e'}:e=aN3 σ e'→Ole σ (.lp st j i e) (.lp st j i e')
 | dfr:Ole σ .dfr .dfr
 | rarr {te es elems elems'}:elems=aDs σ elems'→Ole σ (.rarr te es elems) (.rarr te es elems')
 | tok {r r' k}:r=r'.ren σ→Ole σ (.tok r k) (.tok r' k)
theorem Ole.succ {σ:Nat→Nat}{o o':AObj}(h:Ole σ o o'):o.succ True o':=by
 cases h
 case rarr e=>subst e;simp[AObj.succ,dQ]
 all_goals simp[AObj.succ]
section
variable {S:Sto}{μ:Mu}{H H':bZ}{σ:Nat→Nat}
def Good (H H':bZ) (σ:Nat→Nat) (id:Nat):Prop:=∃o o',H (σ id)=some o∧H' id=some o'∧Ole σ o o'
mutual
theorem aT.ren:∀(r:R) (v:Value),(∀id∈r.refs,Good H H' σ id)→aT S μ H (r.ren σ) v→aT S (fun i=>μ (σ i)) H' r v
 | .c x,v,_,k=>by simpa only[aT,R.ren] using k
 | .hs id off len sz,v,h,k=>by
  obtain⟨o,o',h1,h2,q⟩:=h id (by simp[R.refs]);simp only[aT,R.ren] at k ⊢;refine⟨k.1,?_⟩;rcases k.2 with k | ⟨te,es,elems,fz,g1,g2,g3⟩
  ·rw[h1] at k;cases k;cases q;exact .inl h2
  ·rw[h1] at g1;cases g1;cases q
   ·exact .inr ⟨te,es,elems,_,h2,g2,g3⟩
   ·exact .inr ⟨te,es,elems,_,h2,g2,g3⟩
 | .tl id off len sz,v,h,k=>by
  obtain⟨o,o',h1,h2,q⟩:=h id (by simp[R.refs]);simp only[aT,R.ren] at k ⊢;refine⟨k.1,?_⟩;rcases k.2 with k | ⟨te,es,elems,fz,g1,g2,g3⟩
  ·rw[h1] at k;cases k;cases q;exact .inl h2
  ·rw[h1] at g1;cases g1;cases q
   ·exact .inr ⟨te,es,elems,_,h2,g2,g3⟩
   ·exact .inr ⟨te,es,elems,_,h2,g2,g3⟩
 | .vp id off,v,h,k=>by
  obtain⟨o,o',h1,h2,q⟩:=h id (by simp[R.refs]);simp only[aT,R.ren] at k ⊢;obtain⟨t,cells,b,c,g1,g2,g3⟩:=k;rw[h1] at g1;cases g1;cases q;exact⟨_,_,b,c,h2,g2,g3⟩
 | .ep id i fo sz,v,h,k=>by
  obtain⟨o,o',h1,h2,q⟩:=h id (by simp[R.refs]);simp only[aT,R.ren] at k ⊢;refine⟨k.1,?_⟩;rcases k.2 with k | ⟨te,es,elems,fz,g1,g2,g3⟩
  ·rw[h1] at k;cases k;cases q;exact .inl h2
  ·rw[h1] at g1;cases g1;cases q
   ·exact .inr ⟨te,es,elems,_,h2,g2,g3⟩
   ·exact .inr ⟨te,es,elems,_,h2,g2,g3⟩
 | .mr id,v,h,k=>by
  obtain⟨o,o',h1,h2,q⟩:=h id (by simp[R.refs]);simp only[aT,R.ren] at k ⊢;obtain⟨agg,ents,b,c,g1,g2,g3⟩:=k;rw[h1] at g1;cases g1;cases q;exact⟨_,_,b,c,h2,g2,g3⟩
 | .clo f caps,v,h,k=>by
  simp only[aT,R.ren] at k ⊢;obtain⟨vs,g1,g2⟩:=k;exact⟨vs,g1,aP.ren caps vs (by simpa only[R.refs] using h) g2⟩
 | .mth f x,v,h,k=>by
  simp only[aT,R.ren] at k ⊢;obtain⟨u,g1,g2⟩:=k;exact⟨u,g1,aT.ren x u (by simpa only[R.refs] using h) g2⟩
 | .rp id i fo sz,v,h,k=>by
  obtain⟨o,o',h1,h2,q⟩:=h id (by simp[R.refs]);simp only[aT,R.ren] at k ⊢;refine⟨k.1,?_⟩;rcases k.2 with k | ⟨te,es,elems,g1,g2,g3⟩
  ·rw[h1] at k;cases k;cases q;exact .inl h2
  ·rw[h1] at g1;cases g1;cases q;rename_i elems' e;subst e;rw[dQ] at g2 g3;exact .inr ⟨te,es,elems',h2,g2,g3⟩
 | .yl id,v,h,k=>by
  obtain⟨o,o',h1,h2,q⟩:=h id (by simp[R.refs]);simp only[aT,R.ren] at k ⊢;obtain⟨st,j,i,e,b,c,g1,g2,g3⟩:=k;rw[h1] at g1;cases g1;cases q;exact⟨_,_,_,_,b,c,h2,g2,g3⟩
 | .ra id off len sz,v,h,k=>by
  obtain⟨o,o',h1,h2,q⟩:=h id (by simp[R.refs]);simp only[aT,R.ren] at k ⊢;refine⟨k.1,?_⟩;rcases k.2 with k | ⟨te,es,elems,g1,g2,g3⟩
  ·rw[h1] at k;cases k;cases q;exact .inl h2
  ·rw[h1] at g1;cases g1;cases q;rename_i elems' e;subst e;rw[dQ] at g2 g3;refine .inr ⟨te,es,elems',h2,g2,fun e=>?_⟩;obtain⟨E,y⟩:=g3 e;refine⟨E,?_⟩;rcases y with⟨y,I,J⟩ | y
   ·exact .inl ⟨y,An (by rw[←dQ (σ:=σ),I];rfl),J⟩
   ·exact .inr y
 | .ras n es l,v,h,k=>by
  simp only[aT,R.ren] at k ⊢;obtain⟨a,cap,h1,h2,q,M,O,U,b,o,Y,vs,A,B⟩:=k;exact⟨a,cap,h1,by rw[h2,R.renL_length],q,M,O,U,b,o,Y,vs,aP.ren l vs (by simpa only[R.refs] using h) A,B⟩
 | .pas l,v,h,k=>by
  simp only[aT,R.ren] at k ⊢;obtain⟨b,o,h1,vs,A,B⟩:=k;exact⟨b,o,h1,vs,aP.ren l vs (by simpa only[R.refs] using h) A,B⟩
theorem aP.ren:∀(r:List R) (v:List Value),(∀id∈R.refsL r,Good H H' σ id)→aP S μ H (R.renL σ r) v→aP S (fun i=>μ (σ i)) H' r v
 | [],_,_,k=>by simpa only[aP,R.renL] using k
 | r::rs,vs,h,k=>by
  simp only[aP,R.renL] at k ⊢;obtain⟨v,vs',h1,h2,q⟩:=k;exact⟨v,vs',h1,aT.ren r v (fun i hi=>h i (by simp[R.refsL,hi])) h2,aP.ren rs vs' (fun i hi=>h i (by simp[R.refsL,hi])) q⟩
end
mutual
theorem aO.ren:∀(r:V) (v:Value),(∀id∈r.refs,Good H H' σ id)→aO S μ H (r.ren σ) v→aO S (fun i=>μ (σ i)) H' r v
 | .one r,v,h,k=>by simp only[aO,V.ren] at k ⊢;exact aT.ren r v (by simpa only[V.refs] using h) k
 | .pa l,v,_,k=>by simpa only[aO,V.ren] using k
 | .ma l,v,h,k=>by
  simp only[aO,V.ren] at k ⊢;obtain⟨vs,h1,h2⟩:=k;exact⟨vs,h1,aP.ren l vs (by simpa only[V.refs] using h) h2⟩
 | .tup l,v,h,k=>by
  simp only[aO,V.ren] at k ⊢;obtain⟨vs,h1,h2⟩:=k;exact⟨vs,h1,aU.ren l vs (by simpa only[V.refs] using h) h2⟩
theorem aU.ren:∀(r:List V) (v:List Value),(∀id∈V.refsL r,Good H H' σ id)→aU S μ H (V.renL σ r) v→aU S (fun i=>μ (σ i)) H' r v
 | [],_,_,k=>by simpa only[aU,V.renL] using k
 | r::rs,vs,h,k=>by
  simp only[aU,V.renL] at k ⊢;obtain⟨v,vs',h1,h2,c⟩:=k;exact⟨v,vs',h1,aO.ren r v (fun i hi=>h i (by simp[V.refsL,hi])) h2,aU.ren rs vs' (fun i hi=>h i (by simp[V.refsL,hi])) c⟩
end
end
theorem j6.ren {S:Sto}{μ:Mu}{H H':bZ}{σ:Nat→Nat}{w:World}{id:Nat}{o o':AObj}(h:j6 S μ H w (σ id) o) (hl:Ole σ o o') (c:∀i∈o'.refs,Good H H' σ i):j6 S (fun i=>μ (σ i)) H' w id o':=by
 cases hl with
 | @var t cells cells' hc=>
  subst hc;obtain⟨b,vs,h1,h2,j,q⟩:=h;exact⟨b,vs,h1,h2,aP.ren _ _ c j,q⟩
 | arr=>exact h
 | arr1=>
  obtain⟨g0,g1 | ⟨b,base,cap,vs,g1,g2,g3,g4,g5,g6,g7,g8,g9⟩⟩:=h
  ·exact⟨g0,.inl g1⟩
  ·exact⟨g0,.inr ⟨b,base,cap,vs,g1,g2,g3,g4,g5,g6,(fun e=>by cases e),g8,(fun e=>by cases e)⟩⟩
 | map=>exact h
 | dead=>exact h
 | lp he=>
  subst he;obtain⟨b,r,fn,tmps,h1,h2,j,q,u⟩:=h;exact⟨b,r,fn,tmps,h1,h2,j,fun t v ht=>aO.ren _ _ (fun i hi=>c i (pI ht i hi)) (q t _ (yL ht)),u⟩
 | dfr=>exact h
 | rarr he=>
  subst he;obtain⟨g0,g1 | ⟨b,base,cap,vs,g1,g2,g3,g4,g5,g6,g7⟩⟩:=h
  ·exact⟨jI g0,.inl ⟨g1.1,An (by rw[←dQ (σ:=σ),g1.2];rfl)⟩⟩
  ·rw[dQ] at g4 g6;rw[tY] at g6;exact⟨jI g0,.inr ⟨b,base,cap,vs,g1,g2,g3,g4,g5,aP.ren _ _ (fun i hi=>c i (by rw[qY] at hi;exact hi)) g6,g7⟩⟩
 | tok he=>
  subst he;obtain⟨g1,b,g2,g3⟩:=h;exact⟨g1,b,aT.ren _ _ c g2,g3⟩
def Ctx.keeps (G:Ctx) (kf:List Nat):Prop:=(∀id o,G.h0 id=some o→id∈kf)∧(997∈kf→G.h0 997=none→G.S0.noTop)
def Sub (kf:List Nat) (st2 st1:St):Prop:=∀G n S μ a w,G.keeps kf→Sim G n S μ st1 a w→∃S' μ',Sim G n S' μ' st2 a w
theorem Sub.refl (kf:List Nat) (st:St):Sub kf st st:=fun _ _ S μ _ _ _ h=>⟨S,μ,h⟩
theorem Sub.trans {kf:List Nat}{a b c:St}(h:Sub kf a b) (k:Sub kf b c):Sub kf a c:=fun G n S μ x w j hs=>by
 obtain⟨S',μ',h1⟩:=k G n S μ x w j hs;exact h G n S' μ' x w j h1
def mk (el:List (Nat×V)) (hl:List (Nat×AObj)):St:=⟨look el,look hl,[]⟩
def mkd (el:List (Nat×V)) (hl:List (Nat×AObj)) (dl:List Nat):St:=⟨look el,look hl,dl⟩
theorem b9 {α:Type}:∀{l:List (Nat×α)}{i:Nat}{x:α},look l i=some x→(i,x)∈l
 | [],_,_,h=>by simp[look] at h
 | (k,y)::l,i,x,h=>by
  simp only[look] at h;split at h
  ·rename_i hb;cases h;simp[δ hb]
  ·simp[b9 h]
def fH {α:Type}(p:α→Prop):List α→Prop
 | []=>True
 | x::l=>p x∧fH p l
theorem fH.mem {α:Type}{p:α→Prop}:∀{l:List α},fH p l→∀x∈l,p x
 | [],_,x,h=>by simp at h
 | y::l,h,x,hx=>by
  rcases Ap.1 hx with rfl | hx
  ·exact h.1
  ·exact fH.mem h.2 x hx
def subset (a b:List Nat):Bool:=a.all fun x=>b.contains x
def distinct:List Nat→Bool
 | []=>true
 | x::l=>!(l.contains x)&&distinct l
def fI:List (Nat×AObj)→List Nat
 | []=>[]
 | (_,o)::l=>o.refs++fI l
def aRd (kf:List Nat) (σ:Nat→Nat) (el:List (Nat×V)) (hl:List (Nat×AObj)):Bool:=subset (aDu el) (hl.map (·.1))&&subset (fI hl) (hl.map (·.1))&&distinct (hl.map fun p=>σ p.1)&&subset kf (hl.map (·.1))&&kf.all fun i=>Nat.beq (σ i) i
theorem bR {a b:List Nat}(h:subset a b=true):∀x∈a,x∈b:=fun x hx=>by simpa using (A3.1 h) x hx
theorem mJ:∀{l:List Nat},distinct l=true→l.Nodup
 | [],_=>List.nodup_nil
 | x::l,h=>by
  simp only[distinct,τ] at h;refine nodup_cons.2 ⟨?_,mJ h.2⟩;simpa using h.1
theorem jJ:∀{l:List (Nat×AObj)}{t:Nat}{v:AObj},(t,v)∈l→∀i∈v.refs,i∈fI l
 | (k,u)::l,t,v,h,i,hi=>by
  simp only[fI,Bi];rcases Ap.1 h with h | h
  ·cases h;exact .inl hi
  ·exact .inr (jJ h i hi)
theorem uC {α β:Type}{f:α→β}:∀{l:List α},(l.map f).Nodup→∀x∈l,∀y∈l,f x=f y→x=y
 | [],_,x,h,_,_,_=>by simp at h
 | z::l,hn,x,hx,y,hy,e=>by
  simp only[Av,nodup_cons] at hn;rcases Ap.1 hx with hx | hx
  ·rcases Ap.1 hy with hy | hy
   ·rw[hx,hy]
   ·exact absurd (mem_map.2 ⟨y,hy,by rw[←e,hx]⟩) hn.1
  ·rcases Ap.1 hy with hy | hy
   ·exact absurd (mem_map.2 ⟨x,hx,by rw[e,hy]⟩) hn.1
   ·exact uC hn.2 x hx y hy e
def eqL:List Nat→List Nat→Bool
 | [],[]=>true
 | a::l,b::m=>Nat.beq a b&&eqL l m
 | _,_=>false
theorem aKq:∀{l m:List Nat},eqL l m=true→l=m
 | [],[],_=>rfl
 | a::l,b::m,h=>by
  simp only[eqL,τ] at h;rw[δ h.1,aKq h.2]
 | [],_::_,h=>by simp[eqL] at h
 | _::_,[],h=>by simp[eqL] at h
theorem Sub.listD {kf:List Nat}{r:St}{y:List (Nat×V)}{hl:List (Nat×AObj)}{dl:List Nat}(σ:Nat→Nat) (he:fH (fun p=>r.e p.1=some (p.2.ren σ)) y) (hh:fH (fun p=>∃o,r.h (σ p.1)=some o∧Ole σ o p.2) hl) (hok:(aRd kf σ y hl&&(eqL (dl.map σ) r.d&&subset dl (hl.map (·.1))))=true):Sub kf (mkd y hl dl) r:=by
 intro G n S μ a w hg hs;rw[τ,τ] at hok;obtain⟨hok,u,M⟩:=hok;have u:=aKq u;simp only[aRd,τ] at hok;obtain⟨⟨⟨⟨h1,h2⟩,h3⟩,J⟩,h5⟩:=hok;have q:∀i∈hl.map (·.1),Good r.h (look hl) σ i:=by
  intro i hi;obtain⟨o',I⟩:=cE hi;obtain⟨o,g1,g2⟩:=hh.mem _ (b9 I);exact⟨o,o',g1,I,g2⟩
 have O:=mJ h3;refine⟨S,fun i=>μ (σ i),⟨⟨hs.inv.holds,fun id o ho=>?_,fun i j o o' b c c' hi U hm Y=>?_,fun i o b c hi hm=>?_,hs.inv.frame,hs.inv.sle,hs.inv.sto,⟨hs.inv.evo.le,fun id o ho=>?_⟩,hs.inv.fre⟩,hs.size,?_,fun t v ht=>?_⟩⟩
 ·obtain⟨A,g1,g2⟩:=hh.mem _ (b9 ho);exact(hs.inv.obj _ _ g1).ren g2 fun i hi=>q i (bR h2 i (jJ (b9 ho) i hi))
 ·obtain⟨A,g1,g2⟩:=hh.mem _ (b9 hi);obtain⟨B,g3,g4⟩:=hh.mem _ (b9 U);have E:=hs.inv.inj _ _ _ _ b c c' g1 g3 hm Y;have:=uC O _ (b9 hi) _ (b9 U) E;exact(congrArg Prod.fst this)
 ·obtain⟨A,g1,g2⟩:=hh.mem _ (b9 hi);exact hs.inv.own _ _ b c g1 hm
 ·obtain⟨o',g1,g2⟩:=hs.inv.evo.obj id o ho;have hk:=hg.1 id o ho;have E:σ id=id:=δ ((A3.1 h5) id hk);obtain⟨A,B,g3,g4,g5⟩:=q id (bR J id hk);rw[E,g1] at g3;cases g3;refine⟨B,g4,?_⟩;show o.succ (μ (σ id)=G.μ0 id) B;rw[E];exact AObj.succ_trans g2 g5.succ fun e _=>e
 ·refine Marks.ren (H:=r.h) (μ:=μ) σ (by show Marks _ μ r.h (dl.map σ) a.defers;rw[u];exact hs.defers) fun id hid hdf=>⟨rfl,?_⟩
  obtain⟨A,B,g3,g4,g5⟩:=q id (bR M id hid);rw[hdf] at g3;cases g3;cases g5;exact g4
 ·have hm:=b9 (show look y t=some v from ht);have J:=he.mem _ hm;exact aO.ren v _ (fun i hi=>q i (bR h1 i (pI hm i hi))) (hs.env t _ J)
theorem Sub.list {kf:List Nat}{c:St}{j:List (Nat×V)}{hl:List (Nat×AObj)}(σ:Nat→Nat) (he:fH (fun p=>c.e p.1=some (p.2.ren σ)) j) (hh:fH (fun p=>∃o,c.h (σ p.1)=some o∧Ole σ o p.2) hl) (hok:(aRd kf σ j hl&&eqL [] c.d)=true):Sub kf (mk j hl) c:=
 Sub.listD (dl:=[]) σ he hh (by
  rw[τ] at hok;rw[τ]
  exact⟨hok.1,by rw[map_nil,hok.2];rfl⟩)
def Ctx.rok (G:Ctx):Option Nat→Prop
 | none=>True
 | some l=>(∃r,G.w0.heap[l]?=some (.loop r))∧¬G.F l
def AWp (ro:Option Nat) (P:Program) (n:Nat) (kf:List Nat) (c:Code) (st:St) (Q:Exit→St→Prop):Prop:=
 ∀G S μ a w (Q':Exit→Act→World→Prop),G.keeps kf∧G.rok ro→Sim G n S μ st a w→(∀ex st' S' μ' a' w',Q ex st'→Sim G n S' μ' st' a' w'→Q' ex a' w')→c.wpIn (Wd ro) 0 P Q' a w
section
variable {ro:Option Nat}{P:Program}{n:Nat}{kf:List Nat}{st:St}{Q:Exit→St→Prop}
theorem AWp.sub {c:Code}{st2:St}(h:Sub kf st2 st) (k:AWp ro P n kf c st2 Q):AWp ro P n kf c st Q:=fun G S μ a w Q' j hs q=>by
 obtain⟨S',μ',r⟩:=h G n S μ a w j.1 hs;exact k G S' μ' a w Q' j r q
theorem AWp.post {c:Code}{Q2:Exit→St→Prop}(h:AWp ro P n kf c st Q) (hq:∀ex st',Q ex st'→∃j,Sub kf j st'∧Q2 ex j):AWp ro P n kf c st Q2:=fun G S μ a w Q' r hs y=>
 h G S μ a w Q' r hs fun ex st' S' μ' u w' q s=>by
  obtain⟨j,h1,h2⟩:=hq ex st' q;obtain⟨S2,A,B⟩:=h1 G n S' μ' u w' r.1 s;exact y ex j S2 A u w' h2 B
theorem aD (h:Q .normal st):AWp ro P n kf .skip st Q:=fun _ S μ a w _ _ hs c=>wpIn_skip (c _ _ S μ a w h hs)
theorem aE (h:Q .ret st):AWp ro P n kf .ret st Q:=fun _ S μ a w _ _ hs c=>wpIn_ret (c _ _ S μ a w h hs)
theorem aH {id:Nat}(h:Q (.exit id) st):AWp ro P n kf (.exit id) st Q:=fun _ S μ a w _ _ hs c=>wpIn_exit (c _ _ S μ a w h hs)
def aOg (ro:Option Nat) (P:Program) (n:Nat) (kf:List Nat) (c:Code) (Q:Exit→St→Prop):Exit→St→Prop
 | .normal,st=>AWp ro P n kf c st Q
 | ex,st=>Q ex st
theorem aA {x y:Code}(h:AWp ro P n kf x st (aOg ro P n kf y Q)):AWp ro P n kf (.seq x y) st Q:=fun G S μ a w Q' c hs j=>
 Cs (h G S μ a w _ c hs fun ex st' S' μ' r w' q s=>by
  cases ex with
  | normal=>exact q G S' μ' r w' Q' c s j
  | _=>exact j _ st' S' μ' r w' q s)
theorem aB {c:Operand}{x y:Code}{b:Bool}(hc:opv st c=some (B b)) (ht:b=true→AWp ro P n kf x st Q) (r:b=false→AWp ro P n kf y st Q):AWp ro P n kf (.cond c x y) st Q:=fun G S μ a w Q' j hs q=>by
 have hb:=gT (aL hs hc fun _ _=>rfl);cases b with
 | true=>exact wpIn_cond_true hb (ht rfl G S μ a w Q' j hs q)
 | false=>exact wpIn_cond_false hb (r rfl G S μ a w Q' j hs q)
def lW (id:Nat) (Q:Exit→St→Prop):Exit→St→Prop
 | .exit id',st=>if Nat.beq id' id then Q .normal st else Q (.exit id') st
 | ex,st=>Q ex st
theorem aF {id:Nat}{c:Code}(h:AWp ro P n kf c st (lW id Q)):AWp ro P n kf (.block id c) st Q:=fun G S μ a w Q' y hs r=>
 wpIn_block (h G S μ a w _ y hs fun ex st' S' μ' u w' q s=>by
  cases ex with
  | exit j=>
   simp only[lW] at q;simp only[Exit.inBlock];by_cases hb:j=id
   ·subst hb;simp only[beq_refl,Ch] at q;simpa using r _ st' S' μ' u w' q s
   ·have:Nat.beq j id=false:=by
     cases hq:Nat.beq j id with
     | false=>rfl
     | true=>exact absurd (δ hq) hb
    simp only[this,Ao,Bm] at q;simpa [hb] using r _ st' S' μ' u w' q s
  | _=>exact r _ st' S' μ' u w' q s)
def aSy {α:Type}(kf:List Nat) (σ:α→St) (I:α→Prop) (m:α→Nat) (x:α) (Q:Exit→St→Prop):Exit→St→Prop
 | .normal,st=>∃y,I y∧m y<m x∧Sub kf (σ y) st
 | ex,st=>Q ex st
theorem oW {F:Fence}{m:Nat}{P:Program}{Q:Exit→Act→World→Prop}{a:Act}{w:World}{c:Code}(I:Nat→Act→World→Prop) (u:Nat) (A:I u a w)
  (round:∀n a w,I n a w→c.wpIn F m P (Exit.then (fun r w'=>∃j,j<n∧I j r w') Q) a w):(Code.loop c).wpIn F m P Q a w:=by
 refine wpIn_loop (fun a w=>∃n,I n a w) (fun a w=>leastOf (fun n=>I n a w)) ⟨u,A⟩ ?_;intro a w B;refine wpIn_mono (round _ a w (leastOf_spec B).1) ?_;intro e r w' hq;cases e with
 | normal=>
  obtain⟨j,y,q⟩:=hq;exact show(∃n,I n r w')∧leastOf (fun n=>I n r w')<leastOf (fun n=>I n a w) from⟨⟨j,q⟩,Bt ((leastOf_spec ⟨j,q⟩).2 j q) y⟩
 | _=>exact hq
theorem aK {α:Type}{c:Code}(σ:α→St) (I:α→Prop) (m:α→Nat) (j:α) (M:I j) (h0:Sub kf (σ j) st) (h:∀x,I x→AWp ro P n kf c (σ x) (aSy kf σ I m x Q)):AWp ro P n kf (.loop c) st Q:=fun G S μ a w Q' r hs O=>by
 obtain⟨S',μ',A⟩:=h0 G n S μ a w r.1 hs;refine oW (fun k a w=>∃x S μ,m x=k∧I x∧Sim G n S μ (σ x) a w) (m j) ⟨j,S',μ',rfl,M,A⟩ ?_;rintro k a w ⟨x,S,μ,U,hx,hs⟩;refine h x hx G S μ a w _ r hs fun ex st' S1 B E w' q s=>?_
 cases ex with
 | normal=>
  obtain⟨y,hy,J,u⟩:=q;obtain⟨S2,Y,h2⟩:=u G n S1 B E w' r.1 s;exact⟨m y,U▸J,y,S2,Y,rfl,hy,h2⟩
 | _=>exact O _ st' S1 B E w' q s
theorem rH {id:Nat}{ops:Array Oper}{draw:Bool}{st':St}{xs:REs}(hm:P.follows .mixedOrders=true) (u:Run P n ops 0 st xs st') (hlen:Nat.beq xs.length ops.size=true)
  (r:(!draw || (cH (preds ops) xs []&&dE ops))=true) (h:Q .normal st'):AWp ro P n kf (.region id ops draw) st Q:=fun G S μ a w Q' E hs I=>by
 have c:=δ hlen;cases draw with
 | true=>
  simp only[Bool.not_true,Az,τ] at r;refine wpIn_region_any hm ?_;refine aDn (G:=G) u c r.1 r.2 (fun S' μ' q w' s=>I _ st' S' μ' q w' h s) ops.size _ (by simp) ?_ ?_ S μ a _ ?_ ro
  ·have:((List.range ops.size).filter fun i=>!(Array.replicate ops.size false).getD i false)=List.range ops.size:=by
    apply filter_eq_self.2;intro i hi;simp at hi;simp[hi]
   rw[this,length_range]
  ·intro i o ho hl;simp[Ae,Ax] at hl;split at hl<;>simp at hl
  ·have J:∀(A:REs) (k:Nat) (s:St),c0 (fun j=>(Array.replicate ops.size false).getD j false) k A s=s:=by
    intro A
    induction A with
    | nil=>intro k s;rfl
    | cons y A B=>
     intro k s;have M:(Array.replicate ops.size false).getD k false=false:=by
      simp[Ae,Ax];split<;>rfl
     simp only[c0,M,Bh];exact B _ _
   rw[J];exact⟨hs.inv.same rfl rfl rfl rfl,hs.size,hs.defers,hs.env⟩
 | false=>
  refine wpIn_region ?_;have key:∀(k:Nat) (st st':St) (xs:REs),Run P n ops k st xs st'→k+xs.length=ops.size→(∀S' μ' q w',Sim G n S' μ' st' q w'→Q' .normal q w')→∀S μ a w,Sim G n S μ st a w→wpOpsIn (Wd ro) 0 P ops Q' (List.range' k xs.length) a w:=by
   intro k st st' xs u
   induction u with
   | nil=>intro _ hq S μ a w hs;exact hq S μ a w hs
   | @cons k st rd f xs st' E _ B=>
    intro hl hq S μ a w hs;simp only[ε,range'_succ,Bn];exact E st (eR.refl _ _) G S μ a w _ Q' hs (fun S1 O U Y s1=>B (by simp at hl;omega) hq S1 O U Y s1) ro
  have:=key 0 st st' xs u (by omega) (fun S' μ' q w' s=>I _ st' S' μ' q w' h s) S μ a w hs;rwa [range_eq_range',←c]
end
end Go.AM
