/-
  Texts Am6 to Am11 in one.
-/
import Derived.Test.YtpmheldmadendaaGreatDoorM1
import Derived.Deep.MidRow
import Derived.Deep.LoopGhost
open List (all_eq_true append_assoc append_nil drop_append drop_drop drop_of_length_le drop_succ_cons drop_take drop_zero eq_nil_of_length_eq_zero filter_eq_self flatten_append flatten_cons length_append length_cons length_drop length_nil length_range length_set length_take map_cons map_nil map_toArray mem_append mem_cons mem_cons_of_mem mem_map mem_of_mem_take nil_append nodup_cons range'_succ range_eq_range' size_toArray take_append_of_le_length take_left' take_of_length_le take_succ_cons take_take take_zero)
open Nat (add_assoc add_mul add_zero beq_refl eq_of_beq_eq_true le_of_ble_eq_true le_refl le_trans lt_irrefl lt_of_le_of_lt min_eq_left mul_le_mul_right sub_self sub_zero zero_add zero_le zero_mul)
namespace Go.AM
open Go
section
variable {P:Program}{n:Nat}{o:Oper}{st:St}{d:Nat}{T:TT}
theorem eP {S:Sto}{μ:Mu}{H:bW}{id:Nat}(h:H id=none) (p:Option (Nat×Nat×Nat)) (x:Option AObj):Evolve S μ H S (upd μ id p) (upd H id x):=
 ⟨S.le_refl,fun j o q=>by
  have c:j≠id:=fun e=>by subst e;rw[h] at q;cases q
  exact⟨o,by rw[bC _ _ _ c];exact q,o.succ_refl (bC _ _ _ c)⟩⟩
theorem Step.new {rd:Rd}{y:V}{id:Nat}{ao:AObj}(E:o.dst=some d) (r:d<n) (hid:st.h id=none) (A:id∈rd.h)
  (h:∀st',dJ rd st st'→st'.h id=none→∀G S μ a w,Sim G n S μ st' a w→∃w' B v c,(execOp a.eval o).run P w=.ok (.value v) w'∧WChg w w' w.heap.size B∧
   iG S (upd μ id (some (w.heap.size,c))) (upd st'.h id (some ao)) w' id ao∧aK S (upd μ id (some (w.heap.size,c))) (upd st'.h id (some ao)) y v):
  Step P n o st rd ⟨some (d,some y),[(id,some ao)]⟩:=by
 intro st' ha G S μ a w K Q hs I;have q:st'.h id=none:=by rw[ha.2 id A,hid]
 obtain⟨w',B,v,c,J,hw,hO,M⟩:=h st' ha q G S μ a w hs;refine fun ro=>dK J ?_
 rw[E];have hi:=hs.inv.chg (id:=id) (cap:=c) (ao:=ao) hw (.inl (le_refl _)) (eP q _ _) hO
  (fun o v e=>by obtain⟨vs,t,U,h1,_⟩:=hs.inv.holds.1 _ _ _ e;exact absurd (bQ h1) (lt_irrefl _)) (fun m e=>le_refl _)
 refine I S (upd μ id (some (w.heap.size,c))) _ _ ?_;have:=hs.put hi (eP q _ _) r (x:=some y) (fun z O=>by cases O;exact M);unfold Eff.apply;rw[bU];exact this
theorem eA {G:Ctx}{S:Sto}{μ:Mu}{H:bW}{w:World}(h:Inv G S μ H w) (o:Nat):S.cell w.heap.size o=none:=by
 cases hc:S.cell w.heap.size o with
 | none=>rfl
 | some v=>obtain⟨vs,t,c,h1,_⟩:=h.holds.1 _ _ _ hc;exact absurd (bQ h1) (lt_irrefl _)
theorem nU {G:Ctx}{S:Sto}{μ:Mu}{H:bW}{w:World}(h:Inv G S μ H w):S.mapo w.heap.size=none:=by
 cases hc:S.mapo w.heap.size with
 | none=>rfl
 | some v=>obtain⟨_,h1⟩:=MK.holds_some (h.holds.2 _ _ hc);exact absurd (bQ h1) (lt_irrefl _)
theorem eO (P:Program) (w:World) (t:TypeId) (cs:Array Value):(newRow t cs).run P w=.ok ⟨w.heap.size,0,none⟩ (w.alloc (.cells cs t)):=rfl
theorem aKg {t:TypeId}{i:TI}(id:Nat) (y:Tok P T) (ho:o.op=.alloc t) (A:o.dst=some d) (q:d<n) (hi:T[t]?=some (some i)) (hid:st.h id=none):
  Step P n o st ⟨[],[id]⟩ ⟨some (d,some (.one (.vp id 0))),[(id,some (.var t (i.zero.map R.c)))]⟩:=by
 refine Step.new A q hid (by simp) fun st' _ B G S μ a w hs=>?_
 obtain⟨z,E,r,_⟩:=(y.get hi).zero_run;refine⟨_,_,.pointer (some ⟨w.heap.size,0,none⟩),(0,0),?_,WChg.alloc w (.cells z.cells t),?_,?_⟩
 ·simp[execOp,ho,Instr.alloc,E,newVar,eO]
 ·exact⟨w.heap.size,z.cells.toList,aH _ _ _,Bx w _,(r S).toR,eA hs.inv,nU hs.inv⟩
 ·simp only[aK,aQ];exact⟨t,_,_,_,aH _ _ _,aH _ _ _,rfl⟩
theorem aQy {t:TypeId}{x:Operand}{y:V}{rs:List R}(id:Nat) (ho:o.op=.box t x) (r:o.dst=some d) (q:d<n) (hx:opv st x=some y) (hc:eG y=some rs) (hid:st.h id=none):
  Step P n o st ⟨opr x,[id]⟩ ⟨some (d,some (.one (.vp id 0))),[(id,some (.var t rs))]⟩:=by
 refine Step.new r q hid (by simp) fun st' ha c G S μ a w hs=>?_
 have A:=aI hs hx ha.1;refine⟨_,_,.pointer (some ⟨w.heap.size,0,none⟩),(0,0),?_,WChg.alloc w (.cells (a.eval x).cells t),?_,?_⟩
 ·simp[execOp,ho,Instr.box,newVar,eO]
 ·exact⟨w.heap.size,(a.eval x).cells.toList,aH _ _ _,Bx w _,aN.evolve (eP c _ _) _ _ (cK A hc),eA hs.inv,nU hs.inv⟩
 ·simp only[aK,aQ];exact⟨t,_,_,_,aH _ _ _,aH _ _ _,rfl⟩
theorem aCe {t:TypeId}(id:Nat) (agg:Bool) (ho:o.op=.makeMap t none) (q:o.dst=some d) (c:d<n) (hid:st.h id=none):
  Step P n o st ⟨[],[id]⟩ ⟨some (d,some (.one (.mr id))),[(id,some (.map agg []))]⟩:=by
 refine Step.new q c hid (by simp) fun st' _ r G S μ a w hs=>?_
 refine⟨w.alloc (.map #[] 0),_,.map (some w.heap.size),(0,0),?_,WChg.alloc w (.map #[] 0),?_,?_⟩
 ·simp only[execOp,ho,Instr.makeMap,Option.map_none];rfl
 ·exact⟨w.heap.size, #[],0,aH _ _ _,Bx w _,.inr (.inl (by simp[aZ])),.inl (nU hs.inv)⟩
 ·simp only[aK,aQ];exact⟨_,_,_,_,aH _ _ _,aH _ _ _,rfl⟩
theorem gT {w:World}{b:Nat}{vs:List Value}{t:TypeId}(h:w.heap[b]?=some (.cells ⟨vs⟩ t (0,0))) (off k:Nat):w.rangeAt b off ((vs.drop off).take k):=by
 intro j v c;rw[cell_of_row w b (off+j) ⟨vs⟩ t (0,0) h];rw[Ai] at c;split at c
 ·rw[Aj] at c;simpa using c
 ·cases c
theorem run_load {t:TypeId}{i:TI}(r:TIok P t i) (w:World) (b off:Nat) (cs:List Value) (B:w.rangeAt b off cs) (hl:cs.length=i.size):
  (Instr.loadAt t (.pointer (some ⟨b,off,none⟩))).run P w=.ok (if i.k.agg then .agg ⟨cs⟩ else cs.headD undef) w:=by
 obtain⟨inf,dd,z,g1,g2,g3,g4,g5,g6,g7,g8⟩:=r.ex;cases y:i.k.agg with
 | true=>
  have A:dd.isRow=true:=by
   cases E:i.k<;>rw[E] at g5 y<;>cases dd<;>simp[TK.fits,TK.agg] at g5 y<;>rfl
  rw[run_loadAt_mid w b off t cs dd B g2 A (by rw[r.info,hl])];simp
 | false=>
  have hs:=r.one y;rw[hs] at hl
  match cs,hl with
  | [c],_=>
   have hc:=B 0 c rfl;have q:=r.agg_run w;rw[y] at q;simp only[Instr.loadAt,Instr.sureAddr,δ,ε,θ,loadVar,q];simp only[Ao,Bm,load];simp only[Sem.run];rw[show(⟨b,off,none⟩:Addr)=⟨b,off+0,none⟩ from rfl,hc];simp
def gX (i:TI) (rs:List R):Option V:=if i.k.agg then some (aMr rs) else match rs with | [r]=>some (.one r) | _=>none
theorem iV {i:TI}{S:Sto}{μ:Mu}{H:bW}{rs:List R}{vs:List Value}{y:V}(h:aN S μ H rs vs) (hy:gX i rs=some y):aK S μ H y (if i.k.agg then .agg ⟨vs⟩ else vs.headD undef):=by
 unfold gX at hy;cases c:i.k.agg with
 | true=>
  simp only[c,Cd] at hy ⊢;cases hy;exact zI h
 | false=>
  simp only[c,Ao,Bm] at hy ⊢;split at hy
  ·cases hy;simp only[aN] at h;obtain⟨v,vs',rfl,h1,rfl⟩:=h;simpa [aK] using h1
  ·cases hy
theorem aQ9 {α:Type}{l:List α}{off k:Nat}(h:off+k≤l.length):((l.drop off).take k).length=k:=by simp;omega
theorem aNk {t tv:TypeId}{i:TI}{x:Operand}{id off:Nat}{cells:List R}{y:V}(B:Tok P T) (ho:o.op=.load t x) (E:o.dst=some d) (q:d<n) (hi:T[t]?=some (some i)) (hx:opv st x=some (.one (.vp id off)))
  (hh:st.h id=some (.var tv cells)) (hl:Nat.ble (off+i.size) cells.length=true) (hy:gX i ((cells.drop off).take i.size)=some y):Step P n o st ⟨opr x,[id]⟩ ⟨some (d,some y),[]⟩:=by
 refine Step.value E q fun st' ha G S μ a w hs=>?_
 have r:st'.h id=some (.var tv cells):=by rw[ha.2 id (by simp),hh]
 have A:=aI hs hx ha.1;simp only[aK,aQ] at A;obtain⟨M,cells',b,c,h1,h2,I⟩:=A;obtain⟨O,vs,g1,g2,g3,g4⟩:=hs.inv.obj id _ r;rw[g1] at h2;cases h2;have hlen:=Ak hl;have J:=g3.length;refine⟨_,?_,iV ((g3.drop off).take i.size) hy⟩;simp only[execOp,ho,I,δ,run_load (B.get hi) w b off _ (gT g2 off i.size) (aQ9 (by omega)),θ,ε]
def aAk (i:TI) (l:List C):Option V:=if i.k.agg then some (.pa l) else match l with | [c]=>some (.one (.c c)) | _=>none
theorem tA {i:TI}{S:Sto}{μ:Mu}{H:bW}{l:List C}{vs:List Value}{y:V}(h:bR S l vs) (hy:aAk i l=some y):aK S μ H y (if i.k.agg then .agg ⟨vs⟩ else vs.headD undef):=by
 unfold aAk at hy;cases c:i.k.agg with
 | true=>
  simp only[c,Cd] at hy ⊢;cases hy;simp only[aK];exact⟨vs,rfl,h⟩
 | false=>
  simp only[c,Ao,Bm] at hy ⊢;split at hy
  ·cases hy;simp only[bR] at h;obtain⟨v,vs',rfl,h1,rfl⟩:=h;simpa [aK,aQ] using h1
  ·cases hy
theorem jK {S:Sto}{w:World}(hh:Holds S w) {b off:Nat}{vs:List Value}(h:dC S b off vs):w.rangeAt b off vs:=fun j v c=>hh.cell (h j v c)
theorem aCh {t:TypeId}{i:TI}{x:Operand}{l:List C}{y:V}(E:Tok P T) (ho:o.op=.load t x) (I:o.dst=some d) (r:d<n) (hi:T[t]?=some (some i)) (hx:opv st x=some (.one (.c (.pt l))))
  (hl:i.size≤l.length) (hy:aAk i (l.take i.size)=some y):Step P n o st ⟨opr x,[]⟩ ⟨some (d,some y),[]⟩:=by
 refine Step.value I r fun st' ha G S μ a w hs=>?_
 have A:=aI hs hx ha.1;simp only[aK,aQ,Rep] at A;obtain⟨b,off,h1,vs,h2,J⟩:=A;have O:=h2.length;refine⟨_,?_,tA (h2.take i.size) hy⟩;have M:=jK hs.inv.holds J;have B:w.rangeAt b off (vs.take i.size):=fun j v q=>by
  rw[Ai] at q;split at q
  ·exact M j v q
  ·cases q
 simp only[execOp,ho,h1,δ,run_load (E.get hi) w b off _ B (by simp;omega),θ,ε]
theorem nG {α:Type}{es:Nat}:∀{l:List (List α)},(∀r∈l,r.length=es)→∀(k:Nat),∀r,l[k]?=some r→(l.flatten.drop (k*es)).take es=r
 | [],_,k,r,h=>by simp at h
 | x::xs,hl,0,r,h=>by
  simp at h;subst h;have:=hl x (by simp);simp[←this]
 | x::xs,hl,k+1,r,h=>by
  simp at h;have hx:=hl x (by simp);have:=nG (l:=xs) (fun r c=>hl r (by simp[c])) k r h;rw[A6,drop_append,show(k+1)*es-x.length=k*es by rw[hx,A2];omega];rw[drop_of_length_le (by rw[hx,A2];omega),Bv];exact this
theorem fA {α:Type}{es:Nat}:∀{l:List (List α)},(∀r∈l,r.length=es)→l.flatten.length=l.length*es
 | [],_=>by simp
 | x::xs,hl=>by
  rw[A6,ζ,fA (fun r c=>hl r (by simp[c])),hl x (by simp),τ,A2];omega
theorem iG.arr {S:Sto}{μ:Mu}{H:bW}{w:World}{id:Nat}{te es:Nat}{elems:List (List C)}{fz:Nat}(h:iG S μ H w id (.arr te es elems fz)) {b base cap:Nat}(hm:μ id=some (b,base,cap)):
  (∀r∈elems,r.length=es)∧∃vs,w.heap[b]?=some (.cells ⟨vs⟩ te (0,0))∧
   base+cap*es≤vs.length∧elems.length≤cap∧(cap≤maxLen∧S.mapo b=none)∧bR S elems.flatten ((vs.drop base).take (elems.length*es))∧
   (fz=0→∀o,base≤o→S.cell b o=none)∧(∀o,base+elems.length*es≤o→S.cell b o=none)∧(fz=2→dC S b base ((vs.drop base).take (elems.length*es))):=by
 obtain⟨h0,⟨h1,_⟩ | ⟨y,c,q,vs,h1,h2⟩⟩:=h
 ·rw[hm] at h1;cases h1
 ·rw[hm] at h1;cases h1;exact⟨h0,vs,h2⟩
theorem aIx {S:Sto}{es base:Nat}{elems:List (List C)}{vs:List Value}(h0:∀r∈elems,r.length=es) (h:bR S elems.flatten ((vs.drop base).take (elems.length*es))) {k:Nat}{r:List C}(c:elems[k]?=some r):
  bR S r ((vs.drop (base+k*es)).take es):=by
 have h1:=(h.drop (k*es)).take es;rw[nG h0 k r c] at h1;have q:k<elems.length:=(Ad.1 c).1
 have hle:(k+1)*es≤elems.length*es:=Au _ q;rw[A2] at hle;rw[drop_take,Cp,take_take] at h1;rwa [Cr (by omega)] at h1
theorem aCi {t te es:Nat}{i:TI}{x:Operand}{id k fo sz:Nat}{elems:List (List C)}{fz:Nat}{r:List C}{y:V}(J:Tok P T) (ho:o.op=.load t x) (M:o.dst=some d) (E:d<n) (hi:T[t]?=some (some i)) (hx:opv st x=some (.one (.ep id k fo sz)))
  (hh:st.h id=some (.arr te es elems fz)) (hsz:sz=elems.length) (I:elems[k]?=some r) (hl:fo+i.size≤es) (hy:aAk i ((r.drop fo).take i.size)=some y):Step P n o st ⟨opr x,[id]⟩ ⟨some (d,some y),[]⟩:=by
 refine Step.value M E fun st' ha G S μ a w hs=>?_
 have c:st'.h id=some (.arr te es elems fz):=by rw[ha.2 id (by simp),hh]
 have q:=aI hs hx ha.1;simp only[aK,aQ] at q;obtain⟨_,q | ⟨te',es',elems',fz',h1,h2,O⟩⟩:=q
 ·rw[c] at q;cases q
 rw[c] at h1;cases h1;obtain⟨h4,b,base,cap,U,Y⟩:=O hsz;obtain⟨g0,vs,g1,g2,g3,g4,g5,g6,g7⟩:=(hs.inv.obj id _ c).arr U;have A:=aIx g0 g5 I;have hlr:=A.length;have aa:r.length=es:=g0 r (Ag I);have B:=((A.drop fo).take i.size)
 have hlen:=B.length;have hE:((List.drop fo (List.take es (List.drop (base+k*es) vs))).take i.size)=(vs.drop (base+k*es+fo)).take i.size:=by
  rw[drop_take,Cp,take_take,Cr (by omega)]
 rw[hE] at B hlen;refine⟨_,?_,tA B hy⟩;simp only[execOp,ho,Y,δ,run_load (J.get hi) w b (base+k*es+fo) _ (gT g1 _ i.size) (by rw[hlen];simp;omega),θ,ε]
end
section
variable {P:Program}{n:Nat}{o:Oper}{st:St}{d:Nat}{T:TT}
theorem run_store {t:TypeId}{i:TI}(A:TIok P t i) (w:World) (b off:Nat) (vs news:List Value) (r:TypeId) (v:Value) (B:w.heap[b]?=some (.cells ⟨vs⟩ r (0,0))) (y:v.cells.toList=news) (hl:news.length=i.size) (q:off+news.length≤vs.length) (h1:∀u∈news,u.oneCell'=true):
  (Instr.storeAt t (.pointer (some ⟨b,off,none⟩)) v).run P w=.ok () (w.setRow b ⟨vs.take off++news++vs.drop (off+news.length)⟩):=by
 have hsz:v.cells.size=i.size:=by rw[←hl,←y];simp
 have c:=run_storeCells_at (P:=P) b off r news 0 ⟨vs⟩ w B (by simpa using q) h1;simp only[Cb] at c;simp only[Instr.storeAt,Instr.sureAddr,δ,ε,θ,storeVar,A.size_run w,hsz,y];simp only[ne_eq,not_true_eq_false,Bm,c]
theorem fD {S:Sto}{μ:Mu}{H:bW}{id:Nat}{o o':AObj}{p:Nat×Nat×Nat}(h:H id=some o) (hm:μ id=some p) (hs:o.succ True o'):Evolve S μ H S (upd μ id (some p)) (upd H id (some o')):=by
 refine⟨S.le_refl,fun j x q=>?_⟩;by_cases c:j=id
 ·subst c;rw[h] at q;cases q;refine⟨o',aH _ _ _,?_⟩;have he:upd μ j (some p) j=μ j:=by rw[aH,hm]
  rw[he];simpa using hs
 ·exact⟨x,by rw[bC _ _ _ c];exact q,x.succ_refl (bC _ _ _ c)⟩
theorem Step.turn {rd:Rd}{id:Nat}{ao q:AObj}(J:o.dst=none) (hid:st.h id=some ao) (B:id∈rd.h) (y:ao.succ True q)
  (h:∀st',dJ rd st st'→st'.h id=some ao→∀G S μ a w,Sim G n S μ st' a w→∃w' A b c,(execOp a.eval o).run P w=.ok .skip w'∧μ id=some (b,c)∧WChg w w' b A∧
   iG S (upd μ id (some (b,c))) (upd st'.h id (some q)) w' id q∧(∀o v,S.cell b o=some v→∃vs t M,A=.cells vs t M∧vs[o]?=some v)∧(∀m,S.mapo b=some m→w.heap.size≤b)):
  Step P n o st rd ⟨none,[(id,some q)]⟩:=by
 intro st' ha G S μ a w K Q hs O;have r:st'.h id=some ao:=by rw[ha.2 id B,hid]
 obtain⟨w',A,b,c,U,hm,hw,hO,hS,E⟩:=h st' ha r G S μ a w hs;refine fun ro=>rX U ?_
 rw[J];have I:=fD (S:=S) (μ:=μ) r hm y;have hi:=hs.inv.chg (id:=id) (cap:=c) (ao:=q) hw (.inr ⟨ao,c,r,hm⟩) I hO hS E;refine O S (upd μ id (some (b,c))) _ _ ?_;have:=hs.put_none hi I undef;unfold Eff.apply;rw[bU];exact this
def bJ {α:Type}(l:List α) (off:Nat) (new:List α):List α:=l.take off++new++l.drop (off+new.length)
theorem dT {S:Sto}{w:World}{b:Nat}(hb:S.mapo b=none) (m:MK) (e:S.mapo b=some m):w.heap.size≤b:=by
 rw[hb] at e;cases e
theorem aJ7 {t tv:TypeId}{i:TI}{x y:Operand}{id off:Nat}{cells rs:List R}{v:V}(O:Tok P T) (ho:o.op=.store t x y) (U:o.dst=none) (hi:T[t]?=some (some i)) (hx:opv st x=some (.one (.vp id off)))
  (hy:opv st y=some v) (hc:eG v=some rs) (hh:st.h id=some (.var tv cells)) (Y:rs.length=i.size) (hl:Nat.ble (off+i.size) cells.length=true):
  Step P n o st ⟨opr x++opr y,[id]⟩ ⟨none,[(id,some (.var tv (bJ cells off rs)))]⟩:=by
 refine Step.turn U hh (by simp) (by simp[AObj.succ]) fun st' ha r G S μ a w hs=>?_
 have A:=aI hs hx fun t ht=>ha.1 t (by simp[ht])
 have J:=aI hs hy fun t ht=>ha.1 t (by simp[ht])
 simp only[aK,aQ] at A;obtain⟨t',cells',b,c,h1,h2,q⟩:=A;obtain⟨b',vs,g1,g2,g3,g4⟩:=hs.inv.obj id _ r;rw[g1] at h2;cases h2;have hlen:=Ak hl;have aa:=g3.length;have hrel:=cK J hc;have B:=hrel.length;have E:=run_store (O.get hi) w b off vs (a.eval y).cells.toList tv (a.eval y) g2 rfl (by omega) (by omega) hrel.one;have I:=fD (S:=S) (μ:=μ) (o':=.var tv (bJ cells off rs)) r g1 (by simp[AObj.succ]);have M:=WChg.setRow w b ⟨vs⟩ ⟨vs.take off++(a.eval y).cells.toList++vs.drop (off+(a.eval y).cells.toList.length)⟩ tv (0,0) g2;refine⟨_,_,b,(0,0),?_,g1,M,⟨b,_,aH _ _ _,M.new,?_,g4⟩,(fun o v e=>by rw[g4.1] at e;cases e),fun m e=>dT g4.2 m e⟩
 ·simp only[execOp,ho,q,δ,E,θ,ε]
 ·have h1:=aN.evolve I _ _ (g3.take off);have h2:=aN.evolve I _ _ hrel;have q:=aN.evolve I _ _ (g3.drop (off+rs.length));rw[←B] at q;have:=(h1.append h2).append q;rw[show bJ cells off rs=cells.take off++rs++cells.drop (off+(a.eval y).cells.toList.length) by rw[B];rfl] at this ⊢;exact this
theorem vT {α:Type}{es:Nat}:∀{l:List (List α)},(∀r∈l,r.length=es)→∀(k:Nat) (r:List α),l[k]?=some r→
  (l.take k).flatten=l.flatten.take (k*es)∧(l.drop (k+1)).flatten=l.flatten.drop (k*es+es)
 | [],_,k,r,h=>by simp at h
 | x::xs,hl,0,r,_=>by
  have hx:=hl x (by simp);simp only[take_zero,List.flatten_nil,zero_mul,A5,Cg,B1,A6,true_and];rw[drop_append,hx,B4,B1,drop_of_length_le (by omega),Bv]
 | x::xs,hl,k+1,r,h=>by
  have hx:=hl x (by simp);simp at h;obtain⟨h1,h2⟩:=vT (l:=xs) (fun r c=>hl r (by simp[c])) k r h;simp only[Bc,A6,Cg];rw[h1,h2,List.take_append,drop_append,hx];have q:(k+1)*es-es=k*es:=by rw[A2];omega
  have y:(k+1)*es+es-es=k*es+es:=by rw[A2];omega
  rw[q,y,Aq (l:=x) (by rw[hx,A2];omega),drop_of_length_le (l:=x) (by rw[hx,A2];omega),Bv];exact⟨rfl,rfl⟩
theorem zT {t te es:Nat}{i:TI}{x y:Operand}{id k fo sz:Nat}{elems:List (List C)}{v:V}{rs:List R}{cs r:List C}(hT:Tok P T) (ho:o.op=.store t x y) (hd:o.dst=none) (hi:T[t]?=some (some i)) (hx:opv st x=some (.one (.ep id k fo sz)))
  (hy:opv st y=some v) (hc:eG v=some rs) (hp:fK rs=some cs) (hh:st.h id=some (.arr te es elems 0)) (hsz:sz=elems.length) (M:elems[k]?=some r) (hcs:cs.length=i.size) (hl:fo+i.size≤es):
  Step P n o st ⟨opr x++opr y,[id]⟩ ⟨none,[(id,some (.arr te es (elems.set k (bJ r fo cs)) 0))]⟩:=by
 refine Step.turn hd hh (by simp) (by simp[AObj.succ]) fun st' ha A G S μ a w hs=>?_
 have Y:=aI hs hx fun t ht=>ha.1 t (by simp[ht])
 have hvy:=aI hs hy fun t ht=>ha.1 t (by simp[ht])
 simp only[aK,aQ] at Y;obtain⟨_,hv | ⟨te',es',elems',fz',h1,h2,h3⟩⟩:=Y
 ·rw[A] at hv;cases hv
 rw[A] at h1;cases h1;obtain⟨h4,b,base,cap,h5,h6⟩:=h3 hsz;obtain⟨g0,vs,g1,g2,g3,g4,g5,g6,g7⟩:=(hs.inv.obj id _ A).arr h5;have hrel:=cK hvy hc;rw[kE hp] at hrel;have E:=hrel.pure;have hone:=hrel.one;have hnl:=E.length;have hk:k<elems.length:=(Ad.1 M).1
 have hres:r.length=es:=g0 r (Ag M);have hke:(k+1)*es≤elems.length*es:=Au _ hk;have hce:elems.length*es≤cap*es:=Au _ g3;rw[A2] at hke;generalize O:(a.eval y).cells.toList=news at *;have hrun:=run_store (hT.get hi) w b (base+k*es+fo) vs news te (a.eval y) g1 O (by omega) (by omega) hone;have hE:=fD (S:=S) (μ:=μ) (o':=.arr te es (elems.set k (bJ r fo cs)) 0) A h5 (by simp[AObj.succ]);have I:=aIx g0 g5 M;have B:=vT g0 k r M;have hlen:(elems.set k (bJ r fo cs)).length=elems.length:=by simp
 have hW:=WChg.setRow w b ⟨vs⟩ ⟨vs.take (base+k*es+fo)++news++vs.drop (base+k*es+fo+news.length)⟩ te (0,0) g1;refine⟨_,_,b,(base,cap),?_,h5,hW,⟨?_,.inr ⟨b,base,cap,_,aH _ _ _,hW.new,?_,by rw[hlen];exact g3,g4,?_,g6,by rw[hlen];exact g7.1,fun e=>by cases e⟩⟩,fun o v e=>?_,fun m e=>dT g4.2 m e⟩
 ·simp only[execOp,ho,h6,δ,hrun,θ,ε]
 ·intro q hq;rcases List.mem_or_eq_of_mem_set hq with hq | rfl
  ·exact g0 q hq
  ·unfold bJ;simp;omega
 ·simp only[ζ,Al,Bf];omega
 ·rw[hlen];have e1:(elems.set k (bJ r fo cs)).flatten=elems.flatten.take (k*es)++(r.take fo++cs++r.drop (fo+cs.length))++elems.flatten.drop (k*es+es):=by
   rw[Ca,ξ hk,Ch,A6,B.1,B.2,←Ar];rfl
  have e2:((vs.take (base+k*es+fo)++news++vs.drop (base+k*es+fo+news.length)).drop base).take (elems.length*es)=
    ((vs.drop base).take (elems.length*es)).take (k*es)++((((vs.drop (base+k*es)).take es).take fo)++news++(((vs.drop (base+k*es)).take es).drop (fo+cs.length)))++((vs.drop base).take (elems.length*es)).drop (k*es+es):=by
   apply B2;intro j;simp only[Ai,Aj,By,ζ,Al,Bf];have hm1:min (k*es) (min (elems.length*es) (vs.length-base))=k*es:=by omega
   have hm2:min (base+k*es+fo) vs.length=base+k*es+fo:=by omega
   have hm3:min fo es=fo:=by omega
   have hm4:min es (vs.length-(base+k*es))=es:=by omega
   simp only[hm1,hm2,hm3,hm4,hnl];by_cases U:j<k*es
   ·have c:j<elems.length*es:=by omega
    have a2:base+j<base+k*es+fo:=by omega
    have a3:base+j<base+k*es+fo+cs.length:=by omega
    have a4:j<k*es+(fo+cs.length+(es-(fo+cs.length))):=by omega
    simp[U,c,a2,a3,a4]
   ·by_cases c2:j<k*es+fo
    ·have c:j<elems.length*es:=by omega
     have a2:base+j<base+k*es+fo:=by omega
     have a3:base+j<base+k*es+fo+cs.length:=by omega
     have a4:j<k*es+(fo+cs.length+(es-(fo+cs.length))):=by omega
     have a5:j-k*es<fo+cs.length:=by omega
     have J:j-k*es<fo:=by omega
     have a7:j-k*es<es:=by omega
     simp[U,c,a2,a3,a4,a5,J,a7,show base+k*es+(j-k*es)=base+j by omega]
    ·by_cases c3:j<k*es+fo+cs.length
     ·have c:j<elems.length*es:=by omega
      have a2:¬base+j<base+k*es+fo:=by omega
      have a3:base+j<base+k*es+fo+cs.length:=by omega
      have a4:j<k*es+(fo+cs.length+(es-(fo+cs.length))):=by omega
      have a5:j-k*es<fo+cs.length:=by omega
      have J:¬j-k*es<fo:=by omega
      simp[U,c,a2,a3,a4,a5,J,show base+j-(base+k*es+fo)=j-k*es-fo by omega]
     ·by_cases c4:j<k*es+es
      ·have c:j<elems.length*es:=by omega
       have a3:¬base+j<base+k*es+fo+cs.length:=by omega
       have a4:j<k*es+(fo+cs.length+(es-(fo+cs.length))):=by omega
       have a5:¬j-k*es<fo+cs.length:=by omega
       have J:fo+cs.length+(j-k*es-(fo+cs.length))<es:=by omega
       simp[U,c,a3,a4,a5,J,show base+k*es+fo+cs.length+(base+j-(base+k*es+fo+cs.length))=base+j by omega,show base+k*es+(fo+cs.length+(j-k*es-(fo+cs.length)))=base+j by omega]
      ·have a3:¬base+j<base+k*es+fo+cs.length:=by omega
       have a4:¬j<k*es+(fo+cs.length+(es-(fo+cs.length))):=by omega
       by_cases c5:j<elems.length*es
       ·have a5:k*es+es+(j-(k*es+(fo+cs.length+(es-(fo+cs.length)))))<elems.length*es:=by omega
        simp[a3,a4,c5,a5,show base+k*es+fo+cs.length+(base+j-(base+k*es+fo+cs.length))=base+j by omega,show base+(k*es+es+(j-(k*es+(fo+cs.length+(es-(fo+cs.length))))))=base+j by omega]
       ·have a5:¬k*es+es+(j-(k*es+(fo+cs.length+(es-(fo+cs.length)))))<elems.length*es:=by omega
        simp[a4,c5,a5]
  rw[e1];show bR S _ (((vs.take (base+k*es+fo)++news++vs.drop (base+k*es+fo+news.length)).drop base).take (elems.length*es));rw[e2];exact((g5.take (k*es)).append (((I.take fo).append E).append (I.drop (fo+cs.length)))).append (g5.drop (k*es+es))
 ·--what stays is not touched
  by_cases hb:base≤o
  ·rw[g6 rfl o hb] at e;cases e
  ·obtain⟨vs0,t0,fr0,q1,q2⟩:=hs.inv.holds.1 b o v e;rw[g1] at q1;cases q1;refine⟨_,_,_,rfl,?_⟩;simp only[B9] at q2 ⊢;have hlt:o<vs.length:=(Ad.1 q2).1
   rw[Ar,A1 (by simp;omega),Ai,ξ (by omega)];exact q2
theorem rR (b off k:Nat):(⟨b,off,none⟩:Addr).add k=⟨b,off+k,none⟩:=Addr.add_mid b off k
theorem eU {t r:TypeId}{i y:TI}{fs:List (Nat×TypeId)}{f c:Nat}(A:Tok P T) (hi:T[t]?=some (some i)) (E:i.k=.st fs) (q:fs[f]?=some (c,r)) (B:T[r]?=some (some y)) (I:y.size≠0) (w:World) (b off:Nat):
  (Instr.fieldAt t (.pointer (some ⟨b,off,none⟩)) f).run P w=.ok (.pointer (some ⟨b,off+c,none⟩)) w:=by
 obtain⟨fields,h1,h2⟩:=(A.get hi).struct E;rw[h2] at q;simp only[Ce,Option.map_eq_some_iff,Array.getElem?_toList] at q;obtain⟨fl,J,M⟩:=q;cases M;simp only[Instr.fieldAt,δ,Ah h1 w,θ,J,Instr.sureAddr,ε,fieldPlace,(A.get B).size_run w];simp[I,rR]
theorem zY {t r:TypeId}{i y:TI}{fs:List (Nat×TypeId)}{f q:Nat}{x:Operand}{id off:Nat}(I:Tok P T) (ho:o.op=.fieldAddr t x f) (J:o.dst=some d) (A:d<n) (hi:T[t]?=some (some i)) (M:i.k=.st fs) (O:fs[f]?=some (q,r)) (B:T[r]?=some (some y)) (U:y.size≠0)
  (hx:opv st x=some (.one (.vp id off))):Step P n o st ⟨opr x,[]⟩ ⟨some (d,some (.one (.vp id (off+q)))),[]⟩:=by
 refine Step.value J A fun st' ha G S μ a w hs=>?_
 have E:=aI hs hx ha.1;simp only[aK,aQ] at E;obtain⟨Y,cells',b,c,h1,h2,h3⟩:=E;refine⟨.pointer (some ⟨b,off+q,none⟩),?_,?_⟩
 ·simp only[execOp,ho,h3,δ,eU I hi M O B U,θ,ε]
 ·simp only[aK,aQ];exact⟨Y,cells',b,c,h1,h2,rfl⟩
theorem aAa {t r:TypeId}{i y:TI}{fs:List (Nat×TypeId)}{f q:Nat}{x:Operand}{l:List C}(J:Tok P T) (ho:o.op=.fieldAddr t x f) (M:o.dst=some d) (A:d<n) (hi:T[t]?=some (some i)) (O:i.k=.st fs) (U:fs[f]?=some (q,r)) (B:T[r]?=some (some y)) (Y:y.size≠0)
  (hx:opv st x=some (.one (.c (.pt l)))):Step P n o st ⟨opr x,[]⟩ ⟨some (d,some (.one (.c (.pt (l.drop q))))),[]⟩:=by
 refine Step.value M A fun st' ha G S μ a w hs=>?_
 have E:=aI hs hx ha.1;simp only[aK,aQ,Rep] at E;obtain⟨b,off,h1,vs,h2,h3⟩:=E;refine⟨.pointer (some ⟨b,off+q,none⟩),?_,?_⟩
 ·simp only[execOp,ho,h1,δ,eU J hi O U B Y,θ,ε]
 ·simp only[aK,aQ,Rep];refine⟨b,off+q,rfl,vs.drop q,h2.drop q,fun j v I=>?_⟩;rw[Aj] at I;have:=h3 (q+j) v I;rwa [←add_assoc] at this
theorem aAb {t y:TypeId}{i A:TI}{fs:List (Nat×TypeId)}{f c:Nat}{x:Operand}{id k fo sz:Nat}(I:Tok P T) (ho:o.op=.fieldAddr t x f) (J:o.dst=some d) (B:d<n) (hi:T[t]?=some (some i)) (M:i.k=.st fs) (O:fs[f]?=some (c,y)) (E:T[y]?=some (some A)) (U:A.size≠0)
  {te es:Nat} {elems:List (List C)} {fz:Nat} (hx:opv st x=some (.one (.ep id k fo sz))) (hh:st.h id=some (.arr te es elems fz)) (hsz:sz=elems.length):Step P n o st ⟨opr x,[id]⟩ ⟨some (d,some (.one (.ep id k (fo+c) sz))),[]⟩:=by
 refine Step.value J B fun st' ha G S μ a w hs=>?_
 have q:=aI hs hx ha.1;have r:st'.h id=some (.arr te es elems fz):=by rw[ha.2 id (by simp),hh]
 simp only[aK,aQ] at q;obtain⟨_,q | ⟨te',es',elems',fz',h1,h2,Y⟩⟩:=q
 ·rw[r] at q;cases q
 rw[r] at h1;cases h1;obtain⟨h4,b,base,cap,h5,h6⟩:=Y hsz;refine⟨.pointer (some ⟨b,base+k*es+fo+c,none⟩),?_,?_⟩
 ·simp only[execOp,ho,h6,δ,eU I hi M O E U,θ,ε]
 ·simp only[aK,aQ];exact⟨⟨_,rfl⟩,.inr ⟨te,es,elems,fz,r,h2,fun _=>⟨h4,b,base,cap,h5,by rw[add_assoc]⟩⟩⟩
theorem gR {t e:TypeId}{i c:TI}(q:Tok P T) (hi:T[t]?=some (some i)) (y:i.k=.sl e) (r:T[e]?=some (some c)) (w:World) (b off len cap k:Nat) (kk:IntKind) (A:k<len):
  (Instr.indexAt t (.slice (some ⟨b,off,none⟩) len cap) (.int kk (k:Int))).run P w=.ok (.pointer (some ⟨b,off+k*c.size,none⟩)) w:=by
 have h1:=(q.get hi).slice y;simp only[Instr.indexAt,asIntOf,δ,ε,θ,Ah h1 w];rw[ξ ⟨by omega,by omega⟩];simp only[δ,(q.get r).size_run w,θ,ε,Int.toNat_natCast,rR]
theorem aKb {t e:TypeId}{i A:TI}{x y:Operand}{es k:Nat}{kk:IntKind}{m:Int}{l:List (List C)}{r:List C}(hT:Tok P T) (ho:o.op=.indexAddr t x y) (hd:o.dst=some d) (B:d<n) (hi:T[t]?=some (some i)) (hk:i.k=.sl e) (E:T[e]?=some (some A)) (J:A.size=es)
  (hx:opv st x=some (.one (.c (.sl es l)))) (hy:opv st y=some (I kk m)) (hm:m=(k:Int)) (M:l[k]?=some r):Step P n o st ⟨opr x++opr y,[]⟩ ⟨some (d,some (.one (.c (.pt r)))),[]⟩:=by
 refine Step.value hd B fun st' ha G S μ a w hs=>?_
 have O:=aI hs hx (c8 ha).1;have U:=cR (aI hs hy (c8 ha).2);have hlt:k<l.length:=(Ad.1 M).1
 simp only[aK,aQ,Rep] at O;obtain⟨q,len,cap,h1,h2,h3,h4,h5,h6,b,off,h7,h8⟩:=O;cases q with
 | none=>have:=(h5 rfl).1;omega
 | some q=>
  obtain⟨h9,h10⟩:=h7 q rfl;have h11:=h6 q rfl (by omega);have Y:q=⟨b,off,none⟩:=by cases q;simp_all
  subst Y;subst hm;obtain⟨q1,vs,q2,q3⟩:=h8.get k r M;refine⟨.pointer (some ⟨b,off+k*es,none⟩),?_,?_⟩
  ·simp only[execOp,ho,h1,U,δ,gR hT hi hk E w b off len cap k kk (by omega),θ,ε,J]
  ·simp only[aK,aQ,Rep];exact⟨b,off+k*es,rfl,vs,q2,q3⟩
theorem zX {t e:TypeId}{i A:TI}{x y:Operand}{te es k id off len sz:Nat}{kk:IntKind}{m:Int}{elems:List (List C)}{fz:Nat}(Y:Tok P T) (ho:o.op=.indexAddr t x y) (hd:o.dst=some d) (B:d<n) (hi:T[t]?=some (some i)) (hk:i.k=.sl e) (E:T[e]?=some (some A)) (J:A.size=es)
  (hx:opv st x=some (.one (.hs id off len sz))) (hh:st.h id=some (.arr te es elems fz)) (hsz:sz=elems.length) (hy:opv st y=some (I kk m)) (hm:m=(k:Int)) (M:k<len):Step P n o st ⟨opr x++opr y,[id]⟩ ⟨some (d,some (.one (.ep id (off+k) 0 sz))),[]⟩:=by
 refine Step.value hd B fun st' ha G S μ a w hs=>?_
 have c:=aI hs hx fun t ht=>ha.1 t (by simp[ht])
 have O:=cR (aI hs hy fun t ht=>ha.1 t (by simp[ht]));have q:st'.h id=some (.arr te es elems fz):=by rw[ha.2 id (by simp),hh]
 simp only[aK,aQ] at c;obtain⟨_,c | ⟨te',es',elems',fz',h1,h2,h3⟩⟩:=c
 ·rw[q] at c;cases c
 rw[q] at h1;cases h1;obtain⟨h4,⟨U,r,h7⟩ | ⟨b,base,cap,U,r⟩⟩:=h3 hsz
 ·subst r;simp at hsz;omega
 subst hm;refine⟨.pointer (some ⟨b,base+(off+k)*es+0,none⟩),?_,?_⟩
 ·simp only[execOp,ho,r,O,δ,gR Y hi hk E w b (base+off*es) len _ k kk M,θ,ε,J,Cb];rw[show base+off*es+k*es=base+(off+k)*es by rw[A2];omega]
 ·simp only[aK,aQ];exact⟨⟨_,rfl⟩,.inr ⟨te,es,elems,fz,q,h2,fun _=>⟨by omega,b,base,cap,U,rfl⟩⟩⟩
theorem sA {t e:TypeId}{m:Nat}{i c:TI}(q:Tok P T) (hi:T[t]?=some (some i)) (y:i.k=.ar m e) (r:T[e]?=some (some c)) (w:World) (b off k:Nat) (kk:IntKind) (A:k<m):
  (Instr.indexAt t (.pointer (some ⟨b,off,none⟩)) (.int kk (k:Int))).run P w=.ok (.pointer (some ⟨b,off+k*c.size,none⟩)) w:=by
 have h1:=(q.get hi).array y;have h2:(Instr.sureAddr (.pointer (some ⟨b,off,none⟩))).run P w=.ok ⟨b,off,none⟩ w:=by simp[Instr.sureAddr]
 simp only[Instr.indexAt,asIntOf,δ,ε,θ,Ah h1 w,h2];rw[ξ ⟨by omega,by omega⟩];simp only[δ,(q.get r).size_run w,θ,ε,Int.toNat_natCast,rR]
theorem vD {t e:TypeId}{i r:TI}{x y:Operand}{id off k m:Nat}{kk:IntKind}{q:Int}(O:Tok P T) (ho:o.op=.indexAddr t x y) (U:o.dst=some d) (A:d<n) (hi:T[t]?=some (some i)) (Y:i.k=.ar m e) (B:T[e]?=some (some r))
  (hx:opv st x=some (.one (.vp id off))) (hy:opv st y=some (I kk q)) (hm:q=(k:Int)) (E:k<m):Step P n o st ⟨opr x++opr y,[]⟩ ⟨some (d,some (.one (.vp id (off+k*r.size)))),[]⟩:=by
 refine Step.value U A fun st' ha G S μ a w hs=>?_
 have J:=aI hs hx (c8 ha).1;have M:=cR (aI hs hy (c8 ha).2);simp only[aK,aQ] at J;obtain⟨t',cells',b,c,h1,h2,h3⟩:=J;subst hm;refine⟨.pointer (some ⟨b,off+k*r.size,none⟩),?_,?_⟩
 ·simp only[execOp,ho,h3,M,δ,sA O hi Y B w b off k kk E,θ,ε]
 ·simp only[aK,aQ];exact⟨t',cells',b,c,h1,h2,rfl⟩
def notNil:V→Bool
 | .one (.vp _ _)=>true
 | .one (.c (.pt _))=>true
 | .one (.pas _)=>true
 | _=>false
theorem zU {x:Operand}{y:V}(ho:o.op=.nilCheck x) (B:o.dst=some d) (A:d<n) (hx:opv st x=some y) (r:notNil y=true):Step P n o st ⟨opr x,[]⟩ ⟨some (d,some y),[]⟩:=by
 refine Step.value B A fun st' ha G S μ a w hs=>⟨a.eval x,?_,aI hs hx ha.1⟩
 have q:=aI hs hx ha.1;unfold notNil at r;split at r
 ·simp only[aK,aQ] at q;obtain⟨I,cells',b,c,h1,h2,E⟩:=q;simp[execOp,ho,E]
 ·simp only[aK,aQ,Rep] at q;obtain⟨b,off,h1,_⟩:=q;simp[execOp,ho,h1]
 ·simp only[aK,aQ] at q;obtain⟨b,off,h1,_⟩:=q;simp[execOp,ho,h1]
 ·cases r
theorem gQ {t:TypeId}{x:Operand}{a:Act}{w:World}{u:Value}{m:Int}(ho:o.op=.call { callee:=.builtin .len,args:= #[x],argTypes:= #[t] }) (hx:a.eval x=u) (c:(Builtin.len_ #[t] o.type #[u]).run P w=.ok (goInt m) w):
  (execOp a.eval o).run P w=.ok (.value (goInt m)) w:=by
 simp only[execOp,ho,resolve,map_toArray,As,map_nil,hx,δ,ε,θ,invoke,builtin,c]
theorem aGr {t e:TypeId}{i:TI}{x:Operand}{es:Nat}{l:List (List C)}(y:Tok P T) (ho:o.op=.call { callee:=.builtin .len,args:= #[x],argTypes:= #[t] }) (A:o.dst=some d) (q:d<n) (hi:T[t]?=some (some i)) (B:i.k=.sl e)
  (hx:opv st x=some (.one (.c (.sl es l)))):Step P n o st ⟨opr x,[]⟩ ⟨some (d,some (I .i64 (l.length:Int))),[]⟩:=by
 refine Step.value A q fun st' ha G S μ a w hs=>?_
 have r:=aI hs hx ha.1;simp only[aK,aQ,Rep] at r;obtain⟨E,len,cap,h1,h2,_⟩:=r;refine⟨goInt l.length,gQ ho h1 ?_,by simp[aK,aQ,Rep,goInt]⟩;simp[Builtin.len_,Ah ((y.get hi).slice B) w,h2]
theorem aGt {t e:TypeId}{i:TI}{x:Operand}(y:Tok P T) (ho:o.op=.call { callee:=.builtin .len,args:= #[x],argTypes:= #[t] }) (A:o.dst=some d) (q:d<n) (hi:T[t]?=some (some i)) (B:i.k=.sl e)
  (hx:opv st x=some (.one (.c .nl))):Step P n o st ⟨opr x,[]⟩ ⟨some (d,some (I .i64 0)),[]⟩:=by
 refine Step.value A q fun st' ha G S μ a w hs=>?_
 have r:=aI hs hx ha.1;simp only[aK,aQ,Rep] at r;refine⟨goInt 0,gQ ho r ?_,by simp[aK,aQ,Rep,goInt]⟩;simp[Builtin.len_,Ah ((y.get hi).slice B) w]
theorem aGu {t e:TypeId}{i:TI}{x:Operand}{te es id off len sz:Nat}{elems:List (List C)}{fz:Nat}(y:Tok P T) (ho:o.op=.call { callee:=.builtin .len,args:= #[x],argTypes:= #[t] }) (J:o.dst=some d) (A:d<n) (hi:T[t]?=some (some i)) (B:i.k=.sl e)
  (hx:opv st x=some (.one (.hs id off len sz))) (hh:st.h id=some (.arr te es elems fz)) (hsz:sz=elems.length):Step P n o st ⟨opr x,[id]⟩ ⟨some (d,some (I .i64 (len:Int))),[]⟩:=by
 refine Step.value J A fun st' ha G S μ a w hs=>?_
 have c:=aI hs hx ha.1;have q:st'.h id=some (.arr te es elems fz):=by rw[ha.2 id (by simp),hh]
 simp only[aK,aQ] at c;obtain⟨_,c | ⟨Y,aa,elems',ab,h1,h2,M⟩⟩:=c
 ·rw[q] at c;cases c
 rw[q] at h1;cases h1;obtain⟨h4,⟨O,r,U⟩ | ⟨b,base,cap,O,r⟩⟩:=M hsz
 ·subst r;simp at hsz;have E:len=0:=by omega
  refine⟨goInt len,gQ ho U ?_,by simp[aK,aQ,Rep,goInt]⟩;simp[Builtin.len_,Ah ((y.get hi).slice B) w,E]
 ·refine⟨goInt len,gQ ho r ?_,by simp[aK,aQ,Rep,goInt]⟩;simp[Builtin.len_,Ah ((y.get hi).slice B) w]
theorem aCj {t:TypeId}{i:TI}{x:Operand}{s:List UInt8}(q:Tok P T) (ho:o.op=.call { callee:=.builtin .len,args:= #[x],argTypes:= #[t] }) (r:o.dst=some d) (c:d<n) (hi:T[t]?=some (some i)) (y:i.k=.str)
  (hx:opv st x=some (Go.AM.T s)):Step P n o st ⟨opr x,[]⟩ ⟨some (d,some (I .i64 (s.length:Int))),[]⟩:=by
 refine Step.value r c fun st' ha G S μ a w hs=>?_
 have A:=iT (aI hs hx ha.1);refine⟨goInt s.length,gQ ho A ?_,by simp[aK,aQ,Rep,goInt]⟩;simp[Builtin.len_,Ah ((q.get hi).str y) w];rfl
end
section
variable {P:Program}{n:Nat}{o:Oper}{st:St}{d:Nat}{T:TT}
theorem kU (off:Nat):∀(vs:List Value) (j:Nat) (cells:Array Value),off+j+vs.length≤cells.size→
  (vs.zipIdx j).foldl (fun cs (x:Value×Nat)=>cs.setIfInBounds (off+x.2) x.1) cells=⟨bJ cells.toList (off+j) vs⟩
 | [],j,cells,_=>by simp[bJ]
 | v::vs,j,cells,h=>by
  simp only[τ] at h;have E:=kU off vs (j+1) (cells.setIfInBounds (off+j) v) (by simp;omega);simp only[List.zipIdx_cons,List.foldl_cons,E];congr 1;unfold bJ;simp only[Array.toList_setIfInBounds];apply B2;intro k;simp only[By,ζ,Al,length_set,Av,τ,Ai,Aj,List.getElem?_set];have r:min (off+(j+1)) cells.size=off+j+1:=by omega
  have y:min (off+j) cells.size=off+j:=by omega
  simp only[r,y];by_cases A:k<off+j
  ·have c:k<off+j+1+vs.length:=by omega
   have a2:k<off+j+1:=by omega
   have a3:k<off+(j+1):=by omega
   have a4:k<off+j+(vs.length+1):=by omega
   have a5:¬off+j=k:=by omega
   simp[A,c,a2,a3,a4,a5]
  ·by_cases I:k=off+j
   ·subst I;have c:off+j<off+j+1+vs.length:=by omega
    have a5:off+j<cells.size:=by omega
    have q:off+j<off+(j+1):=by omega
    simp[c,a5,q]
   ·by_cases B:k<off+j+1+vs.length
    ·have a2:¬k<off+j+1:=by omega
     have a4:k<off+j+(vs.length+1):=by omega
     have q:k-(off+j)=(k-(off+j+1))+1:=by omega
     simp[A,B,a2,a4,q]
    ·have a4:¬k<off+j+(vs.length+1):=by omega
     have a5:¬off+j=k:=by omega
     simp[B,a4,a5,show off+(j+1)+vs.length+(k-(off+j+1+vs.length))=k by omega,show off+j+(vs.length+1)+(k-(off+j+(vs.length+1)))=k by omega]
def mL (st:St):List (Nat×Operand)→Option (List (Nat×List R))
 | []=>some []
 | (i,x)::ps=>match opv st x with
  | some v=>match eG v with
   | some rs=>match mL st ps with | some l=>some ((i,rs)::l) | none=>none
   | none=>none
  | none=>none
def dM:List (Nat×Operand)→List Nat
 | []=>[]
 | (_,x)::ps=>opr x++dM ps
def aAr (places:List (Nat×Nat)):List R→List (Nat×List R)→Option (List R)
 | cells,[]=>some cells
 | cells,(i,rs)::ps=>match places[i]? with
  | some (off,size)=>if Nat.beq rs.length size&&Nat.ble (off+rs.length) cells.length then aAr places (bJ cells off rs) ps else none
  | none=>none
def iS (T:TT):List (Nat×TypeId)→Option (List (Nat×Nat))
 | []=>some []
 | (off,t)::fs=>match T[t]? with
  | some (some i)=>match iS T fs with | some l=>some ((off,i.size)::l) | none=>none
  | _=>none
theorem aAe {G:Ctx}{S:Sto}{μ:Mu}{st':St}{a:Act}{w:World}(hs:Sim G n S μ st' a w):∀(ps:List (Nat×Operand)) (l:List (Nat×List R)),mL st ps=some l→(∀t∈dM ps,st'.e t=st.e t)→
  ∃vs:List (Nat×Value),ps.map (fun(i,x)=>(i,a.eval x))=vs∧vs.length=l.length∧∀(k:Nat) (p:Nat×List R),l[k]?=some p→∃v:Value,vs[k]?=some (p.1,v)∧aN S μ st'.h p.2 v.cells.toList:=by
 intro ps
 induction ps with
 | nil=>intro l h _;simp[mL] at h;subst h;exact⟨[],rfl,rfl,fun k p h=>by simp at h⟩
 | cons p ps r=>
  obtain⟨i,x⟩:=p;intro l h ha;simp only[mL] at h;split at h
  ·rename_i v y;split at h
   ·rename_i rs hc;split at h
    ·rename_i A c;cases h;obtain⟨vs,h1,h2,B⟩:=r A c fun t ht=>ha t (by simp[dM,ht])
     refine⟨(i,a.eval x)::vs,by simp[h1],by simp[h2],fun k q hq=>?_⟩;cases k with
     | zero=>
      simp at hq;subst hq;exact⟨a.eval x,rfl,cK (aI hs y fun t ht=>ha t (by simp[dM,ht])) hc⟩
     | succ k=>simp at hq;simpa using B k q hq
    ·cases h
   ·cases h
  ·cases h
theorem pA {S:Sto}{μ:Mu}{H:bW}{cells rs:List R}{vs us:List Value}{off:Nat}(h:aN S μ H cells vs) (k:aN S μ H rs us):aN S μ H (bJ cells off rs) (bJ vs off us):=by
 have hl:=k.length;unfold bJ;rw[hl];exact((h.take off).append k).append (h.drop _)
theorem aDv {S:Sto}{μ:Mu}{H:bW}{places:List (Nat×Nat)}:∀(ps:List (Nat×List R)) (vs:List (Nat×Value)) (cells:List R) (cs:Array Value) (out:List R),aAr places cells ps=some out→aN S μ H cells cs.toList→
  vs.length=ps.length→(∀(k:Nat) (p:Nat×List R),ps[k]?=some p→∃v:Value,vs[k]?=some (p.1,v)∧aN S μ H p.2 v.cells.toList)→
  ∃c,Instr.fill (places[·]?) cs vs=some c∧aN S μ H out c.toList:=by
 intro ps
 induction ps with
 | nil=>
  intro vs cells cs out h r hl _;simp at hl;subst hl;simp[aAr] at h;subst h;exact⟨cs,rfl,r⟩
 | cons p ps O=>
  intro vs cells cs out h r hl hp;obtain⟨i,rs⟩:=p
  match vs,hl with
  | q::vs,hl=>
   obtain⟨v,B,hrel⟩:=hp 0 (i,rs) rfl;simp at B;subst B;simp only[aAr] at h;split at h
   ·rename_i off size E;split at h
    ·rename_i hc;simp only[Aa] at hc;have Y:=ω hc.1;have aa:=Ak hc.2;have I:=hrel.length;have J:=r.length;simp only[Av] at I J;have A:=kU off v.cells.toList 0 cs (by simp;omega);obtain⟨c,h1,h2⟩:=O vs (bJ cells off rs) ⟨bJ cs.toList off v.cells.toList⟩ out h (pA r hrel) (by simpa using hl) fun k p U=>by simpa using hp (k+1) p (by simpa using U)
     refine⟨c,?_,h2⟩;simp only[Instr.fill];rw[E];simp only[];have y:(v.cells.size≠size || decide (off+v.cells.size>cs.size))=false:=by
      simp only[Bool.or_eq_false_iff,decide_eq_false_iff_not];exact⟨by simp;omega,by omega⟩
     simp only[y,Ao,Bm];have M:(v.cells.zipIdx.foldl (fun cs (x:Value×Nat)=>cs.setIfInBounds (off+x.2) x.1) cs)=⟨bJ cs.toList off v.cells.toList⟩:=by
      rw[←Array.foldl_toList,Array.toList_zipIdx];simpa using A
     rw[←h1];congr 1
    ·cases h
   ·cases h
theorem pG (c:Tok P T):∀(fs:List (Nat×TypeId)) (fields:List Field) (places:List (Nat×Nat)),fs=fields.map (fun f=>(f.offset,f.type))→iS T fs=some places→
  fields.mapM (fun f=>(P.info? f.type).map fun i=>(f.offset,i.size))=some places
 | _,[],places,h,hp=>by simp at h;subst h;simp[iS] at hp;subst hp;rfl
 | _,f::fields,places,h,hp=>by
  simp only[As] at h;subst h;simp only[iS] at hp;split at hp
  ·rename_i i hi;split at hp
   ·rename_i l hl;cases hp;have q:=pG c _ fields l rfl hl;have hsz:=(c.get hi).info;simp only[List.mapM_cons,q];cases hq:P.info? f.type with
    | none=>simp[hq] at hsz
    | some inf=>
     simp[hq] at hsz;simp[hsz]
   ·cases hp
  ·cases hp
theorem aKf {t:TypeId}{i:TI}{fs:List (Nat×TypeId)}{places:List (Nat×Nat)}{parts:Array (Nat×Operand)}{ps:List (Nat×List R)}{out:List R}(r:Tok P T) (ho:o.op=.build t parts) (I:o.dst=some d) (y:d<n) (hi:T[t]?=some (some i)) (J:i.k=.st fs)
  (A:iS T fs=some places) (B:mL st parts.toList=some ps) (M:aAr places (i.zero.map R.c) ps=some out):Step P n o st ⟨dM parts.toList,[]⟩ ⟨some (d,some (aMr out)),[]⟩:=by
 refine Step.value I y fun st' ha G S μ a w hs=>?_
 obtain⟨vs,h1,h2,O⟩:=aAe hs _ _ B ha.1;obtain⟨fields,hu,E⟩:=(r.get hi).struct J;obtain⟨inf,dd,z,g1,g2,g3,g4,g5,g6,g7,g8⟩:=(r.get hi).ex;obtain⟨q,U,Y⟩:=aDv (S:=S) (μ:=μ) (H:=st'.h) ps vs (i.zero.map R.c) z.cells out M (gI g7).toR h2 O;refine⟨.agg q,?_,?_⟩
 ·have hb:P.built t (parts.map fun(i,x)=>(i,a.eval x)).toList=some q:=by
   unfold Program.built;simp only[g1,hu,g6,pG r fs fields.toList places E A];rw[←U,←h1];simp
  simp only[execOp,ho,δ,run_build w t _ q hb,θ,ε]
 ·have:=zI Y;simpa using this
theorem aKc {t U:TypeId}{i c:TI}{fs:List (Nat×TypeId)}{f q:Nat}{x:Operand}{v y:V}{rs:List R}(A:Tok P T) (ho:o.op=.field t x f) (hd:o.dst=some d) (Y:d<n) (hi:T[t]?=some (some i)) (hk:i.k=.st fs) (J:fs[f]?=some (q,U)) (r:T[U]?=some (some c))
  (hx:opv st x=some v) (aa:(match v with | .pa _=>true | .ma _=>true | _=>false)=true) (hc:eG v=some rs) (hl:Nat.ble (q+c.size) rs.length=true) (hy:gX c ((rs.drop q).take c.size)=some y):Step P n o st ⟨opr x,[]⟩ ⟨some (d,some y),[]⟩:=by
 refine Step.value hd Y fun st' ha G S μ a w hs=>?_
 have B:=aI hs hx ha.1;have hrel:=cK B hc;have M:∃cs,a.eval x=.agg cs:=by
  cases v<;>simp only[aK] at B<;>simp at aa
  ·obtain⟨vs,h,_⟩:=B;exact⟨_,h⟩
  ·obtain⟨vs,h,_⟩:=B;exact⟨_,h⟩
 obtain⟨cs,E⟩:=M;rw[E] at hrel;simp only[Value.cells] at hrel;have ab:=hrel.length;have hl':=Ak hl;simp only[Av] at ab;obtain⟨fields,h1,h2⟩:=(A.get hi).struct hk;rw[h2] at J;simp only[Ce,Option.map_eq_some_iff,Array.getElem?_toList] at J;obtain⟨fl,h3,h4⟩:=J;cases h4;have O:=iV ((hrel.drop fl.offset).take c.size) hy;refine⟨_,?_,O⟩;simp only[execOp,ho,E,δ,Instr.field,Ah h1 w,θ,h3,asAgg,ε,part,(A.get r).agg_run w];cases ac:c.k.agg with
 | true=>
  simp only[Cd,δ,(A.get r).size_run w,θ,ε];congr 3;have:(cs.extract fl.offset (fl.offset+c.size)).toList=(cs.toList.drop fl.offset).take c.size:=by simp
  rw[←this]
 | false=>
  have ad:=(A.get r).one ac;simp only[Ao,Bm];have I:fl.offset<cs.size:=by omega
  have he:cs[fl.offset]?=some cs[fl.offset]:=by simp[I]
  rw[he];simp only[ε,θ];congr 2;rw[ad,List.take_one,List.head?_drop];simp[I]
end
inductive Cle:C→C→Prop
 | refl {x}:Cle x x
 | nl {es}:Cle .nl (.sl es [])
 | sn {es l}:Cle (.sn es l) (.sl es l)
 | sg {te es l}:Cle (.sg te es l) (.sl es l)
theorem Cle.rep {S:Sto}{x y:C}{v:Value}(h:Cle x y) (k:Rep S x v):Rep S y v:=by
 cases h with
 | refl=>exact k
 | sg=>
  simp only[Rep] at k ⊢;obtain⟨a,len,cap,h1,h2,q,r,c⟩:=k;rcases c with⟨rfl,c,A⟩ | ⟨b,o,rfl,A,_⟩
  ·refine⟨none,len,cap,h1,h2,q,r,fun _=>⟨c,A⟩,by simp,0,0,by simp,?_⟩;have:(_:List (List C)).length=0:=h2.symm.trans c;rw[An this];simp[b4]
  ·exact⟨some ⟨b,o,none⟩,len,cap,h1,h2,q,r,by simp,fun B e _=>by cases e;rfl,b,o,fun B e=>by cases e;exact⟨rfl,rfl⟩,A⟩
 | nl=>
  simp only[Rep] at k ⊢;exact⟨none,0,0,k,by simp,le_refl _,Ae _,fun _=>⟨rfl,rfl⟩,by simp,0,0,by simp,by simp[b4]⟩
 | sn=>
  simp only[Rep] at k ⊢;obtain⟨b,o,sp,len,cap,h1,h2,q,r,E,c⟩:=k;exact⟨some ⟨b,o,sp⟩,len,cap,h1,h2,q,r,by simp,by rintro B ⟨⟩;exact E,b,o,by rintro B ⟨⟩;exact⟨rfl,rfl⟩,c⟩
inductive PureL (h:bW):List Nat→List R→List C→Prop
 | nil:PureL h [] [] []
 | c {ids rs cs x y}:Cle x y→PureL h ids rs cs→PureL h ids (.c x::rs) (y::cs)
 | hs {ids rs cs id off len sz te es elems e}:h id=some (.arr te es elems 2)→sz=elems.length→e=(elems.drop off).take len→PureL h ids rs cs→PureL h (id::ids) (.hs id off len sz::rs) (.sl es e::cs)
 | any {ids rs cs r}:PureL h ids rs cs→PureL h ids (r::rs) (.any::cs)
 | fn {ids rs cs f}:PureL h ids rs cs→PureL h ids (.clo f []::rs) (.fn f::cs)
 | ras {ids ids' ids0 rs cs n es l fl rows}:ids0=ids'++ids→PureL h ids' l fl→fl=rows.flatten→(∀r∈rows,r.length=es)→rows.length=n→PureL h ids rs cs→PureL h ids0 (.ras n es l::rs) (.sl es rows::cs)
theorem PureL.of_pure {h:bW}:∀{cs:List C},PureL h [] (cs.map R.c) cs
 | []=>.nil
 | _::_=>.c .refl PureL.of_pure
def aNp:List R→List C
 | []=>[]
 | .c x::l=>x::aNp l
 | .clo f []::l=>.fn f::aNp l
 | _::l=>.any::aNp l
theorem PureL.ofA {h:bW}:∀{rs:List R},PureL h [] rs (aNp rs)
 | []=>.nil
 | .c _::_=>.c .refl .ofA
 | .hs ..::_=>.any .ofA
 | .tl ..::_=>.any .ofA
 | .vp ..::_=>.any .ofA
 | .ep ..::_=>.any .ofA
 | .mr ..::_=>.any .ofA
 | .clo _ []::_=>.fn .ofA
 | .clo _ (_::_)::_=>.any .ofA
 | .mth ..::_=>.any .ofA
 | .yl ..::_=>.any .ofA
 | .ra ..::_=>.any .ofA
 | .rp ..::_=>.any .ofA
 | .ras ..::_=>.any .ofA
 | .pas ..::_=>.any .ofA
theorem aN5 {S:Sto}{μ:Mu}{H:bW}{w:World}{id off len sz te es:Nat}{elems:List (List C)}{v:Value}(hO:iG S μ H w id (.arr te es elems 2)) (hh:H id=some (.arr te es elems 2)) (hsz:sz=elems.length)
  (c:aQ S μ H (.hs id off len sz) v):Rep S (.sl es ((elems.drop off).take len)) v:=by
 simp only[aQ] at c;obtain⟨_,c | ⟨E,I,elems',J,h1,h2,y⟩⟩:=c
 ·rw[hh] at c;cases c
 rw[hh] at h1;cases h1;obtain⟨M,⟨r,q,A⟩ | ⟨b,base,cap,r,q⟩⟩:=y hsz
 ·subst q;simp only[Rep];exact⟨none,0,0,A,by simp,le_refl _,Ae _,fun _=>⟨rfl,rfl⟩,by simp,0,0,by simp,by simp[b4]⟩
 ·obtain⟨g0,vs,g1,g2,g3,g4,g5,g6,g7,g8⟩:=hO.arr r;simp only[Rep];have hlen:((elems.drop off).take len).length=len:=by simp;omega
  refine⟨_,len,cap-off,q,hlen.symm,by omega,le_trans (Nat.sub_le _ _) g4.1,by simp,by rintro B ⟨⟩;exact fun _=>rfl,b,base+off*es,by rintro B ⟨⟩;exact⟨rfl,rfl⟩,?_⟩;have:=b4.of_flat g0 g5 (g8 rfl);exact(this.drop off).take len
theorem PureL.rel {S:Sto}{μ:Mu}{H H0:bW}{w:World}:∀{ids:List Nat}{rs:List R}{cs:List C}{vs:List Value},PureL H0 ids rs cs→(∀i∈ids,H i=H0 i)→(∀id o,H id=some o→iG S μ H w id o)→aN S μ H rs vs→bR S cs vs:=by
 intro ids rs cs vs hp
 induction hp generalizing vs with
 | nil=>intro _ _ h;simp only[aN] at h;subst h;simp[bR]
 | c hc _ q=>
  intro hi hO h;simp only[aN] at h;obtain⟨v,vs',rfl,h1,h2⟩:=h;simp only[aQ] at h1;simp only[bR];exact⟨v,vs',rfl,hc.rep h1,q hi hO h2⟩
 | @ras ids ids' ids0 rs cs n es l fl rows r _ y A hn _ B q=>
  subst r;intro hi hO h;simp only[aN] at h;obtain⟨v,vs',rfl,h1,h2⟩:=h;simp only[aQ] at h1;simp only[bR];refine⟨v,vs',rfl,?_,q (fun i hh=>hi i (by simp[hh])) hO h2⟩;obtain⟨a,cap,g1,g2,g3,g4,g5,g6,b,o,g7,us,g8,g9⟩:=h1;have g10:=B (fun i hh=>hi i (by simp[hh])) hO g8;subst y;simp only[Rep];exact⟨a,n,cap,g1,hn.symm,g3,g4,g5,fun I e _=>g6 I e,b,o,g7,b4.of_flat A g10 g9⟩
 | any _ q=>
  intro hi hO h;simp only[aN] at h;obtain⟨v,vs',rfl,h1,h2⟩:=h;simp only[bR];exact⟨v,vs',rfl,by simp only[Rep];exact h1.one,q hi hO h2⟩
 | fn _ q=>
  intro hi hO h;simp only[aN] at h;obtain⟨v,vs',rfl,h1,h2⟩:=h;simp only[aQ,aN] at h1;obtain⟨us,rfl,rfl⟩:=h1;simp only[bR];exact⟨_,vs',rfl,by simp only[Rep],q hi hO h2⟩
 | @hs ids rs cs id off len sz te es elems e he hsz E _ q=>
  intro hi hO h;simp only[aN] at h;obtain⟨v,vs',rfl,h1,h2⟩:=h;simp only[bR];have hh:H id=some (.arr te es elems 2):=by rw[hi id (by simp),he]
  exact⟨v,vs',rfl,by rw[E];exact aN5 (hO id _ hh) hh hsz h1,q (fun i h=>hi i (by simp[h])) hO h2⟩
inductive RowsV (st:St) (es:Nat):Nat→List Nat→List (Nat×Operand)→List (List C)→Prop
 | nil {k}:RowsV st es k [] [] []
 | cons {k ids ids' x ps v rs cs rows}:opv st x=some v→eG v=some rs→PureL st.h ids rs cs→Nat.beq rs.length es=true→RowsV st es (k+1) ids' ps rows→RowsV st es k (ids++ids') ((k,x)::ps) (cs::rows)
section
variable {P:Program}{n:Nat}{o:Oper}{st:St}{d:Nat}{T:TT}
theorem zQ {G:Ctx}{S:Sto}{μ:Mu}{st':St}{a:Act}{w:World}(hs:Sim G n S μ st' a w) {es:Nat}:∀{k:Nat}{ids:List Nat}{ps:List (Nat×Operand)}{rows:List (List C)},RowsV st es k ids ps rows→(∀t∈dM ps,st'.e t=st.e t)→(∀i∈ids,st'.h i=st.h i)→
  ∀(cells:Array Value),cells.size=(k+ps.length)*es→∃out:Array Value,Instr.fill (fun i=>some (i*es,es)) cells (ps.map fun(i,x)=>(i,a.eval x))=some out∧out.size=cells.size∧
   ∃us,bR S rows.flatten us∧out.toList=cells.toList.take (k*es)++us∧(∀r∈rows,r.length=es):=by
 intro k ids ps rows h
 induction h with
 | nil=>
  intro _ _ cells hc;refine⟨cells,rfl,rfl,[],by simp[bR],?_,by simp⟩;rw[Cm,Aq];simp at hc;simp[hc]
 | @cons k ids ids' x ps v rs cs rows J hc hp hl _ M=>
  intro ha hi cells hsz;have aa:=ω hl;have hrel:=cK (aI hs J fun t ht=>ha t (by simp[dM,ht])) hc;have c:=hp.rel (fun i h=>hi i (by simp[h])) hs.inv.obj hrel;have E:=hrel.length;simp only[Av] at E;simp only[τ] at hsz;have ab:(k+(ps.length+1))*es=k*es+es+ps.length*es:=by
   rw[A2,A2];omega
  have A:=kU (k*es) (a.eval x).cells.toList 0 cells (by simp only[Av];omega);have y:(bJ cells.toList (k*es) (a.eval x).cells.toList).length=cells.size:=by
   unfold bJ;simp;omega
  obtain⟨out,h1,h2,us,O,U,Y⟩:=M (fun t ht=>ha t (by simp[dM,ht])) (fun i h=>hi i (by simp[h])) ⟨bJ cells.toList (k*es) (a.eval x).cells.toList⟩ (by
   simp only[size_toArray,y,hsz];congr 1
   omega)
  refine⟨out,?_,by rw[h2];simpa using y,(a.eval x).cells.toList++us,?_,?_,?_⟩
  ·simp only[As,Instr.fill];have q:((a.eval x).cells.size≠es || decide (k*es+(a.eval x).cells.size>cells.size))=false:=by
    simp only[Bool.or_eq_false_iff,decide_eq_false_iff_not];exact⟨by simp;omega,by omega⟩
   simp only[q,Ao,Bm];have I:((a.eval x).cells.zipIdx.foldl (fun cs (x:Value×Nat)=>cs.setIfInBounds (k*es+x.2) x.1) cells)=⟨bJ cells.toList (k*es) (a.eval x).cells.toList⟩:=by
    rw[←Array.foldl_toList,Array.toList_zipIdx];simpa using A
   rw[←h1];congr 1
  ·rw[A6];exact c.append O
  ·rw[U];have:(bJ cells.toList (k*es) (a.eval x).cells.toList).take ((k+1)*es)=cells.toList.take (k*es)++(a.eval x).cells.toList:=by
    unfold bJ;apply take_left';simp;rw[A2];omega
   show(bJ cells.toList (k*es) (a.eval x).cells.toList).take ((k+1)*es)++us=_;rw[this,Ar]
  ·intro r B;rcases Ap.1 B with rfl | B
   ·have:=c.length;simp only[Av] at this;omega
   ·exact Y r B
theorem RowsV.lengths {es k:Nat}{ids:List Nat}{ps:List (Nat×Operand)}{rows:List (List C)}(h:RowsV st es k ids ps rows):rows.length=ps.length:=by
 induction h with
 | nil=>rfl
 | cons _ _ _ _ _ c=>simp[c]
theorem aCd {t e:TypeId}{i c:TI}{len:Nat}{parts:Array (Nat×Operand)}{ids:List Nat}{rows:List (List C)}(id:Nat) (E:Tok P T) (ho:o.op=.buildSlice t len parts) (hd:o.dst=some d) (ab:d<n) (hi:T[t]?=some (some i)) (hk:i.k=.sl e) (A:T[e]?=some (some c))
  (B:RowsV st c.size 0 ids parts.toList rows) (hlen:Nat.beq len parts.size=true) (I:Nat.ble (len*c.size) 16777216=true) (Y:Nat.ble len 16777216=true) (hid:st.h id=none):
  Step P n o st ⟨dM parts.toList,id::ids⟩ ⟨some (d,some (.one (.hs id 0 len len))),[(id,some (.arr e c.size rows 0))]⟩:=by
 refine Step.new hd ab hid (by simp) fun st' ha hid' G S μ a w hs=>?_
 have O:=ω hlen;have hsm:=Ak I;obtain⟨z,hz,hzr,_⟩:=(E.get A).zero_run;have U:=(hzr S).length;rw[(E.get A).len] at U;simp only[Av] at U;have hrl:=B.lengths;simp only[Av] at hrl;have key:∀(cells:Array Value),cells.size=len*c.size→∃out:Array Value,Instr.fill (fun i=>some (i*c.size,c.size)) cells (parts.map fun(i,x)=>(i,a.eval x)).toList=some out∧out.size=len*c.size∧bR S rows.flatten out.toList∧(∀r∈rows,r.length=c.size):=by
  intro cells hc;obtain⟨out,h1,h2,us,y,q,h5⟩:=zQ hs B ha.1 (fun i h=>ha.2 i (by simp[h])) cells (by rw[hc,O];simp);refine⟨out,by rw[←h1];simp,by rw[h2,hc],?_,h5⟩;simp at q;rw[q];exact y
 have aa:∃out:Array Value,(Instr.buildSlice t len (parts.map fun(i,x)=>(i,a.eval x))).run P w=.ok (.slice (some ⟨w.heap.size,0,none⟩) len len) (w.alloc (.cells out e))∧out.size=len*c.size∧bR S rows.flatten out.toList∧(∀r∈rows,r.length=c.size):=by
  by_cases h0:len*c.size=0
  ·obtain⟨out,h1,h2,y,q⟩:=key ((Array.range (len*c.size)).map ((#[]:Array Value)[· %(#[]:Array Value).size]!)) (by simp);refine⟨out,?_,h2,y,q⟩;have J:¬len*c.size>2^24:=by omega
   simp only[Instr.buildSlice,δ,Ah ((E.get hi).slice hk) w,θ,(E.get A).size_run w];rw[η J,ξ h0];simp only[δ,θ,ε,h1,eO]
  ·obtain⟨out,h1,h2,y,q⟩:=key ((Array.range (len*c.size)).map (z.cells[· %z.cells.size]!)) (by simp);refine⟨out,?_,h2,y,q⟩;have J:¬len*c.size>2^24:=by omega
   simp only[Instr.buildSlice,δ,Ah ((E.get hi).slice hk) w,θ,(E.get A).size_run w];rw[η J,η h0];simp only[δ,hz w,θ,ε,h1,eO]
 obtain⟨out,h1,h2,y,q⟩:=aa;have hlm:len≤maxLen:=by
  have:=Ak Y;unfold maxLen;omega
 refine⟨_,_,.slice (some ⟨w.heap.size,0,none⟩) len len,(0,len),?_,WChg.alloc w (.cells out e),?_,?_⟩
 ·simp only[execOp,ho,δ,h1,θ,ε]
 ·have M:rows.length=len:=by omega
  refine⟨q,.inr ⟨w.heap.size,0,len,out.toList,aH _ _ _,Bx w _,by simp[h2],by omega,⟨?_,nU hs.inv⟩,?_,fun _ o _=>eA hs.inv o,fun o _=>eA hs.inv o,fun e=>by cases e⟩⟩
  ·exact hlm
  ·simp only[B1];rw[Aq (by simp[h2,M])];exact y
 ·simp only[aK,aQ];have M:rows.length=len:=by omega
  exact⟨⟨_,_,_,rfl⟩,.inr ⟨e,c.size,rows,0,aH _ _ _,by omega,fun _=>⟨by omega,.inr ⟨w.heap.size,0,len,aH _ _ _,by simp⟩⟩⟩⟩
end
inductive Src (st:St) (es:Nat):List Nat→V→List (List C)→Prop
 | hs {id off len sz te elems fz rows}:st.h id=some (.arr te es elems fz)→sz=elems.length→rows=(elems.drop off).take len→Src st es [id] (.one (.hs id off len sz)) rows
 | all {id sz te elems fz}:st.h id=some (.arr te es elems fz)→sz=elems.length→Src st es [id] (.one (.hs id 0 sz sz)) elems
 | sl {l}:Src st es [] (.one (.c (.sl es l))) l
 | nl:Src st es [] (.one (.c .nl)) []
 | sn {l}:Src st es [] (.one (.c (.sn es l))) l
theorem tH {α:Type}{es:Nat}:∀{l:List (List α)},(∀r∈l,r.length=es)→∀k:Nat,(l.take k).flatten=l.flatten.take (k*es)
 | [],_,k=>by simp
 | x::xs,hl,0=>by simp
 | x::xs,hl,k+1=>by
  have hx:=hl x (by simp);have c:=tH (l:=xs) (fun r q=>hl r (by simp[q])) k;rw[Bc,A6,A6,c,List.take_append,Aq (l:=x) (by rw[hx,A2];omega)];rw[show(k+1)*es-x.length=k*es by rw[hx,A2];omega]
theorem tJ {α:Type}{es:Nat}:∀{l:List (List α)},(∀r∈l,r.length=es)→∀k:Nat,(l.drop k).flatten=l.flatten.drop (k*es)
 | [],_,k=>by simp
 | x::xs,hl,0=>by simp
 | x::xs,hl,k+1=>by
  have hx:=hl x (by simp);have c:=tJ (l:=xs) (fun r q=>hl r (by simp[q])) k;rw[Cg,A6,c,drop_append,drop_of_length_le (l:=x) (by rw[hx,A2];omega),Bv];rw[show(k+1)*es-x.length=k*es by rw[hx,A2];omega]
theorem b4.flat {S:Sto}{es b:Nat}:∀{l:List (List C)}{o:Nat},b4 S es b l o→∃vs,bR S l.flatten vs∧dC S b o vs∧∀r∈l,r.length=es
 | [],_,_=>⟨[],by simp[bR],fun i v h=>by simp at h,by simp⟩
 | r::rs,o,h=>by
  simp only[b4] at h;obtain⟨h1,⟨vs,h2,c⟩,y⟩:=h;obtain⟨us,A,B,E⟩:=b4.flat y;have hl:=h2.length;refine⟨vs++us,by rw[A6];exact h2.append A,fun i v hi=>?_,?_⟩
  ·rw[By] at hi;split at hi
   ·exact c i v hi
   ·have:=B _ v hi;rwa [show o+es+(i-vs.length)=o+i by omega] at this
  ·intro q hq;rcases Ap.1 hq with rfl | hq
   ·exact h1
   ·exact E q hq
theorem Src.rel {G:Ctx}{n:Nat}{S:Sto}{μ:Mu}{st st':St}{a:Act}{w:World}{es:Nat}{ids:List Nat}{y:V}{rows:List (List C)}{v:Value}(hs:Sim G n S μ st' a w) (h:Src st es ids y rows) (hi:∀i∈ids,st'.h i=st.h i) (q:aK S μ st'.h y v):
  ∃B c news,v=.slice B rows.length c∧bR S rows.flatten news∧(∀r∈rows,r.length=es)∧(B=none→rows=[])∧∀x,B=some x→∀j u,news[j]?=some u→w.cell? (x.add j)=some u:=by
 have J:∀{id off len sz te elems fz rows},st.h id=some (.arr te es elems fz)→sz=elems.length→rows=(elems.drop off).take len→(∀i∈[id],st'.h i=st.h i)→aK S μ st'.h (.one (.hs id off len sz)) v→
   ∃B c news,v=.slice B rows.length c∧bR S rows.flatten news∧(∀r∈rows,r.length=es)∧(B=none→rows=[])∧∀x,B=some x→∀j u,news[j]?=some u→w.cell? (x.add j)=some u:=by
  intro id off len sz te elems fz rows he hsz E hi q;have hh:st'.h id=some (.arr te es elems fz):=by rw[hi id (by simp),he]
  simp only[aK,aQ] at q;obtain⟨_,q | ⟨te',es',elems',fz',h1,h2,M⟩⟩:=q
  ·rw[hh] at q;cases q
  rw[hh] at h1;cases h1;obtain⟨h4,⟨Y,O,h7⟩ | ⟨b,base,cap,Y,O⟩⟩:=M hsz
  ·subst O;simp at E;subst E;exact⟨none,0,[],h7,by simp[bR],by simp,fun _=>rfl,by simp⟩
  ·obtain⟨g0,vs,g1,g2,g3,g4,g5,g6,g7,g8⟩:=(hs.inv.obj id _ hh).arr Y;have hrl:rows.length=len:=by rw[E];simp;omega
   have hfl:rows.flatten=(elems.flatten.drop (off*es)).take (len*es):=by
    rw[E,tH (fun r E=>g0 r (List.mem_of_mem_drop E)),tJ g0]
   refine⟨_,cap-off,_,by rw[hrl];exact O,by rw[hfl];exact(g5.drop (off*es)).take (len*es),fun r hr'=>g0 r (List.mem_of_mem_drop (B3 (E▸hr'))),by simp,?_⟩;rintro x ⟨⟩ j u A;rw[Addr.add_mid,cell_of_row w b _ ⟨vs⟩ te (0,0) g1];rw[Ai] at A;split at A
   ·rw[Aj,Ai] at A;split at A
    ·rw[Aj] at A;simpa [add_assoc] using A
    ·cases A
   ·cases A
 cases h with
 | hs he hsz E=>exact J he hsz E hi q
 | all he hsz=>
  subst hsz;exact J he rfl (by simp) hi q
 | sl=>
  simp only[aK,aQ,Rep] at q;obtain⟨B,len,cap,h1,h2,M,h4,Y,O,b,off,h7,h8⟩:=q;obtain⟨vs,I,q2,q3⟩:=b4.flat h8;refine⟨B,cap,vs,by rw[h1,h2],I,q3,fun e=>An (by rw[←h2];exact(Y e).1),?_⟩;rintro x rfl j u A;obtain⟨h9,h10⟩:=h7 x rfl
  have aa:=O x rfl (by
   rintro rfl;have U:=An (show _=0 from Nat.le_zero.1 (h2▸M));rw[U] at I;simp[bR] at I;subst I
   simp at A)
  have hx:x=⟨b,off,none⟩:=by cases x;simp_all
  subst hx;rw[Addr.add_mid];exact hs.inv.holds.cell (q2 j u A)
 | nl=>
  simp only[aK,aQ,Rep] at q;exact⟨none,0,[],q,by simp[bR],by simp,fun _=>rfl,by simp⟩
 | sn=>
  simp only[aK,aQ,Rep] at q;obtain⟨b,off,sp,len,cap,h1,h2,M,h4,hsp,h8⟩:=q;obtain⟨vs,I,q2,q3⟩:=b4.flat h8;refine⟨some ⟨b,off,sp⟩,cap,vs,by rw[h1,h2],I,q3,by simp,?_⟩;rintro x ⟨⟩ j u A
  have aa:=hsp (by
   rintro rfl;have U:=An (show _=0 from Nat.le_zero.1 (h2▸M));rw[U] at I;simp[bR] at I;subst I
   simp at A)
  subst aa;rw[Addr.add_mid];exact hs.inv.holds.cell (q2 j u A)
section
variable {P:Program}{n:Nat}{o:Oper}{st:St}{d:Nat}{T:TT}
theorem i6 (w:World) (t ty e:TypeId) (i:TypeInfo) (ht:P.underlying t=some (.slice e)) (hi:P.info? e=some i)
  (g base q r:Nat) (cur:Array Value) (I:w.heap[g]?=some (.cells cur e (0,0)))
  (a:Addr) (m c:Nat) (news:List Value) (hl:news.length=m*i.size) (y:∀j u,news[j]?=some u→w.cell? (a.add j)=some u) (h1:∀u∈news,u.oneCell'=true)
  (A:q+m≤r) (E:base+q*i.size+news.length≤cur.size):
  (Builtin.append_ #[t,t] ty #[.slice (some ⟨g,base,none⟩) q r,.slice (some a) m c]).run P w=
   .ok (.slice (some ⟨g,base,none⟩) (q+m) r) (w.setRow g (cur.toList.take (base+q*i.size)++news++cur.toList.drop (base+q*i.size+news.length)).toArray):=by
 have J:=run_firstCells_some (P:=P) w i.size m a m c news hl y;have B:=run_storeCells_at P g (base+q*i.size) e news 0 cur w I (by simpa using E) h1;simp only[Cb] at B;simp[Builtin.append_,Ah ht,sizeOf,typeInfo,hi,Builtin.lenOf,A,J,Addr.add_mid,B]
theorem iL (w:World) (t ty e:TypeId) (i:TypeInfo) (ht:P.underlying t=some (.slice e)) (hi:P.info? e=some i) (s:Option Addr) (A:Option Addr) (q r c:Nat) (y:q≤r):
  (Builtin.append_ #[t,t] ty #[.slice s q r,.slice A 0 c]).run P w=.ok (.slice s q r) w:=by
 cases s<;>cases A<;>simp[Builtin.append_,Ah ht,sizeOf,typeInfo,hi,Builtin.lenOf,y,Builtin.firstCells,loadCells,loadCellsFrom,storeCells]
theorem dD {x y:Operand}{t:TypeId}{a:Act}{w w':World}{u v r:Value}(ho:o.op=.call { callee:=.builtin .append,args:= #[x,y],argTypes:= #[t,t] }) (hx:a.eval x=u) (hy:a.eval y=v) (c:(Builtin.append_ #[t,t] o.type #[u,v]).run P w=.ok r w'):
  (execOp a.eval o).run P w=.ok (.value r) w':=by
 simp only[execOp,ho,resolve,map_toArray,As,map_nil,hx,hy,δ,ε,θ,invoke,builtin,c]
theorem aDo {y:V}{id te es fz:Nat}{elems elems':List (List C)}(hd:o.dst=some d) (M:d<n) (hlen:elems.length≤elems'.length) (r:Nat) {st':St}{G:Ctx}{S:Sto}{μ:Mu}{a:Act}{w:World}{K:Act→World→Prop}{Q:Exit→Act→World→Prop}
    (B:st'.h id=some (.arr te es elems fz)) (hs:Sim G n S μ st' a w) (hk:∀S' μ' a' w',Sim G n S' μ' (Eff.apply ⟨some (d,some y),[(id,some (.arr te es elems' r))]⟩ st') a' w'→K a' w')
    (h:∃w' v,(execOp a.eval o).run P w=.ok (.value v) w'∧
      ((w'=w∧elems'=elems∧(r=fz∨r=1)∧aK S μ st'.h y v)∨
       (elems.length<elems'.length∧∃b O c,(w.heap.size≤b∨∃c',μ id=some (b,c'))∧WChg w w' b O∧iG S (upd μ id (some (b,c))) (upd st'.h id (some (.arr te es elems' r))) w' id (.arr te es elems' r)∧
         (∀o v,S.cell b o=some v→∃vs t fr,O=.cells vs t fr∧vs[o]?=some v)∧(∀m,S.mapo b=some m→w.heap.size≤b)∧aK S (upd μ id (some (b,c))) (upd st'.h id (some (.arr te es elems' r))) y v))):
    ∀ro,o.wpIn (Wd ro) 0 P a w K Q:=by
  obtain⟨w',v,hr,J⟩:=h;refine fun ro=>dK hr ?_
  rw[hd];rcases J with⟨rfl,rfl,hfz,U⟩ | ⟨hlt,b,O,c,hb,hw,hO,hS,hSm,U⟩
  · have E:Evolve S μ st'.h S μ (upd st'.h id (some (.arr te es elems' r))):=⟨S.le_refl,fun j x A=>by
      by_cases q:j=id
      · subst q
        rw[B] at A;cases A;exact⟨_,aH _ _ _,by simp[AObj.succ]⟩
      · exact⟨x,by rw[bC _ _ _ q];exact A,x.succ_refl rfl⟩⟩
    have hi:Inv G S μ (upd st'.h id (some (.arr te es elems' r))) w':=by
      obtain⟨h1,h2,h3,h4,h5,h6,h7,h8,h9⟩:=hs.inv;have hold:∀j x,upd st'.h id (some (.arr te es elems' r)) j=some x→∃x',st'.h j=some x':=fun j x A=>by
        by_cases q:j=id
        · subst q;exact⟨_,B⟩
        · rw[bC _ _ _ q] at A;exact⟨_,A⟩
      refine⟨h1,fun j x A=>?_,fun i j x x' b c c' hi A hm hm'=>?_,fun i x b c hi hm=>?_,h5,h6,h7,h8.trans E,h9⟩
      · by_cases q:j=id
        · subst q
          rw[aH] at A;cases A;have hO:=(h2 j _ B).evolve E rfl fun _ _ _=>⟨rfl,fun _=>rfl,rfl⟩
          rcases hfz with rfl | rfl
          · exact hO
          · obtain⟨g0,g1 | ⟨b,base,cap,vs,g1,g2,g3,g4,g5,g6,g7,g8,g9⟩⟩:=hO
            · exact⟨g0,.inl g1⟩
            · exact⟨g0,.inr ⟨b,base,cap,vs,g1,g2,g3,g4,g5,g6,(fun e=>by cases e),g8,(fun e=>by cases e)⟩⟩
        · rw[bC _ _ _ q] at A
          exact(h2 j x A).evolve E rfl fun _ _ _=>⟨rfl,fun _=>rfl,rfl⟩
      · obtain⟨_,I⟩:=hold _ _ hi
        obtain⟨_,hj'⟩:=hold _ _ A;exact h3 i j _ _ b c c' I hj' hm hm'
      · obtain⟨_,I⟩:=hold _ _ hi
        exact h4 i _ b c I hm
    have:=hs.put hi E M (x:=some y) (v:=v) (fun z Y=>by cases Y;exact aK.evolve E _ _ U);refine hk S μ _ _ ?_;unfold Eff.apply;rw[bU];exact this
  · have E:Evolve S μ st'.h S (upd μ id (some (b,c))) (upd st'.h id (some (.arr te es elems' r))):=⟨S.le_refl,fun j x A=>by
      by_cases q:j=id
      · subst q
        rw[B] at A;cases A;exact⟨_,aH _ _ _,by simp only[AObj.succ,true_and];exact⟨hlen,fun e=>by omega⟩⟩
      · exact⟨x,by rw[bC _ _ _ q];exact A,x.succ_refl (bC _ _ _ q)⟩⟩
    have hi:=hs.inv.chg (id:=id) (cap:=c) (ao:=.arr te es elems' r) hw (hb.imp (fun h=>h) fun⟨c',h⟩=>⟨_,c',B,h⟩) E hO hS hSm;have:=hs.put hi E M (x:=some y) (v:=v) (fun z Y=>by cases Y;exact U);refine hk S (upd μ id (some (b,c))) _ _ ?_;unfold Eff.apply;rw[bU];exact this
theorem Step.grow {rd:Rd}{y:V}{id te es fz:Nat}{elems elems':List (List C)}(I:o.dst=some d) (A:d<n) (hid:st.h id=some (.arr te es elems fz)) (B:id∈rd.h) (hlen:elems.length≤elems'.length) (q:Nat)
    (h:∀st',dJ rd st st'→st'.h id=some (.arr te es elems fz)→∀G S μ a w,Sim G n S μ st' a w→∃w' v,(execOp a.eval o).run P w=.ok (.value v) w'∧
      ((w'=w∧elems'=elems∧(q=fz∨q=1)∧aK S μ st'.h y v)∨
       (elems.length<elems'.length∧∃b E c,(w.heap.size≤b∨∃c',μ id=some (b,c'))∧WChg w w' b E∧iG S (upd μ id (some (b,c))) (upd st'.h id (some (.arr te es elems' q))) w' id (.arr te es elems' q)∧
         (∀o v,S.cell b o=some v→∃vs t J,E=.cells vs t J∧vs[o]?=some v)∧(∀m,S.mapo b=some m→w.heap.size≤b)∧aK S (upd μ id (some (b,c))) (upd st'.h id (some (.arr te es elems' q))) y v))):
    Step P n o st rd ⟨some (d,some y),[(id,some (.arr te es elems' q))]⟩:=by
  intro st' ha G S μ a w K Q hs M;have r:st'.h id=some (.arr te es elems fz):=by rw[ha.2 id B,hid]
  exact aDo I A hlen q r hs M (h st' ha r G S μ a w hs)
theorem uN {t e:TypeId}{i q:TI}{x y:Operand}{id sz fz:Nat}{elems rows:List (List C)}{vy:V}{ids:List Nat}{st':St}{G:Ctx}{S:Sto}{μ:Mu}{a:Act}{w:World}(hT:Tok P T) (ho:o.op=.call { callee:=.builtin .append,args:= #[x,y],argTypes:= #[t,t] })
    (hi:T[t]?=some (some i)) (hk:i.k=.sl e) (hei:T[e]?=some (some q)) (hes:Nat.ble 1 q.size=true) (heb:Nat.ble 1 q.bytes=true)
    (hsz:sz=elems.length) (hroom:(elems.length+rows.length)*q.bytes≤140737488355328) (M:st'.h id=some (.arr e q.size elems fz)) (hs:Sim G n S μ st' a w)
    (hvx:aK S μ st'.h (.one (.hs id 0 sz sz)) (a.eval x)) (hvy:aK S μ st'.h vy (a.eval y)) (hsrc:Src st q.size ids vy rows) (hsi:∀i∈ids,st'.h i=st.h i):
    ∃w' v,(execOp a.eval o).run P w=.ok (.value v) w'∧
      ((w'=w∧elems++rows=elems∧((if fz=0 then 0 else 1)=fz∨(if fz=0 then 0 else 1)=1)∧aK S μ st'.h (.one (.hs id 0 (elems.length+rows.length) (elems.length+rows.length))) v)∨
       (elems.length<(elems++rows).length∧∃b bo c,(w.heap.size≤b∨∃c',μ id=some (b,c'))∧WChg w w' b bo∧iG S (upd μ id (some (b,c))) (upd st'.h id (some (.arr e q.size (elems++rows) (if fz=0 then 0 else 1)))) w' id (.arr e q.size (elems++rows) (if fz=0 then 0 else 1))∧
         (∀o v,S.cell b o=some v→∃vs t fr,bo=.cells vs t fr∧vs[o]?=some v)∧(∀m,S.mapo b=some m→w.heap.size≤b)∧aK S (upd μ id (some (b,c))) (upd st'.h id (some (.arr e q.size (elems++rows) (if fz=0 then 0 else 1)))) (.one (.hs id 0 (elems.length+rows.length) (elems.length+rows.length))) v)):=by
  subst hsz;have hes':=Ak hes;have heb':=Ak heb;obtain⟨ad,c,news,E,B,hrl,hnone,hcell⟩:=hsrc.rel hs hsi hvy;have I:news.length=rows.length*q.size:=by rw[B.length,fA hrl]
  obtain⟨inf,dd,z,g1,g2,g3,g4,g5,g6,g7,g8⟩:=(hT.get hei).ex;have hu:=(hT.get hi).slice hk;have hzs:z.cells.size=q.size:=by
    have h1:=(gI (S:=S) g7).length;rw[(hT.get hei).len] at h1;simpa using h1
  simp only[aK,aQ] at hvx;obtain⟨_,hv | ⟨te',es',elems',fz',h1,h2,h3⟩⟩:=hvx
  · rw[M] at hv;cases hv
  rw[M] at h1;cases h1;obtain⟨h4,hcase⟩:=h3 rfl;have hbig:elems.length+rows.length≤140737488355328:=by
    have:(elems.length+rows.length)*1≤(elems.length+rows.length)*q.bytes:=Nat.mul_le_mul_left _ heb';omega
  have hone:∀u∈news,u.oneCell'=true:=(B.toR (μ:=μ) (H:=st'.h)).one;have hcap:∀old,elems.length+rows.length≤grownCap w (elems.length+rows.length) old e∧grownCap w (elems.length+rows.length) old e≤maxLen:=fun old=>
    ⟨grownCap_ge _ _ _ _,grownCap_le_maxLen _ _ _ _ (by unfold maxLen;omega)⟩
  have J:∀(O:List Value) (old:Nat),bR S elems.flatten O→0<rows.length→∀g0:(∀r∈elems,r.length=q.size),
      iG S (upd μ id (some (w.heap.size,0,grownCap w (elems.length+rows.length) old e))) (upd st'.h id (some (.arr e q.size (elems++rows) (if fz=0 then 0 else 1))))
        (w.drew.alloc (.cells (O.toArray++news.toArray++Builtin.zeroCells z.cells (grownCap w (elems.length+rows.length) old e-(elems.length+rows.length))) e)) id (.arr e q.size (elems++rows) (if fz=0 then 0 else 1)):=by
    intro O old hol hpos g0;obtain⟨hc1,hc2⟩:=hcap old;have U:=hol.length;rw[fA g0] at U;refine⟨?_,.inr ⟨w.heap.size,0,grownCap w (elems.length+rows.length) old e,(O.toArray++news.toArray++Builtin.zeroCells z.cells (grownCap w (elems.length+rows.length) old e-(elems.length+rows.length))).toList,aH _ _ _,Bx w.drew _,?_,by simpa using hc1,⟨hc2,nU hs.inv⟩,?_,fun _ o _=>eA hs.inv o,fun o _=>eA hs.inv o,fun e=>by split at e<;>cases e⟩⟩
    · intro r A
      rcases Bi.1 A with A | A
      · exact g0 r A
      · exact hrl r A
    · simp only[Array.toList_append,ζ,Av,size_zeroCells,hzs]
      simp only[U,I,A5,←A2];exact Au _ (by omega)
    · simp only[Array.toList_append,B1,ζ,Ch]
      rw[Cf (by simp[U,I,A2]),Aq (by simp[U,I,A2])];exact hol.append B
  have Y:(elems++rows).length=elems.length+rows.length:=by simp
  by_cases hm:rows.length=0
  · --nothing is appended
    have hr0:rows=[]:=An hm;have hfzz:(if fz=0 then 0 else 1)=fz∨(if fz=0 then 0 else 1)=1:=by
      by_cases h:fz=0
      · left;rw[ξ h,h]
      · right;rw[η h]
    rcases hcase with⟨h5,h6,h7⟩ | ⟨b,base,cap,h5,h6⟩
    · refine⟨w,.slice none 0 0,dD ho h7 E (by rw[hm];exact iL w t o.type e inf hu g1 none ad 0 0 c (le_refl _)),.inl ⟨rfl,by rw[hr0,Cm],hfzz,?_⟩⟩
      simp only[aK,aQ];exact⟨⟨_,_,_,rfl⟩,.inr ⟨e,q.size,elems,fz,M,by omega,fun _=>⟨by omega,.inl ⟨h5,h6,(by first | rfl | trivial)⟩⟩⟩⟩
    · obtain⟨q0,vs,q1,q2,q3,q4,q5,q6,q7,q8⟩:=(hs.inv.obj id _ M).arr h5
      refine⟨w,_,dD ho h6 E (by rw[hm];exact iL w t o.type e inf hu g1 _ ad elems.length _ c (by omega)),.inl ⟨rfl,by rw[hr0,Cm],hfzz,?_⟩⟩;simp only[aK,aQ];exact⟨⟨_,_,_,rfl⟩,.inr ⟨e,q.size,elems,fz,M,by omega,fun _=>⟨by omega,.inr ⟨b,base,cap,h5,by rw[hm,Cb]⟩⟩⟩⟩
  · cases ad with
    | none=>exact absurd (by rw[hnone rfl];rfl) hm
    | some ad=>
      have hc:=hcell ad rfl;rcases hcase with⟨h5,h6,h7⟩ | ⟨b,base,cap,h5,h6⟩
      · --the first elements
        subst h6;simp only[length_nil,A5] at hroom hbig J hcap;have A:=run_append_nil (P:=P) w t o.type e inf z hu g1 g6 ad rows.length c news (by rw[I,g3]) hc (by omega) (by omega) (by rw[g4];omega);refine⟨_,_,dD ho h7 E A,.inr ⟨by simp;omega,w.heap.size,_,(0,grownCap w rows.length 0 e),.inl (le_refl _),WChg.alloc_drew w _,?_,(fun o v e=>by rw[eA hs.inv] at e;cases e),fun m e=>le_refl _,?_⟩⟩
        · have:=J [] 0 (by simp[bR]) (by omega) (by simp)
          simpa using this
        · simp only[aK,aQ]
          exact⟨⟨_,_,_,rfl⟩,.inr ⟨e,q.size,_,_,aH _ _ _,by simp,fun _=>⟨by simp,.inr ⟨w.heap.size,0,_,aH _ _ _,by simp⟩⟩⟩⟩
      · obtain⟨q0,vs,q1,q2,q3,q4,q5,q6,q7,q8⟩:=(hs.inv.obj id _ M).arr h5
        have hce:elems.length*q.size≤cap*q.size:=Au _ q3;simp only[sub_zero,zero_mul,Cb] at h6;by_cases hroom':elems.length+rows.length≤cap
        · --there is room
          have hce2:(elems.length+rows.length)*q.size≤cap*q.size:=Au _ hroom';rw[A2] at hce2;have A:=i6 (P:=P) w t o.type e inf hu g1 b base elems.length cap ⟨vs⟩ q1 ad rows.length c news (by rw[I,g3]) hc hone hroom' (by rw[g3,I];simp only[size_toArray];omega);rw[g3] at A;have hW:=WChg.setRow w b ⟨vs⟩ ⟨vs.take (base+elems.length*q.size)++news++vs.drop (base+elems.length*q.size+news.length)⟩ e (0,0) q1;refine⟨_,_,dD ho h6 E A,.inr ⟨by simp;omega,b,_,(base,cap),.inr ⟨_,h5⟩,hW,⟨?_,.inr ⟨b,base,cap,_,aH _ _ _,hW.new,?_,by rw[Y];omega,q4,?_,?_,?_,fun e=>by split at e<;>cases e⟩⟩,?_,fun m e=>dT q4.2 m e,?_⟩⟩
          · intro r A
            rcases Bi.1 A with A | A
            · exact q0 r A
            · exact hrl r A
          · simp only[ζ,Al,Bf]
            omega
          · rw[Y,Ch]
            have e1:((vs.take (base+elems.length*q.size)++news++vs.drop (base+elems.length*q.size+news.length)).drop base).take ((elems.length+rows.length)*q.size)=(vs.drop base).take (elems.length*q.size)++news:=by
              rw[Ar,List.drop_append_of_le_length (by simp;omega),←Ar,Cf (by simp[A2];omega)];rw[Aq (by simp[A2];omega),drop_take];rw[show base+elems.length*q.size-base=elems.length*q.size by omega]
            rw[e1];exact q5.append B
          · intro e o ho
            exact q6 (Classical.byContradiction fun hne=>by rw[η hne] at e;cases e) o ho
          · intro o ho
            rw[Y,A2] at ho;exact q7 o (by omega)
          · intro o v e
            by_cases hlt:o<base+elems.length*q.size
            · obtain⟨vs0,t0,fr0,p1,p2⟩:=hs.inv.holds.1 b o v e
              rw[q1] at p1;cases p1;refine⟨_,_,_,rfl,?_⟩;simp only[B9] at p2 ⊢;rw[Ar,A1 (by simp;omega),Ai,ξ (by omega)];exact p2
            · rw[q7 o (by omega)] at e;cases e
          · simp only[aK,aQ]
            exact⟨⟨_,_,_,rfl⟩,.inr ⟨e,q.size,_,_,aH _ _ _,by simp,fun _=>⟨by simp,.inr ⟨b,base,cap,aH _ _ _,by simp⟩⟩⟩⟩
        · --into a new block
          have A:=run_append_grow (P:=P) w t o.type e inf z hu g1 g6 ⟨b,base,none⟩ elems.length cap ((vs.drop base).take (elems.length*q.size)) (by rw[g3];simp;omega) (by
              intro j v hj;rw[Addr.add_mid,cell_of_row w b _ ⟨vs⟩ e (0,0) q1];rw[Ai] at hj;split at hj
              · rw[Aj] at hj
                simpa using hj
              · cases hj) ad rows.length c news (by rw[I,g3]) hc (by omega) (by omega) (by rw[g4];exact growslice_fits (by omega) hroom)
          have hq5:bR S elems.flatten ((vs.drop base).take (elems.length*q.size)):=q5;refine⟨_,_,dD ho h6 E A,.inr ⟨by simp;omega,w.heap.size,_,(0,grownCap w (elems.length+rows.length) cap e),.inl (le_refl _),WChg.alloc_drew w _,?_,(fun o v e=>by rw[eA hs.inv] at e;cases e),fun m e=>le_refl _,?_⟩⟩
          · have:=J _ cap hq5 (by omega) q0
            simpa using this
          · simp only[aK,aQ]
            exact⟨⟨_,_,_,rfl⟩,.inr ⟨e,q.size,_,_,aH _ _ _,by simp,fun _=>⟨by simp,.inr ⟨w.heap.size,0,_,aH _ _ _,by simp⟩⟩⟩⟩
theorem xD {t e:TypeId}{i c:TI}{x y:Operand}{id sz fz:Nat}{elems rows:List (List C)}{A:V}{ids:List Nat}(Y:Tok P T) (ho:o.op=.call { callee:=.builtin .append,args:= #[x,y],argTypes:= #[t,t] }) (hd:o.dst=some d) (B:d<n)
  (hi:T[t]?=some (some i)) (hk:i.k=.sl e) (E:T[e]?=some (some c)) (I:Nat.ble 1 c.size=true) (J:Nat.ble 1 c.bytes=true)
  (hx:opv st x=some (.one (.hs id 0 sz sz))) (hh:st.h id=some (.arr e c.size elems fz)) (hsz:sz=elems.length) (hy:opv st y=some A) (r:Src st c.size ids A rows)
  (q:(elems.length+rows.length)*c.bytes≤140737488355328):
  Step P n o st ⟨opr x++opr y,id::ids⟩ ⟨some (d,some (.one (.hs id 0 (elems.length+rows.length) (elems.length+rows.length)))),[(id,some (.arr e c.size (elems++rows) (if fz=0 then 0 else 1)))]⟩:=by
 refine Step.grow hd B hh (by simp) (by simp) _ fun st' ha M G S μ a w hs=>?_
 have O:=aI hs hx fun t ht=>ha.1 t (by simp[ht])
 have U:=aI hs hy fun t ht=>ha.1 t (by simp[ht])
 exact uN Y ho hi hk E I J hsz q M hs O U r fun i h=>ha.2 i (by simp[h])
end
mutual
def R.ren (σ:Nat→Nat):R→R
 | .c x=>.c x
 | .hs id off len sz=>.hs (σ id) off len sz
 | .tl id off len sz=>.tl (σ id) off len sz
 | .vp id off=>.vp (σ id) off
 | .ep id i fo sz=>.ep (σ id) i fo sz
 | .mr id=>.mr (σ id)
 | .clo f caps=>.clo f (R.renL σ caps)
 | .mth f x=>.mth f (x.ren σ)
 | .yl id=>.yl (σ id)
 | .ra id off len sz=>.ra (σ id) off len sz
 | .rp id i fo sz=>.rp (σ id) i fo sz
 | .ras n es l=>.ras n es (R.renL σ l)
 | .pas l=>.pas (R.renL σ l)
def R.renL (σ:Nat→Nat):List R→List R
 | []=>[]
 | r::rs=>r.ren σ::R.renL σ rs
end
mutual
def V.ren (σ:Nat→Nat):V→V
 | .one r=>.one (r.ren σ)
 | .pa l=>.pa l
 | .ma l=>.ma (R.renL σ l)
 | .tup l=>.tup (V.renL σ l)
def V.renL (σ:Nat→Nat):List V→List V
 | []=>[]
 | r::rs=>r.ren σ::V.renL σ rs
end
mutual
def R.refs:R→List Nat
 | .c _=>[]
 | .hs id _ _ _=>[id]
 | .tl id _ _ _=>[id]
 | .vp id _=>[id]
 | .ep id _ _ _=>[id]
 | .mr id=>[id]
 | .clo _ caps=>R.refsL caps
 | .mth _ x=>x.refs
 | .yl id=>[id]
 | .ra id _ _ _=>[id]
 | .rp id _ _ _=>[id]
 | .ras _ _ l=>R.refsL l
 | .pas l=>R.refsL l
def R.refsL:List R→List Nat
 | []=>[]
 | r::rs=>r.refs++R.refsL rs
end
mutual
def V.refs:V→List Nat
 | .one r=>r.refs
 | .pa _=>[]
 | .ma l=>R.refsL l
 | .tup l=>V.refsL l
def V.refsL:List V→List Nat
 | []=>[]
 | r::rs=>r.refs++V.refsL rs
end
def aCb:List (Nat×V)→List Nat
 | []=>[]
 | (_,v)::l=>v.refs++aCb l
def aGm:List (List R)→List Nat
 | []=>[]
 | r::l=>R.refsL r++aGm l
def aMf (σ:Nat→Nat):List (Nat×V)→List (Nat×V)
 | []=>[]
 | (t,v)::l=>(t,v.ren σ)::aMf σ l
def aB9 (σ:Nat→Nat):List (List R)→List (List R)
 | []=>[]
 | r::l=>R.renL σ r::aB9 σ l
theorem nK:∀{l:List (Nat×V)}{t:Nat}{v:V},(t,v)∈l→∀i∈v.refs,i∈aCb l
 | (k,u)::l,t,v,h,i,hi=>by
  simp only[aCb,Bi];rcases Ap.1 h with h | h
  ·cases h;exact .inl hi
  ·exact .inr (nK h i hi)
theorem xC {σ:Nat→Nat}:∀{l:List (Nat×V)}{t:Nat}{v:V},(t,v)∈l→(t,v.ren σ)∈aMf σ l
 | (k,u)::l,t,v,h=>by
  simp only[aMf];rcases Ap.1 h with h | h
  ·cases h;simp
  ·exact A9 _ (xC h)
theorem R.renL_length {σ:Nat→Nat}:∀{l:List R},(R.renL σ l).length=l.length
 | []=>rfl
 | _::l=>by simp[R.renL,R.renL_length (l:=l)]
theorem dA {σ:Nat→Nat}:∀{l:List (List R)},(aB9 σ l).length=l.length
 | []=>rfl
 | _::l=>by simp[aB9,dA (l:=l)]
theorem R.renL_append {σ:Nat→Nat}:∀{l m:List R},R.renL σ (l++m)=R.renL σ l++R.renL σ m
 | [],_=>rfl
 | _::l,m=>by simp[R.renL,R.renL_append (l:=l)]
theorem R.refsL_append:∀{l m:List R},R.refsL (l++m)=R.refsL l++R.refsL m
 | [],_=>rfl
 | _::l,m=>by simp[R.refsL,R.refsL_append (l:=l)]
theorem sH {σ:Nat→Nat}:∀{l:List (List R)},(aB9 σ l).flatten=R.renL σ l.flatten
 | []=>rfl
 | _::l=>by simp[aB9,sH (l:=l),R.renL_append]
theorem pE:∀{l:List (List R)},R.refsL l.flatten=aGm l
 | []=>rfl
 | _::l=>by simp[aGm,pE (l:=l),R.refsL_append]
theorem iO {σ:Nat→Nat}{es:Nat}:∀{l:List (List R)},(∀r∈aB9 σ l,r.length=es)→∀r∈l,r.length=es
 | [],_,r,h=>by simp at h
 | x::l,k,r,h=>by
  rcases Ap.1 h with rfl | h
  ·rw[←R.renL_length (σ:=σ)];exact k _ (by simp[aB9])
  ·exact iO (σ:=σ) (l:=l) (fun r c=>k r (by simp[aB9,c])) r h
def AObj.refs:AObj→List Nat
 | .var _ cells=>R.refsL cells
 | .lp _ _ _ e=>aCb e
 | .rarr _ _ elems=>aGm elems
 | .tok r _=>r.refs
 | _=>[]
inductive Ole (σ:Nat→Nat):AObj→AObj→Prop
 | var {t cells cells'}:cells=R.renL σ cells'→Ole σ (.var t cells) (.var t cells')
 | arr {te es elems fz}:Ole σ (.arr te es elems fz) (.arr te es elems fz)
 | arr1 {te es elems fz}:Ole σ (.arr te es elems fz) (.arr te es elems 1)
 | map {agg ents}:Ole σ (.map agg ents) (.map agg ents)
 | dead:Ole σ .dead .dead
 | lp {st j i e e'}:e=aMf σ e'→Ole σ (.lp st j i e) (.lp st j i e')
 | dfr:Ole σ .dfr .dfr
 | rarr {te es elems elems'}:elems=aB9 σ elems'→Ole σ (.rarr te es elems) (.rarr te es elems')
 | tok {r r' k}:r=r'.ren σ→Ole σ (.tok r k) (.tok r' k)
theorem Ole.succ {σ:Nat→Nat}{o o':AObj}(h:Ole σ o o'):o.succ True o':=by
 cases h
 case rarr e=>subst e;simp[AObj.succ,dA]
 all_goals simp[AObj.succ]
section
variable {S:Sto}{μ:Mu}{H H':bW}{σ:Nat→Nat}
def Good (H H':bW) (σ:Nat→Nat) (id:Nat):Prop:=∃o o',H (σ id)=some o∧H' id=some o'∧Ole σ o o'
mutual
theorem aQ.ren:∀(r:R) (v:Value),(∀id∈r.refs,Good H H' σ id)→aQ S μ H (r.ren σ) v→aQ S (fun i=>μ (σ i)) H' r v
 | .c x,v,_,k=>by simpa only[aQ,R.ren] using k
 | .hs id off len sz,v,h,k=>by
  obtain⟨o,o',h1,h2,q⟩:=h id (by simp[R.refs]);simp only[aQ,R.ren] at k ⊢;refine⟨k.1,?_⟩;rcases k.2 with k | ⟨te,es,elems,fz,g1,g2,g3⟩
  ·rw[h1] at k;cases k;cases q;exact .inl h2
  ·rw[h1] at g1;cases g1;cases q
   ·exact .inr ⟨te,es,elems,_,h2,g2,g3⟩
   ·exact .inr ⟨te,es,elems,_,h2,g2,g3⟩
 | .tl id off len sz,v,h,k=>by
  obtain⟨o,o',h1,h2,q⟩:=h id (by simp[R.refs]);simp only[aQ,R.ren] at k ⊢;refine⟨k.1,?_⟩;rcases k.2 with k | ⟨te,es,elems,fz,g1,g2,g3⟩
  ·rw[h1] at k;cases k;cases q;exact .inl h2
  ·rw[h1] at g1;cases g1;cases q
   ·exact .inr ⟨te,es,elems,_,h2,g2,g3⟩
   ·exact .inr ⟨te,es,elems,_,h2,g2,g3⟩
 | .vp id off,v,h,k=>by
  obtain⟨o,o',h1,h2,q⟩:=h id (by simp[R.refs]);simp only[aQ,R.ren] at k ⊢;obtain⟨t,cells,b,c,g1,g2,g3⟩:=k;rw[h1] at g1;cases g1;cases q;exact⟨_,_,b,c,h2,g2,g3⟩
 | .ep id i fo sz,v,h,k=>by
  obtain⟨o,o',h1,h2,q⟩:=h id (by simp[R.refs]);simp only[aQ,R.ren] at k ⊢;refine⟨k.1,?_⟩;rcases k.2 with k | ⟨te,es,elems,fz,g1,g2,g3⟩
  ·rw[h1] at k;cases k;cases q;exact .inl h2
  ·rw[h1] at g1;cases g1;cases q
   ·exact .inr ⟨te,es,elems,_,h2,g2,g3⟩
   ·exact .inr ⟨te,es,elems,_,h2,g2,g3⟩
 | .mr id,v,h,k=>by
  obtain⟨o,o',h1,h2,q⟩:=h id (by simp[R.refs]);simp only[aQ,R.ren] at k ⊢;obtain⟨agg,ents,b,c,g1,g2,g3⟩:=k;rw[h1] at g1;cases g1;cases q;exact⟨_,_,b,c,h2,g2,g3⟩
 | .clo f caps,v,h,k=>by
  simp only[aQ,R.ren] at k ⊢;obtain⟨vs,g1,g2⟩:=k;exact⟨vs,g1,aN.ren caps vs (by simpa only[R.refs] using h) g2⟩
 | .mth f x,v,h,k=>by
  simp only[aQ,R.ren] at k ⊢;obtain⟨u,g1,g2⟩:=k;exact⟨u,g1,aQ.ren x u (by simpa only[R.refs] using h) g2⟩
 | .rp id i fo sz,v,h,k=>by
  obtain⟨o,o',h1,h2,q⟩:=h id (by simp[R.refs]);simp only[aQ,R.ren] at k ⊢;refine⟨k.1,?_⟩;rcases k.2 with k | ⟨te,es,elems,g1,g2,g3⟩
  ·rw[h1] at k;cases k;cases q;exact .inl h2
  ·rw[h1] at g1;cases g1;cases q;rename_i elems' e;subst e;rw[dA] at g2 g3;exact .inr ⟨te,es,elems',h2,g2,g3⟩
 | .yl id,v,h,k=>by
  obtain⟨o,o',h1,h2,q⟩:=h id (by simp[R.refs]);simp only[aQ,R.ren] at k ⊢;obtain⟨st,j,i,e,b,c,g1,g2,g3⟩:=k;rw[h1] at g1;cases g1;cases q;exact⟨_,_,_,_,b,c,h2,g2,g3⟩
 | .ra id off len sz,v,h,k=>by
  obtain⟨o,o',h1,h2,q⟩:=h id (by simp[R.refs]);simp only[aQ,R.ren] at k ⊢;refine⟨k.1,?_⟩;rcases k.2 with k | ⟨te,es,elems,g1,g2,g3⟩
  ·rw[h1] at k;cases k;cases q;exact .inl h2
  ·rw[h1] at g1;cases g1;cases q;rename_i elems' e;subst e;rw[dA] at g2 g3;refine .inr ⟨te,es,elems',h2,g2,fun e=>?_⟩;obtain⟨E,y⟩:=g3 e;refine⟨E,?_⟩;rcases y with⟨y,I,J⟩ | y
   ·exact .inl ⟨y,An (by rw[←dA (σ:=σ),I];rfl),J⟩
   ·exact .inr y
 | .ras n es l,v,h,k=>by
  simp only[aQ,R.ren] at k ⊢;obtain⟨a,cap,h1,h2,q,M,O,U,b,o,Y,vs,A,B⟩:=k;exact⟨a,cap,h1,by rw[h2,R.renL_length],q,M,O,U,b,o,Y,vs,aN.ren l vs (by simpa only[R.refs] using h) A,B⟩
 | .pas l,v,h,k=>by
  simp only[aQ,R.ren] at k ⊢;obtain⟨b,o,h1,vs,A,B⟩:=k;exact⟨b,o,h1,vs,aN.ren l vs (by simpa only[R.refs] using h) A,B⟩
theorem aN.ren:∀(r:List R) (v:List Value),(∀id∈R.refsL r,Good H H' σ id)→aN S μ H (R.renL σ r) v→aN S (fun i=>μ (σ i)) H' r v
 | [],_,_,k=>by simpa only[aN,R.renL] using k
 | r::rs,vs,h,k=>by
  simp only[aN,R.renL] at k ⊢;obtain⟨v,vs',h1,h2,q⟩:=k;exact⟨v,vs',h1,aQ.ren r v (fun i hi=>h i (by simp[R.refsL,hi])) h2,aN.ren rs vs' (fun i hi=>h i (by simp[R.refsL,hi])) q⟩
end
mutual
theorem aK.ren:∀(r:V) (v:Value),(∀id∈r.refs,Good H H' σ id)→aK S μ H (r.ren σ) v→aK S (fun i=>μ (σ i)) H' r v
 | .one r,v,h,k=>by simp only[aK,V.ren] at k ⊢;exact aQ.ren r v (by simpa only[V.refs] using h) k
 | .pa l,v,_,k=>by simpa only[aK,V.ren] using k
 | .ma l,v,h,k=>by
  simp only[aK,V.ren] at k ⊢;obtain⟨vs,h1,h2⟩:=k;exact⟨vs,h1,aN.ren l vs (by simpa only[V.refs] using h) h2⟩
 | .tup l,v,h,k=>by
  simp only[aK,V.ren] at k ⊢;obtain⟨vs,h1,h2⟩:=k;exact⟨vs,h1,aS.ren l vs (by simpa only[V.refs] using h) h2⟩
theorem aS.ren:∀(r:List V) (v:List Value),(∀id∈V.refsL r,Good H H' σ id)→aS S μ H (V.renL σ r) v→aS S (fun i=>μ (σ i)) H' r v
 | [],_,_,k=>by simpa only[aS,V.renL] using k
 | r::rs,vs,h,k=>by
  simp only[aS,V.renL] at k ⊢;obtain⟨v,vs',h1,h2,c⟩:=k;exact⟨v,vs',h1,aK.ren r v (fun i hi=>h i (by simp[V.refsL,hi])) h2,aS.ren rs vs' (fun i hi=>h i (by simp[V.refsL,hi])) c⟩
end
end
theorem iG.ren {S:Sto}{μ:Mu}{H H':bW}{σ:Nat→Nat}{w:World}{id:Nat}{o o':AObj}(h:iG S μ H w (σ id) o) (hl:Ole σ o o') (c:∀i∈o'.refs,Good H H' σ i):iG S (fun i=>μ (σ i)) H' w id o':=by
 cases hl with
 | @var t cells cells' hc=>
  subst hc;obtain⟨b,vs,h1,h2,q,y⟩:=h;exact⟨b,vs,h1,h2,aN.ren _ _ c q,y⟩
 | arr=>exact h
 | arr1=>
  obtain⟨g0,g1 | ⟨b,base,cap,vs,g1,g2,g3,g4,g5,g6,g7,g8,g9⟩⟩:=h
  ·exact⟨g0,.inl g1⟩
  ·exact⟨g0,.inr ⟨b,base,cap,vs,g1,g2,g3,g4,g5,g6,(fun e=>by cases e),g8,(fun e=>by cases e)⟩⟩
 | map=>exact h
 | dead=>exact h
 | lp he=>
  subst he;obtain⟨b,r,fn,tmps,h1,h2,q,y,A⟩:=h;exact⟨b,r,fn,tmps,h1,h2,q,fun t v ht=>aK.ren _ _ (fun i hi=>c i (nK ht i hi)) (y t _ (xC ht)),A⟩
 | dfr=>exact h
 | rarr he=>
  subst he;obtain⟨g0,g1 | ⟨b,base,cap,vs,g1,g2,g3,g4,g5,g6,g7⟩⟩:=h
  ·exact⟨iO g0,.inl ⟨g1.1,An (by rw[←dA (σ:=σ),g1.2];rfl)⟩⟩
  ·rw[dA] at g4 g6;rw[sH] at g6;exact⟨iO g0,.inr ⟨b,base,cap,vs,g1,g2,g3,g4,g5,aN.ren _ _ (fun i hi=>c i (by rw[pE] at hi;exact hi)) g6,g7⟩⟩
 | tok he=>
  subst he;obtain⟨g1,b,g2,g3⟩:=h;exact⟨g1,b,aQ.ren _ _ c g2,g3⟩
def Ctx.keeps (G:Ctx) (kf:List Nat):Prop:=(∀id o,G.h0 id=some o→id∈kf)∧(997∈kf→G.h0 997=none→G.S0.noTop)
def Sub (kf:List Nat) (st2 st1:St):Prop:=∀G n S μ a w,G.keeps kf→Sim G n S μ st1 a w→∃S' μ',Sim G n S' μ' st2 a w
theorem Sub.refl (kf:List Nat) (st:St):Sub kf st st:=fun _ _ S μ _ _ _ h=>⟨S,μ,h⟩
theorem Sub.trans {kf:List Nat}{a b c:St}(h:Sub kf a b) (k:Sub kf b c):Sub kf a c:=fun G n S μ x w q hs=>by
 obtain⟨S',μ',h1⟩:=k G n S μ x w q hs;exact h G n S' μ' x w q h1
def mk (el:List (Nat×V)) (hl:List (Nat×AObj)):St:=⟨look el,look hl,[]⟩
def mkd (el:List (Nat×V)) (hl:List (Nat×AObj)) (dl:List Nat):St:=⟨look el,look hl,dl⟩
theorem aU {α:Type}:∀{l:List (Nat×α)}{i:Nat}{x:α},look l i=some x→(i,x)∈l
 | [],_,_,h=>by simp[look] at h
 | (k,y)::l,i,x,h=>by
  simp only[look] at h;split at h
  ·rename_i hb;cases h;simp[ω hb]
  ·simp[aU h]
def eN {α:Type}(p:α→Prop):List α→Prop
 | []=>True
 | x::l=>p x∧eN p l
theorem eN.mem {α:Type}{p:α→Prop}:∀{l:List α},eN p l→∀x∈l,p x
 | [],_,x,h=>by simp at h
 | y::l,h,x,hx=>by
  rcases Ap.1 hx with rfl | hx
  ·exact h.1
  ·exact eN.mem h.2 x hx
def subset (a b:List Nat):Bool:=a.all fun x=>b.contains x
def distinct:List Nat→Bool
 | []=>true
 | x::l=>!(l.contains x)&&distinct l
def eK:List (Nat×AObj)→List Nat
 | []=>[]
 | (_,o)::l=>o.refs++eK l
def aPx (kf:List Nat) (σ:Nat→Nat) (el:List (Nat×V)) (hl:List (Nat×AObj)):Bool:=subset (aCb el) (hl.map (·.1))&&subset (eK hl) (hl.map (·.1))&&distinct (hl.map fun p=>σ p.1)&&subset kf (hl.map (·.1))&&kf.all fun i=>Nat.beq (σ i) i
theorem bK {a b:List Nat}(h:subset a b=true):∀x∈a,x∈b:=fun x hx=>by simpa using (A3.1 h) x hx
theorem kX:∀{l:List Nat},distinct l=true→l.Nodup
 | [],_=>List.nodup_nil
 | x::l,h=>by
  simp only[distinct,Aa] at h;refine nodup_cons.2 ⟨?_,kX h.2⟩;simpa using h.1
theorem iP:∀{l:List (Nat×AObj)}{t:Nat}{v:AObj},(t,v)∈l→∀i∈v.refs,i∈eK l
 | (k,u)::l,t,v,h,i,hi=>by
  simp only[eK,Bi];rcases Ap.1 h with h | h
  ·cases h;exact .inl hi
  ·exact .inr (iP h i hi)
theorem sS {α β:Type}{f:α→β}:∀{l:List α},(l.map f).Nodup→∀x∈l,∀y∈l,f x=f y→x=y
 | [],_,x,h,_,_,_=>by simp at h
 | z::l,hn,x,hx,y,hy,e=>by
  simp only[As,nodup_cons] at hn;rcases Ap.1 hx with hx | hx
  ·rcases Ap.1 hy with hy | hy
   ·rw[hx,hy]
   ·exact absurd (mem_map.2 ⟨y,hy,by rw[←e,hx]⟩) hn.1
  ·rcases Ap.1 hy with hy | hy
   ·exact absurd (mem_map.2 ⟨x,hx,by rw[e,hy]⟩) hn.1
   ·exact sS hn.2 x hx y hy e
def eqL:List Nat→List Nat→Bool
 | [],[]=>true
 | a::l,b::m=>Nat.beq a b&&eqL l m
 | _,_=>false
theorem aI7:∀{l m:List Nat},eqL l m=true→l=m
 | [],[],_=>rfl
 | a::l,b::m,h=>by
  simp only[eqL,Aa] at h;rw[ω h.1,aI7 h.2]
 | [],_::_,h=>by simp[eqL] at h
 | _::_,[],h=>by simp[eqL] at h
theorem Sub.listD {kf:List Nat}{r:St}{A:List (Nat×V)}{hl:List (Nat×AObj)}{dl:List Nat}(σ:Nat→Nat) (he:eN (fun p=>r.e p.1=some (p.2.ren σ)) A) (hh:eN (fun p=>∃o,r.h (σ p.1)=some o∧Ole σ o p.2) hl) (hok:(aPx kf σ A hl&&(eqL (dl.map σ) r.d&&subset dl (hl.map (·.1))))=true):Sub kf (mkd A hl dl) r:=by
 intro G n S μ a w hg hs;rw[Aa,Aa] at hok;obtain⟨hok,y,O⟩:=hok;have y:=aI7 y;simp only[aPx,Aa] at hok;obtain⟨⟨⟨⟨h1,h2⟩,h3⟩,M⟩,h5⟩:=hok;have q:∀i∈hl.map (·.1),Good r.h (look hl) σ i:=by
  intro i hi;obtain⟨o',J⟩:=bZ hi;obtain⟨o,g1,g2⟩:=hh.mem _ (aU J);exact⟨o,o',g1,J,g2⟩
 have U:=kX h3;refine⟨S,fun i=>μ (σ i),⟨⟨hs.inv.holds,fun id o ho=>?_,fun i j o o' b c c' hi Y hm aa=>?_,fun i o b c hi hm=>?_,hs.inv.frame,hs.inv.sle,hs.inv.sto,⟨hs.inv.evo.le,fun id o ho=>?_⟩,hs.inv.fre⟩,hs.size,?_,fun t v ht=>?_⟩⟩
 ·obtain⟨B,g1,g2⟩:=hh.mem _ (aU ho);exact(hs.inv.obj _ _ g1).ren g2 fun i hi=>q i (bK h2 i (iP (aU ho) i hi))
 ·obtain⟨B,g1,g2⟩:=hh.mem _ (aU hi);obtain⟨E,g3,g4⟩:=hh.mem _ (aU Y);have I:=hs.inv.inj _ _ _ _ b c c' g1 g3 hm aa;have:=sS U _ (aU hi) _ (aU Y) I;exact(congrArg Prod.fst this)
 ·obtain⟨B,g1,g2⟩:=hh.mem _ (aU hi);exact hs.inv.own _ _ b c g1 hm
 ·obtain⟨o',g1,g2⟩:=hs.inv.evo.obj id o ho;have hk:=hg.1 id o ho;have I:σ id=id:=ω ((A3.1 h5) id hk);obtain⟨B,E,g3,g4,g5⟩:=q id (bK M id hk);rw[I,g1] at g3;cases g3;refine⟨E,g4,?_⟩;show o.succ (μ (σ id)=G.μ0 id) E;rw[I];exact AObj.succ_trans g2 g5.succ fun e _=>e
 ·refine Marks.ren (H:=r.h) (μ:=μ) σ (by show Marks _ μ r.h (dl.map σ) a.defers;rw[y];exact hs.defers) fun id hid hdf=>⟨rfl,?_⟩
  obtain⟨B,E,g3,g4,g5⟩:=q id (bK O id hid);rw[hdf] at g3;cases g3;cases g5;exact g4
 ·have hm:=aU (show look A t=some v from ht);have M:=he.mem _ hm;exact aK.ren v _ (fun i hi=>q i (bK h1 i (nK hm i hi))) (hs.env t _ M)
theorem Sub.list {kf:List Nat}{c:St}{q:List (Nat×V)}{hl:List (Nat×AObj)}(σ:Nat→Nat) (he:eN (fun p=>c.e p.1=some (p.2.ren σ)) q) (hh:eN (fun p=>∃o,c.h (σ p.1)=some o∧Ole σ o p.2) hl) (hok:(aPx kf σ q hl&&eqL [] c.d)=true):Sub kf (mk q hl) c:=
 Sub.listD (dl:=[]) σ he hh (by
  rw[Aa] at hok;rw[Aa]
  exact⟨hok.1,by rw[map_nil,hok.2];rfl⟩)
def Ctx.rok (G:Ctx):Option Nat→Prop
 | none=>True
 | some l=>(∃r,G.w0.heap[l]?=some (.loop r))∧¬G.F l
def AWp (ro:Option Nat) (P:Program) (n:Nat) (kf:List Nat) (c:Code) (st:St) (Q:Exit→St→Prop):Prop:=
 ∀G S μ a w (Q':Exit→Act→World→Prop),G.keeps kf∧G.rok ro→Sim G n S μ st a w→(∀ex st' S' μ' a' w',Q ex st'→Sim G n S' μ' st' a' w'→Q' ex a' w')→c.wpIn (Wd ro) 0 P Q' a w
section
variable {ro:Option Nat}{P:Program}{n:Nat}{kf:List Nat}{st:St}{Q:Exit→St→Prop}
theorem AWp.sub {c:Code}{st2:St}(h:Sub kf st2 st) (k:AWp ro P n kf c st2 Q):AWp ro P n kf c st Q:=fun G S μ a w Q' q hs r=>by
 obtain⟨S',μ',y⟩:=h G n S μ a w q.1 hs;exact k G S' μ' a w Q' q y r
theorem AWp.post {c:Code}{Q2:Exit→St→Prop}(h:AWp ro P n kf c st Q) (hq:∀ex st',Q ex st'→∃r,Sub kf r st'∧Q2 ex r):AWp ro P n kf c st Q2:=fun G S μ a w Q' y hs B=>
 h G S μ a w Q' y hs fun ex st' S' μ' A w' q s=>by
  obtain⟨r,h1,h2⟩:=hq ex st' q;obtain⟨S2,E,I⟩:=h1 G n S' μ' A w' y.1 s;exact B ex r S2 E A w' h2 I
theorem aE (h:Q .normal st):AWp ro P n kf .skip st Q:=fun _ S μ a w _ _ hs c=>wpIn_skip (c _ _ S μ a w h hs)
theorem aD (h:Q .ret st):AWp ro P n kf .ret st Q:=fun _ S μ a w _ _ hs c=>wpIn_ret (c _ _ S μ a w h hs)
theorem aL {id:Nat}(h:Q (.exit id) st):AWp ro P n kf (.exit id) st Q:=fun _ S μ a w _ _ hs c=>wpIn_exit (c _ _ S μ a w h hs)
def aMs (ro:Option Nat) (P:Program) (n:Nat) (kf:List Nat) (c:Code) (Q:Exit→St→Prop):Exit→St→Prop
 | .normal,st=>AWp ro P n kf c st Q
 | ex,st=>Q ex st
theorem aA {x y:Code}(h:AWp ro P n kf x st (aMs ro P n kf y Q)):AWp ro P n kf (.seq x y) st Q:=fun G S μ a w Q' c hs r=>
 Bl (h G S μ a w _ c hs fun ex st' S' μ' A w' q s=>by
  cases ex with
  | normal=>exact q G S' μ' A w' Q' c s r
  | _=>exact r _ st' S' μ' A w' q s)
theorem aB {c:Operand}{x y:Code}{b:Bool}(hc:opv st c=some (B b)) (ht:b=true→AWp ro P n kf x st Q) (A:b=false→AWp ro P n kf y st Q):AWp ro P n kf (.cond c x y) st Q:=fun G S μ a w Q' q hs r=>by
 have hb:=fO (aI hs hc fun _ _=>rfl);cases b with
 | true=>exact wpIn_cond_true hb (ht rfl G S μ a w Q' q hs r)
 | false=>exact wpIn_cond_false hb (A rfl G S μ a w Q' q hs r)
def k9 (id:Nat) (Q:Exit→St→Prop):Exit→St→Prop
 | .exit id',st=>if Nat.beq id' id then Q .normal st else Q (.exit id') st
 | ex,st=>Q ex st
theorem aF {id:Nat}{c:Code}(h:AWp ro P n kf c st (k9 id Q)):AWp ro P n kf (.block id c) st Q:=fun G S μ a w Q' B hs y=>
 wpIn_block (h G S μ a w _ B hs fun ex st' S' μ' A w' q s=>by
  cases ex with
  | exit r=>
   simp only[k9] at q;simp only[Exit.inBlock];by_cases hb:r=id
   ·subst hb;simp only[beq_refl,Cd] at q;simpa using y _ st' S' μ' A w' q s
   ·have:Nat.beq r id=false:=by
     cases hq:Nat.beq r id with
     | false=>rfl
     | true=>exact absurd (ω hq) hb
    simp only[this,Ao,Bm] at q;simpa [hb] using y _ st' S' μ' A w' q s
  | _=>exact y _ st' S' μ' A w' q s)
def aRh {α:Type}(kf:List Nat) (σ:α→St) (I:α→Prop) (m:α→Nat) (x:α) (Q:Exit→St→Prop):Exit→St→Prop
 | .normal,st=>∃y,I y∧m y<m x∧Sub kf (σ y) st
 | ex,st=>Q ex st
theorem nC {F:Fence}{m:Nat}{P:Program}{Q:Exit→Act→World→Prop}{a:Act}{w:World}{c:Code}(I:Nat→Act→World→Prop) (A:Nat) (E:I A a w)
  (round:∀n a w,I n a w→c.wpIn F m P (Exit.then (fun y w'=>∃q,q<n∧I q y w') Q) a w):(Code.loop c).wpIn F m P Q a w:=by
 refine wpIn_loop (fun a w=>∃n,I n a w) (fun a w=>leastOf (fun n=>I n a w)) ⟨A,E⟩ ?_;intro a w J;refine wpIn_mono (round _ a w (leastOf_spec J).1) ?_;intro e y w' hq;cases e with
 | normal=>
  obtain⟨q,B,r⟩:=hq;exact show(∃n,I n y w')∧leastOf (fun n=>I n y w')<leastOf (fun n=>I n a w) from⟨⟨q,r⟩,Bq ((leastOf_spec ⟨q,r⟩).2 q r) B⟩
 | _=>exact hq
theorem aM {α:Type}{c:Code}(σ:α→St) (I:α→Prop) (m:α→Nat) (r:α) (U:I r) (h0:Sub kf (σ r) st) (h:∀x,I x→AWp ro P n kf c (σ x) (aRh kf σ I m x Q)):AWp ro P n kf (.loop c) st Q:=fun G S μ a w Q' A hs Y=>by
 obtain⟨S',μ',E⟩:=h0 G n S μ a w A.1 hs;refine nC (fun k a w=>∃x S μ,m x=k∧I x∧Sim G n S μ (σ x) a w) (m r) ⟨r,S',μ',rfl,U,E⟩ ?_;rintro k a w ⟨x,S,μ,hk,hx,hs⟩;refine h x hx G S μ a w _ A hs fun ex st' S1 J M w' q s=>?_
 cases ex with
 | normal=>
  obtain⟨y,hy,O,B⟩:=q;obtain⟨S2,μ2,h2⟩:=B G n S1 J M w' A.1 s;exact⟨m y,hk▸O,y,S2,μ2,rfl,hy,h2⟩
 | _=>exact Y _ st' S1 J M w' q s
theorem pX {id:Nat}{ops:Array Oper}{draw:Bool}{st':St}{xs:REs}(hm:P.follows .mixedOrders=true) (A:Run P n ops 0 st xs st') (hlen:Nat.beq xs.length ops.size=true)
  (r:(!draw || (c7 (preds ops) xs []&&cS ops))=true) (h:Q .normal st'):AWp ro P n kf (.region id ops draw) st Q:=fun G S μ a w Q' I hs J=>by
 have c:=ω hlen;cases draw with
 | true=>
  simp only[Bool.not_true,Bb,Aa] at r;refine wpIn_region_any hm ?_;refine aB5 (G:=G) A c r.1 r.2 (fun S' μ' q w' s=>J _ st' S' μ' q w' h s) ops.size _ (by simp) ?_ ?_ S μ a _ ?_ ro
  ·have:((List.range ops.size).filter fun i=>!(Array.replicate ops.size false).getD i false)=List.range ops.size:=by
    apply filter_eq_self.2;intro i hi;simp at hi;simp[hi]
   rw[this,length_range]
  ·intro i o ho hl;simp[Ax] at hl;split at hl<;>simp at hl
  ·have M:∀(B:REs) (k:Nat) (s:St),bX (fun j=>(Array.replicate ops.size false).getD j false) k B s=s:=by
    intro B
    induction B with
    | nil=>intro k s;rfl
    | cons y B E=>
     intro k s;have O:(Array.replicate ops.size false).getD k false=false:=by
      simp[Ax];split<;>rfl
     simp only[bX,O,Bg];exact E _ _
   rw[M];exact⟨hs.inv.same rfl rfl rfl rfl,hs.size,hs.defers,hs.env⟩
 | false=>
  refine wpIn_region ?_;have key:∀(k:Nat) (st st':St) (xs:REs),Run P n ops k st xs st'→k+xs.length=ops.size→(∀S' μ' q w',Sim G n S' μ' st' q w'→Q' .normal q w')→∀S μ a w,Sim G n S μ st a w→wpOpsIn (Wd ro) 0 P ops Q' (List.range' k xs.length) a w:=by
   intro k st st' xs A
   induction A with
   | nil=>intro _ hq S μ a w hs;exact hq S μ a w hs
   | @cons k st rd f xs st' I _ E=>
    intro hl hq S μ a w hs;simp only[τ,range'_succ,A7];exact I st (dJ.refl _ _) G S μ a w _ Q' hs (fun S1 U Y w1 s1=>E (by simp at hl;omega) hq S1 U Y w1 s1) ro
  have:=key 0 st st' xs A (by omega) (fun S' μ' q w' s=>J _ st' S' μ' q w' h s) S μ a w hs;rwa [range_eq_range',←c]
end
end Go.AM
