/-
  Texts Am6 to Am11 in one.
-/
import Derived.Test.YtkhgpgihmphfdaaGreatDoorM1
import Derived.Deep.MidRow
import Derived.Deep.LoopGhost
open List (all_eq_true append_assoc append_nil drop_append drop_append_of_le_length drop_drop drop_of_length_le drop_succ_cons drop_take drop_zero eq_nil_of_length_eq_zero filter_eq_self flatten_append flatten_cons length_append length_cons length_drop length_nil length_range length_set length_take map_cons map_nil map_toArray mem_append mem_cons mem_cons_of_mem mem_map mem_of_mem_take nil_append nodup_cons range'_succ range_eq_range' size_toArray take_append_of_le_length take_left' take_of_length_le take_succ_cons take_take take_zero)
open Nat (add_assoc add_mul add_zero beq_refl eq_of_beq_eq_true le_of_ble_eq_true le_refl le_trans lt_irrefl lt_of_le_of_lt min_eq_left mul_le_mul_right sub_self sub_zero zero_add zero_le zero_mul)
namespace Go.AM
open Go
section
variable {P:Program}{n:Nat}{o:Oper}{st:St}{d:Nat}{T:TT}
theorem gK {S:Sto}{μ:Mu}{H:c8}{id:Nat}(h:H id=none) (p:Option (Nat×Nat×Nat)) (x:Option AObj):Evolve S μ H S (upd μ id p) (upd H id x):=
 ⟨S.le_refl,fun j o r=>by
  have q:j≠id:=fun e=>by subst e;rw[h] at r;cases r
  exact⟨o,by rw[bJ _ _ _ q];exact r,o.succ_refl (bJ _ _ _ q)⟩⟩
theorem Step.new {rd:Rd}{y:V}{id:Nat}{ao:AObj}(B:o.dst=some d) (r:d<n) (hid:st.h id=none) (u:id∈rd.h)
  (h:∀st',fL rd st st'→st'.h id=none→∀G S μ a w,Sim G n S μ st' a w→∃w' A v c,(execOp a.eval o).run P w=.ok (.value v) w'∧WChg w w' w.heap.size A∧
   kF S (upd μ id (some (w.heap.size,c))) (upd st'.h id (some ao)) w' id ao∧aL S (upd μ id (some (w.heap.size,c))) (upd st'.h id (some ao)) y v):
  Step P n o st rd ⟨some (d,some y),[(id,some ao)]⟩:=by
 intro st' ha G S μ a w K Q hs E;have q:st'.h id=none:=by rw[ha.2 id u,hid]
 obtain⟨w',A,v,c,I,hw,hO,J⟩:=h st' ha q G S μ a w hs;refine fun ro=>eS I ?_
 rw[B];have hi:=hs.inv.chg (id:=id) (cap:=c) (ao:=ao) hw (.inl (le_refl _)) (gK q _ _) hO
  (fun o v e=>by obtain⟨vs,t,O,h1,_⟩:=hs.inv.holds.1 _ _ _ e;exact absurd (bY h1) (lt_irrefl _)) (fun m e=>le_refl _)
 refine E S (upd μ id (some (w.heap.size,c))) _ _ ?_;have:=hs.put hi (gK q _ _) r (x:=some y) (fun z M=>by cases M;exact J);unfold Eff.apply;rw[c7];exact this
theorem fR {G:Ctx}{S:Sto}{μ:Mu}{H:c8}{w:World}(h:Inv G S μ H w) (o:Nat):S.cell w.heap.size o=none:=by
 cases hc:S.cell w.heap.size o with
 | none=>rfl
 | some v=>obtain⟨vs,t,q,h1,_⟩:=h.holds.1 _ _ _ hc;exact absurd (bY h1) (lt_irrefl _)
theorem r4 {G:Ctx}{S:Sto}{μ:Mu}{H:c8}{w:World}(h:Inv G S μ H w):S.mapo w.heap.size=none:=by
 cases hc:S.mapo w.heap.size with
 | none=>rfl
 | some v=>obtain⟨_,h1⟩:=MK.holds_some (h.holds.2 _ _ hc);exact absurd (bY h1) (lt_irrefl _)
theorem gI (P:Program) (w:World) (t:TypeId) (cs:Array Value):(newRow t cs).run P w=.ok ⟨w.heap.size,0,none⟩ (w.alloc (.cells cs t)):=rfl
theorem aPu {t:TypeId}{i:TI}(id:Nat) (u:Tok P T) (ho:o.op=.alloc t) (y:o.dst=some d) (q:d<n) (hi:T[t]?=some (some i)) (hid:st.h id=none):
  Step P n o st ⟨[],[id]⟩ ⟨some (d,some (.one (.vp id 0))),[(id,some (.var t (i.zero.map R.c)))]⟩:=by
 refine Step.new y q hid (by simp) fun st' _ A G S μ a w hs=>?_
 obtain⟨z,B,r,_⟩:=(u.get hi).zero_run;refine⟨_,_,.pointer (some ⟨w.heap.size,0,none⟩),(0,0),?_,WChg.alloc w (.cells z.cells t),?_,?_⟩
 ·simp[execOp,ho,Instr.alloc,B,newVar,gI]
 ·exact⟨w.heap.size,z.cells.toList,aH _ _ _,B2 w _,(r S).toR,fR hs.inv,r4 hs.inv⟩
 ·simp only[aL,aV];exact⟨t,_,_,_,aH _ _ _,aH _ _ _,rfl⟩
theorem aXu {t:TypeId}{x:Operand}{y:V}{rs:List R}(id:Nat) (ho:o.op=.box t x) (u:o.dst=some d) (r:d<n) (hx:opv st x=some y) (hc:fZ y=some rs) (hid:st.h id=none):
  Step P n o st ⟨opr x,[id]⟩ ⟨some (d,some (.one (.vp id 0))),[(id,some (.var t rs))]⟩:=by
 refine Step.new u r hid (by simp) fun st' ha q G S μ a w hs=>?_
 have A:=aI hs hx ha.1;refine⟨_,_,.pointer (some ⟨w.heap.size,0,none⟩),(0,0),?_,WChg.alloc w (.cells (a.eval x).cells t),?_,?_⟩
 ·simp[execOp,ho,Instr.box,newVar,gI]
 ·exact⟨w.heap.size,(a.eval x).cells.toList,aH _ _ _,B2 w _,aM.evolve (gK q _ _) _ _ (dG A hc),fR hs.inv,r4 hs.inv⟩
 ·simp only[aL,aV];exact⟨t,_,_,_,aH _ _ _,aH _ _ _,rfl⟩
theorem aGt {t:TypeId}(id:Nat) (agg:Bool) (ho:o.op=.makeMap t none) (r:o.dst=some d) (q:d<n) (hid:st.h id=none):
  Step P n o st ⟨[],[id]⟩ ⟨some (d,some (.one (.mr id))),[(id,some (.map agg []))]⟩:=by
 refine Step.new r q hid (by simp) fun st' _ u G S μ a w hs=>?_
 refine⟨w.alloc (.map #[] 0),_,.map (some w.heap.size),(0,0),?_,WChg.alloc w (.map #[] 0),?_,?_⟩
 ·simp only[execOp,ho,Instr.makeMap,Option.map_none];rfl
 ·exact⟨w.heap.size, #[],0,aH _ _ _,B2 w _,.inr (.inl (by simp[b7])),.inl (r4 hs.inv)⟩
 ·simp only[aL,aV];exact⟨_,_,_,_,aH _ _ _,aH _ _ _,rfl⟩
theorem jQ {w:World}{b:Nat}{vs:List Value}{t:TypeId}(h:w.heap[b]?=some (.cells ⟨vs⟩ t (0,0))) (off k:Nat):w.rangeAt b off ((vs.drop off).take k):=by
 intro j v q;rw[cell_of_row w b (off+j) ⟨vs⟩ t (0,0) h];rw[Al] at q;split at q
 ·rw[Am] at q;simpa using q
 ·cases q
theorem run_load {t:TypeId}{i:TI}(r:TIok P t i) (w:World) (b off:Nat) (cs:List Value) (A:w.rangeAt b off cs) (hl:cs.length=i.size):
  (Instr.loadAt t (.pointer (some ⟨b,off,none⟩))).run P w=.ok (if i.k.agg then .agg ⟨cs⟩ else cs.headD undef) w:=by
 obtain⟨inf,dd,z,g1,g2,g3,g4,g5,g6,g7,g8⟩:=r.ex;cases u:i.k.agg with
 | true=>
  have y:dd.isRow=true:=by
   cases B:i.k<;>rw[B] at g5 u<;>cases dd<;>simp[TK.fits,TK.agg] at g5 u<;>rfl
  rw[run_loadAt_mid w b off t cs dd A g2 y (by rw[r.info,hl])];simp
 | false=>
  have hs:=r.one u;rw[hs] at hl
  match cs,hl with
  | [c],_=>
   have hc:=A 0 c rfl;have q:=r.agg_run w;rw[u] at q;simp only[Instr.loadAt,Instr.sureAddr,ε,τ,θ,loadVar,q];simp only[Av,Bn,load];simp only[Sem.run];rw[show(⟨b,off,none⟩:Addr)=⟨b,off+0,none⟩ from rfl,hc];simp
def jV (i:TI) (rs:List R):Option V:=if i.k.agg then some (aSw rs) else match rs with | [r]=>some (.one r) | _=>none
theorem kY {i:TI}{S:Sto}{μ:Mu}{H:c8}{rs:List R}{vs:List Value}{y:V}(h:aM S μ H rs vs) (hy:jV i rs=some y):aL S μ H y (if i.k.agg then .agg ⟨vs⟩ else vs.headD undef):=by
 unfold jV at hy;cases q:i.k.agg with
 | true=>
  simp only[q,Ce] at hy ⊢;cases hy;exact aDp h
 | false=>
  simp only[q,Av,Bn] at hy ⊢;split at hy
  ·cases hy;simp only[aM] at h;obtain⟨v,vs',rfl,h1,rfl⟩:=h;simpa [aL] using h1
  ·cases hy
theorem aYl {α:Type}{l:List α}{off k:Nat}(h:off+k≤l.length):((l.drop off).take k).length=k:=by simp;omega
theorem aTv {t tv:TypeId}{i:TI}{x:Operand}{id off:Nat}{cells:List R}{y:V}(A:Tok P T) (ho:o.op=.load t x) (B:o.dst=some d) (q:d<n) (hi:T[t]?=some (some i)) (hx:opv st x=some (.one (.vp id off)))
  (hh:st.h id=some (.var tv cells)) (hl:Nat.ble (off+i.size) cells.length=true) (hy:jV i ((cells.drop off).take i.size)=some y):Step P n o st ⟨opr x,[id]⟩ ⟨some (d,some y),[]⟩:=by
 refine Step.value B q fun st' ha G S μ a w hs=>?_
 have r:st'.h id=some (.var tv cells):=by rw[ha.2 id (by simp),hh]
 have u:=aI hs hx ha.1;simp only[aL,aV] at u;obtain⟨J,cells',b,c,h1,h2,E⟩:=u;obtain⟨M,vs,g1,g2,g3,g4⟩:=hs.inv.obj id _ r;rw[g1] at h2;cases h2;have hlen:=Ao hl;have I:=g3.length;refine⟨_,?_,kY ((g3.drop off).take i.size) hy⟩;simp only[execOp,ho,E,ε,run_load (A.get hi) w b off _ (jQ g2 off i.size) (aYl (by omega)),θ,τ]
def aEk (i:TI) (l:List C):Option V:=if i.k.agg then some (.pa l) else match l with | [c]=>some (.one (.c c)) | _=>none
theorem wZ {i:TI}{S:Sto}{μ:Mu}{H:c8}{l:List C}{vs:List Value}{y:V}(h:bZ S l vs) (hy:aEk i l=some y):aL S μ H y (if i.k.agg then .agg ⟨vs⟩ else vs.headD undef):=by
 unfold aEk at hy;cases q:i.k.agg with
 | true=>
  simp only[q,Ce] at hy ⊢;cases hy;simp only[aL];exact⟨vs,rfl,h⟩
 | false=>
  simp only[q,Av,Bn] at hy ⊢;split at hy
  ·cases hy;simp only[bZ] at h;obtain⟨v,vs',rfl,h1,rfl⟩:=h;simpa [aL,aV] using h1
  ·cases hy
theorem mC {S:Sto}{w:World}(hh:Holds S w) {b off:Nat}{vs:List Value}(h:eK S b off vs):w.rangeAt b off vs:=fun j v q=>hh.cell (h j v q)
theorem aGw {t:TypeId}{i:TI}{x:Operand}{l:List C}{y:V}(B:Tok P T) (ho:o.op=.load t x) (E:o.dst=some d) (r:d<n) (hi:T[t]?=some (some i)) (hx:opv st x=some (.one (.c (.pt l))))
  (hl:i.size≤l.length) (hy:aEk i (l.take i.size)=some y):Step P n o st ⟨opr x,[]⟩ ⟨some (d,some y),[]⟩:=by
 refine Step.value E r fun st' ha G S μ a w hs=>?_
 have u:=aI hs hx ha.1;simp only[aL,aV,Rep] at u;obtain⟨b,off,h1,vs,h2,I⟩:=u;have M:=h2.length;refine⟨_,?_,wZ (h2.take i.size) hy⟩;have J:=mC hs.inv.holds I;have A:w.rangeAt b off (vs.take i.size):=fun j v q=>by
  rw[Al] at q;split at q
  ·exact J j v q
  ·cases q
 simp only[execOp,ho,h1,ε,run_load (B.get hi) w b off _ A (by simp;omega),θ,τ]
theorem qL {α:Type}{es:Nat}:∀{l:List (List α)},(∀r∈l,r.length=es)→∀(k:Nat),∀r,l[k]?=some r→(l.flatten.drop (k*es)).take es=r
 | [],_,k,r,h=>by simp at h
 | x::xs,hl,0,r,h=>by
  simp at h;subst h;have:=hl x (by simp);simp[←this]
 | x::xs,hl,k+1,r,h=>by
  simp at h;have hx:=hl x (by simp);have:=qL (l:=xs) (fun r q=>hl r (by simp[q])) k r h;rw[Ba,drop_append,show(k+1)*es-x.length=k*es by rw[hx,A7];omega];rw[drop_of_length_le (by rw[hx,A7];omega),Az];exact this
theorem gW {α:Type}{es:Nat}:∀{l:List (List α)},(∀r∈l,r.length=es)→l.flatten.length=l.length*es
 | [],_=>by simp
 | x::xs,hl=>by
  rw[Ba,ψ,gW (fun r q=>hl r (by simp[q])),hl x (by simp),κ,A7];omega
theorem kF.arr {S:Sto}{μ:Mu}{H:c8}{w:World}{id:Nat}{te es:Nat}{elems:List (List C)}{fz:Nat}(h:kF S μ H w id (.arr te es elems fz)) {b base cap:Nat}(hm:μ id=some (b,base,cap)):
  (∀r∈elems,r.length=es)∧∃vs,w.heap[b]?=some (.cells ⟨vs⟩ te (0,0))∧
   base+cap*es≤vs.length∧elems.length≤cap∧(cap≤maxLen∧S.mapo b=none)∧bZ S elems.flatten ((vs.drop base).take (elems.length*es))∧
   (fz=0→∀o,base≤o→S.cell b o=none)∧(∀o,base+elems.length*es≤o→S.cell b o=none)∧(fz=2→eK S b base ((vs.drop base).take (elems.length*es))):=by
 obtain⟨h0,⟨h1,_⟩ | ⟨y,q,u,vs,h1,h2⟩⟩:=h
 ·rw[hm] at h1;cases h1
 ·rw[hm] at h1;cases h1;exact⟨h0,vs,h2⟩
theorem aNm {S:Sto}{es base:Nat}{elems:List (List C)}{vs:List Value}(h0:∀r∈elems,r.length=es) (h:bZ S elems.flatten ((vs.drop base).take (elems.length*es))) {k:Nat}{r:List C}(q:elems[k]?=some r):
  bZ S r ((vs.drop (base+k*es)).take es):=by
 have h1:=(h.drop (k*es)).take es;rw[qL h0 k r q] at h1;have u:k<elems.length:=(Af.1 q).1
 have hle:(k+1)*es≤elems.length*es:=Ax _ u;rw[A7] at hle;rw[drop_take,Cr,take_take] at h1;rwa [min_eq_left (by omega)] at h1
theorem aGx {t te es:Nat}{i:TI}{x:Operand}{id k fo sz:Nat}{elems:List (List C)}{fz:Nat}{r:List C}{y:V}(J:Tok P T) (ho:o.op=.load t x) (M:o.dst=some d) (E:d<n) (hi:T[t]?=some (some i)) (hx:opv st x=some (.one (.ep id k fo sz)))
  (hh:st.h id=some (.arr te es elems fz)) (hsz:sz=elems.length) (I:elems[k]?=some r) (hl:fo+i.size≤es) (hy:aEk i ((r.drop fo).take i.size)=some y):Step P n o st ⟨opr x,[id]⟩ ⟨some (d,some y),[]⟩:=by
 refine Step.value M E fun st' ha G S μ a w hs=>?_
 have q:st'.h id=some (.arr te es elems fz):=by rw[ha.2 id (by simp),hh]
 have u:=aI hs hx ha.1;simp only[aL,aV] at u;obtain⟨_,u | ⟨te',es',elems',fz',h1,h2,O⟩⟩:=u
 ·rw[q] at u;cases u
 rw[q] at h1;cases h1;obtain⟨h4,b,base,cap,U,Y⟩:=O hsz;obtain⟨g0,vs,g1,g2,g3,g4,g5,g6,g7⟩:=(hs.inv.obj id _ q).arr U;have A:=aNm g0 g5 I;have hlr:=A.length;have aa:r.length=es:=g0 r (Aa I);have B:=((A.drop fo).take i.size)
 have hlen:=B.length;have hE:((List.drop fo (List.take es (List.drop (base+k*es) vs))).take i.size)=(vs.drop (base+k*es+fo)).take i.size:=by
  rw[drop_take,Cr,take_take,min_eq_left (by omega)]
 rw[hE] at B hlen;refine⟨_,?_,wZ B hy⟩;simp only[execOp,ho,Y,ε,run_load (J.get hi) w b (base+k*es+fo) _ (jQ g1 _ i.size) (by rw[hlen];simp;omega),θ,τ]
end
section
variable {P:Program}{n:Nat}{o:Oper}{st:St}{d:Nat}{T:TT}
theorem run_store {t:TypeId}{i:TI}(B:TIok P t i) (w:World) (b off:Nat) (vs news:List Value) (y:TypeId) (v:Value) (E:w.heap[b]?=some (.cells ⟨vs⟩ y (0,0))) (A:v.cells.toList=news) (hl:news.length=i.size) (r:off+news.length≤vs.length) (h1:∀u∈news,u.oneCell'=true):
  (Instr.storeAt t (.pointer (some ⟨b,off,none⟩)) v).run P w=.ok () (w.setRow b ⟨vs.take off++news++vs.drop (off+news.length)⟩):=by
 have hsz:v.cells.size=i.size:=by rw[←hl,←A];simp
 have q:=run_storeCells_at (P:=P) b off y news 0 ⟨vs⟩ w E (by simpa using r) h1;simp only[Cc] at q;simp only[Instr.storeAt,Instr.sureAddr,ε,τ,θ,storeVar,B.size_run w,hsz,A];simp only[ne_eq,not_true_eq_false,Bn,q]
theorem gY {S:Sto}{μ:Mu}{H:c8}{id:Nat}{o o':AObj}{p:Nat×Nat×Nat}(h:H id=some o) (hm:μ id=some p) (hs:o.succ True o'):Evolve S μ H S (upd μ id (some p)) (upd H id (some o')):=by
 refine⟨S.le_refl,fun j x r=>?_⟩;by_cases q:j=id
 ·subst q;rw[h] at r;cases r;refine⟨o',aH _ _ _,?_⟩;have he:upd μ j (some p) j=μ j:=by rw[aH,hm]
  rw[he];simpa using hs
 ·exact⟨x,by rw[bJ _ _ _ q];exact r,x.succ_refl (bJ _ _ _ q)⟩
theorem Step.turn {rd:Rd}{id:Nat}{ao q:AObj}(I:o.dst=none) (hid:st.h id=some ao) (A:id∈rd.h) (u:ao.succ True q)
  (h:∀st',fL rd st st'→st'.h id=some ao→∀G S μ a w,Sim G n S μ st' a w→∃w' y b c,(execOp a.eval o).run P w=.ok .skip w'∧μ id=some (b,c)∧WChg w w' b y∧
   kF S (upd μ id (some (b,c))) (upd st'.h id (some q)) w' id q∧(∀o v,S.cell b o=some v→∃vs t J,y=.cells vs t J∧vs[o]?=some v)∧(∀m,S.mapo b=some m→w.heap.size≤b)):
  Step P n o st rd ⟨none,[(id,some q)]⟩:=by
 intro st' ha G S μ a w K Q hs M;have r:st'.h id=some ao:=by rw[ha.2 id A,hid]
 obtain⟨w',y,b,c,O,hm,hw,hO,hS,B⟩:=h st' ha r G S μ a w hs;refine fun ro=>vM O ?_
 rw[I];have E:=gY (S:=S) (μ:=μ) r hm u;have hi:=hs.inv.chg (id:=id) (cap:=c) (ao:=q) hw (.inr ⟨ao,c,r,hm⟩) E hO hS B;refine M S (upd μ id (some (b,c))) _ _ ?_;have:=hs.put_none hi E undef;unfold Eff.apply;rw[c7];exact this
def bR {α:Type}(l:List α) (off:Nat) (new:List α):List α:=l.take off++new++l.drop (off+new.length)
theorem fG {S:Sto}{w:World}{b:Nat}(hb:S.mapo b=none) (m:MK) (e:S.mapo b=some m):w.heap.size≤b:=by
 rw[hb] at e;cases e
theorem aPm {t tv:TypeId}{i:TI}{x y:Operand}{id off:Nat}{cells rs:List R}{v:V}(M:Tok P T) (ho:o.op=.store t x y) (O:o.dst=none) (hi:T[t]?=some (some i)) (hx:opv st x=some (.one (.vp id off)))
  (hy:opv st y=some v) (hc:fZ v=some rs) (hh:st.h id=some (.var tv cells)) (U:rs.length=i.size) (hl:Nat.ble (off+i.size) cells.length=true):
  Step P n o st ⟨opr x++opr y,[id]⟩ ⟨none,[(id,some (.var tv (bR cells off rs)))]⟩:=by
 refine Step.turn O hh (by simp) (by simp[AObj.succ]) fun st' ha r G S μ a w hs=>?_
 have u:=aI hs hx fun t ht=>ha.1 t (by simp[ht])
 have I:=aI hs hy fun t ht=>ha.1 t (by simp[ht])
 simp only[aL,aV] at u;obtain⟨t',cells',b,c,h1,h2,q⟩:=u;obtain⟨b',vs,g1,g2,g3,g4⟩:=hs.inv.obj id _ r;rw[g1] at h2;cases h2;have hlen:=Ao hl;have Y:=g3.length;have hrel:=dG I hc;have A:=hrel.length;have B:=run_store (M.get hi) w b off vs (a.eval y).cells.toList tv (a.eval y) g2 rfl (by omega) (by omega) hrel.one;have E:=gY (S:=S) (μ:=μ) (o':=.var tv (bR cells off rs)) r g1 (by simp[AObj.succ]);have J:=WChg.setRow w b ⟨vs⟩ ⟨vs.take off++(a.eval y).cells.toList++vs.drop (off+(a.eval y).cells.toList.length)⟩ tv (0,0) g2;refine⟨_,_,b,(0,0),?_,g1,J,⟨b,_,aH _ _ _,J.new,?_,g4⟩,(fun o v e=>by rw[g4.1] at e;cases e),fun m e=>fG g4.2 m e⟩
 ·simp only[execOp,ho,q,ε,B,θ,τ]
 ·have h1:=aM.evolve E _ _ (g3.take off);have h2:=aM.evolve E _ _ hrel;have q:=aM.evolve E _ _ (g3.drop (off+rs.length));rw[←A] at q;have:=(h1.append h2).append q;rw[show bR cells off rs=cells.take off++rs++cells.drop (off+(a.eval y).cells.toList.length) by rw[A];rfl] at this ⊢;exact this
theorem zU {α:Type}{es:Nat}:∀{l:List (List α)},(∀r∈l,r.length=es)→∀(k:Nat) (r:List α),l[k]?=some r→
  (l.take k).flatten=l.flatten.take (k*es)∧(l.drop (k+1)).flatten=l.flatten.drop (k*es+es)
 | [],_,k,r,h=>by simp at h
 | x::xs,hl,0,r,_=>by
  have hx:=hl x (by simp);simp only[B5,List.flatten_nil,zero_mul,Bb,Cg,B8,Ba,true_and];rw[drop_append,hx,Ch,B8,drop_of_length_le (by omega),Az]
 | x::xs,hl,k+1,r,h=>by
  have hx:=hl x (by simp);simp at h;obtain⟨h1,h2⟩:=zU (l:=xs) (fun r q=>hl r (by simp[q])) k r h;simp only[As,Ba,Cg];rw[h1,h2,List.take_append,drop_append,hx];have u:(k+1)*es-es=k*es:=by rw[A7];omega
  have y:(k+1)*es+es-es=k*es+es:=by rw[A7];omega
  rw[u,y,A0 (l:=x) (by rw[hx,A7];omega),drop_of_length_le (l:=x) (by rw[hx,A7];omega),Az];exact⟨rfl,rfl⟩
theorem aD2 {t te es:Nat}{i:TI}{x y:Operand}{id k fo sz:Nat}{elems:List (List C)}{v:V}{rs:List R}{cs r:List C}(hT:Tok P T) (ho:o.op=.store t x y) (hd:o.dst=none) (hi:T[t]?=some (some i)) (hx:opv st x=some (.one (.ep id k fo sz)))
  (hy:opv st y=some v) (hc:fZ v=some rs) (hp:iC rs=some cs) (hh:st.h id=some (.arr te es elems 0)) (hsz:sz=elems.length) (M:elems[k]?=some r) (hcs:cs.length=i.size) (hl:fo+i.size≤es):
  Step P n o st ⟨opr x++opr y,[id]⟩ ⟨none,[(id,some (.arr te es (elems.set k (bR r fo cs)) 0))]⟩:=by
 refine Step.turn hd hh (by simp) (by simp[AObj.succ]) fun st' ha A G S μ a w hs=>?_
 have Y:=aI hs hx fun t ht=>ha.1 t (by simp[ht])
 have hvy:=aI hs hy fun t ht=>ha.1 t (by simp[ht])
 simp only[aL,aV] at Y;obtain⟨_,hv | ⟨te',es',elems',fz',h1,h2,h3⟩⟩:=Y
 ·rw[A] at hv;cases hv
 rw[A] at h1;cases h1;obtain⟨h4,b,base,cap,h5,h6⟩:=h3 hsz;obtain⟨g0,vs,g1,g2,g3,g4,g5,g6,g7⟩:=(hs.inv.obj id _ A).arr h5;have hrel:=dG hvy hc;rw[mY hp] at hrel;have E:=hrel.pure;have hone:=hrel.one;have hnl:=E.length;have hk:k<elems.length:=(Af.1 M).1
 have hres:r.length=es:=g0 r (Aa M);have hke:(k+1)*es≤elems.length*es:=Ax _ hk;have hce:elems.length*es≤cap*es:=Ax _ g3;rw[A7] at hke;generalize O:(a.eval y).cells.toList=news at *;have hrun:=run_store (hT.get hi) w b (base+k*es+fo) vs news te (a.eval y) g1 O (by omega) (by omega) hone;have hE:=gY (S:=S) (μ:=μ) (o':=.arr te es (elems.set k (bR r fo cs)) 0) A h5 (by simp[AObj.succ]);have I:=aNm g0 g5 M;have B:=zU g0 k r M;have hlen:(elems.set k (bR r fo cs)).length=elems.length:=by simp
 have hW:=WChg.setRow w b ⟨vs⟩ ⟨vs.take (base+k*es+fo)++news++vs.drop (base+k*es+fo+news.length)⟩ te (0,0) g1;refine⟨_,_,b,(base,cap),?_,h5,hW,⟨?_,.inr ⟨b,base,cap,_,aH _ _ _,hW.new,?_,by rw[hlen];exact g3,g4,?_,g6,by rw[hlen];exact g7.1,fun e=>by cases e⟩⟩,fun o v e=>?_,fun m e=>fG g4.2 m e⟩
 ·simp only[execOp,ho,h6,ε,hrun,θ,τ]
 ·intro q hq;rcases List.mem_or_eq_of_mem_set hq with hq | rfl
  ·exact g0 q hq
  ·unfold bR;simp;omega
 ·simp only[ψ,Ak,Be];omega
 ·rw[hlen];have e1:(elems.set k (bR r fo cs)).flatten=elems.flatten.take (k*es)++(r.take fo++cs++r.drop (fo+cs.length))++elems.flatten.drop (k*es+es):=by
   rw[Cb,ξ hk,Ci,Ba,B.1,B.2,←Aj];rfl
  have e2:((vs.take (base+k*es+fo)++news++vs.drop (base+k*es+fo+news.length)).drop base).take (elems.length*es)=
    ((vs.drop base).take (elems.length*es)).take (k*es)++((((vs.drop (base+k*es)).take es).take fo)++news++(((vs.drop (base+k*es)).take es).drop (fo+cs.length)))++((vs.drop base).take (elems.length*es)).drop (k*es+es):=by
   apply Cf;intro j;simp only[Al,Am,B3,ψ,Ak,Be];have hm1:min (k*es) (min (elems.length*es) (vs.length-base))=k*es:=by omega
   have hm2:min (base+k*es+fo) vs.length=base+k*es+fo:=by omega
   have hm3:min fo es=fo:=by omega
   have hm4:min es (vs.length-(base+k*es))=es:=by omega
   simp only[hm1,hm2,hm3,hm4,hnl];by_cases U:j<k*es
   ·have u:j<elems.length*es:=by omega
    have a2:base+j<base+k*es+fo:=by omega
    have a3:base+j<base+k*es+fo+cs.length:=by omega
    have a4:j<k*es+(fo+cs.length+(es-(fo+cs.length))):=by omega
    simp[U,u,a2,a3,a4]
   ·by_cases c2:j<k*es+fo
    ·have u:j<elems.length*es:=by omega
     have a2:base+j<base+k*es+fo:=by omega
     have a3:base+j<base+k*es+fo+cs.length:=by omega
     have a4:j<k*es+(fo+cs.length+(es-(fo+cs.length))):=by omega
     have a5:j-k*es<fo+cs.length:=by omega
     have J:j-k*es<fo:=by omega
     have a7:j-k*es<es:=by omega
     simp[U,u,a2,a3,a4,a5,J,a7,show base+k*es+(j-k*es)=base+j by omega]
    ·by_cases c3:j<k*es+fo+cs.length
     ·have u:j<elems.length*es:=by omega
      have a2:¬base+j<base+k*es+fo:=by omega
      have a3:base+j<base+k*es+fo+cs.length:=by omega
      have a4:j<k*es+(fo+cs.length+(es-(fo+cs.length))):=by omega
      have a5:j-k*es<fo+cs.length:=by omega
      have J:¬j-k*es<fo:=by omega
      simp[U,u,a2,a3,a4,a5,J,show base+j-(base+k*es+fo)=j-k*es-fo by omega]
     ·by_cases c4:j<k*es+es
      ·have u:j<elems.length*es:=by omega
       have a3:¬base+j<base+k*es+fo+cs.length:=by omega
       have a4:j<k*es+(fo+cs.length+(es-(fo+cs.length))):=by omega
       have a5:¬j-k*es<fo+cs.length:=by omega
       have J:fo+cs.length+(j-k*es-(fo+cs.length))<es:=by omega
       simp[U,u,a3,a4,a5,J,show base+k*es+fo+cs.length+(base+j-(base+k*es+fo+cs.length))=base+j by omega,show base+k*es+(fo+cs.length+(j-k*es-(fo+cs.length)))=base+j by omega]
      ·have a3:¬base+j<base+k*es+fo+cs.length:=by omega
       have a4:¬j<k*es+(fo+cs.length+(es-(fo+cs.length))):=by omega
       by_cases c5:j<elems.length*es
       ·have a5:k*es+es+(j-(k*es+(fo+cs.length+(es-(fo+cs.length)))))<elems.length*es:=by omega
        simp[a3,a4,c5,a5,show base+k*es+fo+cs.length+(base+j-(base+k*es+fo+cs.length))=base+j by omega,show base+(k*es+es+(j-(k*es+(fo+cs.length+(es-(fo+cs.length))))))=base+j by omega]
       ·have a5:¬k*es+es+(j-(k*es+(fo+cs.length+(es-(fo+cs.length)))))<elems.length*es:=by omega
        simp[a4,c5,a5]
  rw[e1];show bZ S _ (((vs.take (base+k*es+fo)++news++vs.drop (base+k*es+fo+news.length)).drop base).take (elems.length*es));rw[e2];exact((g5.take (k*es)).append (((I.take fo).append E).append (I.drop (fo+cs.length)))).append (g5.drop (k*es+es))
 ·--what stays is not touched
  by_cases hb:base≤o
  ·rw[g6 rfl o hb] at e;cases e
  ·obtain⟨vs0,t0,fr0,q1,q2⟩:=hs.inv.holds.1 b o v e;rw[g1] at q1;cases q1;refine⟨_,_,_,rfl,?_⟩;simp only[Ca] at q2 ⊢;have hlt:o<vs.length:=(Af.1 q2).1
   rw[Aj,A6 (by simp;omega),Al,ξ (by omega)];exact q2
theorem vD (b off k:Nat):(⟨b,off,none⟩:Addr).add k=⟨b,off+k,none⟩:=Addr.add_mid b off k
theorem gR {t u:TypeId}{i y:TI}{fs:List (Nat×TypeId)}{f q:Nat}(A:Tok P T) (hi:T[t]?=some (some i)) (E:i.k=.st fs) (r:fs[f]?=some (q,u)) (B:T[u]?=some (some y)) (I:y.size≠0) (w:World) (b off:Nat):
  (Instr.fieldAt t (.pointer (some ⟨b,off,none⟩)) f).run P w=.ok (.pointer (some ⟨b,off+q,none⟩)) w:=by
 obtain⟨fields,h1,h2⟩:=(A.get hi).struct E;rw[h2] at r;simp only[List.getElem?_map,Option.map_eq_some_iff,Array.getElem?_toList] at r;obtain⟨fl,J,M⟩:=r;cases M;simp only[Instr.fieldAt,ε,Ag h1 w,θ,J,Instr.sureAddr,τ,fieldPlace,(A.get B).size_run w];simp[I,vD]
theorem aD7 {t r:TypeId}{i u:TI}{fs:List (Nat×TypeId)}{f q:Nat}{x:Operand}{id off:Nat}(E:Tok P T) (ho:o.op=.fieldAddr t x f) (I:o.dst=some d) (y:d<n) (hi:T[t]?=some (some i)) (J:i.k=.st fs) (M:fs[f]?=some (q,r)) (A:T[r]?=some (some u)) (O:u.size≠0)
  (hx:opv st x=some (.one (.vp id off))):Step P n o st ⟨opr x,[]⟩ ⟨some (d,some (.one (.vp id (off+q)))),[]⟩:=by
 refine Step.value I y fun st' ha G S μ a w hs=>?_
 have B:=aI hs hx ha.1;simp only[aL,aV] at B;obtain⟨U,cells',b,c,h1,h2,Y⟩:=B;refine⟨.pointer (some ⟨b,off+q,none⟩),?_,?_⟩
 ·simp only[execOp,ho,Y,ε,gR E hi J M A O,θ,τ]
 ·simp only[aL,aV];exact⟨U,cells',b,c,h1,h2,rfl⟩
theorem aD9 {t r:TypeId}{i u:TI}{fs:List (Nat×TypeId)}{f q:Nat}{x:Operand}{l:List C}(I:Tok P T) (ho:o.op=.fieldAddr t x f) (J:o.dst=some d) (y:d<n) (hi:T[t]?=some (some i)) (M:i.k=.st fs) (O:fs[f]?=some (q,r)) (A:T[r]?=some (some u)) (U:u.size≠0)
  (hx:opv st x=some (.one (.c (.pt l)))):Step P n o st ⟨opr x,[]⟩ ⟨some (d,some (.one (.c (.pt (l.drop q))))),[]⟩:=by
 refine Step.value J y fun st' ha G S μ a w hs=>?_
 have B:=aI hs hx ha.1;simp only[aL,aV,Rep] at B;obtain⟨b,off,h1,vs,h2,Y⟩:=B;refine⟨.pointer (some ⟨b,off+q,none⟩),?_,?_⟩
 ·simp only[execOp,ho,h1,ε,gR I hi M O A U,θ,τ]
 ·simp only[aL,aV,Rep];refine⟨b,off+q,rfl,vs.drop q,h2.drop q,fun j v E=>?_⟩;rw[Am] at E;have:=Y (q+j) v E;rwa [←add_assoc] at this
theorem aEa {t y:TypeId}{i A:TI}{fs:List (Nat×TypeId)}{f q:Nat}{x:Operand}{id k fo sz:Nat}(I:Tok P T) (ho:o.op=.fieldAddr t x f) (J:o.dst=some d) (B:d<n) (hi:T[t]?=some (some i)) (M:i.k=.st fs) (O:fs[f]?=some (q,y)) (E:T[y]?=some (some A)) (U:A.size≠0)
  {te es:Nat} {elems:List (List C)} {fz:Nat} (hx:opv st x=some (.one (.ep id k fo sz))) (hh:st.h id=some (.arr te es elems fz)) (hsz:sz=elems.length):Step P n o st ⟨opr x,[id]⟩ ⟨some (d,some (.one (.ep id k (fo+q) sz))),[]⟩:=by
 refine Step.value J B fun st' ha G S μ a w hs=>?_
 have r:=aI hs hx ha.1;have u:st'.h id=some (.arr te es elems fz):=by rw[ha.2 id (by simp),hh]
 simp only[aL,aV] at r;obtain⟨_,r | ⟨te',es',elems',fz',h1,h2,Y⟩⟩:=r
 ·rw[u] at r;cases r
 rw[u] at h1;cases h1;obtain⟨h4,b,base,cap,h5,h6⟩:=Y hsz;refine⟨.pointer (some ⟨b,base+k*es+fo+q,none⟩),?_,?_⟩
 ·simp only[execOp,ho,h6,ε,gR I hi M O E U,θ,τ]
 ·simp only[aL,aV];exact⟨⟨_,rfl⟩,.inr ⟨te,es,elems,fz,u,h2,fun _=>⟨h4,b,base,cap,h5,by rw[add_assoc]⟩⟩⟩
theorem jO {t e:TypeId}{i q:TI}(r:Tok P T) (hi:T[t]?=some (some i)) (y:i.k=.sl e) (u:T[e]?=some (some q)) (w:World) (b off len cap k:Nat) (kk:IntKind) (A:k<len):
  (Instr.indexAt t (.slice (some ⟨b,off,none⟩) len cap) (.int kk (k:Int))).run P w=.ok (.pointer (some ⟨b,off+k*q.size,none⟩)) w:=by
 have h1:=(r.get hi).slice y;simp only[Instr.indexAt,asIntOf,ε,τ,θ,Ag h1 w];rw[ξ ⟨by omega,by omega⟩];simp only[ε,(r.get u).size_run w,θ,τ,Int.toNat_natCast,vD]
theorem aPp {t e:TypeId}{i u:TI}{x y:Operand}{es k:Nat}{kk:IntKind}{m:Int}{l:List (List C)}{r:List C}(Y:Tok P T) (ho:o.op=.indexAddr t x y) (hd:o.dst=some d) (A:d<n) (hi:T[t]?=some (some i)) (hk:i.k=.sl e) (B:T[e]?=some (some u)) (E:u.size=es)
  (hx:opv st x=some (.one (.c (.sl es l)))) (hy:opv st y=some (I kk m)) (hm:m=(k:Int)) (J:l[k]?=some r):Step P n o st ⟨opr x++opr y,[]⟩ ⟨some (d,some (.one (.c (.pt r)))),[]⟩:=by
 refine Step.value hd A fun st' ha G S μ a w hs=>?_
 have M:=aI hs hx (cS ha).1;have O:=dS (aI hs hy (cS ha).2);have hlt:k<l.length:=(Af.1 J).1
 simp only[aL,aV,Rep] at M;obtain⟨q,len,cap,h1,h2,h3,h4,h5,h6,b,off,h7,h8⟩:=M;cases q with
 | none=>have:=(h5 rfl).1;omega
 | some q=>
  obtain⟨h9,h10⟩:=h7 q rfl;have h11:=h6 q rfl (by omega);have U:q=⟨b,off,none⟩:=by cases q;simp_all
  subst U;subst hm;obtain⟨q1,vs,q2,q3⟩:=h8.get k r J;refine⟨.pointer (some ⟨b,off+k*es,none⟩),?_,?_⟩
  ·simp only[execOp,ho,h1,O,ε,jO Y hi hk B w b off len cap k kk (by omega),θ,τ,E]
  ·simp only[aL,aV,Rep];exact⟨b,off+k*es,rfl,vs,q2,q3⟩
theorem aD6 {t e:TypeId}{i A:TI}{x y:Operand}{te es k id off len sz:Nat}{kk:IntKind}{m:Int}{elems:List (List C)}{fz:Nat}(Y:Tok P T) (ho:o.op=.indexAddr t x y) (hd:o.dst=some d) (B:d<n) (hi:T[t]?=some (some i)) (hk:i.k=.sl e) (E:T[e]?=some (some A)) (J:A.size=es)
  (hx:opv st x=some (.one (.hs id off len sz))) (hh:st.h id=some (.arr te es elems fz)) (hsz:sz=elems.length) (hy:opv st y=some (I kk m)) (hm:m=(k:Int)) (M:k<len):Step P n o st ⟨opr x++opr y,[id]⟩ ⟨some (d,some (.one (.ep id (off+k) 0 sz))),[]⟩:=by
 refine Step.value hd B fun st' ha G S μ a w hs=>?_
 have q:=aI hs hx fun t ht=>ha.1 t (by simp[ht])
 have O:=dS (aI hs hy fun t ht=>ha.1 t (by simp[ht]));have r:st'.h id=some (.arr te es elems fz):=by rw[ha.2 id (by simp),hh]
 simp only[aL,aV] at q;obtain⟨_,q | ⟨te',es',elems',fz',h1,h2,h3⟩⟩:=q
 ·rw[r] at q;cases q
 rw[r] at h1;cases h1;obtain⟨h4,⟨U,u,h7⟩ | ⟨b,base,cap,U,u⟩⟩:=h3 hsz
 ·subst u;simp at hsz;omega
 subst hm;refine⟨.pointer (some ⟨b,base+(off+k)*es+0,none⟩),?_,?_⟩
 ·simp only[execOp,ho,u,O,ε,jO Y hi hk E w b (base+off*es) len _ k kk M,θ,τ,J,Cc];rw[show base+off*es+k*es=base+(off+k)*es by rw[A7];omega]
 ·simp only[aL,aV];exact⟨⟨_,rfl⟩,.inr ⟨te,es,elems,fz,r,h2,fun _=>⟨by omega,b,base,cap,U,rfl⟩⟩⟩
theorem vY {t e:TypeId}{m:Nat}{i q:TI}(r:Tok P T) (hi:T[t]?=some (some i)) (y:i.k=.ar m e) (u:T[e]?=some (some q)) (w:World) (b off k:Nat) (kk:IntKind) (A:k<m):
  (Instr.indexAt t (.pointer (some ⟨b,off,none⟩)) (.int kk (k:Int))).run P w=.ok (.pointer (some ⟨b,off+k*q.size,none⟩)) w:=by
 have h1:=(r.get hi).array y;have h2:(Instr.sureAddr (.pointer (some ⟨b,off,none⟩))).run P w=.ok ⟨b,off,none⟩ w:=by simp[Instr.sureAddr]
 simp only[Instr.indexAt,asIntOf,ε,τ,θ,Ag h1 w,h2];rw[ξ ⟨by omega,by omega⟩];simp only[ε,(r.get u).size_run w,θ,τ,Int.toNat_natCast,vD]
theorem zC {t e:TypeId}{i r:TI}{x y:Operand}{id off k m:Nat}{kk:IntKind}{q:Int}(M:Tok P T) (ho:o.op=.indexAddr t x y) (O:o.dst=some d) (u:d<n) (hi:T[t]?=some (some i)) (U:i.k=.ar m e) (A:T[e]?=some (some r))
  (hx:opv st x=some (.one (.vp id off))) (hy:opv st y=some (I kk q)) (hm:q=(k:Int)) (B:k<m):Step P n o st ⟨opr x++opr y,[]⟩ ⟨some (d,some (.one (.vp id (off+k*r.size)))),[]⟩:=by
 refine Step.value O u fun st' ha G S μ a w hs=>?_
 have E:=aI hs hx (cS ha).1;have J:=dS (aI hs hy (cS ha).2);simp only[aL,aV] at E;obtain⟨Y,cells',b,c,h1,h2,h3⟩:=E;subst hm;refine⟨.pointer (some ⟨b,off+k*r.size,none⟩),?_,?_⟩
 ·simp only[execOp,ho,h3,J,ε,vY M hi U A w b off k kk B,θ,τ]
 ·simp only[aL,aV];exact⟨Y,cells',b,c,h1,h2,rfl⟩
def notNil:V→Bool
 | .one (.vp _ _)=>true
 | .one (.c (.pt _))=>true
 | .one (.pas _)=>true
 | _=>false
theorem aD3 {x:Operand}{y:V}(ho:o.op=.nilCheck x) (A:o.dst=some d) (u:d<n) (hx:opv st x=some y) (r:notNil y=true):Step P n o st ⟨opr x,[]⟩ ⟨some (d,some y),[]⟩:=by
 refine Step.value A u fun st' ha G S μ a w hs=>⟨a.eval x,?_,aI hs hx ha.1⟩
 have q:=aI hs hx ha.1;unfold notNil at r;split at r
 ·simp only[aL,aV] at q;obtain⟨E,cells',b,c,h1,h2,B⟩:=q;simp[execOp,ho,B]
 ·simp only[aL,aV,Rep] at q;obtain⟨b,off,h1,_⟩:=q;simp[execOp,ho,h1]
 ·simp only[aL,aV] at q;obtain⟨b,off,h1,_⟩:=q;simp[execOp,ho,h1]
 ·cases r
theorem jN {t:TypeId}{x:Operand}{a:Act}{w:World}{u:Value}{m:Int}(ho:o.op=.call { callee:=.builtin .len,args:= #[x],argTypes:= #[t] }) (hx:a.eval x=u) (q:(Builtin.len_ #[t] o.type #[u]).run P w=.ok (goInt m) w):
  (execOp a.eval o).run P w=.ok (.value (goInt m)) w:=by
 simp only[execOp,ho,resolve,map_toArray,An,Bz,hx,ε,τ,θ,invoke,builtin,q]
theorem aLb {t e:TypeId}{i:TI}{x:Operand}{es:Nat}{l:List (List C)}(u:Tok P T) (ho:o.op=.call { callee:=.builtin .len,args:= #[x],argTypes:= #[t] }) (y:o.dst=some d) (q:d<n) (hi:T[t]?=some (some i)) (A:i.k=.sl e)
  (hx:opv st x=some (.one (.c (.sl es l)))):Step P n o st ⟨opr x,[]⟩ ⟨some (d,some (I .i64 (l.length:Int))),[]⟩:=by
 refine Step.value y q fun st' ha G S μ a w hs=>?_
 have r:=aI hs hx ha.1;simp only[aL,aV,Rep] at r;obtain⟨B,len,cap,h1,h2,_⟩:=r;refine⟨goInt l.length,jN ho h1 ?_,by simp[aL,aV,Rep,goInt]⟩;simp[Builtin.len_,Ag ((u.get hi).slice A) w,h2]
theorem aLd {t e:TypeId}{i:TI}{x:Operand}(u:Tok P T) (ho:o.op=.call { callee:=.builtin .len,args:= #[x],argTypes:= #[t] }) (y:o.dst=some d) (q:d<n) (hi:T[t]?=some (some i)) (A:i.k=.sl e)
  (hx:opv st x=some (.one (.c .nl))):Step P n o st ⟨opr x,[]⟩ ⟨some (d,some (I .i64 0)),[]⟩:=by
 refine Step.value y q fun st' ha G S μ a w hs=>?_
 have r:=aI hs hx ha.1;simp only[aL,aV,Rep] at r;refine⟨goInt 0,jN ho r ?_,by simp[aL,aV,Rep,goInt]⟩;simp[Builtin.len_,Ag ((u.get hi).slice A) w]
theorem aLe {t e:TypeId}{i:TI}{x:Operand}{te es id off len sz:Nat}{elems:List (List C)}{fz:Nat}(y:Tok P T) (ho:o.op=.call { callee:=.builtin .len,args:= #[x],argTypes:= #[t] }) (J:o.dst=some d) (A:d<n) (hi:T[t]?=some (some i)) (B:i.k=.sl e)
  (hx:opv st x=some (.one (.hs id off len sz))) (hh:st.h id=some (.arr te es elems fz)) (hsz:sz=elems.length):Step P n o st ⟨opr x,[id]⟩ ⟨some (d,some (I .i64 (len:Int))),[]⟩:=by
 refine Step.value J A fun st' ha G S μ a w hs=>?_
 have q:=aI hs hx ha.1;have r:st'.h id=some (.arr te es elems fz):=by rw[ha.2 id (by simp),hh]
 simp only[aL,aV] at q;obtain⟨_,q | ⟨Y,aa,elems',ab,h1,h2,M⟩⟩:=q
 ·rw[r] at q;cases q
 rw[r] at h1;cases h1;obtain⟨h4,⟨O,u,U⟩ | ⟨b,base,cap,O,u⟩⟩:=M hsz
 ·subst u;simp at hsz;have E:len=0:=by omega
  refine⟨goInt len,jN ho U ?_,by simp[aL,aV,Rep,goInt]⟩;simp[Builtin.len_,Ag ((y.get hi).slice B) w,E]
 ·refine⟨goInt len,jN ho u ?_,by simp[aL,aV,Rep,goInt]⟩;simp[Builtin.len_,Ag ((y.get hi).slice B) w]
theorem aGy {t:TypeId}{i:TI}{x:Operand}{s:List UInt8}(r:Tok P T) (ho:o.op=.call { callee:=.builtin .len,args:= #[x],argTypes:= #[t] }) (u:o.dst=some d) (q:d<n) (hi:T[t]?=some (some i)) (y:i.k=.str)
  (hx:opv st x=some (Go.AM.T s)):Step P n o st ⟨opr x,[]⟩ ⟨some (d,some (I .i64 (s.length:Int))),[]⟩:=by
 refine Step.value u q fun st' ha G S μ a w hs=>?_
 have A:=kV (aI hs hx ha.1);refine⟨goInt s.length,jN ho A ?_,by simp[aL,aV,Rep,goInt]⟩;simp[Builtin.len_,Ag ((r.get hi).str y) w];rfl
end
section
variable {P:Program}{n:Nat}{o:Oper}{st:St}{d:Nat}{T:TT}
theorem nD (off:Nat):∀(vs:List Value) (j:Nat) (cells:Array Value),off+j+vs.length≤cells.size→
  (vs.zipIdx j).foldl (fun cs (x:Value×Nat)=>cs.setIfInBounds (off+x.2) x.1) cells=⟨bR cells.toList (off+j) vs⟩
 | [],j,cells,_=>by simp[bR]
 | v::vs,j,cells,h=>by
  simp only[κ] at h;have E:=nD off vs (j+1) (cells.setIfInBounds (off+j) v) (by simp;omega);simp only[List.zipIdx_cons,List.foldl_cons,E];congr 1;unfold bR;simp only[Array.toList_setIfInBounds];apply Cf;intro k;simp only[B3,ψ,Ak,length_set,Ay,κ,Al,Am,List.getElem?_set];have u:min (off+(j+1)) cells.size=off+j+1:=by omega
  have y:min (off+j) cells.size=off+j:=by omega
  simp only[u,y];by_cases A:k<off+j
  ·have q:k<off+j+1+vs.length:=by omega
   have a2:k<off+j+1:=by omega
   have a3:k<off+(j+1):=by omega
   have a4:k<off+j+(vs.length+1):=by omega
   have a5:¬off+j=k:=by omega
   simp[A,q,a2,a3,a4,a5]
  ·by_cases I:k=off+j
   ·subst I;have q:off+j<off+j+1+vs.length:=by omega
    have a5:off+j<cells.size:=by omega
    have r:off+j<off+(j+1):=by omega
    simp[q,a5,r]
   ·by_cases B:k<off+j+1+vs.length
    ·have a2:¬k<off+j+1:=by omega
     have a4:k<off+j+(vs.length+1):=by omega
     have r:k-(off+j)=(k-(off+j+1))+1:=by omega
     simp[A,B,a2,a4,r]
    ·have a4:¬k<off+j+(vs.length+1):=by omega
     have a5:¬off+j=k:=by omega
     simp[B,a4,a5,show off+(j+1)+vs.length+(k-(off+j+1+vs.length))=k by omega,show off+j+(vs.length+1)+(k-(off+j+(vs.length+1)))=k by omega]
def oX (st:St):List (Nat×Operand)→Option (List (Nat×List R))
 | []=>some []
 | (i,x)::ps=>match opv st x with
  | some v=>match fZ v with
   | some rs=>match oX st ps with | some l=>some ((i,rs)::l) | none=>none
   | none=>none
  | none=>none
def fB:List (Nat×Operand)→List Nat
 | []=>[]
 | (_,x)::ps=>opr x++fB ps
def aEr (places:List (Nat×Nat)):List R→List (Nat×List R)→Option (List R)
 | cells,[]=>some cells
 | cells,(i,rs)::ps=>match places[i]? with
  | some (off,size)=>if Nat.beq rs.length size&&Nat.ble (off+rs.length) cells.length then aEr places (bR cells off rs) ps else none
  | none=>none
def kU (T:TT):List (Nat×TypeId)→Option (List (Nat×Nat))
 | []=>some []
 | (off,t)::fs=>match T[t]? with
  | some (some i)=>match kU T fs with | some l=>some ((off,i.size)::l) | none=>none
  | _=>none
theorem aEe {G:Ctx}{S:Sto}{μ:Mu}{st':St}{a:Act}{w:World}(hs:Sim G n S μ st' a w):∀(ps:List (Nat×Operand)) (l:List (Nat×List R)),oX st ps=some l→(∀t∈fB ps,st'.e t=st.e t)→
  ∃vs:List (Nat×Value),ps.map (fun(i,x)=>(i,a.eval x))=vs∧vs.length=l.length∧∀(k:Nat) (p:Nat×List R),l[k]?=some p→∃v:Value,vs[k]?=some (p.1,v)∧aM S μ st'.h p.2 v.cells.toList:=by
 intro ps
 induction ps with
 | nil=>intro l h _;simp[oX] at h;subst h;exact⟨[],rfl,rfl,fun k p h=>by simp at h⟩
 | cons p ps u=>
  obtain⟨i,x⟩:=p;intro l h ha;simp only[oX] at h;split at h
  ·rename_i v y;split at h
   ·rename_i rs hc;split at h
    ·rename_i A r;cases h;obtain⟨vs,h1,h2,B⟩:=u A r fun t ht=>ha t (by simp[fB,ht])
     refine⟨(i,a.eval x)::vs,by simp[h1],by simp[h2],fun k q hq=>?_⟩;cases k with
     | zero=>
      simp at hq;subst hq;exact⟨a.eval x,rfl,dG (aI hs y fun t ht=>ha t (by simp[fB,ht])) hc⟩
     | succ k=>simp at hq;simpa using B k q hq
    ·cases h
   ·cases h
  ·cases h
theorem sE {S:Sto}{μ:Mu}{H:c8}{cells rs:List R}{vs us:List Value}{off:Nat}(h:aM S μ H cells vs) (k:aM S μ H rs us):aM S μ H (bR cells off rs) (bR vs off us):=by
 have hl:=k.length;unfold bR;rw[hl];exact((h.take off).append k).append (h.drop _)
theorem aIk {S:Sto}{μ:Mu}{H:c8}{places:List (Nat×Nat)}:∀(ps:List (Nat×List R)) (vs:List (Nat×Value)) (cells:List R) (cs:Array Value) (out:List R),aEr places cells ps=some out→aM S μ H cells cs.toList→
  vs.length=ps.length→(∀(k:Nat) (p:Nat×List R),ps[k]?=some p→∃v:Value,vs[k]?=some (p.1,v)∧aM S μ H p.2 v.cells.toList)→
  ∃r,Instr.fill (places[·]?) cs vs=some r∧aM S μ H out r.toList:=by
 intro ps
 induction ps with
 | nil=>
  intro vs cells cs out h u hl _;simp at hl;subst hl;simp[aEr] at h;subst h;exact⟨cs,rfl,u⟩
 | cons p ps O=>
  intro vs cells cs out h u hl hp;obtain⟨i,rs⟩:=p
  match vs,hl with
  | q::vs,hl=>
   obtain⟨v,B,hrel⟩:=hp 0 (i,rs) rfl;simp at B;subst B;simp only[aEr] at h;split at h
   ·rename_i off size E;split at h
    ·rename_i hc;simp only[Ab] at hc;have Y:=δ hc.1;have aa:=Ao hc.2;have I:=hrel.length;have J:=u.length;simp only[Ay] at I J;have A:=nD off v.cells.toList 0 cs (by simp;omega);obtain⟨r,h1,h2⟩:=O vs (bR cells off rs) ⟨bR cs.toList off v.cells.toList⟩ out h (sE u hrel) (by simpa using hl) fun k p U=>by simpa using hp (k+1) p (by simpa using U)
     refine⟨r,?_,h2⟩;simp only[Instr.fill];rw[E];simp only[];have y:(v.cells.size≠size || decide (off+v.cells.size>cs.size))=false:=by
      simp only[Bool.or_eq_false_iff,decide_eq_false_iff_not];exact⟨by simp;omega,by omega⟩
     simp only[y,Av,Bn];have M:(v.cells.zipIdx.foldl (fun cs (x:Value×Nat)=>cs.setIfInBounds (off+x.2) x.1) cs)=⟨bR cs.toList off v.cells.toList⟩:=by
      rw[←Array.foldl_toList,Array.toList_zipIdx];simpa using A
     rw[←h1];congr 1
    ·cases h
   ·cases h
theorem sM (q:Tok P T):∀(fs:List (Nat×TypeId)) (fields:List Field) (places:List (Nat×Nat)),fs=fields.map (fun f=>(f.offset,f.type))→kU T fs=some places→
  fields.mapM (fun f=>(P.info? f.type).map fun i=>(f.offset,i.size))=some places
 | _,[],places,h,hp=>by simp at h;subst h;simp[kU] at hp;subst hp;rfl
 | _,f::fields,places,h,hp=>by
  simp only[An] at h;subst h;simp only[kU] at hp;split at hp
  ·rename_i i hi;split at hp
   ·rename_i l hl;cases hp;have r:=sM q _ fields l rfl hl;have hsz:=(q.get hi).info;simp only[List.mapM_cons,r];cases hq:P.info? f.type with
    | none=>simp[hq] at hsz
    | some inf=>
     simp[hq] at hsz;simp[hsz]
   ·cases hp
  ·cases hp
theorem aPt {t:TypeId}{i:TI}{fs:List (Nat×TypeId)}{places:List (Nat×Nat)}{parts:Array (Nat×Operand)}{ps:List (Nat×List R)}{out:List R}(r:Tok P T) (ho:o.op=.build t parts) (E:o.dst=some d) (u:d<n) (hi:T[t]?=some (some i)) (I:i.k=.st fs)
  (y:kU T fs=some places) (A:oX st parts.toList=some ps) (J:aEr places (i.zero.map R.c) ps=some out):Step P n o st ⟨fB parts.toList,[]⟩ ⟨some (d,some (aSw out)),[]⟩:=by
 refine Step.value E u fun st' ha G S μ a w hs=>?_
 obtain⟨vs,h1,h2,M⟩:=aEe hs _ _ A ha.1;obtain⟨fields,hu,B⟩:=(r.get hi).struct I;obtain⟨inf,dd,z,g1,g2,g3,g4,g5,g6,g7,g8⟩:=(r.get hi).ex;obtain⟨q,O,U⟩:=aIk (S:=S) (μ:=μ) (H:=st'.h) ps vs (i.zero.map R.c) z.cells out J (jG g7).toR h2 M;refine⟨.agg q,?_,?_⟩
 ·have hb:P.built t (parts.map fun(i,x)=>(i,a.eval x)).toList=some q:=by
   unfold Program.built;simp only[g1,hu,g6,sM r fs fields.toList places B y];rw[←O,←h1];simp
  simp only[execOp,ho,ε,run_build w t _ q hb,θ,τ]
 ·have:=aDp U;simpa using this
theorem aPq {t U:TypeId}{i q:TI}{fs:List (Nat×TypeId)}{f r:Nat}{x:Operand}{v y:V}{rs:List R}(A:Tok P T) (ho:o.op=.field t x f) (hd:o.dst=some d) (Y:d<n) (hi:T[t]?=some (some i)) (hk:i.k=.st fs) (J:fs[f]?=some (r,U)) (u:T[U]?=some (some q))
  (hx:opv st x=some v) (aa:(match v with | .pa _=>true | .ma _=>true | _=>false)=true) (hc:fZ v=some rs) (hl:Nat.ble (r+q.size) rs.length=true) (hy:jV q ((rs.drop r).take q.size)=some y):Step P n o st ⟨opr x,[]⟩ ⟨some (d,some y),[]⟩:=by
 refine Step.value hd Y fun st' ha G S μ a w hs=>?_
 have B:=aI hs hx ha.1;have hrel:=dG B hc;have M:∃cs,a.eval x=.agg cs:=by
  cases v<;>simp only[aL] at B<;>simp at aa
  ·obtain⟨vs,h,_⟩:=B;exact⟨_,h⟩
  ·obtain⟨vs,h,_⟩:=B;exact⟨_,h⟩
 obtain⟨cs,E⟩:=M;rw[E] at hrel;simp only[Value.cells] at hrel;have ab:=hrel.length;have hl':=Ao hl;simp only[Ay] at ab;obtain⟨fields,h1,h2⟩:=(A.get hi).struct hk;rw[h2] at J;simp only[List.getElem?_map,Option.map_eq_some_iff,Array.getElem?_toList] at J;obtain⟨fl,h3,h4⟩:=J;cases h4;have O:=kY ((hrel.drop fl.offset).take q.size) hy;refine⟨_,?_,O⟩;simp only[execOp,ho,E,ε,Instr.field,Ag h1 w,θ,h3,asAgg,τ,part,(A.get u).agg_run w];cases ac:q.k.agg with
 | true=>
  simp only[Ce,ε,(A.get u).size_run w,θ,τ];congr 3;have:(cs.extract fl.offset (fl.offset+q.size)).toList=(cs.toList.drop fl.offset).take q.size:=by simp
  rw[←this]
 | false=>
  have ad:=(A.get u).one ac;simp only[Av,Bn];have I:fl.offset<cs.size:=by omega
  have he:cs[fl.offset]?=some cs[fl.offset]:=by simp[I]
  rw[he];simp only[τ,θ];congr 2;rw[ad,List.take_one,List.head?_drop];simp[I]
end
inductive Cle:C→C→Prop
 | refl {x}:Cle x x
 | nl {es}:Cle .nl (.sl es [])
 | sn {es l}:Cle (.sn es l) (.sl es l)
 | sg {te es l}:Cle (.sg te es l) (.sl es l)
theorem Cle.rep {S:Sto}{x y:C}{v:Value}(h:Cle x y) (k:Rep S x v):Rep S y v:=by
 cases h with
 | refl=>exact k
 | sg=>
  simp only[Rep] at k ⊢;obtain⟨a,len,cap,h1,h2,r,u,q⟩:=k;rcases q with⟨rfl,q,A⟩ | ⟨b,o,rfl,A,_⟩
  ·refine⟨none,len,cap,h1,h2,r,u,fun _=>⟨q,A⟩,by simp,0,0,by simp,?_⟩;have:(_:List (List C)).length=0:=h2.symm.trans q;rw[Au this];simp[bC]
  ·exact⟨some ⟨b,o,none⟩,len,cap,h1,h2,r,u,by simp,fun B e _=>by cases e;rfl,b,o,fun B e=>by cases e;exact⟨rfl,rfl⟩,A⟩
 | nl=>
  simp only[Rep] at k ⊢;exact⟨none,0,0,k,by simp,le_refl _,Ae _,fun _=>⟨rfl,rfl⟩,by simp,0,0,by simp,by simp[bC]⟩
 | sn=>
  simp only[Rep] at k ⊢;obtain⟨b,o,sp,len,cap,h1,h2,r,u,E,q⟩:=k;exact⟨some ⟨b,o,sp⟩,len,cap,h1,h2,r,u,by simp,by rintro B ⟨⟩;exact E,b,o,by rintro B ⟨⟩;exact⟨rfl,rfl⟩,q⟩
inductive PureL (h:c8):List Nat→List R→List C→Prop
 | nil:PureL h [] [] []
 | c {ids rs cs x y}:Cle x y→PureL h ids rs cs→PureL h ids (.c x::rs) (y::cs)
 | hs {ids rs cs id off len sz te es elems e}:h id=some (.arr te es elems 2)→sz=elems.length→e=(elems.drop off).take len→PureL h ids rs cs→PureL h (id::ids) (.hs id off len sz::rs) (.sl es e::cs)
 | any {ids rs cs r}:PureL h ids rs cs→PureL h ids (r::rs) (.any::cs)
 | fn {ids rs cs f}:PureL h ids rs cs→PureL h ids (.clo f []::rs) (.fn f::cs)
 | ras {ids ids' ids0 rs cs n es l fl rows}:ids0=ids'++ids→PureL h ids' l fl→fl=rows.flatten→(∀r∈rows,r.length=es)→rows.length=n→PureL h ids rs cs→PureL h ids0 (.ras n es l::rs) (.sl es rows::cs)
theorem PureL.of_pure {h:c8}:∀{cs:List C},PureL h [] (cs.map R.c) cs
 | []=>.nil
 | _::_=>.c .refl PureL.of_pure
def aT0:List R→List C
 | []=>[]
 | .c x::l=>x::aT0 l
 | .clo f []::l=>.fn f::aT0 l
 | _::l=>.any::aT0 l
theorem PureL.ofA {h:c8}:∀{rs:List R},PureL h [] rs (aT0 rs)
 | []=>.nil
 | .c _::_=>.c .refl .ofA
 | .hs ..::_=>.any .ofA
 | .tl ..::_=>.any .ofA
 | .vp ..::_=>.any .ofA
 | .ep ..::_=>.any .ofA
 | .mr ..::_=>.any .ofA
 | .clo _ []::_=>.fn .ofA
 | .clo _ (_::_)::_=>.any .ofA
 | .mth ..::_=>.any .ofA
 | .yl ..::_=>.any .ofA
 | .ra ..::_=>.any .ofA
 | .rp ..::_=>.any .ofA
 | .ras ..::_=>.any .ofA
 | .pas ..::_=>.any .ofA
theorem aUq {S:Sto}{μ:Mu}{H:c8}{w:World}{id off len sz te es:Nat}{elems:List (List C)}{v:Value}(hO:kF S μ H w id (.arr te es elems 2)) (hh:H id=some (.arr te es elems 2)) (hsz:sz=elems.length)
  (q:aV S μ H (.hs id off len sz) v):Rep S (.sl es ((elems.drop off).take len)) v:=by
 simp only[aV] at q;obtain⟨_,q | ⟨E,I,elems',J,h1,h2,y⟩⟩:=q
 ·rw[hh] at q;cases q
 rw[hh] at h1;cases h1;obtain⟨M,⟨u,r,A⟩ | ⟨b,base,cap,u,r⟩⟩:=y hsz
 ·subst r;simp only[Rep];exact⟨none,0,0,A,by simp,le_refl _,Ae _,fun _=>⟨rfl,rfl⟩,by simp,0,0,by simp,by simp[bC]⟩
 ·obtain⟨g0,vs,g1,g2,g3,g4,g5,g6,g7,g8⟩:=hO.arr u;simp only[Rep];have hlen:((elems.drop off).take len).length=len:=by simp;omega
  refine⟨_,len,cap-off,r,hlen.symm,by omega,le_trans (Nat.sub_le _ _) g4.1,by simp,by rintro B ⟨⟩;exact fun _=>rfl,b,base+off*es,by rintro B ⟨⟩;exact⟨rfl,rfl⟩,?_⟩;have:=bC.of_flat g0 g5 (g8 rfl);exact(this.drop off).take len
theorem PureL.rel {S:Sto}{μ:Mu}{H H0:c8}{w:World}:∀{ids:List Nat}{rs:List R}{cs:List C}{vs:List Value},PureL H0 ids rs cs→(∀i∈ids,H i=H0 i)→(∀id o,H id=some o→kF S μ H w id o)→aM S μ H rs vs→bZ S cs vs:=by
 intro ids rs cs vs hp
 induction hp generalizing vs with
 | nil=>intro _ _ h;simp only[aM] at h;subst h;simp[bZ]
 | c hc _ q=>
  intro hi hO h;simp only[aM] at h;obtain⟨v,vs',rfl,h1,h2⟩:=h;simp only[aV] at h1;simp only[bZ];exact⟨v,vs',rfl,hc.rep h1,q hi hO h2⟩
 | @ras ids ids' ids0 rs cs n es l fl rows r _ u y hn _ A q=>
  subst r;intro hi hO h;simp only[aM] at h;obtain⟨v,vs',rfl,h1,h2⟩:=h;simp only[aV] at h1;simp only[bZ];refine⟨v,vs',rfl,?_,q (fun i hh=>hi i (by simp[hh])) hO h2⟩;obtain⟨a,cap,g1,g2,g3,g4,g5,g6,b,o,g7,us,g8,g9⟩:=h1;have g10:=A (fun i hh=>hi i (by simp[hh])) hO g8;subst u;simp only[Rep];exact⟨a,n,cap,g1,hn.symm,g3,g4,g5,fun E e _=>g6 E e,b,o,g7,bC.of_flat y g10 g9⟩
 | any _ q=>
  intro hi hO h;simp only[aM] at h;obtain⟨v,vs',rfl,h1,h2⟩:=h;simp only[bZ];exact⟨v,vs',rfl,by simp only[Rep];exact h1.one,q hi hO h2⟩
 | fn _ q=>
  intro hi hO h;simp only[aM] at h;obtain⟨v,vs',rfl,h1,h2⟩:=h;simp only[aV,aM] at h1;obtain⟨us,rfl,rfl⟩:=h1;simp only[bZ];exact⟨_,vs',rfl,by simp only[Rep],q hi hO h2⟩
 | @hs ids rs cs id off len sz te es elems e he hsz B _ q=>
  intro hi hO h;simp only[aM] at h;obtain⟨v,vs',rfl,h1,h2⟩:=h;simp only[bZ];have hh:H id=some (.arr te es elems 2):=by rw[hi id (by simp),he]
  exact⟨v,vs',rfl,by rw[B];exact aUq (hO id _ hh) hh hsz h1,q (fun i h=>hi i (by simp[h])) hO h2⟩
inductive RowsV (st:St) (es:Nat):Nat→List Nat→List (Nat×Operand)→List (List C)→Prop
 | nil {k}:RowsV st es k [] [] []
 | cons {k ids ids' x ps v rs cs rows}:opv st x=some v→fZ v=some rs→PureL st.h ids rs cs→Nat.beq rs.length es=true→RowsV st es (k+1) ids' ps rows→RowsV st es k (ids++ids') ((k,x)::ps) (cs::rows)
section
variable {P:Program}{n:Nat}{o:Oper}{st:St}{d:Nat}{T:TT}
theorem aDz {G:Ctx}{S:Sto}{μ:Mu}{st':St}{a:Act}{w:World}(hs:Sim G n S μ st' a w) {es:Nat}:∀{k:Nat}{ids:List Nat}{ps:List (Nat×Operand)}{rows:List (List C)},RowsV st es k ids ps rows→(∀t∈fB ps,st'.e t=st.e t)→(∀i∈ids,st'.h i=st.h i)→
  ∀(cells:Array Value),cells.size=(k+ps.length)*es→∃out:Array Value,Instr.fill (fun i=>some (i*es,es)) cells (ps.map fun(i,x)=>(i,a.eval x))=some out∧out.size=cells.size∧
   ∃us,bZ S rows.flatten us∧out.toList=cells.toList.take (k*es)++us∧(∀r∈rows,r.length=es):=by
 intro k ids ps rows h
 induction h with
 | nil=>
  intro _ _ cells hc;refine⟨cells,rfl,rfl,[],by simp[bZ],?_,by simp⟩;rw[Bm,A0];simp at hc;simp[hc]
 | @cons k ids ids' x ps v rs cs rows J hc hp hl _ M=>
  intro ha hi cells hsz;have aa:=δ hl;have hrel:=dG (aI hs J fun t ht=>ha t (by simp[fB,ht])) hc;have q:=hp.rel (fun i h=>hi i (by simp[h])) hs.inv.obj hrel;have E:=hrel.length;simp only[Ay] at E;simp only[κ] at hsz;have ab:(k+(ps.length+1))*es=k*es+es+ps.length*es:=by
   rw[A7,A7];omega
  have A:=nD (k*es) (a.eval x).cells.toList 0 cells (by simp only[Ay];omega);have y:(bR cells.toList (k*es) (a.eval x).cells.toList).length=cells.size:=by
   unfold bR;simp;omega
  obtain⟨out,h1,h2,us,O,U,Y⟩:=M (fun t ht=>ha t (by simp[fB,ht])) (fun i h=>hi i (by simp[h])) ⟨bR cells.toList (k*es) (a.eval x).cells.toList⟩ (by
   simp only[size_toArray,y,hsz];congr 1
   omega)
  refine⟨out,?_,by rw[h2];simpa using y,(a.eval x).cells.toList++us,?_,?_,?_⟩
  ·simp only[An,Instr.fill];have u:((a.eval x).cells.size≠es || decide (k*es+(a.eval x).cells.size>cells.size))=false:=by
    simp only[Bool.or_eq_false_iff,decide_eq_false_iff_not];exact⟨by simp;omega,by omega⟩
   simp only[u,Av,Bn];have I:((a.eval x).cells.zipIdx.foldl (fun cs (x:Value×Nat)=>cs.setIfInBounds (k*es+x.2) x.1) cells)=⟨bR cells.toList (k*es) (a.eval x).cells.toList⟩:=by
    rw[←Array.foldl_toList,Array.toList_zipIdx];simpa using A
   rw[←h1];congr 1
  ·rw[Ba];exact q.append O
  ·rw[U];have:(bR cells.toList (k*es) (a.eval x).cells.toList).take ((k+1)*es)=cells.toList.take (k*es)++(a.eval x).cells.toList:=by
    unfold bR;apply take_left';simp;rw[A7];omega
   show(bR cells.toList (k*es) (a.eval x).cells.toList).take ((k+1)*es)++us=_;rw[this,Aj]
  ·intro r B;rcases Aq.1 B with rfl | B
   ·have:=q.length;simp only[Ay] at this;omega
   ·exact Y r B
theorem RowsV.lengths {es k:Nat}{ids:List Nat}{ps:List (Nat×Operand)}{rows:List (List C)}(h:RowsV st es k ids ps rows):rows.length=ps.length:=by
 induction h with
 | nil=>rfl
 | cons _ _ _ _ _ q=>simp[q]
theorem aGr {t e:TypeId}{i q:TI}{len:Nat}{parts:Array (Nat×Operand)}{ids:List Nat}{rows:List (List C)}(id:Nat) (E:Tok P T) (ho:o.op=.buildSlice t len parts) (hd:o.dst=some d) (ab:d<n) (hi:T[t]?=some (some i)) (hk:i.k=.sl e) (A:T[e]?=some (some q))
  (B:RowsV st q.size 0 ids parts.toList rows) (hlen:Nat.beq len parts.size=true) (I:Nat.ble (len*q.size) 16777216=true) (Y:Nat.ble len 16777216=true) (hid:st.h id=none):
  Step P n o st ⟨fB parts.toList,id::ids⟩ ⟨some (d,some (.one (.hs id 0 len len))),[(id,some (.arr e q.size rows 0))]⟩:=by
 refine Step.new hd ab hid (by simp) fun st' ha hid' G S μ a w hs=>?_
 have O:=δ hlen;have hsm:=Ao I;obtain⟨z,hz,hzr,_⟩:=(E.get A).zero_run;have U:=(hzr S).length;rw[(E.get A).len] at U;simp only[Ay] at U;have hrl:=B.lengths;simp only[Ay] at hrl;have key:∀(cells:Array Value),cells.size=len*q.size→∃out:Array Value,Instr.fill (fun i=>some (i*q.size,q.size)) cells (parts.map fun(i,x)=>(i,a.eval x)).toList=some out∧out.size=len*q.size∧bZ S rows.flatten out.toList∧(∀r∈rows,r.length=q.size):=by
  intro cells hc;obtain⟨out,h1,h2,us,y,u,h5⟩:=aDz hs B ha.1 (fun i h=>ha.2 i (by simp[h])) cells (by rw[hc,O];simp);refine⟨out,by rw[←h1];simp,by rw[h2,hc],?_,h5⟩;simp at u;rw[u];exact y
 have aa:∃out:Array Value,(Instr.buildSlice t len (parts.map fun(i,x)=>(i,a.eval x))).run P w=.ok (.slice (some ⟨w.heap.size,0,none⟩) len len) (w.alloc (.cells out e))∧out.size=len*q.size∧bZ S rows.flatten out.toList∧(∀r∈rows,r.length=q.size):=by
  by_cases h0:len*q.size=0
  ·obtain⟨out,h1,h2,y,u⟩:=key ((Array.range (len*q.size)).map ((#[]:Array Value)[· %(#[]:Array Value).size]!)) (by simp);refine⟨out,?_,h2,y,u⟩;have J:¬len*q.size>2^24:=by omega
   simp only[Instr.buildSlice,ε,Ag ((E.get hi).slice hk) w,θ,(E.get A).size_run w];rw[ζ J,ξ h0];simp only[ε,θ,τ,h1,gI]
  ·obtain⟨out,h1,h2,y,u⟩:=key ((Array.range (len*q.size)).map (z.cells[· %z.cells.size]!)) (by simp);refine⟨out,?_,h2,y,u⟩;have J:¬len*q.size>2^24:=by omega
   simp only[Instr.buildSlice,ε,Ag ((E.get hi).slice hk) w,θ,(E.get A).size_run w];rw[ζ J,ζ h0];simp only[ε,hz w,θ,τ,h1,gI]
 obtain⟨out,h1,h2,y,u⟩:=aa;have hlm:len≤maxLen:=by
  have:=Ao Y;unfold maxLen;omega
 refine⟨_,_,.slice (some ⟨w.heap.size,0,none⟩) len len,(0,len),?_,WChg.alloc w (.cells out e),?_,?_⟩
 ·simp only[execOp,ho,ε,h1,θ,τ]
 ·have M:rows.length=len:=by omega
  refine⟨u,.inr ⟨w.heap.size,0,len,out.toList,aH _ _ _,B2 w _,by simp[h2],by omega,⟨?_,r4 hs.inv⟩,?_,fun _ o _=>fR hs.inv o,fun o _=>fR hs.inv o,fun e=>by cases e⟩⟩
  ·exact hlm
  ·simp only[B8];rw[A0 (by simp[h2,M])];exact y
 ·simp only[aL,aV];have M:rows.length=len:=by omega
  exact⟨⟨_,_,_,rfl⟩,.inr ⟨e,q.size,rows,0,aH _ _ _,by omega,fun _=>⟨by omega,.inr ⟨w.heap.size,0,len,aH _ _ _,by simp⟩⟩⟩⟩
end
inductive Src (st:St) (es:Nat):List Nat→V→List (List C)→Prop
 | hs {id off len sz te elems fz rows}:st.h id=some (.arr te es elems fz)→sz=elems.length→rows=(elems.drop off).take len→Src st es [id] (.one (.hs id off len sz)) rows
 | all {id sz te elems fz}:st.h id=some (.arr te es elems fz)→sz=elems.length→Src st es [id] (.one (.hs id 0 sz sz)) elems
 | sl {l}:Src st es [] (.one (.c (.sl es l))) l
 | nl:Src st es [] (.one (.c .nl)) []
 | sn {l}:Src st es [] (.one (.c (.sn es l))) l
theorem xA {α:Type}{es:Nat}:∀{l:List (List α)},(∀r∈l,r.length=es)→∀k:Nat,(l.take k).flatten=l.flatten.take (k*es)
 | [],_,k=>by simp
 | x::xs,hl,0=>by simp
 | x::xs,hl,k+1=>by
  have hx:=hl x (by simp);have q:=xA (l:=xs) (fun r u=>hl r (by simp[u])) k;rw[As,Ba,Ba,q,List.take_append,A0 (l:=x) (by rw[hx,A7];omega)];rw[show(k+1)*es-x.length=k*es by rw[hx,A7];omega]
theorem xC {α:Type}{es:Nat}:∀{l:List (List α)},(∀r∈l,r.length=es)→∀k:Nat,(l.drop k).flatten=l.flatten.drop (k*es)
 | [],_,k=>by simp
 | x::xs,hl,0=>by simp
 | x::xs,hl,k+1=>by
  have hx:=hl x (by simp);have q:=xC (l:=xs) (fun r u=>hl r (by simp[u])) k;rw[Cg,Ba,q,drop_append,drop_of_length_le (l:=x) (by rw[hx,A7];omega),Az];rw[show(k+1)*es-x.length=k*es by rw[hx,A7];omega]
theorem bC.flat {S:Sto}{es b:Nat}:∀{l:List (List C)}{o:Nat},bC S es b l o→∃vs,bZ S l.flatten vs∧eK S b o vs∧∀r∈l,r.length=es
 | [],_,_=>⟨[],by simp[bZ],fun i v h=>by simp at h,by simp⟩
 | r::rs,o,h=>by
  simp only[bC] at h;obtain⟨h1,⟨vs,h2,u⟩,y⟩:=h;obtain⟨us,A,B,E⟩:=bC.flat y;have hl:=h2.length;refine⟨vs++us,by rw[Ba];exact h2.append A,fun i v hi=>?_,?_⟩
  ·rw[B3] at hi;split at hi
   ·exact u i v hi
   ·have:=B _ v hi;rwa [show o+es+(i-vs.length)=o+i by omega] at this
  ·intro q hq;rcases Aq.1 hq with rfl | hq
   ·exact h1
   ·exact E q hq
theorem Src.rel {G:Ctx}{n:Nat}{S:Sto}{μ:Mu}{st st':St}{a:Act}{w:World}{es:Nat}{ids:List Nat}{y:V}{rows:List (List C)}{v:Value}(hs:Sim G n S μ st' a w) (h:Src st es ids y rows) (hi:∀i∈ids,st'.h i=st.h i) (q:aL S μ st'.h y v):
  ∃B c news,v=.slice B rows.length c∧bZ S rows.flatten news∧(∀r∈rows,r.length=es)∧(B=none→rows=[])∧∀x,B=some x→∀j u,news[j]?=some u→w.cell? (x.add j)=some u:=by
 have J:∀{id off len sz te elems fz rows},st.h id=some (.arr te es elems fz)→sz=elems.length→rows=(elems.drop off).take len→(∀i∈[id],st'.h i=st.h i)→aL S μ st'.h (.one (.hs id off len sz)) v→
   ∃B c news,v=.slice B rows.length c∧bZ S rows.flatten news∧(∀r∈rows,r.length=es)∧(B=none→rows=[])∧∀x,B=some x→∀j u,news[j]?=some u→w.cell? (x.add j)=some u:=by
  intro id off len sz te elems fz rows he hsz E hi q;have hh:st'.h id=some (.arr te es elems fz):=by rw[hi id (by simp),he]
  simp only[aL,aV] at q;obtain⟨_,q | ⟨te',es',elems',fz',h1,h2,M⟩⟩:=q
  ·rw[hh] at q;cases q
  rw[hh] at h1;cases h1;obtain⟨h4,⟨Y,O,h7⟩ | ⟨b,base,cap,Y,O⟩⟩:=M hsz
  ·subst O;simp at E;subst E;exact⟨none,0,[],h7,by simp[bZ],by simp,fun _=>rfl,by simp⟩
  ·obtain⟨g0,vs,g1,g2,g3,g4,g5,g6,g7,g8⟩:=(hs.inv.obj id _ hh).arr Y;have hrl:rows.length=len:=by rw[E];simp;omega
   have hfl:rows.flatten=(elems.flatten.drop (off*es)).take (len*es):=by
    rw[E,xA (fun r E=>g0 r (List.mem_of_mem_drop E)),xC g0]
   refine⟨_,cap-off,_,by rw[hrl];exact O,by rw[hfl];exact(g5.drop (off*es)).take (len*es),fun r hr'=>g0 r (List.mem_of_mem_drop (By (E▸hr'))),by simp,?_⟩;rintro x ⟨⟩ j u A;rw[Addr.add_mid,cell_of_row w b _ ⟨vs⟩ te (0,0) g1];rw[Al] at A;split at A
   ·rw[Am,Al] at A;split at A
    ·rw[Am] at A;simpa [add_assoc] using A
    ·cases A
   ·cases A
 cases h with
 | hs he hsz E=>exact J he hsz E hi q
 | all he hsz=>
  subst hsz;exact J he rfl (by simp) hi q
 | sl=>
  simp only[aL,aV,Rep] at q;obtain⟨B,len,cap,h1,h2,M,h4,Y,O,b,off,h7,h8⟩:=q;obtain⟨vs,I,q2,q3⟩:=bC.flat h8;refine⟨B,cap,vs,by rw[h1,h2],I,q3,fun e=>Au (by rw[←h2];exact(Y e).1),?_⟩;rintro x rfl j u A;obtain⟨h9,h10⟩:=h7 x rfl
  have aa:=O x rfl (by
   rintro rfl;have U:=Au (show _=0 from Nat.le_zero.1 (h2▸M));rw[U] at I;simp[bZ] at I;subst I
   simp at A)
  have hx:x=⟨b,off,none⟩:=by cases x;simp_all
  subst hx;rw[Addr.add_mid];exact hs.inv.holds.cell (q2 j u A)
 | nl=>
  simp only[aL,aV,Rep] at q;exact⟨none,0,[],q,by simp[bZ],by simp,fun _=>rfl,by simp⟩
 | sn=>
  simp only[aL,aV,Rep] at q;obtain⟨b,off,sp,len,cap,h1,h2,M,h4,hsp,h8⟩:=q;obtain⟨vs,I,q2,q3⟩:=bC.flat h8;refine⟨some ⟨b,off,sp⟩,cap,vs,by rw[h1,h2],I,q3,by simp,?_⟩;rintro x ⟨⟩ j u A
  have aa:=hsp (by
   rintro rfl;have U:=Au (show _=0 from Nat.le_zero.1 (h2▸M));rw[U] at I;simp[bZ] at I;subst I
   simp at A)
  subst aa;rw[Addr.add_mid];exact hs.inv.holds.cell (q2 j u A)
section
variable {P:Program}{n:Nat}{o:Oper}{st:St}{d:Nat}{T:TT}
theorem kA (w:World) (t ty e:TypeId) (i:TypeInfo) (ht:P.underlying t=some (.slice e)) (hi:P.info? e=some i)
  (g base q r:Nat) (cur:Array Value) (I:w.heap[g]?=some (.cells cur e (0,0)))
  (a:Addr) (m c:Nat) (news:List Value) (hl:news.length=m*i.size) (y:∀j u,news[j]?=some u→w.cell? (a.add j)=some u) (h1:∀u∈news,u.oneCell'=true)
  (A:q+m≤r) (E:base+q*i.size+news.length≤cur.size):
  (Builtin.append_ #[t,t] ty #[.slice (some ⟨g,base,none⟩) q r,.slice (some a) m c]).run P w=
   .ok (.slice (some ⟨g,base,none⟩) (q+m) r) (w.setRow g (cur.toList.take (base+q*i.size)++news++cur.toList.drop (base+q*i.size+news.length)).toArray):=by
 have J:=run_firstCells_some (P:=P) w i.size m a m c news hl y;have B:=run_storeCells_at P g (base+q*i.size) e news 0 cur w I (by simpa using E) h1;simp only[Cc] at B;simp[Builtin.append_,Ag ht,sizeOf,typeInfo,hi,Builtin.lenOf,A,J,Addr.add_mid,B]
theorem kM (w:World) (t ty e:TypeId) (i:TypeInfo) (ht:P.underlying t=some (.slice e)) (hi:P.info? e=some i) (s:Option Addr) (y:Option Addr) (q r c:Nat) (u:q≤r):
  (Builtin.append_ #[t,t] ty #[.slice s q r,.slice y 0 c]).run P w=.ok (.slice s q r) w:=by
 cases s<;>cases y<;>simp[Builtin.append_,Ag ht,sizeOf,typeInfo,hi,Builtin.lenOf,u,Builtin.firstCells,loadCells,loadCellsFrom,storeCells]
theorem eM {x y:Operand}{t:TypeId}{a:Act}{w w':World}{u v r:Value}(ho:o.op=.call { callee:=.builtin .append,args:= #[x,y],argTypes:= #[t,t] }) (hx:a.eval x=u) (hy:a.eval y=v) (q:(Builtin.append_ #[t,t] o.type #[u,v]).run P w=.ok r w'):
  (execOp a.eval o).run P w=.ok (.value r) w':=by
 simp only[execOp,ho,resolve,map_toArray,An,Bz,hx,hy,ε,τ,θ,invoke,builtin,q]
theorem aIb {y:V}{id te es fz:Nat}{elems elems':List (List C)}(hd:o.dst=some d) (J:d<n) (hlen:elems.length≤elems'.length) (r:Nat) {st':St}{G:Ctx}{S:Sto}{μ:Mu}{a:Act}{w:World}{K:Act→World→Prop}{Q:Exit→Act→World→Prop}
    (A:st'.h id=some (.arr te es elems fz)) (hs:Sim G n S μ st' a w) (Y:∀S' μ' a' w',Sim G n S' μ' (Eff.apply ⟨some (d,some y),[(id,some (.arr te es elems' r))]⟩ st') a' w'→K a' w')
    (h:∃w' v,(execOp a.eval o).run P w=.ok (.value v) w'∧
      ((w'=w∧elems'=elems∧(r=fz∨r=1)∧aL S μ st'.h y v)∨
       (elems.length<elems'.length∧∃b M c,(w.heap.size≤b∨∃c',μ id=some (b,c'))∧WChg w w' b M∧kF S (upd μ id (some (b,c))) (upd st'.h id (some (.arr te es elems' r))) w' id (.arr te es elems' r)∧
         (∀o v,S.cell b o=some v→∃vs t fr,M=.cells vs t fr∧vs[o]?=some v)∧(∀m,S.mapo b=some m→w.heap.size≤b)∧aL S (upd μ id (some (b,c))) (upd st'.h id (some (.arr te es elems' r))) y v))):
    ∀ro,o.wpIn (Wd ro) 0 P a w K Q:=by
  obtain⟨w',v,hr,I⟩:=h;refine fun ro=>eS hr ?_
  rw[hd];rcases I with⟨rfl,rfl,hfz,O⟩ | ⟨hlt,b,M,c,hb,hw,hO,hS,hSm,O⟩
  · have B:Evolve S μ st'.h S μ (upd st'.h id (some (.arr te es elems' r))):=⟨S.le_refl,fun j x u=>by
      by_cases q:j=id
      · subst q
        rw[A] at u;cases u;exact⟨_,aH _ _ _,by simp[AObj.succ]⟩
      · exact⟨x,by rw[bJ _ _ _ q];exact u,x.succ_refl rfl⟩⟩
    have hi:Inv G S μ (upd st'.h id (some (.arr te es elems' r))) w':=by
      obtain⟨h1,h2,h3,h4,h5,h6,h7,h8,h9⟩:=hs.inv;have hold:∀j x,upd st'.h id (some (.arr te es elems' r)) j=some x→∃x',st'.h j=some x':=fun j x u=>by
        by_cases q:j=id
        · subst q;exact⟨_,A⟩
        · rw[bJ _ _ _ q] at u;exact⟨_,u⟩
      refine⟨h1,fun j x u=>?_,fun i j x x' b c c' hi u hm hm'=>?_,fun i x b c hi hm=>?_,h5,h6,h7,h8.trans B,h9⟩
      · by_cases q:j=id
        · subst q
          rw[aH] at u;cases u;have hO:=(h2 j _ A).evolve B rfl fun _ _ _=>⟨rfl,fun _=>rfl,rfl⟩
          rcases hfz with rfl | rfl
          · exact hO
          · obtain⟨g0,g1 | ⟨b,base,cap,vs,g1,g2,g3,g4,g5,g6,g7,g8,g9⟩⟩:=hO
            · exact⟨g0,.inl g1⟩
            · exact⟨g0,.inr ⟨b,base,cap,vs,g1,g2,g3,g4,g5,g6,(fun e=>by cases e),g8,(fun e=>by cases e)⟩⟩
        · rw[bJ _ _ _ q] at u
          exact(h2 j x u).evolve B rfl fun _ _ _=>⟨rfl,fun _=>rfl,rfl⟩
      · obtain⟨_,E⟩:=hold _ _ hi
        obtain⟨_,hj'⟩:=hold _ _ u;exact h3 i j _ _ b c c' E hj' hm hm'
      · obtain⟨_,E⟩:=hold _ _ hi
        exact h4 i _ b c E hm
    have:=hs.put hi B J (x:=some y) (v:=v) (fun z U=>by cases U;exact aL.evolve B _ _ O);refine Y S μ _ _ ?_;unfold Eff.apply;rw[c7];exact this
  · have B:Evolve S μ st'.h S (upd μ id (some (b,c))) (upd st'.h id (some (.arr te es elems' r))):=⟨S.le_refl,fun j x u=>by
      by_cases q:j=id
      · subst q
        rw[A] at u;cases u;exact⟨_,aH _ _ _,by simp only[AObj.succ,true_and];exact⟨hlen,fun e=>by omega⟩⟩
      · exact⟨x,by rw[bJ _ _ _ q];exact u,x.succ_refl (bJ _ _ _ q)⟩⟩
    have hi:=hs.inv.chg (id:=id) (cap:=c) (ao:=.arr te es elems' r) hw (hb.imp (fun h=>h) fun⟨c',h⟩=>⟨_,c',A,h⟩) B hO hS hSm;have:=hs.put hi B J (x:=some y) (v:=v) (fun z U=>by cases U;exact O);refine Y S (upd μ id (some (b,c))) _ _ ?_;unfold Eff.apply;rw[c7];exact this
theorem Step.grow {rd:Rd}{y:V}{id te es fz:Nat}{elems elems':List (List C)}(E:o.dst=some d) (u:d<n) (hid:st.h id=some (.arr te es elems fz)) (A:id∈rd.h) (hlen:elems.length≤elems'.length) (q:Nat)
    (h:∀st',fL rd st st'→st'.h id=some (.arr te es elems fz)→∀G S μ a w,Sim G n S μ st' a w→∃w' v,(execOp a.eval o).run P w=.ok (.value v) w'∧
      ((w'=w∧elems'=elems∧(q=fz∨q=1)∧aL S μ st'.h y v)∨
       (elems.length<elems'.length∧∃b B c,(w.heap.size≤b∨∃c',μ id=some (b,c'))∧WChg w w' b B∧kF S (upd μ id (some (b,c))) (upd st'.h id (some (.arr te es elems' q))) w' id (.arr te es elems' q)∧
         (∀o v,S.cell b o=some v→∃vs t I,B=.cells vs t I∧vs[o]?=some v)∧(∀m,S.mapo b=some m→w.heap.size≤b)∧aL S (upd μ id (some (b,c))) (upd st'.h id (some (.arr te es elems' q))) y v))):
    Step P n o st rd ⟨some (d,some y),[(id,some (.arr te es elems' q))]⟩:=by
  intro st' ha G S μ a w K Q hs J;have r:st'.h id=some (.arr te es elems fz):=by rw[ha.2 id A,hid]
  exact aIb E u hlen q r hs J (h st' ha r G S μ a w hs)
theorem yE {t e:TypeId}{i q:TI}{x y:Operand}{id sz fz:Nat}{elems rows:List (List C)}{vy:V}{ids:List Nat}{st':St}{G:Ctx}{S:Sto}{μ:Mu}{a:Act}{w:World}(hT:Tok P T) (ho:o.op=.call { callee:=.builtin .append,args:= #[x,y],argTypes:= #[t,t] })
    (hi:T[t]?=some (some i)) (hk:i.k=.sl e) (hei:T[e]?=some (some q)) (hes:Nat.ble 1 q.size=true) (heb:Nat.ble 1 q.bytes=true)
    (hsz:sz=elems.length) (hroom:(elems.length+rows.length)*q.bytes≤140737488355328) (M:st'.h id=some (.arr e q.size elems fz)) (hs:Sim G n S μ st' a w)
    (hvx:aL S μ st'.h (.one (.hs id 0 sz sz)) (a.eval x)) (hvy:aL S μ st'.h vy (a.eval y)) (hsrc:Src st q.size ids vy rows) (hsi:∀i∈ids,st'.h i=st.h i):
    ∃w' v,(execOp a.eval o).run P w=.ok (.value v) w'∧
      ((w'=w∧elems++rows=elems∧((if fz=0 then 0 else 1)=fz∨(if fz=0 then 0 else 1)=1)∧aL S μ st'.h (.one (.hs id 0 (elems.length+rows.length) (elems.length+rows.length))) v)∨
       (elems.length<(elems++rows).length∧∃b bo c,(w.heap.size≤b∨∃c',μ id=some (b,c'))∧WChg w w' b bo∧kF S (upd μ id (some (b,c))) (upd st'.h id (some (.arr e q.size (elems++rows) (if fz=0 then 0 else 1)))) w' id (.arr e q.size (elems++rows) (if fz=0 then 0 else 1))∧
         (∀o v,S.cell b o=some v→∃vs t fr,bo=.cells vs t fr∧vs[o]?=some v)∧(∀m,S.mapo b=some m→w.heap.size≤b)∧aL S (upd μ id (some (b,c))) (upd st'.h id (some (.arr e q.size (elems++rows) (if fz=0 then 0 else 1)))) (.one (.hs id 0 (elems.length+rows.length) (elems.length+rows.length))) v)):=by
  subst hsz;have hes':=Ao hes;have heb':=Ao heb;obtain⟨ad,c,news,E,B,hrl,hnone,hcell⟩:=hsrc.rel hs hsi hvy;have I:news.length=rows.length*q.size:=by rw[B.length,gW hrl]
  obtain⟨inf,dd,z,g1,g2,g3,g4,g5,g6,g7,g8⟩:=(hT.get hei).ex;have hu:=(hT.get hi).slice hk;have hzs:z.cells.size=q.size:=by
    have h1:=(jG (S:=S) g7).length;rw[(hT.get hei).len] at h1;simpa using h1
  simp only[aL,aV] at hvx;obtain⟨_,hv | ⟨te',es',elems',fz',h1,h2,h3⟩⟩:=hvx
  · rw[M] at hv;cases hv
  rw[M] at h1;cases h1;obtain⟨h4,hcase⟩:=h3 rfl;have hbig:elems.length+rows.length≤140737488355328:=by
    have:(elems.length+rows.length)*1≤(elems.length+rows.length)*q.bytes:=Nat.mul_le_mul_left _ heb';omega
  have hone:∀u∈news,u.oneCell'=true:=(B.toR (μ:=μ) (H:=st'.h)).one;have hcap:∀old,elems.length+rows.length≤grownCap w (elems.length+rows.length) old e∧grownCap w (elems.length+rows.length) old e≤maxLen:=fun old=>
    ⟨grownCap_ge _ _ _ _,grownCap_le_maxLen _ _ _ _ (by unfold maxLen;omega)⟩
  have J:∀(O:List Value) (old:Nat),bZ S elems.flatten O→0<rows.length→∀g0:(∀r∈elems,r.length=q.size),
      kF S (upd μ id (some (w.heap.size,0,grownCap w (elems.length+rows.length) old e))) (upd st'.h id (some (.arr e q.size (elems++rows) (if fz=0 then 0 else 1))))
        (w.drew.alloc (.cells (O.toArray++news.toArray++Builtin.zeroCells z.cells (grownCap w (elems.length+rows.length) old e-(elems.length+rows.length))) e)) id (.arr e q.size (elems++rows) (if fz=0 then 0 else 1)):=by
    intro O old hol hpos g0;obtain⟨hc1,hc2⟩:=hcap old;have U:=hol.length;rw[gW g0] at U;refine⟨?_,.inr ⟨w.heap.size,0,grownCap w (elems.length+rows.length) old e,(O.toArray++news.toArray++Builtin.zeroCells z.cells (grownCap w (elems.length+rows.length) old e-(elems.length+rows.length))).toList,aH _ _ _,B2 w.drew _,?_,by simpa using hc1,⟨hc2,r4 hs.inv⟩,?_,fun _ o _=>fR hs.inv o,fun o _=>fR hs.inv o,fun e=>by split at e<;>cases e⟩⟩
    · intro r A
      rcases A2.1 A with A | A
      · exact g0 r A
      · exact hrl r A
    · simp only[Array.toList_append,ψ,Ay,size_zeroCells,hzs]
      simp only[U,I,Bb,←A7];exact Ax _ (by omega)
    · simp only[Array.toList_append,B8,ψ,Ci]
      rw[Bo (by simp[U,I,A7]),A0 (by simp[U,I,A7])];exact hol.append B
  have Y:(elems++rows).length=elems.length+rows.length:=by simp
  by_cases hm:rows.length=0
  · --nothing is appended
    have hr0:rows=[]:=Au hm;have hfzz:(if fz=0 then 0 else 1)=fz∨(if fz=0 then 0 else 1)=1:=by
      by_cases h:fz=0
      · left;rw[ξ h,h]
      · right;rw[ζ h]
    rcases hcase with⟨h5,h6,h7⟩ | ⟨b,base,cap,h5,h6⟩
    · refine⟨w,.slice none 0 0,eM ho h7 E (by rw[hm];exact kM w t o.type e inf hu g1 none ad 0 0 c (le_refl _)),.inl ⟨rfl,by rw[hr0,Bm],hfzz,?_⟩⟩
      simp only[aL,aV];exact⟨⟨_,_,_,rfl⟩,.inr ⟨e,q.size,elems,fz,M,by omega,fun _=>⟨by omega,.inl ⟨h5,h6,(by first | rfl | trivial)⟩⟩⟩⟩
    · obtain⟨q0,vs,q1,q2,q3,q4,q5,q6,q7,q8⟩:=(hs.inv.obj id _ M).arr h5
      refine⟨w,_,eM ho h6 E (by rw[hm];exact kM w t o.type e inf hu g1 _ ad elems.length _ c (by omega)),.inl ⟨rfl,by rw[hr0,Bm],hfzz,?_⟩⟩;simp only[aL,aV];exact⟨⟨_,_,_,rfl⟩,.inr ⟨e,q.size,elems,fz,M,by omega,fun _=>⟨by omega,.inr ⟨b,base,cap,h5,by rw[hm,Cc]⟩⟩⟩⟩
  · cases ad with
    | none=>exact absurd (by rw[hnone rfl];rfl) hm
    | some ad=>
      have hc:=hcell ad rfl;rcases hcase with⟨h5,h6,h7⟩ | ⟨b,base,cap,h5,h6⟩
      · --the first elements
        subst h6;simp only[length_nil,Bb] at hroom hbig J hcap;have A:=run_append_nil (P:=P) w t o.type e inf z hu g1 g6 ad rows.length c news (by rw[I,g3]) hc (by omega) (by omega) (by rw[g4];omega);refine⟨_,_,eM ho h7 E A,.inr ⟨by simp;omega,w.heap.size,_,(0,grownCap w rows.length 0 e),.inl (le_refl _),WChg.alloc_drew w _,?_,(fun o v e=>by rw[fR hs.inv] at e;cases e),fun m e=>le_refl _,?_⟩⟩
        · have:=J [] 0 (by simp[bZ]) (by omega) (by simp)
          simpa using this
        · simp only[aL,aV]
          exact⟨⟨_,_,_,rfl⟩,.inr ⟨e,q.size,_,_,aH _ _ _,by simp,fun _=>⟨by simp,.inr ⟨w.heap.size,0,_,aH _ _ _,by simp⟩⟩⟩⟩
      · obtain⟨q0,vs,q1,q2,q3,q4,q5,q6,q7,q8⟩:=(hs.inv.obj id _ M).arr h5
        have hce:elems.length*q.size≤cap*q.size:=Ax _ q3;simp only[sub_zero,zero_mul,Cc] at h6;by_cases hroom':elems.length+rows.length≤cap
        · --there is room
          have hce2:(elems.length+rows.length)*q.size≤cap*q.size:=Ax _ hroom';rw[A7] at hce2;have A:=kA (P:=P) w t o.type e inf hu g1 b base elems.length cap ⟨vs⟩ q1 ad rows.length c news (by rw[I,g3]) hc hone hroom' (by rw[g3,I];simp only[size_toArray];omega);rw[g3] at A;have hW:=WChg.setRow w b ⟨vs⟩ ⟨vs.take (base+elems.length*q.size)++news++vs.drop (base+elems.length*q.size+news.length)⟩ e (0,0) q1;refine⟨_,_,eM ho h6 E A,.inr ⟨by simp;omega,b,_,(base,cap),.inr ⟨_,h5⟩,hW,⟨?_,.inr ⟨b,base,cap,_,aH _ _ _,hW.new,?_,by rw[Y];omega,q4,?_,?_,?_,fun e=>by split at e<;>cases e⟩⟩,?_,fun m e=>fG q4.2 m e,?_⟩⟩
          · intro r A
            rcases A2.1 A with A | A
            · exact q0 r A
            · exact hrl r A
          · simp only[ψ,Ak,Be]
            omega
          · rw[Y,Ci]
            have e1:((vs.take (base+elems.length*q.size)++news++vs.drop (base+elems.length*q.size+news.length)).drop base).take ((elems.length+rows.length)*q.size)=(vs.drop base).take (elems.length*q.size)++news:=by
              rw[Aj,B1 (by simp;omega),←Aj,Bo (by simp[A7];omega)];rw[A0 (by simp[A7];omega),drop_take];rw[show base+elems.length*q.size-base=elems.length*q.size by omega]
            rw[e1];exact q5.append B
          · intro e o ho
            exact q6 (Classical.byContradiction fun hne=>by rw[ζ hne] at e;cases e) o ho
          · intro o ho
            rw[Y,A7] at ho;exact q7 o (by omega)
          · intro o v e
            by_cases hlt:o<base+elems.length*q.size
            · obtain⟨vs0,t0,fr0,p1,p2⟩:=hs.inv.holds.1 b o v e
              rw[q1] at p1;cases p1;refine⟨_,_,_,rfl,?_⟩;simp only[Ca] at p2 ⊢;rw[Aj,A6 (by simp;omega),Al,ξ (by omega)];exact p2
            · rw[q7 o (by omega)] at e;cases e
          · simp only[aL,aV]
            exact⟨⟨_,_,_,rfl⟩,.inr ⟨e,q.size,_,_,aH _ _ _,by simp,fun _=>⟨by simp,.inr ⟨b,base,cap,aH _ _ _,by simp⟩⟩⟩⟩
        · --into a new block
          have A:=run_append_grow (P:=P) w t o.type e inf z hu g1 g6 ⟨b,base,none⟩ elems.length cap ((vs.drop base).take (elems.length*q.size)) (by rw[g3];simp;omega) (by
              intro j v hj;rw[Addr.add_mid,cell_of_row w b _ ⟨vs⟩ e (0,0) q1];rw[Al] at hj;split at hj
              · rw[Am] at hj
                simpa using hj
              · cases hj) ad rows.length c news (by rw[I,g3]) hc (by omega) (by omega) (by rw[g4];exact growslice_fits (by omega) hroom)
          have hq5:bZ S elems.flatten ((vs.drop base).take (elems.length*q.size)):=q5;refine⟨_,_,eM ho h6 E A,.inr ⟨by simp;omega,w.heap.size,_,(0,grownCap w (elems.length+rows.length) cap e),.inl (le_refl _),WChg.alloc_drew w _,?_,(fun o v e=>by rw[fR hs.inv] at e;cases e),fun m e=>le_refl _,?_⟩⟩
          · have:=J _ cap hq5 (by omega) q0
            simpa using this
          · simp only[aL,aV]
            exact⟨⟨_,_,_,rfl⟩,.inr ⟨e,q.size,_,_,aH _ _ _,by simp,fun _=>⟨by simp,.inr ⟨w.heap.size,0,_,aH _ _ _,by simp⟩⟩⟩⟩
theorem aBe {t e:TypeId}{i q:TI}{x y:Operand}{id sz fz:Nat}{elems rows:List (List C)}{A:V}{ids:List Nat}(Y:Tok P T) (ho:o.op=.call { callee:=.builtin .append,args:= #[x,y],argTypes:= #[t,t] }) (hd:o.dst=some d) (B:d<n)
  (hi:T[t]?=some (some i)) (hk:i.k=.sl e) (E:T[e]?=some (some q)) (I:Nat.ble 1 q.size=true) (J:Nat.ble 1 q.bytes=true)
  (hx:opv st x=some (.one (.hs id 0 sz sz))) (hh:st.h id=some (.arr e q.size elems fz)) (hsz:sz=elems.length) (hy:opv st y=some A) (u:Src st q.size ids A rows)
  (r:(elems.length+rows.length)*q.bytes≤140737488355328):
  Step P n o st ⟨opr x++opr y,id::ids⟩ ⟨some (d,some (.one (.hs id 0 (elems.length+rows.length) (elems.length+rows.length)))),[(id,some (.arr e q.size (elems++rows) (if fz=0 then 0 else 1)))]⟩:=by
 refine Step.grow hd B hh (by simp) (by simp) _ fun st' ha M G S μ a w hs=>?_
 have O:=aI hs hx fun t ht=>ha.1 t (by simp[ht])
 have U:=aI hs hy fun t ht=>ha.1 t (by simp[ht])
 exact yE Y ho hi hk E I J hsz r M hs O U u fun i h=>ha.2 i (by simp[h])
end
mutual
def R.ren (σ:Nat→Nat):R→R
 | .c x=>.c x
 | .hs id off len sz=>.hs (σ id) off len sz
 | .tl id off len sz=>.tl (σ id) off len sz
 | .vp id off=>.vp (σ id) off
 | .ep id i fo sz=>.ep (σ id) i fo sz
 | .mr id=>.mr (σ id)
 | .clo f caps=>.clo f (R.renL σ caps)
 | .mth f x=>.mth f (x.ren σ)
 | .yl id=>.yl (σ id)
 | .ra id off len sz=>.ra (σ id) off len sz
 | .rp id i fo sz=>.rp (σ id) i fo sz
 | .ras n es l=>.ras n es (R.renL σ l)
 | .pas l=>.pas (R.renL σ l)
def R.renL (σ:Nat→Nat):List R→List R
 | []=>[]
 | r::rs=>r.ren σ::R.renL σ rs
end
mutual
def V.ren (σ:Nat→Nat):V→V
 | .one r=>.one (r.ren σ)
 | .pa l=>.pa l
 | .ma l=>.ma (R.renL σ l)
 | .tup l=>.tup (V.renL σ l)
def V.renL (σ:Nat→Nat):List V→List V
 | []=>[]
 | r::rs=>r.ren σ::V.renL σ rs
end
mutual
def R.refs:R→List Nat
 | .c _=>[]
 | .hs id _ _ _=>[id]
 | .tl id _ _ _=>[id]
 | .vp id _=>[id]
 | .ep id _ _ _=>[id]
 | .mr id=>[id]
 | .clo _ caps=>R.refsL caps
 | .mth _ x=>x.refs
 | .yl id=>[id]
 | .ra id _ _ _=>[id]
 | .rp id _ _ _=>[id]
 | .ras _ _ l=>R.refsL l
 | .pas l=>R.refsL l
def R.refsL:List R→List Nat
 | []=>[]
 | r::rs=>r.refs++R.refsL rs
end
mutual
def V.refs:V→List Nat
 | .one r=>r.refs
 | .pa _=>[]
 | .ma l=>R.refsL l
 | .tup l=>V.refsL l
def V.refsL:List V→List Nat
 | []=>[]
 | r::rs=>r.refs++V.refsL rs
end
def aGo:List (Nat×V)→List Nat
 | []=>[]
 | (_,v)::l=>v.refs++aGo l
def aK6:List (List R)→List Nat
 | []=>[]
 | r::l=>R.refsL r++aK6 l
def aSn (σ:Nat→Nat):List (Nat×V)→List (Nat×V)
 | []=>[]
 | (t,v)::l=>(t,v.ren σ)::aSn σ l
def aGm (σ:Nat→Nat):List (List R)→List (List R)
 | []=>[]
 | r::l=>R.renL σ r::aGm σ l
theorem qS:∀{l:List (Nat×V)}{t:Nat}{v:V},(t,v)∈l→∀i∈v.refs,i∈aGo l
 | (k,u)::l,t,v,h,i,hi=>by
  simp only[aGo,A2];rcases Aq.1 h with h | h
  ·cases h;exact .inl hi
  ·exact .inr (qS h i hi)
theorem aBd {σ:Nat→Nat}:∀{l:List (Nat×V)}{t:Nat}{v:V},(t,v)∈l→(t,v.ren σ)∈aSn σ l
 | (k,u)::l,t,v,h=>by
  simp only[aSn];rcases Aq.1 h with h | h
  ·cases h;simp
  ·exact Bc _ (aBd h)
theorem R.renL_length {σ:Nat→Nat}:∀{l:List R},(R.renL σ l).length=l.length
 | []=>rfl
 | _::l=>by simp[R.renL,R.renL_length (l:=l)]
theorem eH {σ:Nat→Nat}:∀{l:List (List R)},(aGm σ l).length=l.length
 | []=>rfl
 | _::l=>by simp[aGm,eH (l:=l)]
theorem R.renL_append {σ:Nat→Nat}:∀{l m:List R},R.renL σ (l++m)=R.renL σ l++R.renL σ m
 | [],_=>rfl
 | _::l,m=>by simp[R.renL,R.renL_append (l:=l)]
theorem R.refsL_append:∀{l m:List R},R.refsL (l++m)=R.refsL l++R.refsL m
 | [],_=>rfl
 | _::l,m=>by simp[R.refsL,R.refsL_append (l:=l)]
theorem wD {σ:Nat→Nat}:∀{l:List (List R)},(aGm σ l).flatten=R.renL σ l.flatten
 | []=>rfl
 | _::l=>by simp[aGm,wD (l:=l),R.renL_append]
theorem sI:∀{l:List (List R)},R.refsL l.flatten=aK6 l
 | []=>rfl
 | _::l=>by simp[aK6,sI (l:=l),R.refsL_append]
theorem kP {σ:Nat→Nat}{es:Nat}:∀{l:List (List R)},(∀r∈aGm σ l,r.length=es)→∀r∈l,r.length=es
 | [],_,r,h=>by simp at h
 | x::l,k,r,h=>by
  rcases Aq.1 h with rfl | h
  ·rw[←R.renL_length (σ:=σ)];exact k _ (by simp[aGm])
  ·exact kP (σ:=σ) (l:=l) (fun r q=>k r (by simp[aGm,q])) r h
def AObj.refs:AObj→List Nat
 | .var _ cells=>R.refsL cells
 | .lp _ _ _ e=>aGo e
 | .rarr _ _ elems=>aK6 elems
 | .tok r _=>r.refs
 | _=>[]
inductive Ole (σ:Nat→Nat):AObj→AObj→Prop
 | var {t cells cells'}:cells=R.renL σ cells'→Ole σ (.var t cells) (.var t cells')
 | arr {te es elems fz}:Ole σ (.arr te es elems fz) (.arr te es elems fz)
 | arr1 {te es elems fz}:Ole σ (.arr te es elems fz) (.arr te es elems 1)
 | map {agg ents}:Ole σ (.map agg ents) (.map agg ents)
 | dead:Ole σ .dead .dead
 | lp {st j i e e'}:e=aSn σ e'→Ole σ (.lp st j i e) (.lp st j i e')
 | dfr:Ole σ .dfr .dfr
 | rarr {te es elems elems'}:elems=aGm σ elems'→Ole σ (.rarr te es elems) (.rarr te es elems')
 | tok {r r' k}:r=r'.ren σ→Ole σ (.tok r k) (.tok r' k)
theorem Ole.succ {σ:Nat→Nat}{o o':AObj}(h:Ole σ o o'):o.succ True o':=by
 cases h
 case rarr e=>subst e;simp[AObj.succ,eH]
 all_goals simp[AObj.succ]
section
variable {S:Sto}{μ:Mu}{H H':c8}{σ:Nat→Nat}
def Good (H H':c8) (σ:Nat→Nat) (id:Nat):Prop:=∃o o',H (σ id)=some o∧H' id=some o'∧Ole σ o o'
mutual
theorem aV.ren:∀(r:R) (v:Value),(∀id∈r.refs,Good H H' σ id)→aV S μ H (r.ren σ) v→aV S (fun i=>μ (σ i)) H' r v
 | .c x,v,_,k=>by simpa only[aV,R.ren] using k
 | .hs id off len sz,v,h,k=>by
  obtain⟨o,o',h1,h2,q⟩:=h id (by simp[R.refs]);simp only[aV,R.ren] at k ⊢;refine⟨k.1,?_⟩;rcases k.2 with k | ⟨te,es,elems,fz,g1,g2,g3⟩
  ·rw[h1] at k;cases k;cases q;exact .inl h2
  ·rw[h1] at g1;cases g1;cases q
   ·exact .inr ⟨te,es,elems,_,h2,g2,g3⟩
   ·exact .inr ⟨te,es,elems,_,h2,g2,g3⟩
 | .tl id off len sz,v,h,k=>by
  obtain⟨o,o',h1,h2,q⟩:=h id (by simp[R.refs]);simp only[aV,R.ren] at k ⊢;refine⟨k.1,?_⟩;rcases k.2 with k | ⟨te,es,elems,fz,g1,g2,g3⟩
  ·rw[h1] at k;cases k;cases q;exact .inl h2
  ·rw[h1] at g1;cases g1;cases q
   ·exact .inr ⟨te,es,elems,_,h2,g2,g3⟩
   ·exact .inr ⟨te,es,elems,_,h2,g2,g3⟩
 | .vp id off,v,h,k=>by
  obtain⟨o,o',h1,h2,q⟩:=h id (by simp[R.refs]);simp only[aV,R.ren] at k ⊢;obtain⟨t,cells,b,c,g1,g2,g3⟩:=k;rw[h1] at g1;cases g1;cases q;exact⟨_,_,b,c,h2,g2,g3⟩
 | .ep id i fo sz,v,h,k=>by
  obtain⟨o,o',h1,h2,q⟩:=h id (by simp[R.refs]);simp only[aV,R.ren] at k ⊢;refine⟨k.1,?_⟩;rcases k.2 with k | ⟨te,es,elems,fz,g1,g2,g3⟩
  ·rw[h1] at k;cases k;cases q;exact .inl h2
  ·rw[h1] at g1;cases g1;cases q
   ·exact .inr ⟨te,es,elems,_,h2,g2,g3⟩
   ·exact .inr ⟨te,es,elems,_,h2,g2,g3⟩
 | .mr id,v,h,k=>by
  obtain⟨o,o',h1,h2,q⟩:=h id (by simp[R.refs]);simp only[aV,R.ren] at k ⊢;obtain⟨agg,ents,b,c,g1,g2,g3⟩:=k;rw[h1] at g1;cases g1;cases q;exact⟨_,_,b,c,h2,g2,g3⟩
 | .clo f caps,v,h,k=>by
  simp only[aV,R.ren] at k ⊢;obtain⟨vs,g1,g2⟩:=k;exact⟨vs,g1,aM.ren caps vs (by simpa only[R.refs] using h) g2⟩
 | .mth f x,v,h,k=>by
  simp only[aV,R.ren] at k ⊢;obtain⟨u,g1,g2⟩:=k;exact⟨u,g1,aV.ren x u (by simpa only[R.refs] using h) g2⟩
 | .rp id i fo sz,v,h,k=>by
  obtain⟨o,o',h1,h2,q⟩:=h id (by simp[R.refs]);simp only[aV,R.ren] at k ⊢;refine⟨k.1,?_⟩;rcases k.2 with k | ⟨te,es,elems,g1,g2,g3⟩
  ·rw[h1] at k;cases k;cases q;exact .inl h2
  ·rw[h1] at g1;cases g1;cases q;rename_i elems' e;subst e;rw[eH] at g2 g3;exact .inr ⟨te,es,elems',h2,g2,g3⟩
 | .yl id,v,h,k=>by
  obtain⟨o,o',h1,h2,q⟩:=h id (by simp[R.refs]);simp only[aV,R.ren] at k ⊢;obtain⟨st,j,i,e,b,c,g1,g2,g3⟩:=k;rw[h1] at g1;cases g1;cases q;exact⟨_,_,_,_,b,c,h2,g2,g3⟩
 | .ra id off len sz,v,h,k=>by
  obtain⟨o,o',h1,h2,q⟩:=h id (by simp[R.refs]);simp only[aV,R.ren] at k ⊢;refine⟨k.1,?_⟩;rcases k.2 with k | ⟨te,es,elems,g1,g2,g3⟩
  ·rw[h1] at k;cases k;cases q;exact .inl h2
  ·rw[h1] at g1;cases g1;cases q;rename_i elems' e;subst e;rw[eH] at g2 g3;refine .inr ⟨te,es,elems',h2,g2,fun e=>?_⟩;obtain⟨E,y⟩:=g3 e;refine⟨E,?_⟩;rcases y with⟨y,I,J⟩ | y
   ·exact .inl ⟨y,Au (by rw[←eH (σ:=σ),I];rfl),J⟩
   ·exact .inr y
 | .ras n es l,v,h,k=>by
  simp only[aV,R.ren] at k ⊢;obtain⟨a,cap,h1,h2,q,M,O,U,b,o,Y,vs,A,B⟩:=k;exact⟨a,cap,h1,by rw[h2,R.renL_length],q,M,O,U,b,o,Y,vs,aM.ren l vs (by simpa only[R.refs] using h) A,B⟩
 | .pas l,v,h,k=>by
  simp only[aV,R.ren] at k ⊢;obtain⟨b,o,h1,vs,A,B⟩:=k;exact⟨b,o,h1,vs,aM.ren l vs (by simpa only[R.refs] using h) A,B⟩
theorem aM.ren:∀(r:List R) (v:List Value),(∀id∈R.refsL r,Good H H' σ id)→aM S μ H (R.renL σ r) v→aM S (fun i=>μ (σ i)) H' r v
 | [],_,_,k=>by simpa only[aM,R.renL] using k
 | r::rs,vs,h,k=>by
  simp only[aM,R.renL] at k ⊢;obtain⟨v,vs',h1,h2,q⟩:=k;exact⟨v,vs',h1,aV.ren r v (fun i hi=>h i (by simp[R.refsL,hi])) h2,aM.ren rs vs' (fun i hi=>h i (by simp[R.refsL,hi])) q⟩
end
mutual
theorem aL.ren:∀(r:V) (v:Value),(∀id∈r.refs,Good H H' σ id)→aL S μ H (r.ren σ) v→aL S (fun i=>μ (σ i)) H' r v
 | .one r,v,h,k=>by simp only[aL,V.ren] at k ⊢;exact aV.ren r v (by simpa only[V.refs] using h) k
 | .pa l,v,_,k=>by simpa only[aL,V.ren] using k
 | .ma l,v,h,k=>by
  simp only[aL,V.ren] at k ⊢;obtain⟨vs,h1,h2⟩:=k;exact⟨vs,h1,aM.ren l vs (by simpa only[V.refs] using h) h2⟩
 | .tup l,v,h,k=>by
  simp only[aL,V.ren] at k ⊢;obtain⟨vs,h1,h2⟩:=k;exact⟨vs,h1,aY.ren l vs (by simpa only[V.refs] using h) h2⟩
theorem aY.ren:∀(r:List V) (v:List Value),(∀id∈V.refsL r,Good H H' σ id)→aY S μ H (V.renL σ r) v→aY S (fun i=>μ (σ i)) H' r v
 | [],_,_,k=>by simpa only[aY,V.renL] using k
 | r::rs,vs,h,k=>by
  simp only[aY,V.renL] at k ⊢;obtain⟨v,vs',h1,h2,q⟩:=k;exact⟨v,vs',h1,aL.ren r v (fun i hi=>h i (by simp[V.refsL,hi])) h2,aY.ren rs vs' (fun i hi=>h i (by simp[V.refsL,hi])) q⟩
end
end
theorem kF.ren {S:Sto}{μ:Mu}{H H':c8}{σ:Nat→Nat}{w:World}{id:Nat}{o o':AObj}(h:kF S μ H w (σ id) o) (hl:Ole σ o o') (q:∀i∈o'.refs,Good H H' σ i):kF S (fun i=>μ (σ i)) H' w id o':=by
 cases hl with
 | @var t cells cells' hc=>
  subst hc;obtain⟨b,vs,h1,h2,u,y⟩:=h;exact⟨b,vs,h1,h2,aM.ren _ _ q u,y⟩
 | arr=>exact h
 | arr1=>
  obtain⟨g0,g1 | ⟨b,base,cap,vs,g1,g2,g3,g4,g5,g6,g7,g8,g9⟩⟩:=h
  ·exact⟨g0,.inl g1⟩
  ·exact⟨g0,.inr ⟨b,base,cap,vs,g1,g2,g3,g4,g5,g6,(fun e=>by cases e),g8,(fun e=>by cases e)⟩⟩
 | map=>exact h
 | dead=>exact h
 | lp he=>
  subst he;obtain⟨b,r,fn,tmps,h1,h2,u,y,A⟩:=h;exact⟨b,r,fn,tmps,h1,h2,u,fun t v ht=>aL.ren _ _ (fun i hi=>q i (qS ht i hi)) (y t _ (aBd ht)),A⟩
 | dfr=>exact h
 | rarr he=>
  subst he;obtain⟨g0,g1 | ⟨b,base,cap,vs,g1,g2,g3,g4,g5,g6,g7⟩⟩:=h
  ·exact⟨kP g0,.inl ⟨g1.1,Au (by rw[←eH (σ:=σ),g1.2];rfl)⟩⟩
  ·rw[eH] at g4 g6;rw[wD] at g6;exact⟨kP g0,.inr ⟨b,base,cap,vs,g1,g2,g3,g4,g5,aM.ren _ _ (fun i hi=>q i (by rw[sI] at hi;exact hi)) g6,g7⟩⟩
 | tok he=>
  subst he;obtain⟨g1,b,g2,g3⟩:=h;exact⟨g1,b,aV.ren _ _ q g2,g3⟩
def Ctx.keeps (G:Ctx) (kf:List Nat):Prop:=(∀id o,G.h0 id=some o→id∈kf)∧(997∈kf→G.h0 997=none→G.S0.noTop)
def Sub (kf:List Nat) (st2 st1:St):Prop:=∀G n S μ a w,G.keeps kf→Sim G n S μ st1 a w→∃S' μ',Sim G n S' μ' st2 a w
theorem Sub.refl (kf:List Nat) (st:St):Sub kf st st:=fun _ _ S μ _ _ _ h=>⟨S,μ,h⟩
theorem Sub.trans {kf:List Nat}{a b c:St}(h:Sub kf a b) (k:Sub kf b c):Sub kf a c:=fun G n S μ x w q hs=>by
 obtain⟨S',μ',h1⟩:=k G n S μ x w q hs;exact h G n S' μ' x w q h1
def mk (el:List (Nat×V)) (hl:List (Nat×AObj)):St:=⟨look el,look hl,[]⟩
def mkd (el:List (Nat×V)) (hl:List (Nat×AObj)) (dl:List Nat):St:=⟨look el,look hl,dl⟩
theorem b6 {α:Type}:∀{l:List (Nat×α)}{i:Nat}{x:α},look l i=some x→(i,x)∈l
 | [],_,_,h=>by simp[look] at h
 | (k,y)::l,i,x,h=>by
  simp only[look] at h;split at h
  ·rename_i hb;cases h;simp[δ hb]
  ·simp[b6 h]
def gG {α:Type}(p:α→Prop):List α→Prop
 | []=>True
 | x::l=>p x∧gG p l
theorem gG.mem {α:Type}{p:α→Prop}:∀{l:List α},gG p l→∀x∈l,p x
 | [],_,x,h=>by simp at h
 | y::l,h,x,hx=>by
  rcases Aq.1 hx with rfl | hx
  ·exact h.1
  ·exact gG.mem h.2 x hx
def subset (a b:List Nat):Bool:=a.all fun x=>b.contains x
def distinct:List Nat→Bool
 | []=>true
 | x::l=>!(l.contains x)&&distinct l
def gS:List (Nat×AObj)→List Nat
 | []=>[]
 | (_,o)::l=>o.refs++gS l
def aWo (kf:List Nat) (σ:Nat→Nat) (el:List (Nat×V)) (hl:List (Nat×AObj)):Bool:=subset (aGo el) (hl.map (·.1))&&subset (gS hl) (hl.map (·.1))&&distinct (hl.map fun p=>σ p.1)&&subset kf (hl.map (·.1))&&kf.all fun i=>Nat.beq (σ i) i
theorem bT {a b:List Nat}(h:subset a b=true):∀x∈a,x∈b:=fun x hx=>by simpa using (A8.1 h) x hx
theorem nG:∀{l:List Nat},distinct l=true→l.Nodup
 | [],_=>List.nodup_nil
 | x::l,h=>by
  simp only[distinct,Ab] at h;refine nodup_cons.2 ⟨?_,nG h.2⟩;simpa using h.1
theorem kQ:∀{l:List (Nat×AObj)}{t:Nat}{v:AObj},(t,v)∈l→∀i∈v.refs,i∈gS l
 | (k,u)::l,t,v,h,i,hi=>by
  simp only[gS,A2];rcases Aq.1 h with h | h
  ·cases h;exact .inl hi
  ·exact .inr (kQ h i hi)
theorem wO {α β:Type}{f:α→β}:∀{l:List α},(l.map f).Nodup→∀x∈l,∀y∈l,f x=f y→x=y
 | [],_,x,h,_,_,_=>by simp at h
 | z::l,hn,x,hx,y,hy,e=>by
  simp only[An,nodup_cons] at hn;rcases Aq.1 hx with hx | hx
  ·rcases Aq.1 hy with hy | hy
   ·rw[hx,hy]
   ·exact absurd (mem_map.2 ⟨y,hy,by rw[←e,hx]⟩) hn.1
  ·rcases Aq.1 hy with hy | hy
   ·exact absurd (mem_map.2 ⟨x,hx,by rw[e,hy]⟩) hn.1
   ·exact wO hn.2 x hx y hy e
def eqL:List Nat→List Nat→Bool
 | [],[]=>true
 | a::l,b::m=>Nat.beq a b&&eqL l m
 | _,_=>false
theorem aOd:∀{l m:List Nat},eqL l m=true→l=m
 | [],[],_=>rfl
 | a::l,b::m,h=>by
  simp only[eqL,Ab] at h;rw[δ h.1,aOd h.2]
 | [],_::_,h=>by simp[eqL] at h
 | _::_,[],h=>by simp[eqL] at h
theorem Sub.listD {kf:List Nat}{r:St}{y:List (Nat×V)}{hl:List (Nat×AObj)}{dl:List Nat}(σ:Nat→Nat) (he:gG (fun p=>r.e p.1=some (p.2.ren σ)) y) (hh:gG (fun p=>∃o,r.h (σ p.1)=some o∧Ole σ o p.2) hl) (hok:(aWo kf σ y hl&&(eqL (dl.map σ) r.d&&subset dl (hl.map (·.1))))=true):Sub kf (mkd y hl dl) r:=by
 intro G n S μ a w hg hs;rw[Ab,Ab] at hok;obtain⟨hok,u,M⟩:=hok;have u:=aOd u;simp only[aWo,Ab] at hok;obtain⟨⟨⟨⟨h1,h2⟩,h3⟩,J⟩,h5⟩:=hok;have q:∀i∈hl.map (·.1),Good r.h (look hl) σ i:=by
  intro i hi;obtain⟨o',I⟩:=cM hi;obtain⟨o,g1,g2⟩:=hh.mem _ (b6 I);exact⟨o,o',g1,I,g2⟩
 have O:=nG h3;refine⟨S,fun i=>μ (σ i),⟨⟨hs.inv.holds,fun id o ho=>?_,fun i j o o' b c c' hi U hm Y=>?_,fun i o b c hi hm=>?_,hs.inv.frame,hs.inv.sle,hs.inv.sto,⟨hs.inv.evo.le,fun id o ho=>?_⟩,hs.inv.fre⟩,hs.size,?_,fun t v ht=>?_⟩⟩
 ·obtain⟨A,g1,g2⟩:=hh.mem _ (b6 ho);exact(hs.inv.obj _ _ g1).ren g2 fun i hi=>q i (bT h2 i (kQ (b6 ho) i hi))
 ·obtain⟨A,g1,g2⟩:=hh.mem _ (b6 hi);obtain⟨B,g3,g4⟩:=hh.mem _ (b6 U);have E:=hs.inv.inj _ _ _ _ b c c' g1 g3 hm Y;have:=wO O _ (b6 hi) _ (b6 U) E;exact(congrArg Prod.fst this)
 ·obtain⟨A,g1,g2⟩:=hh.mem _ (b6 hi);exact hs.inv.own _ _ b c g1 hm
 ·obtain⟨o',g1,g2⟩:=hs.inv.evo.obj id o ho;have hk:=hg.1 id o ho;have E:σ id=id:=δ ((A8.1 h5) id hk);obtain⟨A,B,g3,g4,g5⟩:=q id (bT J id hk);rw[E,g1] at g3;cases g3;refine⟨B,g4,?_⟩;show o.succ (μ (σ id)=G.μ0 id) B;rw[E];exact AObj.succ_trans g2 g5.succ fun e _=>e
 ·refine Marks.ren (H:=r.h) (μ:=μ) σ (by show Marks _ μ r.h (dl.map σ) a.defers;rw[u];exact hs.defers) fun id hid hdf=>⟨rfl,?_⟩
  obtain⟨A,B,g3,g4,g5⟩:=q id (bT M id hid);rw[hdf] at g3;cases g3;cases g5;exact g4
 ·have hm:=b6 (show look y t=some v from ht);have J:=he.mem _ hm;exact aL.ren v _ (fun i hi=>q i (bT h1 i (qS hm i hi))) (hs.env t _ J)
theorem Sub.list {kf:List Nat}{q:St}{r:List (Nat×V)}{hl:List (Nat×AObj)}(σ:Nat→Nat) (he:gG (fun p=>q.e p.1=some (p.2.ren σ)) r) (hh:gG (fun p=>∃o,q.h (σ p.1)=some o∧Ole σ o p.2) hl) (hok:(aWo kf σ r hl&&eqL [] q.d)=true):Sub kf (mk r hl) q:=
 Sub.listD (dl:=[]) σ he hh (by
  rw[Ab] at hok;rw[Ab]
  exact⟨hok.1,by rw[Bz,hok.2];rfl⟩)
def Ctx.rok (G:Ctx):Option Nat→Prop
 | none=>True
 | some l=>(∃r,G.w0.heap[l]?=some (.loop r))∧¬G.F l
def AWp (ro:Option Nat) (P:Program) (n:Nat) (kf:List Nat) (c:Code) (st:St) (Q:Exit→St→Prop):Prop:=
 ∀G S μ a w (Q':Exit→Act→World→Prop),G.keeps kf∧G.rok ro→Sim G n S μ st a w→(∀ex st' S' μ' a' w',Q ex st'→Sim G n S' μ' st' a' w'→Q' ex a' w')→c.wpIn (Wd ro) 0 P Q' a w
section
variable {ro:Option Nat}{P:Program}{n:Nat}{kf:List Nat}{st:St}{Q:Exit→St→Prop}
theorem AWp.sub {c:Code}{st2:St}(h:Sub kf st2 st) (k:AWp ro P n kf c st2 Q):AWp ro P n kf c st Q:=fun G S μ a w Q' q hs r=>by
 obtain⟨S',μ',u⟩:=h G n S μ a w q.1 hs;exact k G S' μ' a w Q' q u r
theorem AWp.post {c:Code}{Q2:Exit→St→Prop}(h:AWp ro P n kf c st Q) (hq:∀ex st',Q ex st'→∃r,Sub kf r st'∧Q2 ex r):AWp ro P n kf c st Q2:=fun G S μ a w Q' u hs A=>
 h G S μ a w Q' u hs fun ex st' S' μ' y w' q s=>by
  obtain⟨r,h1,h2⟩:=hq ex st' q;obtain⟨S2,B,E⟩:=h1 G n S' μ' y w' u.1 s;exact A ex r S2 B y w' h2 E
theorem aF (h:Q .normal st):AWp ro P n kf .skip st Q:=fun _ S μ a w _ _ hs q=>wpIn_skip (q _ _ S μ a w h hs)
theorem aD (h:Q .ret st):AWp ro P n kf .ret st Q:=fun _ S μ a w _ _ hs q=>wpIn_ret (q _ _ S μ a w h hs)
theorem aS {id:Nat}(h:Q (.exit id) st):AWp ro P n kf (.exit id) st Q:=fun _ S μ a w _ _ hs q=>wpIn_exit (q _ _ S μ a w h hs)
def aSx (ro:Option Nat) (P:Program) (n:Nat) (kf:List Nat) (c:Code) (Q:Exit→St→Prop):Exit→St→Prop
 | .normal,st=>AWp ro P n kf c st Q
 | ex,st=>Q ex st
theorem aA {x y:Code}(h:AWp ro P n kf x st (aSx ro P n kf y Q)):AWp ro P n kf (.seq x y) st Q:=fun G S μ a w Q' r hs u=>
 Co (h G S μ a w _ r hs fun ex st' S' μ' A w' q s=>by
  cases ex with
  | normal=>exact q G S' μ' A w' Q' r s u
  | _=>exact u _ st' S' μ' A w' q s)
theorem aB {c:Operand}{x y:Code}{b:Bool}(hc:opv st c=some (B b)) (ht:b=true→AWp ro P n kf x st Q) (u:b=false→AWp ro P n kf y st Q):AWp ro P n kf (.cond c x y) st Q:=fun G S μ a w Q' q hs r=>by
 have hb:=iJ (aI hs hc fun _ _=>rfl);cases b with
 | true=>exact wpIn_cond_true hb (ht rfl G S μ a w Q' q hs r)
 | false=>exact wpIn_cond_false hb (u rfl G S μ a w Q' q hs r)
def mS (id:Nat) (Q:Exit→St→Prop):Exit→St→Prop
 | .exit id',st=>if Nat.beq id' id then Q .normal st else Q (.exit id') st
 | ex,st=>Q ex st
theorem aE {id:Nat}{c:Code}(h:AWp ro P n kf c st (mS id Q)):AWp ro P n kf (.block id c) st Q:=fun G S μ a w Q' A hs u=>
 wpIn_block (h G S μ a w _ A hs fun ex st' S' μ' y w' q s=>by
  cases ex with
  | exit r=>
   simp only[mS] at q;simp only[Exit.inBlock];by_cases hb:r=id
   ·subst hb;simp only[beq_refl,Ce] at q;simpa using u _ st' S' μ' y w' q s
   ·have:Nat.beq r id=false:=by
     cases hq:Nat.beq r id with
     | false=>rfl
     | true=>exact absurd (δ hq) hb
    simp only[this,Av,Bn] at q;simpa [hb] using u _ st' S' μ' y w' q s
  | _=>exact u _ st' S' μ' y w' q s)
def aY5 {α:Type}(kf:List Nat) (σ:α→St) (I:α→Prop) (m:α→Nat) (x:α) (Q:Exit→St→Prop):Exit→St→Prop
 | .normal,st=>∃y,I y∧m y<m x∧Sub kf (σ y) st
 | ex,st=>Q ex st
theorem qH {F:Fence}{m:Nat}{P:Program}{Q:Exit→Act→World→Prop}{a:Act}{w:World}{c:Code}(I:Nat→Act→World→Prop) (y:Nat) (B:I y a w)
  (round:∀n a w,I n a w→c.wpIn F m P (Exit.then (fun u w'=>∃q,q<n∧I q u w') Q) a w):(Code.loop c).wpIn F m P Q a w:=by
 refine wpIn_loop (fun a w=>∃n,I n a w) (fun a w=>leastOf (fun n=>I n a w)) ⟨y,B⟩ ?_;intro a w E;refine wpIn_mono (round _ a w (leastOf_spec E).1) ?_;intro e u w' hq;cases e with
 | normal=>
  obtain⟨q,A,r⟩:=hq;exact show(∃n,I n u w')∧leastOf (fun n=>I n u w')<leastOf (fun n=>I n a w) from⟨⟨q,r⟩,Bu ((leastOf_spec ⟨q,r⟩).2 q r) A⟩
 | _=>exact hq
theorem aP {α:Type}{c:Code}(σ:α→St) (I:α→Prop) (m:α→Nat) (r:α) (O:I r) (h0:Sub kf (σ r) st) (h:∀x,I x→AWp ro P n kf c (σ x) (aY5 kf σ I m x Q)):AWp ro P n kf (.loop c) st Q:=fun G S μ a w Q' u hs U=>by
 obtain⟨S',μ',B⟩:=h0 G n S μ a w u.1 hs;refine qH (fun k a w=>∃x S μ,m x=k∧I x∧Sim G n S μ (σ x) a w) (m r) ⟨r,S',μ',rfl,O,B⟩ ?_;rintro k a w ⟨x,S,μ,Y,hx,hs⟩;refine h x hx G S μ a w _ u hs fun ex st' S1 E J w' q s=>?_
 cases ex with
 | normal=>
  obtain⟨y,hy,M,A⟩:=q;obtain⟨S2,aa,h2⟩:=A G n S1 E J w' u.1 s;exact⟨m y,Y▸M,y,S2,aa,rfl,hy,h2⟩
 | _=>exact U _ st' S1 E J w' q s
theorem tH {id:Nat}{ops:Array Oper}{draw:Bool}{st':St}{xs:REs}(hm:P.follows .mixedOrders=true) (A:Run P n ops 0 st xs st') (hlen:Nat.beq xs.length ops.size=true)
  (u:(!draw || (cR (preds ops) xs []&&dU ops))=true) (h:Q .normal st'):AWp ro P n kf (.region id ops draw) st Q:=fun G S μ a w Q' I hs J=>by
 have q:=δ hlen;cases draw with
 | true=>
  simp only[Bool.not_true,Bh,Ab] at u;refine wpIn_region_any hm ?_;refine aGh (G:=G) A q u.1 u.2 (fun S' μ' r w' s=>J _ st' S' μ' r w' h s) ops.size _ (by simp) ?_ ?_ S μ a _ ?_ ro
  ·have:((List.range ops.size).filter fun i=>!(Array.replicate ops.size false).getD i false)=List.range ops.size:=by
    apply filter_eq_self.2;intro i hi;simp at hi;simp[hi]
   rw[this,length_range]
  ·intro i o ho hl;simp[A3] at hl;split at hl<;>simp at hl
  ·have M:∀(B:REs) (k:Nat) (s:St),cA (fun j=>(Array.replicate ops.size false).getD j false) k B s=s:=by
    intro B
    induction B with
    | nil=>intro k s;rfl
    | cons y B E=>
     intro k s;have O:(Array.replicate ops.size false).getD k false=false:=by
      simp[A3];split<;>rfl
     simp only[cA,O,Bj];exact E _ _
   rw[M];exact⟨hs.inv.same rfl rfl rfl rfl,hs.size,hs.defers,hs.env⟩
 | false=>
  refine wpIn_region ?_;have key:∀(k:Nat) (st st':St) (xs:REs),Run P n ops k st xs st'→k+xs.length=ops.size→(∀S' μ' r w',Sim G n S' μ' st' r w'→Q' .normal r w')→∀S μ a w,Sim G n S μ st a w→wpOpsIn (Wd ro) 0 P ops Q' (List.range' k xs.length) a w:=by
   intro k st st' xs A
   induction A with
   | nil=>intro _ hq S μ a w hs;exact hq S μ a w hs
   | @cons k st rd f xs st' I _ E=>
    intro hl hq S μ a w hs;simp only[κ,range'_succ,Br];exact I st (fL.refl _ _) G S μ a w _ Q' hs (fun S1 U Y w1 s1=>E (by simp at hl;omega) hq S1 U Y w1 s1) ro
  have:=key 0 st st' xs A (by omega) (fun S' μ' r w' s=>J _ st' S' μ' r w' h s) S μ a w hs;rwa [range_eq_range',←q]
end
end Go.AM
