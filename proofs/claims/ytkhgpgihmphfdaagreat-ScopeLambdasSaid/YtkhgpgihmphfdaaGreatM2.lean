/-
  Texts Am6 to Am11 in one.
-/
import Derived.Test.YtkhgpgihmphfdaaGreatM1
import Derived.Deep.MidRow
import Derived.Deep.LoopGhost
open List (all_eq_true append_assoc append_nil drop_append drop_append_of_le_length drop_drop drop_of_length_le drop_succ_cons drop_take drop_zero eq_nil_of_length_eq_zero filter_eq_self flatten_append flatten_cons foldl_cons length_append length_cons length_drop length_nil length_range length_set length_take map_cons map_nil map_toArray mem_append mem_cons mem_cons_of_mem mem_map mem_of_mem_take nil_append nodup_cons range'_succ range_eq_range' size_toArray take_append_of_le_length take_left' take_of_length_le take_succ_cons take_take take_zero)
open Nat (add_assoc add_mul add_zero beq_refl eq_of_beq_eq_true le_of_ble_eq_true le_refl le_trans lt_irrefl lt_of_le_of_lt min_eq_left mul_le_mul_right sub_self sub_zero zero_add zero_le zero_mul)
namespace Go.AM
open Go
section
variable {P:Program}{n:Nat}{o:Oper}{st:St}{d:Nat}{T:TT}
theorem dR {S:Sto}{μ:Mu}{H:bX}{id:Nat}(h:H id=none) (p:Option (Nat×Nat×Nat)) (x:Option AObj):Evolve S μ H S (upd μ id p) (upd H id x):=
 ⟨S.le_refl,fun j o q=>by
  have g:j≠id:=fun e=>by subst e;rw[h] at q;cases q
  exact⟨o,by rw[aW _ _ _ g];exact q,o.succ_refl (aW _ _ _ g)⟩⟩
theorem Step.new {rd:Rd}{y:V}{id:Nat}{ao:AObj}(E:o.dst=some d) (q:d<n) (u:st.h id=none) (A:id∈rd.h)
  (h:∀st',fA rd st st'→st'.h id=none→∀G S μ a w,Sim G n S μ st' a w→∃w' B v c,(execOp a.eval o).run P w=.ok (.value v) w'∧WChg w w' w.heap.size B∧
   jF S (upd μ id (some (w.heap.size,c))) (upd st'.h id (some ao)) w' id ao∧aN S (upd μ id (some (w.heap.size,c))) (upd st'.h id (some ao)) y v):
  Step P n o st rd ⟨some (d,some y),[(id,some ao)]⟩:=by
 intro st' ha G S μ a w K Q hs I;have g:st'.h id=none:=by rw[ha.2 id A,u]
 obtain⟨w',B,v,c,J,hw,hO,M⟩:=h st' ha g G S μ a w hs;refine fun ro=>eI J ?_
 rw[E];have hi:=hs.inv.chg (id:=id) (cap:=c) (ao:=ao) hw (.inl (le_refl _)) (dR g _ _) hO
  (fun o v e=>by obtain⟨vs,t,U,h1,_⟩:=hs.inv.holds.1 _ _ _ e;exact absurd (c9 h1) (Cm _)) (fun m e=>le_refl _)
 refine I S (upd μ id (some (w.heap.size,c))) _ _ ?_;have:=hs.put hi (dR g _ _) q (x:=some y) (fun z O=>by cases O;exact M);unfold Eff.apply;rw[bY];exact this
theorem eJ {G:Ctx}{S:Sto}{μ:Mu}{H:bX}{w:World}(h:Inv G S μ H w) (o:Nat):S.cell w.heap.size o=none:=by
 cases hc:S.cell w.heap.size o with
 | none=>rfl
 | some v=>obtain⟨vs,t,g,h1,_⟩:=h.holds.1 _ _ _ hc;exact absurd (c9 h1) (Cm _)
theorem nQ {G:Ctx}{S:Sto}{μ:Mu}{H:bX}{w:World}(h:Inv G S μ H w):S.mapo w.heap.size=none:=by
 cases hc:S.mapo w.heap.size with
 | none=>rfl
 | some v=>obtain⟨_,h1⟩:=MK.holds_some (h.holds.2 _ _ hc);exact absurd (c9 h1) (Cm _)
theorem fW (P:Program) (w:World) (t:TypeId) (cs:Array Value):(newRow t cs).run P w=.ok ⟨w.heap.size,0,none⟩ (w.alloc (.cells cs t)):=rfl
theorem aOg {t:TypeId}{i:TI}(id:Nat) (y:Tok P T) (ho:o.op=.alloc t) (A:o.dst=some d) (g:d<n) (hi:T[t]?=some (some i)) (q:st.h id=none):
  Step P n o st ⟨[],[id]⟩ ⟨some (d,some (.one (.vp id 0))),[(id,some (.var t (i.zero.map R.c)))]⟩:=by
 refine Step.new A g q (by simp) fun st' _ B G S μ a w hs=>?_
 obtain⟨z,E,u,_⟩:=(y.get hi).zero_run;refine⟨_,_,.pointer (some ⟨w.heap.size,0,none⟩),(0,0),?_,WChg.alloc w (.cells z.cells t),?_,?_⟩
 ·simp[execOp,ho,Instr.alloc,E,newVar,fW]
 ·exact⟨w.heap.size,z.cells.toList,aH _ _ _,Bx w _,(u S).toR,eJ hs.inv,nQ hs.inv⟩
 ·simp only[aN,aY];exact⟨t,_,_,_,aH _ _ _,aH _ _ _,rfl⟩
theorem aVu {t:TypeId}{x:Operand}{y:V}{rs:List R}(id:Nat) (ho:o.op=.box t x) (A:o.dst=some d) (q:d<n) (hx:opv st x=some y) (hc:fO y=some rs) (u:st.h id=none):
  Step P n o st ⟨opr x,[id]⟩ ⟨some (d,some (.one (.vp id 0))),[(id,some (.var t rs))]⟩:=by
 refine Step.new A q u (by simp) fun st' ha g G S μ a w hs=>?_
 have B:=aK hs hx ha.1;refine⟨_,_,.pointer (some ⟨w.heap.size,0,none⟩),(0,0),?_,WChg.alloc w (.cells (a.eval x).cells t),?_,?_⟩
 ·simp[execOp,ho,Instr.box,newVar,fW]
 ·exact⟨w.heap.size,(a.eval x).cells.toList,aH _ _ _,Bx w _,aP.evolve (dR g _ _) _ _ (dB B hc),eJ hs.inv,nQ hs.inv⟩
 ·simp only[aN,aY];exact⟨t,_,_,_,aH _ _ _,aH _ _ _,rfl⟩
theorem aEt {t:TypeId}(id:Nat) (agg:Bool) (ho:o.op=.makeMap t none) (u:o.dst=some d) (g:d<n) (q:st.h id=none):
  Step P n o st ⟨[],[id]⟩ ⟨some (d,some (.one (.mr id))),[(id,some (.map agg []))]⟩:=by
 refine Step.new u g q (by simp) fun st' _ y G S μ a w hs=>?_
 refine⟨w.alloc (.map #[] 0),_,.map (some w.heap.size),(0,0),?_,WChg.alloc w (.map #[] 0),?_,?_⟩
 ·simp only[execOp,ho,Instr.makeMap,Option.map_none];rfl
 ·exact⟨w.heap.size, #[],0,aH _ _ _,Bx w _,.inr (.inl (by simp[bD])),.inl (nQ hs.inv)⟩
 ·simp only[aN,aY];exact⟨_,_,_,_,aH _ _ _,aH _ _ _,rfl⟩
theorem iQ {w:World}{b:Nat}{vs:List Value}{t:TypeId}(h:w.heap[b]?=some (.cells ⟨vs⟩ t (0,0))) (off k:Nat):w.rangeAt b off ((vs.drop off).take k):=by
 intro j v g;rw[cell_of_row w b (off+j) ⟨vs⟩ t (0,0) h];rw[Ak] at g;split at g
 ·rw[Al] at g;simpa using g
 ·cases g
theorem run_load {t:TypeId}{i:TI}(q:TIok P t i) (w:World) (b off:Nat) (cs:List Value) (A:w.rangeAt b off cs) (hl:cs.length=i.size):
  (Instr.loadAt t (.pointer (some ⟨b,off,none⟩))).run P w=.ok (if i.k.agg then .agg ⟨cs⟩ else cs.headD undef) w:=by
 obtain⟨inf,dd,z,J,I,M,O,B,U,Y,g8⟩:=q.ex;cases u:i.k.agg with
 | true=>
  have y:dd.isRow=true:=by
   cases E:i.k<;>rw[E] at B u<;>cases dd<;>simp[TK.fits,TK.agg] at B u<;>rfl
  rw[run_loadAt_mid w b off t cs dd A I y (by rw[q.info,hl])];simp
 | false=>
  have hs:=q.one u;rw[hs] at hl
  match cs,hl with
  | [c],_=>
   have hc:=A 0 c rfl;have g:=q.agg_run w;rw[u] at g;simp only[Instr.loadAt,Instr.sureAddr,π,τ,ζ,loadVar,g];simp only[Aq,Bq,load];simp only[Sem.run];rw[show(⟨b,off,none⟩:Addr)=⟨b,off+0,none⟩ from rfl,hc];simp
def iU (i:TI) (rs:List R):Option V:=if i.k.agg then some (aRh rs) else match rs with | [r]=>some (.one r) | _=>none
theorem jZ {i:TI}{S:Sto}{μ:Mu}{H:bX}{rs:List R}{vs:List Value}{y:V}(h:aP S μ H rs vs) (hy:iU i rs=some y):aN S μ H y (if i.k.agg then .agg ⟨vs⟩ else vs.headD undef):=by
 unfold iU at hy;cases g:i.k.agg with
 | true=>
  simp only[g,Cg] at hy ⊢;cases hy;exact aBu h
 | false=>
  simp only[g,Aq,Bq] at hy ⊢;split at hy
  ·cases hy;simp only[aP] at h;obtain⟨v,vs',rfl,h1,rfl⟩:=h;simpa [aN] using h1
  ·cases hy
theorem aWb {α:Type}{l:List α}{off k:Nat}(h:off+k≤l.length):((l.drop off).take k).length=k:=by simp;omega
theorem aR8 {t tv:TypeId}{i:TI}{x:Operand}{id off:Nat}{cells:List R}{y:V}(B:Tok P T) (ho:o.op=.load t x) (E:o.dst=some d) (g:d<n) (hi:T[t]?=some (some i)) (hx:opv st x=some (.one (.vp id off)))
  (hh:st.h id=some (.var tv cells)) (hl:Nat.ble (off+i.size) cells.length=true) (hy:iU i ((cells.drop off).take i.size)=some y):Step P n o st ⟨opr x,[id]⟩ ⟨some (d,some y),[]⟩:=by
 refine Step.value E g fun st' ha G S μ a w hs=>?_
 have q:st'.h id=some (.var tv cells):=by rw[ha.2 id (by simp),hh]
 have u:=aK hs hx ha.1;simp only[aN,aY] at u;obtain⟨U,cells',b,c,h1,h2,I⟩:=u;obtain⟨Y,vs,J,M,A,g4⟩:=hs.inv.obj id _ q;rw[J] at h2;cases h2;have hlen:=Am hl;have O:=A.length;refine⟨_,?_,jZ ((A.drop off).take i.size) hy⟩;simp only[execOp,ho,I,π,run_load (B.get hi) w b off _ (iQ M off i.size) (aWb (by omega)),ζ,τ]
def aCn (i:TI) (l:List C):Option V:=if i.k.agg then some (.pa l) else match l with | [c]=>some (.one (.c c)) | _=>none
theorem uZ {i:TI}{S:Sto}{μ:Mu}{H:bX}{l:List C}{vs:List Value}{y:V}(h:bS S l vs) (hy:aCn i l=some y):aN S μ H y (if i.k.agg then .agg ⟨vs⟩ else vs.headD undef):=by
 unfold aCn at hy;cases g:i.k.agg with
 | true=>
  simp only[g,Cg] at hy ⊢;cases hy;simp only[aN];exact⟨vs,rfl,h⟩
 | false=>
  simp only[g,Aq,Bq] at hy ⊢;split at hy
  ·cases hy;simp only[bS] at h;obtain⟨v,vs',rfl,h1,rfl⟩:=h;simpa [aN,aY] using h1
  ·cases hy
theorem kZ {S:Sto}{w:World}(hh:aDn S w) {b off:Nat}{vs:List Value}(h:dX S b off vs):w.rangeAt b off vs:=fun j v g=>hh.cell (h j v g)
theorem aEw {t:TypeId}{i:TI}{x:Operand}{l:List C}{y:V}(B:Tok P T) (ho:o.op=.load t x) (E:o.dst=some d) (q:d<n) (hi:T[t]?=some (some i)) (hx:opv st x=some (.one (.c (.pt l))))
  (hl:i.size≤l.length) (hy:aCn i (l.take i.size)=some y):Step P n o st ⟨opr x,[]⟩ ⟨some (d,some y),[]⟩:=by
 refine Step.value E q fun st' ha G S μ a w hs=>?_
 have u:=aK hs hx ha.1;simp only[aN,aY,Rep] at u;obtain⟨b,off,h1,vs,h2,I⟩:=u;have M:=h2.length;refine⟨_,?_,uZ (h2.take i.size) hy⟩;have J:=kZ hs.inv.holds I;have A:w.rangeAt b off (vs.take i.size):=fun j v g=>by
  rw[Ak] at g;split at g
  ·exact J j v g
  ·cases g
 simp only[execOp,ho,h1,π,run_load (B.get hi) w b off _ A (by simp;omega),ζ,τ]
theorem oR {α:Type}{es:Nat}:∀{l:List (List α)},(∀r∈l,r.length=es)→∀(k:Nat),∀r,l[k]?=some r→(l.flatten.drop (k*es)).take es=r
 | [],_,k,r,h=>by simp at h
 | x::xs,hl,0,r,h=>by
  simp at h;subst h;have:=hl x (by simp);simp[←this]
 | x::xs,hl,k+1,r,h=>by
  simp at h;have hx:=hl x (by simp);have:=oR (l:=xs) (fun r g=>hl r (by simp[g])) k r h;rw[Bb,drop_append,show(k+1)*es-x.length=k*es by rw[hx,A6];omega];rw[drop_of_length_le (by rw[hx,A6];omega),A2];exact this
theorem gI {α:Type}{es:Nat}:∀{l:List (List α)},(∀r∈l,r.length=es)→l.flatten.length=l.length*es
 | [],_=>by simp
 | x::xs,hl=>by
  rw[Bb,η,gI (fun r g=>hl r (by simp[g])),hl x (by simp),Aa,A6];omega
theorem jF.arr {S:Sto}{μ:Mu}{H:bX}{w:World}{id:Nat}{te es:Nat}{elems:List (List C)}{fz:Nat}(h:jF S μ H w id (.arr te es elems fz)) {b base cap:Nat}(hm:μ id=some (b,base,cap)):
  (∀r∈elems,r.length=es)∧∃vs,w.heap[b]?=some (.cells ⟨vs⟩ te (0,0))∧
   base+cap*es≤vs.length∧elems.length≤cap∧(cap≤maxLen∧S.mapo b=none)∧bS S elems.flatten ((vs.drop base).take (elems.length*es))∧
   (fz=0→∀o,base≤o→S.cell b o=none)∧(∀o,base+elems.length*es≤o→S.cell b o=none)∧(fz=2→dX S b base ((vs.drop base).take (elems.length*es))):=by
 obtain⟨h0,⟨h1,_⟩ | ⟨u,g,q,vs,h1,h2⟩⟩:=h
 ·rw[hm] at h1;cases h1
 ·rw[hm] at h1;cases h1;exact⟨h0,vs,h2⟩
theorem aMl {S:Sto}{es base:Nat}{elems:List (List C)}{vs:List Value}(h0:∀r∈elems,r.length=es) (h:bS S elems.flatten ((vs.drop base).take (elems.length*es))) {k:Nat}{r:List C}(g:elems[k]?=some r):
  bS S r ((vs.drop (base+k*es)).take es):=by
 have h1:=(h.drop (k*es)).take es;rw[oR h0 k r g] at h1;have q:k<elems.length:=(Af.1 g).1
 have hle:(k+1)*es≤elems.length*es:=Av _ q;rw[A6] at hle;rw[drop_take,Co,take_take] at h1;rwa [Cv (by omega)] at h1
theorem aEx {t te es:Nat}{i:TI}{x:Operand}{id k fo sz:Nat}{elems:List (List C)}{fz:Nat}{r:List C}{y:V}(J:Tok P T) (ho:o.op=.load t x) (M:o.dst=some d) (B:d<n) (hi:T[t]?=some (some i)) (hx:opv st x=some (.one (.ep id k fo sz)))
  (hh:st.h id=some (.arr te es elems fz)) (hsz:sz=elems.length) (E:elems[k]?=some r) (hl:fo+i.size≤es) (hy:aCn i ((r.drop fo).take i.size)=some y):Step P n o st ⟨opr x,[id]⟩ ⟨some (d,some y),[]⟩:=by
 refine Step.value M B fun st' ha G S μ a w hs=>?_
 have g:st'.h id=some (.arr te es elems fz):=by rw[ha.2 id (by simp),hh]
 have q:=aK hs hx ha.1;simp only[aN,aY] at q;obtain⟨_,q | ⟨te',es',elems',fz',h1,h2,O⟩⟩:=q
 ·rw[g] at q;cases q
 rw[g] at h1;cases h1;obtain⟨h4,b,base,cap,U,Y⟩:=O hsz;obtain⟨I,vs,g1,g2,g3,g4,g5,g6,g7⟩:=(hs.inv.obj id _ g).arr U;have u:=aMl I g5 E;have hlr:=u.length;have hres:r.length=es:=I r (Ag E);have A:=((u.drop fo).take i.size)
 have hlen:=A.length;have hE:((List.drop fo (List.take es (List.drop (base+k*es) vs))).take i.size)=(vs.drop (base+k*es+fo)).take i.size:=by
  rw[drop_take,Co,take_take,Cv (by omega)]
 rw[hE] at A hlen;refine⟨_,?_,uZ A hy⟩;simp only[execOp,ho,Y,π,run_load (J.get hi) w b (base+k*es+fo) _ (iQ g1 _ i.size) (by rw[hlen];simp;omega),ζ,τ]
end
section
variable {P:Program}{n:Nat}{o:Oper}{st:St}{d:Nat}{T:TT}
theorem run_store {t:TypeId}{i:TI}(B:TIok P t i) (w:World) (b off:Nat) (vs news:List Value) (y:TypeId) (v:Value) (E:w.heap[b]?=some (.cells ⟨vs⟩ y (0,0))) (A:v.cells.toList=news) (hl:news.length=i.size) (q:off+news.length≤vs.length) (h1:∀u∈news,u.oneCell'=true):
  (Instr.storeAt t (.pointer (some ⟨b,off,none⟩)) v).run P w=.ok () (w.setRow b ⟨vs.take off++news++vs.drop (off+news.length)⟩):=by
 have hsz:v.cells.size=i.size:=by rw[←hl,←A];simp
 have g:=run_storeCells_at (P:=P) b off y news 0 ⟨vs⟩ w E (by simpa using q) h1;simp only[Ck] at g;simp only[Instr.storeAt,Instr.sureAddr,π,τ,ζ,storeVar,B.size_run w,hsz,A];simp only[ne_eq,not_true_eq_false,Bq,g]
theorem eV {S:Sto}{μ:Mu}{H:bX}{id:Nat}{o o':AObj}{p:Nat×Nat×Nat}(h:H id=some o) (hm:μ id=some p) (hs:o.succ True o'):Evolve S μ H S (upd μ id (some p)) (upd H id (some o')):=by
 refine⟨S.le_refl,fun j x q=>?_⟩;by_cases g:j=id
 ·subst g;rw[h] at q;cases q;refine⟨o',aH _ _ _,?_⟩;have he:upd μ j (some p) j=μ j:=by rw[aH,hm]
  rw[he];simpa using hs
 ·exact⟨x,by rw[aW _ _ _ g];exact q,x.succ_refl (aW _ _ _ g)⟩
theorem Step.turn {rd:Rd}{id:Nat}{ao g:AObj}(J:o.dst=none) (A:st.h id=some ao) (B:id∈rd.h) (u:ao.succ True g)
  (h:∀st',fA rd st st'→st'.h id=some ao→∀G S μ a w,Sim G n S μ st' a w→∃w' y b c,(execOp a.eval o).run P w=.ok .skip w'∧μ id=some (b,c)∧WChg w w' b y∧
   jF S (upd μ id (some (b,c))) (upd st'.h id (some g)) w' id g∧(∀o v,S.cell b o=some v→∃vs t M,y=.cells vs t M∧vs[o]?=some v)∧(∀m,S.mapo b=some m→w.heap.size≤b)):
  Step P n o st rd ⟨none,[(id,some g)]⟩:=by
 intro st' ha G S μ a w K Q hs O;have q:st'.h id=some ao:=by rw[ha.2 id B,A]
 obtain⟨w',y,b,c,U,hm,hw,hO,hS,E⟩:=h st' ha q G S μ a w hs;refine fun ro=>tV U ?_
 rw[J];have I:=eV (S:=S) (μ:=μ) q hm u;have hi:=hs.inv.chg (id:=id) (cap:=c) (ao:=g) hw (.inr ⟨ao,c,q,hm⟩) I hO hS E;refine O S (upd μ id (some (b,c))) _ _ ?_;have:=hs.put_none hi I undef;unfold Eff.apply;rw[bY];exact this
def bQ {α:Type}(l:List α) (off:Nat) (new:List α):List α:=l.take off++new++l.drop (off+new.length)
theorem eU {S:Sto}{w:World}{b:Nat}(hb:S.mapo b=none) (m:MK) (e:S.mapo b=some m):w.heap.size≤b:=by
 rw[hb] at e;cases e
theorem aN8 {t tv:TypeId}{i:TI}{x y:Operand}{id off:Nat}{cells rs:List R}{v:V}(hT:Tok P T) (ho:o.op=.store t x y) (hd:o.dst=none) (hi:T[t]?=some (some i)) (hx:opv st x=some (.one (.vp id off)))
  (hy:opv st y=some v) (hc:fO v=some rs) (hh:st.h id=some (.var tv cells)) (hrs:rs.length=i.size) (hl:Nat.ble (off+i.size) cells.length=true):
  Step P n o st ⟨opr x++opr y,[id]⟩ ⟨none,[(id,some (.var tv (bQ cells off rs)))]⟩:=by
 refine Step.turn hd hh (by simp) (by simp[AObj.succ]) fun st' ha q G S μ a w hs=>?_
 have u:=aK hs hx fun t B=>ha.1 t (by simp[B])
 have U:=aK hs hy fun t B=>ha.1 t (by simp[B])
 simp only[aN,aY] at u;obtain⟨t',cells',b,c,h1,h2,g⟩:=u;obtain⟨b',vs,E,Y,I,J⟩:=hs.inv.obj id _ q;rw[E] at h2;cases h2;have hlen:=Am hl;have hvl:=I.length;have hrel:=dB U hc;have A:=hrel.length;have M:=run_store (hT.get hi) w b off vs (a.eval y).cells.toList tv (a.eval y) Y rfl (by omega) (by omega) hrel.one;have O:=eV (S:=S) (μ:=μ) (o':=.var tv (bQ cells off rs)) q E (by simp[AObj.succ]);have hW:=WChg.setRow w b ⟨vs⟩ ⟨vs.take off++(a.eval y).cells.toList++vs.drop (off+(a.eval y).cells.toList.length)⟩ tv (0,0) Y;refine⟨_,_,b,(0,0),?_,E,hW,⟨b,_,aH _ _ _,hW.new,?_,J⟩,(fun o v e=>by rw[J.1] at e;cases e),fun m e=>eU J.2 m e⟩
 ·simp only[execOp,ho,g,π,M,ζ,τ]
 ·have h1:=aP.evolve O _ _ (I.take off);have h2:=aP.evolve O _ _ hrel;have g:=aP.evolve O _ _ (I.drop (off+rs.length));rw[←A] at g;have:=(h1.append h2).append g;rw[show bQ cells off rs=cells.take off++rs++cells.drop (off+(a.eval y).cells.toList.length) by rw[A];rfl] at this ⊢;exact this
theorem y6 {α:Type}{es:Nat}:∀{l:List (List α)},(∀r∈l,r.length=es)→∀(k:Nat) (r:List α),l[k]?=some r→
  (l.take k).flatten=l.flatten.take (k*es)∧(l.drop (k+1)).flatten=l.flatten.drop (k*es+es)
 | [],_,k,r,h=>by simp at h
 | x::xs,hl,0,r,_=>by
  have hx:=hl x (by simp);simp only[Cz,List.flatten_nil,zero_mul,Ba,Cj,B0,Bb,true_and];rw[drop_append,hx,Cb,B0,drop_of_length_le (by omega),A2]
 | x::xs,hl,k+1,r,h=>by
  have hx:=hl x (by simp);simp at h;obtain⟨h1,h2⟩:=y6 (l:=xs) (fun r g=>hl r (by simp[g])) k r h;simp only[Az,Bb,Cj];rw[h1,h2,List.take_append,drop_append,hx];have q:(k+1)*es-es=k*es:=by rw[A6];omega
  have u:(k+1)*es+es-es=k*es+es:=by rw[A6];omega
  rw[q,u,Aw (l:=x) (by rw[hx,A6];omega),drop_of_length_le (l:=x) (by rw[hx,A6];omega),A2];exact⟨rfl,rfl⟩
theorem aB8 {t te es:Nat}{i:TI}{x y:Operand}{id k fo sz:Nat}{elems:List (List C)}{v:V}{rs:List R}{cs r:List C}(hT:Tok P T) (ho:o.op=.store t x y) (hd:o.dst=none) (hi:T[t]?=some (some i)) (hx:opv st x=some (.one (.ep id k fo sz)))
  (hy:opv st y=some v) (hc:fO v=some rs) (hp:gT rs=some cs) (hh:st.h id=some (.arr te es elems 0)) (hsz:sz=elems.length) (O:elems[k]?=some r) (hcs:cs.length=i.size) (hl:fo+i.size≤es):
  Step P n o st ⟨opr x++opr y,[id]⟩ ⟨none,[(id,some (.arr te es (elems.set k (bQ r fo cs)) 0))]⟩:=by
 refine Step.turn hd hh (by simp) (by simp[AObj.succ]) fun st' ha A G S μ a w hs=>?_
 have hvx:=aK hs hx fun t ht=>ha.1 t (by simp[ht])
 have hvy:=aK hs hy fun t ht=>ha.1 t (by simp[ht])
 simp only[aN,aY] at hvx;obtain⟨_,hv | ⟨te',es',elems',fz',h1,h2,h3⟩⟩:=hvx
 ·rw[A] at hv;cases hv
 rw[A] at h1;cases h1;obtain⟨h4,b,base,cap,h5,h6⟩:=h3 hsz;obtain⟨U,vs,g1,g2,g3,g4,g5,g6,g7⟩:=(hs.inv.obj id _ A).arr h5;have hrel:=dB hvy hc;rw[lZ hp] at hrel;have E:=hrel.pure;have hone:=hrel.one;have hnl:=E.length;have hk:k<elems.length:=(Af.1 O).1
 have hres:r.length=es:=U r (Ag O);have hke:(k+1)*es≤elems.length*es:=Av _ hk;have hce:elems.length*es≤cap*es:=Av _ g3;rw[A6] at hke;generalize Y:(a.eval y).cells.toList=news at *;have hrun:=run_store (hT.get hi) w b (base+k*es+fo) vs news te (a.eval y) g1 Y (by omega) (by omega) hone;have hE:=eV (S:=S) (μ:=μ) (o':=.arr te es (elems.set k (bQ r fo cs)) 0) A h5 (by simp[AObj.succ]);have I:=aMl U g5 O;have B:=y6 U k r O;have hlen:(elems.set k (bQ r fo cs)).length=elems.length:=by simp
 have hW:=WChg.setRow w b ⟨vs⟩ ⟨vs.take (base+k*es+fo)++news++vs.drop (base+k*es+fo+news.length)⟩ te (0,0) g1;refine⟨_,_,b,(base,cap),?_,h5,hW,⟨?_,.inr ⟨b,base,cap,_,aH _ _ _,hW.new,?_,by rw[hlen];exact g3,g4,?_,g6,by rw[hlen];exact g7.1,fun e=>by cases e⟩⟩,fun o v e=>?_,fun m e=>eU g4.2 m e⟩
 ·simp only[execOp,ho,h6,π,hrun,ζ,τ]
 ·intro q hq;rcases List.mem_or_eq_of_mem_set hq with hq | rfl
  ·exact U q hq
  ·unfold bQ;simp;omega
 ·simp only[η,Aj,Bf];omega
 ·rw[hlen];have e1:(elems.set k (bQ r fo cs)).flatten=elems.flatten.take (k*es)++(r.take fo++cs++r.drop (fo+cs.length))++elems.flatten.drop (k*es+es):=by
   rw[Ce,θ hk,Cp,Bb,B.1,B.2,←An];rfl
  have e2:((vs.take (base+k*es+fo)++news++vs.drop (base+k*es+fo+news.length)).drop base).take (elems.length*es)=
    ((vs.drop base).take (elems.length*es)).take (k*es)++((((vs.drop (base+k*es)).take es).take fo)++news++(((vs.drop (base+k*es)).take es).drop (fo+cs.length)))++((vs.drop base).take (elems.length*es)).drop (k*es+es):=by
   apply Ch;intro j;simp only[Ak,Al,B6,η,Aj,Bf];have hm1:min (k*es) (min (elems.length*es) (vs.length-base))=k*es:=by omega
   have hm2:min (base+k*es+fo) vs.length=base+k*es+fo:=by omega
   have hm3:min fo es=fo:=by omega
   have hm4:min es (vs.length-(base+k*es))=es:=by omega
   simp only[hm1,hm2,hm3,hm4,hnl];by_cases c1:j<k*es
   ·have u:j<elems.length*es:=by omega
    have J:base+j<base+k*es+fo:=by omega
    have a3:base+j<base+k*es+fo+cs.length:=by omega
    have a4:j<k*es+(fo+cs.length+(es-(fo+cs.length))):=by omega
    simp[c1,u,J,a3,a4]
   ·by_cases c2:j<k*es+fo
    ·have u:j<elems.length*es:=by omega
     have J:base+j<base+k*es+fo:=by omega
     have a3:base+j<base+k*es+fo+cs.length:=by omega
     have a4:j<k*es+(fo+cs.length+(es-(fo+cs.length))):=by omega
     have g:j-k*es<fo+cs.length:=by omega
     have M:j-k*es<fo:=by omega
     have a7:j-k*es<es:=by omega
     simp[c1,u,J,a3,a4,g,M,a7,show base+k*es+(j-k*es)=base+j by omega]
    ·by_cases c3:j<k*es+fo+cs.length
     ·have u:j<elems.length*es:=by omega
      have J:¬base+j<base+k*es+fo:=by omega
      have a3:base+j<base+k*es+fo+cs.length:=by omega
      have a4:j<k*es+(fo+cs.length+(es-(fo+cs.length))):=by omega
      have g:j-k*es<fo+cs.length:=by omega
      have M:¬j-k*es<fo:=by omega
      simp[c1,u,J,a3,a4,g,M,show base+j-(base+k*es+fo)=j-k*es-fo by omega]
     ·by_cases c4:j<k*es+es
      ·have u:j<elems.length*es:=by omega
       have a3:¬base+j<base+k*es+fo+cs.length:=by omega
       have a4:j<k*es+(fo+cs.length+(es-(fo+cs.length))):=by omega
       have g:¬j-k*es<fo+cs.length:=by omega
       have M:fo+cs.length+(j-k*es-(fo+cs.length))<es:=by omega
       simp[c1,u,a3,a4,g,M,show base+k*es+fo+cs.length+(base+j-(base+k*es+fo+cs.length))=base+j by omega,show base+k*es+(fo+cs.length+(j-k*es-(fo+cs.length)))=base+j by omega]
      ·have a3:¬base+j<base+k*es+fo+cs.length:=by omega
       have a4:¬j<k*es+(fo+cs.length+(es-(fo+cs.length))):=by omega
       by_cases c5:j<elems.length*es
       ·have g:k*es+es+(j-(k*es+(fo+cs.length+(es-(fo+cs.length)))))<elems.length*es:=by omega
        simp[a3,a4,c5,g,show base+k*es+fo+cs.length+(base+j-(base+k*es+fo+cs.length))=base+j by omega,show base+(k*es+es+(j-(k*es+(fo+cs.length+(es-(fo+cs.length))))))=base+j by omega]
       ·have g:¬k*es+es+(j-(k*es+(fo+cs.length+(es-(fo+cs.length)))))<elems.length*es:=by omega
        simp[a4,c5,g]
  rw[e1];show bS S _ (((vs.take (base+k*es+fo)++news++vs.drop (base+k*es+fo+news.length)).drop base).take (elems.length*es));rw[e2];exact((g5.take (k*es)).append (((I.take fo).append E).append (I.drop (fo+cs.length)))).append (g5.drop (k*es+es))
 ·--what stays is not touched
  by_cases hb:base≤o
  ·rw[g6 rfl o hb] at e;cases e
  ·obtain⟨vs0,t0,fr0,q1,q2⟩:=hs.inv.holds.1 b o v e;rw[g1] at q1;cases q1;refine⟨_,_,_,rfl,?_⟩;simp only[Cd] at q2 ⊢;have hlt:o<vs.length:=(Af.1 q2).1
   rw[An,A5 (by simp;omega),Ak,θ (by omega)];exact q2
theorem tO (b off k:Nat):(⟨b,off,none⟩:Addr).add k=⟨b,off+k,none⟩:=Addr.add_mid b off k
theorem fZ {t u:TypeId}{i y:TI}{fs:List (Nat×TypeId)}{f g:Nat}(A:Tok P T) (hi:T[t]?=some (some i)) (E:i.k=.st fs) (q:fs[f]?=some (g,u)) (B:T[u]?=some (some y)) (I:y.size≠0) (w:World) (b off:Nat):
  (Instr.fieldAt t (.pointer (some ⟨b,off,none⟩)) f).run P w=.ok (.pointer (some ⟨b,off+g,none⟩)) w:=by
 obtain⟨fields,h1,h2⟩:=(A.get hi).struct E;rw[h2] at q;simp only[List.getElem?_map,Option.map_eq_some_iff,Array.getElem?_toList] at q;obtain⟨fl,J,M⟩:=q;cases M;simp only[Instr.fieldAt,π,Ah h1 w,ζ,J,Instr.sureAddr,τ,fieldPlace,(A.get B).size_run w];simp[I,tO]
theorem aCd {t q:TypeId}{i u:TI}{fs:List (Nat×TypeId)}{f g:Nat}{x:Operand}{id off:Nat}(E:Tok P T) (ho:o.op=.fieldAddr t x f) (I:o.dst=some d) (y:d<n) (hi:T[t]?=some (some i)) (J:i.k=.st fs) (M:fs[f]?=some (g,q)) (A:T[q]?=some (some u)) (O:u.size≠0)
  (hx:opv st x=some (.one (.vp id off))):Step P n o st ⟨opr x,[]⟩ ⟨some (d,some (.one (.vp id (off+g)))),[]⟩:=by
 refine Step.value I y fun st' ha G S μ a w hs=>?_
 have B:=aK hs hx ha.1;simp only[aN,aY] at B;obtain⟨U,cells',b,c,h1,h2,Y⟩:=B;refine⟨.pointer (some ⟨b,off+g,none⟩),?_,?_⟩
 ·simp only[execOp,ho,Y,π,fZ E hi J M A O,ζ,τ]
 ·simp only[aN,aY];exact⟨U,cells',b,c,h1,h2,rfl⟩
theorem aCf {t q:TypeId}{i u:TI}{fs:List (Nat×TypeId)}{f g:Nat}{x:Operand}{l:List C}(I:Tok P T) (ho:o.op=.fieldAddr t x f) (J:o.dst=some d) (y:d<n) (hi:T[t]?=some (some i)) (M:i.k=.st fs) (O:fs[f]?=some (g,q)) (A:T[q]?=some (some u)) (U:u.size≠0)
  (hx:opv st x=some (.one (.c (.pt l)))):Step P n o st ⟨opr x,[]⟩ ⟨some (d,some (.one (.c (.pt (l.drop g))))),[]⟩:=by
 refine Step.value J y fun st' ha G S μ a w hs=>?_
 have B:=aK hs hx ha.1;simp only[aN,aY,Rep] at B;obtain⟨b,off,h1,vs,h2,Y⟩:=B;refine⟨.pointer (some ⟨b,off+g,none⟩),?_,?_⟩
 ·simp only[execOp,ho,h1,π,fZ I hi M O A U,ζ,τ]
 ·simp only[aN,aY,Rep];refine⟨b,off+g,rfl,vs.drop g,h2.drop g,fun j v E=>?_⟩;rw[Al] at E;have:=Y (g+j) v E;rwa [←add_assoc] at this
theorem aCg {t y:TypeId}{i A:TI}{fs:List (Nat×TypeId)}{f g:Nat}{x:Operand}{id k fo sz:Nat}(I:Tok P T) (ho:o.op=.fieldAddr t x f) (J:o.dst=some d) (B:d<n) (hi:T[t]?=some (some i)) (M:i.k=.st fs) (O:fs[f]?=some (g,y)) (E:T[y]?=some (some A)) (U:A.size≠0)
  {te es:Nat} {elems:List (List C)} {fz:Nat} (hx:opv st x=some (.one (.ep id k fo sz))) (hh:st.h id=some (.arr te es elems fz)) (hsz:sz=elems.length):Step P n o st ⟨opr x,[id]⟩ ⟨some (d,some (.one (.ep id k (fo+g) sz))),[]⟩:=by
 refine Step.value J B fun st' ha G S μ a w hs=>?_
 have q:=aK hs hx ha.1;have u:st'.h id=some (.arr te es elems fz):=by rw[ha.2 id (by simp),hh]
 simp only[aN,aY] at q;obtain⟨_,q | ⟨te',es',elems',fz',h1,h2,Y⟩⟩:=q
 ·rw[u] at q;cases q
 rw[u] at h1;cases h1;obtain⟨h4,b,base,cap,h5,h6⟩:=Y hsz;refine⟨.pointer (some ⟨b,base+k*es+fo+g,none⟩),?_,?_⟩
 ·simp only[execOp,ho,h6,π,fZ I hi M O E U,ζ,τ]
 ·simp only[aN,aY];exact⟨⟨_,rfl⟩,.inr ⟨te,es,elems,fz,u,h2,fun _=>⟨h4,b,base,cap,h5,by rw[add_assoc]⟩⟩⟩
theorem iO {t e:TypeId}{i g:TI}(q:Tok P T) (hi:T[t]?=some (some i)) (y:i.k=.sl e) (u:T[e]?=some (some g)) (w:World) (b off len cap k:Nat) (kk:IntKind) (A:k<len):
  (Instr.indexAt t (.slice (some ⟨b,off,none⟩) len cap) (.int kk (k:Int))).run P w=.ok (.pointer (some ⟨b,off+k*g.size,none⟩)) w:=by
 have h1:=(q.get hi).slice y;simp only[Instr.indexAt,asIntOf,π,τ,ζ,Ah h1 w];rw[θ ⟨by omega,by omega⟩];simp only[π,(q.get u).size_run w,ζ,τ,Int.toNat_natCast,tO]
theorem aOb {t e:TypeId}{i q:TI}{x y:Operand}{es k:Nat}{kk:IntKind}{m:Int}{l:List (List C)}{r:List C}(U:Tok P T) (ho:o.op=.indexAddr t x y) (Y:o.dst=some d) (u:d<n) (hi:T[t]?=some (some i)) (hk:i.k=.sl e) (A:T[e]?=some (some q)) (B:q.size=es)
  (hx:opv st x=some (.one (.c (.sl es l)))) (hy:opv st y=some (I kk m)) (hm:m=(k:Int)) (E:l[k]?=some r):Step P n o st ⟨opr x++opr y,[]⟩ ⟨some (d,some (.one (.c (.pt r)))),[]⟩:=by
 refine Step.value Y u fun st' ha G S μ a w hs=>?_
 have J:=aK hs hx (cR ha).1;have M:=dL (aK hs hy (cR ha).2);have hlt:k<l.length:=(Af.1 E).1
 simp only[aN,aY,Rep] at J;obtain⟨g,len,cap,h1,h2,h3,h4,h5,h6,b,off,h7,h8⟩:=J;cases g with
 | none=>have:=(h5 rfl).1;omega
 | some g=>
  obtain⟨h9,h10⟩:=h7 g rfl;have h11:=h6 g rfl (by omega);have O:g=⟨b,off,none⟩:=by cases g;simp_all
  subst O;subst hm;obtain⟨q1,vs,q2,q3⟩:=h8.get k r E;refine⟨.pointer (some ⟨b,off+k*es,none⟩),?_,?_⟩
  ·simp only[execOp,ho,h1,M,π,iO U hi hk A w b off len cap k kk (by omega),ζ,τ,B]
  ·simp only[aN,aY,Rep];exact⟨b,off+k*es,rfl,vs,q2,q3⟩
theorem aCc {t e:TypeId}{i B:TI}{x y:Operand}{te es k id off len sz:Nat}{kk:IntKind}{m:Int}{elems:List (List C)}{fz:Nat}(hT:Tok P T) (ho:o.op=.indexAddr t x y) (hd:o.dst=some d) (E:d<n) (hi:T[t]?=some (some i)) (hk:i.k=.sl e) (J:T[e]?=some (some B)) (M:B.size=es)
  (hx:opv st x=some (.one (.hs id off len sz))) (hh:st.h id=some (.arr te es elems fz)) (hsz:sz=elems.length) (hy:opv st y=some (I kk m)) (hm:m=(k:Int)) (O:k<len):Step P n o st ⟨opr x++opr y,[id]⟩ ⟨some (d,some (.one (.ep id (off+k) 0 sz))),[]⟩:=by
 refine Step.value hd E fun st' ha G S μ a w hs=>?_
 have g:=aK hs hx fun t u=>ha.1 t (by simp[u])
 have U:=dL (aK hs hy fun t u=>ha.1 t (by simp[u]));have q:st'.h id=some (.arr te es elems fz):=by rw[ha.2 id (by simp),hh]
 simp only[aN,aY] at g;obtain⟨_,g | ⟨te',es',elems',fz',h1,h2,h3⟩⟩:=g
 ·rw[q] at g;cases g
 rw[q] at h1;cases h1;obtain⟨h4,⟨Y,A,h7⟩ | ⟨b,base,cap,Y,A⟩⟩:=h3 hsz
 ·subst A;simp at hsz;omega
 subst hm;refine⟨.pointer (some ⟨b,base+(off+k)*es+0,none⟩),?_,?_⟩
 ·simp only[execOp,ho,A,U,π,iO hT hi hk J w b (base+off*es) len _ k kk O,ζ,τ,M,Ck];rw[show base+off*es+k*es=base+(off+k)*es by rw[A6];omega]
 ·simp only[aN,aY];exact⟨⟨_,rfl⟩,.inr ⟨te,es,elems,fz,q,h2,fun _=>⟨by omega,b,base,cap,Y,rfl⟩⟩⟩
theorem u7 {t e:TypeId}{m:Nat}{i g:TI}(q:Tok P T) (hi:T[t]?=some (some i)) (y:i.k=.ar m e) (u:T[e]?=some (some g)) (w:World) (b off k:Nat) (kk:IntKind) (A:k<m):
  (Instr.indexAt t (.pointer (some ⟨b,off,none⟩)) (.int kk (k:Int))).run P w=.ok (.pointer (some ⟨b,off+k*g.size,none⟩)) w:=by
 have h1:=(q.get hi).array y;have h2:(Instr.sureAddr (.pointer (some ⟨b,off,none⟩))).run P w=.ok ⟨b,off,none⟩ w:=by simp[Instr.sureAddr]
 simp only[Instr.indexAt,asIntOf,π,τ,ζ,Ah h1 w,h2];rw[θ ⟨by omega,by omega⟩];simp only[π,(q.get u).size_run w,ζ,τ,Int.toNat_natCast,tO]
theorem xL {t e:TypeId}{i g:TI}{x y:Operand}{id off k m:Nat}{kk:IntKind}{q:Int}(M:Tok P T) (ho:o.op=.indexAddr t x y) (O:o.dst=some d) (u:d<n) (hi:T[t]?=some (some i)) (U:i.k=.ar m e) (A:T[e]?=some (some g))
  (hx:opv st x=some (.one (.vp id off))) (hy:opv st y=some (I kk q)) (hm:q=(k:Int)) (B:k<m):Step P n o st ⟨opr x++opr y,[]⟩ ⟨some (d,some (.one (.vp id (off+k*g.size)))),[]⟩:=by
 refine Step.value O u fun st' ha G S μ a w hs=>?_
 have E:=aK hs hx (cR ha).1;have J:=dL (aK hs hy (cR ha).2);simp only[aN,aY] at E;obtain⟨Y,cells',b,c,h1,h2,h3⟩:=E;subst hm;refine⟨.pointer (some ⟨b,off+k*g.size,none⟩),?_,?_⟩
 ·simp only[execOp,ho,h3,J,π,u7 M hi U A w b off k kk B,ζ,τ]
 ·simp only[aN,aY];exact⟨Y,cells',b,c,h1,h2,rfl⟩
def notNil:V→Bool
 | .one (.vp _ _)=>true
 | .one (.c (.pt _))=>true
 | .one (.pas _)=>true
 | _=>false
theorem aB9 {x:Operand}{y:V}(ho:o.op=.nilCheck x) (A:o.dst=some d) (u:d<n) (hx:opv st x=some y) (q:notNil y=true):Step P n o st ⟨opr x,[]⟩ ⟨some (d,some y),[]⟩:=by
 refine Step.value A u fun st' ha G S μ a w hs=>⟨a.eval x,?_,aK hs hx ha.1⟩
 have g:=aK hs hx ha.1;unfold notNil at q;split at q
 ·simp only[aN,aY] at g;obtain⟨E,cells',b,c,h1,h2,B⟩:=g;simp[execOp,ho,B]
 ·simp only[aN,aY,Rep] at g;obtain⟨b,off,h1,_⟩:=g;simp[execOp,ho,h1]
 ·simp only[aN,aY] at g;obtain⟨b,off,h1,_⟩:=g;simp[execOp,ho,h1]
 ·cases q
theorem iN {t:TypeId}{x:Operand}{a:Act}{w:World}{u:Value}{m:Int}(ho:o.op=.call { callee:=.builtin .len,args:= #[x],argTypes:= #[t] }) (hx:a.eval x=u) (g:(Builtin.len_ #[t] o.type #[u]).run P w=.ok (goInt m) w):
  (execOp a.eval o).run P w=.ok (.value (goInt m)) w:=by
 simp only[execOp,ho,resolve,map_toArray,Be,map_nil,hx,π,τ,ζ,invoke,builtin,g]
theorem aJm {t e:TypeId}{i:TI}{x:Operand}{es:Nat}{l:List (List C)}(u:Tok P T) (ho:o.op=.call { callee:=.builtin .len,args:= #[x],argTypes:= #[t] }) (y:o.dst=some d) (g:d<n) (hi:T[t]?=some (some i)) (A:i.k=.sl e)
  (hx:opv st x=some (.one (.c (.sl es l)))):Step P n o st ⟨opr x,[]⟩ ⟨some (d,some (I .i64 (l.length:Int))),[]⟩:=by
 refine Step.value y g fun st' ha G S μ a w hs=>?_
 have q:=aK hs hx ha.1;simp only[aN,aY,Rep] at q;obtain⟨B,len,cap,h1,h2,_⟩:=q;refine⟨goInt l.length,iN ho h1 ?_,by simp[aN,aY,Rep,goInt]⟩;simp[Builtin.len_,Ah ((u.get hi).slice A) w,h2]
theorem aJo {t e:TypeId}{i:TI}{x:Operand}(u:Tok P T) (ho:o.op=.call { callee:=.builtin .len,args:= #[x],argTypes:= #[t] }) (y:o.dst=some d) (g:d<n) (hi:T[t]?=some (some i)) (A:i.k=.sl e)
  (hx:opv st x=some (.one (.c .nl))):Step P n o st ⟨opr x,[]⟩ ⟨some (d,some (I .i64 0)),[]⟩:=by
 refine Step.value y g fun st' ha G S μ a w hs=>?_
 have q:=aK hs hx ha.1;simp only[aN,aY,Rep] at q;refine⟨goInt 0,iN ho q ?_,by simp[aN,aY,Rep,goInt]⟩;simp[Builtin.len_,Ah ((u.get hi).slice A) w]
theorem aJp {t e:TypeId}{i:TI}{x:Operand}{te es id off len sz:Nat}{elems:List (List C)}{fz:Nat}(y:Tok P T) (ho:o.op=.call { callee:=.builtin .len,args:= #[x],argTypes:= #[t] }) (J:o.dst=some d) (A:d<n) (hi:T[t]?=some (some i)) (B:i.k=.sl e)
  (hx:opv st x=some (.one (.hs id off len sz))) (hh:st.h id=some (.arr te es elems fz)) (hsz:sz=elems.length):Step P n o st ⟨opr x,[id]⟩ ⟨some (d,some (I .i64 (len:Int))),[]⟩:=by
 refine Step.value J A fun st' ha G S μ a w hs=>?_
 have g:=aK hs hx ha.1;have q:st'.h id=some (.arr te es elems fz):=by rw[ha.2 id (by simp),hh]
 simp only[aN,aY] at g;obtain⟨_,g | ⟨Y,aa,elems',ab,h1,h2,M⟩⟩:=g
 ·rw[q] at g;cases g
 rw[q] at h1;cases h1;obtain⟨h4,⟨O,u,U⟩ | ⟨b,base,cap,O,u⟩⟩:=M hsz
 ·subst u;simp at hsz;have E:len=0:=by omega
  refine⟨goInt len,iN ho U ?_,by simp[aN,aY,Rep,goInt]⟩;simp[Builtin.len_,Ah ((y.get hi).slice B) w,E]
 ·refine⟨goInt len,iN ho u ?_,by simp[aN,aY,Rep,goInt]⟩;simp[Builtin.len_,Ah ((y.get hi).slice B) w]
theorem aEy {t:TypeId}{i:TI}{x:Operand}{s:List UInt8}(q:Tok P T) (ho:o.op=.call { callee:=.builtin .len,args:= #[x],argTypes:= #[t] }) (u:o.dst=some d) (g:d<n) (hi:T[t]?=some (some i)) (y:i.k=.str)
  (hx:opv st x=some (Go.AM.T s)):Step P n o st ⟨opr x,[]⟩ ⟨some (d,some (I .i64 (s.length:Int))),[]⟩:=by
 refine Step.value u g fun st' ha G S μ a w hs=>?_
 have A:=jW (aK hs hx ha.1);refine⟨goInt s.length,iN ho A ?_,by simp[aN,aY,Rep,goInt]⟩;simp[Builtin.len_,Ah ((q.get hi).str y) w];rfl
end
section
variable {P:Program}{n:Nat}{o:Oper}{st:St}{d:Nat}{T:TT}
theorem mC (off:Nat):∀(vs:List Value) (j:Nat) (cells:Array Value),off+j+vs.length≤cells.size→
  (vs.zipIdx j).foldl (fun cs (x:Value×Nat)=>cs.setIfInBounds (off+x.2) x.1) cells=⟨bQ cells.toList (off+j) vs⟩
 | [],j,cells,_=>by simp[bQ]
 | v::vs,j,cells,h=>by
  simp only[Aa] at h;have J:=mC off vs (j+1) (cells.setIfInBounds (off+j) v) (by simp;omega);simp only[List.zipIdx_cons,Cw,J];congr 1;unfold bQ;simp only[Array.toList_setIfInBounds];apply Ch;intro k;simp only[B6,η,Aj,length_set,Ax,Aa,Ak,Al,List.getElem?_set];have A:min (off+(j+1)) cells.size=off+j+1:=by omega
  have B:min (off+j) cells.size=off+j:=by omega
  simp only[A,B];by_cases E:k<off+j
  ·have q:k<off+j+1+vs.length:=by omega
   have u:k<off+j+1:=by omega
   have a3:k<off+(j+1):=by omega
   have a4:k<off+j+(vs.length+1):=by omega
   have g:¬off+j=k:=by omega
   simp[E,q,u,a3,a4,g]
  ·by_cases M:k=off+j
   ·subst M;have q:off+j<off+j+1+vs.length:=by omega
    have g:off+j<cells.size:=by omega
    have y:off+j<off+(j+1):=by omega
    simp[q,g,y]
   ·by_cases I:k<off+j+1+vs.length
    ·have u:¬k<off+j+1:=by omega
     have a4:k<off+j+(vs.length+1):=by omega
     have y:k-(off+j)=(k-(off+j+1))+1:=by omega
     simp[E,I,u,a4,y]
    ·have a4:¬k<off+j+(vs.length+1):=by omega
     have g:¬off+j=k:=by omega
     simp[I,a4,g,show off+(j+1)+vs.length+(k-(off+j+1+vs.length))=k by omega,show off+j+(vs.length+1)+(k-(off+j+(vs.length+1)))=k by omega]
def nP (st:St):List (Nat×Operand)→Option (List (Nat×List R))
 | []=>some []
 | (i,x)::ps=>match opv st x with
  | some v=>match fO v with
   | some rs=>match nP st ps with | some l=>some ((i,rs)::l) | none=>none
   | none=>none
  | none=>none
def eQ:List (Nat×Operand)→List Nat
 | []=>[]
 | (_,x)::ps=>opr x++eQ ps
def aCv (places:List (Nat×Nat)):List R→List (Nat×List R)→Option (List R)
 | cells,[]=>some cells
 | cells,(i,rs)::ps=>match places[i]? with
  | some (off,size)=>if Nat.beq rs.length size&&Nat.ble (off+rs.length) cells.length then aCv places (bQ cells off rs) ps else none
  | none=>none
def jU (T:TT):List (Nat×TypeId)→Option (List (Nat×Nat))
 | []=>some []
 | (off,t)::fs=>match T[t]? with
  | some (some i)=>match jU T fs with | some l=>some ((off,i.size)::l) | none=>none
  | _=>none
theorem aCj {G:Ctx}{S:Sto}{μ:Mu}{st':St}{a:Act}{w:World}(hs:Sim G n S μ st' a w):∀(ps:List (Nat×Operand)) (l:List (Nat×List R)),nP st ps=some l→(∀t∈eQ ps,st'.e t=st.e t)→
  ∃vs:List (Nat×Value),ps.map (fun(i,x)=>(i,a.eval x))=vs∧vs.length=l.length∧∀(k:Nat) (p:Nat×List R),l[k]?=some p→∃v:Value,vs[k]?=some (p.1,v)∧aP S μ st'.h p.2 v.cells.toList:=by
 intro ps
 induction ps with
 | nil=>intro l h _;simp[nP] at h;subst h;exact⟨[],rfl,rfl,fun k p h=>by simp at h⟩
 | cons p ps y=>
  obtain⟨i,x⟩:=p;intro l h ha;simp only[nP] at h;split at h
  ·rename_i v A;split at h
   ·rename_i rs hc;split at h
    ·rename_i l' u;cases h;obtain⟨vs,h1,h2,B⟩:=y l' u fun t g=>ha t (by simp[eQ,g])
     refine⟨(i,a.eval x)::vs,by simp[h1],by simp[h2],fun k q hq=>?_⟩;cases k with
     | zero=>
      simp at hq;subst hq;exact⟨a.eval x,rfl,dB (aK hs A fun t g=>ha t (by simp[eQ,g])) hc⟩
     | succ k=>simp at hq;simpa using B k q hq
    ·cases h
   ·cases h
  ·cases h
theorem qP {S:Sto}{μ:Mu}{H:bX}{cells rs:List R}{vs us:List Value}{off:Nat}(h:aP S μ H cells vs) (k:aP S μ H rs us):aP S μ H (bQ cells off rs) (bQ vs off us):=by
 have hl:=k.length;unfold bQ;rw[hl];exact((h.take off).append k).append (h.drop _)
theorem aGa {S:Sto}{μ:Mu}{H:bX}{u:List (Nat×Nat)}:∀(ps:List (Nat×List R)) (vs:List (Nat×Value)) (cells:List R) (cs:Array Value) (out:List R),aCv u cells ps=some out→aP S μ H cells cs.toList→
  vs.length=ps.length→(∀(k:Nat) (p:Nat×List R),ps[k]?=some p→∃v:Value,vs[k]?=some (p.1,v)∧aP S μ H p.2 v.cells.toList)→
  ∃g,Instr.fill (u[·]?) cs vs=some g∧aP S μ H out g.toList:=by
 intro ps
 induction ps with
 | nil=>
  intro vs cells cs out h y hl _;simp at hl;subst hl;simp[aCv] at h;subst h;exact⟨cs,rfl,y⟩
 | cons p ps U=>
  intro vs cells cs out h y hl hp;obtain⟨i,rs⟩:=p
  match vs,hl with
  | q::vs,hl=>
   obtain⟨v,E,hrel⟩:=hp 0 (i,rs) rfl;simp at E;subst E;simp only[aCv] at h;split at h
   ·rename_i off size I;split at h
    ·rename_i hc;simp only[ε] at hc;have aa:=δ hc.1;have ab:=Am hc.2;have J:=hrel.length;have M:=y.length;simp only[Ax] at J M;have B:=mC off v.cells.toList 0 cs (by simp;omega);obtain⟨g,h1,h2⟩:=U vs (bQ cells off rs) ⟨bQ cs.toList off v.cells.toList⟩ out h (qP y hrel) (by simpa using hl) fun k p Y=>by simpa using hp (k+1) p (by simpa using Y)
     refine⟨g,?_,h2⟩;simp only[Instr.fill];rw[I];simp only[];have A:(v.cells.size≠size || decide (off+v.cells.size>cs.size))=false:=by
      simp only[Bool.or_eq_false_iff,decide_eq_false_iff_not];exact⟨by simp;omega,by omega⟩
     simp only[A,Aq,Bq];have O:(v.cells.zipIdx.foldl (fun cs (x:Value×Nat)=>cs.setIfInBounds (off+x.2) x.1) cs)=⟨bQ cs.toList off v.cells.toList⟩:=by
      rw[←Array.foldl_toList,Array.toList_zipIdx];simpa using B
     rw[←h1];congr 1
    ·cases h
   ·cases h
theorem qV (q:Tok P T):∀(fs:List (Nat×TypeId)) (fields:List Field) (g:List (Nat×Nat)),fs=fields.map (fun f=>(f.offset,f.type))→jU T fs=some g→
  fields.mapM (fun f=>(P.info? f.type).map fun i=>(f.offset,i.size))=some g
 | _,[],g,h,hp=>by simp at h;subst h;simp[jU] at hp;subst hp;rfl
 | _,f::fields,g,h,hp=>by
  simp only[Be] at h;subst h;simp only[jU] at hp;split at hp
  ·rename_i i hi;split at hp
   ·rename_i l hl;cases hp;have u:=qV q _ fields l rfl hl;have hsz:=(q.get hi).info;simp only[List.mapM_cons,u];cases hq:P.info? f.type with
    | none=>simp[hq] at hsz
    | some inf=>
     simp[hq] at hsz;simp[hsz]
   ·cases hp
  ·cases hp
theorem aOf {t:TypeId}{i:TI}{fs:List (Nat×TypeId)}{g:List (Nat×Nat)}{parts:Array (Nat×Operand)}{ps:List (Nat×List R)}{out:List R}(u:Tok P T) (ho:o.op=.build t parts) (I:o.dst=some d) (y:d<n) (hi:T[t]?=some (some i)) (J:i.k=.st fs)
  (A:jU T fs=some g) (B:nP st parts.toList=some ps) (M:aCv g (i.zero.map R.c) ps=some out):Step P n o st ⟨eQ parts.toList,[]⟩ ⟨some (d,some (aRh out)),[]⟩:=by
 refine Step.value I y fun st' ha G S μ a w hs=>?_
 obtain⟨vs,h1,h2,O⟩:=aCj hs _ _ B ha.1;obtain⟨fields,hu,E⟩:=(u.get hi).struct J;obtain⟨inf,dd,z,U,g2,g3,g4,g5,Y,g7,g8⟩:=(u.get hi).ex;obtain⟨q,h4,h5⟩:=aGa (S:=S) (μ:=μ) (H:=st'.h) ps vs (i.zero.map R.c) z.cells out M (fY g7).toR h2 O;refine⟨.agg q,?_,?_⟩
 ·have hb:P.built t (parts.map fun(i,x)=>(i,a.eval x)).toList=some q:=by
   unfold Program.built;simp only[U,hu,Y,qV u fs fields.toList g E A];rw[←h4,←h1];simp
  simp only[execOp,ho,π,run_build w t _ q hb,ζ,τ]
 ·have:=aBu h5;simpa using this
theorem aOc {t U:TypeId}{i g:TI}{fs:List (Nat×TypeId)}{f q:Nat}{x:Operand}{v y:V}{rs:List R}(A:Tok P T) (ho:o.op=.field t x f) (hd:o.dst=some d) (Y:d<n) (hi:T[t]?=some (some i)) (hk:i.k=.st fs) (J:fs[f]?=some (q,U)) (u:T[U]?=some (some g))
  (hx:opv st x=some v) (aa:(match v with | .pa _=>true | .ma _=>true | _=>false)=true) (hc:fO v=some rs) (hl:Nat.ble (q+g.size) rs.length=true) (hy:iU g ((rs.drop q).take g.size)=some y):Step P n o st ⟨opr x,[]⟩ ⟨some (d,some y),[]⟩:=by
 refine Step.value hd Y fun st' ha G S μ a w hs=>?_
 have B:=aK hs hx ha.1;have hrel:=dB B hc;have M:∃cs,a.eval x=.agg cs:=by
  cases v<;>simp only[aN] at B<;>simp at aa
  ·obtain⟨vs,h,_⟩:=B;exact⟨_,h⟩
  ·obtain⟨vs,h,_⟩:=B;exact⟨_,h⟩
 obtain⟨cs,E⟩:=M;rw[E] at hrel;simp only[Value.cells] at hrel;have ab:=hrel.length;have hl':=Am hl;simp only[Ax] at ab;obtain⟨fields,h1,h2⟩:=(A.get hi).struct hk;rw[h2] at J;simp only[List.getElem?_map,Option.map_eq_some_iff,Array.getElem?_toList] at J;obtain⟨fl,h3,h4⟩:=J;cases h4;have O:=jZ ((hrel.drop fl.offset).take g.size) hy;refine⟨_,?_,O⟩;simp only[execOp,ho,E,π,Instr.field,Ah h1 w,ζ,h3,asAgg,τ,part,(A.get u).agg_run w];cases ac:g.k.agg with
 | true=>
  simp only[Cg,π,(A.get u).size_run w,ζ,τ];congr 3;have:(cs.extract fl.offset (fl.offset+g.size)).toList=(cs.toList.drop fl.offset).take g.size:=by simp
  rw[←this]
 | false=>
  have ad:=(A.get u).one ac;simp only[Aq,Bq];have I:fl.offset<cs.size:=by omega
  have he:cs[fl.offset]?=some cs[fl.offset]:=by simp[I]
  rw[he];simp only[τ,ζ];congr 2;rw[ad,List.take_one,List.head?_drop];simp[I]
end
inductive Cle:C→C→Prop
 | refl {x}:Cle x x
 | nl {es}:Cle .nl (.sl es [])
 | sn {es l}:Cle (.sn es l) (.sl es l)
 | sg {te es l}:Cle (.sg te es l) (.sl es l)
theorem Cle.rep {S:Sto}{x y:C}{v:Value}(h:Cle x y) (k:Rep S x v):Rep S y v:=by
 cases h with
 | refl=>exact k
 | sg=>
  simp only[Rep] at k ⊢;obtain⟨a,len,cap,h1,h2,q,u,g⟩:=k;rcases g with⟨rfl,g,A⟩ | ⟨b,o,rfl,A,_⟩
  ·refine⟨none,len,cap,h1,h2,q,u,fun _=>⟨g,A⟩,by simp,0,0,by simp,?_⟩;have:(_:List (List C)).length=0:=h2.symm.trans g;rw[Ap this];simp[bG]
  ·exact⟨some ⟨b,o,none⟩,len,cap,h1,h2,q,u,by simp,fun B e _=>by cases e;rfl,b,o,fun B e=>by cases e;exact⟨rfl,rfl⟩,A⟩
 | nl=>
  simp only[Rep] at k ⊢;exact⟨none,0,0,k,by simp,le_refl _,Ad _,fun _=>⟨rfl,rfl⟩,by simp,0,0,by simp,by simp[bG]⟩
 | sn=>
  simp only[Rep] at k ⊢;obtain⟨b,o,sp,len,cap,h1,h2,q,u,E,g⟩:=k;exact⟨some ⟨b,o,sp⟩,len,cap,h1,h2,q,u,by simp,by rintro B ⟨⟩;exact E,b,o,by rintro B ⟨⟩;exact⟨rfl,rfl⟩,g⟩
inductive PureL (h:bX):List Nat→List R→List C→Prop
 | nil:PureL h [] [] []
 | c {ids rs cs x y}:Cle x y→PureL h ids rs cs→PureL h ids (.c x::rs) (y::cs)
 | hs {ids rs cs id off len sz te es elems e}:h id=some (.arr te es elems 2)→sz=elems.length→e=(elems.drop off).take len→PureL h ids rs cs→PureL h (id::ids) (.hs id off len sz::rs) (.sl es e::cs)
 | any {ids rs cs r}:PureL h ids rs cs→PureL h ids (r::rs) (.any::cs)
 | fn {ids rs cs f}:PureL h ids rs cs→PureL h ids (.clo f []::rs) (.fn f::cs)
 | ras {ids ids' ids0 rs cs n es l fl rows}:ids0=ids'++ids→PureL h ids' l fl→fl=rows.flatten→(∀r∈rows,r.length=es)→rows.length=n→PureL h ids rs cs→PureL h ids0 (.ras n es l::rs) (.sl es rows::cs)
theorem PureL.of_pure {h:bX}:∀{cs:List C},PureL h [] (cs.map R.c) cs
 | []=>.nil
 | _::_=>.c .refl PureL.of_pure
def aE8:List R→List C
 | []=>[]
 | .c x::l=>x::aE8 l
 | .clo f []::l=>.fn f::aE8 l
 | _::l=>.any::aE8 l
theorem PureL.ofA {h:bX}:∀{rs:List R},PureL h [] rs (aE8 rs)
 | []=>.nil
 | .c _::_=>.c .refl .ofA
 | .hs ..::_=>.any .ofA
 | .tl ..::_=>.any .ofA
 | .vp ..::_=>.any .ofA
 | .ep ..::_=>.any .ofA
 | .mr ..::_=>.any .ofA
 | .clo _ []::_=>.fn .ofA
 | .clo _ (_::_)::_=>.any .ofA
 | .mth ..::_=>.any .ofA
 | .yl ..::_=>.any .ofA
 | .ra ..::_=>.any .ofA
 | .rp ..::_=>.any .ofA
 | .ras ..::_=>.any .ofA
 | .pas ..::_=>.any .ofA
theorem aSx {S:Sto}{μ:Mu}{H:bX}{w:World}{id off len sz te es:Nat}{elems:List (List C)}{v:Value}(hO:jF S μ H w id (.arr te es elems 2)) (hh:H id=some (.arr te es elems 2)) (hsz:sz=elems.length)
  (g:aY S μ H (.hs id off len sz) v):Rep S (.sl es ((elems.drop off).take len)) v:=by
 simp only[aY] at g;obtain⟨_,g | ⟨O,U,elems',Y,h1,h2,y⟩⟩:=g
 ·rw[hh] at g;cases g
 rw[hh] at h1;cases h1;obtain⟨h4,⟨u,q,A⟩ | ⟨b,base,cap,u,q⟩⟩:=y hsz
 ·subst q;simp only[Rep];exact⟨none,0,0,A,by simp,le_refl _,Ad _,fun _=>⟨rfl,rfl⟩,by simp,0,0,by simp,by simp[bG]⟩
 ·obtain⟨B,vs,g1,g2,g3,E,I,g6,g7,J⟩:=hO.arr u;simp only[Rep];have hlen:((elems.drop off).take len).length=len:=by simp;omega
  refine⟨_,len,cap-off,q,hlen.symm,by omega,le_trans (Nat.sub_le _ _) E.1,by simp,by rintro M ⟨⟩;exact fun _=>rfl,b,base+off*es,by rintro M ⟨⟩;exact⟨rfl,rfl⟩,?_⟩;have:=bG.of_flat B I (J rfl);exact(this.drop off).take len
theorem PureL.rel {S:Sto}{μ:Mu}{H H0:bX}{w:World}:∀{ids:List Nat}{rs:List R}{cs:List C}{vs:List Value},PureL H0 ids rs cs→(∀i∈ids,H i=H0 i)→(∀id o,H id=some o→jF S μ H w id o)→aP S μ H rs vs→bS S cs vs:=by
 intro ids rs cs vs hp
 induction hp generalizing vs with
 | nil=>intro _ _ h;simp only[aP] at h;subst h;simp[bS]
 | c hc _ g=>
  intro hi hO h;simp only[aP] at h;obtain⟨v,vs',rfl,h1,h2⟩:=h;simp only[aY] at h1;simp only[bS];exact⟨v,vs',rfl,hc.rep h1,g hi hO h2⟩
 | @ras ids ids' ids0 rs cs n es l fl rows q _ u y hn _ A g=>
  subst q;intro hi hO h;simp only[aP] at h;obtain⟨v,vs',rfl,h1,h2⟩:=h;simp only[aY] at h1;simp only[bS];refine⟨v,vs',rfl,?_,g (fun i hh=>hi i (by simp[hh])) hO h2⟩;obtain⟨a,cap,I,g2,J,M,O,U,b,o,Y,us,g8,g9⟩:=h1;have B:=A (fun i hh=>hi i (by simp[hh])) hO g8;subst u;simp only[Rep];exact⟨a,n,cap,I,hn.symm,J,M,O,fun ad e _=>U ad e,b,o,Y,bG.of_flat y B g9⟩
 | any _ g=>
  intro hi hO h;simp only[aP] at h;obtain⟨v,vs',rfl,h1,h2⟩:=h;simp only[bS];exact⟨v,vs',rfl,by simp only[Rep];exact h1.one,g hi hO h2⟩
 | fn _ g=>
  intro hi hO h;simp only[aP] at h;obtain⟨v,vs',rfl,h1,h2⟩:=h;simp only[aY,aP] at h1;obtain⟨us,rfl,rfl⟩:=h1;simp only[bS];exact⟨_,vs',rfl,by simp only[Rep],g hi hO h2⟩
 | @hs ids rs cs id off len sz te es elems e he hsz E _ g=>
  intro hi hO h;simp only[aP] at h;obtain⟨v,vs',rfl,h1,h2⟩:=h;simp only[bS];have hh:H id=some (.arr te es elems 2):=by rw[hi id (by simp),he]
  exact⟨v,vs',rfl,by rw[E];exact aSx (hO id _ hh) hh hsz h1,g (fun i h=>hi i (by simp[h])) hO h2⟩
inductive RowsV (st:St) (es:Nat):Nat→List Nat→List (Nat×Operand)→List (List C)→Prop
 | nil {k}:RowsV st es k [] [] []
 | cons {k ids ids' x ps v rs cs rows}:opv st x=some v→fO v=some rs→PureL st.h ids rs cs→Nat.beq rs.length es=true→RowsV st es (k+1) ids' ps rows→RowsV st es k (ids++ids') ((k,x)::ps) (cs::rows)
section
variable {P:Program}{n:Nat}{o:Oper}{st:St}{d:Nat}{T:TT}
theorem aB4 {G:Ctx}{S:Sto}{μ:Mu}{st':St}{a:Act}{w:World}(hs:Sim G n S μ st' a w) {es:Nat}:∀{k:Nat}{ids:List Nat}{ps:List (Nat×Operand)}{rows:List (List C)},RowsV st es k ids ps rows→(∀t∈eQ ps,st'.e t=st.e t)→(∀i∈ids,st'.h i=st.h i)→
  ∀(cells:Array Value),cells.size=(k+ps.length)*es→∃out:Array Value,Instr.fill (fun i=>some (i*es,es)) cells (ps.map fun(i,x)=>(i,a.eval x))=some out∧out.size=cells.size∧
   ∃us,bS S rows.flatten us∧out.toList=cells.toList.take (k*es)++us∧(∀r∈rows,r.length=es):=by
 intro k ids ps rows h
 induction h with
 | nil=>
  intro _ _ cells hc;refine⟨cells,rfl,rfl,[],by simp[bS],?_,by simp⟩;rw[A0,Aw];simp at hc;simp[hc]
 | @cons k ids ids' x ps v rs cs rows J hc hp hl _ M=>
  intro ha hi cells hsz;have aa:=δ hl;have hrel:=dB (aK hs J fun t y=>ha t (by simp[eQ,y])) hc;have g:=hp.rel (fun i h=>hi i (by simp[h])) hs.inv.obj hrel;have E:=hrel.length;simp only[Ax] at E;simp only[Aa] at hsz;have ab:(k+(ps.length+1))*es=k*es+es+ps.length*es:=by
   rw[A6,A6];omega
  have A:=mC (k*es) (a.eval x).cells.toList 0 cells (by simp only[Ax];omega);have u:(bQ cells.toList (k*es) (a.eval x).cells.toList).length=cells.size:=by
   unfold bQ;simp;omega
  obtain⟨out,h1,h2,us,O,U,Y⟩:=M (fun t y=>ha t (by simp[eQ,y])) (fun i h=>hi i (by simp[h])) ⟨bQ cells.toList (k*es) (a.eval x).cells.toList⟩ (by
   simp only[size_toArray,u,hsz];congr 1
   omega)
  refine⟨out,?_,by rw[h2];simpa using u,(a.eval x).cells.toList++us,?_,?_,?_⟩
  ·simp only[Be,Instr.fill];have q:((a.eval x).cells.size≠es || decide (k*es+(a.eval x).cells.size>cells.size))=false:=by
    simp only[Bool.or_eq_false_iff,decide_eq_false_iff_not];exact⟨by simp;omega,by omega⟩
   simp only[q,Aq,Bq];have I:((a.eval x).cells.zipIdx.foldl (fun cs (x:Value×Nat)=>cs.setIfInBounds (k*es+x.2) x.1) cells)=⟨bQ cells.toList (k*es) (a.eval x).cells.toList⟩:=by
    rw[←Array.foldl_toList,Array.toList_zipIdx];simpa using A
   rw[←h1];congr 1
  ·rw[Bb];exact g.append O
  ·rw[U];have:(bQ cells.toList (k*es) (a.eval x).cells.toList).take ((k+1)*es)=cells.toList.take (k*es)++(a.eval x).cells.toList:=by
    unfold bQ;apply take_left';simp;rw[A6];omega
   show(bQ cells.toList (k*es) (a.eval x).cells.toList).take ((k+1)*es)++us=_;rw[this,An]
  ·intro r B;rcases Au.1 B with rfl | B
   ·have:=g.length;simp only[Ax] at this;omega
   ·exact Y r B
theorem RowsV.lengths {es k:Nat}{ids:List Nat}{ps:List (Nat×Operand)}{rows:List (List C)}(h:RowsV st es k ids ps rows):rows.length=ps.length:=by
 induction h with
 | nil=>rfl
 | cons _ _ _ _ _ g=>simp[g]
theorem aEr {t e:TypeId}{i g:TI}{len:Nat}{parts:Array (Nat×Operand)}{ids:List Nat}{rows:List (List C)}(id:Nat) (B:Tok P T) (ho:o.op=.buildSlice t len parts) (hd:o.dst=some d) (aa:d<n) (hi:T[t]?=some (some i)) (hk:i.k=.sl e) (y:T[e]?=some (some g))
  (A:RowsV st g.size 0 ids parts.toList rows) (hlen:Nat.beq len parts.size=true) (E:Nat.ble (len*g.size) 16777216=true) (U:Nat.ble len 16777216=true) (hid:st.h id=none):
  Step P n o st ⟨eQ parts.toList,id::ids⟩ ⟨some (d,some (.one (.hs id 0 len len))),[(id,some (.arr e g.size rows 0))]⟩:=by
 refine Step.new hd aa hid (by simp) fun st' ha hid' G S μ a w hs=>?_
 have M:=δ hlen;have hsm:=Am E;obtain⟨z,hz,hzr,_⟩:=(B.get y).zero_run;have O:=(hzr S).length;rw[(B.get y).len] at O;simp only[Ax] at O;have hrl:=A.lengths;simp only[Ax] at hrl;have key:∀(cells:Array Value),cells.size=len*g.size→∃out:Array Value,Instr.fill (fun i=>some (i*g.size,g.size)) cells (parts.map fun(i,x)=>(i,a.eval x)).toList=some out∧out.size=len*g.size∧bS S rows.flatten out.toList∧(∀r∈rows,r.length=g.size):=by
  intro cells hc;obtain⟨out,h1,h2,us,u,q,h5⟩:=aB4 hs A ha.1 (fun i h=>ha.2 i (by simp[h])) cells (by rw[hc,M];simp);refine⟨out,by rw[←h1];simp,by rw[h2,hc],?_,h5⟩;simp at q;rw[q];exact u
 have Y:∃out:Array Value,(Instr.buildSlice t len (parts.map fun(i,x)=>(i,a.eval x))).run P w=.ok (.slice (some ⟨w.heap.size,0,none⟩) len len) (w.alloc (.cells out e))∧out.size=len*g.size∧bS S rows.flatten out.toList∧(∀r∈rows,r.length=g.size):=by
  by_cases h0:len*g.size=0
  ·obtain⟨out,h1,h2,u,q⟩:=key ((Array.range (len*g.size)).map ((#[]:Array Value)[· %(#[]:Array Value).size]!)) (by simp);refine⟨out,?_,h2,u,q⟩;have I:¬len*g.size>2^24:=by omega
   simp only[Instr.buildSlice,π,Ah ((B.get hi).slice hk) w,ζ,(B.get y).size_run w];rw[ξ I,θ h0];simp only[π,ζ,τ,h1,fW]
  ·obtain⟨out,h1,h2,u,q⟩:=key ((Array.range (len*g.size)).map (z.cells[· %z.cells.size]!)) (by simp);refine⟨out,?_,h2,u,q⟩;have I:¬len*g.size>2^24:=by omega
   simp only[Instr.buildSlice,π,Ah ((B.get hi).slice hk) w,ζ,(B.get y).size_run w];rw[ξ I,ξ h0];simp only[π,hz w,ζ,τ,h1,fW]
 obtain⟨out,h1,h2,u,q⟩:=Y;have hlm:len≤maxLen:=by
  have:=Am U;unfold maxLen;omega
 refine⟨_,_,.slice (some ⟨w.heap.size,0,none⟩) len len,(0,len),?_,WChg.alloc w (.cells out e),?_,?_⟩
 ·simp only[execOp,ho,π,h1,ζ,τ]
 ·have J:rows.length=len:=by omega
  refine⟨q,.inr ⟨w.heap.size,0,len,out.toList,aH _ _ _,Bx w _,by simp[h2],by omega,⟨?_,nQ hs.inv⟩,?_,fun _ o _=>eJ hs.inv o,fun o _=>eJ hs.inv o,fun e=>by cases e⟩⟩
  ·exact hlm
  ·simp only[B0];rw[Aw (by simp[h2,J])];exact u
 ·simp only[aN,aY];have J:rows.length=len:=by omega
  exact⟨⟨_,_,_,rfl⟩,.inr ⟨e,g.size,rows,0,aH _ _ _,by omega,fun _=>⟨by omega,.inr ⟨w.heap.size,0,len,aH _ _ _,by simp⟩⟩⟩⟩
end
inductive Src (st:St) (es:Nat):List Nat→V→List (List C)→Prop
 | hs {id off len sz te elems fz rows}:st.h id=some (.arr te es elems fz)→sz=elems.length→rows=(elems.drop off).take len→Src st es [id] (.one (.hs id off len sz)) rows
 | all {id sz te elems fz}:st.h id=some (.arr te es elems fz)→sz=elems.length→Src st es [id] (.one (.hs id 0 sz sz)) elems
 | sl {l}:Src st es [] (.one (.c (.sl es l))) l
 | nl:Src st es [] (.one (.c .nl)) []
 | sn {l}:Src st es [] (.one (.c (.sn es l))) l
theorem vG {α:Type}{es:Nat}:∀{l:List (List α)},(∀r∈l,r.length=es)→∀k:Nat,(l.take k).flatten=l.flatten.take (k*es)
 | [],_,k=>by simp
 | x::xs,hl,0=>by simp
 | x::xs,hl,k+1=>by
  have hx:=hl x (by simp);have g:=vG (l:=xs) (fun r q=>hl r (by simp[q])) k;rw[Az,Bb,Bb,g,List.take_append,Aw (l:=x) (by rw[hx,A6];omega)];rw[show(k+1)*es-x.length=k*es by rw[hx,A6];omega]
theorem pL {α:Type}{es:Nat}:∀{l:List (List α)},(∀r∈l,r.length=es)→∀k:Nat,(l.drop k).flatten=l.flatten.drop (k*es)
 | [],_,k=>by simp
 | x::xs,hl,0=>by simp
 | x::xs,hl,k+1=>by
  have hx:=hl x (by simp);have g:=pL (l:=xs) (fun r q=>hl r (by simp[q])) k;rw[Cj,Bb,g,drop_append,drop_of_length_le (l:=x) (by rw[hx,A6];omega),A2];rw[show(k+1)*es-x.length=k*es by rw[hx,A6];omega]
theorem bG.flat {S:Sto}{es b:Nat}:∀{l:List (List C)}{o:Nat},bG S es b l o→∃vs,bS S l.flatten vs∧dX S b o vs∧∀r∈l,r.length=es
 | [],_,_=>⟨[],by simp[bS],fun i v h=>by simp at h,by simp⟩
 | r::rs,o,h=>by
  simp only[bG] at h;obtain⟨h1,⟨vs,h2,g⟩,u⟩:=h;obtain⟨us,y,A,B⟩:=bG.flat u;have hl:=h2.length;refine⟨vs++us,by rw[Bb];exact h2.append y,fun i v hi=>?_,?_⟩
  ·rw[B6] at hi;split at hi
   ·exact g i v hi
   ·have:=A _ v hi;rwa [show o+es+(i-vs.length)=o+i by omega] at this
  ·intro q hq;rcases Au.1 hq with rfl | hq
   ·exact h1
   ·exact B q hq
theorem Src.rel {G:Ctx}{n:Nat}{S:Sto}{μ:Mu}{st st':St}{a:Act}{w:World}{es:Nat}{ids:List Nat}{y:V}{rows:List (List C)}{v:Value}(hs:Sim G n S μ st' a w) (h:Src st es ids y rows) (hi:∀i∈ids,st'.h i=st.h i) (g:aN S μ st'.h y v):
  ∃A c news,v=.slice A rows.length c∧bS S rows.flatten news∧(∀r∈rows,r.length=es)∧(A=none→rows=[])∧∀x,A=some x→∀j u,news[j]?=some u→w.cell? (x.add j)=some u:=by
 have I:∀{id off len sz te elems fz rows},st.h id=some (.arr te es elems fz)→sz=elems.length→rows=(elems.drop off).take len→(∀i∈[id],st'.h i=st.h i)→aN S μ st'.h (.one (.hs id off len sz)) v→
   ∃A c news,v=.slice A rows.length c∧bS S rows.flatten news∧(∀r∈rows,r.length=es)∧(A=none→rows=[])∧∀x,A=some x→∀j u,news[j]?=some u→w.cell? (x.add j)=some u:=by
  intro id off len sz te elems fz rows he hsz B hi g;have hh:st'.h id=some (.arr te es elems fz):=by rw[hi id (by simp),he]
  simp only[aN,aY] at g;obtain⟨_,g | ⟨te',es',elems',fz',h1,h2,J⟩⟩:=g
  ·rw[hh] at g;cases g
  rw[hh] at h1;cases h1;obtain⟨h4,⟨U,M,h7⟩ | ⟨b,base,cap,U,M⟩⟩:=J hsz
  ·subst M;simp at B;subst B;exact⟨none,0,[],h7,by simp[bS],by simp,fun _=>rfl,by simp⟩
  ·obtain⟨g0,vs,g1,g2,g3,g4,g5,g6,g7,g8⟩:=(hs.inv.obj id _ hh).arr U;have hrl:rows.length=len:=by rw[B];simp;omega
   have hfl:rows.flatten=(elems.flatten.drop (off*es)).take (len*es):=by
    rw[B,vG (fun r B=>g0 r (List.mem_of_mem_drop B)),pL g0]
   refine⟨_,cap-off,_,by rw[hrl];exact M,by rw[hfl];exact(g5.drop (off*es)).take (len*es),fun r hr'=>g0 r (List.mem_of_mem_drop (B9 (B▸hr'))),by simp,?_⟩;rintro x ⟨⟩ j u q;rw[Addr.add_mid,cell_of_row w b _ ⟨vs⟩ te (0,0) g1];rw[Ak] at q;split at q
   ·rw[Al,Ak] at q;split at q
    ·rw[Al] at q;simpa [add_assoc] using q
    ·cases q
   ·cases q
 cases h with
 | hs he hsz B=>exact I he hsz B hi g
 | all he hsz=>
  subst hsz;exact I he rfl (by simp) hi g
 | sl=>
  simp only[aN,aY,Rep] at g;obtain⟨A,len,cap,h1,h2,J,h4,U,M,b,off,h7,h8⟩:=g;obtain⟨vs,E,q2,q3⟩:=bG.flat h8;refine⟨A,cap,vs,by rw[h1,h2],E,q3,fun e=>Ap (by rw[←h2];exact(U e).1),?_⟩;rintro x rfl j u q;obtain⟨h9,h10⟩:=h7 x rfl
  have Y:=M x rfl (by
   rintro rfl;have O:=Ap (show _=0 from Nat.le_zero.1 (h2▸J));rw[O] at E;simp[bS] at E;subst E
   simp at q)
  have hx:x=⟨b,off,none⟩:=by cases x;simp_all
  subst hx;rw[Addr.add_mid];exact hs.inv.holds.cell (q2 j u q)
 | nl=>
  simp only[aN,aY,Rep] at g;exact⟨none,0,[],g,by simp[bS],by simp,fun _=>rfl,by simp⟩
 | sn=>
  simp only[aN,aY,Rep] at g;obtain⟨b,off,sp,len,cap,h1,h2,J,h4,hsp,h8⟩:=g;obtain⟨vs,E,q2,q3⟩:=bG.flat h8;refine⟨some ⟨b,off,sp⟩,cap,vs,by rw[h1,h2],E,q3,by simp,?_⟩;rintro x ⟨⟩ j u q
  have Y:=hsp (by
   rintro rfl;have O:=Ap (show _=0 from Nat.le_zero.1 (h2▸J));rw[O] at E;simp[bS] at E;subst E
   simp at q)
  subst Y;rw[Addr.add_mid];exact hs.inv.holds.cell (q2 j u q)
section
variable {P:Program}{n:Nat}{o:Oper}{st:St}{d:Nat}{T:TT}
theorem j7 (w:World) (t ty e:TypeId) (i:TypeInfo) (J:P.underlying t=some (.slice e)) (hi:P.info? e=some i)
  (g base q y:Nat) (cur:Array Value) (M:w.heap[g]?=some (.cells cur e (0,0)))
  (a:Addr) (m c:Nat) (news:List Value) (hl:news.length=m*i.size) (A:∀j u,news[j]?=some u→w.cell? (a.add j)=some u) (h1:∀u∈news,u.oneCell'=true)
  (B:q+m≤y) (I:base+q*i.size+news.length≤cur.size):
  (Builtin.append_ #[t,t] ty #[.slice (some ⟨g,base,none⟩) q y,.slice (some a) m c]).run P w=
   .ok (.slice (some ⟨g,base,none⟩) (q+m) y) (w.setRow g (cur.toList.take (base+q*i.size)++news++cur.toList.drop (base+q*i.size+news.length)).toArray):=by
 have O:=run_firstCells_some (P:=P) w i.size m a m c news hl A;have E:=run_storeCells_at P g (base+q*i.size) e news 0 cur w M (by simpa using I) h1;simp only[Ck] at E;simp[Builtin.append_,Ah J,sizeOf,typeInfo,hi,Builtin.lenOf,B,O,Addr.add_mid,E]
theorem jO (w:World) (t ty e:TypeId) (i:TypeInfo) (A:P.underlying t=some (.slice e)) (hi:P.info? e=some i) (s:Option Addr) (y:Option Addr) (g q c:Nat) (u:g≤q):
  (Builtin.append_ #[t,t] ty #[.slice s g q,.slice y 0 c]).run P w=.ok (.slice s g q) w:=by
 cases s<;>cases y<;>simp[Builtin.append_,Ah A,sizeOf,typeInfo,hi,Builtin.lenOf,u,Builtin.firstCells,loadCells,loadCellsFrom,storeCells]
theorem dY {x y:Operand}{t:TypeId}{a:Act}{w w':World}{u v r:Value}(ho:o.op=.call { callee:=.builtin .append,args:= #[x,y],argTypes:= #[t,t] }) (hx:a.eval x=u) (hy:a.eval y=v) (g:(Builtin.append_ #[t,t] o.type #[u,v]).run P w=.ok r w'):
  (execOp a.eval o).run P w=.ok (.value r) w':=by
 simp only[execOp,ho,resolve,map_toArray,Be,map_nil,hx,hy,π,τ,ζ,invoke,builtin,g]
theorem aFz {y:V}{id te es fz:Nat}{elems elems':List (List C)}(hd:o.dst=some d) (J:d<n) (hlen:elems.length≤elems'.length) (q:Nat) {st':St}{G:Ctx}{S:Sto}{μ:Mu}{a:Act}{w:World}{K:Act→World→Prop}{Q:Exit→Act→World→Prop}
    (A:st'.h id=some (.arr te es elems fz)) (hs:Sim G n S μ st' a w) (hk:∀S' μ' a' w',Sim G n S' μ' (Eff.apply ⟨some (d,some y),[(id,some (.arr te es elems' q))]⟩ st') a' w'→K a' w')
    (h:∃w' v,(execOp a.eval o).run P w=.ok (.value v) w'∧
      ((w'=w∧elems'=elems∧(q=fz∨q=1)∧aN S μ st'.h y v)∨
       (elems.length<elems'.length∧∃b M c,(w.heap.size≤b∨∃c',μ id=some (b,c'))∧WChg w w' b M∧jF S (upd μ id (some (b,c))) (upd st'.h id (some (.arr te es elems' q))) w' id (.arr te es elems' q)∧
         (∀o v,S.cell b o=some v→∃vs t fr,M=.cells vs t fr∧vs[o]?=some v)∧(∀m,S.mapo b=some m→w.heap.size≤b)∧aN S (upd μ id (some (b,c))) (upd st'.h id (some (.arr te es elems' q))) y v))):
    ∀ro,o.wpIn (Wd ro) 0 P a w K Q:=by
  obtain⟨w',v,hr,I⟩:=h;refine fun ro=>eI hr ?_
  rw[hd];rcases I with⟨rfl,rfl,hfz,O⟩ | ⟨hlt,b,M,c,hb,hw,hO,hS,hSm,O⟩
  · have B:Evolve S μ st'.h S μ (upd st'.h id (some (.arr te es elems' q))):=⟨S.le_refl,fun j x u=>by
      by_cases g:j=id
      · subst g
        rw[A] at u;cases u;exact⟨_,aH _ _ _,by simp[AObj.succ]⟩
      · exact⟨x,by rw[aW _ _ _ g];exact u,x.succ_refl rfl⟩⟩
    have hi:Inv G S μ (upd st'.h id (some (.arr te es elems' q))) w':=by
      obtain⟨h1,h2,h3,h4,h5,h6,h7,h8,h9⟩:=hs.inv;have hold:∀j x,upd st'.h id (some (.arr te es elems' q)) j=some x→∃x',st'.h j=some x':=fun j x u=>by
        by_cases g:j=id
        · subst g;exact⟨_,A⟩
        · rw[aW _ _ _ g] at u;exact⟨_,u⟩
      refine⟨h1,fun j x u=>?_,fun i j x x' b c c' hi u hm hm'=>?_,fun i x b c hi hm=>?_,h5,h6,h7,h8.trans B,h9⟩
      · by_cases g:j=id
        · subst g
          rw[aH] at u;cases u;have hO:=(h2 j _ A).evolve B rfl fun _ _ _=>⟨rfl,fun _=>rfl,rfl⟩
          rcases hfz with rfl | rfl
          · exact hO
          · obtain⟨g0,U | ⟨b,base,cap,vs,U,g2,g3,g4,g5,g6,g7,g8,g9⟩⟩:=hO
            · exact⟨g0,.inl U⟩
            · exact⟨g0,.inr ⟨b,base,cap,vs,U,g2,g3,g4,g5,g6,(fun e=>by cases e),g8,(fun e=>by cases e)⟩⟩
        · rw[aW _ _ _ g] at u
          exact(h2 j x u).evolve B rfl fun _ _ _=>⟨rfl,fun _=>rfl,rfl⟩
      · obtain⟨_,E⟩:=hold _ _ hi
        obtain⟨_,hj'⟩:=hold _ _ u;exact h3 i j _ _ b c c' E hj' hm hm'
      · obtain⟨_,E⟩:=hold _ _ hi
        exact h4 i _ b c E hm
    have:=hs.put hi B J (x:=some y) (v:=v) (fun z Y=>by cases Y;exact aN.evolve B _ _ O);refine hk S μ _ _ ?_;unfold Eff.apply;rw[bY];exact this
  · have B:Evolve S μ st'.h S (upd μ id (some (b,c))) (upd st'.h id (some (.arr te es elems' q))):=⟨S.le_refl,fun j x u=>by
      by_cases g:j=id
      · subst g
        rw[A] at u;cases u;exact⟨_,aH _ _ _,by simp only[AObj.succ,true_and];exact⟨hlen,fun e=>by omega⟩⟩
      · exact⟨x,by rw[aW _ _ _ g];exact u,x.succ_refl (aW _ _ _ g)⟩⟩
    have hi:=hs.inv.chg (id:=id) (cap:=c) (ao:=.arr te es elems' q) hw (hb.imp (fun h=>h) fun⟨c',h⟩=>⟨_,c',A,h⟩) B hO hS hSm;have:=hs.put hi B J (x:=some y) (v:=v) (fun z Y=>by cases Y;exact O);refine hk S (upd μ id (some (b,c))) _ _ ?_;unfold Eff.apply;rw[bY];exact this
theorem Step.grow {rd:Rd}{y:V}{id te es fz:Nat}{elems elems':List (List C)}(I:o.dst=some d) (u:d<n) (A:st.h id=some (.arr te es elems fz)) (B:id∈rd.h) (hlen:elems.length≤elems'.length) (g:Nat)
    (h:∀st',fA rd st st'→st'.h id=some (.arr te es elems fz)→∀G S μ a w,Sim G n S μ st' a w→∃w' v,(execOp a.eval o).run P w=.ok (.value v) w'∧
      ((w'=w∧elems'=elems∧(g=fz∨g=1)∧aN S μ st'.h y v)∨
       (elems.length<elems'.length∧∃b E c,(w.heap.size≤b∨∃c',μ id=some (b,c'))∧WChg w w' b E∧jF S (upd μ id (some (b,c))) (upd st'.h id (some (.arr te es elems' g))) w' id (.arr te es elems' g)∧
         (∀o v,S.cell b o=some v→∃vs t J,E=.cells vs t J∧vs[o]?=some v)∧(∀m,S.mapo b=some m→w.heap.size≤b)∧aN S (upd μ id (some (b,c))) (upd st'.h id (some (.arr te es elems' g))) y v))):
    Step P n o st rd ⟨some (d,some y),[(id,some (.arr te es elems' g))]⟩:=by
  intro st' ha G S μ a w K Q hs M;have q:st'.h id=some (.arr te es elems fz):=by rw[ha.2 id B,A]
  exact aFz I u hlen g q hs M (h st' ha q G S μ a w hs)
theorem wW {t e:TypeId}{i g:TI}{x y:Operand}{id sz fz:Nat}{elems rows:List (List C)}{vy:V}{ids:List Nat}{st':St}{G:Ctx}{S:Sto}{μ:Mu}{a:Act}{w:World}(hT:Tok P T) (ho:o.op=.call { callee:=.builtin .append,args:= #[x,y],argTypes:= #[t,t] })
    (hi:T[t]?=some (some i)) (hk:i.k=.sl e) (hei:T[e]?=some (some g)) (hes:Nat.ble 1 g.size=true) (heb:Nat.ble 1 g.bytes=true)
    (hsz:sz=elems.length) (hroom:(elems.length+rows.length)*g.bytes≤140737488355328) (J:st'.h id=some (.arr e g.size elems fz)) (hs:Sim G n S μ st' a w)
    (hvx:aN S μ st'.h (.one (.hs id 0 sz sz)) (a.eval x)) (hvy:aN S μ st'.h vy (a.eval y)) (hsrc:Src st g.size ids vy rows) (hsi:∀i∈ids,st'.h i=st.h i):
    ∃w' v,(execOp a.eval o).run P w=.ok (.value v) w'∧
      ((w'=w∧elems++rows=elems∧((if fz=0 then 0 else 1)=fz∨(if fz=0 then 0 else 1)=1)∧aN S μ st'.h (.one (.hs id 0 (elems.length+rows.length) (elems.length+rows.length))) v)∨
       (elems.length<(elems++rows).length∧∃b bo c,(w.heap.size≤b∨∃c',μ id=some (b,c'))∧WChg w w' b bo∧jF S (upd μ id (some (b,c))) (upd st'.h id (some (.arr e g.size (elems++rows) (if fz=0 then 0 else 1)))) w' id (.arr e g.size (elems++rows) (if fz=0 then 0 else 1))∧
         (∀o v,S.cell b o=some v→∃vs t fr,bo=.cells vs t fr∧vs[o]?=some v)∧(∀m,S.mapo b=some m→w.heap.size≤b)∧aN S (upd μ id (some (b,c))) (upd st'.h id (some (.arr e g.size (elems++rows) (if fz=0 then 0 else 1)))) (.one (.hs id 0 (elems.length+rows.length) (elems.length+rows.length))) v)):=by
  subst hsz;have hes':=Am hes;have heb':=Am heb;obtain⟨ad,c,news,B,A,hrl,hnone,hcell⟩:=hsrc.rel hs hsi hvy;have E:news.length=rows.length*g.size:=by rw[A.length,gI hrl]
  obtain⟨inf,dd,z,g1,g2,g3,g4,g5,g6,g7,g8⟩:=(hT.get hei).ex;have hu:=(hT.get hi).slice hk;have hzs:z.cells.size=g.size:=by
    have h1:=(fY (S:=S) g7).length;rw[(hT.get hei).len] at h1;simpa using h1
  simp only[aN,aY] at hvx;obtain⟨_,hv | ⟨te',es',elems',fz',h1,h2,h3⟩⟩:=hvx
  · rw[J] at hv;cases hv
  rw[J] at h1;cases h1;obtain⟨h4,hcase⟩:=h3 rfl;have hbig:elems.length+rows.length≤140737488355328:=by
    have:(elems.length+rows.length)*1≤(elems.length+rows.length)*g.bytes:=Nat.mul_le_mul_left _ heb';omega
  have hone:∀u∈news,u.oneCell'=true:=(A.toR (μ:=μ) (H:=st'.h)).one;have hcap:∀old,elems.length+rows.length≤grownCap w (elems.length+rows.length) old e∧grownCap w (elems.length+rows.length) old e≤maxLen:=fun old=>
    ⟨grownCap_ge _ _ _ _,grownCap_le_maxLen _ _ _ _ (by unfold maxLen;omega)⟩
  have I:∀(M:List Value) (old:Nat),bS S elems.flatten M→0<rows.length→∀g0:(∀r∈elems,r.length=g.size),
      jF S (upd μ id (some (w.heap.size,0,grownCap w (elems.length+rows.length) old e))) (upd st'.h id (some (.arr e g.size (elems++rows) (if fz=0 then 0 else 1))))
        (w.drew.alloc (.cells (M.toArray++news.toArray++Builtin.zeroCells z.cells (grownCap w (elems.length+rows.length) old e-(elems.length+rows.length))) e)) id (.arr e g.size (elems++rows) (if fz=0 then 0 else 1)):=by
    intro M old hol hpos g0;obtain⟨hc1,hc2⟩:=hcap old;have O:=hol.length;rw[gI g0] at O;refine⟨?_,.inr ⟨w.heap.size,0,grownCap w (elems.length+rows.length) old e,(M.toArray++news.toArray++Builtin.zeroCells z.cells (grownCap w (elems.length+rows.length) old e-(elems.length+rows.length))).toList,aH _ _ _,Bx w.drew _,?_,by simpa using hc1,⟨hc2,nQ hs.inv⟩,?_,fun _ o _=>eJ hs.inv o,fun o _=>eJ hs.inv o,fun e=>by split at e<;>cases e⟩⟩
    · intro r q
      rcases Ay.1 q with q | q
      · exact g0 r q
      · exact hrl r q
    · simp only[Array.toList_append,η,Ax,size_zeroCells,hzs]
      simp only[O,E,Ba,←A6];exact Av _ (by omega)
    · simp only[Array.toList_append,B0,η,Cp]
      rw[B2 (by simp[O,E,A6]),Aw (by simp[O,E,A6])];exact hol.append A
  have U:(elems++rows).length=elems.length+rows.length:=by simp
  by_cases hm:rows.length=0
  · --nothing is appended
    have hr0:rows=[]:=Ap hm;have hfzz:(if fz=0 then 0 else 1)=fz∨(if fz=0 then 0 else 1)=1:=by
      by_cases h:fz=0
      · left;rw[θ h,h]
      · right;rw[ξ h]
    rcases hcase with⟨h5,Y,h7⟩ | ⟨b,base,cap,h5,Y⟩
    · refine⟨w,.slice none 0 0,dY ho h7 B (by rw[hm];exact jO w t o.type e inf hu g1 none ad 0 0 c (le_refl _)),.inl ⟨rfl,by rw[hr0,A0],hfzz,?_⟩⟩
      simp only[aN,aY];exact⟨⟨_,_,_,rfl⟩,.inr ⟨e,g.size,elems,fz,J,by omega,fun _=>⟨by omega,.inl ⟨h5,Y,(by first | rfl | trivial)⟩⟩⟩⟩
    · obtain⟨q0,vs,q1,q2,q3,q4,q5,q6,q7,q8⟩:=(hs.inv.obj id _ J).arr h5
      refine⟨w,_,dY ho Y B (by rw[hm];exact jO w t o.type e inf hu g1 _ ad elems.length _ c (by omega)),.inl ⟨rfl,by rw[hr0,A0],hfzz,?_⟩⟩;simp only[aN,aY];exact⟨⟨_,_,_,rfl⟩,.inr ⟨e,g.size,elems,fz,J,by omega,fun _=>⟨by omega,.inr ⟨b,base,cap,h5,by rw[hm,Ck]⟩⟩⟩⟩
  · cases ad with
    | none=>exact absurd (by rw[hnone rfl];rfl) hm
    | some ad=>
      have hc:=hcell ad rfl;rcases hcase with⟨h5,Y,h7⟩ | ⟨b,base,cap,h5,Y⟩
      · --the first elements
        subst Y;simp only[length_nil,Ba] at hroom hbig I hcap;have q:=run_append_nil (P:=P) w t o.type e inf z hu g1 g6 ad rows.length c news (by rw[E,g3]) hc (by omega) (by omega) (by rw[g4];omega);refine⟨_,_,dY ho h7 B q,.inr ⟨by simp;omega,w.heap.size,_,(0,grownCap w rows.length 0 e),.inl (le_refl _),WChg.alloc_drew w _,?_,(fun o v e=>by rw[eJ hs.inv] at e;cases e),fun m e=>le_refl _,?_⟩⟩
        · have:=I [] 0 (by simp[bS]) (by omega) (by simp)
          simpa using this
        · simp only[aN,aY]
          exact⟨⟨_,_,_,rfl⟩,.inr ⟨e,g.size,_,_,aH _ _ _,by simp,fun _=>⟨by simp,.inr ⟨w.heap.size,0,_,aH _ _ _,by simp⟩⟩⟩⟩
      · obtain⟨q0,vs,q1,q2,q3,q4,q5,q6,q7,q8⟩:=(hs.inv.obj id _ J).arr h5
        have hce:elems.length*g.size≤cap*g.size:=Av _ q3;simp only[sub_zero,zero_mul,Ck] at Y;by_cases hroom':elems.length+rows.length≤cap
        · --there is room
          have hce2:(elems.length+rows.length)*g.size≤cap*g.size:=Av _ hroom';rw[A6] at hce2;have q:=j7 (P:=P) w t o.type e inf hu g1 b base elems.length cap ⟨vs⟩ q1 ad rows.length c news (by rw[E,g3]) hc hone hroom' (by rw[g3,E];simp only[size_toArray];omega);rw[g3] at q;have hW:=WChg.setRow w b ⟨vs⟩ ⟨vs.take (base+elems.length*g.size)++news++vs.drop (base+elems.length*g.size+news.length)⟩ e (0,0) q1;refine⟨_,_,dY ho Y B q,.inr ⟨by simp;omega,b,_,(base,cap),.inr ⟨_,h5⟩,hW,⟨?_,.inr ⟨b,base,cap,_,aH _ _ _,hW.new,?_,by rw[U];omega,q4,?_,?_,?_,fun e=>by split at e<;>cases e⟩⟩,?_,fun m e=>eU q4.2 m e,?_⟩⟩
          · intro r q
            rcases Ay.1 q with q | q
            · exact q0 r q
            · exact hrl r q
          · simp only[η,Aj,Bf]
            omega
          · rw[U,Cp]
            have e1:((vs.take (base+elems.length*g.size)++news++vs.drop (base+elems.length*g.size+news.length)).drop base).take ((elems.length+rows.length)*g.size)=(vs.drop base).take (elems.length*g.size)++news:=by
              rw[An,B3 (by simp;omega),←An,B2 (by simp[A6];omega)];rw[Aw (by simp[A6];omega),drop_take];rw[show base+elems.length*g.size-base=elems.length*g.size by omega]
            rw[e1];exact q5.append A
          · intro e o ho
            exact q6 (Classical.byContradiction fun hne=>by rw[ξ hne] at e;cases e) o ho
          · intro o ho
            rw[U,A6] at ho;exact q7 o (by omega)
          · intro o v e
            by_cases hlt:o<base+elems.length*g.size
            · obtain⟨vs0,t0,fr0,p1,p2⟩:=hs.inv.holds.1 b o v e
              rw[q1] at p1;cases p1;refine⟨_,_,_,rfl,?_⟩;simp only[Cd] at p2 ⊢;rw[An,A5 (by simp;omega),Ak,θ (by omega)];exact p2
            · rw[q7 o (by omega)] at e;cases e
          · simp only[aN,aY]
            exact⟨⟨_,_,_,rfl⟩,.inr ⟨e,g.size,_,_,aH _ _ _,by simp,fun _=>⟨by simp,.inr ⟨b,base,cap,aH _ _ _,by simp⟩⟩⟩⟩
        · --into a new block
          have q:=run_append_grow (P:=P) w t o.type e inf z hu g1 g6 ⟨b,base,none⟩ elems.length cap ((vs.drop base).take (elems.length*g.size)) (by rw[g3];simp;omega) (by
              intro j v hj;rw[Addr.add_mid,cell_of_row w b _ ⟨vs⟩ e (0,0) q1];rw[Ak] at hj;split at hj
              · rw[Al] at hj
                simpa using hj
              · cases hj) ad rows.length c news (by rw[E,g3]) hc (by omega) (by omega) (by rw[g4];exact growslice_fits (by omega) hroom)
          have hq5:bS S elems.flatten ((vs.drop base).take (elems.length*g.size)):=q5;refine⟨_,_,dY ho Y B q,.inr ⟨by simp;omega,w.heap.size,_,(0,grownCap w (elems.length+rows.length) cap e),.inl (le_refl _),WChg.alloc_drew w _,?_,(fun o v e=>by rw[eJ hs.inv] at e;cases e),fun m e=>le_refl _,?_⟩⟩
          · have:=I _ cap hq5 (by omega) q0
            simpa using this
          · simp only[aN,aY]
            exact⟨⟨_,_,_,rfl⟩,.inr ⟨e,g.size,_,_,aH _ _ _,by simp,fun _=>⟨by simp,.inr ⟨w.heap.size,0,_,aH _ _ _,by simp⟩⟩⟩⟩
theorem zT {t e:TypeId}{i g:TI}{x y:Operand}{id sz fz:Nat}{elems rows:List (List C)}{B:V}{ids:List Nat}(hT:Tok P T) (ho:o.op=.call { callee:=.builtin .append,args:= #[x,y],argTypes:= #[t,t] }) (hd:o.dst=some d) (E:d<n)
  (hi:T[t]?=some (some i)) (hk:i.k=.sl e) (I:T[e]?=some (some g)) (J:Nat.ble 1 g.size=true) (M:Nat.ble 1 g.bytes=true)
  (hx:opv st x=some (.one (.hs id 0 sz sz))) (hh:st.h id=some (.arr e g.size elems fz)) (hsz:sz=elems.length) (hy:opv st y=some B) (u:Src st g.size ids B rows)
  (q:(elems.length+rows.length)*g.bytes≤140737488355328):
  Step P n o st ⟨opr x++opr y,id::ids⟩ ⟨some (d,some (.one (.hs id 0 (elems.length+rows.length) (elems.length+rows.length)))),[(id,some (.arr e g.size (elems++rows) (if fz=0 then 0 else 1)))]⟩:=by
 refine Step.grow hd E hh (by simp) (by simp) _ fun st' ha O G S μ a w hs=>?_
 have U:=aK hs hx fun t A=>ha.1 t (by simp[A])
 have Y:=aK hs hy fun t A=>ha.1 t (by simp[A])
 exact wW hT ho hi hk I J M hsz q O hs U Y u fun i h=>ha.2 i (by simp[h])
end
mutual
def R.ren (σ:Nat→Nat):R→R
 | .c x=>.c x
 | .hs id off len sz=>.hs (σ id) off len sz
 | .tl id off len sz=>.tl (σ id) off len sz
 | .vp id off=>.vp (σ id) off
 | .ep id i fo sz=>.ep (σ id) i fo sz
 | .mr id=>.mr (σ id)
 | .clo f caps=>.clo f (R.renL σ caps)
 | .mth f x=>.mth f (x.ren σ)
 | .yl id=>.yl (σ id)
 | .ra id off len sz=>.ra (σ id) off len sz
 | .rp id i fo sz=>.rp (σ id) i fo sz
 | .ras n es l=>.ras n es (R.renL σ l)
 | .pas l=>.pas (R.renL σ l)
def R.renL (σ:Nat→Nat):List R→List R
 | []=>[]
 | r::rs=>r.ren σ::R.renL σ rs
end
mutual
def V.ren (σ:Nat→Nat):V→V
 | .one r=>.one (r.ren σ)
 | .pa l=>.pa l
 | .ma l=>.ma (R.renL σ l)
 | .tup l=>.tup (V.renL σ l)
def V.renL (σ:Nat→Nat):List V→List V
 | []=>[]
 | r::rs=>r.ren σ::V.renL σ rs
end
mutual
def R.refs:R→List Nat
 | .c _=>[]
 | .hs id _ _ _=>[id]
 | .tl id _ _ _=>[id]
 | .vp id _=>[id]
 | .ep id _ _ _=>[id]
 | .mr id=>[id]
 | .clo _ caps=>R.refsL caps
 | .mth _ x=>x.refs
 | .yl id=>[id]
 | .ra id _ _ _=>[id]
 | .rp id _ _ _=>[id]
 | .ras _ _ l=>R.refsL l
 | .pas l=>R.refsL l
def R.refsL:List R→List Nat
 | []=>[]
 | r::rs=>r.refs++R.refsL rs
end
mutual
def V.refs:V→List Nat
 | .one r=>r.refs
 | .pa _=>[]
 | .ma l=>R.refsL l
 | .tup l=>V.refsL l
def V.refsL:List V→List Nat
 | []=>[]
 | r::rs=>r.refs++V.refsL rs
end
def uM:List (Nat×V)→List Nat
 | []=>[]
 | (_,v)::l=>v.refs++uM l
def xJ:List (List R)→List Nat
 | []=>[]
 | r::l=>R.refsL r++xJ l
def aDq (σ:Nat→Nat):List (Nat×V)→List (Nat×V)
 | []=>[]
 | (t,v)::l=>(t,v.ren σ)::aDq σ l
def uH (σ:Nat→Nat):List (List R)→List (List R)
 | []=>[]
 | r::l=>R.renL σ r::uH σ l
theorem oW:∀{l:List (Nat×V)}{t:Nat}{v:V},(t,v)∈l→∀i∈v.refs,i∈uM l
 | (k,u)::l,t,v,h,i,hi=>by
  simp only[uM,Ay];rcases Au.1 h with h | h
  ·cases h;exact .inl hi
  ·exact .inr (oW h i hi)
theorem zS {σ:Nat→Nat}:∀{l:List (Nat×V)}{t:Nat}{v:V},(t,v)∈l→(t,v.ren σ)∈aDq σ l
 | (k,u)::l,t,v,h=>by
  simp only[aDq];rcases Au.1 h with h | h
  ·cases h;simp
  ·exact Bh _ (zS h)
theorem R.renL_length {σ:Nat→Nat}:∀{l:List R},(R.renL σ l).length=l.length
 | []=>rfl
 | _::l=>by simp[R.renL,R.renL_length (l:=l)]
theorem dJ {σ:Nat→Nat}:∀{l:List (List R)},(uH σ l).length=l.length
 | []=>rfl
 | _::l=>by simp[uH,dJ (l:=l)]
theorem R.renL_append {σ:Nat→Nat}:∀{l m:List R},R.renL σ (l++m)=R.renL σ l++R.renL σ m
 | [],_=>rfl
 | _::l,m=>by simp[R.renL,R.renL_append (l:=l)]
theorem R.refsL_append:∀{l m:List R},R.refsL (l++m)=R.refsL l++R.refsL m
 | [],_=>rfl
 | _::l,m=>by simp[R.refsL,R.refsL_append (l:=l)]
theorem uG {σ:Nat→Nat}:∀{l:List (List R)},(uH σ l).flatten=R.renL σ l.flatten
 | []=>rfl
 | _::l=>by simp[uH,uG (l:=l),R.renL_append]
theorem qR:∀{l:List (List R)},R.refsL l.flatten=xJ l
 | []=>rfl
 | _::l=>by simp[xJ,qR (l:=l),R.refsL_append]
theorem jR {σ:Nat→Nat}{es:Nat}:∀{l:List (List R)},(∀r∈uH σ l,r.length=es)→∀r∈l,r.length=es
 | [],_,r,h=>by simp at h
 | x::l,k,r,h=>by
  rcases Au.1 h with rfl | h
  ·rw[←R.renL_length (σ:=σ)];exact k _ (by simp[uH])
  ·exact jR (σ:=σ) (l:=l) (fun r g=>k r (by simp[uH,g])) r h
def AObj.refs:AObj→List Nat
 | .var _ cells=>R.refsL cells
 | .lp _ _ _ e=>uM e
 | .rarr _ _ elems=>xJ elems
 | .tok r _=>r.refs
 | _=>[]
inductive Ole (σ:Nat→Nat):AObj→AObj→Prop
 | var {t cells cells'}:cells=R.renL σ cells'→Ole σ (.var t cells) (.var t cells')
 | arr {te es elems fz}:Ole σ (.arr te es elems fz) (.arr te es elems fz)
 | arr1 {te es elems fz}:Ole σ (.arr te es elems fz) (.arr te es elems 1)
 | map {agg ents}:Ole σ (.map agg ents) (.map agg ents)
 | dead:Ole σ .dead .dead
 | lp {st j i e e'}:e=aDq σ e'→Ole σ (.lp st j i e) (.lp st j i e')
 | dfr:Ole σ .dfr .dfr
 | rarr {te es elems elems'}:elems=uH σ elems'→Ole σ (.rarr te es elems) (.rarr te es elems')
 | tok {r r' k}:r=r'.ren σ→Ole σ (.tok r k) (.tok r' k)
theorem Ole.succ {σ:Nat→Nat}{o o':AObj}(h:Ole σ o o'):o.succ True o':=by
 cases h
 case rarr e=>subst e;simp[AObj.succ,dJ]
 all_goals simp[AObj.succ]
section
variable {S:Sto}{μ:Mu}{H H':bX}{σ:Nat→Nat}
def Good (H H':bX) (σ:Nat→Nat) (id:Nat):Prop:=∃o o',H (σ id)=some o∧H' id=some o'∧Ole σ o o'
mutual
theorem aY.ren:∀(r:R) (v:Value),(∀id∈r.refs,Good H H' σ id)→aY S μ H (r.ren σ) v→aY S (fun i=>μ (σ i)) H' r v
 | .c x,v,_,k=>by simpa only[aY,R.ren] using k
 | .hs id off len sz,v,h,k=>by
  obtain⟨o,o',h1,h2,q⟩:=h id (by simp[R.refs]);simp only[aY,R.ren] at k ⊢;refine⟨k.1,?_⟩;rcases k.2 with k | ⟨te,es,elems,fz,g,y,A⟩
  ·rw[h1] at k;cases k;cases q;exact .inl h2
  ·rw[h1] at g;cases g;cases q
   ·exact .inr ⟨te,es,elems,_,h2,y,A⟩
   ·exact .inr ⟨te,es,elems,_,h2,y,A⟩
 | .tl id off len sz,v,h,k=>by
  obtain⟨o,o',h1,h2,q⟩:=h id (by simp[R.refs]);simp only[aY,R.ren] at k ⊢;refine⟨k.1,?_⟩;rcases k.2 with k | ⟨te,es,elems,fz,g,y,A⟩
  ·rw[h1] at k;cases k;cases q;exact .inl h2
  ·rw[h1] at g;cases g;cases q
   ·exact .inr ⟨te,es,elems,_,h2,y,A⟩
   ·exact .inr ⟨te,es,elems,_,h2,y,A⟩
 | .vp id off,v,h,k=>by
  obtain⟨o,o',h1,h2,q⟩:=h id (by simp[R.refs]);simp only[aY,R.ren] at k ⊢;obtain⟨t,cells,b,c,g,y,A⟩:=k;rw[h1] at g;cases g;cases q;exact⟨_,_,b,c,h2,y,A⟩
 | .ep id i fo sz,v,h,k=>by
  obtain⟨o,o',h1,h2,q⟩:=h id (by simp[R.refs]);simp only[aY,R.ren] at k ⊢;refine⟨k.1,?_⟩;rcases k.2 with k | ⟨te,es,elems,fz,g,y,A⟩
  ·rw[h1] at k;cases k;cases q;exact .inl h2
  ·rw[h1] at g;cases g;cases q
   ·exact .inr ⟨te,es,elems,_,h2,y,A⟩
   ·exact .inr ⟨te,es,elems,_,h2,y,A⟩
 | .mr id,v,h,k=>by
  obtain⟨o,o',h1,h2,q⟩:=h id (by simp[R.refs]);simp only[aY,R.ren] at k ⊢;obtain⟨agg,ents,b,c,g,y,A⟩:=k;rw[h1] at g;cases g;cases q;exact⟨_,_,b,c,h2,y,A⟩
 | .clo f caps,v,h,k=>by
  simp only[aY,R.ren] at k ⊢;obtain⟨vs,g,y⟩:=k;exact⟨vs,g,aP.ren caps vs (by simpa only[R.refs] using h) y⟩
 | .mth f x,v,h,k=>by
  simp only[aY,R.ren] at k ⊢;obtain⟨u,g,y⟩:=k;exact⟨u,g,aY.ren x u (by simpa only[R.refs] using h) y⟩
 | .rp id i fo sz,v,h,k=>by
  obtain⟨o,o',h1,h2,q⟩:=h id (by simp[R.refs]);simp only[aY,R.ren] at k ⊢;refine⟨k.1,?_⟩;rcases k.2 with k | ⟨te,es,elems,g,y,A⟩
  ·rw[h1] at k;cases k;cases q;exact .inl h2
  ·rw[h1] at g;cases g;cases q;rename_i elems' e;subst e;rw[dJ] at y A;exact .inr ⟨te,es,elems',h2,y,A⟩
 | .yl id,v,h,k=>by
  obtain⟨o,o',h1,h2,q⟩:=h id (by simp[R.refs]);simp only[aY,R.ren] at k ⊢;obtain⟨st,j,i,e,b,c,g,y,A⟩:=k;rw[h1] at g;cases g;cases q;exact⟨_,_,_,_,b,c,h2,y,A⟩
 | .ra id off len sz,v,h,k=>by
  obtain⟨o,o',h1,h2,q⟩:=h id (by simp[R.refs]);simp only[aY,R.ren] at k ⊢;refine⟨k.1,?_⟩;rcases k.2 with k | ⟨te,es,elems,g,y,A⟩
  ·rw[h1] at k;cases k;cases q;exact .inl h2
  ·rw[h1] at g;cases g;cases q;rename_i elems' e;subst e;rw[dJ] at y A;refine .inr ⟨te,es,elems',h2,y,fun e=>?_⟩;obtain⟨J,B⟩:=A e;refine⟨J,?_⟩;rcases B with⟨B,M,O⟩ | B
   ·exact .inl ⟨B,Ap (by rw[←dJ (σ:=σ),M];rfl),O⟩
   ·exact .inr B
 | .ras n es l,v,h,k=>by
  simp only[aY,R.ren] at k ⊢;obtain⟨a,cap,h1,h2,q,U,Y,h6,b,o,h7,vs,E,I⟩:=k;exact⟨a,cap,h1,by rw[h2,R.renL_length],q,U,Y,h6,b,o,h7,vs,aP.ren l vs (by simpa only[R.refs] using h) E,I⟩
 | .pas l,v,h,k=>by
  simp only[aY,R.ren] at k ⊢;obtain⟨b,o,h1,vs,E,I⟩:=k;exact⟨b,o,h1,vs,aP.ren l vs (by simpa only[R.refs] using h) E,I⟩
theorem aP.ren:∀(r:List R) (v:List Value),(∀id∈R.refsL r,Good H H' σ id)→aP S μ H (R.renL σ r) v→aP S (fun i=>μ (σ i)) H' r v
 | [],_,_,k=>by simpa only[aP,R.renL] using k
 | r::rs,vs,h,k=>by
  simp only[aP,R.renL] at k ⊢;obtain⟨v,vs',h1,h2,q⟩:=k;exact⟨v,vs',h1,aY.ren r v (fun i hi=>h i (by simp[R.refsL,hi])) h2,aP.ren rs vs' (fun i hi=>h i (by simp[R.refsL,hi])) q⟩
end
mutual
theorem aN.ren:∀(r:V) (v:Value),(∀id∈r.refs,Good H H' σ id)→aN S μ H (r.ren σ) v→aN S (fun i=>μ (σ i)) H' r v
 | .one r,v,h,k=>by simp only[aN,V.ren] at k ⊢;exact aY.ren r v (by simpa only[V.refs] using h) k
 | .pa l,v,_,k=>by simpa only[aN,V.ren] using k
 | .ma l,v,h,k=>by
  simp only[aN,V.ren] at k ⊢;obtain⟨vs,h1,h2⟩:=k;exact⟨vs,h1,aP.ren l vs (by simpa only[V.refs] using h) h2⟩
 | .tup l,v,h,k=>by
  simp only[aN,V.ren] at k ⊢;obtain⟨vs,h1,h2⟩:=k;exact⟨vs,h1,aT.ren l vs (by simpa only[V.refs] using h) h2⟩
theorem aT.ren:∀(r:List V) (v:List Value),(∀id∈V.refsL r,Good H H' σ id)→aT S μ H (V.renL σ r) v→aT S (fun i=>μ (σ i)) H' r v
 | [],_,_,k=>by simpa only[aT,V.renL] using k
 | r::rs,vs,h,k=>by
  simp only[aT,V.renL] at k ⊢;obtain⟨v,vs',h1,h2,g⟩:=k;exact⟨v,vs',h1,aN.ren r v (fun i hi=>h i (by simp[V.refsL,hi])) h2,aT.ren rs vs' (fun i hi=>h i (by simp[V.refsL,hi])) g⟩
end
end
theorem jF.ren {S:Sto}{μ:Mu}{H H':bX}{σ:Nat→Nat}{w:World}{id:Nat}{o o':AObj}(h:jF S μ H w (σ id) o) (hl:Ole σ o o') (B:∀i∈o'.refs,Good H H' σ i):jF S (fun i=>μ (σ i)) H' w id o':=by
 cases hl with
 | @var t cells cells' hc=>
  subst hc;obtain⟨b,vs,h1,h2,I,J⟩:=h;exact⟨b,vs,h1,h2,aP.ren _ _ B I,J⟩
 | arr=>exact h
 | arr1=>
  obtain⟨q,g | ⟨b,base,cap,vs,g,u,y,E,M,A,O,Y,g9⟩⟩:=h
  ·exact⟨q,.inl g⟩
  ·exact⟨q,.inr ⟨b,base,cap,vs,g,u,y,E,M,A,(fun e=>by cases e),Y,(fun e=>by cases e)⟩⟩
 | map=>exact h
 | dead=>exact h
 | lp he=>
  subst he;obtain⟨b,r,fn,tmps,h1,h2,I,J,h5⟩:=h;exact⟨b,r,fn,tmps,h1,h2,I,fun t v U=>aN.ren _ _ (fun i hi=>B i (oW U i hi)) (J t _ (zS U)),h5⟩
 | dfr=>exact h
 | rarr he=>
  subst he;obtain⟨q,g | ⟨b,base,cap,vs,g,u,y,E,M,A,O⟩⟩:=h
  ·exact⟨jR q,.inl ⟨g.1,Ap (by rw[←dJ (σ:=σ),g.2];rfl)⟩⟩
  ·rw[dJ] at E A;rw[uG] at A;exact⟨jR q,.inr ⟨b,base,cap,vs,g,u,y,E,M,aP.ren _ _ (fun i hi=>B i (by rw[qR] at hi;exact hi)) A,O⟩⟩
 | tok he=>
  subst he;obtain⟨g,b,u,y⟩:=h;exact⟨g,b,aY.ren _ _ B u,y⟩
def Ctx.keeps (G:Ctx) (kf:List Nat):Prop:=(∀id o,G.h0 id=some o→id∈kf)∧(997∈kf→G.h0 997=none→G.S0.noTop)
def Sub (kf:List Nat) (st2 st1:St):Prop:=∀G n S μ a w,G.keeps kf→Sim G n S μ st1 a w→∃S' μ',Sim G n S' μ' st2 a w
theorem Sub.refl (kf:List Nat) (st:St):Sub kf st st:=fun _ _ S μ _ _ _ h=>⟨S,μ,h⟩
theorem Sub.trans {kf:List Nat}{a b c:St}(h:Sub kf a b) (k:Sub kf b c):Sub kf a c:=fun G n S μ x w g hs=>by
 obtain⟨S',μ',h1⟩:=k G n S μ x w g hs;exact h G n S' μ' x w g h1
def mk (el:List (Nat×V)) (hl:List (Nat×AObj)):St:=⟨look el,look hl,[]⟩
def mkd (el:List (Nat×V)) (hl:List (Nat×AObj)) (dl:List Nat):St:=⟨look el,look hl,dl⟩
theorem b6 {α:Type}:∀{l:List (Nat×α)}{i:Nat}{x:α},look l i=some x→(i,x)∈l
 | [],_,_,h=>by simp[look] at h
 | (k,y)::l,i,x,h=>by
  simp only[look] at h;split at h
  ·rename_i hb;cases h;simp[δ hb]
  ·simp[b6 h]
def eF {α:Type}(p:α→Prop):List α→Prop
 | []=>True
 | x::l=>p x∧eF p l
theorem eF.mem {α:Type}{p:α→Prop}:∀{l:List α},eF p l→∀x∈l,p x
 | [],_,x,h=>by simp at h
 | y::l,h,x,hx=>by
  rcases Au.1 hx with rfl | hx
  ·exact h.1
  ·exact eF.mem h.2 x hx
def subset (a b:List Nat):Bool:=a.all fun x=>b.contains x
def distinct:List Nat→Bool
 | []=>true
 | x::l=>!(l.contains x)&&distinct l
def eG:List (Nat×AObj)→List Nat
 | []=>[]
 | (_,o)::l=>o.refs++eG l
def aUy (kf:List Nat) (σ:Nat→Nat) (el:List (Nat×V)) (hl:List (Nat×AObj)):Bool:=subset (uM el) (hl.map (·.1))&&subset (eG hl) (hl.map (·.1))&&distinct (hl.map fun p=>σ p.1)&&subset kf (hl.map (·.1))&&kf.all fun i=>Nat.beq (σ i) i
theorem bM {a b:List Nat}(h:subset a b=true):∀x∈a,x∈b:=fun x hx=>by simpa using (Bc.1 h) x hx
theorem mG:∀{l:List Nat},distinct l=true→l.Nodup
 | [],_=>List.nodup_nil
 | x::l,h=>by
  simp only[distinct,ε] at h;refine nodup_cons.2 ⟨?_,mG h.2⟩;simpa using h.1
theorem gC:∀{l:List (Nat×AObj)}{t:Nat}{v:AObj},(t,v)∈l→∀i∈v.refs,i∈eG l
 | (k,u)::l,t,v,h,i,hi=>by
  simp only[eG,Ay];rcases Au.1 h with h | h
  ·cases h;exact .inl hi
  ·exact .inr (gC h i hi)
theorem gZ {α:Type}:∀{l:List (Nat×α)}{i:Nat},i∈l.map (·.1)→∃x,look l i=some x:=bZ
theorem uU {α β:Type}{f:α→β}:∀{l:List α},(l.map f).Nodup→∀x∈l,∀y∈l,f x=f y→x=y
 | [],_,x,h,_,_,_=>by simp at h
 | z::l,hn,x,hx,y,hy,e=>by
  simp only[Be,nodup_cons] at hn;rcases Au.1 hx with hx | hx
  ·rcases Au.1 hy with hy | hy
   ·rw[hx,hy]
   ·exact absurd (mem_map.2 ⟨y,hy,by rw[←e,hx]⟩) hn.1
  ·rcases Au.1 hy with hy | hy
   ·exact absurd (mem_map.2 ⟨x,hx,by rw[e,hy]⟩) hn.1
   ·exact uU hn.2 x hx y hy e
def eqL:List Nat→List Nat→Bool
 | [],[]=>true
 | a::l,b::m=>Nat.beq a b&&eqL l m
 | _,_=>false
theorem aM6:∀{l m:List Nat},eqL l m=true→l=m
 | [],[],_=>rfl
 | a::l,b::m,h=>by
  simp only[eqL,ε] at h;rw[δ h.1,aM6 h.2]
 | [],_::_,h=>by simp[eqL] at h
 | _::_,[],h=>by simp[eqL] at h
theorem Sub.listD {kf:List Nat}{q:St}{E:List (Nat×V)}{hl:List (Nat×AObj)}{dl:List Nat}(σ:Nat→Nat) (he:eF (fun p=>q.e p.1=some (p.2.ren σ)) E) (hh:eF (fun p=>∃o,q.h (σ p.1)=some o∧Ole σ o p.2) hl) (hok:(aUy kf σ E hl&&(eqL (dl.map σ) q.d&&subset dl (hl.map (·.1))))=true):Sub kf (mkd E hl dl) q:=by
 intro G n S μ a w hg hs;rw[ε,ε] at hok;obtain⟨hok,B,aa⟩:=hok;have B:=aM6 B;simp only[aUy,ε] at hok;obtain⟨⟨⟨⟨h1,h2⟩,h3⟩,U⟩,h5⟩:=hok;have g:∀i∈hl.map (·.1),Good q.h (look hl) σ i:=by
  intro i hi;obtain⟨o',O⟩:=bZ hi;obtain⟨o,u,y⟩:=hh.mem _ (b6 O);exact⟨o,o',u,O,y⟩
 have ab:=mG h3;refine⟨S,fun i=>μ (σ i),⟨⟨hs.inv.holds,fun id o ho=>?_,fun i j o o' b c c' hi hj hm hm'=>?_,fun i o b c hi hm=>?_,hs.inv.frame,hs.inv.sle,hs.inv.sto,⟨hs.inv.evo.le,fun id o ho=>?_⟩,hs.inv.fre⟩,hs.size,?_,fun t v ht=>?_⟩⟩
 ·obtain⟨I,u,y⟩:=hh.mem _ (b6 ho);exact(hs.inv.obj _ _ u).ren y fun i hi=>g i (bM h2 i (gC (b6 ho) i hi))
 ·obtain⟨I,u,y⟩:=hh.mem _ (b6 hi);obtain⟨J,A,M⟩:=hh.mem _ (b6 hj);have hσ:=hs.inv.inj _ _ _ _ b c c' u A hm hm';have:=uU ab _ (b6 hi) _ (b6 hj) hσ;exact(congrArg Prod.fst this)
 ·obtain⟨I,u,y⟩:=hh.mem _ (b6 hi);exact hs.inv.own _ _ b c u hm
 ·obtain⟨o',u,y⟩:=hs.inv.evo.obj id o ho;have hk:=hg.1 id o ho;have hσ:σ id=id:=δ ((Bc.1 h5) id hk);obtain⟨I,J,A,M,Y⟩:=g id (bM U id hk);rw[hσ,u] at A;cases A;refine⟨J,M,?_⟩;show o.succ (μ (σ id)=G.μ0 id) J;rw[hσ];exact AObj.succ_trans y Y.succ fun e _=>e
 ·refine Marks.ren (H:=q.h) (μ:=μ) σ (by show Marks _ μ q.h (dl.map σ) a.defers;rw[B];exact hs.defers) fun id hid hdf=>⟨rfl,?_⟩
  obtain⟨I,J,A,M,Y⟩:=g id (bM aa id hid);rw[hdf] at A;cases A;cases Y;exact M
 ·have hm:=b6 (show look E t=some v from ht);have U:=he.mem _ hm;exact aN.ren v _ (fun i hi=>g i (bM h1 i (oW hm i hi))) (hs.env t _ U)
theorem Sub.list {kf:List Nat}{g:St}{q:List (Nat×V)}{hl:List (Nat×AObj)}(σ:Nat→Nat) (he:eF (fun p=>g.e p.1=some (p.2.ren σ)) q) (hh:eF (fun p=>∃o,g.h (σ p.1)=some o∧Ole σ o p.2) hl) (hok:(aUy kf σ q hl&&eqL [] g.d)=true):Sub kf (mk q hl) g:=
 Sub.listD (dl:=[]) σ he hh (by
  rw[ε] at hok;rw[ε]
  exact⟨hok.1,by rw[map_nil,hok.2];rfl⟩)
def Ctx.rok (G:Ctx):Option Nat→Prop
 | none=>True
 | some l=>(∃r,G.w0.heap[l]?=some (.loop r))∧¬G.F l
def AWp (ro:Option Nat) (P:Program) (n:Nat) (kf:List Nat) (c:Code) (st:St) (Q:Exit→St→Prop):Prop:=
 ∀G S μ a w (Q':Exit→Act→World→Prop),G.keeps kf∧G.rok ro→Sim G n S μ st a w→(∀ex st' S' μ' a' w',Q ex st'→Sim G n S' μ' st' a' w'→Q' ex a' w')→c.wpIn (Wd ro) 0 P Q' a w
section
variable {ro:Option Nat}{P:Program}{n:Nat}{kf:List Nat}{st:St}{Q:Exit→St→Prop}
theorem AWp.sub {c:Code}{st2:St}(h:Sub kf st2 st) (k:AWp ro P n kf c st2 Q):AWp ro P n kf c st Q:=fun G S μ a w Q' g hs q=>by
 obtain⟨S',μ',u⟩:=h G n S μ a w g.1 hs;exact k G S' μ' a w Q' g u q
theorem AWp.post {c:Code}{Q2:Exit→St→Prop}(h:AWp ro P n kf c st Q) (hq:∀ex st',Q ex st'→∃g,Sub kf g st'∧Q2 ex g):AWp ro P n kf c st Q2:=fun G S μ a w Q' u hs A=>
 h G S μ a w Q' u hs fun ex st' S' μ' y w' q s=>by
  obtain⟨g,h1,h2⟩:=hq ex st' q;obtain⟨S2,B,E⟩:=h1 G n S' μ' y w' u.1 s;exact A ex g S2 B y w' h2 E
theorem aD (h:Q .normal st):AWp ro P n kf .skip st Q:=fun _ S μ a w _ _ hs g=>wpIn_skip (g _ _ S μ a w h hs)
theorem aF (h:Q .ret st):AWp ro P n kf .ret st Q:=fun _ S μ a w _ _ hs g=>wpIn_ret (g _ _ S μ a w h hs)
theorem aG {id:Nat}(h:Q (.exit id) st):AWp ro P n kf (.exit id) st Q:=fun _ S μ a w _ _ hs g=>wpIn_exit (g _ _ S μ a w h hs)
def aXd (ro:Option Nat) (P:Program) (n:Nat) (kf:List Nat) (c:Code) (Q:Exit→St→Prop):Exit→St→Prop
 | .normal,st=>AWp ro P n kf c st Q
 | ex,st=>Q ex st
theorem aA {x y:Code}(h:AWp ro P n kf x st (aXd ro P n kf y Q)):AWp ro P n kf (.seq x y) st Q:=fun G S μ a w Q' g hs u=>
 Cx (h G S μ a w _ g hs fun ex st' S' μ' A w' q s=>by
  cases ex with
  | normal=>exact q G S' μ' A w' Q' g s u
  | _=>exact u _ st' S' μ' A w' q s)
theorem aB {c:Operand}{x y:Code}{b:Bool}(hc:opv st c=some (B b)) (u:b=true→AWp ro P n kf x st Q) (A:b=false→AWp ro P n kf y st Q):AWp ro P n kf (.cond c x y) st Q:=fun G S μ a w Q' g hs q=>by
 have hb:=gY (aK hs hc fun _ _=>rfl);cases b with
 | true=>exact wpIn_cond_true hb (u rfl G S μ a w Q' g hs q)
 | false=>exact wpIn_cond_false hb (A rfl G S μ a w Q' g hs q)
def aIl (id:Nat) (Q:Exit→St→Prop):Exit→St→Prop
 | .exit id',st=>if Nat.beq id' id then Q .normal st else Q (.exit id') st
 | ex,st=>Q ex st
theorem aE {id:Nat}{c:Code}(h:AWp ro P n kf c st (aIl id Q)):AWp ro P n kf (.block id c) st Q:=fun G S μ a w Q' y hs g=>
 wpIn_block (h G S μ a w _ y hs fun ex st' S' μ' u w' q s=>by
  cases ex with
  | exit id'=>
   simp only[aIl] at q;simp only[Exit.inBlock];by_cases hb:id'=id
   ·subst hb;simp only[beq_refl,Cg] at q;simpa using g _ st' S' μ' u w' q s
   ·have:Nat.beq id' id=false:=by
     cases hq:Nat.beq id' id with
     | false=>rfl
     | true=>exact absurd (δ hq) hb
    simp only[this,Aq,Bq] at q;simpa [hb] using g _ st' S' μ' u w' q s
  | _=>exact g _ st' S' μ' u w' q s)
def aWs {α:Type}(kf:List Nat) (σ:α→St) (I:α→Prop) (m:α→Nat) (x:α) (Q:Exit→St→Prop):Exit→St→Prop
 | .normal,st=>∃y,I y∧m y<m x∧Sub kf (σ y) st
 | ex,st=>Q ex st
theorem oM {F:Fence}{m:Nat}{P:Program}{Q:Exit→Act→World→Prop}{a:Act}{w:World}{c:Code}(I:Nat→Act→World→Prop) (y:Nat) (B:I y a w)
  (round:∀n a w,I n a w→c.wpIn F m P (Exit.then (fun u w'=>∃g,g<n∧I g u w') Q) a w):(Code.loop c).wpIn F m P Q a w:=by
 refine wpIn_loop (fun a w=>∃n,I n a w) (fun a w=>leastOf (fun n=>I n a w)) ⟨y,B⟩ ?_;intro a w E;refine wpIn_mono (round _ a w (leastOf_spec E).1) ?_;intro e u w' hq;cases e with
 | normal=>
  obtain⟨g,A,q⟩:=hq;exact show(∃n,I n u w')∧leastOf (fun n=>I n u w')<leastOf (fun n=>I n a w) from⟨⟨g,q⟩,By ((leastOf_spec ⟨g,q⟩).2 g q) A⟩
 | _=>exact hq
theorem aL {α:Type}{c:Code}(σ:α→St) (I:α→Prop) (m:α→Nat) (g:α) (O:I g) (h0:Sub kf (σ g) st) (h:∀x,I x→AWp ro P n kf c (σ x) (aWs kf σ I m x Q)):AWp ro P n kf (.loop c) st Q:=fun G S μ a w Q' u hs U=>by
 obtain⟨S',μ',B⟩:=h0 G n S μ a w u.1 hs;refine oM (fun k a w=>∃x S μ,m x=k∧I x∧Sim G n S μ (σ x) a w) (m g) ⟨g,S',μ',rfl,O,B⟩ ?_;rintro k a w ⟨x,S,μ,Y,hx,hs⟩;refine h x hx G S μ a w _ u hs fun ex st' S1 E J w' q s=>?_
 cases ex with
 | normal=>
  obtain⟨y,hy,M,A⟩:=q;obtain⟨S2,aa,h2⟩:=A G n S1 E J w' u.1 s;exact⟨m y,Y▸M,y,S2,aa,rfl,hy,h2⟩
 | _=>exact U _ st' S1 E J w' q s
theorem rG {id:Nat}{ops:Array Oper}{draw:Bool}{st':St}{xs:REs}(hm:P.follows .mixedOrders=true) (A:Run P n ops 0 st xs st') (hlen:Nat.beq xs.length ops.size=true)
  (u:(!draw || (cK (preds ops) xs []&&dM ops))=true) (h:Q .normal st'):AWp ro P n kf (.region id ops draw) st Q:=fun G S μ a w Q' I hs J=>by
 have g:=δ hlen;cases draw with
 | true=>
  simp only[Bool.not_true,B4,ε] at u;refine wpIn_region_any hm ?_;refine aEl (G:=G) A g u.1 u.2 (fun S' μ' q w' s=>J _ st' S' μ' q w' h s) ops.size _ (by simp) ?_ ?_ S μ a _ ?_ ro
  ·have:((List.range ops.size).filter fun i=>!(Array.replicate ops.size false).getD i false)=List.range ops.size:=by
    apply filter_eq_self.2;intro i hi;simp at hi;simp[hi]
   rw[this,length_range]
  ·intro i o ho hl;simp[A1] at hl;split at hl<;>simp at hl
  ·have M:∀(B:REs) (k:Nat) (s:St),c7 (fun j=>(Array.replicate ops.size false).getD j false) k B s=s:=by
    intro B
    induction B with
    | nil=>intro k s;rfl
    | cons y B E=>
     intro k s;have O:(Array.replicate ops.size false).getD k false=false:=by
      simp[A1];split<;>rfl
     simp only[c7,O,Bi];exact E _ _
   rw[M];exact⟨hs.inv.same rfl rfl rfl rfl,hs.size,hs.defers,hs.env⟩
 | false=>
  refine wpIn_region ?_;have key:∀(k:Nat) (st st':St) (xs:REs),Run P n ops k st xs st'→k+xs.length=ops.size→(∀S' μ' q w',Sim G n S' μ' st' q w'→Q' .normal q w')→∀S μ a w,Sim G n S μ st a w→wpOpsIn (Wd ro) 0 P ops Q' (List.range' k xs.length) a w:=by
   intro k st st' xs A
   induction A with
   | nil=>intro _ hq S μ a w hs;exact hq S μ a w hs
   | @cons k st rd f xs st' I _ E=>
    intro hl hq S μ a w hs;simp only[Aa,range'_succ,Br];exact I st (fA.refl _ _) G S μ a w _ Q' hs (fun S1 U Y w1 s1=>E (by simp at hl;omega) hq S1 U Y w1 s1) ro
  have:=key 0 st st' xs A (by omega) (fun S' μ' q w' s=>J _ st' S' μ' q w' h s) S μ a w hs;rwa [range_eq_range',←g]
end
end Go.AM
