/-
  Texts Am6 to Am11 in one.
-/
import Derived.Test.YtnjaiimffoninaaGreatDoorM1
import Derived.Deep.MidRow
import Derived.Deep.LoopGhost
open List (all_eq_true append_assoc append_nil drop_append drop_drop drop_of_length_le drop_succ_cons drop_take drop_zero eq_nil_of_length_eq_zero flatten_append flatten_cons foldl_cons length_append length_cons length_drop length_nil length_set length_take map_cons map_nil map_toArray mem_append mem_cons mem_cons_of_mem mem_map mem_of_mem_drop mem_of_mem_take mem_or_eq_of_mem_set nil_append nodup_cons nodup_nil set_eq_take_append_cons_drop size_toArray take_append_of_le_length take_left' take_of_length_le take_succ_cons take_take take_zero)
open Nat (add_assoc add_mul add_zero beq_refl eq_of_beq_eq_true le_of_ble_eq_true le_refl le_trans lt_irrefl min_eq_left mul_le_mul_left mul_le_mul_right sub_self sub_zero zero_add zero_le)
namespace Go.AM
open Go
section
variable {P:Program}{n:Nat}{o:Oper}{st:St}{d:Nat}{T:TT}
theorem gD {S:Sto}{μ:Mu}{H:dD}{id:Nat}(h:H id=none) (p:Option (Nat×Nat×Nat)) (x:Option AObj):Evolve S μ H S (upd μ id p) (upd H id x):=
 ⟨S.le_refl,fun j o hj=>by
  have q:j≠id:=fun e=>by subst e;rw[h] at hj;cases hj
  exact⟨o,by rw[aV _ _ _ q];exact hj,o.succ_refl (aV _ _ _ q)⟩⟩
theorem Step.new {rd:Rd}{y:V}{id:Nat}{ao:AObj}(hd:o.dst=some d) (I:d<n) (hid:st.h id=none) (J:id∈rd.h)
  (h:∀st',rR rd st st'→st'.h id=none→∀G S μ a w,Sim G n S μ st' a w→∃w' O v c,(execOp a.eval o).run P w=.ok (.value v) w'∧WChg w w' w.heap.size O∧
   nI S (upd μ id (some (w.heap.size,c))) (upd st'.h id (some ao)) w' id ao∧aY S (upd μ id (some (w.heap.size,c))) (upd st'.h id (some ao)) y v):
  Step P n o st rd ⟨some (d,some y),[(id,some ao)]⟩:=by
 intro st' ha G S μ a w K Q hs hk;have q:st'.h id=none:=by rw[ha.2 id J,hid]
 obtain⟨w',O,v,c,Y,hw,Z,hv⟩:=h st' ha q G S μ a w hs;refine fun ro=>j7 Y ?_
 rw[hd];have hi:=hs.inv.chg (id:=id) (cap:=c) (ao:=ao) hw (.inl (le_refl _)) (gD q _ _) Z
  (fun o v e=>by obtain⟨vs,t,fr,h1,_⟩:=hs.inv.holds.1 _ _ _ e;exact absurd (dE h1) (lt_irrefl _)) (fun m e=>le_refl _)
 refine hk S (upd μ id (some (w.heap.size,c))) _ _ ?_;have:=hs.put hi (gD q _ _) I (x:=some y) (fun z hz=>by cases hz;exact hv);unfold Eff.apply;rw[dG];exact this
theorem fX {G:Ctx}{S:Sto}{μ:Mu}{H:dD}{w:World}(h:Inv G S μ H w) (o:Nat):S.cell w.heap.size o=none:=by
 cases hc:S.cell w.heap.size o with
 | none=>rfl
 | some v=>obtain⟨vs,t,fr,h1,_⟩:=h.holds.1 _ _ _ hc;exact absurd (dE h1) (lt_irrefl _)
theorem pK {G:Ctx}{S:Sto}{μ:Mu}{H:dD}{w:World}(h:Inv G S μ H w):S.mapo w.heap.size=none:=by
 cases hc:S.mapo w.heap.size with
 | none=>rfl
 | some v=>obtain⟨_,h1⟩:=MK.holds_some (h.holds.2 _ _ hc);exact absurd (dE h1) (lt_irrefl _)
theorem jA (P:Program) (w:World) (t:TypeId) (cs:Array Value):(newRow t cs).run P w=.ok ⟨w.heap.size,0,none⟩ (w.alloc (.cells cs t)):=rfl
theorem aZk {t:TypeId}{i:TI}(id:Nat) (I:Tok P T) (J:o.op=.alloc t) (hd:o.dst=some d) (q:d<n) (hi:T[t]?=some (some i)) (hid:st.h id=none):
  Step P n o st ⟨[],[id]⟩ ⟨some (d,some (.one (.vp id 0))),[(id,some (.var t (i.zero.map R.c)))]⟩:=by
 refine Step.new hd q hid (by simp) fun st' _ O G S μ a w hs=>?_
 obtain⟨z,hz,y,_⟩:=(I.get hi).zero_run;refine⟨_,_,.pointer (some ⟨w.heap.size,0,none⟩),(0,0),?_,WChg.alloc w (.cells z.cells t),?_,?_⟩
 ·simp[execOp,J,Instr.alloc,hz,newVar,jA]
 ·exact⟨w.heap.size,z.cells.toList,aI _ _ _,B4 w _,(y S).toR,fX hs.inv,pK hs.inv⟩
 ·simp only[aY,b9];exact⟨t,_,_,_,aI _ _ _,aI _ _ _,rfl⟩
theorem a7k {t:TypeId}{x:Operand}{y:V}{rs:List R}(id:Nat) (J:o.op=.box t x) (hd:o.dst=some d) (I:d<n) (hx:opv st x=some y) (hc:j0 y=some rs) (hid:st.h id=none):
  Step P n o st ⟨opr x,[id]⟩ ⟨some (d,some (.one (.vp id 0))),[(id,some (.var t rs))]⟩:=by
 refine Step.new hd I hid (by simp) fun st' ha q G S μ a w hs=>?_
 have O:=aO hs hx ha.1;refine⟨_,_,.pointer (some ⟨w.heap.size,0,none⟩),(0,0),?_,WChg.alloc w (.cells (a.eval x).cells t),?_,?_⟩
 ·simp[execOp,J,Instr.box,newVar,jA]
 ·exact⟨w.heap.size,(a.eval x).cells.toList,aI _ _ _,B4 w _,b6.evolve (gD q _ _) _ _ (fC O hc),fX hs.inv,pK hs.inv⟩
 ·simp only[aY,b9];exact⟨t,_,_,_,aI _ _ _,aI _ _ _,rfl⟩
theorem aC3 {t:TypeId}(id:Nat) (agg:Bool) (y:o.op=.makeMap t none) (hd:o.dst=some d) (q:d<n) (hid:st.h id=none):
  Step P n o st ⟨[],[id]⟩ ⟨some (d,some (.one (.mr id))),[(id,some (.map agg []))]⟩:=by
 refine Step.new hd q hid (by simp) fun st' _ I G S μ a w hs=>?_
 refine⟨w.alloc (.map #[] 0),_,.map (some w.heap.size),(0,0),?_,WChg.alloc w (.map #[] 0),?_,?_⟩
 ·simp only[execOp,y,Instr.makeMap,C9];rfl
 ·exact⟨w.heap.size, #[],0,aI _ _ _,B4 w _,.inr (.inl (by simp[bD])),.inl (pK hs.inv)⟩
 ·simp only[aY,b9];exact⟨_,_,_,_,aI _ _ _,aI _ _ _,rfl⟩
theorem lE {w:World}{b:Nat}{vs:List Value}{t:TypeId}(h:w.heap[b]?=some (.cells ⟨vs⟩ t (0,0))) (off k:Nat):w.rangeAt b off ((vs.drop off).take k):=by
 intro j v hj;rw[cell_of_row w b (off+j) ⟨vs⟩ t (0,0) h];rw[Ay] at hj;split at hj
 ·rw[Am] at hj;simpa using hj
 ·cases hj
theorem run_load {t:TypeId}{i:TI}(y:TIok P t i) (w:World) (b off:Nat) (cs:List Value) (J:w.rangeAt b off cs) (hl:cs.length=i.size):
  (Instr.loadAt t (.pointer (some ⟨b,off,none⟩))).run P w=.ok (if i.k.agg then .agg ⟨cs⟩ else cs.headD undef) w:=by
 obtain⟨inf,dd,z,g1,g2,g3,g4,g5,g6,g7,g8⟩:=y.ex;cases hk:i.k.agg with
 | true=>
  have I:dd.isRow=true:=by
   cases O:i.k<;>rw[O] at g5 hk<;>cases dd<;>simp[TK.fits,TK.agg] at g5 hk<;>rfl
  rw[run_loadAt_mid w b off t cs dd J g2 I (by rw[y.info,hl])];simp
 | false=>
  have hs:=y.one hk;rw[hs] at hl
  match cs,hl with
  | [c],_=>
   have hc:=J 0 c rfl;have q:=y.agg_run w;rw[hk] at q;simp only[Instr.loadAt,Instr.sureAddr,Ad,Af,τ,loadVar,q];simp only[Ba,B5,load];simp only[Sem.run];rw[show(⟨b,off,none⟩:Addr)=⟨b,off+0,none⟩ from rfl,hc];simp
def sG (i:TI) (rs:List R):Option V:=if i.k.agg then some (a10 rs) else match rs with | [r]=>some (.one r) | _=>none
theorem mZ {i:TI}{S:Sto}{μ:Mu}{H:dD}{rs:List R}{vs:List Value}{y:V}(h:b6 S μ H rs vs) (q:sG i rs=some y):aY S μ H y (if i.k.agg then .agg ⟨vs⟩ else vs.headD undef):=by
 unfold sG at q;cases hk:i.k.agg with
 | true=>
  simp only[hk,Cw] at q ⊢;cases q;exact aLg h
 | false=>
  simp only[hk,Ba,B5] at q ⊢;split at q
  ·cases q;simp only[b6] at h;obtain⟨v,vs',rfl,h1,rfl⟩:=h;simpa [aY] using h1
  ·cases q
theorem a8a {α:Type}{l:List α}{off k:Nat}(h:off+k≤l.length):((l.drop off).take k).length=k:=by simp;omega
theorem a3k {t tv:TypeId}{i:TI}{x:Operand}{id off:Nat}{cells:List R}{y:V}(O:Tok P T) (Y:o.op=.load t x) (hd:o.dst=some d) (q:d<n) (hi:T[t]?=some (some i)) (hx:opv st x=some (.one (.vp id off)))
  (hh:st.h id=some (.var tv cells)) (hl:Nat.ble (off+i.size) cells.length=true) (Z:sG i ((cells.drop off).take i.size)=some y):Step P n o st ⟨opr x,[id]⟩ ⟨some (d,some y),[]⟩:=by
 refine Step.value hd q fun st' ha G S μ a w hs=>?_
 have I:st'.h id=some (.var tv cells):=by rw[ha.2 id (by simp),hh]
 have J:=aO hs hx ha.1;simp only[aY,b9] at J;obtain⟨t',cells',b,c,h1,h2,h3⟩:=J;obtain⟨b',vs,g1,g2,g3,g4⟩:=hs.inv.obj id _ I;rw[g1] at h2;cases h2;have hlen:=Ak hl;have aa:=g3.length;refine⟨_,?_,mZ ((g3.drop off).take i.size) Z⟩;simp only[execOp,Y,h3,Ad,run_load (O.get hi) w b off _ (lE g2 off i.size) (a8a (by omega)),τ,Af]
def aMi (i:TI) (l:List C):Option V:=if i.k.agg then some (.pa l) else match l with | [c]=>some (.one (.c c)) | _=>none
theorem aD9 {i:TI}{S:Sto}{μ:Mu}{H:dD}{l:List C}{vs:List Value}{y:V}(h:dH S l vs) (q:aMi i l=some y):aY S μ H y (if i.k.agg then .agg ⟨vs⟩ else vs.headD undef):=by
 unfold aMi at q;cases hk:i.k.agg with
 | true=>
  simp only[hk,Cw] at q ⊢;cases q;simp only[aY];exact⟨vs,rfl,h⟩
 | false=>
  simp only[hk,Ba,B5] at q ⊢;split at q
  ·cases q;simp only[dH] at h;obtain⟨v,vs',rfl,h1,rfl⟩:=h;simpa [aY,b9] using h1
  ·cases q
theorem oD {S:Sto}{w:World}(hh:Holds S w) {b off:Nat}{vs:List Value}(h:gS S b off vs):w.rangeAt b off vs:=fun j v hj=>hh.cell (h j v hj)
theorem aOi {t:TypeId}{i:TI}{x:Operand}{l:List C}{y:V}(O:Tok P T) (Y:o.op=.load t x) (hd:o.dst=some d) (q:d<n) (hi:T[t]?=some (some i)) (hx:opv st x=some (.one (.c (.pt l))))
  (hl:i.size≤l.length) (Z:aMi i (l.take i.size)=some y):Step P n o st ⟨opr x,[]⟩ ⟨some (d,some y),[]⟩:=by
 refine Step.value hd q fun st' ha G S μ a w hs=>?_
 have I:=aO hs hx ha.1;simp only[aY,b9,Rep] at I;obtain⟨b,off,h1,vs,h2,h3⟩:=I;have hvl:=h2.length;refine⟨_,?_,aD9 (h2.take i.size) Z⟩;have hr:=oD hs.inv.holds h3;have J:w.rangeAt b off (vs.take i.size):=fun j v hj=>by
  rw[Ay] at hj;split at hj
  ·exact hr j v hj
  ·cases hj
 simp only[execOp,Y,h1,Ad,run_load (O.get hi) w b off _ J (by simp;omega),τ,Af]
theorem gK {α:Type}{es:Nat}:∀{l:List (List α)},(∀r∈l,r.length=es)→∀(k:Nat),∀r,l[k]?=some r→(l.flatten.drop (k*es)).take es=r
 | [],_,k,r,h=>by simp at h
 | x::xs,hl,0,r,h=>by
  simp at h;subst h;have:=hl x (by simp);simp[←this]
 | x::xs,hl,k+1,r,h=>by
  simp at h;have hx:=hl x (by simp);have:=gK (l:=xs) (fun r q=>hl r (by simp[q])) k r h;rw[Bm,drop_append,show(k+1)*es-x.length=k*es by rw[hx,A7];omega];rw[drop_of_length_le (by rw[hx,A7];omega),A3];exact this
theorem jN {α:Type}{es:Nat}:∀{l:List (List α)},(∀r∈l,r.length=es)→l.flatten.length=l.length*es
 | [],_=>by simp
 | x::xs,hl=>by
  rw[Bm,ε,jN (fun r q=>hl r (by simp[q])),hl x (by simp),Ai,A7];omega
theorem nI.arr {S:Sto}{μ:Mu}{H:dD}{w:World}{id:Nat}{te es:Nat}{elems:List (List C)}{fz:Nat}(h:nI S μ H w id (.arr te es elems fz)) {b base cap:Nat}(hm:μ id=some (b,base,cap)):
  (∀r∈elems,r.length=es)∧∃vs,w.heap[b]?=some (.cells ⟨vs⟩ te (0,0))∧
   base+cap*es≤vs.length∧elems.length≤cap∧(cap≤maxLen∧S.mapo b=none)∧dH S elems.flatten ((vs.drop base).take (elems.length*es))∧
   (fz=0→∀o,base≤o→S.cell b o=none)∧(∀o,base+elems.length*es≤o→S.cell b o=none)∧(fz=2→gS S b base ((vs.drop base).take (elems.length*es))):=by
 obtain⟨h0,⟨h1,_⟩ | ⟨b',q,y,vs,h1,h2⟩⟩:=h
 ·rw[hm] at h1;cases h1
 ·rw[hm] at h1;cases h1;exact⟨h0,vs,h2⟩
theorem aW2 {S:Sto}{es base:Nat}{elems:List (List C)}{vs:List Value}(h0:∀r∈elems,r.length=es) (h:dH S elems.flatten ((vs.drop base).take (elems.length*es))) {k:Nat}{r:List C}(hk:elems[k]?=some r):
  dH S r ((vs.drop (base+k*es)).take es):=by
 have h1:=(h.drop (k*es)).take es;rw[gK h0 k r hk] at h1;have q:k<elems.length:=(ξ.1 hk).1
 have hle:(k+1)*es≤elems.length*es:=A0 _ q;rw[A7] at hle;rw[drop_take,drop_drop,take_take] at h1;rwa [Ci (by omega)] at h1
theorem aOj {t te es:Nat}{i:TI}{x:Operand}{id k fo sz:Nat}{elems:List (List C)}{fz:Nat}{r:List C}{y:V}(hT:Tok P T) (ho:o.op=.load t x) (hd:o.dst=some d) (Y:d<n) (hi:T[t]?=some (some i)) (hx:opv st x=some (.one (.ep id k fo sz)))
  (hh:st.h id=some (.arr te es elems fz)) (Z:sz=elems.length) (hr:elems[k]?=some r) (hl:fo+i.size≤es) (hy:aMi i ((r.drop fo).take i.size)=some y):Step P n o st ⟨opr x,[id]⟩ ⟨some (d,some y),[]⟩:=by
 refine Step.value hd Y fun st' ha G S μ a w hs=>?_
 have q:st'.h id=some (.arr te es elems fz):=by rw[ha.2 id (by simp),hh]
 have I:=aO hs hx ha.1;simp only[aY,b9] at I;obtain⟨_,I | ⟨te',es',elems',fz',h1,h2,h3⟩⟩:=I
 ·rw[q] at I;cases I
 rw[q] at h1;cases h1;obtain⟨h4,b,base,cap,h5,h6⟩:=h3 Z;obtain⟨g0,vs,g1,g2,g3,g4,g5,g6,g7⟩:=(hs.inv.obj id _ q).arr h5;have J:=aW2 g0 g5 hr;have hlr:=J.length;have hres:r.length=es:=g0 r (δ hr);have O:=((J.drop fo).take i.size)
 have hlen:=O.length;have hE:((List.drop fo (List.take es (List.drop (base+k*es) vs))).take i.size)=(vs.drop (base+k*es+fo)).take i.size:=by
  rw[drop_take,drop_drop,take_take,Ci (by omega)]
 rw[hE] at O hlen;refine⟨_,?_,aD9 O hy⟩;simp only[execOp,ho,h6,Ad,run_load (hT.get hi) w b (base+k*es+fo) _ (lE g1 _ i.size) (by rw[hlen];simp;omega),τ,Af]
end
section
variable {P:Program}{n:Nat}{o:Oper}{st:St}{d:Nat}{T:TT}
theorem run_store {t:TypeId}{i:TI}(O:TIok P t i) (w:World) (b off:Nat) (vs news:List Value) (tb:TypeId) (v:Value) (Y:w.heap[b]?=some (.cells ⟨vs⟩ tb (0,0))) (I:v.cells.toList=news) (hl:news.length=i.size) (y:off+news.length≤vs.length) (h1:∀u∈news,u.oneCell'=true):
  (Instr.storeAt t (.pointer (some ⟨b,off,none⟩)) v).run P w=.ok () (w.setRow b ⟨vs.take off++news++vs.drop (off+news.length)⟩):=by
 have J:v.cells.size=i.size:=by rw[←hl,←I];simp
 have q:=run_storeCells_at (P:=P) b off tb news 0 ⟨vs⟩ w Y (by simpa using y) h1;simp only[B9] at q;simp only[Instr.storeAt,Instr.sureAddr,Ad,Af,τ,storeVar,O.size_run w,J,I];simp only[ne_eq,not_true_eq_false,B5,q]
theorem jR {S:Sto}{μ:Mu}{H:dD}{id:Nat}{o o':AObj}{p:Nat×Nat×Nat}(h:H id=some o) (hm:μ id=some p) (hs:o.succ True o'):Evolve S μ H S (upd μ id (some p)) (upd H id (some o')):=by
 refine⟨S.le_refl,fun j x hj=>?_⟩;by_cases q:j=id
 ·subst q;rw[h] at hj;cases hj;refine⟨o',aI _ _ _,?_⟩;have he:upd μ j (some p) j=μ j:=by rw[aI,hm]
  rw[he];simpa using hs
 ·exact⟨x,by rw[aV _ _ _ q];exact hj,x.succ_refl (aV _ _ _ q)⟩
theorem Step.turn {rd:Rd}{id:Nat}{ao q:AObj}(hd:o.dst=none) (hid:st.h id=some ao) (O:id∈rd.h) (I:ao.succ True q)
  (h:∀st',rR rd st st'→st'.h id=some ao→∀G S μ a w,Sim G n S μ st' a w→∃w' J b c,(execOp a.eval o).run P w=.ok .skip w'∧μ id=some (b,c)∧WChg w w' b J∧
   nI S (upd μ id (some (b,c))) (upd st'.h id (some q)) w' id q∧(∀o v,S.cell b o=some v→∃vs t fr,J=.cells vs t fr∧vs[o]?=some v)∧(∀m,S.mapo b=some m→w.heap.size≤b)):
  Step P n o st rd ⟨none,[(id,some q)]⟩:=by
 intro st' ha G S μ a w K Q hs hk;have y:st'.h id=some ao:=by rw[ha.2 id O,hid]
 obtain⟨w',J,b,c,hr,hm,hw,hO,hS,Y⟩:=h st' ha y G S μ a w hs;refine fun ro=>rS hr ?_
 rw[hd];have Z:=jR (S:=S) (μ:=μ) y hm I;have hi:=hs.inv.chg (id:=id) (cap:=c) (ao:=q) hw (.inr ⟨ao,c,y,hm⟩) Z hO hS Y;refine hk S (upd μ id (some (b,c))) _ _ ?_;have:=hs.put_none hi Z undef;unfold Eff.apply;rw[dG];exact this
def cV {α:Type}(l:List α) (off:Nat) (new:List α):List α:=l.take off++new++l.drop (off+new.length)
theorem jL {S:Sto}{w:World}{b:Nat}(hb:S.mapo b=none) (m:MK) (e:S.mapo b=some m):w.heap.size≤b:=by
 rw[hb] at e;cases e
theorem aZb {t tv:TypeId}{i:TI}{x y:Operand}{id off:Nat}{cells rs:List R}{v:V}(hT:Tok P T) (ho:o.op=.store t x y) (hd:o.dst=none) (hi:T[t]?=some (some i)) (hx:opv st x=some (.one (.vp id off)))
  (hy:opv st y=some v) (hc:j0 v=some rs) (hh:st.h id=some (.var tv cells)) (hrs:rs.length=i.size) (hl:Nat.ble (off+i.size) cells.length=true):
  Step P n o st ⟨opr x++opr y,[id]⟩ ⟨none,[(id,some (.var tv (cV cells off rs)))]⟩:=by
 refine Step.turn hd hh (by simp) (by simp[AObj.succ]) fun st' ha I G S μ a w hs=>?_
 have J:=aO hs hx fun t ht=>ha.1 t (by simp[ht])
 have aa:=aO hs hy fun t ht=>ha.1 t (by simp[ht])
 simp only[aY,b9] at J;obtain⟨t',cells',b,c,h1,h2,h3⟩:=J;obtain⟨b',vs,g1,g2,g3,g4⟩:=hs.inv.obj id _ I;rw[g1] at h2;cases h2;have hlen:=Ak hl;have hvl:=g3.length;have q:=fC aa hc;have O:=q.length;have Y:=run_store (hT.get hi) w b off vs (a.eval y).cells.toList tv (a.eval y) g2 rfl (by omega) (by omega) q.one;have Z:=jR (S:=S) (μ:=μ) (o':=.var tv (cV cells off rs)) I g1 (by simp[AObj.succ]);have hW:=WChg.setRow w b ⟨vs⟩ ⟨vs.take off++(a.eval y).cells.toList++vs.drop (off+(a.eval y).cells.toList.length)⟩ tv (0,0) g2;refine⟨_,_,b,(0,0),?_,g1,hW,⟨b,_,aI _ _ _,hW.new,?_,g4⟩,(fun o v e=>by rw[g4.1] at e;cases e),fun m e=>jL g4.2 m e⟩
 ·simp only[execOp,ho,h3,Ad,Y,τ,Af]
 ·have h1:=b6.evolve Z _ _ (g3.take off);have h2:=b6.evolve Z _ _ q;have h3:=b6.evolve Z _ _ (g3.drop (off+rs.length));rw[←O] at h3;have:=(h1.append h2).append h3;rw[show cV cells off rs=cells.take off++rs++cells.drop (off+(a.eval y).cells.toList.length) by rw[O];rfl] at this ⊢;exact this
theorem aHa {α:Type}{es:Nat}:∀{l:List (List α)},(∀r∈l,r.length=es)→∀(k:Nat) (r:List α),l[k]?=some r→
  (l.take k).flatten=l.flatten.take (k*es)∧(l.drop (k+1)).flatten=l.flatten.drop (k*es+es)
 | [],_,k,r,h=>by simp at h
 | x::xs,hl,0,r,_=>by
  have hx:=hl x (by simp);simp only[Cd,List.flatten_nil,Nat.zero_mul,Be,C6,B3,Bm,true_and];rw[drop_append,hx,C7,B3,drop_of_length_le (by omega),A3]
 | x::xs,hl,k+1,r,h=>by
  have hx:=hl x (by simp);simp at h;obtain⟨h1,h2⟩:=aHa (l:=xs) (fun r q=>hl r (by simp[q])) k r h;simp only[Bj,Bm,C6];rw[h1,h2,List.take_append,drop_append,hx];have y:(k+1)*es-es=k*es:=by rw[A7];omega
  have I:(k+1)*es+es-es=k*es+es:=by rw[A7];omega
  rw[y,I,Az (l:=x) (by rw[hx,A7];omega),drop_of_length_le (l:=x) (by rw[hx,A7];omega),A3];exact⟨rfl,rfl⟩
theorem aLx {t te es:Nat}{i:TI}{x y:Operand}{id k fo sz:Nat}{elems:List (List C)}{v:V}{rs:List R}{cs r:List C}(hT:Tok P T) (ho:o.op=.store t x y) (hd:o.dst=none) (hi:T[t]?=some (some i)) (hx:opv st x=some (.one (.ep id k fo sz)))
  (hy:opv st y=some v) (hc:j0 v=some rs) (hp:jV rs=some cs) (hh:st.h id=some (.arr te es elems 0)) (hsz:sz=elems.length) (hr:elems[k]?=some r) (hcs:cs.length=i.size) (hl:fo+i.size≤es):
  Step P n o st ⟨opr x++opr y,[id]⟩ ⟨none,[(id,some (.arr te es (elems.set k (cV r fo cs)) 0))]⟩:=by
 refine Step.turn hd hh (by simp) (by simp[AObj.succ]) fun st' ha J G S μ a w hs=>?_
 have hvx:=aO hs hx fun t ht=>ha.1 t (by simp[ht])
 have hvy:=aO hs hy fun t ht=>ha.1 t (by simp[ht])
 simp only[aY,b9] at hvx;obtain⟨_,hv | ⟨te',es',elems',fz',h1,h2,h3⟩⟩:=hvx
 ·rw[J] at hv;cases hv
 rw[J] at h1;cases h1;obtain⟨h4,b,base,cap,h5,h6⟩:=h3 hsz;obtain⟨g0,vs,g1,g2,g3,g4,g5,g6,g7⟩:=(hs.inv.obj id _ J).arr h5;have I:=fC hvy hc;rw[pC hp] at I;have Y:=I.pure;have hone:=I.one;have hnl:=Y.length;have hk:k<elems.length:=(ξ.1 hr).1
 have hres:r.length=es:=g0 r (δ hr);have hke:(k+1)*es≤elems.length*es:=A0 _ hk;have hce:elems.length*es≤cap*es:=A0 _ g3;rw[A7] at hke;generalize hnews:(a.eval y).cells.toList=news at *;have hrun:=run_store (hT.get hi) w b (base+k*es+fo) vs news te (a.eval y) g1 hnews (by omega) (by omega) hone;have hE:=jR (S:=S) (μ:=μ) (o':=.arr te es (elems.set k (cV r fo cs)) 0) J h5 (by simp[AObj.succ]);have Z:=aW2 g0 g5 hr;have O:=aHa g0 k r hr;have hlen:(elems.set k (cV r fo cs)).length=elems.length:=by simp
 have hW:=WChg.setRow w b ⟨vs⟩ ⟨vs.take (base+k*es+fo)++news++vs.drop (base+k*es+fo+news.length)⟩ te (0,0) g1;refine⟨_,_,b,(base,cap),?_,h5,hW,⟨?_,.inr ⟨b,base,cap,_,aI _ _ _,hW.new,?_,by rw[hlen];exact g3,g4,?_,g6,by rw[hlen];exact g7.1,fun e=>by cases e⟩⟩,fun o v e=>?_,fun m e=>jL g4.2 m e⟩
 ·simp only[execOp,ho,h6,Ad,hrun,τ,Af]
 ·intro q hq;rcases Cj hq with hq | rfl
  ·exact g0 q hq
  ·unfold cV;simp;omega
 ·simp only[ε,Ap,Bk];omega
 ·rw[hlen];have e1:(elems.set k (cV r fo cs)).flatten=elems.flatten.take (k*es)++(r.take fo++cs++r.drop (fo+cs.length))++elems.flatten.drop (k*es+es):=by
   rw[Cl,κ hk,flatten_append,Bm,O.1,O.2,←Aw];rfl
  have e2:((vs.take (base+k*es+fo)++news++vs.drop (base+k*es+fo+news.length)).drop base).take (elems.length*es)=
    ((vs.drop base).take (elems.length*es)).take (k*es)++((((vs.drop (base+k*es)).take es).take fo)++news++(((vs.drop (base+k*es)).take es).drop (fo+cs.length)))++((vs.drop base).take (elems.length*es)).drop (k*es+es):=by
   apply Bg;intro j;simp only[Ay,Am,B7,ε,Ap,Bk];have hm1:min (k*es) (min (elems.length*es) (vs.length-base))=k*es:=by omega
   have hm2:min (base+k*es+fo) vs.length=base+k*es+fo:=by omega
   have hm3:min fo es=fo:=by omega
   have hm4:min es (vs.length-(base+k*es))=es:=by omega
   simp only[hm1,hm2,hm3,hm4,hnl];by_cases c1:j<k*es
   ·have a1:j<elems.length*es:=by omega
    have a2:base+j<base+k*es+fo:=by omega
    have a3:base+j<base+k*es+fo+cs.length:=by omega
    have a4:j<k*es+(fo+cs.length+(es-(fo+cs.length))):=by omega
    simp[c1,a1,a2,a3,a4]
   ·by_cases c2:j<k*es+fo
    ·have a1:j<elems.length*es:=by omega
     have a2:base+j<base+k*es+fo:=by omega
     have a3:base+j<base+k*es+fo+cs.length:=by omega
     have a4:j<k*es+(fo+cs.length+(es-(fo+cs.length))):=by omega
     have a5:j-k*es<fo+cs.length:=by omega
     have a6:j-k*es<fo:=by omega
     have a7:j-k*es<es:=by omega
     simp[c1,a1,a2,a3,a4,a5,a6,a7,show base+k*es+(j-k*es)=base+j by omega]
    ·by_cases c3:j<k*es+fo+cs.length
     ·have a1:j<elems.length*es:=by omega
      have a2:¬base+j<base+k*es+fo:=by omega
      have a3:base+j<base+k*es+fo+cs.length:=by omega
      have a4:j<k*es+(fo+cs.length+(es-(fo+cs.length))):=by omega
      have a5:j-k*es<fo+cs.length:=by omega
      have a6:¬j-k*es<fo:=by omega
      simp[c1,a1,a2,a3,a4,a5,a6,show base+j-(base+k*es+fo)=j-k*es-fo by omega]
     ·by_cases c4:j<k*es+es
      ·have a1:j<elems.length*es:=by omega
       have a3:¬base+j<base+k*es+fo+cs.length:=by omega
       have a4:j<k*es+(fo+cs.length+(es-(fo+cs.length))):=by omega
       have a5:¬j-k*es<fo+cs.length:=by omega
       have a6:fo+cs.length+(j-k*es-(fo+cs.length))<es:=by omega
       simp[c1,a1,a3,a4,a5,a6,show base+k*es+fo+cs.length+(base+j-(base+k*es+fo+cs.length))=base+j by omega,show base+k*es+(fo+cs.length+(j-k*es-(fo+cs.length)))=base+j by omega]
      ·have a3:¬base+j<base+k*es+fo+cs.length:=by omega
       have a4:¬j<k*es+(fo+cs.length+(es-(fo+cs.length))):=by omega
       by_cases c5:j<elems.length*es
       ·have a5:k*es+es+(j-(k*es+(fo+cs.length+(es-(fo+cs.length)))))<elems.length*es:=by omega
        simp[a3,a4,c5,a5,show base+k*es+fo+cs.length+(base+j-(base+k*es+fo+cs.length))=base+j by omega,show base+(k*es+es+(j-(k*es+(fo+cs.length+(es-(fo+cs.length))))))=base+j by omega]
       ·have a5:¬k*es+es+(j-(k*es+(fo+cs.length+(es-(fo+cs.length)))))<elems.length*es:=by omega
        simp[a4,c5,a5]
  rw[e1];show dH S _ (((vs.take (base+k*es+fo)++news++vs.drop (base+k*es+fo+news.length)).drop base).take (elems.length*es));rw[e2];exact((g5.take (k*es)).append (((Z.take fo).append Y).append (Z.drop (fo+cs.length)))).append (g5.drop (k*es+es))
 ·--what stays is not touched
  by_cases hb:base≤o
  ·rw[g6 rfl o hb] at e;cases e
  ·obtain⟨vs0,t0,fr0,q1,q2⟩:=hs.inv.holds.1 b o v e;rw[g1] at q1;cases q1;refine⟨_,_,_,rfl,?_⟩;simp only[List.getElem?_toArray] at q2 ⊢;have hlt:o<vs.length:=(ξ.1 q2).1
   rw[Aw,Ax (by simp;omega),Ay,κ (by omega)];exact q2
theorem aB4 (b off k:Nat):(⟨b,off,none⟩:Addr).add k=⟨b,off+k,none⟩:=Addr.add_mid b off k
theorem jG {t I:TypeId}{i J:TI}{fs:List (Nat×TypeId)}{f q:Nat}(O:Tok P T) (hi:T[t]?=some (some i)) (hk:i.k=.st fs) (y:fs[f]?=some (q,I)) (Y:T[I]?=some (some J)) (hz:J.size≠0) (w:World) (b off:Nat):
  (Instr.fieldAt t (.pointer (some ⟨b,off,none⟩)) f).run P w=.ok (.pointer (some ⟨b,off+q,none⟩)) w:=by
 obtain⟨fields,h1,h2⟩:=(O.get hi).struct hk;rw[h2] at y;simp only[Aq,Ar,Array.getElem?_toList] at y;obtain⟨fl,h3,h4⟩:=y;cases h4;simp only[Instr.fieldAt,Ad,Av h1 w,τ,h3,Instr.sureAddr,Af,fieldPlace,(O.get Y).size_run w];simp[hz,aB4]
theorem aL3 {t y:TypeId}{i I:TI}{fs:List (Nat×TypeId)}{f q:Nat}{x:Operand}{id off:Nat}(Z:Tok P T) (ho:o.op=.fieldAddr t x f) (hd:o.dst=some d) (J:d<n) (hi:T[t]?=some (some i)) (hk:i.k=.st fs) (hf:fs[f]?=some (q,y)) (O:T[y]?=some (some I)) (hz:I.size≠0)
  (hx:opv st x=some (.one (.vp id off))):Step P n o st ⟨opr x,[]⟩ ⟨some (d,some (.one (.vp id (off+q)))),[]⟩:=by
 refine Step.value hd J fun st' ha G S μ a w hs=>?_
 have Y:=aO hs hx ha.1;simp only[aY,b9] at Y;obtain⟨t',cells',b,c,h1,h2,h3⟩:=Y;refine⟨.pointer (some ⟨b,off+q,none⟩),?_,?_⟩
 ·simp only[execOp,ho,h3,Ad,jG Z hi hk hf O hz,τ,Af]
 ·simp only[aY,b9];exact⟨t',cells',b,c,h1,h2,rfl⟩
theorem aL5 {t y:TypeId}{i I:TI}{fs:List (Nat×TypeId)}{f q:Nat}{x:Operand}{l:List C}(Z:Tok P T) (ho:o.op=.fieldAddr t x f) (hd:o.dst=some d) (J:d<n) (hi:T[t]?=some (some i)) (hk:i.k=.st fs) (hf:fs[f]?=some (q,y)) (O:T[y]?=some (some I)) (hz:I.size≠0)
  (hx:opv st x=some (.one (.c (.pt l)))):Step P n o st ⟨opr x,[]⟩ ⟨some (d,some (.one (.c (.pt (l.drop q))))),[]⟩:=by
 refine Step.value hd J fun st' ha G S μ a w hs=>?_
 have Y:=aO hs hx ha.1;simp only[aY,b9,Rep] at Y;obtain⟨b,off,h1,vs,h2,h3⟩:=Y;refine⟨.pointer (some ⟨b,off+q,none⟩),?_,?_⟩
 ·simp only[execOp,ho,h1,Ad,jG Z hi hk hf O hz,τ,Af]
 ·simp only[aY,b9,Rep];refine⟨b,off+q,rfl,vs.drop q,h2.drop q,fun j v hj=>?_⟩;rw[Am] at hj;have:=h3 (q+j) v hj;rwa [←Cq] at this
theorem aL6 {t J:TypeId}{i O:TI}{fs:List (Nat×TypeId)}{f q:Nat}{x:Operand}{id k fo sz:Nat}(hT:Tok P T) (ho:o.op=.fieldAddr t x f) (hd:o.dst=some d) (Y:d<n) (hi:T[t]?=some (some i)) (hk:i.k=.st fs) (hf:fs[f]?=some (q,J)) (Z:T[J]?=some (some O)) (hz:O.size≠0)
  {te es:Nat} {elems:List (List C)} {fz:Nat} (hx:opv st x=some (.one (.ep id k fo sz))) (hh:st.h id=some (.arr te es elems fz)) (aa:sz=elems.length):Step P n o st ⟨opr x,[id]⟩ ⟨some (d,some (.one (.ep id k (fo+q) sz))),[]⟩:=by
 refine Step.value hd Y fun st' ha G S μ a w hs=>?_
 have y:=aO hs hx ha.1;have I:st'.h id=some (.arr te es elems fz):=by rw[ha.2 id (by simp),hh]
 simp only[aY,b9] at y;obtain⟨_,y | ⟨te',es',elems',fz',h1,h2,h3⟩⟩:=y
 ·rw[I] at y;cases y
 rw[I] at h1;cases h1;obtain⟨h4,b,base,cap,h5,h6⟩:=h3 aa;refine⟨.pointer (some ⟨b,base+k*es+fo+q,none⟩),?_,?_⟩
 ·simp only[execOp,ho,h6,Ad,jG hT hi hk hf Z hz,τ,Af]
 ·simp only[aY,b9];exact⟨⟨_,rfl⟩,.inr ⟨te,es,elems,fz,I,h2,fun _=>⟨h4,b,base,cap,h5,by rw[Cq]⟩⟩⟩
theorem lC {t e:TypeId}{i ei:TI}(q:Tok P T) (hi:T[t]?=some (some i)) (hk:i.k=.sl e) (y:T[e]?=some (some ei)) (w:World) (b off len cap k:Nat) (kk:IntKind) (I:k<len):
  (Instr.indexAt t (.slice (some ⟨b,off,none⟩) len cap) (.int kk (k:Int))).run P w=.ok (.pointer (some ⟨b,off+k*ei.size,none⟩)) w:=by
 have h1:=(q.get hi).slice hk;simp only[Instr.indexAt,asIntOf,Ad,Af,τ,Av h1 w];rw[κ ⟨by omega,by omega⟩];simp only[Ad,(q.get y).size_run w,τ,Af,Int.toNat_natCast,aB4]
theorem aZd {t e:TypeId}{i ei:TI}{x y:Operand}{es k:Nat}{kk:IntKind}{m:Int}{l:List (List C)}{r:List C}(hT:Tok P T) (ho:o.op=.indexAddr t x y) (hd:o.dst=some d) (J:d<n) (hi:T[t]?=some (some i)) (hk:i.k=.sl e) (O:T[e]?=some (some ei)) (Y:ei.size=es)
  (hx:opv st x=some (.one (.c (.sl es l)))) (hy:opv st y=some (I kk m)) (hm:m=(k:Int)) (Z:l[k]?=some r):Step P n o st ⟨opr x++opr y,[]⟩ ⟨some (d,some (.one (.c (.pt r)))),[]⟩:=by
 refine Step.value hd J fun st' ha G S μ a w hs=>?_
 have hv:=aO hs hx (fF ha).1;have hv2:=gH (aO hs hy (fF ha).2);have hlt:k<l.length:=(ξ.1 Z).1
 simp only[aY,b9,Rep] at hv;obtain⟨q,len,cap,h1,h2,h3,h4,h5,h6,b,off,h7,h8⟩:=hv;cases q with
 | none=>have:=(h5 rfl).1;omega
 | some q=>
  obtain⟨h9,h10⟩:=h7 q rfl;have h11:=h6 q rfl (by omega);have had:q=⟨b,off,none⟩:=by cases q;simp_all
  subst had;subst hm;obtain⟨q1,vs,q2,q3⟩:=h8.get k r Z;refine⟨.pointer (some ⟨b,off+k*es,none⟩),?_,?_⟩
  ·simp only[execOp,ho,h1,hv2,Ad,lC hT hi hk O w b off len cap k kk (by omega),τ,Af,Y]
  ·simp only[aY,b9,Rep];exact⟨b,off+k*es,rfl,vs,q2,q3⟩
theorem xK {t e:TypeId}{i ei:TI}{x y:Operand}{te es k id off len sz:Nat}{kk:IntKind}{m:Int}{elems:List (List C)}{fz:Nat}(hT:Tok P T) (ho:o.op=.indexAddr t x y) (hd:o.dst=some d) (Y:d<n) (hi:T[t]?=some (some i)) (hk:i.k=.sl e) (Z:T[e]?=some (some ei)) (aa:ei.size=es)
  (hx:opv st x=some (.one (.hs id off len sz))) (hh:st.h id=some (.arr te es elems fz)) (O:sz=elems.length) (hy:opv st y=some (I kk m)) (hm:m=(k:Int)) (ab:k<len):Step P n o st ⟨opr x++opr y,[id]⟩ ⟨some (d,some (.one (.ep id (off+k) 0 sz))),[]⟩:=by
 refine Step.value hd Y fun st' ha G S μ a w hs=>?_
 have q:=aO hs hx fun t ht=>ha.1 t (by simp[ht])
 have ac:=gH (aO hs hy fun t ht=>ha.1 t (by simp[ht]));have J:st'.h id=some (.arr te es elems fz):=by rw[ha.2 id (by simp),hh]
 simp only[aY,b9] at q;obtain⟨_,q | ⟨te',es',elems',fz',h1,h2,h3⟩⟩:=q
 ·rw[J] at q;cases q
 rw[J] at h1;cases h1;obtain⟨h4,⟨h5,h6,h7⟩ | ⟨b,base,cap,h5,h6⟩⟩:=h3 O
 ·subst h6;simp at O;omega
 subst hm;refine⟨.pointer (some ⟨b,base+(off+k)*es+0,none⟩),?_,?_⟩
 ·simp only[execOp,ho,h6,ac,Ad,lC hT hi hk Z w b (base+off*es) len _ k kk ab,τ,Af,aa,B9];rw[show base+off*es+k*es=base+(off+k)*es by rw[A7];omega]
 ·simp only[aY,b9];exact⟨⟨_,rfl⟩,.inr ⟨te,es,elems,fz,J,h2,fun _=>⟨by omega,b,base,cap,h5,rfl⟩⟩⟩
theorem aCo {t e:TypeId}{m:Nat}{i ei:TI}(q:Tok P T) (hi:T[t]?=some (some i)) (hk:i.k=.ar m e) (y:T[e]?=some (some ei)) (w:World) (b off k:Nat) (kk:IntKind) (I:k<m):
  (Instr.indexAt t (.pointer (some ⟨b,off,none⟩)) (.int kk (k:Int))).run P w=.ok (.pointer (some ⟨b,off+k*ei.size,none⟩)) w:=by
 have h1:=(q.get hi).array hk;have h2:(Instr.sureAddr (.pointer (some ⟨b,off,none⟩))).run P w=.ok ⟨b,off,none⟩ w:=by simp[Instr.sureAddr]
 simp only[Instr.indexAt,asIntOf,Ad,Af,τ,Av h1 w,h2];rw[κ ⟨by omega,by omega⟩];simp only[Ad,(q.get y).size_run w,τ,Af,Int.toNat_natCast,aB4]
theorem aGr {t e:TypeId}{i ei:TI}{x y:Operand}{id off k m:Nat}{kk:IntKind}{q:Int}(hT:Tok P T) (ho:o.op=.indexAddr t x y) (hd:o.dst=some d) (J:d<n) (hi:T[t]?=some (some i)) (hk:i.k=.ar m e) (O:T[e]?=some (some ei))
  (hx:opv st x=some (.one (.vp id off))) (hy:opv st y=some (I kk q)) (hm:q=(k:Int)) (Y:k<m):Step P n o st ⟨opr x++opr y,[]⟩ ⟨some (d,some (.one (.vp id (off+k*ei.size)))),[]⟩:=by
 refine Step.value hd J fun st' ha G S μ a w hs=>?_
 have Z:=aO hs hx (fF ha).1;have aa:=gH (aO hs hy (fF ha).2);simp only[aY,b9] at Z;obtain⟨t',cells',b,c,h1,h2,h3⟩:=Z;subst hm;refine⟨.pointer (some ⟨b,off+k*ei.size,none⟩),?_,?_⟩
 ·simp only[execOp,ho,h3,aa,Ad,aCo hT hi hk O w b off k kk Y,τ,Af]
 ·simp only[aY,b9];exact⟨t',cells',b,c,h1,h2,rfl⟩
def notNil:V→Bool
 | .one (.vp _ _)=>true
 | .one (.c (.pt _))=>true
 | .one (.pas _)=>true
 | _=>false
theorem aLy {x:Operand}{y:V}(J:o.op=.nilCheck x) (hd:o.dst=some d) (O:d<n) (hx:opv st x=some y) (I:notNil y=true):Step P n o st ⟨opr x,[]⟩ ⟨some (d,some y),[]⟩:=by
 refine Step.value hd O fun st' ha G S μ a w hs=>⟨a.eval x,?_,aO hs hx ha.1⟩
 have q:=aO hs hx ha.1;unfold notNil at I;split at I
 ·simp only[aY,b9] at q;obtain⟨t',cells',b,c,h1,h2,h3⟩:=q;simp[execOp,J,h3]
 ·simp only[aY,b9,Rep] at q;obtain⟨b,off,h1,_⟩:=q;simp[execOp,J,h1]
 ·simp only[aY,b9] at q;obtain⟨b,off,h1,_⟩:=q;simp[execOp,J,h1]
 ·cases I
theorem lB {t:TypeId}{x:Operand}{a:Act}{w:World}{u:Value}{m:Int}(q:o.op=.call { callee:=.builtin .len,args:= #[x],argTypes:= #[t] }) (hx:a.eval x=u) (y:(Builtin.len_ #[t] o.type #[u]).run P w=.ok (goInt m) w):
  (execOp a.eval o).run P w=.ok (.value (goInt m)) w:=by
 simp only[execOp,q,resolve,map_toArray,At,Co,hx,Ad,Af,τ,invoke,builtin,y]
theorem aUb {t e:TypeId}{i:TI}{x:Operand}{es:Nat}{l:List (List C)}(J:Tok P T) (O:o.op=.call { callee:=.builtin .len,args:= #[x],argTypes:= #[t] }) (hd:o.dst=some d) (q:d<n) (hi:T[t]?=some (some i)) (hk:i.k=.sl e)
  (hx:opv st x=some (.one (.c (.sl es l)))):Step P n o st ⟨opr x,[]⟩ ⟨some (d,some (I .i64 (l.length:Int))),[]⟩:=by
 refine Step.value hd q fun st' ha G S μ a w hs=>?_
 have y:=aO hs hx ha.1;simp only[aY,b9,Rep] at y;obtain⟨Y,len,cap,h1,h2,_⟩:=y;refine⟨goInt l.length,lB O h1 ?_,by simp[aY,b9,Rep,goInt]⟩;simp[Builtin.len_,Av ((J.get hi).slice hk) w,h2]
theorem aUd {t e:TypeId}{i:TI}{x:Operand}(J:Tok P T) (O:o.op=.call { callee:=.builtin .len,args:= #[x],argTypes:= #[t] }) (hd:o.dst=some d) (q:d<n) (hi:T[t]?=some (some i)) (hk:i.k=.sl e)
  (hx:opv st x=some (.one (.c .nl))):Step P n o st ⟨opr x,[]⟩ ⟨some (d,some (I .i64 0)),[]⟩:=by
 refine Step.value hd q fun st' ha G S μ a w hs=>?_
 have y:=aO hs hx ha.1;simp only[aY,b9,Rep] at y;refine⟨goInt 0,lB O y ?_,by simp[aY,b9,Rep,goInt]⟩;simp[Builtin.len_,Av ((J.get hi).slice hk) w]
theorem aJd {t e:TypeId}{i:TI}{x:Operand}{te es id off len sz:Nat}{elems:List (List C)}{fz:Nat}(O:Tok P T) (Y:o.op=.call { callee:=.builtin .len,args:= #[x],argTypes:= #[t] }) (hd:o.dst=some d) (Z:d<n) (hi:T[t]?=some (some i)) (hk:i.k=.sl e)
  (hx:opv st x=some (.one (.hs id off len sz))) (hh:st.h id=some (.arr te es elems fz)) (y:sz=elems.length):Step P n o st ⟨opr x,[id]⟩ ⟨some (d,some (I .i64 (len:Int))),[]⟩:=by
 refine Step.value hd Z fun st' ha G S μ a w hs=>?_
 have q:=aO hs hx ha.1;have J:st'.h id=some (.arr te es elems fz):=by rw[ha.2 id (by simp),hh]
 simp only[aY,b9] at q;obtain⟨_,q | ⟨te',es',elems',fz',h1,h2,h3⟩⟩:=q
 ·rw[J] at q;cases q
 rw[J] at h1;cases h1;obtain⟨h4,⟨h5,h6,h7⟩ | ⟨b,base,cap,h5,h6⟩⟩:=h3 y
 ·subst h6;simp at y;have aa:len=0:=by omega
  refine⟨goInt len,lB Y h7 ?_,by simp[aY,b9,Rep,goInt]⟩;simp[Builtin.len_,Av ((O.get hi).slice hk) w,aa]
 ·refine⟨goInt len,lB Y h6 ?_,by simp[aY,b9,Rep,goInt]⟩;simp[Builtin.len_,Av ((O.get hi).slice hk) w]
theorem aOk {t:TypeId}{i:TI}{x:Operand}{s:List UInt8}(y:Tok P T) (J:o.op=.call { callee:=.builtin .len,args:= #[x],argTypes:= #[t] }) (hd:o.dst=some d) (q:d<n) (hi:T[t]?=some (some i)) (hk:i.k=.str)
  (hx:opv st x=some (Go.AM.T s)):Step P n o st ⟨opr x,[]⟩ ⟨some (d,some (I .i64 (s.length:Int))),[]⟩:=by
 refine Step.value hd q fun st' ha G S μ a w hs=>?_
 have O:=lI (aO hs hx ha.1);refine⟨goInt s.length,lB J O ?_,by simp[aY,b9,Rep,goInt]⟩;simp[Builtin.len_,Av ((y.get hi).str hk) w];rfl
end
section
variable {P:Program}{n:Nat}{o:Oper}{st:St}{d:Nat}{T:TT}
theorem pY (off:Nat):∀(vs:List Value) (j:Nat) (cells:Array Value),off+j+vs.length≤cells.size→
  (vs.zipIdx j).foldl (fun cs (x:Value×Nat)=>cs.setIfInBounds (off+x.2) x.1) cells=⟨cV cells.toList (off+j) vs⟩
 | [],j,cells,_=>by simp[cV]
 | v::vs,j,cells,h=>by
  simp only[Ai] at h;have Y:=pY off vs (j+1) (cells.setIfInBounds (off+j) v) (by simp;omega);simp only[List.zipIdx_cons,Cm,Y];congr 1;unfold cV;simp only[Array.toList_setIfInBounds];apply Bg;intro k;simp only[B7,ε,Ap,Cn,Bd,Ai,Ay,Am,List.getElem?_set];have y:min (off+(j+1)) cells.size=off+j+1:=by omega
  have I:min (off+j) cells.size=off+j:=by omega
  simp only[y,I];by_cases J:k<off+j
  ·have a1:k<off+j+1+vs.length:=by omega
   have a2:k<off+j+1:=by omega
   have a3:k<off+(j+1):=by omega
   have a4:k<off+j+(vs.length+1):=by omega
   have a5:¬off+j=k:=by omega
   simp[J,a1,a2,a3,a4,a5]
  ·by_cases Z:k=off+j
   ·subst Z;have a1:off+j<off+j+1+vs.length:=by omega
    have a5:off+j<cells.size:=by omega
    have q:off+j<off+(j+1):=by omega
    simp[a1,a5,q]
   ·by_cases O:k<off+j+1+vs.length
    ·have a2:¬k<off+j+1:=by omega
     have a4:k<off+j+(vs.length+1):=by omega
     have q:k-(off+j)=(k-(off+j+1))+1:=by omega
     simp[J,O,a2,a4,q]
    ·have a4:¬k<off+j+(vs.length+1):=by omega
     have a5:¬off+j=k:=by omega
     simp[O,a4,a5,show off+(j+1)+vs.length+(k-(off+j+1+vs.length))=k by omega,show off+j+(vs.length+1)+(k-(off+j+(vs.length+1)))=k by omega]
def rV (st:St):List (Nat×Operand)→Option (List (Nat×List R))
 | []=>some []
 | (i,x)::ps=>match opv st x with
  | some v=>match j0 v with
   | some rs=>match rV st ps with | some l=>some ((i,rs)::l) | none=>none
   | none=>none
  | none=>none
def iG:List (Nat×Operand)→List Nat
 | []=>[]
 | (_,x)::ps=>opr x++iG ps
def aMo (places:List (Nat×Nat)):List R→List (Nat×List R)→Option (List R)
 | cells,[]=>some cells
 | cells,(i,rs)::ps=>match places[i]? with
  | some (off,size)=>if Nat.beq rs.length size&&Nat.ble (off+rs.length) cells.length then aMo places (cV cells off rs) ps else none
  | none=>none
def mM (T:TT):List (Nat×TypeId)→Option (List (Nat×Nat))
 | []=>some []
 | (off,t)::fs=>match T[t]? with
  | some (some i)=>match mM T fs with | some l=>some ((off,i.size)::l) | none=>none
  | _=>none
theorem aMd {G:Ctx}{S:Sto}{μ:Mu}{st':St}{a:Act}{w:World}(hs:Sim G n S μ st' a w):∀(ps:List (Nat×Operand)) (l:List (Nat×List R)),rV st ps=some l→(∀t∈iG ps,st'.e t=st.e t)→
  ∃vs:List (Nat×Value),ps.map (fun(i,x)=>(i,a.eval x))=vs∧vs.length=l.length∧∀(k:Nat) (p:Nat×List R),l[k]?=some p→∃v:Value,vs[k]?=some (p.1,v)∧b6 S μ st'.h p.2 v.cells.toList:=by
 intro ps
 induction ps with
 | nil=>intro l h _;simp[rV] at h;subst h;exact⟨[],rfl,rfl,fun k p h=>by simp at h⟩
 | cons p ps J=>
  obtain⟨i,x⟩:=p;intro l h ha;simp only[rV] at h;split at h
  ·rename_i v O;split at h
   ·rename_i rs hc;split at h
    ·rename_i l' I;cases h;obtain⟨vs,h1,h2,h3⟩:=J l' I fun t ht=>ha t (by simp[iG,ht])
     refine⟨(i,a.eval x)::vs,by simp[h1],by simp[h2],fun k q y=>?_⟩;cases k with
     | zero=>
      simp at y;subst y;exact⟨a.eval x,rfl,fC (aO hs O fun t ht=>ha t (by simp[iG,ht])) hc⟩
     | succ k=>simp at y;simpa using h3 k q y
    ·cases h
   ·cases h
  ·cases h
theorem qR {S:Sto}{μ:Mu}{H:dD}{cells rs:List R}{vs us:List Value}{off:Nat}(h:b6 S μ H cells vs) (k:b6 S μ H rs us):b6 S μ H (cV cells off rs) (cV vs off us):=by
 have hl:=k.length;unfold cV;rw[hl];exact((h.take off).append k).append (h.drop _)
theorem aQz {S:Sto}{μ:Mu}{H:dD}{places:List (Nat×Nat)}:∀(ps:List (Nat×List R)) (vs:List (Nat×Value)) (cells:List R) (cs:Array Value) (out:List R),aMo places cells ps=some out→b6 S μ H cells cs.toList→
  vs.length=ps.length→(∀(k:Nat) (p:Nat×List R),ps[k]?=some p→∃v:Value,vs[k]?=some (p.1,v)∧b6 S μ H p.2 v.cells.toList)→
  ∃y,Instr.fill (places[·]?) cs vs=some y∧b6 S μ H out y.toList:=by
 intro ps
 induction ps with
 | nil=>
  intro vs cells cs out h J hl _;simp at hl;subst hl;simp[aMo] at h;subst h;exact⟨cs,rfl,J⟩
 | cons p ps ih=>
  intro vs cells cs out h J hl hp;obtain⟨i,rs⟩:=p
  match vs,hl with
  | q::vs,hl=>
   obtain⟨v,Z,I⟩:=hp 0 (i,rs) rfl;simp at Z;subst Z;simp only[aMo] at h;split at h
   ·rename_i off size aa;split at h
    ·rename_i hc;simp only[ζ] at hc;have hc1:=Aa hc.1;have hc2:=Ak hc.2;have ab:=I.length;have ac:=J.length;simp only[Bd] at ab ac;have Y:=pY off v.cells.toList 0 cs (by simp;omega);obtain⟨y,h1,h2⟩:=ih vs (cV cells off rs) ⟨cV cs.toList off v.cells.toList⟩ out h (qR J I) (by simpa using hl) fun k p hk=>by simpa using hp (k+1) p (by simpa using hk)
     refine⟨y,?_,h2⟩;simp only[Instr.fill];rw[aa];simp only[];have O:(v.cells.size≠size || decide (off+v.cells.size>cs.size))=false:=by
      simp only[Bool.or_eq_false_iff,Br];exact⟨by simp;omega,by omega⟩
     simp only[O,Ba,B5];have ad:(v.cells.zipIdx.foldl (fun cs (x:Value×Nat)=>cs.setIfInBounds (off+x.2) x.1) cs)=⟨cV cs.toList off v.cells.toList⟩:=by
      rw[←Array.foldl_toList,Array.toList_zipIdx];simpa using Y
     rw[←h1];congr 1
    ·cases h
   ·cases h
theorem xM (y:Tok P T):∀(fs:List (Nat×TypeId)) (fields:List Field) (places:List (Nat×Nat)),fs=fields.map (fun f=>(f.offset,f.type))→mM T fs=some places→
  fields.mapM (fun f=>(P.info? f.type).map fun i=>(f.offset,i.size))=some places
 | _,[],places,h,hp=>by simp at h;subst h;simp[mM] at hp;subst hp;rfl
 | _,f::fields,places,h,hp=>by
  simp only[At] at h;subst h;simp only[mM] at hp;split at hp
  ·rename_i i hi;split at hp
   ·rename_i l hl;cases hp;have J:=xM y _ fields l rfl hl;have q:=(y.get hi).info;simp only[List.mapM_cons,J];cases I:P.info? f.type with
    | none=>simp[I] at q
    | some inf=>
     simp[I] at q;simp[q]
   ·cases hp
  ·cases hp
theorem aZj {t:TypeId}{i:TI}{fs:List (Nat×TypeId)}{places:List (Nat×Nat)}{parts:Array (Nat×Operand)}{ps:List (Nat×List R)}{out:List R}(y:Tok P T) (Z:o.op=.build t parts) (hd:o.dst=some d) (I:d<n) (hi:T[t]?=some (some i)) (hk:i.k=.st fs)
  (J:mM T fs=some places) (O:rV st parts.toList=some ps) (hf:aMo places (i.zero.map R.c) ps=some out):Step P n o st ⟨iG parts.toList,[]⟩ ⟨some (d,some (a10 out)),[]⟩:=by
 refine Step.value hd I fun st' ha G S μ a w hs=>?_
 obtain⟨vs,h1,h2,h3⟩:=aMd hs _ _ O ha.1;obtain⟨fields,hu,Y⟩:=(y.get hi).struct hk;obtain⟨inf,dd,z,g1,g2,g3,g4,g5,g6,g7,g8⟩:=(y.get hi).ex;obtain⟨q,h4,h5⟩:=aQz (S:=S) (μ:=μ) (H:=st'.h) ps vs (i.zero.map R.c) z.cells out hf (iM g7).toR h2 h3;refine⟨.agg q,?_,?_⟩
 ·have hb:P.built t (parts.map fun(i,x)=>(i,a.eval x)).toList=some q:=by
   unfold Program.built;simp only[g1,hu,g6,xM y fs fields.toList places Y J];rw[←h4,←h1];simp
  simp only[execOp,Z,Ad,run_build w t _ q hb,τ,Af]
 ·have:=aLg h5;simpa using this
theorem aZe {t ft:TypeId}{i I:TI}{fs:List (Nat×TypeId)}{f J:Nat}{x:Operand}{v y:V}{rs:List R}(Y:Tok P T) (ho:o.op=.field t x f) (hd:o.dst=some d) (hdn:d<n) (hi:T[t]?=some (some i)) (hk:i.k=.st fs) (hf:fs[f]?=some (J,ft)) (O:T[ft]?=some (some I))
  (hx:opv st x=some v) (hag:(match v with | .pa _=>true | .ma _=>true | _=>false)=true) (hc:j0 v=some rs) (hl:Nat.ble (J+I.size) rs.length=true) (hy:sG I ((rs.drop J).take I.size)=some y):Step P n o st ⟨opr x,[]⟩ ⟨some (d,some y),[]⟩:=by
 refine Step.value hd hdn fun st' ha G S μ a w hs=>?_
 have Z:=aO hs hx ha.1;have q:=fC Z hc;have hagg:∃cs,a.eval x=.agg cs:=by
  cases v<;>simp only[aY] at Z<;>simp at hag
  ·obtain⟨vs,h,_⟩:=Z;exact⟨_,h⟩
  ·obtain⟨vs,h,_⟩:=Z;exact⟨_,h⟩
 obtain⟨cs,aa⟩:=hagg;rw[aa] at q;simp only[Value.cells] at q;have hll:=q.length;have hl':=Ak hl;simp only[Bd] at hll;obtain⟨fields,h1,h2⟩:=(Y.get hi).struct hk;rw[h2] at hf;simp only[Aq,Ar,Array.getElem?_toList] at hf;obtain⟨fl,h3,h4⟩:=hf;cases h4;have hres:=mZ ((q.drop fl.offset).take I.size) hy;refine⟨_,?_,hres⟩;simp only[execOp,ho,aa,Ad,Instr.field,Av h1 w,τ,h3,asAgg,Af,part,(Y.get O).agg_run w];cases hka:I.k.agg with
 | true=>
  simp only[Cw,Ad,(Y.get O).size_run w,τ,Af];congr 3;have:(cs.extract fl.offset (fl.offset+I.size)).toList=(cs.toList.drop fl.offset).take I.size:=by simp
  rw[←this]
 | false=>
  have h1s:=(Y.get O).one hka;simp only[Ba,B5];have ab:fl.offset<cs.size:=by omega
  have he:cs[fl.offset]?=some cs[fl.offset]:=by simp[ab]
  rw[he];simp only[Af,τ];congr 2;rw[h1s,List.take_one,List.head?_drop];simp[ab]
end
inductive Cle:C→C→Prop
 | refl {x}:Cle x x
 | nl {es}:Cle .nl (.sl es [])
 | sn {es l}:Cle (.sn es l) (.sl es l)
 | sg {te es l}:Cle (.sg te es l) (.sl es l)
theorem Cle.rep {S:Sto}{x y:C}{v:Value}(h:Cle x y) (k:Rep S x v):Rep S y v:=by
 cases h with
 | refl=>exact k
 | sg=>
  simp only[Rep] at k ⊢;obtain⟨a,len,cap,h1,h2,h3,h4,h5⟩:=k;rcases h5 with⟨rfl,h5,h6⟩ | ⟨b,o,rfl,h6,_⟩
  ·refine⟨none,len,cap,h1,h2,h3,h4,fun _=>⟨h5,h6⟩,by simp,0,0,by simp,?_⟩;have:(_:List (List C)).length=0:=h2.symm.trans h5;rw[Bb this];simp[bS]
  ·exact⟨some ⟨b,o,none⟩,len,cap,h1,h2,h3,h4,by simp,fun q e _=>by cases e;rfl,b,o,fun q e=>by cases e;exact⟨rfl,rfl⟩,h6⟩
 | nl=>
  simp only[Rep] at k ⊢;exact⟨none,0,0,k,by simp,le_refl _,Al _,fun _=>⟨rfl,rfl⟩,by simp,0,0,by simp,by simp[bS]⟩
 | sn=>
  simp only[Rep] at k ⊢;obtain⟨b,o,sp,len,cap,h1,h2,h3,h4,I,h5⟩:=k;exact⟨some ⟨b,o,sp⟩,len,cap,h1,h2,h3,h4,by simp,by rintro q ⟨⟩;exact I,b,o,by rintro q ⟨⟩;exact⟨rfl,rfl⟩,h5⟩
inductive PureL (h:dD):List Nat→List R→List C→Prop
 | nil:PureL h [] [] []
 | c {ids rs cs x y}:Cle x y→PureL h ids rs cs→PureL h ids (.c x::rs) (y::cs)
 | hs {ids rs cs id off len sz te es elems e}:h id=some (.arr te es elems 2)→sz=elems.length→e=(elems.drop off).take len→PureL h ids rs cs→PureL h (id::ids) (.hs id off len sz::rs) (.sl es e::cs)
 | any {ids rs cs r}:PureL h ids rs cs→PureL h ids (r::rs) (.any::cs)
 | fn {ids rs cs f}:PureL h ids rs cs→PureL h ids (.clo f []::rs) (.fn f::cs)
 | ras {ids ids' ids0 rs cs n es l fl rows}:ids0=ids'++ids→PureL h ids' l fl→fl=rows.flatten→(∀r∈rows,r.length=es)→rows.length=n→PureL h ids rs cs→PureL h ids0 (.ras n es l::rs) (.sl es rows::cs)
theorem PureL.of_pure {h:dD}:∀{cs:List C},PureL h [] (cs.map R.c) cs
 | []=>.nil
 | _::_=>.c .refl PureL.of_pure
def a3q:List R→List C
 | []=>[]
 | .c x::l=>x::a3q l
 | .clo f []::l=>.fn f::a3q l
 | _::l=>.any::a3q l
theorem PureL.ofA {h:dD}:∀{rs:List R},PureL h [] rs (a3q rs)
 | []=>.nil
 | .c _::_=>.c .refl .ofA
 | .hs ..::_=>.any .ofA
 | .tl ..::_=>.any .ofA
 | .vp ..::_=>.any .ofA
 | .ep ..::_=>.any .ofA
 | .mr ..::_=>.any .ofA
 | .clo _ []::_=>.fn .ofA
 | .clo _ (_::_)::_=>.any .ofA
 | .mth ..::_=>.any .ofA
 | .yl ..::_=>.any .ofA
 | .ra ..::_=>.any .ofA
 | .rp ..::_=>.any .ofA
 | .ras ..::_=>.any .ofA
 | .pas ..::_=>.any .ofA
theorem a4c {S:Sto}{μ:Mu}{H:dD}{w:World}{id off len sz te es:Nat}{elems:List (List C)}{v:Value}(I:nI S μ H w id (.arr te es elems 2)) (hh:H id=some (.arr te es elems 2)) (y:sz=elems.length)
  (q:b9 S μ H (.hs id off len sz) v):Rep S (.sl es ((elems.drop off).take len)) v:=by
 simp only[b9] at q;obtain⟨_,q | ⟨Y,Z,elems',aa,h1,h2,h3⟩⟩:=q
 ·rw[hh] at q;cases q
 rw[hh] at h1;cases h1;obtain⟨h4,⟨h5,h6,J⟩ | ⟨b,base,cap,h5,h6⟩⟩:=h3 y
 ·subst h6;simp only[Rep];exact⟨none,0,0,J,by simp,le_refl _,Al _,fun _=>⟨rfl,rfl⟩,by simp,0,0,by simp,by simp[bS]⟩
 ·obtain⟨g0,vs,g1,g2,g3,g4,g5,g6,g7,g8⟩:=I.arr h5;simp only[Rep];have hlen:((elems.drop off).take len).length=len:=by simp;omega
  refine⟨_,len,cap-off,h6,hlen.symm,by omega,le_trans (Nat.sub_le _ _) g4.1,by simp,by rintro O ⟨⟩;exact fun _=>rfl,b,base+off*es,by rintro O ⟨⟩;exact⟨rfl,rfl⟩,?_⟩;have:=bS.of_flat g0 g5 (g8 rfl);exact(this.drop off).take len
theorem PureL.rel {S:Sto}{μ:Mu}{H H0:dD}{w:World}:∀{ids:List Nat}{rs:List R}{cs:List C}{vs:List Value},PureL H0 ids rs cs→(∀i∈ids,H i=H0 i)→(∀id o,H id=some o→nI S μ H w id o)→b6 S μ H rs vs→dH S cs vs:=by
 intro ids rs cs vs hp
 induction hp generalizing vs with
 | nil=>intro _ _ h;simp only[b6] at h;subst h;simp[dH]
 | c hc _ y=>
  intro hi q h;simp only[b6] at h;obtain⟨v,vs',rfl,h1,h2⟩:=h;simp only[b9] at h1;simp only[dH];exact⟨v,vs',rfl,hc.rep h1,y hi q h2⟩
 | @ras ids ids' ids0 rs cs n es l fl rows I _ J O hn _ Y y=>
  subst I;intro hi q h;simp only[b6] at h;obtain⟨v,vs',rfl,h1,h2⟩:=h;simp only[b9] at h1;simp only[dH];refine⟨v,vs',rfl,?_,y (fun i hh=>hi i (by simp[hh])) q h2⟩;obtain⟨a,cap,g1,g2,g3,g4,g5,g6,b,o,g7,us,g8,g9⟩:=h1;have g10:=Y (fun i hh=>hi i (by simp[hh])) q g8;subst J;simp only[Rep];exact⟨a,n,cap,g1,hn.symm,g3,g4,g5,fun ad e _=>g6 ad e,b,o,g7,bS.of_flat O g10 g9⟩
 | any _ y=>
  intro hi q h;simp only[b6] at h;obtain⟨v,vs',rfl,h1,h2⟩:=h;simp only[dH];exact⟨v,vs',rfl,by simp only[Rep];exact h1.one,y hi q h2⟩
 | fn _ y=>
  intro hi q h;simp only[b6] at h;obtain⟨v,vs',rfl,h1,h2⟩:=h;simp only[b9,b6] at h1;obtain⟨us,rfl,rfl⟩:=h1;simp only[dH];exact⟨_,vs',rfl,by simp only[Rep],y hi q h2⟩
 | @hs ids rs cs id off len sz te es elems e he Z aa _ y=>
  intro hi q h;simp only[b6] at h;obtain⟨v,vs',rfl,h1,h2⟩:=h;simp only[dH];have hh:H id=some (.arr te es elems 2):=by rw[hi id (by simp),he]
  exact⟨v,vs',rfl,by rw[aa];exact a4c (q id _ hh) hh Z h1,y (fun i h=>hi i (by simp[h])) q h2⟩
inductive RowsV (st:St) (es:Nat):Nat→List Nat→List (Nat×Operand)→List (List C)→Prop
 | nil {k}:RowsV st es k [] [] []
 | cons {k ids ids' x ps v rs cs rows}:opv st x=some v→j0 v=some rs→PureL st.h ids rs cs→Nat.beq rs.length es=true→RowsV st es (k+1) ids' ps rows→RowsV st es k (ids++ids') ((k,x)::ps) (cs::rows)
section
variable {P:Program}{n:Nat}{o:Oper}{st:St}{d:Nat}{T:TT}
theorem aLr {G:Ctx}{S:Sto}{μ:Mu}{st':St}{a:Act}{w:World}(hs:Sim G n S μ st' a w) {es:Nat}:∀{k:Nat}{ids:List Nat}{ps:List (Nat×Operand)}{rows:List (List C)},RowsV st es k ids ps rows→(∀t∈iG ps,st'.e t=st.e t)→(∀i∈ids,st'.h i=st.h i)→
  ∀(cells:Array Value),cells.size=(k+ps.length)*es→∃out:Array Value,Instr.fill (fun i=>some (i*es,es)) cells (ps.map fun(i,x)=>(i,a.eval x))=some out∧out.size=cells.size∧
   ∃us,dH S rows.flatten us∧out.toList=cells.toList.take (k*es)++us∧(∀r∈rows,r.length=es):=by
 intro k ids ps rows h
 induction h with
 | nil=>
  intro _ _ cells hc;refine⟨cells,rfl,rfl,[],by simp[dH],?_,by simp⟩;rw[A9,Az];simp at hc;simp[hc]
 | @cons k ids ids' x ps v rs cs rows hv hc hp hl _ ih=>
  intro ha hi cells J;have hl':=Aa hl;have q:=fC (aO hs hv fun t ht=>ha t (by simp[iG,ht])) hc;have y:=hp.rel (fun i h=>hi i (by simp[h])) hs.inv.obj q;have aa:=q.length;simp only[Bd] at aa;simp only[Ai] at J;have hke:(k+(ps.length+1))*es=k*es+es+ps.length*es:=by
   rw[A7,A7];omega
  have Y:=pY (k*es) (a.eval x).cells.toList 0 cells (by simp only[Bd];omega);have O:(cV cells.toList (k*es) (a.eval x).cells.toList).length=cells.size:=by
   unfold cV;simp;omega
  obtain⟨out,h1,h2,us,h3,h4,h5⟩:=ih (fun t ht=>ha t (by simp[iG,ht])) (fun i h=>hi i (by simp[h])) ⟨cV cells.toList (k*es) (a.eval x).cells.toList⟩ (by
   simp only[size_toArray,O,J];congr 1
   omega)
  refine⟨out,?_,by rw[h2];simpa using O,(a.eval x).cells.toList++us,?_,?_,?_⟩
  ·simp only[At,Instr.fill];have I:((a.eval x).cells.size≠es || decide (k*es+(a.eval x).cells.size>cells.size))=false:=by
    simp only[Bool.or_eq_false_iff,Br];exact⟨by simp;omega,by omega⟩
   simp only[I,Ba,B5];have ab:((a.eval x).cells.zipIdx.foldl (fun cs (x:Value×Nat)=>cs.setIfInBounds (k*es+x.2) x.1) cells)=⟨cV cells.toList (k*es) (a.eval x).cells.toList⟩:=by
    rw[←Array.foldl_toList,Array.toList_zipIdx];simpa using Y
   rw[←h1];congr 1
  ·rw[Bm];exact y.append h3
  ·rw[h4];have:(cV cells.toList (k*es) (a.eval x).cells.toList).take ((k+1)*es)=cells.toList.take (k*es)++(a.eval x).cells.toList:=by
    unfold cV;apply take_left';simp;rw[A7];omega
   show(cV cells.toList (k*es) (a.eval x).cells.toList).take ((k+1)*es)++us=_;rw[this,Aw]
  ·intro r Z;rcases Ac.1 Z with rfl | Z
   ·have:=y.length;simp only[Bd] at this;omega
   ·exact h5 r Z
theorem RowsV.lengths {es k:Nat}{ids:List Nat}{ps:List (Nat×Operand)}{rows:List (List C)}(h:RowsV st es k ids ps rows):rows.length=ps.length:=by
 induction h with
 | nil=>rfl
 | cons _ _ _ _ _ q=>simp[q]
theorem aOg {t e:TypeId}{i ei:TI}{len:Nat}{parts:Array (Nat×Operand)}{ids:List Nat}{rows:List (List C)}(id:Nat) (I:Tok P T) (ho:o.op=.buildSlice t len parts) (hd:o.dst=some d) (ad:d<n) (hi:T[t]?=some (some i)) (hk:i.k=.sl e) (q:T[e]?=some (some ei))
  (y:RowsV st ei.size 0 ids parts.toList rows) (hlen:Nat.beq len parts.size=true) (J:Nat.ble (len*ei.size) 16777216=true) (ab:Nat.ble len 16777216=true) (hid:st.h id=none):
  Step P n o st ⟨iG parts.toList,id::ids⟩ ⟨some (d,some (.one (.hs id 0 len len))),[(id,some (.arr e ei.size rows 0))]⟩:=by
 refine Step.new hd ad hid (by simp) fun st' ha hid' G S μ a w hs=>?_
 have Z:=Aa hlen;have hsm:=Ak J;obtain⟨z,hz,ae,_⟩:=(I.get q).zero_run;have aa:=(ae S).length;rw[(I.get q).len] at aa;simp only[Bd] at aa;have ag:=y.lengths;simp only[Bd] at ag;have key:∀(cells:Array Value),cells.size=len*ei.size→∃out:Array Value,Instr.fill (fun i=>some (i*ei.size,ei.size)) cells (parts.map fun(i,x)=>(i,a.eval x)).toList=some out∧out.size=len*ei.size∧dH S rows.flatten out.toList∧(∀r∈rows,r.length=ei.size):=by
  intro cells hc;obtain⟨out,h1,h2,us,h3,h4,h5⟩:=aLr hs y ha.1 (fun i h=>ha.2 i (by simp[h])) cells (by rw[hc,Z];simp);refine⟨out,by rw[←h1];simp,by rw[h2,hc],?_,h5⟩;simp at h4;rw[h4];exact h3
 have ac:∃out:Array Value,(Instr.buildSlice t len (parts.map fun(i,x)=>(i,a.eval x))).run P w=.ok (.slice (some ⟨w.heap.size,0,none⟩) len len) (w.alloc (.cells out e))∧out.size=len*ei.size∧dH S rows.flatten out.toList∧(∀r∈rows,r.length=ei.size):=by
  by_cases h0:len*ei.size=0
  ·obtain⟨out,h1,h2,h3,h4⟩:=key ((Array.range (len*ei.size)).map ((#[]:Array Value)[· %(#[]:Array Value).size]!)) (by simp);refine⟨out,?_,h2,h3,h4⟩;have O:¬len*ei.size>2^24:=by omega
   simp only[Instr.buildSlice,Ad,Av ((I.get hi).slice hk) w,τ,(I.get q).size_run w];rw[θ O,κ h0];simp only[Ad,τ,Af,h1,jA]
  ·obtain⟨out,h1,h2,h3,h4⟩:=key ((Array.range (len*ei.size)).map (z.cells[· %z.cells.size]!)) (by simp);refine⟨out,?_,h2,h3,h4⟩;have O:¬len*ei.size>2^24:=by omega
   simp only[Instr.buildSlice,Ad,Av ((I.get hi).slice hk) w,τ,(I.get q).size_run w];rw[θ O,θ h0];simp only[Ad,hz w,τ,Af,h1,jA]
 obtain⟨out,h1,h2,h3,h4⟩:=ac;have ah:len≤maxLen:=by
  have:=Ak ab;unfold maxLen;omega
 refine⟨_,_,.slice (some ⟨w.heap.size,0,none⟩) len len,(0,len),?_,WChg.alloc w (.cells out e),?_,?_⟩
 ·simp only[execOp,ho,Ad,h1,τ,Af]
 ·have Y:rows.length=len:=by omega
  refine⟨h4,.inr ⟨w.heap.size,0,len,out.toList,aI _ _ _,B4 w _,by simp[h2],by omega,⟨?_,pK hs.inv⟩,?_,fun _ o _=>fX hs.inv o,fun o _=>fX hs.inv o,fun e=>by cases e⟩⟩
  ·exact ah
  ·simp only[B3];rw[Az (by simp[h2,Y])];exact h3
 ·simp only[aY,b9];have Y:rows.length=len:=by omega
  exact⟨⟨_,_,_,rfl⟩,.inr ⟨e,ei.size,rows,0,aI _ _ _,by omega,fun _=>⟨by omega,.inr ⟨w.heap.size,0,len,aI _ _ _,by simp⟩⟩⟩⟩
end
inductive Src (st:St) (es:Nat):List Nat→V→List (List C)→Prop
 | hs {id off len sz te elems fz rows}:st.h id=some (.arr te es elems fz)→sz=elems.length→rows=(elems.drop off).take len→Src st es [id] (.one (.hs id off len sz)) rows
 | all {id sz te elems fz}:st.h id=some (.arr te es elems fz)→sz=elems.length→Src st es [id] (.one (.hs id 0 sz sz)) elems
 | sl {l}:Src st es [] (.one (.c (.sl es l))) l
 | nl:Src st es [] (.one (.c .nl)) []
 | sn {l}:Src st es [] (.one (.c (.sn es l))) l
theorem aEu {α:Type}{es:Nat}:∀{l:List (List α)},(∀r∈l,r.length=es)→∀k:Nat,(l.take k).flatten=l.flatten.take (k*es)
 | [],_,k=>by simp
 | x::xs,hl,0=>by simp
 | x::xs,hl,k+1=>by
  have hx:=hl x (by simp);have q:=aEu (l:=xs) (fun r y=>hl r (by simp[y])) k;rw[Bj,Bm,Bm,q,List.take_append,Az (l:=x) (by rw[hx,A7];omega)];rw[show(k+1)*es-x.length=k*es by rw[hx,A7];omega]
theorem aEv {α:Type}{es:Nat}:∀{l:List (List α)},(∀r∈l,r.length=es)→∀k:Nat,(l.drop k).flatten=l.flatten.drop (k*es)
 | [],_,k=>by simp
 | x::xs,hl,0=>by simp
 | x::xs,hl,k+1=>by
  have hx:=hl x (by simp);have q:=aEv (l:=xs) (fun r y=>hl r (by simp[y])) k;rw[C6,Bm,q,drop_append,drop_of_length_le (l:=x) (by rw[hx,A7];omega),A3];rw[show(k+1)*es-x.length=k*es by rw[hx,A7];omega]
theorem bS.flat {S:Sto}{es b:Nat}:∀{l:List (List C)}{o:Nat},bS S es b l o→∃vs,dH S l.flatten vs∧gS S b o vs∧∀r∈l,r.length=es
 | [],_,_=>⟨[],by simp[dH],fun i v h=>by simp at h,by simp⟩
 | r::rs,o,h=>by
  simp only[bS] at h;obtain⟨h1,⟨vs,h2,h3⟩,h4⟩:=h;obtain⟨us,h5,h6,I⟩:=bS.flat h4;have hl:=h2.length;refine⟨vs++us,by rw[Bm];exact h2.append h5,fun i v hi=>?_,?_⟩
  ·rw[B7] at hi;split at hi
   ·exact h3 i v hi
   ·have:=h6 _ v hi;rwa [show o+es+(i-vs.length)=o+i by omega] at this
  ·intro q y;rcases Ac.1 y with rfl | y
   ·exact h1
   ·exact I q y
theorem Src.rel {G:Ctx}{n:Nat}{S:Sto}{μ:Mu}{st st':St}{a:Act}{w:World}{es:Nat}{ids:List Nat}{y:V}{rows:List (List C)}{v:Value}(hs:Sim G n S μ st' a w) (h:Src st es ids y rows) (hi:∀i∈ids,st'.h i=st.h i) (q:aY S μ st'.h y v):
  ∃I c news,v=.slice I rows.length c∧dH S rows.flatten news∧(∀r∈rows,r.length=es)∧(I=none→rows=[])∧∀x,I=some x→∀j u,news[j]?=some u→w.cell? (x.add j)=some u:=by
 have Z:∀{id off len sz te elems fz rows},st.h id=some (.arr te es elems fz)→sz=elems.length→rows=(elems.drop off).take len→(∀i∈[id],st'.h i=st.h i)→aY S μ st'.h (.one (.hs id off len sz)) v→
   ∃I c news,v=.slice I rows.length c∧dH S rows.flatten news∧(∀r∈rows,r.length=es)∧(I=none→rows=[])∧∀x,I=some x→∀j u,news[j]?=some u→w.cell? (x.add j)=some u:=by
  intro id off len sz te elems fz rows he Y J hi q;have hh:st'.h id=some (.arr te es elems fz):=by rw[hi id (by simp),he]
  simp only[aY,b9] at q;obtain⟨_,q | ⟨te',es',elems',fz',h1,h2,h3⟩⟩:=q
  ·rw[hh] at q;cases q
  rw[hh] at h1;cases h1;obtain⟨h4,⟨h5,h6,h7⟩ | ⟨b,base,cap,h5,h6⟩⟩:=h3 Y
  ·subst h6;simp at J;subst J;exact⟨none,0,[],h7,by simp[dH],by simp,fun _=>rfl,by simp⟩
  ·obtain⟨g0,vs,g1,g2,g3,g4,g5,g6,g7,g8⟩:=(hs.inv.obj id _ hh).arr h5;have hrl:rows.length=len:=by rw[J];simp;omega
   have hfl:rows.flatten=(elems.flatten.drop (off*es)).take (len*es):=by
    rw[J,aEu (fun r J=>g0 r (Cx J)),aEv g0]
   refine⟨_,cap-off,_,by rw[hrl];exact h6,by rw[hfl];exact(g5.drop (off*es)).take (len*es),fun r hr'=>g0 r (Cx (Bz (J▸hr'))),by simp,?_⟩;rintro x ⟨⟩ j u hj;rw[Addr.add_mid,cell_of_row w b _ ⟨vs⟩ te (0,0) g1];rw[Ay] at hj;split at hj
   ·rw[Am,Ay] at hj;split at hj
    ·rw[Am] at hj;simpa [Cq] using hj
    ·cases hj
   ·cases hj
 cases h with
 | hs he Y J=>exact Z he Y J hi q
 | all he Y=>
  subst Y;exact Z he rfl (by simp) hi q
 | sl=>
  simp only[aY,b9,Rep] at q;obtain⟨I,len,cap,h1,h2,h3,h4,h5,h6,b,off,h7,h8⟩:=q;obtain⟨vs,O,q2,q3⟩:=bS.flat h8;refine⟨I,cap,vs,by rw[h1,h2],O,q3,fun e=>Bb (by rw[←h2];exact(h5 e).1),?_⟩;rintro x rfl j u hj;obtain⟨h9,h10⟩:=h7 x rfl
  have ab:=h6 x rfl (by
   rintro rfl;have aa:=Bb (show _=0 from Nat.le_zero.1 (h2▸h3));rw[aa] at O;simp[dH] at O;subst O
   simp at hj)
  have hx:x=⟨b,off,none⟩:=by cases x;simp_all
  subst hx;rw[Addr.add_mid];exact hs.inv.holds.cell (q2 j u hj)
 | nl=>
  simp only[aY,b9,Rep] at q;exact⟨none,0,[],q,by simp[dH],by simp,fun _=>rfl,by simp⟩
 | sn=>
  simp only[aY,b9,Rep] at q;obtain⟨b,off,sp,len,cap,h1,h2,h3,h4,hsp,h8⟩:=q;obtain⟨vs,O,q2,q3⟩:=bS.flat h8;refine⟨some ⟨b,off,sp⟩,cap,vs,by rw[h1,h2],O,q3,by simp,?_⟩;rintro x ⟨⟩ j u hj
  have ab:=hsp (by
   rintro rfl;have aa:=Bb (show _=0 from Nat.le_zero.1 (h2▸h3));rw[aa] at O;simp[dH] at O;subst O
   simp at hj)
  subst ab;rw[Addr.add_mid];exact hs.inv.holds.cell (q2 j u hj)
section
variable {P:Program}{n:Nat}{o:Oper}{st:St}{d:Nat}{T:TT}
theorem lY (w:World) (t ty e:TypeId) (i:TypeInfo) (ht:P.underlying t=some (.slice e)) (hi:P.info? e=some i)
  (g base q y:Nat) (cur:Array Value) (Z:w.heap[g]?=some (.cells cur e (0,0)))
  (a:Addr) (m c:Nat) (news:List Value) (hl:news.length=m*i.size) (I:∀j u,news[j]?=some u→w.cell? (a.add j)=some u) (h1:∀u∈news,u.oneCell'=true)
  (J:q+m≤y) (Y:base+q*i.size+news.length≤cur.size):
  (Builtin.append_ #[t,t] ty #[.slice (some ⟨g,base,none⟩) q y,.slice (some a) m c]).run P w=
   .ok (.slice (some ⟨g,base,none⟩) (q+m) y) (w.setRow g (cur.toList.take (base+q*i.size)++news++cur.toList.drop (base+q*i.size+news.length)).toArray):=by
 have hf:=run_firstCells_some (P:=P) w i.size m a m c news hl I;have O:=run_storeCells_at P g (base+q*i.size) e news 0 cur w Z (by simpa using Y) h1;simp only[B9] at O;simp[Builtin.append_,Av ht,sizeOf,typeInfo,hi,Builtin.lenOf,J,hf,Addr.add_mid,O]
theorem mH (w:World) (t ty e:TypeId) (i:TypeInfo) (ht:P.underlying t=some (.slice e)) (hi:P.info? e=some i) (s:Option Addr) (J:Option Addr) (q y c:Nat) (I:q≤y):
  (Builtin.append_ #[t,t] ty #[.slice s q y,.slice J 0 c]).run P w=.ok (.slice s q y) w:=by
 cases s<;>cases J<;>simp[Builtin.append_,Av ht,sizeOf,typeInfo,hi,Builtin.lenOf,I,Builtin.firstCells,loadCells,loadCellsFrom,storeCells]
theorem gT {x y:Operand}{t:TypeId}{a:Act}{w w':World}{u v r:Value}(q:o.op=.call { callee:=.builtin .append,args:= #[x,y],argTypes:= #[t,t] }) (hx:a.eval x=u) (I:a.eval y=v) (J:(Builtin.append_ #[t,t] o.type #[u,v]).run P w=.ok r w'):
  (execOp a.eval o).run P w=.ok (.value r) w':=by
 simp only[execOp,q,resolve,map_toArray,At,Co,hx,I,Ad,Af,τ,invoke,builtin,J]
theorem aQf {y:V}{id te es fz:Nat}{elems elems':List (List C)}(hd:o.dst=some d) (hdn:d<n) (hlen:elems.length≤elems'.length) (I:Nat) {st':St}{G:Ctx}{S:Sto}{μ:Mu}{a:Act}{w:World}{K:Act→World→Prop}{Q:Exit→Act→World→Prop}
    (J:st'.h id=some (.arr te es elems fz)) (hs:Sim G n S μ st' a w) (hk:∀S' μ' a' w',Sim G n S' μ' (Eff.apply ⟨some (d,some y),[(id,some (.arr te es elems' I))]⟩ st') a' w'→K a' w')
    (h:∃w' v,(execOp a.eval o).run P w=.ok (.value v) w'∧
      ((w'=w∧elems'=elems∧(I=fz∨I=1)∧aY S μ st'.h y v)∨
       (elems.length<elems'.length∧∃b bo c,(w.heap.size≤b∨∃c',μ id=some (b,c'))∧WChg w w' b bo∧nI S (upd μ id (some (b,c))) (upd st'.h id (some (.arr te es elems' I))) w' id (.arr te es elems' I)∧
         (∀o v,S.cell b o=some v→∃vs t fr,bo=.cells vs t fr∧vs[o]?=some v)∧(∀m,S.mapo b=some m→w.heap.size≤b)∧aY S (upd μ id (some (b,c))) (upd st'.h id (some (.arr te es elems' I))) y v))):
    ∀ro,o.wpIn (Wd ro) 0 P a w K Q:=by
  obtain⟨w',v,hr,Z⟩:=h;refine fun ro=>j7 hr ?_
  rw[hd];rcases Z with⟨rfl,rfl,hfz,hv⟩ | ⟨hlt,b,bo,c,hb,hw,hO,hS,hSm,hv⟩
  · have O:Evolve S μ st'.h S μ (upd st'.h id (some (.arr te es elems' I))):=⟨S.le_refl,fun j x hj=>by
      by_cases q:j=id
      · subst q
        rw[J] at hj;cases hj;exact⟨_,aI _ _ _,by simp[AObj.succ]⟩
      · exact⟨x,by rw[aV _ _ _ q];exact hj,x.succ_refl rfl⟩⟩
    have hi:Inv G S μ (upd st'.h id (some (.arr te es elems' I))) w':=by
      obtain⟨h1,h2,h3,h4,h5,h6,h7,h8,h9⟩:=hs.inv;have hold:∀j x,upd st'.h id (some (.arr te es elems' I)) j=some x→∃x',st'.h j=some x':=fun j x hj=>by
        by_cases q:j=id
        · subst q;exact⟨_,J⟩
        · rw[aV _ _ _ q] at hj;exact⟨_,hj⟩
      refine⟨h1,fun j x hj=>?_,fun i j x x' b c c' hi hj hm hm'=>?_,fun i x b c hi hm=>?_,h5,h6,h7,h8.trans O,h9⟩
      · by_cases q:j=id
        · subst q
          rw[aI] at hj;cases hj;have hO:=(h2 j _ J).evolve O rfl fun _ _ _=>⟨rfl,fun _=>rfl,rfl⟩
          rcases hfz with rfl | rfl
          · exact hO
          · obtain⟨g0,g1 | ⟨b,base,cap,vs,g1,g2,g3,g4,g5,g6,g7,g8,g9⟩⟩:=hO
            · exact⟨g0,.inl g1⟩
            · exact⟨g0,.inr ⟨b,base,cap,vs,g1,g2,g3,g4,g5,g6,(fun e=>by cases e),g8,(fun e=>by cases e)⟩⟩
        · rw[aV _ _ _ q] at hj
          exact(h2 j x hj).evolve O rfl fun _ _ _=>⟨rfl,fun _=>rfl,rfl⟩
      · obtain⟨_,Y⟩:=hold _ _ hi
        obtain⟨_,hj'⟩:=hold _ _ hj;exact h3 i j _ _ b c c' Y hj' hm hm'
      · obtain⟨_,Y⟩:=hold _ _ hi
        exact h4 i _ b c Y hm
    have:=hs.put hi O hdn (x:=some y) (v:=v) (fun z hz=>by cases hz;exact aY.evolve O _ _ hv);refine hk S μ _ _ ?_;unfold Eff.apply;rw[dG];exact this
  · have O:Evolve S μ st'.h S (upd μ id (some (b,c))) (upd st'.h id (some (.arr te es elems' I))):=⟨S.le_refl,fun j x hj=>by
      by_cases q:j=id
      · subst q
        rw[J] at hj;cases hj;exact⟨_,aI _ _ _,by simp only[AObj.succ,true_and];exact⟨hlen,fun e=>by omega⟩⟩
      · exact⟨x,by rw[aV _ _ _ q];exact hj,x.succ_refl (aV _ _ _ q)⟩⟩
    have hi:=hs.inv.chg (id:=id) (cap:=c) (ao:=.arr te es elems' I) hw (hb.imp (fun h=>h) fun⟨c',h⟩=>⟨_,c',J,h⟩) O hO hS hSm;have:=hs.put hi O hdn (x:=some y) (v:=v) (fun z hz=>by cases hz;exact hv);refine hk S (upd μ id (some (b,c))) _ _ ?_;unfold Eff.apply;rw[dG];exact this
theorem Step.grow {rd:Rd}{y:V}{id te es fz:Nat}{elems elems':List (List C)}(hd:o.dst=some d) (J:d<n) (hid:st.h id=some (.arr te es elems fz)) (O:id∈rd.h) (hlen:elems.length≤elems'.length) (q:Nat)
    (h:∀st',rR rd st st'→st'.h id=some (.arr te es elems fz)→∀G S μ a w,Sim G n S μ st' a w→∃w' v,(execOp a.eval o).run P w=.ok (.value v) w'∧
      ((w'=w∧elems'=elems∧(q=fz∨q=1)∧aY S μ st'.h y v)∨
       (elems.length<elems'.length∧∃b Y c,(w.heap.size≤b∨∃c',μ id=some (b,c'))∧WChg w w' b Y∧nI S (upd μ id (some (b,c))) (upd st'.h id (some (.arr te es elems' q))) w' id (.arr te es elems' q)∧
         (∀o v,S.cell b o=some v→∃vs t fr,Y=.cells vs t fr∧vs[o]?=some v)∧(∀m,S.mapo b=some m→w.heap.size≤b)∧aY S (upd μ id (some (b,c))) (upd st'.h id (some (.arr te es elems' q))) y v))):
    Step P n o st rd ⟨some (d,some y),[(id,some (.arr te es elems' q))]⟩:=by
  intro st' ha G S μ a w K Q hs hk;have I:st'.h id=some (.arr te es elems fz):=by rw[ha.2 id O,hid]
  exact aQf hd J hlen q I hs hk (h st' ha I G S μ a w hs)
theorem aFv {t e:TypeId}{i ei:TI}{x y:Operand}{id sz fz:Nat}{elems rows:List (List C)}{vy:V}{ids:List Nat}{st':St}{G:Ctx}{S:Sto}{μ:Mu}{a:Act}{w:World}(hT:Tok P T) (ho:o.op=.call { callee:=.builtin .append,args:= #[x,y],argTypes:= #[t,t] })
    (hi:T[t]?=some (some i)) (hk:i.k=.sl e) (hei:T[e]?=some (some ei)) (hes:Nat.ble 1 ei.size=true) (heb:Nat.ble 1 ei.bytes=true)
    (hsz:sz=elems.length) (hroom:(elems.length+rows.length)*ei.bytes≤140737488355328) (Z:st'.h id=some (.arr e ei.size elems fz)) (hs:Sim G n S μ st' a w)
    (hvx:aY S μ st'.h (.one (.hs id 0 sz sz)) (a.eval x)) (hvy:aY S μ st'.h vy (a.eval y)) (hsrc:Src st ei.size ids vy rows) (hsi:∀i∈ids,st'.h i=st.h i):
    ∃w' v,(execOp a.eval o).run P w=.ok (.value v) w'∧
      ((w'=w∧elems++rows=elems∧((if fz=0 then 0 else 1)=fz∨(if fz=0 then 0 else 1)=1)∧aY S μ st'.h (.one (.hs id 0 (elems.length+rows.length) (elems.length+rows.length))) v)∨
       (elems.length<(elems++rows).length∧∃b bo c,(w.heap.size≤b∨∃c',μ id=some (b,c'))∧WChg w w' b bo∧nI S (upd μ id (some (b,c))) (upd st'.h id (some (.arr e ei.size (elems++rows) (if fz=0 then 0 else 1)))) w' id (.arr e ei.size (elems++rows) (if fz=0 then 0 else 1))∧
         (∀o v,S.cell b o=some v→∃vs t fr,bo=.cells vs t fr∧vs[o]?=some v)∧(∀m,S.mapo b=some m→w.heap.size≤b)∧aY S (upd μ id (some (b,c))) (upd st'.h id (some (.arr e ei.size (elems++rows) (if fz=0 then 0 else 1)))) (.one (.hs id 0 (elems.length+rows.length) (elems.length+rows.length))) v)):=by
  subst hsz;have hes':=Ak hes;have heb':=Ak heb;obtain⟨ad,c,news,J,I,hrl,hnone,hcell⟩:=hsrc.rel hs hsi hvy;have O:news.length=rows.length*ei.size:=by rw[I.length,jN hrl]
  obtain⟨inf,dd,z,g1,g2,g3,g4,g5,g6,g7,g8⟩:=(hT.get hei).ex;have hu:=(hT.get hi).slice hk;have hzs:z.cells.size=ei.size:=by
    have h1:=(iM (S:=S) g7).length;rw[(hT.get hei).len] at h1;simpa using h1
  simp only[aY,b9] at hvx;obtain⟨_,hv | ⟨te',es',elems',fz',h1,h2,h3⟩⟩:=hvx
  · rw[Z] at hv;cases hv
  rw[Z] at h1;cases h1;obtain⟨h4,hcase⟩:=h3 rfl;have hbig:elems.length+rows.length≤140737488355328:=by
    have:(elems.length+rows.length)*1≤(elems.length+rows.length)*ei.bytes:=Cy _ heb';omega
  have hone:∀u∈news,u.oneCell'=true:=(I.toR (μ:=μ) (H:=st'.h)).one;have hcap:∀old,elems.length+rows.length≤grownCap w (elems.length+rows.length) old e∧grownCap w (elems.length+rows.length) old e≤maxLen:=fun old=>
    ⟨grownCap_ge _ _ _ _,grownCap_le_maxLen _ _ _ _ (by unfold maxLen;omega)⟩
  have Y:∀(olds:List Value) (old:Nat),dH S elems.flatten olds→0<rows.length→∀g0:(∀r∈elems,r.length=ei.size),
      nI S (upd μ id (some (w.heap.size,0,grownCap w (elems.length+rows.length) old e))) (upd st'.h id (some (.arr e ei.size (elems++rows) (if fz=0 then 0 else 1))))
        (w.drew.alloc (.cells (olds.toArray++news.toArray++Builtin.zeroCells z.cells (grownCap w (elems.length+rows.length) old e-(elems.length+rows.length))) e)) id (.arr e ei.size (elems++rows) (if fz=0 then 0 else 1)):=by
    intro olds old hol hpos g0;obtain⟨hc1,hc2⟩:=hcap old;have hol':=hol.length;rw[jN g0] at hol';refine⟨?_,.inr ⟨w.heap.size,0,grownCap w (elems.length+rows.length) old e,(olds.toArray++news.toArray++Builtin.zeroCells z.cells (grownCap w (elems.length+rows.length) old e-(elems.length+rows.length))).toList,aI _ _ _,B4 w.drew _,?_,by simpa using hc1,⟨hc2,pK hs.inv⟩,?_,fun _ o _=>fX hs.inv o,fun o _=>fX hs.inv o,fun e=>by split at e<;>cases e⟩⟩
    · intro r q
      rcases ω.1 q with q | q
      · exact g0 r q
      · exact hrl r q
    · simp only[C4,ε,Bd,size_zeroCells,hzs]
      simp only[hol',O,Be,←A7];exact A0 _ (by omega)
    · simp only[C4,B3,ε,flatten_append]
      rw[C2 (by simp[hol',O,A7]),Az (by simp[hol',O,A7])];exact hol.append I
  have hlen':(elems++rows).length=elems.length+rows.length:=by simp
  by_cases hm:rows.length=0
  · --nothing is appended
    have hr0:rows=[]:=Bb hm;have hfzz:(if fz=0 then 0 else 1)=fz∨(if fz=0 then 0 else 1)=1:=by
      by_cases h:fz=0
      · left;rw[κ h,h]
      · right;rw[θ h]
    rcases hcase with⟨h5,h6,h7⟩ | ⟨b,base,cap,h5,h6⟩
    · refine⟨w,.slice none 0 0,gT ho h7 J (by rw[hm];exact mH w t o.type e inf hu g1 none ad 0 0 c (le_refl _)),.inl ⟨rfl,by rw[hr0,A9],hfzz,?_⟩⟩
      simp only[aY,b9];exact⟨⟨_,_,_,rfl⟩,.inr ⟨e,ei.size,elems,fz,Z,by omega,fun _=>⟨by omega,.inl ⟨h5,h6,(by first | rfl | trivial)⟩⟩⟩⟩
    · obtain⟨q0,vs,q1,q2,q3,q4,q5,q6,q7,q8⟩:=(hs.inv.obj id _ Z).arr h5
      refine⟨w,_,gT ho h6 J (by rw[hm];exact mH w t o.type e inf hu g1 _ ad elems.length _ c (by omega)),.inl ⟨rfl,by rw[hr0,A9],hfzz,?_⟩⟩;simp only[aY,b9];exact⟨⟨_,_,_,rfl⟩,.inr ⟨e,ei.size,elems,fz,Z,by omega,fun _=>⟨by omega,.inr ⟨b,base,cap,h5,by rw[hm,B9]⟩⟩⟩⟩
  · cases ad with
    | none=>exact absurd (by rw[hnone rfl];rfl) hm
    | some ad=>
      have hc:=hcell ad rfl;rcases hcase with⟨h5,h6,h7⟩ | ⟨b,base,cap,h5,h6⟩
      · --the first elements
        subst h6;simp only[length_nil,Be] at hroom hbig Y hcap;have q:=run_append_nil (P:=P) w t o.type e inf z hu g1 g6 ad rows.length c news (by rw[O,g3]) hc (by omega) (by omega) (by rw[g4];omega);refine⟨_,_,gT ho h7 J q,.inr ⟨by simp;omega,w.heap.size,_,(0,grownCap w rows.length 0 e),.inl (le_refl _),WChg.alloc_drew w _,?_,(fun o v e=>by rw[fX hs.inv] at e;cases e),fun m e=>le_refl _,?_⟩⟩
        · have:=Y [] 0 (by simp[dH]) (by omega) (by simp)
          simpa using this
        · simp only[aY,b9]
          exact⟨⟨_,_,_,rfl⟩,.inr ⟨e,ei.size,_,_,aI _ _ _,by simp,fun _=>⟨by simp,.inr ⟨w.heap.size,0,_,aI _ _ _,by simp⟩⟩⟩⟩
      · obtain⟨q0,vs,q1,q2,q3,q4,q5,q6,q7,q8⟩:=(hs.inv.obj id _ Z).arr h5
        have hce:elems.length*ei.size≤cap*ei.size:=A0 _ q3;simp only[sub_zero,Nat.zero_mul,B9] at h6;by_cases hroom':elems.length+rows.length≤cap
        · --there is room
          have hce2:(elems.length+rows.length)*ei.size≤cap*ei.size:=A0 _ hroom';rw[A7] at hce2;have q:=lY (P:=P) w t o.type e inf hu g1 b base elems.length cap ⟨vs⟩ q1 ad rows.length c news (by rw[O,g3]) hc hone hroom' (by rw[g3,O];simp only[size_toArray];omega);rw[g3] at q;have hW:=WChg.setRow w b ⟨vs⟩ ⟨vs.take (base+elems.length*ei.size)++news++vs.drop (base+elems.length*ei.size+news.length)⟩ e (0,0) q1;refine⟨_,_,gT ho h6 J q,.inr ⟨by simp;omega,b,_,(base,cap),.inr ⟨_,h5⟩,hW,⟨?_,.inr ⟨b,base,cap,_,aI _ _ _,hW.new,?_,by rw[hlen'];omega,q4,?_,?_,?_,fun e=>by split at e<;>cases e⟩⟩,?_,fun m e=>jL q4.2 m e,?_⟩⟩
          · intro r q
            rcases ω.1 q with q | q
            · exact q0 r q
            · exact hrl r q
          · simp only[ε,Ap,Bk]
            omega
          · rw[hlen',flatten_append]
            have e1:((vs.take (base+elems.length*ei.size)++news++vs.drop (base+elems.length*ei.size+news.length)).drop base).take ((elems.length+rows.length)*ei.size)=(vs.drop base).take (elems.length*ei.size)++news:=by
              rw[Aw,List.drop_append_of_le_length (by simp;omega),←Aw,C2 (by simp[A7];omega)];rw[Az (by simp[A7];omega),drop_take];rw[show base+elems.length*ei.size-base=elems.length*ei.size by omega]
            rw[e1];exact q5.append I
          · intro e o ho
            exact q6 (Classical.byContradiction fun hne=>by rw[θ hne] at e;cases e) o ho
          · intro o ho
            rw[hlen',A7] at ho;exact q7 o (by omega)
          · intro o v e
            by_cases hlt:o<base+elems.length*ei.size
            · obtain⟨vs0,t0,fr0,p1,p2⟩:=hs.inv.holds.1 b o v e
              rw[q1] at p1;cases p1;refine⟨_,_,_,rfl,?_⟩;simp only[List.getElem?_toArray] at p2 ⊢;rw[Aw,Ax (by simp;omega),Ay,κ (by omega)];exact p2
            · rw[q7 o (by omega)] at e;cases e
          · simp only[aY,b9]
            exact⟨⟨_,_,_,rfl⟩,.inr ⟨e,ei.size,_,_,aI _ _ _,by simp,fun _=>⟨by simp,.inr ⟨b,base,cap,aI _ _ _,by simp⟩⟩⟩⟩
        · --into a new block
          have q:=run_append_grow (P:=P) w t o.type e inf z hu g1 g6 ⟨b,base,none⟩ elems.length cap ((vs.drop base).take (elems.length*ei.size)) (by rw[g3];simp;omega) (by
              intro j v hj;rw[Addr.add_mid,cell_of_row w b _ ⟨vs⟩ e (0,0) q1];rw[Ay] at hj;split at hj
              · rw[Am] at hj
                simpa using hj
              · cases hj) ad rows.length c news (by rw[O,g3]) hc (by omega) (by omega) (by rw[g4];exact growslice_fits (by omega) hroom)
          have hq5:dH S elems.flatten ((vs.drop base).take (elems.length*ei.size)):=q5;refine⟨_,_,gT ho h6 J q,.inr ⟨by simp;omega,w.heap.size,_,(0,grownCap w (elems.length+rows.length) cap e),.inl (le_refl _),WChg.alloc_drew w _,?_,(fun o v e=>by rw[fX hs.inv] at e;cases e),fun m e=>le_refl _,?_⟩⟩
          · have:=Y _ cap hq5 (by omega) q0
            simpa using this
          · simp only[aY,b9]
            exact⟨⟨_,_,_,rfl⟩,.inr ⟨e,ei.size,_,_,aI _ _ _,by simp,fun _=>⟨by simp,.inr ⟨w.heap.size,0,_,aI _ _ _,by simp⟩⟩⟩⟩
theorem aJe {t e:TypeId}{i ei:TI}{x y:Operand}{id sz fz:Nat}{elems rows:List (List C)}{J:V}{ids:List Nat}(hT:Tok P T) (ho:o.op=.call { callee:=.builtin .append,args:= #[x,y],argTypes:= #[t,t] }) (hd:o.dst=some d) (O:d<n)
  (hi:T[t]?=some (some i)) (hk:i.k=.sl e) (Y:T[e]?=some (some ei)) (Z:Nat.ble 1 ei.size=true) (aa:Nat.ble 1 ei.bytes=true)
  (hx:opv st x=some (.one (.hs id 0 sz sz))) (hh:st.h id=some (.arr e ei.size elems fz)) (ab:sz=elems.length) (hy:opv st y=some J) (I:Src st ei.size ids J rows)
  (q:(elems.length+rows.length)*ei.bytes≤140737488355328):
  Step P n o st ⟨opr x++opr y,id::ids⟩ ⟨some (d,some (.one (.hs id 0 (elems.length+rows.length) (elems.length+rows.length)))),[(id,some (.arr e ei.size (elems++rows) (if fz=0 then 0 else 1)))]⟩:=by
 refine Step.grow hd O hh (by simp) (by simp) _ fun st' ha ac G S μ a w hs=>?_
 have ad:=aO hs hx fun t ht=>ha.1 t (by simp[ht])
 have ae:=aO hs hy fun t ht=>ha.1 t (by simp[ht])
 exact aFv hT ho hi hk Y Z aa ab q ac hs ad ae I fun i h=>ha.2 i (by simp[h])
end
mutual
def R.ren (σ:Nat→Nat):R→R
 | .c x=>.c x
 | .hs id off len sz=>.hs (σ id) off len sz
 | .tl id off len sz=>.tl (σ id) off len sz
 | .vp id off=>.vp (σ id) off
 | .ep id i fo sz=>.ep (σ id) i fo sz
 | .mr id=>.mr (σ id)
 | .clo f caps=>.clo f (R.renL σ caps)
 | .mth f x=>.mth f (x.ren σ)
 | .yl id=>.yl (σ id)
 | .ra id off len sz=>.ra (σ id) off len sz
 | .rp id i fo sz=>.rp (σ id) i fo sz
 | .ras n es l=>.ras n es (R.renL σ l)
 | .pas l=>.pas (R.renL σ l)
def R.renL (σ:Nat→Nat):List R→List R
 | []=>[]
 | r::rs=>r.ren σ::R.renL σ rs
end
mutual
def V.ren (σ:Nat→Nat):V→V
 | .one r=>.one (r.ren σ)
 | .pa l=>.pa l
 | .ma l=>.ma (R.renL σ l)
 | .tup l=>.tup (V.renL σ l)
def V.renL (σ:Nat→Nat):List V→List V
 | []=>[]
 | r::rs=>r.ren σ::V.renL σ rs
end
mutual
def R.refs:R→List Nat
 | .c _=>[]
 | .hs id _ _ _=>[id]
 | .tl id _ _ _=>[id]
 | .vp id _=>[id]
 | .ep id _ _ _=>[id]
 | .mr id=>[id]
 | .clo _ caps=>R.refsL caps
 | .mth _ x=>x.refs
 | .yl id=>[id]
 | .ra id _ _ _=>[id]
 | .rp id _ _ _=>[id]
 | .ras _ _ l=>R.refsL l
 | .pas l=>R.refsL l
def R.refsL:List R→List Nat
 | []=>[]
 | r::rs=>r.refs++R.refsL rs
end
mutual
def V.refs:V→List Nat
 | .one r=>r.refs
 | .pa _=>[]
 | .ma l=>R.refsL l
 | .tup l=>V.refsL l
def V.refsL:List V→List Nat
 | []=>[]
 | r::rs=>r.refs++V.refsL rs
end
def jU:List (Nat×V)→List Nat
 | []=>[]
 | (_,v)::l=>v.refs++jU l
def dB:List (List R)→List Nat
 | []=>[]
 | r::l=>R.refsL r++dB l
def aM9 (σ:Nat→Nat):List (Nat×V)→List (Nat×V)
 | []=>[]
 | (t,v)::l=>(t,v.ren σ)::aM9 σ l
def o9 (σ:Nat→Nat):List (List R)→List (List R)
 | []=>[]
 | r::l=>R.renL σ r::o9 σ l
theorem pA:∀{l:List (Nat×V)}{t:Nat}{v:V},(t,v)∈l→∀i∈v.refs,i∈jU l
 | (k,u)::l,t,v,h,i,hi=>by
  simp only[jU,ω];rcases Ac.1 h with h | h
  ·cases h;exact .inl hi
  ·exact .inr (pA h i hi)
theorem aJc {σ:Nat→Nat}:∀{l:List (Nat×V)}{t:Nat}{v:V},(t,v)∈l→(t,v.ren σ)∈aM9 σ l
 | (k,u)::l,t,v,h=>by
  simp only[aM9];rcases Ac.1 h with h | h
  ·cases h;simp
  ·exact χ _ (aJc h)
theorem R.renL_length {σ:Nat→Nat}:∀{l:List R},(R.renL σ l).length=l.length
 | []=>rfl
 | _::l=>by simp[R.renL,R.renL_length (l:=l)]
theorem fV {σ:Nat→Nat}:∀{l:List (List R)},(o9 σ l).length=l.length
 | []=>rfl
 | _::l=>by simp[o9,fV (l:=l)]
theorem R.renL_append {σ:Nat→Nat}:∀{l m:List R},R.renL σ (l++m)=R.renL σ l++R.renL σ m
 | [],_=>rfl
 | _::l,m=>by simp[R.renL,R.renL_append (l:=l)]
theorem R.refsL_append:∀{l m:List R},R.refsL (l++m)=R.refsL l++R.refsL m
 | [],_=>rfl
 | _::l,m=>by simp[R.refsL,R.refsL_append (l:=l)]
theorem aCu {σ:Nat→Nat}:∀{l:List (List R)},(o9 σ l).flatten=R.renL σ l.flatten
 | []=>rfl
 | _::l=>by simp[o9,aCu (l:=l),R.renL_append]
theorem xI:∀{l:List (List R)},R.refsL l.flatten=dB l
 | []=>rfl
 | _::l=>by simp[dB,xI (l:=l),R.refsL_append]
theorem mK {σ:Nat→Nat}{es:Nat}:∀{l:List (List R)},(∀r∈o9 σ l,r.length=es)→∀r∈l,r.length=es
 | [],_,r,h=>by simp at h
 | x::l,k,r,h=>by
  rcases Ac.1 h with rfl | h
  ·rw[←R.renL_length (σ:=σ)];exact k _ (by simp[o9])
  ·exact mK (σ:=σ) (l:=l) (fun r q=>k r (by simp[o9,q])) r h
def AObj.refs:AObj→List Nat
 | .var _ cells=>R.refsL cells
 | .lp _ _ _ e=>jU e
 | .rarr _ _ elems=>dB elems
 | .tok r _=>r.refs
 | _=>[]
inductive Ole (σ:Nat→Nat):AObj→AObj→Prop
 | var {t cells cells'}:cells=R.renL σ cells'→Ole σ (.var t cells) (.var t cells')
 | arr {te es elems fz}:Ole σ (.arr te es elems fz) (.arr te es elems fz)
 | arr1 {te es elems fz}:Ole σ (.arr te es elems fz) (.arr te es elems 1)
 | map {agg ents}:Ole σ (.map agg ents) (.map agg ents)
 | dead:Ole σ .dead .dead
 | lp {st j i e e'}:e=aM9 σ e'→Ole σ (.lp st j i e) (.lp st j i e')
 | dfr:Ole σ .dfr .dfr
 | rarr {te es elems elems'}:elems=o9 σ elems'→Ole σ (.rarr te es elems) (.rarr te es elems')
 | tok {r r' k}:r=r'.ren σ→Ole σ (.tok r k) (.tok r' k)
theorem Ole.succ {σ:Nat→Nat}{o o':AObj}(h:Ole σ o o'):o.succ True o':=by
 cases h
 case rarr e=>subst e;simp[AObj.succ,fV]
 all_goals simp[AObj.succ]
section
variable {S:Sto}{μ:Mu}{H H':dD}{σ:Nat→Nat}
def Good (H H':dD) (σ:Nat→Nat) (id:Nat):Prop:=∃o o',H (σ id)=some o∧H' id=some o'∧Ole σ o o'
mutual
theorem b9.ren:∀(r:R) (v:Value),(∀id∈r.refs,Good H H' σ id)→b9 S μ H (r.ren σ) v→b9 S (fun i=>μ (σ i)) H' r v
 | .c x,v,_,k=>by simpa only[b9,R.ren] using k
 | .hs id off len sz,v,h,k=>by
  obtain⟨o,o',h1,h2,h3⟩:=h id (by simp[R.refs]);simp only[b9,R.ren] at k ⊢;refine⟨k.1,?_⟩;rcases k.2 with k | ⟨te,es,elems,fz,g1,g2,g3⟩
  ·rw[h1] at k;cases k;cases h3;exact .inl h2
  ·rw[h1] at g1;cases g1;cases h3
   ·exact .inr ⟨te,es,elems,_,h2,g2,g3⟩
   ·exact .inr ⟨te,es,elems,_,h2,g2,g3⟩
 | .tl id off len sz,v,h,k=>by
  obtain⟨o,o',h1,h2,h3⟩:=h id (by simp[R.refs]);simp only[b9,R.ren] at k ⊢;refine⟨k.1,?_⟩;rcases k.2 with k | ⟨te,es,elems,fz,g1,g2,g3⟩
  ·rw[h1] at k;cases k;cases h3;exact .inl h2
  ·rw[h1] at g1;cases g1;cases h3
   ·exact .inr ⟨te,es,elems,_,h2,g2,g3⟩
   ·exact .inr ⟨te,es,elems,_,h2,g2,g3⟩
 | .vp id off,v,h,k=>by
  obtain⟨o,o',h1,h2,h3⟩:=h id (by simp[R.refs]);simp only[b9,R.ren] at k ⊢;obtain⟨t,cells,b,c,g1,g2,g3⟩:=k;rw[h1] at g1;cases g1;cases h3;exact⟨_,_,b,c,h2,g2,g3⟩
 | .ep id i fo sz,v,h,k=>by
  obtain⟨o,o',h1,h2,h3⟩:=h id (by simp[R.refs]);simp only[b9,R.ren] at k ⊢;refine⟨k.1,?_⟩;rcases k.2 with k | ⟨te,es,elems,fz,g1,g2,g3⟩
  ·rw[h1] at k;cases k;cases h3;exact .inl h2
  ·rw[h1] at g1;cases g1;cases h3
   ·exact .inr ⟨te,es,elems,_,h2,g2,g3⟩
   ·exact .inr ⟨te,es,elems,_,h2,g2,g3⟩
 | .mr id,v,h,k=>by
  obtain⟨o,o',h1,h2,h3⟩:=h id (by simp[R.refs]);simp only[b9,R.ren] at k ⊢;obtain⟨agg,ents,b,c,g1,g2,g3⟩:=k;rw[h1] at g1;cases g1;cases h3;exact⟨_,_,b,c,h2,g2,g3⟩
 | .clo f caps,v,h,k=>by
  simp only[b9,R.ren] at k ⊢;obtain⟨vs,g1,g2⟩:=k;exact⟨vs,g1,b6.ren caps vs (by simpa only[R.refs] using h) g2⟩
 | .mth f x,v,h,k=>by
  simp only[b9,R.ren] at k ⊢;obtain⟨u,g1,g2⟩:=k;exact⟨u,g1,b9.ren x u (by simpa only[R.refs] using h) g2⟩
 | .rp id i fo sz,v,h,k=>by
  obtain⟨o,o',h1,h2,h3⟩:=h id (by simp[R.refs]);simp only[b9,R.ren] at k ⊢;refine⟨k.1,?_⟩;rcases k.2 with k | ⟨te,es,elems,g1,g2,g3⟩
  ·rw[h1] at k;cases k;cases h3;exact .inl h2
  ·rw[h1] at g1;cases g1;cases h3;rename_i elems' e;subst e;rw[fV] at g2 g3;exact .inr ⟨te,es,elems',h2,g2,g3⟩
 | .yl id,v,h,k=>by
  obtain⟨o,o',h1,h2,h3⟩:=h id (by simp[R.refs]);simp only[b9,R.ren] at k ⊢;obtain⟨st,j,i,e,b,c,g1,g2,g3⟩:=k;rw[h1] at g1;cases g1;cases h3;exact⟨_,_,_,_,b,c,h2,g2,g3⟩
 | .ra id off len sz,v,h,k=>by
  obtain⟨o,o',h1,h2,h3⟩:=h id (by simp[R.refs]);simp only[b9,R.ren] at k ⊢;refine⟨k.1,?_⟩;rcases k.2 with k | ⟨te,es,elems,g1,g2,g3⟩
  ·rw[h1] at k;cases k;cases h3;exact .inl h2
  ·rw[h1] at g1;cases g1;cases h3;rename_i elems' e;subst e;rw[fV] at g2 g3;refine .inr ⟨te,es,elems',h2,g2,fun e=>?_⟩;obtain⟨J,q⟩:=g3 e;refine⟨J,?_⟩;rcases q with⟨q,O,Y⟩ | q
   ·exact .inl ⟨q,Bb (by rw[←fV (σ:=σ),O];rfl),Y⟩
   ·exact .inr q
 | .ras n es l,v,h,k=>by
  simp only[b9,R.ren] at k ⊢;obtain⟨a,cap,h1,h2,h3,h4,h5,h6,b,o,Z,vs,y,I⟩:=k;exact⟨a,cap,h1,by rw[h2,R.renL_length],h3,h4,h5,h6,b,o,Z,vs,b6.ren l vs (by simpa only[R.refs] using h) y,I⟩
 | .pas l,v,h,k=>by
  simp only[b9,R.ren] at k ⊢;obtain⟨b,o,h1,vs,y,I⟩:=k;exact⟨b,o,h1,vs,b6.ren l vs (by simpa only[R.refs] using h) y,I⟩
theorem b6.ren:∀(r:List R) (v:List Value),(∀id∈R.refsL r,Good H H' σ id)→b6 S μ H (R.renL σ r) v→b6 S (fun i=>μ (σ i)) H' r v
 | [],_,_,k=>by simpa only[b6,R.renL] using k
 | r::rs,vs,h,k=>by
  simp only[b6,R.renL] at k ⊢;obtain⟨v,vs',h1,h2,h3⟩:=k;exact⟨v,vs',h1,b9.ren r v (fun i hi=>h i (by simp[R.refsL,hi])) h2,b6.ren rs vs' (fun i hi=>h i (by simp[R.refsL,hi])) h3⟩
end
mutual
theorem aY.ren:∀(r:V) (v:Value),(∀id∈r.refs,Good H H' σ id)→aY S μ H (r.ren σ) v→aY S (fun i=>μ (σ i)) H' r v
 | .one r,v,h,k=>by simp only[aY,V.ren] at k ⊢;exact b9.ren r v (by simpa only[V.refs] using h) k
 | .pa l,v,_,k=>by simpa only[aY,V.ren] using k
 | .ma l,v,h,k=>by
  simp only[aY,V.ren] at k ⊢;obtain⟨vs,h1,h2⟩:=k;exact⟨vs,h1,b6.ren l vs (by simpa only[V.refs] using h) h2⟩
 | .tup l,v,h,k=>by
  simp only[aY,V.ren] at k ⊢;obtain⟨vs,h1,h2⟩:=k;exact⟨vs,h1,c6.ren l vs (by simpa only[V.refs] using h) h2⟩
theorem c6.ren:∀(r:List V) (v:List Value),(∀id∈V.refsL r,Good H H' σ id)→c6 S μ H (V.renL σ r) v→c6 S (fun i=>μ (σ i)) H' r v
 | [],_,_,k=>by simpa only[c6,V.renL] using k
 | r::rs,vs,h,k=>by
  simp only[c6,V.renL] at k ⊢;obtain⟨v,vs',h1,h2,h3⟩:=k;exact⟨v,vs',h1,aY.ren r v (fun i hi=>h i (by simp[V.refsL,hi])) h2,c6.ren rs vs' (fun i hi=>h i (by simp[V.refsL,hi])) h3⟩
end
end
theorem nI.ren {S:Sto}{μ:Mu}{H H':dD}{σ:Nat→Nat}{w:World}{id:Nat}{o o':AObj}(h:nI S μ H w (σ id) o) (hl:Ole σ o o') (q:∀i∈o'.refs,Good H H' σ i):nI S (fun i=>μ (σ i)) H' w id o':=by
 cases hl with
 | @var t cells cells' hc=>
  subst hc;obtain⟨b,vs,h1,h2,h3,h4⟩:=h;exact⟨b,vs,h1,h2,b6.ren _ _ q h3,h4⟩
 | arr=>exact h
 | arr1=>
  obtain⟨g0,g1 | ⟨b,base,cap,vs,g1,g2,g3,g4,g5,g6,g7,g8,g9⟩⟩:=h
  ·exact⟨g0,.inl g1⟩
  ·exact⟨g0,.inr ⟨b,base,cap,vs,g1,g2,g3,g4,g5,g6,(fun e=>by cases e),g8,(fun e=>by cases e)⟩⟩
 | map=>exact h
 | dead=>exact h
 | lp he=>
  subst he;obtain⟨b,r,fn,tmps,h1,h2,h3,h4,h5⟩:=h;exact⟨b,r,fn,tmps,h1,h2,h3,fun t v ht=>aY.ren _ _ (fun i hi=>q i (pA ht i hi)) (h4 t _ (aJc ht)),h5⟩
 | dfr=>exact h
 | rarr he=>
  subst he;obtain⟨g0,g1 | ⟨b,base,cap,vs,g1,g2,g3,g4,g5,g6,g7⟩⟩:=h
  ·exact⟨mK g0,.inl ⟨g1.1,Bb (by rw[←fV (σ:=σ),g1.2];rfl)⟩⟩
  ·rw[fV] at g4 g6;rw[aCu] at g6;exact⟨mK g0,.inr ⟨b,base,cap,vs,g1,g2,g3,g4,g5,b6.ren _ _ (fun i hi=>q i (by rw[xI] at hi;exact hi)) g6,g7⟩⟩
 | tok he=>
  subst he;obtain⟨g1,b,g2,g3⟩:=h;exact⟨g1,b,b9.ren _ _ q g2,g3⟩
def Ctx.keeps (G:Ctx) (kf:List Nat):Prop:=(∀id o,G.h0 id=some o→id∈kf)∧(997∈kf→G.h0 997=none→G.S0.noTop)
def Sub (kf:List Nat) (st2 st1:St):Prop:=∀G n S μ a w,G.keeps kf→Sim G n S μ st1 a w→∃S' μ',Sim G n S' μ' st2 a w
theorem Sub.refl (kf:List Nat) (st:St):Sub kf st st:=fun _ _ S μ _ _ _ h=>⟨S,μ,h⟩
theorem Sub.trans {kf:List Nat}{a b c:St}(h:Sub kf a b) (k:Sub kf b c):Sub kf a c:=fun G n S μ x w q hs=>by
 obtain⟨S',μ',h1⟩:=k G n S μ x w q hs;exact h G n S' μ' x w q h1
def mk (el:List (Nat×V)) (hl:List (Nat×AObj)):St:=⟨look el,look hl,[]⟩
def mkd (el:List (Nat×V)) (hl:List (Nat×AObj)) (dl:List Nat):St:=⟨look el,look hl,dl⟩
theorem bI {α:Type}:∀{l:List (Nat×α)}{i:Nat}{x:α},look l i=some x→(i,x)∈l
 | [],_,_,h=>by simp[look] at h
 | (k,y)::l,i,x,h=>by
  simp only[look] at h;split at h
  ·rename_i hb;cases h;simp[Aa hb]
  ·simp[bI h]
def dU {α:Type}(p:α→Prop):List α→Prop
 | []=>True
 | x::l=>p x∧dU p l
theorem dU.mem {α:Type}{p:α→Prop}:∀{l:List α},dU p l→∀x∈l,p x
 | [],_,x,h=>by simp at h
 | y::l,h,x,hx=>by
  rcases Ac.1 hx with rfl | hx
  ·exact h.1
  ·exact dU.mem h.2 x hx
def subset (a b:List Nat):Bool:=a.all fun x=>b.contains x
def distinct:List Nat→Bool
 | []=>true
 | x::l=>!(l.contains x)&&distinct l
def dI:List (Nat×AObj)→List Nat
 | []=>[]
 | (_,o)::l=>o.refs++dI l
def aJ5 (kf:List Nat) (σ:Nat→Nat) (el:List (Nat×V)) (hl:List (Nat×AObj)):Bool:=subset (jU el) (hl.map (·.1))&&subset (dI hl) (hl.map (·.1))&&distinct (hl.map fun p=>σ p.1)&&subset kf (hl.map (·.1))&&kf.all fun i=>Nat.beq (σ i) i
theorem bJ {a b:List Nat}(h:subset a b=true):∀x∈a,x∈b:=fun x hx=>by simpa using (Au.1 h) x hx
theorem dP:∀{l:List Nat},distinct l=true→l.Nodup
 | [],_=>nodup_nil
 | x::l,h=>by
  simp only[distinct,ζ] at h;refine Bq.2 ⟨?_,dP h.2⟩;simpa using h.1
theorem jH:∀{l:List (Nat×AObj)}{t:Nat}{v:AObj},(t,v)∈l→∀i∈v.refs,i∈dI l
 | (k,u)::l,t,v,h,i,hi=>by
  simp only[dI,ω];rcases Ac.1 h with h | h
  ·cases h;exact .inl hi
  ·exact .inr (jH h i hi)
theorem k8 {α:Type}:∀{l:List (Nat×α)}{i:Nat},i∈l.map (·.1)→∃x,look l i=some x:=eJ
theorem uP {α β:Type}{f:α→β}:∀{l:List α},(l.map f).Nodup→∀x∈l,∀y∈l,f x=f y→x=y
 | [],_,x,h,_,_,_=>by simp at h
 | z::l,hn,x,hx,y,q,e=>by
  simp only[At,Bq] at hn;rcases Ac.1 hx with hx | hx
  ·rcases Ac.1 q with q | q
   ·rw[hx,q]
   ·exact absurd (Ah.2 ⟨y,q,by rw[←e,hx]⟩) hn.1
  ·rcases Ac.1 q with q | q
   ·exact absurd (Ah.2 ⟨x,hx,by rw[e,q]⟩) hn.1
   ·exact uP hn.2 x hx y q e
def eqL:List Nat→List Nat→Bool
 | [],[]=>true
 | a::l,b::m=>Nat.beq a b&&eqL l m
 | _,_=>false
theorem aX1:∀{l m:List Nat},eqL l m=true→l=m
 | [],[],_=>rfl
 | a::l,b::m,h=>by
  simp only[eqL,ζ] at h;rw[Aa h.1,aX1 h.2]
 | [],_::_,h=>by simp[eqL] at h
 | _::_,[],h=>by simp[eqL] at h
theorem Sub.listD {kf:List Nat}{y:St}{el:List (Nat×V)}{hl:List (Nat×AObj)}{dl:List Nat}(σ:Nat→Nat) (he:dU (fun p=>y.e p.1=some (p.2.ren σ)) el) (hh:dU (fun p=>∃o,y.h (σ p.1)=some o∧Ole σ o p.2) hl) (hok:(aJ5 kf σ el hl&&(eqL (dl.map σ) y.d&&subset dl (hl.map (·.1))))=true):Sub kf (mkd el hl dl) y:=by
 intro G n S μ a w hg hs;rw[ζ,ζ] at hok;obtain⟨hok,I,aa⟩:=hok;have I:=aX1 I;simp only[aJ5,ζ] at hok;obtain⟨⟨⟨⟨h1,h2⟩,h3⟩,h4⟩,h5⟩:=hok;have q:∀i∈hl.map (·.1),Good y.h (look hl) σ i:=by
  intro i hi;obtain⟨o',Z⟩:=eJ hi;obtain⟨o,g1,g2⟩:=hh.mem _ (bI Z);exact⟨o,o',g1,Z,g2⟩
 have ab:=dP h3;refine⟨S,fun i=>μ (σ i),⟨⟨hs.inv.holds,fun id o J=>?_,fun i j o o' b c c' hi hj hm ac=>?_,fun i o b c hi hm=>?_,hs.inv.frame,hs.inv.sle,hs.inv.sto,⟨hs.inv.evo.le,fun id o J=>?_⟩,hs.inv.fre⟩,hs.size,?_,fun t v ht=>?_⟩⟩
 ·obtain⟨O,g1,g2⟩:=hh.mem _ (bI J);exact(hs.inv.obj _ _ g1).ren g2 fun i hi=>q i (bJ h2 i (jH (bI J) i hi))
 ·obtain⟨O,g1,g2⟩:=hh.mem _ (bI hi);obtain⟨Y,g3,g4⟩:=hh.mem _ (bI hj);have hσ:=hs.inv.inj _ _ _ _ b c c' g1 g3 hm ac;have:=uP ab _ (bI hi) _ (bI hj) hσ;exact(congrArg Prod.fst this)
 ·obtain⟨O,g1,g2⟩:=hh.mem _ (bI hi);exact hs.inv.own _ _ b c g1 hm
 ·obtain⟨o',g1,g2⟩:=hs.inv.evo.obj id o J;have hk:=hg.1 id o J;have hσ:σ id=id:=Aa ((Au.1 h5) id hk);obtain⟨O,Y,g3,g4,g5⟩:=q id (bJ h4 id hk);rw[hσ,g1] at g3;cases g3;refine⟨Y,g4,?_⟩;show o.succ (μ (σ id)=G.μ0 id) Y;rw[hσ];exact AObj.succ_trans g2 g5.succ fun e _=>e
 ·refine Marks.ren (H:=y.h) (μ:=μ) σ (by show Marks _ μ y.h (dl.map σ) a.defers;rw[I];exact hs.defers) fun id hid ad=>⟨rfl,?_⟩
  obtain⟨O,Y,g3,g4,g5⟩:=q id (bJ aa id hid);rw[ad] at g3;cases g3;cases g5;exact g4
 ·have hm:=bI (show look el t=some v from ht);have h4:=he.mem _ hm;exact aY.ren v _ (fun i hi=>q i (bJ h1 i (pA hm i hi))) (hs.env t _ h4)
theorem Sub.list {kf:List Nat}{q:St}{el:List (Nat×V)}{hl:List (Nat×AObj)}(σ:Nat→Nat) (he:dU (fun p=>q.e p.1=some (p.2.ren σ)) el) (hh:dU (fun p=>∃o,q.h (σ p.1)=some o∧Ole σ o p.2) hl) (hok:(aJ5 kf σ el hl&&eqL [] q.d)=true):Sub kf (mk el hl) q:=
 Sub.listD (dl:=[]) σ he hh (by
  rw[ζ] at hok;rw[ζ]
  exact⟨hok.1,by rw[Co,hok.2];rfl⟩)
def Ctx.rok (G:Ctx):Option Nat→Prop
 | none=>True
 | some l=>(∃r,G.w0.heap[l]?=some (.loop r))∧¬G.F l
def AWp (ro:Option Nat) (P:Program) (n:Nat) (kf:List Nat) (c:Code) (st:St) (Q:Exit→St→Prop):Prop:=
 ∀G S μ a w (Q':Exit→Act→World→Prop),G.keeps kf∧G.rok ro→Sim G n S μ st a w→(∀ex st' S' μ' a' w',Q ex st'→Sim G n S' μ' st' a' w'→Q' ex a' w')→c.wpIn (Wd ro) 0 P Q' a w
section
variable {ro:Option Nat}{P:Program}{n:Nat}{kf:List Nat}{st:St}{Q:Exit→St→Prop}
theorem AWp.sub {c:Code}{st2:St}(h:Sub kf st2 st) (k:AWp ro P n kf c st2 Q):AWp ro P n kf c st Q:=fun G S μ a w Q' q hs y=>by
 obtain⟨S',μ',I⟩:=h G n S μ a w q.1 hs;exact k G S' μ' a w Q' q I y
theorem AWp.post {c:Code}{Q2:Exit→St→Prop}(h:AWp ro P n kf c st Q) (O:∀ex st',Q ex st'→∃y,Sub kf y st'∧Q2 ex y):AWp ro P n kf c st Q2:=fun G S μ a w Q' I hs Y=>
 h G S μ a w Q' I hs fun ex st' S' μ' J w' q s=>by
  obtain⟨y,h1,h2⟩:=O ex st' q;obtain⟨S2,Z,h3⟩:=h1 G n S' μ' J w' I.1 s;exact Y ex y S2 Z J w' h2 h3
theorem aD (h:Q .normal st):AWp ro P n kf .skip st Q:=fun _ S μ a w _ _ hs q=>wpIn_skip (q _ _ S μ a w h hs)
theorem aF (h:Q .ret st):AWp ro P n kf .ret st Q:=fun _ S μ a w _ _ hs q=>wpIn_ret (q _ _ S μ a w h hs)
theorem aL {id:Nat}(h:Q (.exit id) st):AWp ro P n kf (.exit id) st Q:=fun _ S μ a w _ _ hs q=>wpIn_exit (q _ _ S μ a w h hs)
def a9y (ro:Option Nat) (P:Program) (n:Nat) (kf:List Nat) (c:Code) (Q:Exit→St→Prop):Exit→St→Prop
 | .normal,st=>AWp ro P n kf c st Q
 | ex,st=>Q ex st
theorem a8 {x y:Code}(h:AWp ro P n kf x st (a9y ro P n kf y Q)):AWp ro P n kf (.seq x y) st Q:=fun G S μ a w Q' I hs J=>
 wpIn_seq (h G S μ a w _ I hs fun ex st' S' μ' O w' q s=>by
  cases ex with
  | normal=>exact q G S' μ' O w' Q' I s J
  | _=>exact J _ st' S' μ' O w' q s)
theorem aA {c:Operand}{x y:Code}{b:Bool}(hc:opv st c=some (B b)) (ht:b=true→AWp ro P n kf x st Q) (J:b=false→AWp ro P n kf y st Q):AWp ro P n kf (.cond c x y) st Q:=fun G S μ a w Q' q hs I=>by
 have hb:=jZ (aO hs hc fun _ _=>rfl);cases b with
 | true=>exact wpIn_cond_true hb (ht rfl G S μ a w Q' q hs I)
 | false=>exact wpIn_cond_false hb (J rfl G S μ a w Q' q hs I)
def aS7 (id:Nat) (Q:Exit→St→Prop):Exit→St→Prop
 | .exit id',st=>if Nat.beq id' id then Q .normal st else Q (.exit id') st
 | ex,st=>Q ex st
theorem aC {id:Nat}{c:Code}(h:AWp ro P n kf c st (aS7 id Q)):AWp ro P n kf (.block id c) st Q:=fun G S μ a w Q' O hs I=>
 wpIn_block (h G S μ a w _ O hs fun ex st' S' μ' J w' q s=>by
  cases ex with
  | exit y=>
   simp only[aS7] at q;simp only[Exit.inBlock];by_cases hb:y=id
   ·subst hb;simp only[Cg,Cw] at q;simpa using I _ st' S' μ' J w' q s
   ·have:Nat.beq y id=false:=by
     cases Y:Nat.beq y id with
     | false=>rfl
     | true=>exact absurd (Aa Y) hb
    simp only[this,Ba,B5] at q;simpa [hb] using I _ st' S' μ' J w' q s
  | _=>exact I _ st' S' μ' J w' q s)
def a8t {α:Type}(kf:List Nat) (σ:α→St) (I:α→Prop) (m:α→Nat) (x:α) (Q:Exit→St→Prop):Exit→St→Prop
 | .normal,st=>∃y,I y∧m y<m x∧Sub kf (σ y) st
 | ex,st=>Q ex st
theorem tL {F:Fence}{m:Nat}{P:Program}{Q:Exit→Act→World→Prop}{a:Act}{w:World}{c:Code}(I:Nat→Act→World→Prop) (J:Nat) (Z:I J a w)
  (round:∀n a w,I n a w→c.wpIn F m P (Exit.then (fun y w'=>∃n',n'<n∧I n' y w') Q) a w):(Code.loop c).wpIn F m P Q a w:=by
 refine wpIn_loop (fun a w=>∃n,I n a w) (fun a w=>leastOf (fun n=>I n a w)) ⟨J,Z⟩ ?_;intro a w hI;refine wpIn_mono (round _ a w (leastOf_spec hI).1) ?_;intro e y w' O;cases e with
 | normal=>
  obtain⟨n',Y,q⟩:=O;exact show(∃n,I n y w')∧leastOf (fun n=>I n y w')<leastOf (fun n=>I n a w) from⟨⟨n',q⟩,Nat.lt_of_le_of_lt ((leastOf_spec ⟨n',q⟩).2 n' q) Y⟩
 | _=>exact O
theorem aK {α:Type}{c:Code}(σ:α→St) (I:α→Prop) (m:α→Nat) (J:α) (hI:I J) (h0:Sub kf (σ J) st) (h:∀x,I x→AWp ro P n kf c (σ x) (a8t kf σ I m x Q)):AWp ro P n kf (.loop c) st Q:=fun G S μ a w Q' O hs hQ=>by
 obtain⟨S',μ',Z⟩:=h0 G n S μ a w O.1 hs;refine tL (fun k a w=>∃x S μ,m x=k∧I x∧Sim G n S μ (σ x) a w) (m J) ⟨J,S',μ',rfl,hI,Z⟩ ?_;rintro k a w ⟨x,S,μ,hk,hx,hs⟩;refine h x hx G S μ a w _ O hs fun ex st' S1 aa a' w' q s=>?_
 cases ex with
 | normal=>
  obtain⟨y,hy,hlt,Y⟩:=q;obtain⟨S2,μ2,h2⟩:=Y G n S1 aa a' w' O.1 s;exact⟨m y,hk▸hlt,y,S2,μ2,rfl,hy,h2⟩
 | _=>exact hQ _ st' S1 aa a' w' q s
theorem yT {id:Nat}{ops:Array Oper}{draw:Bool}{st':St}{xs:REs}(hm:P.follows .mixedOrders=true) (O:Run P n ops 0 st xs st') (hlen:Nat.beq xs.length ops.size=true)
  (J:(!draw || (gJ (qU ops) xs []&&j3 ops))=true) (h:Q .normal st'):AWp ro P n kf (.region id ops draw) st Q:=fun G S μ a w Q' hg hs hQ=>by
 have q:=Aa hlen;cases draw with
 | true=>
  simp only[Bool.not_true,Bool.false_or,ζ] at J;refine wpIn_region_any hm ?_;refine aY6 (G:=G) O q J.1 J.2 (fun S' μ' I w' s=>hQ _ st' S' μ' I w' h s) ops.size _ (by simp) ?_ ?_ S μ a _ ?_ ro
  ·have:((List.range ops.size).filter fun i=>!(Array.replicate ops.size false).getD i false)=List.range ops.size:=by
    apply List.filter_eq_self.2;intro i hi;simp at hi;simp[hi]
   rw[this,List.length_range]
  ·intro i o ho hl;simp[Array.getElem?_replicate] at hl;split at hl<;>simp at hl
  ·have hz:∀(Y:REs) (k:Nat) (s:St),fP (fun j=>(Array.replicate ops.size false).getD j false) k Y s=s:=by
    intro Y
    induction Y with
    | nil=>intro k s;rfl
    | cons y Y Z=>
     intro k s;have hf:(Array.replicate ops.size false).getD k false=false:=by
      simp[Array.getElem?_replicate];split<;>rfl
     simp only[fP,hf,B0];exact Z _ _
   rw[hz];exact⟨hs.inv.same rfl rfl rfl rfl,hs.size,hs.defers,hs.env⟩
 | false=>
  refine wpIn_region ?_;have key:∀(k:Nat) (st st':St) (xs:REs),Run P n ops k st xs st'→k+xs.length=ops.size→(∀S' μ' I w',Sim G n S' μ' st' I w'→Q' .normal I w')→∀S μ a w,Sim G n S μ st a w→wpOpsIn (Wd ro) 0 P ops Q' (List.range' k xs.length) a w:=by
   intro k st st' xs O
   induction O with
   | nil=>intro _ hq S μ a w hs;exact hq S μ a w hs
   | @cons k st rd f xs st' hg _ Z=>
    intro hl hq S μ a w hs;simp only[Ai,List.range'_succ,wpOpsIn_cons];exact hg st (rR.refl _ _) G S μ a w _ Q' hs (fun S1 μ1 a1 w1 s1=>Z (by simp at hl;omega) hq S1 μ1 a1 w1 s1) ro
  have:=key 0 st st' xs O (by omega) (fun S' μ' I w' s=>hQ _ st' S' μ' I w' h s) S μ a w hs;rwa [List.range_eq_range',←q]
end
end Go.AM
