/-
  Texts Am6 to Am11 in one.
-/
import Derived.Test.YtglfogjcijokpaaGreatDoorM1
import Derived.Deep.MidRow
import Derived.Deep.LoopGhost
open List (all_eq_true append_assoc append_nil drop_append drop_drop drop_of_length_le drop_succ_cons drop_take drop_zero eq_nil_of_length_eq_zero flatten_append flatten_cons foldl_cons length_append length_cons length_drop length_nil length_range length_set length_take map_cons map_nil map_toArray mem_append mem_cons mem_cons_of_mem mem_map mem_of_mem_drop mem_of_mem_take mem_or_eq_of_mem_set nil_append nodup_cons nodup_nil set_eq_take_append_cons_drop size_toArray take_append_of_le_length take_left' take_of_length_le take_succ_cons take_take take_zero)
open Nat (add_assoc add_mul add_zero beq_refl eq_of_beq_eq_true le_of_ble_eq_true le_refl le_trans lt_of_le_of_lt min_eq_left mul_le_mul_left mul_le_mul_right sub_self sub_zero zero_add zero_le)
namespace Go.AM
open Go
section
variable {P:Program}{n:Nat}{o:Oper}{st:St}{d:Nat}{T:TT}
theorem gO {S:Sto}{μ:Mu}{H:cK}{id:Nat}(h:H id=none) (p:Option (Nat×Nat×Nat)) (x:Option AObj):Evolve S μ H S (upd μ id p) (upd H id x):=
 ⟨S.le_refl,fun j o I=>by
  have q:j≠id:=fun e=>by subst e;rw[h] at I;cases I
  exact⟨o,by rw[aS _ _ _ q];exact I,o.succ_refl (aS _ _ _ q)⟩⟩
theorem Step.new {rd:Rd}{y:V}{id:Nat}{ao:AObj}(hd:o.dst=some d) (I:d<n) (hid:st.h id=none) (J:id∈rd.h)
  (h:∀st',qN rd st st'→st'.h id=none→∀G S μ a w,Sim G n S μ st' a w→∃w' O v c,(execOp a.eval o).run P w=.ok (.value v) w'∧WChg w w' w.heap.size O∧
   mW S (upd μ id (some (w.heap.size,c))) (upd st'.h id (some ao)) w' id ao∧aZ S (upd μ id (some (w.heap.size,c))) (upd st'.h id (some ao)) y v):
  Step P n o st rd ⟨some (d,some y),[(id,some ao)]⟩:=by
 intro st' ha G S μ a w K Q hs hk;have q:st'.h id=none:=by rw[ha.2 id J,hid]
 obtain⟨w',O,v,c,W,hw,Y,Z⟩:=h st' ha q G S μ a w hs;refine fun ro=>j1 W ?_
 rw[hd];have hi:=hs.inv.chg (id:=id) (cap:=c) (ao:=ao) hw (.inl (le_refl _)) (gO q _ _) Y
  (fun o v e=>by obtain⟨vs,t,fr,h1,_⟩:=hs.inv.holds.1 _ _ _ e;exact absurd (dV h1) (Nat.lt_irrefl _)) (fun m e=>le_refl _)
 refine hk S (upd μ id (some (w.heap.size,c))) _ _ ?_;have:=hs.put hi (gO q _ _) I (x:=some y) (fun z hz=>by cases hz;exact Z);unfold Eff.apply;rw[c7];exact this
theorem fI {G:Ctx}{S:Sto}{μ:Mu}{H:cK}{w:World}(h:Inv G S μ H w) (o:Nat):S.cell w.heap.size o=none:=by
 cases hc:S.cell w.heap.size o with
 | none=>rfl
 | some v=>obtain⟨vs,t,fr,h1,_⟩:=h.holds.1 _ _ _ hc;exact absurd (dV h1) (Nat.lt_irrefl _)
theorem oT {G:Ctx}{S:Sto}{μ:Mu}{H:cK}{w:World}(h:Inv G S μ H w):S.mapo w.heap.size=none:=by
 cases hc:S.mapo w.heap.size with
 | none=>rfl
 | some v=>obtain⟨_,h1⟩:=MK.holds_some (h.holds.2 _ _ hc);exact absurd (dV h1) (Nat.lt_irrefl _)
theorem j5 (P:Program) (w:World) (t:TypeId) (cs:Array Value):(newRow t cs).run P w=.ok ⟨w.heap.size,0,none⟩ (w.alloc (.cells cs t)):=rfl
theorem aXd {t:TypeId}{i:TI}(id:Nat) (J:Tok P T) (O:o.op=.alloc t) (hd:o.dst=some d) (q:d<n) (hi:T[t]?=some (some i)) (hid:st.h id=none):
  Step P n o st ⟨[],[id]⟩ ⟨some (d,some (.one (.vp id 0))),[(id,some (.var t (i.zero.map R.c)))]⟩:=by
 refine Step.new hd q hid (by simp) fun st' _ W G S μ a w hs=>?_
 obtain⟨z,Y,I,_⟩:=(J.get hi).zero_run;refine⟨_,_,.pointer (some ⟨w.heap.size,0,none⟩),(0,0),?_,WChg.alloc w (.cells z.cells t),?_,?_⟩
 ·simp[execOp,O,Instr.alloc,Y,newVar,j5]
 ·exact⟨w.heap.size,z.cells.toList,aI _ _ _,Bz w _,(I S).toR,fI hs.inv,oT hs.inv⟩
 ·simp only[aZ,b9];exact⟨t,_,_,_,aI _ _ _,aI _ _ _,rfl⟩
theorem a5p {t:TypeId}{x:Operand}{y:V}{rs:List R}(id:Nat) (J:o.op=.box t x) (hd:o.dst=some d) (I:d<n) (hx:opv st x=some y) (hc:iV y=some rs) (hid:st.h id=none):
  Step P n o st ⟨opr x,[id]⟩ ⟨some (d,some (.one (.vp id 0))),[(id,some (.var t rs))]⟩:=by
 refine Step.new hd I hid (by simp) fun st' ha q G S μ a w hs=>?_
 have O:=aQ hs hx ha.1;refine⟨_,_,.pointer (some ⟨w.heap.size,0,none⟩),(0,0),?_,WChg.alloc w (.cells (a.eval x).cells t),?_,?_⟩
 ·simp[execOp,J,Instr.box,newVar,j5]
 ·exact⟨w.heap.size,(a.eval x).cells.toList,aI _ _ _,Bz w _,aW.evolve (gO q _ _) _ _ (eG O hc),fI hs.inv,oT hs.inv⟩
 ·simp only[aZ,b9];exact⟨t,_,_,_,aI _ _ _,aI _ _ _,rfl⟩
theorem aA6 {t:TypeId}(id:Nat) (agg:Bool) (I:o.op=.makeMap t none) (hd:o.dst=some d) (q:d<n) (hid:st.h id=none):
  Step P n o st ⟨[],[id]⟩ ⟨some (d,some (.one (.mr id))),[(id,some (.map agg []))]⟩:=by
 refine Step.new hd q hid (by simp) fun st' _ J G S μ a w hs=>?_
 refine⟨w.alloc (.map #[] 0),_,.map (some w.heap.size),(0,0),?_,WChg.alloc w (.map #[] 0),?_,?_⟩
 ·simp only[execOp,I,Instr.makeMap,C5];rfl
 ·exact⟨w.heap.size, #[],0,aI _ _ _,Bz w _,.inr (.inl (by simp[bB])),.inl (oT hs.inv)⟩
 ·simp only[aZ,b9];exact⟨_,_,_,_,aI _ _ _,aI _ _ _,rfl⟩
theorem kW {w:World}{b:Nat}{vs:List Value}{t:TypeId}(h:w.heap[b]?=some (.cells ⟨vs⟩ t (0,0))) (off k:Nat):w.rangeAt b off ((vs.drop off).take k):=by
 intro j v q;rw[cell_of_row w b (off+j) ⟨vs⟩ t (0,0) h];rw[Au] at q;split at q
 ·rw[An] at q;simpa using q
 ·cases q
theorem run_load {t:TypeId}{i:TI}(I:TIok P t i) (w:World) (b off:Nat) (cs:List Value) (O:w.rangeAt b off cs) (hl:cs.length=i.size):
  (Instr.loadAt t (.pointer (some ⟨b,off,none⟩))).run P w=.ok (if i.k.agg then .agg ⟨cs⟩ else cs.headD undef) w:=by
 obtain⟨inf,dd,z,g1,g2,g3,g4,g5,g6,g7,g8⟩:=I.ex;cases hk:i.k.agg with
 | true=>
  have J:dd.isRow=true:=by
   cases W:i.k<;>rw[W] at g5 hk<;>cases dd<;>simp[TK.fits,TK.agg] at g5 hk<;>rfl
  rw[run_loadAt_mid w b off t cs dd O g2 J (by rw[I.info,hl])];simp
 | false=>
  have hs:=I.one hk;rw[hs] at hl
  match cs,hl with
  | [c],_=>
   have hc:=O 0 c rfl;have q:=I.agg_run w;rw[hk] at q;simp only[Instr.loadAt,Instr.sureAddr,Ag,Ai,ω,loadVar,q];simp only[Bc,B3,load];simp only[Sem.run];rw[show(⟨b,off,none⟩:Addr)=⟨b,off+0,none⟩ from rfl,hc];simp
def rB (i:TI) (rs:List R):Option V:=if i.k.agg then some (aZ5 rs) else match rs with | [r]=>some (.one r) | _=>none
theorem mJ {i:TI}{S:Sto}{μ:Mu}{H:cK}{rs:List R}{vs:List Value}{y:V}(h:aW S μ H rs vs) (q:rB i rs=some y):aZ S μ H y (if i.k.agg then .agg ⟨vs⟩ else vs.headD undef):=by
 unfold rB at q;cases hk:i.k.agg with
 | true=>
  simp only[hk,Ct] at q ⊢;cases q;exact aIy h
 | false=>
  simp only[hk,Bc,B3] at q ⊢;split at q
  ·cases q;simp only[aW] at h;obtain⟨v,vs',rfl,h1,rfl⟩:=h;simpa [aZ] using h1
  ·cases q
theorem a6b {α:Type}{l:List α}{off k:Nat}(h:off+k≤l.length):((l.drop off).take k).length=k:=by simp;omega
theorem a1q {t tv:TypeId}{i:TI}{x:Operand}{id off:Nat}{cells:List R}{y:V}(O:Tok P T) (W:o.op=.load t x) (hd:o.dst=some d) (q:d<n) (hi:T[t]?=some (some i)) (hx:opv st x=some (.one (.vp id off)))
  (hh:st.h id=some (.var tv cells)) (hl:Nat.ble (off+i.size) cells.length=true) (Y:rB i ((cells.drop off).take i.size)=some y):Step P n o st ⟨opr x,[id]⟩ ⟨some (d,some y),[]⟩:=by
 refine Step.value hd q fun st' ha G S μ a w hs=>?_
 have I:st'.h id=some (.var tv cells):=by rw[ha.2 id (by simp),hh]
 have J:=aQ hs hx ha.1;simp only[aZ,b9] at J;obtain⟨t',cells',b,c,h1,h2,h3⟩:=J;obtain⟨b',vs,g1,g2,g3,g4⟩:=hs.inv.obj id _ I;rw[g1] at h2;cases h2;have hlen:=Aq hl;have Z:=g3.length;refine⟨_,?_,mJ ((g3.drop off).take i.size) Y⟩;simp only[execOp,W,h3,Ag,run_load (O.get hi) w b off _ (kW g2 off i.size) (a6b (by omega)),ω,Ai]
def aJu (i:TI) (l:List C):Option V:=if i.k.agg then some (.pa l) else match l with | [c]=>some (.one (.c c)) | _=>none
theorem aBr {i:TI}{S:Sto}{μ:Mu}{H:cK}{l:List C}{vs:List Value}{y:V}(h:cB S l vs) (q:aJu i l=some y):aZ S μ H y (if i.k.agg then .agg ⟨vs⟩ else vs.headD undef):=by
 unfold aJu at q;cases hk:i.k.agg with
 | true=>
  simp only[hk,Ct] at q ⊢;cases q;simp only[aZ];exact⟨vs,rfl,h⟩
 | false=>
  simp only[hk,Bc,B3] at q ⊢;split at q
  ·cases q;simp only[cB] at h;obtain⟨v,vs',rfl,h1,rfl⟩:=h;simpa [aZ,b9] using h1
  ·cases q
theorem nP {S:Sto}{w:World}(hh:Holds S w) {b off:Nat}{vs:List Value}(h:gJ S b off vs):w.rangeAt b off vs:=fun j v q=>hh.cell (h j v q)
theorem aMa {t:TypeId}{i:TI}{x:Operand}{l:List C}{y:V}(W:Tok P T) (Y:o.op=.load t x) (hd:o.dst=some d) (I:d<n) (hi:T[t]?=some (some i)) (hx:opv st x=some (.one (.c (.pt l))))
  (hl:i.size≤l.length) (Z:aJu i (l.take i.size)=some y):Step P n o st ⟨opr x,[]⟩ ⟨some (d,some y),[]⟩:=by
 refine Step.value hd I fun st' ha G S μ a w hs=>?_
 have J:=aQ hs hx ha.1;simp only[aZ,b9,Rep] at J;obtain⟨b,off,h1,vs,h2,h3⟩:=J;have hvl:=h2.length;refine⟨_,?_,aBr (h2.take i.size) Z⟩;have hr:=nP hs.inv.holds h3;have O:w.rangeAt b off (vs.take i.size):=fun j v q=>by
  rw[Au] at q;split at q
  ·exact hr j v q
  ·cases q
 simp only[execOp,Y,h1,Ag,run_load (W.get hi) w b off _ O (by simp;omega),ω,Ai]
theorem eW {α:Type}{es:Nat}:∀{l:List (List α)},(∀r∈l,r.length=es)→∀(k:Nat),∀r,l[k]?=some r→(l.flatten.drop (k*es)).take es=r
 | [],_,k,r,h=>by simp at h
 | x::xs,hl,0,r,h=>by
  simp at h;subst h;have:=hl x (by simp);simp[←this]
 | x::xs,hl,k+1,r,h=>by
  simp at h;have hx:=hl x (by simp);have:=eW (l:=xs) (fun r q=>hl r (by simp[q])) k r h;rw[Bk,drop_append,show(k+1)*es-x.length=k*es by rw[hx,Av];omega];rw[drop_of_length_le (by rw[hx,Av];omega),A4];exact this
theorem jE {α:Type}{es:Nat}:∀{l:List (List α)},(∀r∈l,r.length=es)→l.flatten.length=l.length*es
 | [],_=>by simp
 | x::xs,hl=>by
  rw[Bk,Ab,jE (fun r q=>hl r (by simp[q])),hl x (by simp),Am,Av];omega
theorem mW.arr {S:Sto}{μ:Mu}{H:cK}{w:World}{id:Nat}{te es:Nat}{elems:List (List C)}{fz:Nat}(h:mW S μ H w id (.arr te es elems fz)) {b base cap:Nat}(hm:μ id=some (b,base,cap)):
  (∀r∈elems,r.length=es)∧∃vs,w.heap[b]?=some (.cells ⟨vs⟩ te (0,0))∧
   base+cap*es≤vs.length∧elems.length≤cap∧(cap≤maxLen∧S.mapo b=none)∧cB S elems.flatten ((vs.drop base).take (elems.length*es))∧
   (fz=0→∀o,base≤o→S.cell b o=none)∧(∀o,base+elems.length*es≤o→S.cell b o=none)∧(fz=2→gJ S b base ((vs.drop base).take (elems.length*es))):=by
 obtain⟨h0,⟨h1,_⟩ | ⟨J,q,I,vs,h1,h2⟩⟩:=h
 ·rw[hm] at h1;cases h1
 ·rw[hm] at h1;cases h1;exact⟨h0,vs,h2⟩
theorem aUq {S:Sto}{es base:Nat}{elems:List (List C)}{vs:List Value}(h0:∀r∈elems,r.length=es) (h:cB S elems.flatten ((vs.drop base).take (elems.length*es))) {k:Nat}{r:List C}(hk:elems[k]?=some r):
  cB S r ((vs.drop (base+k*es)).take es):=by
 have h1:=(h.drop (k*es)).take es;rw[eW h0 k r hk] at h1;have q:k<elems.length:=(τ.1 hk).1
 have hle:(k+1)*es≤elems.length*es:=Ar _ q;rw[Av] at hle;rw[drop_take,drop_drop,take_take] at h1;rwa [Ch (by omega)] at h1
theorem aMb {t te es:Nat}{i:TI}{x:Operand}{id k fo sz:Nat}{elems:List (List C)}{fz:Nat}{r:List C}{y:V}(hT:Tok P T) (ho:o.op=.load t x) (hd:o.dst=some d) (W:d<n) (hi:T[t]?=some (some i)) (hx:opv st x=some (.one (.ep id k fo sz)))
  (hh:st.h id=some (.arr te es elems fz)) (Y:sz=elems.length) (Z:elems[k]?=some r) (hl:fo+i.size≤es) (hy:aJu i ((r.drop fo).take i.size)=some y):Step P n o st ⟨opr x,[id]⟩ ⟨some (d,some y),[]⟩:=by
 refine Step.value hd W fun st' ha G S μ a w hs=>?_
 have q:st'.h id=some (.arr te es elems fz):=by rw[ha.2 id (by simp),hh]
 have I:=aQ hs hx ha.1;simp only[aZ,b9] at I;obtain⟨_,I | ⟨te',es',elems',fz',h1,h2,h3⟩⟩:=I
 ·rw[q] at I;cases I
 rw[q] at h1;cases h1;obtain⟨h4,b,base,cap,h5,h6⟩:=h3 Y;obtain⟨g0,vs,g1,g2,g3,g4,g5,g6,g7⟩:=(hs.inv.obj id _ q).arr h5;have J:=aUq g0 g5 Z;have hlr:=J.length;have hres:r.length=es:=g0 r (δ Z);have O:=((J.drop fo).take i.size)
 have hlen:=O.length;have hE:((List.drop fo (List.take es (List.drop (base+k*es) vs))).take i.size)=(vs.drop (base+k*es+fo)).take i.size:=by
  rw[drop_take,drop_drop,take_take,Ch (by omega)]
 rw[hE] at O hlen;refine⟨_,?_,aBr O hy⟩;simp only[execOp,ho,h6,Ag,run_load (hT.get hi) w b (base+k*es+fo) _ (kW g1 _ i.size) (by rw[hlen];simp;omega),ω,Ai]
end
section
variable {P:Program}{n:Nat}{o:Oper}{st:St}{d:Nat}{T:TT}
theorem run_store {t:TypeId}{i:TI}(W:TIok P t i) (w:World) (b off:Nat) (vs news:List Value) (tb:TypeId) (v:Value) (Y:w.heap[b]?=some (.cells ⟨vs⟩ tb (0,0))) (J:v.cells.toList=news) (hl:news.length=i.size) (I:off+news.length≤vs.length) (h1:∀u∈news,u.oneCell'=true):
  (Instr.storeAt t (.pointer (some ⟨b,off,none⟩)) v).run P w=.ok () (w.setRow b ⟨vs.take off++news++vs.drop (off+news.length)⟩):=by
 have O:v.cells.size=i.size:=by rw[←hl,←J];simp
 have q:=run_storeCells_at (P:=P) b off tb news 0 ⟨vs⟩ w Y (by simpa using I) h1;simp only[B0] at q;simp only[Instr.storeAt,Instr.sureAddr,Ag,Ai,ω,storeVar,W.size_run w,O,J];simp only[ne_eq,not_true_eq_false,B3,q]
theorem l8 {S:Sto}{μ:Mu}{H:cK}{id:Nat}{o o':AObj}{p:Nat×Nat×Nat}(h:H id=some o) (hm:μ id=some p) (hs:o.succ True o'):Evolve S μ H S (upd μ id (some p)) (upd H id (some o')):=by
 refine⟨S.le_refl,fun j x I=>?_⟩;by_cases q:j=id
 ·subst q;rw[h] at I;cases I;refine⟨o',aI _ _ _,?_⟩;have he:upd μ j (some p) j=μ j:=by rw[aI,hm]
  rw[he];simpa using hs
 ·exact⟨x,by rw[aS _ _ _ q];exact I,x.succ_refl (aS _ _ _ q)⟩
theorem Step.turn {rd:Rd}{id:Nat}{ao q:AObj}(hd:o.dst=none) (hid:st.h id=some ao) (W:id∈rd.h) (J:ao.succ True q)
  (h:∀st',qN rd st st'→st'.h id=some ao→∀G S μ a w,Sim G n S μ st' a w→∃w' O b c,(execOp a.eval o).run P w=.ok .skip w'∧μ id=some (b,c)∧WChg w w' b O∧
   mW S (upd μ id (some (b,c))) (upd st'.h id (some q)) w' id q∧(∀o v,S.cell b o=some v→∃vs t fr,O=.cells vs t fr∧vs[o]?=some v)∧(∀m,S.mapo b=some m→w.heap.size≤b)):
  Step P n o st rd ⟨none,[(id,some q)]⟩:=by
 intro st' ha G S μ a w K Q hs hk;have I:st'.h id=some ao:=by rw[ha.2 id W,hid]
 obtain⟨w',O,b,c,hr,hm,hw,hO,hS,Y⟩:=h st' ha I G S μ a w hs;refine fun ro=>qO hr ?_
 rw[hd];have Z:=l8 (S:=S) (μ:=μ) I hm J;have hi:=hs.inv.chg (id:=id) (cap:=c) (ao:=q) hw (.inr ⟨ao,c,I,hm⟩) Z hO hS Y;refine hk S (upd μ id (some (b,c))) _ _ ?_;have:=hs.put_none hi Z undef;unfold Eff.apply;rw[c7];exact this
def bX {α:Type}(l:List α) (off:Nat) (new:List α):List α:=l.take off++new++l.drop (off+new.length)
theorem jC {S:Sto}{w:World}{b:Nat}(hb:S.mapo b=none) (m:MK) (e:S.mapo b=some m):w.heap.size≤b:=by
 rw[hb] at e;cases e
theorem aW5 {t tv:TypeId}{i:TI}{x y:Operand}{id off:Nat}{cells rs:List R}{v:V}(hT:Tok P T) (ho:o.op=.store t x y) (hd:o.dst=none) (hi:T[t]?=some (some i)) (hx:opv st x=some (.one (.vp id off)))
  (hy:opv st y=some v) (hc:iV v=some rs) (hh:st.h id=some (.var tv cells)) (hrs:rs.length=i.size) (hl:Nat.ble (off+i.size) cells.length=true):
  Step P n o st ⟨opr x++opr y,[id]⟩ ⟨none,[(id,some (.var tv (bX cells off rs)))]⟩:=by
 refine Step.turn hd hh (by simp) (by simp[AObj.succ]) fun st' ha I G S μ a w hs=>?_
 have J:=aQ hs hx fun t ht=>ha.1 t (by simp[ht])
 have Z:=aQ hs hy fun t ht=>ha.1 t (by simp[ht])
 simp only[aZ,b9] at J;obtain⟨t',cells',b,c,h1,h2,h3⟩:=J;obtain⟨b',vs,g1,g2,g3,g4⟩:=hs.inv.obj id _ I;rw[g1] at h2;cases h2;have hlen:=Aq hl;have hvl:=g3.length;have q:=eG Z hc;have O:=q.length;have W:=run_store (hT.get hi) w b off vs (a.eval y).cells.toList tv (a.eval y) g2 rfl (by omega) (by omega) q.one;have Y:=l8 (S:=S) (μ:=μ) (o':=.var tv (bX cells off rs)) I g1 (by simp[AObj.succ]);have hW:=WChg.setRow w b ⟨vs⟩ ⟨vs.take off++(a.eval y).cells.toList++vs.drop (off+(a.eval y).cells.toList.length)⟩ tv (0,0) g2;refine⟨_,_,b,(0,0),?_,g1,hW,⟨b,_,aI _ _ _,hW.new,?_,g4⟩,(fun o v e=>by rw[g4.1] at e;cases e),fun m e=>jC g4.2 m e⟩
 ·simp only[execOp,ho,h3,Ag,W,ω,Ai]
 ·have h1:=aW.evolve Y _ _ (g3.take off);have h2:=aW.evolve Y _ _ q;have h3:=aW.evolve Y _ _ (g3.drop (off+rs.length));rw[←O] at h3;have:=(h1.append h2).append h3;rw[show bX cells off rs=cells.take off++rs++cells.drop (off+(a.eval y).cells.toList.length) by rw[O];rfl] at this ⊢;exact this
theorem aEs {α:Type}{es:Nat}:∀{l:List (List α)},(∀r∈l,r.length=es)→∀(k:Nat) (r:List α),l[k]?=some r→
  (l.take k).flatten=l.flatten.take (k*es)∧(l.drop (k+1)).flatten=l.flatten.drop (k*es+es)
 | [],_,k,r,h=>by simp at h
 | x::xs,hl,0,r,_=>by
  have hx:=hl x (by simp);simp only[Cr,List.flatten_nil,Nat.zero_mul,Ba,C0,B4,Bk,true_and];rw[drop_append,hx,C6,B4,drop_of_length_le (by omega),A4]
 | x::xs,hl,k+1,r,h=>by
  have hx:=hl x (by simp);simp at h;obtain⟨h1,h2⟩:=aEs (l:=xs) (fun r q=>hl r (by simp[q])) k r h;simp only[A1,Bk,C0];rw[h1,h2,List.take_append,drop_append,hx];have I:(k+1)*es-es=k*es:=by rw[Av];omega
  have J:(k+1)*es+es-es=k*es+es:=by rw[Av];omega
  rw[I,J,Ax (l:=x) (by rw[hx,Av];omega),drop_of_length_le (l:=x) (by rw[hx,Av];omega),A4];exact⟨rfl,rfl⟩
theorem aI9 {t te es:Nat}{i:TI}{x y:Operand}{id k fo sz:Nat}{elems:List (List C)}{v:V}{rs:List R}{cs r:List C}(hT:Tok P T) (ho:o.op=.store t x y) (hd:o.dst=none) (hi:T[t]?=some (some i)) (hx:opv st x=some (.one (.ep id k fo sz)))
  (hy:opv st y=some v) (hc:iV v=some rs) (hp:jL rs=some cs) (hh:st.h id=some (.arr te es elems 0)) (hsz:sz=elems.length) (hr:elems[k]?=some r) (hcs:cs.length=i.size) (hl:fo+i.size≤es):
  Step P n o st ⟨opr x++opr y,[id]⟩ ⟨none,[(id,some (.arr te es (elems.set k (bX r fo cs)) 0))]⟩:=by
 refine Step.turn hd hh (by simp) (by simp[AObj.succ]) fun st' ha O G S μ a w hs=>?_
 have hvx:=aQ hs hx fun t ht=>ha.1 t (by simp[ht])
 have hvy:=aQ hs hy fun t ht=>ha.1 t (by simp[ht])
 simp only[aZ,b9] at hvx;obtain⟨_,hv | ⟨te',es',elems',fz',h1,h2,h3⟩⟩:=hvx
 ·rw[O] at hv;cases hv
 rw[O] at h1;cases h1;obtain⟨h4,b,base,cap,h5,h6⟩:=h3 hsz;obtain⟨g0,vs,g1,g2,g3,g4,g5,g6,g7⟩:=(hs.inv.obj id _ O).arr h5;have I:=eG hvy hc;rw[oN hp] at I;have Y:=I.pure;have hone:=I.one;have hnl:=Y.length;have hk:k<elems.length:=(τ.1 hr).1
 have hres:r.length=es:=g0 r (δ hr);have hke:(k+1)*es≤elems.length*es:=Ar _ hk;have hce:elems.length*es≤cap*es:=Ar _ g3;rw[Av] at hke;generalize hnews:(a.eval y).cells.toList=news at *;have hrun:=run_store (hT.get hi) w b (base+k*es+fo) vs news te (a.eval y) g1 hnews (by omega) (by omega) hone;have hE:=l8 (S:=S) (μ:=μ) (o':=.arr te es (elems.set k (bX r fo cs)) 0) O h5 (by simp[AObj.succ]);have Z:=aUq g0 g5 hr;have W:=aEs g0 k r hr;have hlen:(elems.set k (bX r fo cs)).length=elems.length:=by simp
 have hW:=WChg.setRow w b ⟨vs⟩ ⟨vs.take (base+k*es+fo)++news++vs.drop (base+k*es+fo+news.length)⟩ te (0,0) g1;refine⟨_,_,b,(base,cap),?_,h5,hW,⟨?_,.inr ⟨b,base,cap,_,aI _ _ _,hW.new,?_,by rw[hlen];exact g3,g4,?_,g6,by rw[hlen];exact g7.1,fun e=>by cases e⟩⟩,fun o v e=>?_,fun m e=>jC g4.2 m e⟩
 ·simp only[execOp,ho,h6,Ag,hrun,ω,Ai]
 ·intro q hq;rcases Cv hq with hq | rfl
  ·exact g0 q hq
  ·unfold bX;simp;omega
 ·simp only[Ab,At,B5];omega
 ·rw[hlen];have e1:(elems.set k (bX r fo cs)).flatten=elems.flatten.take (k*es)++(r.take fo++cs++r.drop (fo+cs.length))++elems.flatten.drop (k*es+es):=by
   rw[Cj,ξ hk,flatten_append,Bk,W.1,W.2,←A0];rfl
  have e2:((vs.take (base+k*es+fo)++news++vs.drop (base+k*es+fo+news.length)).drop base).take (elems.length*es)=
    ((vs.drop base).take (elems.length*es)).take (k*es)++((((vs.drop (base+k*es)).take es).take fo)++news++(((vs.drop (base+k*es)).take es).drop (fo+cs.length)))++((vs.drop base).take (elems.length*es)).drop (k*es+es):=by
   apply Bx;intro j;simp only[Au,An,B6,Ab,At,B5];have hm1:min (k*es) (min (elems.length*es) (vs.length-base))=k*es:=by omega
   have hm2:min (base+k*es+fo) vs.length=base+k*es+fo:=by omega
   have hm3:min fo es=fo:=by omega
   have hm4:min es (vs.length-(base+k*es))=es:=by omega
   simp only[hm1,hm2,hm3,hm4,hnl];by_cases c1:j<k*es
   ·have J:j<elems.length*es:=by omega
    have a2:base+j<base+k*es+fo:=by omega
    have a3:base+j<base+k*es+fo+cs.length:=by omega
    have a4:j<k*es+(fo+cs.length+(es-(fo+cs.length))):=by omega
    simp[c1,J,a2,a3,a4]
   ·by_cases c2:j<k*es+fo
    ·have J:j<elems.length*es:=by omega
     have a2:base+j<base+k*es+fo:=by omega
     have a3:base+j<base+k*es+fo+cs.length:=by omega
     have a4:j<k*es+(fo+cs.length+(es-(fo+cs.length))):=by omega
     have a5:j-k*es<fo+cs.length:=by omega
     have a6:j-k*es<fo:=by omega
     have a7:j-k*es<es:=by omega
     simp[c1,J,a2,a3,a4,a5,a6,a7,show base+k*es+(j-k*es)=base+j by omega]
    ·by_cases c3:j<k*es+fo+cs.length
     ·have J:j<elems.length*es:=by omega
      have a2:¬base+j<base+k*es+fo:=by omega
      have a3:base+j<base+k*es+fo+cs.length:=by omega
      have a4:j<k*es+(fo+cs.length+(es-(fo+cs.length))):=by omega
      have a5:j-k*es<fo+cs.length:=by omega
      have a6:¬j-k*es<fo:=by omega
      simp[c1,J,a2,a3,a4,a5,a6,show base+j-(base+k*es+fo)=j-k*es-fo by omega]
     ·by_cases c4:j<k*es+es
      ·have J:j<elems.length*es:=by omega
       have a3:¬base+j<base+k*es+fo+cs.length:=by omega
       have a4:j<k*es+(fo+cs.length+(es-(fo+cs.length))):=by omega
       have a5:¬j-k*es<fo+cs.length:=by omega
       have a6:fo+cs.length+(j-k*es-(fo+cs.length))<es:=by omega
       simp[c1,J,a3,a4,a5,a6,show base+k*es+fo+cs.length+(base+j-(base+k*es+fo+cs.length))=base+j by omega,show base+k*es+(fo+cs.length+(j-k*es-(fo+cs.length)))=base+j by omega]
      ·have a3:¬base+j<base+k*es+fo+cs.length:=by omega
       have a4:¬j<k*es+(fo+cs.length+(es-(fo+cs.length))):=by omega
       by_cases c5:j<elems.length*es
       ·have a5:k*es+es+(j-(k*es+(fo+cs.length+(es-(fo+cs.length)))))<elems.length*es:=by omega
        simp[a3,a4,c5,a5,show base+k*es+fo+cs.length+(base+j-(base+k*es+fo+cs.length))=base+j by omega,show base+(k*es+es+(j-(k*es+(fo+cs.length+(es-(fo+cs.length))))))=base+j by omega]
       ·have a5:¬k*es+es+(j-(k*es+(fo+cs.length+(es-(fo+cs.length)))))<elems.length*es:=by omega
        simp[a4,c5,a5]
  rw[e1];show cB S _ (((vs.take (base+k*es+fo)++news++vs.drop (base+k*es+fo+news.length)).drop base).take (elems.length*es));rw[e2];exact((g5.take (k*es)).append (((Z.take fo).append Y).append (Z.drop (fo+cs.length)))).append (g5.drop (k*es+es))
 ·--what stays is not touched
  by_cases hb:base≤o
  ·rw[g6 rfl o hb] at e;cases e
  ·obtain⟨vs0,t0,fr0,q1,q2⟩:=hs.inv.holds.1 b o v e;rw[g1] at q1;cases q1;refine⟨_,_,_,rfl,?_⟩;simp only[List.getElem?_toArray] at q2 ⊢;have hlt:o<vs.length:=(τ.1 q2).1
   rw[A0,Be (by simp;omega),Au,ξ (by omega)];exact q2
theorem zW (b off k:Nat):(⟨b,off,none⟩:Addr).add k=⟨b,off+k,none⟩:=Addr.add_mid b off k
theorem j9 {t I:TypeId}{i J:TI}{fs:List (Nat×TypeId)}{f q:Nat}(O:Tok P T) (hi:T[t]?=some (some i)) (hk:i.k=.st fs) (hf:fs[f]?=some (q,I)) (W:T[I]?=some (some J)) (Y:J.size≠0) (w:World) (b off:Nat):
  (Instr.fieldAt t (.pointer (some ⟨b,off,none⟩)) f).run P w=.ok (.pointer (some ⟨b,off+q,none⟩)) w:=by
 obtain⟨fields,h1,h2⟩:=(O.get hi).struct hk;rw[h2] at hf;simp only[Bo,Bp,Array.getElem?_toList] at hf;obtain⟨fl,h3,h4⟩:=hf;cases h4;simp only[Instr.fieldAt,Ag,Ap h1 w,ω,h3,Instr.sureAddr,Ai,fieldPlace,(O.get W).size_run w];simp[Y,zW]
theorem aJf {t I:TypeId}{i J:TI}{fs:List (Nat×TypeId)}{f q:Nat}{x:Operand}{id off:Nat}(Z:Tok P T) (ho:o.op=.fieldAddr t x f) (hd:o.dst=some d) (O:d<n) (hi:T[t]?=some (some i)) (hk:i.k=.st fs) (hf:fs[f]?=some (q,I)) (W:T[I]?=some (some J)) (hz:J.size≠0)
  (hx:opv st x=some (.one (.vp id off))):Step P n o st ⟨opr x,[]⟩ ⟨some (d,some (.one (.vp id (off+q)))),[]⟩:=by
 refine Step.value hd O fun st' ha G S μ a w hs=>?_
 have Y:=aQ hs hx ha.1;simp only[aZ,b9] at Y;obtain⟨t',cells',b,c,h1,h2,h3⟩:=Y;refine⟨.pointer (some ⟨b,off+q,none⟩),?_,?_⟩
 ·simp only[execOp,ho,h3,Ag,j9 Z hi hk hf W hz,ω,Ai]
 ·simp only[aZ,b9];exact⟨t',cells',b,c,h1,h2,rfl⟩
theorem aJh {t I:TypeId}{i J:TI}{fs:List (Nat×TypeId)}{f q:Nat}{x:Operand}{l:List C}(hT:Tok P T) (ho:o.op=.fieldAddr t x f) (hd:o.dst=some d) (O:d<n) (hi:T[t]?=some (some i)) (hk:i.k=.st fs) (hf:fs[f]?=some (q,I)) (W:T[I]?=some (some J)) (hz:J.size≠0)
  (hx:opv st x=some (.one (.c (.pt l)))):Step P n o st ⟨opr x,[]⟩ ⟨some (d,some (.one (.c (.pt (l.drop q))))),[]⟩:=by
 refine Step.value hd O fun st' ha G S μ a w hs=>?_
 have Y:=aQ hs hx ha.1;simp only[aZ,b9,Rep] at Y;obtain⟨b,off,h1,vs,h2,h3⟩:=Y;refine⟨.pointer (some ⟨b,off+q,none⟩),?_,?_⟩
 ·simp only[execOp,ho,h1,Ag,j9 hT hi hk hf W hz,ω,Ai]
 ·simp only[aZ,b9,Rep];refine⟨b,off+q,rfl,vs.drop q,h2.drop q,fun j v Z=>?_⟩;rw[An] at Z;have:=h3 (q+j) v Z;rwa [←Ci] at this
theorem aJi {t O:TypeId}{i W:TI}{fs:List (Nat×TypeId)}{f q:Nat}{x:Operand}{id k fo sz:Nat}(hT:Tok P T) (ho:o.op=.fieldAddr t x f) (hd:o.dst=some d) (Y:d<n) (hi:T[t]?=some (some i)) (hk:i.k=.st fs) (hf:fs[f]?=some (q,O)) (Z:T[O]?=some (some W)) (hz:W.size≠0)
  {te es:Nat} {elems:List (List C)} {fz:Nat} (hx:opv st x=some (.one (.ep id k fo sz))) (hh:st.h id=some (.arr te es elems fz)) (aa:sz=elems.length):Step P n o st ⟨opr x,[id]⟩ ⟨some (d,some (.one (.ep id k (fo+q) sz))),[]⟩:=by
 refine Step.value hd Y fun st' ha G S μ a w hs=>?_
 have I:=aQ hs hx ha.1;have J:st'.h id=some (.arr te es elems fz):=by rw[ha.2 id (by simp),hh]
 simp only[aZ,b9] at I;obtain⟨_,I | ⟨te',es',elems',fz',h1,h2,h3⟩⟩:=I
 ·rw[J] at I;cases I
 rw[J] at h1;cases h1;obtain⟨h4,b,base,cap,h5,h6⟩:=h3 aa;refine⟨.pointer (some ⟨b,base+k*es+fo+q,none⟩),?_,?_⟩
 ·simp only[execOp,ho,h6,Ag,j9 hT hi hk hf Z hz,ω,Ai]
 ·simp only[aZ,b9];exact⟨⟨_,rfl⟩,.inr ⟨te,es,elems,fz,J,h2,fun _=>⟨h4,b,base,cap,h5,by rw[Ci]⟩⟩⟩
theorem kU {t e:TypeId}{i ei:TI}(q:Tok P T) (hi:T[t]?=some (some i)) (hk:i.k=.sl e) (I:T[e]?=some (some ei)) (w:World) (b off len cap k:Nat) (kk:IntKind) (J:k<len):
  (Instr.indexAt t (.slice (some ⟨b,off,none⟩) len cap) (.int kk (k:Int))).run P w=.ok (.pointer (some ⟨b,off+k*ei.size,none⟩)) w:=by
 have h1:=(q.get hi).slice hk;simp only[Instr.indexAt,asIntOf,Ag,Ai,ω,Ap h1 w];rw[ξ ⟨by omega,by omega⟩];simp only[Ag,(q.get I).size_run w,ω,Ai,Int.toNat_natCast,zW]
theorem aW7 {t e:TypeId}{i ei:TI}{x y:Operand}{es k:Nat}{kk:IntKind}{m:Int}{l:List (List C)}{r:List C}(hT:Tok P T) (ho:o.op=.indexAddr t x y) (hd:o.dst=some d) (J:d<n) (hi:T[t]?=some (some i)) (hk:i.k=.sl e) (O:T[e]?=some (some ei)) (W:ei.size=es)
  (hx:opv st x=some (.one (.c (.sl es l)))) (hy:opv st y=some (I kk m)) (hm:m=(k:Int)) (Y:l[k]?=some r):Step P n o st ⟨opr x++opr y,[]⟩ ⟨some (d,some (.one (.c (.pt r)))),[]⟩:=by
 refine Step.value hd J fun st' ha G S μ a w hs=>?_
 have Z:=aQ hs hx (eI ha).1;have aa:=fN (aQ hs hy (eI ha).2);have hlt:k<l.length:=(τ.1 Y).1
 simp only[aZ,b9,Rep] at Z;obtain⟨q,len,cap,h1,h2,h3,h4,h5,h6,b,off,h7,h8⟩:=Z;cases q with
 | none=>have:=(h5 rfl).1;omega
 | some q=>
  obtain⟨h9,h10⟩:=h7 q rfl;have h11:=h6 q rfl (by omega);have ab:q=⟨b,off,none⟩:=by cases q;simp_all
  subst ab;subst hm;obtain⟨q1,vs,q2,q3⟩:=h8.get k r Y;refine⟨.pointer (some ⟨b,off+k*es,none⟩),?_,?_⟩
  ·simp only[execOp,ho,h1,aa,Ag,kU hT hi hk O w b off len cap k kk (by omega),ω,Ai,W]
  ·simp only[aZ,b9,Rep];exact⟨b,off+k*es,rfl,vs,q2,q3⟩
theorem w7 {t e:TypeId}{i ei:TI}{x y:Operand}{te es k id off len sz:Nat}{kk:IntKind}{m:Int}{elems:List (List C)}{fz:Nat}(hT:Tok P T) (ho:o.op=.indexAddr t x y) (hd:o.dst=some d) (Y:d<n) (hi:T[t]?=some (some i)) (hk:i.k=.sl e) (Z:T[e]?=some (some ei)) (aa:ei.size=es)
  (hx:opv st x=some (.one (.hs id off len sz))) (hh:st.h id=some (.arr te es elems fz)) (O:sz=elems.length) (hy:opv st y=some (I kk m)) (hm:m=(k:Int)) (ab:k<len):Step P n o st ⟨opr x++opr y,[id]⟩ ⟨some (d,some (.one (.ep id (off+k) 0 sz))),[]⟩:=by
 refine Step.value hd Y fun st' ha G S μ a w hs=>?_
 have q:=aQ hs hx fun t ht=>ha.1 t (by simp[ht])
 have ac:=fN (aQ hs hy fun t ht=>ha.1 t (by simp[ht]));have J:st'.h id=some (.arr te es elems fz):=by rw[ha.2 id (by simp),hh]
 simp only[aZ,b9] at q;obtain⟨_,q | ⟨te',es',elems',fz',h1,h2,h3⟩⟩:=q
 ·rw[J] at q;cases q
 rw[J] at h1;cases h1;obtain⟨h4,⟨h5,W,h7⟩ | ⟨b,base,cap,h5,W⟩⟩:=h3 O
 ·subst W;simp at O;omega
 subst hm;refine⟨.pointer (some ⟨b,base+(off+k)*es+0,none⟩),?_,?_⟩
 ·simp only[execOp,ho,W,ac,Ag,kU hT hi hk Z w b (base+off*es) len _ k kk ab,ω,Ai,aa,B0];rw[show base+off*es+k*es=base+(off+k)*es by rw[Av];omega]
 ·simp only[aZ,b9];exact⟨⟨_,rfl⟩,.inr ⟨te,es,elems,fz,J,h2,fun _=>⟨by omega,b,base,cap,h5,rfl⟩⟩⟩
theorem aAs {t e:TypeId}{m:Nat}{i ei:TI}(q:Tok P T) (hi:T[t]?=some (some i)) (hk:i.k=.ar m e) (I:T[e]?=some (some ei)) (w:World) (b off k:Nat) (kk:IntKind) (J:k<m):
  (Instr.indexAt t (.pointer (some ⟨b,off,none⟩)) (.int kk (k:Int))).run P w=.ok (.pointer (some ⟨b,off+k*ei.size,none⟩)) w:=by
 have h1:=(q.get hi).array hk;have h2:(Instr.sureAddr (.pointer (some ⟨b,off,none⟩))).run P w=.ok ⟨b,off,none⟩ w:=by simp[Instr.sureAddr]
 simp only[Instr.indexAt,asIntOf,Ag,Ai,ω,Ap h1 w,h2];rw[ξ ⟨by omega,by omega⟩];simp only[Ag,(q.get I).size_run w,ω,Ai,Int.toNat_natCast,zW]
theorem aEa {t e:TypeId}{i ei:TI}{x y:Operand}{id off k m:Nat}{kk:IntKind}{q:Int}(hT:Tok P T) (ho:o.op=.indexAddr t x y) (hd:o.dst=some d) (J:d<n) (hi:T[t]?=some (some i)) (hk:i.k=.ar m e) (O:T[e]?=some (some ei))
  (hx:opv st x=some (.one (.vp id off))) (hy:opv st y=some (I kk q)) (hm:q=(k:Int)) (W:k<m):Step P n o st ⟨opr x++opr y,[]⟩ ⟨some (d,some (.one (.vp id (off+k*ei.size)))),[]⟩:=by
 refine Step.value hd J fun st' ha G S μ a w hs=>?_
 have Y:=aQ hs hx (eI ha).1;have Z:=fN (aQ hs hy (eI ha).2);simp only[aZ,b9] at Y;obtain⟨t',cells',b,c,h1,h2,h3⟩:=Y;subst hm;refine⟨.pointer (some ⟨b,off+k*ei.size,none⟩),?_,?_⟩
 ·simp only[execOp,ho,h3,Z,Ag,aAs hT hi hk O w b off k kk W,ω,Ai]
 ·simp only[aZ,b9];exact⟨t',cells',b,c,h1,h2,rfl⟩
def notNil:V→Bool
 | .one (.vp _ _)=>true
 | .one (.c (.pt _))=>true
 | .one (.pas _)=>true
 | _=>false
theorem aJa {x:Operand}{y:V}(J:o.op=.nilCheck x) (hd:o.dst=some d) (O:d<n) (hx:opv st x=some y) (I:notNil y=true):Step P n o st ⟨opr x,[]⟩ ⟨some (d,some y),[]⟩:=by
 refine Step.value hd O fun st' ha G S μ a w hs=>⟨a.eval x,?_,aQ hs hx ha.1⟩
 have q:=aQ hs hx ha.1;unfold notNil at I;split at I
 ·simp only[aZ,b9] at q;obtain⟨t',cells',b,c,h1,h2,h3⟩:=q;simp[execOp,J,h3]
 ·simp only[aZ,b9,Rep] at q;obtain⟨b,off,h1,_⟩:=q;simp[execOp,J,h1]
 ·simp only[aZ,b9] at q;obtain⟨b,off,h1,_⟩:=q;simp[execOp,J,h1]
 ·cases I
theorem kT {t:TypeId}{x:Operand}{a:Act}{w:World}{u:Value}{m:Int}(q:o.op=.call { callee:=.builtin .len,args:= #[x],argTypes:= #[t] }) (hx:a.eval x=u) (I:(Builtin.len_ #[t] o.type #[u]).run P w=.ok (goInt m) w):
  (execOp a.eval o).run P w=.ok (.value (goInt m)) w:=by
 simp only[execOp,q,resolve,map_toArray,Al,Bj,hx,Ag,Ai,ω,invoke,builtin,I]
theorem aR1 {t e:TypeId}{i:TI}{x:Operand}{es:Nat}{l:List (List C)}(O:Tok P T) (W:o.op=.call { callee:=.builtin .len,args:= #[x],argTypes:= #[t] }) (hd:o.dst=some d) (q:d<n) (hi:T[t]?=some (some i)) (hk:i.k=.sl e)
  (hx:opv st x=some (.one (.c (.sl es l)))):Step P n o st ⟨opr x,[]⟩ ⟨some (d,some (I .i64 (l.length:Int))),[]⟩:=by
 refine Step.value hd q fun st' ha G S μ a w hs=>?_
 have J:=aQ hs hx ha.1;simp only[aZ,b9,Rep] at J;obtain⟨Y,len,cap,h1,h2,_⟩:=J;refine⟨goInt l.length,kT W h1 ?_,by simp[aZ,b9,Rep,goInt]⟩;simp[Builtin.len_,Ap ((O.get hi).slice hk) w,h2]
theorem aR3 {t e:TypeId}{i:TI}{x:Operand}(O:Tok P T) (W:o.op=.call { callee:=.builtin .len,args:= #[x],argTypes:= #[t] }) (hd:o.dst=some d) (q:d<n) (hi:T[t]?=some (some i)) (hk:i.k=.sl e)
  (hx:opv st x=some (.one (.c .nl))):Step P n o st ⟨opr x,[]⟩ ⟨some (d,some (I .i64 0)),[]⟩:=by
 refine Step.value hd q fun st' ha G S μ a w hs=>?_
 have J:=aQ hs hx ha.1;simp only[aZ,b9,Rep] at J;refine⟨goInt 0,kT W J ?_,by simp[aZ,b9,Rep,goInt]⟩;simp[Builtin.len_,Ap ((O.get hi).slice hk) w]
theorem aG1 {t e:TypeId}{i:TI}{x:Operand}{te es id off len sz:Nat}{elems:List (List C)}{fz:Nat}(Y:Tok P T) (Z:o.op=.call { callee:=.builtin .len,args:= #[x],argTypes:= #[t] }) (hd:o.dst=some d) (aa:d<n) (hi:T[t]?=some (some i)) (hk:i.k=.sl e)
  (hx:opv st x=some (.one (.hs id off len sz))) (hh:st.h id=some (.arr te es elems fz)) (J:sz=elems.length):Step P n o st ⟨opr x,[id]⟩ ⟨some (d,some (I .i64 (len:Int))),[]⟩:=by
 refine Step.value hd aa fun st' ha G S μ a w hs=>?_
 have q:=aQ hs hx ha.1;have O:st'.h id=some (.arr te es elems fz):=by rw[ha.2 id (by simp),hh]
 simp only[aZ,b9] at q;obtain⟨_,q | ⟨te',es',elems',fz',h1,h2,h3⟩⟩:=q
 ·rw[O] at q;cases q
 rw[O] at h1;cases h1;obtain⟨h4,⟨h5,W,h7⟩ | ⟨b,base,cap,h5,W⟩⟩:=h3 J
 ·subst W;simp at J;have ab:len=0:=by omega
  refine⟨goInt len,kT Z h7 ?_,by simp[aZ,b9,Rep,goInt]⟩;simp[Builtin.len_,Ap ((Y.get hi).slice hk) w,ab]
 ·refine⟨goInt len,kT Z W ?_,by simp[aZ,b9,Rep,goInt]⟩;simp[Builtin.len_,Ap ((Y.get hi).slice hk) w]
theorem aMc {t:TypeId}{i:TI}{x:Operand}{s:List UInt8}(J:Tok P T) (O:o.op=.call { callee:=.builtin .len,args:= #[x],argTypes:= #[t] }) (hd:o.dst=some d) (q:d<n) (hi:T[t]?=some (some i)) (hk:i.k=.str)
  (hx:opv st x=some (Go.AM.T s)):Step P n o st ⟨opr x,[]⟩ ⟨some (d,some (I .i64 (s.length:Int))),[]⟩:=by
 refine Step.value hd q fun st' ha G S μ a w hs=>?_
 have W:=kX (aQ hs hx ha.1);refine⟨goInt s.length,kT O W ?_,by simp[aZ,b9,Rep,goInt]⟩;simp[Builtin.len_,Ap ((J.get hi).str hk) w];rfl
end
section
variable {P:Program}{n:Nat}{o:Oper}{st:St}{d:Nat}{T:TT}
theorem p9 (off:Nat):∀(vs:List Value) (j:Nat) (cells:Array Value),off+j+vs.length≤cells.size→
  (vs.zipIdx j).foldl (fun cs (x:Value×Nat)=>cs.setIfInBounds (off+x.2) x.1) cells=⟨bX cells.toList (off+j) vs⟩
 | [],j,cells,_=>by simp[bX]
 | v::vs,j,cells,h=>by
  simp only[Am] at h;have Y:=p9 off vs (j+1) (cells.setIfInBounds (off+j) v) (by simp;omega);simp only[List.zipIdx_cons,Ck,Y];congr 1;unfold bX;simp only[Array.toList_setIfInBounds];apply Bx;intro k;simp only[B6,Ab,At,Cd,Bd,Am,Au,An,List.getElem?_set];have J:min (off+(j+1)) cells.size=off+j+1:=by omega
  have O:min (off+j) cells.size=off+j:=by omega
  simp only[J,O];by_cases c1:k<off+j
  ·have q:k<off+j+1+vs.length:=by omega
   have a2:k<off+j+1:=by omega
   have a3:k<off+(j+1):=by omega
   have a4:k<off+j+(vs.length+1):=by omega
   have a5:¬off+j=k:=by omega
   simp[c1,q,a2,a3,a4,a5]
  ·by_cases c2:k=off+j
   ·subst c2;have q:off+j<off+j+1+vs.length:=by omega
    have a5:off+j<cells.size:=by omega
    have I:off+j<off+(j+1):=by omega
    simp[q,a5,I]
   ·by_cases W:k<off+j+1+vs.length
    ·have a2:¬k<off+j+1:=by omega
     have a4:k<off+j+(vs.length+1):=by omega
     have I:k-(off+j)=(k-(off+j+1))+1:=by omega
     simp[c1,W,a2,a4,I]
    ·have a4:¬k<off+j+(vs.length+1):=by omega
     have a5:¬off+j=k:=by omega
     simp[W,a4,a5,show off+(j+1)+vs.length+(k-(off+j+1+vs.length))=k by omega,show off+j+(vs.length+1)+(k-(off+j+(vs.length+1)))=k by omega]
def qV (st:St):List (Nat×Operand)→Option (List (Nat×List R))
 | []=>some []
 | (i,x)::ps=>match opv st x with
  | some v=>match iV v with
   | some rs=>match qV st ps with | some l=>some ((i,rs)::l) | none=>none
   | none=>none
  | none=>none
def iB:List (Nat×Operand)→List Nat
 | []=>[]
 | (_,x)::ps=>opr x++iB ps
def aJy (places:List (Nat×Nat)):List R→List (Nat×List R)→Option (List R)
 | cells,[]=>some cells
 | cells,(i,rs)::ps=>match places[i]? with
  | some (off,size)=>if Nat.beq rs.length size&&Nat.ble (off+rs.length) cells.length then aJy places (bX cells off rs) ps else none
  | none=>none
def mC (T:TT):List (Nat×TypeId)→Option (List (Nat×Nat))
 | []=>some []
 | (off,t)::fs=>match T[t]? with
  | some (some i)=>match mC T fs with | some l=>some ((off,i.size)::l) | none=>none
  | _=>none
theorem aJl {G:Ctx}{S:Sto}{μ:Mu}{st':St}{a:Act}{w:World}(hs:Sim G n S μ st' a w):∀(ps:List (Nat×Operand)) (l:List (Nat×List R)),qV st ps=some l→(∀t∈iB ps,st'.e t=st.e t)→
  ∃vs:List (Nat×Value),ps.map (fun(i,x)=>(i,a.eval x))=vs∧vs.length=l.length∧∀(k:Nat) (p:Nat×List R),l[k]?=some p→∃v:Value,vs[k]?=some (p.1,v)∧aW S μ st'.h p.2 v.cells.toList:=by
 intro ps
 induction ps with
 | nil=>intro l h _;simp[qV] at h;subst h;exact⟨[],rfl,rfl,fun k p h=>by simp at h⟩
 | cons p ps O=>
  obtain⟨i,x⟩:=p;intro l h ha;simp only[qV] at h;split at h
  ·rename_i v W;split at h
   ·rename_i rs hc;split at h
    ·rename_i l' J;cases h;obtain⟨vs,h1,h2,h3⟩:=O l' J fun t ht=>ha t (by simp[iB,ht])
     refine⟨(i,a.eval x)::vs,by simp[h1],by simp[h2],fun k q I=>?_⟩;cases k with
     | zero=>
      simp at I;subst I;exact⟨a.eval x,rfl,eG (aQ hs W fun t ht=>ha t (by simp[iB,ht])) hc⟩
     | succ k=>simp at I;simpa using h3 k q I
    ·cases h
   ·cases h
  ·cases h
theorem pW {S:Sto}{μ:Mu}{H:cK}{cells rs:List R}{vs us:List Value}{off:Nat}(h:aW S μ H cells vs) (k:aW S μ H rs us):aW S μ H (bX cells off rs) (bX vs off us):=by
 have hl:=k.length;unfold bX;rw[hl];exact((h.take off).append k).append (h.drop _)
theorem aOz {S:Sto}{μ:Mu}{H:cK}{places:List (Nat×Nat)}:∀(ps:List (Nat×List R)) (vs:List (Nat×Value)) (cells:List R) (cs:Array Value) (out:List R),aJy places cells ps=some out→aW S μ H cells cs.toList→
  vs.length=ps.length→(∀(k:Nat) (p:Nat×List R),ps[k]?=some p→∃v:Value,vs[k]?=some (p.1,v)∧aW S μ H p.2 v.cells.toList)→
  ∃I,Instr.fill (places[·]?) cs vs=some I∧aW S μ H out I.toList:=by
 intro ps
 induction ps with
 | nil=>
  intro vs cells cs out h O hl _;simp at hl;subst hl;simp[aJy] at h;subst h;exact⟨cs,rfl,O⟩
 | cons p ps ih=>
  intro vs cells cs out h O hl hp;obtain⟨i,rs⟩:=p
  match vs,hl with
  | q::vs,hl=>
   obtain⟨v,Z,J⟩:=hp 0 (i,rs) rfl;simp at Z;subst Z;simp only[aJy] at h;split at h
   ·rename_i off size aa;split at h
    ·rename_i hc;simp only[ε] at hc;have hc1:=Ac hc.1;have hc2:=Aq hc.2;have ab:=J.length;have ac:=O.length;simp only[Bd] at ab ac;have Y:=p9 off v.cells.toList 0 cs (by simp;omega);obtain⟨I,h1,h2⟩:=ih vs (bX cells off rs) ⟨bX cs.toList off v.cells.toList⟩ out h (pW O J) (by simpa using hl) fun k p hk=>by simpa using hp (k+1) p (by simpa using hk)
     refine⟨I,?_,h2⟩;simp only[Instr.fill];rw[aa];simp only[];have W:(v.cells.size≠size || decide (off+v.cells.size>cs.size))=false:=by
      simp only[Cw,B7];exact⟨by simp;omega,by omega⟩
     simp only[W,Bc,B3];have ad:(v.cells.zipIdx.foldl (fun cs (x:Value×Nat)=>cs.setIfInBounds (off+x.2) x.1) cs)=⟨bX cs.toList off v.cells.toList⟩:=by
      rw[←Array.foldl_toList,Array.toList_zipIdx];simpa using Y
     rw[←h1];congr 1
    ·cases h
   ·cases h
theorem wA (I:Tok P T):∀(fs:List (Nat×TypeId)) (fields:List Field) (places:List (Nat×Nat)),fs=fields.map (fun f=>(f.offset,f.type))→mC T fs=some places→
  fields.mapM (fun f=>(P.info? f.type).map fun i=>(f.offset,i.size))=some places
 | _,[],places,h,hp=>by simp at h;subst h;simp[mC] at hp;subst hp;rfl
 | _,f::fields,places,h,hp=>by
  simp only[Al] at h;subst h;simp only[mC] at hp;split at hp
  ·rename_i i hi;split at hp
   ·rename_i l hl;cases hp;have O:=wA I _ fields l rfl hl;have q:=(I.get hi).info;simp only[List.mapM_cons,O];cases J:P.info? f.type with
    | none=>simp[J] at q
    | some inf=>
     simp[J] at q;simp[q]
   ·cases hp
  ·cases hp
theorem aXc {t:TypeId}{i:TI}{fs:List (Nat×TypeId)}{places:List (Nat×Nat)}{parts:Array (Nat×Operand)}{ps:List (Nat×List R)}{out:List R}(I:Tok P T) (Z:o.op=.build t parts) (hd:o.dst=some d) (J:d<n) (hi:T[t]?=some (some i)) (hk:i.k=.st fs)
  (O:mC T fs=some places) (W:qV st parts.toList=some ps) (hf:aJy places (i.zero.map R.c) ps=some out):Step P n o st ⟨iB parts.toList,[]⟩ ⟨some (d,some (aZ5 out)),[]⟩:=by
 refine Step.value hd J fun st' ha G S μ a w hs=>?_
 obtain⟨vs,h1,h2,h3⟩:=aJl hs _ _ W ha.1;obtain⟨fields,hu,Y⟩:=(I.get hi).struct hk;obtain⟨inf,dd,z,g1,g2,g3,g4,g5,g6,g7,g8⟩:=(I.get hi).ex;obtain⟨q,h4,h5⟩:=aOz (S:=S) (μ:=μ) (H:=st'.h) ps vs (i.zero.map R.c) z.cells out hf (iJ g7).toR h2 h3;refine⟨.agg q,?_,?_⟩
 ·have hb:P.built t (parts.map fun(i,x)=>(i,a.eval x)).toList=some q:=by
   unfold Program.built;simp only[g1,hu,g6,wA I fs fields.toList places Y O];rw[←h4,←h1];simp
  simp only[execOp,Z,Ag,run_build w t _ q hb,ω,Ai]
 ·have:=aIy h5;simpa using this
theorem aW8 {t ft:TypeId}{i I:TI}{fs:List (Nat×TypeId)}{f J:Nat}{x:Operand}{v y:V}{rs:List R}(W:Tok P T) (ho:o.op=.field t x f) (hd:o.dst=some d) (hdn:d<n) (hi:T[t]?=some (some i)) (hk:i.k=.st fs) (hf:fs[f]?=some (J,ft)) (O:T[ft]?=some (some I))
  (hx:opv st x=some v) (hag:(match v with | .pa _=>true | .ma _=>true | _=>false)=true) (hc:iV v=some rs) (hl:Nat.ble (J+I.size) rs.length=true) (hy:rB I ((rs.drop J).take I.size)=some y):Step P n o st ⟨opr x,[]⟩ ⟨some (d,some y),[]⟩:=by
 refine Step.value hd hdn fun st' ha G S μ a w hs=>?_
 have Y:=aQ hs hx ha.1;have q:=eG Y hc;have ab:∃cs,a.eval x=.agg cs:=by
  cases v<;>simp only[aZ] at Y<;>simp at hag
  ·obtain⟨vs,h,_⟩:=Y;exact⟨_,h⟩
  ·obtain⟨vs,h,_⟩:=Y;exact⟨_,h⟩
 obtain⟨cs,Z⟩:=ab;rw[Z] at q;simp only[Value.cells] at q;have hll:=q.length;have hl':=Aq hl;simp only[Bd] at hll;obtain⟨fields,h1,h2⟩:=(W.get hi).struct hk;rw[h2] at hf;simp only[Bo,Bp,Array.getElem?_toList] at hf;obtain⟨fl,h3,h4⟩:=hf;cases h4;have ac:=mJ ((q.drop fl.offset).take I.size) hy;refine⟨_,?_,ac⟩;simp only[execOp,ho,Z,Ag,Instr.field,Ap h1 w,ω,h3,asAgg,Ai,part,(W.get O).agg_run w];cases hka:I.k.agg with
 | true=>
  simp only[Ct,Ag,(W.get O).size_run w,ω,Ai];congr 3;have:(cs.extract fl.offset (fl.offset+I.size)).toList=(cs.toList.drop fl.offset).take I.size:=by simp
  rw[←this]
 | false=>
  have h1s:=(W.get O).one hka;simp only[Bc,B3];have aa:fl.offset<cs.size:=by omega
  have he:cs[fl.offset]?=some cs[fl.offset]:=by simp[aa]
  rw[he];simp only[Ai,ω];congr 2;rw[h1s,List.take_one,List.head?_drop];simp[aa]
end
inductive Cle:C→C→Prop
 | refl {x}:Cle x x
 | nl {es}:Cle .nl (.sl es [])
 | sn {es l}:Cle (.sn es l) (.sl es l)
 | sg {te es l}:Cle (.sg te es l) (.sl es l)
theorem Cle.rep {S:Sto}{x y:C}{v:Value}(h:Cle x y) (k:Rep S x v):Rep S y v:=by
 cases h with
 | refl=>exact k
 | sg=>
  simp only[Rep] at k ⊢;obtain⟨a,len,cap,h1,h2,h3,h4,h5⟩:=k;rcases h5 with⟨rfl,h5,q⟩ | ⟨b,o,rfl,q,_⟩
  ·refine⟨none,len,cap,h1,h2,h3,h4,fun _=>⟨h5,q⟩,by simp,0,0,by simp,?_⟩;have:(_:List (List C)).length=0:=h2.symm.trans h5;rw[Bb this];simp[bJ]
  ·exact⟨some ⟨b,o,none⟩,len,cap,h1,h2,h3,h4,by simp,fun I e _=>by cases e;rfl,b,o,fun I e=>by cases e;exact⟨rfl,rfl⟩,q⟩
 | nl=>
  simp only[Rep] at k ⊢;exact⟨none,0,0,k,by simp,le_refl _,Ak _,fun _=>⟨rfl,rfl⟩,by simp,0,0,by simp,by simp[bJ]⟩
 | sn=>
  simp only[Rep] at k ⊢;obtain⟨b,o,sp,len,cap,h1,h2,h3,h4,J,h5⟩:=k;exact⟨some ⟨b,o,sp⟩,len,cap,h1,h2,h3,h4,by simp,by rintro I ⟨⟩;exact J,b,o,by rintro I ⟨⟩;exact⟨rfl,rfl⟩,h5⟩
inductive PureL (h:cK):List Nat→List R→List C→Prop
 | nil:PureL h [] [] []
 | c {ids rs cs x y}:Cle x y→PureL h ids rs cs→PureL h ids (.c x::rs) (y::cs)
 | hs {ids rs cs id off len sz te es elems e}:h id=some (.arr te es elems 2)→sz=elems.length→e=(elems.drop off).take len→PureL h ids rs cs→PureL h (id::ids) (.hs id off len sz::rs) (.sl es e::cs)
 | any {ids rs cs r}:PureL h ids rs cs→PureL h ids (r::rs) (.any::cs)
 | fn {ids rs cs f}:PureL h ids rs cs→PureL h ids (.clo f []::rs) (.fn f::cs)
 | ras {ids ids' ids0 rs cs n es l fl rows}:ids0=ids'++ids→PureL h ids' l fl→fl=rows.flatten→(∀r∈rows,r.length=es)→rows.length=n→PureL h ids rs cs→PureL h ids0 (.ras n es l::rs) (.sl es rows::cs)
theorem PureL.of_pure {h:cK}:∀{cs:List C},PureL h [] (cs.map R.c) cs
 | []=>.nil
 | _::_=>.c .refl PureL.of_pure
def a1w:List R→List C
 | []=>[]
 | .c x::l=>x::a1w l
 | .clo f []::l=>.fn f::a1w l
 | _::l=>.any::a1w l
theorem PureL.ofA {h:cK}:∀{rs:List R},PureL h [] rs (a1w rs)
 | []=>.nil
 | .c _::_=>.c .refl .ofA
 | .hs ..::_=>.any .ofA
 | .tl ..::_=>.any .ofA
 | .vp ..::_=>.any .ofA
 | .ep ..::_=>.any .ofA
 | .mr ..::_=>.any .ofA
 | .clo _ []::_=>.fn .ofA
 | .clo _ (_::_)::_=>.any .ofA
 | .mth ..::_=>.any .ofA
 | .yl ..::_=>.any .ofA
 | .ra ..::_=>.any .ofA
 | .rp ..::_=>.any .ofA
 | .ras ..::_=>.any .ofA
 | .pas ..::_=>.any .ofA
theorem a2h {S:Sto}{μ:Mu}{H:cK}{w:World}{id off len sz te es:Nat}{elems:List (List C)}{v:Value}(O:mW S μ H w id (.arr te es elems 2)) (hh:H id=some (.arr te es elems 2)) (J:sz=elems.length)
  (q:b9 S μ H (.hs id off len sz) v):Rep S (.sl es ((elems.drop off).take len)) v:=by
 simp only[b9] at q;obtain⟨_,q | ⟨Z,aa,elems',ab,h1,h2,h3⟩⟩:=q
 ·rw[hh] at q;cases q
 rw[hh] at h1;cases h1;obtain⟨h4,⟨h5,I,W⟩ | ⟨b,base,cap,h5,I⟩⟩:=h3 J
 ·subst I;simp only[Rep];exact⟨none,0,0,W,by simp,le_refl _,Ak _,fun _=>⟨rfl,rfl⟩,by simp,0,0,by simp,by simp[bJ]⟩
 ·obtain⟨g0,vs,g1,g2,g3,g4,g5,g6,g7,g8⟩:=O.arr h5;simp only[Rep];have hlen:((elems.drop off).take len).length=len:=by simp;omega
  refine⟨_,len,cap-off,I,hlen.symm,by omega,le_trans (Nat.sub_le _ _) g4.1,by simp,by rintro Y ⟨⟩;exact fun _=>rfl,b,base+off*es,by rintro Y ⟨⟩;exact⟨rfl,rfl⟩,?_⟩;have:=bJ.of_flat g0 g5 (g8 rfl);exact(this.drop off).take len
theorem PureL.rel {S:Sto}{μ:Mu}{H H0:cK}{w:World}:∀{ids:List Nat}{rs:List R}{cs:List C}{vs:List Value},PureL H0 ids rs cs→(∀i∈ids,H i=H0 i)→(∀id o,H id=some o→mW S μ H w id o)→aW S μ H rs vs→cB S cs vs:=by
 intro ids rs cs vs hp
 induction hp generalizing vs with
 | nil=>intro _ _ h;simp only[aW] at h;subst h;simp[cB]
 | c hc _ I=>
  intro hi q h;simp only[aW] at h;obtain⟨v,vs',rfl,h1,h2⟩:=h;simp only[b9] at h1;simp only[cB];exact⟨v,vs',rfl,hc.rep h1,I hi q h2⟩
 | @ras ids ids' ids0 rs cs n es l fl rows J _ O W hn _ Y I=>
  subst J;intro hi q h;simp only[aW] at h;obtain⟨v,vs',rfl,h1,h2⟩:=h;simp only[b9] at h1;simp only[cB];refine⟨v,vs',rfl,?_,I (fun i hh=>hi i (by simp[hh])) q h2⟩;obtain⟨a,cap,g1,g2,g3,g4,g5,g6,b,o,g7,us,g8,g9⟩:=h1;have g10:=Y (fun i hh=>hi i (by simp[hh])) q g8;subst O;simp only[Rep];exact⟨a,n,cap,g1,hn.symm,g3,g4,g5,fun ad e _=>g6 ad e,b,o,g7,bJ.of_flat W g10 g9⟩
 | any _ I=>
  intro hi q h;simp only[aW] at h;obtain⟨v,vs',rfl,h1,h2⟩:=h;simp only[cB];exact⟨v,vs',rfl,by simp only[Rep];exact h1.one,I hi q h2⟩
 | fn _ I=>
  intro hi q h;simp only[aW] at h;obtain⟨v,vs',rfl,h1,h2⟩:=h;simp only[b9,aW] at h1;obtain⟨us,rfl,rfl⟩:=h1;simp only[cB];exact⟨_,vs',rfl,by simp only[Rep],I hi q h2⟩
 | @hs ids rs cs id off len sz te es elems e he Z aa _ I=>
  intro hi q h;simp only[aW] at h;obtain⟨v,vs',rfl,h1,h2⟩:=h;simp only[cB];have hh:H id=some (.arr te es elems 2):=by rw[hi id (by simp),he]
  exact⟨v,vs',rfl,by rw[aa];exact a2h (q id _ hh) hh Z h1,I (fun i h=>hi i (by simp[h])) q h2⟩
inductive RowsV (st:St) (es:Nat):Nat→List Nat→List (Nat×Operand)→List (List C)→Prop
 | nil {k}:RowsV st es k [] [] []
 | cons {k ids ids' x ps v rs cs rows}:opv st x=some v→iV v=some rs→PureL st.h ids rs cs→Nat.beq rs.length es=true→RowsV st es (k+1) ids' ps rows→RowsV st es k (ids++ids') ((k,x)::ps) (cs::rows)
section
variable {P:Program}{n:Nat}{o:Oper}{st:St}{d:Nat}{T:TT}
theorem aI6 {G:Ctx}{S:Sto}{μ:Mu}{st':St}{a:Act}{w:World}(hs:Sim G n S μ st' a w) {es:Nat}:∀{k:Nat}{ids:List Nat}{ps:List (Nat×Operand)}{rows:List (List C)},RowsV st es k ids ps rows→(∀t∈iB ps,st'.e t=st.e t)→(∀i∈ids,st'.h i=st.h i)→
  ∀(cells:Array Value),cells.size=(k+ps.length)*es→∃out:Array Value,Instr.fill (fun i=>some (i*es,es)) cells (ps.map fun(i,x)=>(i,a.eval x))=some out∧out.size=cells.size∧
   ∃us,cB S rows.flatten us∧out.toList=cells.toList.take (k*es)++us∧(∀r∈rows,r.length=es):=by
 intro k ids ps rows h
 induction h with
 | nil=>
  intro _ _ cells hc;refine⟨cells,rfl,rfl,[],by simp[cB],?_,by simp⟩;rw[A8,Ax];simp at hc;simp[hc]
 | @cons k ids ids' x ps v rs cs rows hv hc hp hl _ ih=>
  intro ha hi cells O;have hl':=Ac hl;have q:=eG (aQ hs hv fun t ht=>ha t (by simp[iB,ht])) hc;have I:=hp.rel (fun i h=>hi i (by simp[h])) hs.inv.obj q;have aa:=q.length;simp only[Bd] at aa;simp only[Am] at O;have hke:(k+(ps.length+1))*es=k*es+es+ps.length*es:=by
   rw[Av,Av];omega
  have Y:=p9 (k*es) (a.eval x).cells.toList 0 cells (by simp only[Bd];omega);have W:(bX cells.toList (k*es) (a.eval x).cells.toList).length=cells.size:=by
   unfold bX;simp;omega
  obtain⟨out,h1,h2,us,h3,h4,h5⟩:=ih (fun t ht=>ha t (by simp[iB,ht])) (fun i h=>hi i (by simp[h])) ⟨bX cells.toList (k*es) (a.eval x).cells.toList⟩ (by
   simp only[size_toArray,W,O];congr 1
   omega)
  refine⟨out,?_,by rw[h2];simpa using W,(a.eval x).cells.toList++us,?_,?_,?_⟩
  ·simp only[Al,Instr.fill];have J:((a.eval x).cells.size≠es || decide (k*es+(a.eval x).cells.size>cells.size))=false:=by
    simp only[Cw,B7];exact⟨by simp;omega,by omega⟩
   simp only[J,Bc,B3];have ab:((a.eval x).cells.zipIdx.foldl (fun cs (x:Value×Nat)=>cs.setIfInBounds (k*es+x.2) x.1) cells)=⟨bX cells.toList (k*es) (a.eval x).cells.toList⟩:=by
    rw[←Array.foldl_toList,Array.toList_zipIdx];simpa using Y
   rw[←h1];congr 1
  ·rw[Bk];exact I.append h3
  ·rw[h4];have:(bX cells.toList (k*es) (a.eval x).cells.toList).take ((k+1)*es)=cells.toList.take (k*es)++(a.eval x).cells.toList:=by
    unfold bX;apply take_left';simp;rw[Av];omega
   show(bX cells.toList (k*es) (a.eval x).cells.toList).take ((k+1)*es)++us=_;rw[this,A0]
  ·intro r Z;rcases Ah.1 Z with rfl | Z
   ·have:=I.length;simp only[Bd] at this;omega
   ·exact h5 r Z
theorem RowsV.lengths {es k:Nat}{ids:List Nat}{ps:List (Nat×Operand)}{rows:List (List C)}(h:RowsV st es k ids ps rows):rows.length=ps.length:=by
 induction h with
 | nil=>rfl
 | cons _ _ _ _ _ q=>simp[q]
theorem aL8 {t e:TypeId}{i ei:TI}{len:Nat}{parts:Array (Nat×Operand)}{ids:List Nat}{rows:List (List C)}(id:Nat) (J:Tok P T) (ho:o.op=.buildSlice t len parts) (hd:o.dst=some d) (ad:d<n) (hi:T[t]?=some (some i)) (hk:i.k=.sl e) (q:T[e]?=some (some ei))
  (I:RowsV st ei.size 0 ids parts.toList rows) (hlen:Nat.beq len parts.size=true) (O:Nat.ble (len*ei.size) 16777216=true) (ab:Nat.ble len 16777216=true) (hid:st.h id=none):
  Step P n o st ⟨iB parts.toList,id::ids⟩ ⟨some (d,some (.one (.hs id 0 len len))),[(id,some (.arr e ei.size rows 0))]⟩:=by
 refine Step.new hd ad hid (by simp) fun st' ha hid' G S μ a w hs=>?_
 have Z:=Ac hlen;have hsm:=Aq O;obtain⟨z,hz,ae,_⟩:=(J.get q).zero_run;have aa:=(ae S).length;rw[(J.get q).len] at aa;simp only[Bd] at aa;have ag:=I.lengths;simp only[Bd] at ag;have key:∀(cells:Array Value),cells.size=len*ei.size→∃out:Array Value,Instr.fill (fun i=>some (i*ei.size,ei.size)) cells (parts.map fun(i,x)=>(i,a.eval x)).toList=some out∧out.size=len*ei.size∧cB S rows.flatten out.toList∧(∀r∈rows,r.length=ei.size):=by
  intro cells hc;obtain⟨out,h1,h2,us,h3,h4,h5⟩:=aI6 hs I ha.1 (fun i h=>ha.2 i (by simp[h])) cells (by rw[hc,Z];simp);refine⟨out,by rw[←h1];simp,by rw[h2,hc],?_,h5⟩;simp at h4;rw[h4];exact h3
 have ac:∃out:Array Value,(Instr.buildSlice t len (parts.map fun(i,x)=>(i,a.eval x))).run P w=.ok (.slice (some ⟨w.heap.size,0,none⟩) len len) (w.alloc (.cells out e))∧out.size=len*ei.size∧cB S rows.flatten out.toList∧(∀r∈rows,r.length=ei.size):=by
  by_cases h0:len*ei.size=0
  ·obtain⟨out,h1,h2,h3,h4⟩:=key ((Array.range (len*ei.size)).map ((#[]:Array Value)[· %(#[]:Array Value).size]!)) (by simp);refine⟨out,?_,h2,h3,h4⟩;have W:¬len*ei.size>2^24:=by omega
   simp only[Instr.buildSlice,Ag,Ap ((J.get hi).slice hk) w,ω,(J.get q).size_run w];rw[ψ W,ξ h0];simp only[Ag,ω,Ai,h1,j5]
  ·obtain⟨out,h1,h2,h3,h4⟩:=key ((Array.range (len*ei.size)).map (z.cells[· %z.cells.size]!)) (by simp);refine⟨out,?_,h2,h3,h4⟩;have W:¬len*ei.size>2^24:=by omega
   simp only[Instr.buildSlice,Ag,Ap ((J.get hi).slice hk) w,ω,(J.get q).size_run w];rw[ψ W,ψ h0];simp only[Ag,hz w,ω,Ai,h1,j5]
 obtain⟨out,h1,h2,h3,h4⟩:=ac;have ah:len≤maxLen:=by
  have:=Aq ab;unfold maxLen;omega
 refine⟨_,_,.slice (some ⟨w.heap.size,0,none⟩) len len,(0,len),?_,WChg.alloc w (.cells out e),?_,?_⟩
 ·simp only[execOp,ho,Ag,h1,ω,Ai]
 ·have Y:rows.length=len:=by omega
  refine⟨h4,.inr ⟨w.heap.size,0,len,out.toList,aI _ _ _,Bz w _,by simp[h2],by omega,⟨?_,oT hs.inv⟩,?_,fun _ o _=>fI hs.inv o,fun o _=>fI hs.inv o,fun e=>by cases e⟩⟩
  ·exact ah
  ·simp only[B4];rw[Ax (by simp[h2,Y])];exact h3
 ·simp only[aZ,b9];have Y:rows.length=len:=by omega
  exact⟨⟨_,_,_,rfl⟩,.inr ⟨e,ei.size,rows,0,aI _ _ _,by omega,fun _=>⟨by omega,.inr ⟨w.heap.size,0,len,aI _ _ _,by simp⟩⟩⟩⟩
end
inductive Src (st:St) (es:Nat):List Nat→V→List (List C)→Prop
 | hs {id off len sz te elems fz rows}:st.h id=some (.arr te es elems fz)→sz=elems.length→rows=(elems.drop off).take len→Src st es [id] (.one (.hs id off len sz)) rows
 | all {id sz te elems fz}:st.h id=some (.arr te es elems fz)→sz=elems.length→Src st es [id] (.one (.hs id 0 sz sz)) elems
 | sl {l}:Src st es [] (.one (.c (.sl es l))) l
 | nl:Src st es [] (.one (.c .nl)) []
 | sn {l}:Src st es [] (.one (.c (.sn es l))) l
theorem aBz {α:Type}{es:Nat}:∀{l:List (List α)},(∀r∈l,r.length=es)→∀k:Nat,(l.take k).flatten=l.flatten.take (k*es)
 | [],_,k=>by simp
 | x::xs,hl,0=>by simp
 | x::xs,hl,k+1=>by
  have hx:=hl x (by simp);have q:=aBz (l:=xs) (fun r I=>hl r (by simp[I])) k;rw[A1,Bk,Bk,q,List.take_append,Ax (l:=x) (by rw[hx,Av];omega)];rw[show(k+1)*es-x.length=k*es by rw[hx,Av];omega]
theorem aB0 {α:Type}{es:Nat}:∀{l:List (List α)},(∀r∈l,r.length=es)→∀k:Nat,(l.drop k).flatten=l.flatten.drop (k*es)
 | [],_,k=>by simp
 | x::xs,hl,0=>by simp
 | x::xs,hl,k+1=>by
  have hx:=hl x (by simp);have q:=aB0 (l:=xs) (fun r I=>hl r (by simp[I])) k;rw[C0,Bk,q,drop_append,drop_of_length_le (l:=x) (by rw[hx,Av];omega),A4];rw[show(k+1)*es-x.length=k*es by rw[hx,Av];omega]
theorem bJ.flat {S:Sto}{es b:Nat}:∀{l:List (List C)}{o:Nat},bJ S es b l o→∃vs,cB S l.flatten vs∧gJ S b o vs∧∀r∈l,r.length=es
 | [],_,_=>⟨[],by simp[cB],fun i v h=>by simp at h,by simp⟩
 | r::rs,o,h=>by
  simp only[bJ] at h;obtain⟨h1,⟨vs,h2,h3⟩,h4⟩:=h;obtain⟨us,h5,J,O⟩:=bJ.flat h4;have hl:=h2.length;refine⟨vs++us,by rw[Bk];exact h2.append h5,fun i v hi=>?_,?_⟩
  ·rw[B6] at hi;split at hi
   ·exact h3 i v hi
   ·have:=J _ v hi;rwa [show o+es+(i-vs.length)=o+i by omega] at this
  ·intro q I;rcases Ah.1 I with rfl | I
   ·exact h1
   ·exact O q I
theorem Src.rel {G:Ctx}{n:Nat}{S:Sto}{μ:Mu}{st st':St}{a:Act}{w:World}{es:Nat}{ids:List Nat}{y:V}{rows:List (List C)}{v:Value}(hs:Sim G n S μ st' a w) (h:Src st es ids y rows) (hi:∀i∈ids,st'.h i=st.h i) (q:aZ S μ st'.h y v):
  ∃J c news,v=.slice J rows.length c∧cB S rows.flatten news∧(∀r∈rows,r.length=es)∧(J=none→rows=[])∧∀x,J=some x→∀j u,news[j]?=some u→w.cell? (x.add j)=some u:=by
 have Z:∀{id off len sz te elems fz rows},st.h id=some (.arr te es elems fz)→sz=elems.length→rows=(elems.drop off).take len→(∀i∈[id],st'.h i=st.h i)→aZ S μ st'.h (.one (.hs id off len sz)) v→
   ∃J c news,v=.slice J rows.length c∧cB S rows.flatten news∧(∀r∈rows,r.length=es)∧(J=none→rows=[])∧∀x,J=some x→∀j u,news[j]?=some u→w.cell? (x.add j)=some u:=by
  intro id off len sz te elems fz rows he Y O hi q;have hh:st'.h id=some (.arr te es elems fz):=by rw[hi id (by simp),he]
  simp only[aZ,b9] at q;obtain⟨_,q | ⟨te',es',elems',fz',h1,h2,h3⟩⟩:=q
  ·rw[hh] at q;cases q
  rw[hh] at h1;cases h1;obtain⟨h4,⟨h5,h6,h7⟩ | ⟨b,base,cap,h5,h6⟩⟩:=h3 Y
  ·subst h6;simp at O;subst O;exact⟨none,0,[],h7,by simp[cB],by simp,fun _=>rfl,by simp⟩
  ·obtain⟨g0,vs,g1,g2,g3,g4,g5,g6,g7,g8⟩:=(hs.inv.obj id _ hh).arr h5;have hrl:rows.length=len:=by rw[O];simp;omega
   have hfl:rows.flatten=(elems.flatten.drop (off*es)).take (len*es):=by
    rw[O,aBz (fun r O=>g0 r (Cl O)),aB0 g0]
   refine⟨_,cap-off,_,by rw[hrl];exact h6,by rw[hfl];exact(g5.drop (off*es)).take (len*es),fun r hr'=>g0 r (Cl (Br (O▸hr'))),by simp,?_⟩;rintro x ⟨⟩ j u I;rw[Addr.add_mid,cell_of_row w b _ ⟨vs⟩ te (0,0) g1];rw[Au] at I;split at I
   ·rw[An,Au] at I;split at I
    ·rw[An] at I;simpa [Ci] using I
    ·cases I
   ·cases I
 cases h with
 | hs he Y O=>exact Z he Y O hi q
 | all he Y=>
  subst Y;exact Z he rfl (by simp) hi q
 | sl=>
  simp only[aZ,b9,Rep] at q;obtain⟨J,len,cap,h1,h2,h3,h4,h5,h6,b,off,h7,h8⟩:=q;obtain⟨vs,W,q2,q3⟩:=bJ.flat h8;refine⟨J,cap,vs,by rw[h1,h2],W,q3,fun e=>Bb (by rw[←h2];exact(h5 e).1),?_⟩;rintro x rfl j u I;obtain⟨h9,h10⟩:=h7 x rfl
  have h11:=h6 x rfl (by
   rintro rfl;have hl0:=Bb (show _=0 from Nat.le_zero.1 (h2▸h3));rw[hl0] at W;simp[cB] at W;subst W
   simp at I)
  have hx:x=⟨b,off,none⟩:=by cases x;simp_all
  subst hx;rw[Addr.add_mid];exact hs.inv.holds.cell (q2 j u I)
 | nl=>
  simp only[aZ,b9,Rep] at q;exact⟨none,0,[],q,by simp[cB],by simp,fun _=>rfl,by simp⟩
 | sn=>
  simp only[aZ,b9,Rep] at q;obtain⟨b,off,sp,len,cap,h1,h2,h3,h4,hsp,h8⟩:=q;obtain⟨vs,W,q2,q3⟩:=bJ.flat h8;refine⟨some ⟨b,off,sp⟩,cap,vs,by rw[h1,h2],W,q3,by simp,?_⟩;rintro x ⟨⟩ j u I
  have h11:=hsp (by
   rintro rfl;have hl0:=Bb (show _=0 from Nat.le_zero.1 (h2▸h3));rw[hl0] at W;simp[cB] at W;subst W
   simp at I)
  subst h11;rw[Addr.add_mid];exact hs.inv.holds.cell (q2 j u I)
section
variable {P:Program}{n:Nat}{o:Oper}{st:St}{d:Nat}{T:TT}
theorem lL (w:World) (t ty e:TypeId) (i:TypeInfo) (ht:P.underlying t=some (.slice e)) (hi:P.info? e=some i)
  (g base q I:Nat) (cur:Array Value) (Z:w.heap[g]?=some (.cells cur e (0,0)))
  (a:Addr) (m c:Nat) (news:List Value) (hl:news.length=m*i.size) (J:∀j u,news[j]?=some u→w.cell? (a.add j)=some u) (h1:∀u∈news,u.oneCell'=true)
  (O:q+m≤I) (Y:base+q*i.size+news.length≤cur.size):
  (Builtin.append_ #[t,t] ty #[.slice (some ⟨g,base,none⟩) q I,.slice (some a) m c]).run P w=
   .ok (.slice (some ⟨g,base,none⟩) (q+m) I) (w.setRow g (cur.toList.take (base+q*i.size)++news++cur.toList.drop (base+q*i.size+news.length)).toArray):=by
 have hf:=run_firstCells_some (P:=P) w i.size m a m c news hl J;have W:=run_storeCells_at P g (base+q*i.size) e news 0 cur w Z (by simpa using Y) h1;simp only[B0] at W;simp[Builtin.append_,Ap ht,sizeOf,typeInfo,hi,Builtin.lenOf,O,hf,Addr.add_mid,W]
theorem lY (w:World) (t ty e:TypeId) (i:TypeInfo) (ht:P.underlying t=some (.slice e)) (hi:P.info? e=some i) (s:Option Addr) (O:Option Addr) (q I c:Nat) (J:q≤I):
  (Builtin.append_ #[t,t] ty #[.slice s q I,.slice O 0 c]).run P w=.ok (.slice s q I) w:=by
 cases s<;>cases O<;>simp[Builtin.append_,Ap ht,sizeOf,typeInfo,hi,Builtin.lenOf,J,Builtin.firstCells,loadCells,loadCellsFrom,storeCells]
theorem gM {x y:Operand}{t:TypeId}{a:Act}{w w':World}{u v r:Value}(q:o.op=.call { callee:=.builtin .append,args:= #[x,y],argTypes:= #[t,t] }) (hx:a.eval x=u) (I:a.eval y=v) (J:(Builtin.append_ #[t,t] o.type #[u,v]).run P w=.ok r w'):
  (execOp a.eval o).run P w=.ok (.value r) w':=by
 simp only[execOp,q,resolve,map_toArray,Al,Bj,hx,I,Ag,Ai,ω,invoke,builtin,J]
theorem aOe {y:V}{id te es fz:Nat}{elems elems':List (List C)}(hd:o.dst=some d) (hdn:d<n) (hlen:elems.length≤elems'.length) (I:Nat) {st':St}{G:Ctx}{S:Sto}{μ:Mu}{a:Act}{w:World}{K:Act→World→Prop}{Q:Exit→Act→World→Prop}
    (O:st'.h id=some (.arr te es elems fz)) (hs:Sim G n S μ st' a w) (hk:∀S' μ' a' w',Sim G n S' μ' (Eff.apply ⟨some (d,some y),[(id,some (.arr te es elems' I))]⟩ st') a' w'→K a' w')
    (h:∃w' v,(execOp a.eval o).run P w=.ok (.value v) w'∧
      ((w'=w∧elems'=elems∧(I=fz∨I=1)∧aZ S μ st'.h y v)∨
       (elems.length<elems'.length∧∃b bo c,(w.heap.size≤b∨∃c',μ id=some (b,c'))∧WChg w w' b bo∧mW S (upd μ id (some (b,c))) (upd st'.h id (some (.arr te es elems' I))) w' id (.arr te es elems' I)∧
         (∀o v,S.cell b o=some v→∃vs t fr,bo=.cells vs t fr∧vs[o]?=some v)∧(∀m,S.mapo b=some m→w.heap.size≤b)∧aZ S (upd μ id (some (b,c))) (upd st'.h id (some (.arr te es elems' I))) y v))):
    ∀ro,o.wpIn (Wd ro) 0 P a w K Q:=by
  obtain⟨w',v,hr,Z⟩:=h;refine fun ro=>j1 hr ?_
  rw[hd];rcases Z with⟨rfl,rfl,hfz,hv⟩ | ⟨hlt,b,bo,c,hb,hw,hO,hS,hSm,hv⟩
  · have W:Evolve S μ st'.h S μ (upd st'.h id (some (.arr te es elems' I))):=⟨S.le_refl,fun j x J=>by
      by_cases q:j=id
      · subst q
        rw[O] at J;cases J;exact⟨_,aI _ _ _,by simp[AObj.succ]⟩
      · exact⟨x,by rw[aS _ _ _ q];exact J,x.succ_refl rfl⟩⟩
    have hi:Inv G S μ (upd st'.h id (some (.arr te es elems' I))) w':=by
      obtain⟨h1,h2,h3,h4,h5,h6,h7,h8,h9⟩:=hs.inv;have hold:∀j x,upd st'.h id (some (.arr te es elems' I)) j=some x→∃x',st'.h j=some x':=fun j x J=>by
        by_cases q:j=id
        · subst q;exact⟨_,O⟩
        · rw[aS _ _ _ q] at J;exact⟨_,J⟩
      refine⟨h1,fun j x J=>?_,fun i j x x' b c c' hi J hm hm'=>?_,fun i x b c hi hm=>?_,h5,h6,h7,h8.trans W,h9⟩
      · by_cases q:j=id
        · subst q
          rw[aI] at J;cases J;have hO:=(h2 j _ O).evolve W rfl fun _ _ _=>⟨rfl,fun _=>rfl,rfl⟩
          rcases hfz with rfl | rfl
          · exact hO
          · obtain⟨g0,g1 | ⟨b,base,cap,vs,g1,g2,g3,g4,g5,g6,g7,g8,g9⟩⟩:=hO
            · exact⟨g0,.inl g1⟩
            · exact⟨g0,.inr ⟨b,base,cap,vs,g1,g2,g3,g4,g5,g6,(fun e=>by cases e),g8,(fun e=>by cases e)⟩⟩
        · rw[aS _ _ _ q] at J
          exact(h2 j x J).evolve W rfl fun _ _ _=>⟨rfl,fun _=>rfl,rfl⟩
      · obtain⟨_,Y⟩:=hold _ _ hi
        obtain⟨_,hj'⟩:=hold _ _ J;exact h3 i j _ _ b c c' Y hj' hm hm'
      · obtain⟨_,Y⟩:=hold _ _ hi
        exact h4 i _ b c Y hm
    have:=hs.put hi W hdn (x:=some y) (v:=v) (fun z hz=>by cases hz;exact aZ.evolve W _ _ hv);refine hk S μ _ _ ?_;unfold Eff.apply;rw[c7];exact this
  · have W:Evolve S μ st'.h S (upd μ id (some (b,c))) (upd st'.h id (some (.arr te es elems' I))):=⟨S.le_refl,fun j x J=>by
      by_cases q:j=id
      · subst q
        rw[O] at J;cases J;exact⟨_,aI _ _ _,by simp only[AObj.succ,true_and];exact⟨hlen,fun e=>by omega⟩⟩
      · exact⟨x,by rw[aS _ _ _ q];exact J,x.succ_refl (aS _ _ _ q)⟩⟩
    have hi:=hs.inv.chg (id:=id) (cap:=c) (ao:=.arr te es elems' I) hw (hb.imp (fun h=>h) fun⟨c',h⟩=>⟨_,c',O,h⟩) W hO hS hSm;have:=hs.put hi W hdn (x:=some y) (v:=v) (fun z hz=>by cases hz;exact hv);refine hk S (upd μ id (some (b,c))) _ _ ?_;unfold Eff.apply;rw[c7];exact this
theorem Step.grow {rd:Rd}{y:V}{id te es fz:Nat}{elems elems':List (List C)}(hd:o.dst=some d) (J:d<n) (hid:st.h id=some (.arr te es elems fz)) (O:id∈rd.h) (hlen:elems.length≤elems'.length) (q:Nat)
    (h:∀st',qN rd st st'→st'.h id=some (.arr te es elems fz)→∀G S μ a w,Sim G n S μ st' a w→∃w' v,(execOp a.eval o).run P w=.ok (.value v) w'∧
      ((w'=w∧elems'=elems∧(q=fz∨q=1)∧aZ S μ st'.h y v)∨
       (elems.length<elems'.length∧∃b W c,(w.heap.size≤b∨∃c',μ id=some (b,c'))∧WChg w w' b W∧mW S (upd μ id (some (b,c))) (upd st'.h id (some (.arr te es elems' q))) w' id (.arr te es elems' q)∧
         (∀o v,S.cell b o=some v→∃vs t fr,W=.cells vs t fr∧vs[o]?=some v)∧(∀m,S.mapo b=some m→w.heap.size≤b)∧aZ S (upd μ id (some (b,c))) (upd st'.h id (some (.arr te es elems' q))) y v))):
    Step P n o st rd ⟨some (d,some y),[(id,some (.arr te es elems' q))]⟩:=by
  intro st' ha G S μ a w K Q hs hk;have I:st'.h id=some (.arr te es elems fz):=by rw[ha.2 id O,hid]
  exact aOe hd J hlen q I hs hk (h st' ha I G S μ a w hs)
theorem aC6 {t e:TypeId}{i ei:TI}{x y:Operand}{id sz fz:Nat}{elems rows:List (List C)}{vy:V}{ids:List Nat}{st':St}{G:Ctx}{S:Sto}{μ:Mu}{a:Act}{w:World}(hT:Tok P T) (Z:o.op=.call { callee:=.builtin .append,args:= #[x,y],argTypes:= #[t,t] })
    (hi:T[t]?=some (some i)) (hk:i.k=.sl e) (hei:T[e]?=some (some ei)) (hes:Nat.ble 1 ei.size=true) (heb:Nat.ble 1 ei.bytes=true)
    (hsz:sz=elems.length) (hroom:(elems.length+rows.length)*ei.bytes≤140737488355328) (Y:st'.h id=some (.arr e ei.size elems fz)) (hs:Sim G n S μ st' a w)
    (hvx:aZ S μ st'.h (.one (.hs id 0 sz sz)) (a.eval x)) (hvy:aZ S μ st'.h vy (a.eval y)) (hsrc:Src st ei.size ids vy rows) (hsi:∀i∈ids,st'.h i=st.h i):
    ∃w' v,(execOp a.eval o).run P w=.ok (.value v) w'∧
      ((w'=w∧elems++rows=elems∧((if fz=0 then 0 else 1)=fz∨(if fz=0 then 0 else 1)=1)∧aZ S μ st'.h (.one (.hs id 0 (elems.length+rows.length) (elems.length+rows.length))) v)∨
       (elems.length<(elems++rows).length∧∃b bo c,(w.heap.size≤b∨∃c',μ id=some (b,c'))∧WChg w w' b bo∧mW S (upd μ id (some (b,c))) (upd st'.h id (some (.arr e ei.size (elems++rows) (if fz=0 then 0 else 1)))) w' id (.arr e ei.size (elems++rows) (if fz=0 then 0 else 1))∧
         (∀o v,S.cell b o=some v→∃vs t fr,bo=.cells vs t fr∧vs[o]?=some v)∧(∀m,S.mapo b=some m→w.heap.size≤b)∧aZ S (upd μ id (some (b,c))) (upd st'.h id (some (.arr e ei.size (elems++rows) (if fz=0 then 0 else 1)))) (.one (.hs id 0 (elems.length+rows.length) (elems.length+rows.length))) v)):=by
  subst hsz;have hes':=Aq hes;have heb':=Aq heb;obtain⟨ad,c,news,J,I,hrl,hnone,hcell⟩:=hsrc.rel hs hsi hvy;have O:news.length=rows.length*ei.size:=by rw[I.length,jE hrl]
  obtain⟨inf,dd,z,g1,g2,g3,g4,g5,g6,g7,g8⟩:=(hT.get hei).ex;have hu:=(hT.get hi).slice hk;have hzs:z.cells.size=ei.size:=by
    have h1:=(iJ (S:=S) g7).length;rw[(hT.get hei).len] at h1;simpa using h1
  simp only[aZ,b9] at hvx;obtain⟨_,hv | ⟨te',es',elems',fz',h1,h2,h3⟩⟩:=hvx
  · rw[Y] at hv;cases hv
  rw[Y] at h1;cases h1;obtain⟨h4,hcase⟩:=h3 rfl;have hbig:elems.length+rows.length≤140737488355328:=by
    have:(elems.length+rows.length)*1≤(elems.length+rows.length)*ei.bytes:=B9 _ heb';omega
  have hone:∀u∈news,u.oneCell'=true:=(I.toR (μ:=μ) (H:=st'.h)).one;have hcap:∀old,elems.length+rows.length≤grownCap w (elems.length+rows.length) old e∧grownCap w (elems.length+rows.length) old e≤maxLen:=fun old=>
    ⟨grownCap_ge _ _ _ _,grownCap_le_maxLen _ _ _ _ (by unfold maxLen;omega)⟩
  have W:∀(aa:List Value) (old:Nat),cB S elems.flatten aa→0<rows.length→∀g0:(∀r∈elems,r.length=ei.size),
      mW S (upd μ id (some (w.heap.size,0,grownCap w (elems.length+rows.length) old e))) (upd st'.h id (some (.arr e ei.size (elems++rows) (if fz=0 then 0 else 1))))
        (w.drew.alloc (.cells (aa.toArray++news.toArray++Builtin.zeroCells z.cells (grownCap w (elems.length+rows.length) old e-(elems.length+rows.length))) e)) id (.arr e ei.size (elems++rows) (if fz=0 then 0 else 1)):=by
    intro aa old hol hpos g0;obtain⟨hc1,hc2⟩:=hcap old;have ab:=hol.length;rw[jE g0] at ab;refine⟨?_,.inr ⟨w.heap.size,0,grownCap w (elems.length+rows.length) old e,(aa.toArray++news.toArray++Builtin.zeroCells z.cells (grownCap w (elems.length+rows.length) old e-(elems.length+rows.length))).toList,aI _ _ _,Bz w.drew _,?_,by simpa using hc1,⟨hc2,oT hs.inv⟩,?_,fun _ o _=>fI hs.inv o,fun o _=>fI hs.inv o,fun e=>by split at e<;>cases e⟩⟩
    · intro r q
      rcases χ.1 q with q | q
      · exact g0 r q
      · exact hrl r q
    · simp only[Cy,Ab,Bd,size_zeroCells,hzs]
      simp only[ab,O,Ba,←Av];exact Ar _ (by omega)
    · simp only[Cy,B4,Ab,flatten_append]
      rw[Cx (by simp[ab,O,Av]),Ax (by simp[ab,O,Av])];exact hol.append I
  have ac:(elems++rows).length=elems.length+rows.length:=by simp
  by_cases hm:rows.length=0
  · --nothing is appended
    have hr0:rows=[]:=Bb hm;have hfzz:(if fz=0 then 0 else 1)=fz∨(if fz=0 then 0 else 1)=1:=by
      by_cases h:fz=0
      · left;rw[ξ h,h]
      · right;rw[ψ h]
    rcases hcase with⟨h5,h6,h7⟩ | ⟨b,base,cap,h5,h6⟩
    · refine⟨w,.slice none 0 0,gM Z h7 J (by rw[hm];exact lY w t o.type e inf hu g1 none ad 0 0 c (le_refl _)),.inl ⟨rfl,by rw[hr0,A8],hfzz,?_⟩⟩
      simp only[aZ,b9];exact⟨⟨_,_,_,rfl⟩,.inr ⟨e,ei.size,elems,fz,Y,by omega,fun _=>⟨by omega,.inl ⟨h5,h6,(by first | rfl | trivial)⟩⟩⟩⟩
    · obtain⟨q0,vs,q1,q2,q3,q4,q5,q6,q7,q8⟩:=(hs.inv.obj id _ Y).arr h5
      refine⟨w,_,gM Z h6 J (by rw[hm];exact lY w t o.type e inf hu g1 _ ad elems.length _ c (by omega)),.inl ⟨rfl,by rw[hr0,A8],hfzz,?_⟩⟩;simp only[aZ,b9];exact⟨⟨_,_,_,rfl⟩,.inr ⟨e,ei.size,elems,fz,Y,by omega,fun _=>⟨by omega,.inr ⟨b,base,cap,h5,by rw[hm,B0]⟩⟩⟩⟩
  · cases ad with
    | none=>exact absurd (by rw[hnone rfl];rfl) hm
    | some ad=>
      have hc:=hcell ad rfl;rcases hcase with⟨h5,h6,h7⟩ | ⟨b,base,cap,h5,h6⟩
      · --the first elements
        subst h6;simp only[length_nil,Ba] at hroom hbig W hcap;have q:=run_append_nil (P:=P) w t o.type e inf z hu g1 g6 ad rows.length c news (by rw[O,g3]) hc (by omega) (by omega) (by rw[g4];omega);refine⟨_,_,gM Z h7 J q,.inr ⟨by simp;omega,w.heap.size,_,(0,grownCap w rows.length 0 e),.inl (le_refl _),WChg.alloc_drew w _,?_,(fun o v e=>by rw[fI hs.inv] at e;cases e),fun m e=>le_refl _,?_⟩⟩
        · have:=W [] 0 (by simp[cB]) (by omega) (by simp)
          simpa using this
        · simp only[aZ,b9]
          exact⟨⟨_,_,_,rfl⟩,.inr ⟨e,ei.size,_,_,aI _ _ _,by simp,fun _=>⟨by simp,.inr ⟨w.heap.size,0,_,aI _ _ _,by simp⟩⟩⟩⟩
      · obtain⟨q0,vs,q1,q2,q3,q4,q5,q6,q7,q8⟩:=(hs.inv.obj id _ Y).arr h5
        have hce:elems.length*ei.size≤cap*ei.size:=Ar _ q3;simp only[sub_zero,Nat.zero_mul,B0] at h6;by_cases hroom':elems.length+rows.length≤cap
        · --there is room
          have hce2:(elems.length+rows.length)*ei.size≤cap*ei.size:=Ar _ hroom';rw[Av] at hce2;have q:=lL (P:=P) w t o.type e inf hu g1 b base elems.length cap ⟨vs⟩ q1 ad rows.length c news (by rw[O,g3]) hc hone hroom' (by rw[g3,O];simp only[size_toArray];omega);rw[g3] at q;have hW:=WChg.setRow w b ⟨vs⟩ ⟨vs.take (base+elems.length*ei.size)++news++vs.drop (base+elems.length*ei.size+news.length)⟩ e (0,0) q1;refine⟨_,_,gM Z h6 J q,.inr ⟨by simp;omega,b,_,(base,cap),.inr ⟨_,h5⟩,hW,⟨?_,.inr ⟨b,base,cap,_,aI _ _ _,hW.new,?_,by rw[ac];omega,q4,?_,?_,?_,fun e=>by split at e<;>cases e⟩⟩,?_,fun m e=>jC q4.2 m e,?_⟩⟩
          · intro r q
            rcases χ.1 q with q | q
            · exact q0 r q
            · exact hrl r q
          · simp only[Ab,At,B5]
            omega
          · rw[ac,flatten_append]
            have e1:((vs.take (base+elems.length*ei.size)++news++vs.drop (base+elems.length*ei.size+news.length)).drop base).take ((elems.length+rows.length)*ei.size)=(vs.drop base).take (elems.length*ei.size)++news:=by
              rw[A0,List.drop_append_of_le_length (by simp;omega),←A0,Cx (by simp[Av];omega)];rw[Ax (by simp[Av];omega),drop_take];rw[show base+elems.length*ei.size-base=elems.length*ei.size by omega]
            rw[e1];exact q5.append I
          · intro e o Z
            exact q6 (Classical.byContradiction fun hne=>by rw[ψ hne] at e;cases e) o Z
          · intro o Z
            rw[ac,Av] at Z;exact q7 o (by omega)
          · intro o v e
            by_cases hlt:o<base+elems.length*ei.size
            · obtain⟨vs0,t0,fr0,p1,p2⟩:=hs.inv.holds.1 b o v e
              rw[q1] at p1;cases p1;refine⟨_,_,_,rfl,?_⟩;simp only[List.getElem?_toArray] at p2 ⊢;rw[A0,Be (by simp;omega),Au,ξ (by omega)];exact p2
            · rw[q7 o (by omega)] at e;cases e
          · simp only[aZ,b9]
            exact⟨⟨_,_,_,rfl⟩,.inr ⟨e,ei.size,_,_,aI _ _ _,by simp,fun _=>⟨by simp,.inr ⟨b,base,cap,aI _ _ _,by simp⟩⟩⟩⟩
        · --into a new block
          have q:=run_append_grow (P:=P) w t o.type e inf z hu g1 g6 ⟨b,base,none⟩ elems.length cap ((vs.drop base).take (elems.length*ei.size)) (by rw[g3];simp;omega) (by
              intro j v hj;rw[Addr.add_mid,cell_of_row w b _ ⟨vs⟩ e (0,0) q1];rw[Au] at hj;split at hj
              · rw[An] at hj
                simpa using hj
              · cases hj) ad rows.length c news (by rw[O,g3]) hc (by omega) (by omega) (by rw[g4];exact growslice_fits (by omega) hroom)
          have hq5:cB S elems.flatten ((vs.drop base).take (elems.length*ei.size)):=q5;refine⟨_,_,gM Z h6 J q,.inr ⟨by simp;omega,w.heap.size,_,(0,grownCap w (elems.length+rows.length) cap e),.inl (le_refl _),WChg.alloc_drew w _,?_,(fun o v e=>by rw[fI hs.inv] at e;cases e),fun m e=>le_refl _,?_⟩⟩
          · have:=W _ cap hq5 (by omega) q0
            simpa using this
          · simp only[aZ,b9]
            exact⟨⟨_,_,_,rfl⟩,.inr ⟨e,ei.size,_,_,aI _ _ _,by simp,fun _=>⟨by simp,.inr ⟨w.heap.size,0,_,aI _ _ _,by simp⟩⟩⟩⟩
theorem aG2 {t e:TypeId}{i ei:TI}{x y:Operand}{id sz fz:Nat}{elems rows:List (List C)}{J:V}{ids:List Nat}(hT:Tok P T) (ho:o.op=.call { callee:=.builtin .append,args:= #[x,y],argTypes:= #[t,t] }) (hd:o.dst=some d) (O:d<n)
  (hi:T[t]?=some (some i)) (hk:i.k=.sl e) (W:T[e]?=some (some ei)) (Y:Nat.ble 1 ei.size=true) (Z:Nat.ble 1 ei.bytes=true)
  (hx:opv st x=some (.one (.hs id 0 sz sz))) (hh:st.h id=some (.arr e ei.size elems fz)) (aa:sz=elems.length) (hy:opv st y=some J) (I:Src st ei.size ids J rows)
  (q:(elems.length+rows.length)*ei.bytes≤140737488355328):
  Step P n o st ⟨opr x++opr y,id::ids⟩ ⟨some (d,some (.one (.hs id 0 (elems.length+rows.length) (elems.length+rows.length)))),[(id,some (.arr e ei.size (elems++rows) (if fz=0 then 0 else 1)))]⟩:=by
 refine Step.grow hd O hh (by simp) (by simp) _ fun st' ha ab G S μ a w hs=>?_
 have ac:=aQ hs hx fun t ht=>ha.1 t (by simp[ht])
 have ad:=aQ hs hy fun t ht=>ha.1 t (by simp[ht])
 exact aC6 hT ho hi hk W Y Z aa q ab hs ac ad I fun i h=>ha.2 i (by simp[h])
end
mutual
def R.ren (σ:Nat→Nat):R→R
 | .c x=>.c x
 | .hs id off len sz=>.hs (σ id) off len sz
 | .tl id off len sz=>.tl (σ id) off len sz
 | .vp id off=>.vp (σ id) off
 | .ep id i fo sz=>.ep (σ id) i fo sz
 | .mr id=>.mr (σ id)
 | .clo f caps=>.clo f (R.renL σ caps)
 | .mth f x=>.mth f (x.ren σ)
 | .yl id=>.yl (σ id)
 | .ra id off len sz=>.ra (σ id) off len sz
 | .rp id i fo sz=>.rp (σ id) i fo sz
 | .ras n es l=>.ras n es (R.renL σ l)
 | .pas l=>.pas (R.renL σ l)
def R.renL (σ:Nat→Nat):List R→List R
 | []=>[]
 | r::rs=>r.ren σ::R.renL σ rs
end
mutual
def V.ren (σ:Nat→Nat):V→V
 | .one r=>.one (r.ren σ)
 | .pa l=>.pa l
 | .ma l=>.ma (R.renL σ l)
 | .tup l=>.tup (V.renL σ l)
def V.renL (σ:Nat→Nat):List V→List V
 | []=>[]
 | r::rs=>r.ren σ::V.renL σ rs
end
mutual
def R.refs:R→List Nat
 | .c _=>[]
 | .hs id _ _ _=>[id]
 | .tl id _ _ _=>[id]
 | .vp id _=>[id]
 | .ep id _ _ _=>[id]
 | .mr id=>[id]
 | .clo _ caps=>R.refsL caps
 | .mth _ x=>x.refs
 | .yl id=>[id]
 | .ra id _ _ _=>[id]
 | .rp id _ _ _=>[id]
 | .ras _ _ l=>R.refsL l
 | .pas l=>R.refsL l
def R.refsL:List R→List Nat
 | []=>[]
 | r::rs=>r.refs++R.refsL rs
end
mutual
def V.refs:V→List Nat
 | .one r=>r.refs
 | .pa _=>[]
 | .ma l=>R.refsL l
 | .tup l=>V.refsL l
def V.refsL:List V→List Nat
 | []=>[]
 | r::rs=>r.refs++V.refsL rs
end
def oL:List (Nat×V)→List Nat
 | []=>[]
 | (_,v)::l=>v.refs++oL l
def bZ:List (List R)→List Nat
 | []=>[]
 | r::l=>R.refsL r++bZ l
def aKh (σ:Nat→Nat):List (Nat×V)→List (Nat×V)
 | []=>[]
 | (t,v)::l=>(t,v.ren σ)::aKh σ l
def nJ (σ:Nat→Nat):List (List R)→List (List R)
 | []=>[]
 | r::l=>R.renL σ r::nJ σ l
theorem sZ:∀{l:List (Nat×V)}{t:Nat}{v:V},(t,v)∈l→∀i∈v.refs,i∈oL l
 | (k,u)::l,t,v,h,i,hi=>by
  simp only[oL,χ];rcases Ah.1 h with h | h
  ·cases h;exact .inl hi
  ·exact .inr (sZ h i hi)
theorem aG0 {σ:Nat→Nat}:∀{l:List (Nat×V)}{t:Nat}{v:V},(t,v)∈l→(t,v.ren σ)∈aKh σ l
 | (k,u)::l,t,v,h=>by
  simp only[aKh];rcases Ah.1 h with h | h
  ·cases h;simp
  ·exact η _ (aG0 h)
theorem R.renL_length {σ:Nat→Nat}:∀{l:List R},(R.renL σ l).length=l.length
 | []=>rfl
 | _::l=>by simp[R.renL,R.renL_length (l:=l)]
theorem fG {σ:Nat→Nat}:∀{l:List (List R)},(nJ σ l).length=l.length
 | []=>rfl
 | _::l=>by simp[nJ,fG (l:=l)]
theorem R.renL_append {σ:Nat→Nat}:∀{l m:List R},R.renL σ (l++m)=R.renL σ l++R.renL σ m
 | [],_=>rfl
 | _::l,m=>by simp[R.renL,R.renL_append (l:=l)]
theorem R.refsL_append:∀{l m:List R},R.refsL (l++m)=R.refsL l++R.refsL m
 | [],_=>rfl
 | _::l,m=>by simp[R.refsL,R.refsL_append (l:=l)]
theorem aAy {σ:Nat→Nat}:∀{l:List (List R)},(nJ σ l).flatten=R.renL σ l.flatten
 | []=>rfl
 | _::l=>by simp[nJ,aAy (l:=l),R.renL_append]
theorem vZ:∀{l:List (List R)},R.refsL l.flatten=bZ l
 | []=>rfl
 | _::l=>by simp[bZ,vZ (l:=l),R.refsL_append]
theorem mB {σ:Nat→Nat}{es:Nat}:∀{l:List (List R)},(∀r∈nJ σ l,r.length=es)→∀r∈l,r.length=es
 | [],_,r,h=>by simp at h
 | x::l,k,r,h=>by
  rcases Ah.1 h with rfl | h
  ·rw[←R.renL_length (σ:=σ)];exact k _ (by simp[nJ])
  ·exact mB (σ:=σ) (l:=l) (fun r q=>k r (by simp[nJ,q])) r h
def AObj.refs:AObj→List Nat
 | .var _ cells=>R.refsL cells
 | .lp _ _ _ e=>oL e
 | .rarr _ _ elems=>bZ elems
 | .tok r _=>r.refs
 | _=>[]
inductive Ole (σ:Nat→Nat):AObj→AObj→Prop
 | var {t cells cells'}:cells=R.renL σ cells'→Ole σ (.var t cells) (.var t cells')
 | arr {te es elems fz}:Ole σ (.arr te es elems fz) (.arr te es elems fz)
 | arr1 {te es elems fz}:Ole σ (.arr te es elems fz) (.arr te es elems 1)
 | map {agg ents}:Ole σ (.map agg ents) (.map agg ents)
 | dead:Ole σ .dead .dead
 | lp {st j i e e'}:e=aKh σ e'→Ole σ (.lp st j i e) (.lp st j i e')
 | dfr:Ole σ .dfr .dfr
 | rarr {te es elems elems'}:elems=nJ σ elems'→Ole σ (.rarr te es elems) (.rarr te es elems')
 | tok {r r' k}:r=r'.ren σ→Ole σ (.tok r k) (.tok r' k)
theorem Ole.succ {σ:Nat→Nat}{o o':AObj}(h:Ole σ o o'):o.succ True o':=by
 cases h
 case rarr e=>subst e;simp[AObj.succ,fG]
 all_goals simp[AObj.succ]
section
variable {S:Sto}{μ:Mu}{H H':cK}{σ:Nat→Nat}
def Good (H H':cK) (σ:Nat→Nat) (id:Nat):Prop:=∃o o',H (σ id)=some o∧H' id=some o'∧Ole σ o o'
mutual
theorem b9.ren:∀(r:R) (v:Value),(∀id∈r.refs,Good H H' σ id)→b9 S μ H (r.ren σ) v→b9 S (fun i=>μ (σ i)) H' r v
 | .c x,v,_,k=>by simpa only[b9,R.ren] using k
 | .hs id off len sz,v,h,k=>by
  obtain⟨o,o',h1,h2,h3⟩:=h id (by simp[R.refs]);simp only[b9,R.ren] at k ⊢;refine⟨k.1,?_⟩;rcases k.2 with k | ⟨te,es,elems,fz,g1,g2,g3⟩
  ·rw[h1] at k;cases k;cases h3;exact .inl h2
  ·rw[h1] at g1;cases g1;cases h3
   ·exact .inr ⟨te,es,elems,_,h2,g2,g3⟩
   ·exact .inr ⟨te,es,elems,_,h2,g2,g3⟩
 | .tl id off len sz,v,h,k=>by
  obtain⟨o,o',h1,h2,h3⟩:=h id (by simp[R.refs]);simp only[b9,R.ren] at k ⊢;refine⟨k.1,?_⟩;rcases k.2 with k | ⟨te,es,elems,fz,g1,g2,g3⟩
  ·rw[h1] at k;cases k;cases h3;exact .inl h2
  ·rw[h1] at g1;cases g1;cases h3
   ·exact .inr ⟨te,es,elems,_,h2,g2,g3⟩
   ·exact .inr ⟨te,es,elems,_,h2,g2,g3⟩
 | .vp id off,v,h,k=>by
  obtain⟨o,o',h1,h2,h3⟩:=h id (by simp[R.refs]);simp only[b9,R.ren] at k ⊢;obtain⟨t,cells,b,c,g1,g2,g3⟩:=k;rw[h1] at g1;cases g1;cases h3;exact⟨_,_,b,c,h2,g2,g3⟩
 | .ep id i fo sz,v,h,k=>by
  obtain⟨o,o',h1,h2,h3⟩:=h id (by simp[R.refs]);simp only[b9,R.ren] at k ⊢;refine⟨k.1,?_⟩;rcases k.2 with k | ⟨te,es,elems,fz,g1,g2,g3⟩
  ·rw[h1] at k;cases k;cases h3;exact .inl h2
  ·rw[h1] at g1;cases g1;cases h3
   ·exact .inr ⟨te,es,elems,_,h2,g2,g3⟩
   ·exact .inr ⟨te,es,elems,_,h2,g2,g3⟩
 | .mr id,v,h,k=>by
  obtain⟨o,o',h1,h2,h3⟩:=h id (by simp[R.refs]);simp only[b9,R.ren] at k ⊢;obtain⟨agg,ents,b,c,g1,g2,g3⟩:=k;rw[h1] at g1;cases g1;cases h3;exact⟨_,_,b,c,h2,g2,g3⟩
 | .clo f caps,v,h,k=>by
  simp only[b9,R.ren] at k ⊢;obtain⟨vs,g1,g2⟩:=k;exact⟨vs,g1,aW.ren caps vs (by simpa only[R.refs] using h) g2⟩
 | .mth f x,v,h,k=>by
  simp only[b9,R.ren] at k ⊢;obtain⟨u,g1,g2⟩:=k;exact⟨u,g1,b9.ren x u (by simpa only[R.refs] using h) g2⟩
 | .rp id i fo sz,v,h,k=>by
  obtain⟨o,o',h1,h2,h3⟩:=h id (by simp[R.refs]);simp only[b9,R.ren] at k ⊢;refine⟨k.1,?_⟩;rcases k.2 with k | ⟨te,es,elems,g1,g2,g3⟩
  ·rw[h1] at k;cases k;cases h3;exact .inl h2
  ·rw[h1] at g1;cases g1;cases h3;rename_i elems' e;subst e;rw[fG] at g2 g3;exact .inr ⟨te,es,elems',h2,g2,g3⟩
 | .yl id,v,h,k=>by
  obtain⟨o,o',h1,h2,h3⟩:=h id (by simp[R.refs]);simp only[b9,R.ren] at k ⊢;obtain⟨st,j,i,e,b,c,g1,g2,g3⟩:=k;rw[h1] at g1;cases g1;cases h3;exact⟨_,_,_,_,b,c,h2,g2,g3⟩
 | .ra id off len sz,v,h,k=>by
  obtain⟨o,o',h1,h2,h3⟩:=h id (by simp[R.refs]);simp only[b9,R.ren] at k ⊢;refine⟨k.1,?_⟩;rcases k.2 with k | ⟨te,es,elems,g1,g2,g3⟩
  ·rw[h1] at k;cases k;cases h3;exact .inl h2
  ·rw[h1] at g1;cases g1;cases h3;rename_i elems' e;subst e;rw[fG] at g2 g3;refine .inr ⟨te,es,elems',h2,g2,fun e=>?_⟩;obtain⟨O,q⟩:=g3 e;refine⟨O,?_⟩;rcases q with⟨q,W,Y⟩ | q
   ·exact .inl ⟨q,Bb (by rw[←fG (σ:=σ),W];rfl),Y⟩
   ·exact .inr q
 | .ras n es l,v,h,k=>by
  simp only[b9,R.ren] at k ⊢;obtain⟨a,cap,h1,h2,h3,h4,h5,Z,b,o,h7,vs,I,J⟩:=k;exact⟨a,cap,h1,by rw[h2,R.renL_length],h3,h4,h5,Z,b,o,h7,vs,aW.ren l vs (by simpa only[R.refs] using h) I,J⟩
 | .pas l,v,h,k=>by
  simp only[b9,R.ren] at k ⊢;obtain⟨b,o,h1,vs,I,J⟩:=k;exact⟨b,o,h1,vs,aW.ren l vs (by simpa only[R.refs] using h) I,J⟩
theorem aW.ren:∀(r:List R) (v:List Value),(∀id∈R.refsL r,Good H H' σ id)→aW S μ H (R.renL σ r) v→aW S (fun i=>μ (σ i)) H' r v
 | [],_,_,k=>by simpa only[aW,R.renL] using k
 | r::rs,vs,h,k=>by
  simp only[aW,R.renL] at k ⊢;obtain⟨v,vs',h1,h2,h3⟩:=k;exact⟨v,vs',h1,b9.ren r v (fun i hi=>h i (by simp[R.refsL,hi])) h2,aW.ren rs vs' (fun i hi=>h i (by simp[R.refsL,hi])) h3⟩
end
mutual
theorem aZ.ren:∀(r:V) (v:Value),(∀id∈r.refs,Good H H' σ id)→aZ S μ H (r.ren σ) v→aZ S (fun i=>μ (σ i)) H' r v
 | .one r,v,h,k=>by simp only[aZ,V.ren] at k ⊢;exact b9.ren r v (by simpa only[V.refs] using h) k
 | .pa l,v,_,k=>by simpa only[aZ,V.ren] using k
 | .ma l,v,h,k=>by
  simp only[aZ,V.ren] at k ⊢;obtain⟨vs,h1,h2⟩:=k;exact⟨vs,h1,aW.ren l vs (by simpa only[V.refs] using h) h2⟩
 | .tup l,v,h,k=>by
  simp only[aZ,V.ren] at k ⊢;obtain⟨vs,h1,h2⟩:=k;exact⟨vs,h1,bS.ren l vs (by simpa only[V.refs] using h) h2⟩
theorem bS.ren:∀(r:List V) (v:List Value),(∀id∈V.refsL r,Good H H' σ id)→bS S μ H (V.renL σ r) v→bS S (fun i=>μ (σ i)) H' r v
 | [],_,_,k=>by simpa only[bS,V.renL] using k
 | r::rs,vs,h,k=>by
  simp only[bS,V.renL] at k ⊢;obtain⟨v,vs',h1,h2,h3⟩:=k;exact⟨v,vs',h1,aZ.ren r v (fun i hi=>h i (by simp[V.refsL,hi])) h2,bS.ren rs vs' (fun i hi=>h i (by simp[V.refsL,hi])) h3⟩
end
end
theorem mW.ren {S:Sto}{μ:Mu}{H H':cK}{σ:Nat→Nat}{w:World}{id:Nat}{o o':AObj}(h:mW S μ H w (σ id) o) (hl:Ole σ o o') (q:∀i∈o'.refs,Good H H' σ i):mW S (fun i=>μ (σ i)) H' w id o':=by
 cases hl with
 | @var t cells cells' hc=>
  subst hc;obtain⟨b,vs,h1,h2,h3,h4⟩:=h;exact⟨b,vs,h1,h2,aW.ren _ _ q h3,h4⟩
 | arr=>exact h
 | arr1=>
  obtain⟨g0,g1 | ⟨b,base,cap,vs,g1,g2,g3,g4,g5,g6,g7,g8,g9⟩⟩:=h
  ·exact⟨g0,.inl g1⟩
  ·exact⟨g0,.inr ⟨b,base,cap,vs,g1,g2,g3,g4,g5,g6,(fun e=>by cases e),g8,(fun e=>by cases e)⟩⟩
 | map=>exact h
 | dead=>exact h
 | lp he=>
  subst he;obtain⟨b,r,fn,tmps,h1,h2,h3,h4,h5⟩:=h;exact⟨b,r,fn,tmps,h1,h2,h3,fun t v ht=>aZ.ren _ _ (fun i hi=>q i (sZ ht i hi)) (h4 t _ (aG0 ht)),h5⟩
 | dfr=>exact h
 | rarr he=>
  subst he;obtain⟨g0,g1 | ⟨b,base,cap,vs,g1,g2,g3,g4,g5,g6,g7⟩⟩:=h
  ·exact⟨mB g0,.inl ⟨g1.1,Bb (by rw[←fG (σ:=σ),g1.2];rfl)⟩⟩
  ·rw[fG] at g4 g6;rw[aAy] at g6;exact⟨mB g0,.inr ⟨b,base,cap,vs,g1,g2,g3,g4,g5,aW.ren _ _ (fun i hi=>q i (by rw[vZ] at hi;exact hi)) g6,g7⟩⟩
 | tok he=>
  subst he;obtain⟨g1,b,g2,g3⟩:=h;exact⟨g1,b,b9.ren _ _ q g2,g3⟩
def Ctx.keeps (G:Ctx) (kf:List Nat):Prop:=(∀id o,G.h0 id=some o→id∈kf)∧(997∈kf→G.h0 997=none→G.S0.noTop)
def Sub (kf:List Nat) (st2 st1:St):Prop:=∀G n S μ a w,G.keeps kf→Sim G n S μ st1 a w→∃S' μ',Sim G n S' μ' st2 a w
theorem Sub.refl (kf:List Nat) (st:St):Sub kf st st:=fun _ _ S μ _ _ _ h=>⟨S,μ,h⟩
theorem Sub.trans {kf:List Nat}{a b c:St}(h:Sub kf a b) (k:Sub kf b c):Sub kf a c:=fun G n S μ x w q hs=>by
 obtain⟨S',μ',h1⟩:=k G n S μ x w q hs;exact h G n S' μ' x w q h1
def mk (el:List (Nat×V)) (hl:List (Nat×AObj)):St:=⟨look el,look hl,[]⟩
def mkd (el:List (Nat×V)) (hl:List (Nat×AObj)) (dl:List Nat):St:=⟨look el,look hl,dl⟩
theorem c8 {α:Type}:∀{l:List (Nat×α)}{i:Nat}{x:α},look l i=some x→(i,x)∈l
 | [],_,_,h=>by simp[look] at h
 | (k,y)::l,i,x,h=>by
  simp only[look] at h;split at h
  ·rename_i hb;cases h;simp[Ac hb]
  ·simp[c8 h]
def eJ {α:Type}(p:α→Prop):List α→Prop
 | []=>True
 | x::l=>p x∧eJ p l
theorem eJ.mem {α:Type}{p:α→Prop}:∀{l:List α},eJ p l→∀x∈l,p x
 | [],_,x,h=>by simp at h
 | y::l,h,x,hx=>by
  rcases Ah.1 hx with rfl | hx
  ·exact h.1
  ·exact eJ.mem h.2 x hx
def subset (a b:List Nat):Bool:=a.all fun x=>b.contains x
def distinct:List Nat→Bool
 | []=>true
 | x::l=>!(l.contains x)&&distinct l
def dO:List (Nat×AObj)→List Nat
 | []=>[]
 | (_,o)::l=>o.refs++dO l
def aZ1 (kf:List Nat) (σ:Nat→Nat) (el:List (Nat×V)) (hl:List (Nat×AObj)):Bool:=subset (oL el) (hl.map (·.1))&&subset (dO hl) (hl.map (·.1))&&distinct (hl.map fun p=>σ p.1)&&subset kf (hl.map (·.1))&&kf.all fun i=>Nat.beq (σ i) i
theorem bO {a b:List Nat}(h:subset a b=true):∀x∈a,x∈b:=fun x hx=>by simpa using (A5.1 h) x hx
theorem dR:∀{l:List Nat},distinct l=true→l.Nodup
 | [],_=>nodup_nil
 | x::l,h=>by
  simp only[distinct,ε] at h;refine Bt.2 ⟨?_,dR h.2⟩;simpa using h.1
theorem kC:∀{l:List (Nat×AObj)}{t:Nat}{v:AObj},(t,v)∈l→∀i∈v.refs,i∈dO l
 | (k,u)::l,t,v,h,i,hi=>by
  simp only[dO,χ];rcases Ah.1 h with h | h
  ·cases h;exact .inl hi
  ·exact .inr (kC h i hi)
theorem jS {α:Type}:∀{l:List (Nat×α)}{i:Nat},i∈l.map (·.1)→∃x,look l i=some x:=gZ
theorem aBi {α β:Type}{f:α→β}:∀{l:List α},(l.map f).Nodup→∀x∈l,∀y∈l,f x=f y→x=y
 | [],_,x,h,_,_,_=>by simp at h
 | z::l,hn,x,hx,y,q,e=>by
  simp only[Al,Bt] at hn;rcases Ah.1 hx with hx | hx
  ·rcases Ah.1 q with q | q
   ·rw[hx,q]
   ·exact absurd (Ad.2 ⟨y,q,by rw[←e,hx]⟩) hn.1
  ·rcases Ah.1 q with q | q
   ·exact absurd (Ad.2 ⟨x,hx,by rw[e,q]⟩) hn.1
   ·exact aBi hn.2 x hx y q e
def eqL:List Nat→List Nat→Bool
 | [],[]=>true
 | a::l,b::m=>Nat.beq a b&&eqL l m
 | _,_=>false
theorem aVw:∀{l m:List Nat},eqL l m=true→l=m
 | [],[],_=>rfl
 | a::l,b::m,h=>by
  simp only[eqL,ε] at h;rw[Ac h.1,aVw h.2]
 | [],_::_,h=>by simp[eqL] at h
 | _::_,[],h=>by simp[eqL] at h
theorem Sub.listD {kf:List Nat}{I:St}{el:List (Nat×V)}{hl:List (Nat×AObj)}{dl:List Nat}(σ:Nat→Nat) (he:eJ (fun p=>I.e p.1=some (p.2.ren σ)) el) (hh:eJ (fun p=>∃o,I.h (σ p.1)=some o∧Ole σ o p.2) hl) (hok:(aZ1 kf σ el hl&&(eqL (dl.map σ) I.d&&subset dl (hl.map (·.1))))=true):Sub kf (mkd el hl dl) I:=by
 intro G n S μ a w hg hs;rw[ε,ε] at hok;obtain⟨hok,J,aa⟩:=hok;have J:=aVw J;simp only[aZ1,ε] at hok;obtain⟨⟨⟨⟨h1,h2⟩,h3⟩,h4⟩,h5⟩:=hok;have q:∀i∈hl.map (·.1),Good I.h (look hl) σ i:=by
  intro i hi;obtain⟨o',Z⟩:=gZ hi;obtain⟨o,g1,g2⟩:=hh.mem _ (c8 Z);exact⟨o,o',g1,Z,g2⟩
 have ab:=dR h3;refine⟨S,fun i=>μ (σ i),⟨⟨hs.inv.holds,fun id o O=>?_,fun i j o o' b c c' hi hj hm hm'=>?_,fun i o b c hi hm=>?_,hs.inv.frame,hs.inv.sle,hs.inv.sto,⟨hs.inv.evo.le,fun id o O=>?_⟩,hs.inv.fre⟩,hs.size,?_,fun t v ht=>?_⟩⟩
 ·obtain⟨W,g1,g2⟩:=hh.mem _ (c8 O);exact(hs.inv.obj _ _ g1).ren g2 fun i hi=>q i (bO h2 i (kC (c8 O) i hi))
 ·obtain⟨W,g1,g2⟩:=hh.mem _ (c8 hi);obtain⟨Y,g3,g4⟩:=hh.mem _ (c8 hj);have hσ:=hs.inv.inj _ _ _ _ b c c' g1 g3 hm hm';have:=aBi ab _ (c8 hi) _ (c8 hj) hσ;exact(congrArg Prod.fst this)
 ·obtain⟨W,g1,g2⟩:=hh.mem _ (c8 hi);exact hs.inv.own _ _ b c g1 hm
 ·obtain⟨o',g1,g2⟩:=hs.inv.evo.obj id o O;have hk:=hg.1 id o O;have hσ:σ id=id:=Ac ((A5.1 h5) id hk);obtain⟨W,Y,g3,g4,g5⟩:=q id (bO h4 id hk);rw[hσ,g1] at g3;cases g3;refine⟨Y,g4,?_⟩;show o.succ (μ (σ id)=G.μ0 id) Y;rw[hσ];exact AObj.succ_trans g2 g5.succ fun e _=>e
 ·refine Marks.ren (H:=I.h) (μ:=μ) σ (by show Marks _ μ I.h (dl.map σ) a.defers;rw[J];exact hs.defers) fun id hid hdf=>⟨rfl,?_⟩
  obtain⟨W,Y,g3,g4,g5⟩:=q id (bO aa id hid);rw[hdf] at g3;cases g3;cases g5;exact g4
 ·have hm:=c8 (show look el t=some v from ht);have h4:=he.mem _ hm;exact aZ.ren v _ (fun i hi=>q i (bO h1 i (sZ hm i hi))) (hs.env t _ h4)
theorem Sub.list {kf:List Nat}{q:St}{el:List (Nat×V)}{hl:List (Nat×AObj)}(σ:Nat→Nat) (he:eJ (fun p=>q.e p.1=some (p.2.ren σ)) el) (hh:eJ (fun p=>∃o,q.h (σ p.1)=some o∧Ole σ o p.2) hl) (hok:(aZ1 kf σ el hl&&eqL [] q.d)=true):Sub kf (mk el hl) q:=
 Sub.listD (dl:=[]) σ he hh (by
  rw[ε] at hok;rw[ε]
  exact⟨hok.1,by rw[Bj,hok.2];rfl⟩)
def Ctx.rok (G:Ctx):Option Nat→Prop
 | none=>True
 | some l=>(∃r,G.w0.heap[l]?=some (.loop r))∧¬G.F l
def AWp (ro:Option Nat) (P:Program) (n:Nat) (kf:List Nat) (c:Code) (st:St) (Q:Exit→St→Prop):Prop:=
 ∀G S μ a w (Q':Exit→Act→World→Prop),G.keeps kf∧G.rok ro→Sim G n S μ st a w→(∀ex st' S' μ' a' w',Q ex st'→Sim G n S' μ' st' a' w'→Q' ex a' w')→c.wpIn (Wd ro) 0 P Q' a w
section
variable {ro:Option Nat}{P:Program}{n:Nat}{kf:List Nat}{st:St}{Q:Exit→St→Prop}
theorem AWp.sub {c:Code}{st2:St}(h:Sub kf st2 st) (k:AWp ro P n kf c st2 Q):AWp ro P n kf c st Q:=fun G S μ a w Q' q hs I=>by
 obtain⟨S',μ',J⟩:=h G n S μ a w q.1 hs;exact k G S' μ' a w Q' q J I
theorem AWp.post {c:Code}{Q2:Exit→St→Prop}(h:AWp ro P n kf c st Q) (W:∀ex st',Q ex st'→∃I,Sub kf I st'∧Q2 ex I):AWp ro P n kf c st Q2:=fun G S μ a w Q' J hs Y=>
 h G S μ a w Q' J hs fun ex st' S' μ' O w' q s=>by
  obtain⟨I,h1,h2⟩:=W ex st' q;obtain⟨S2,Z,h3⟩:=h1 G n S' μ' O w' J.1 s;exact Y ex I S2 Z O w' h2 h3
theorem aD (h:Q .normal st):AWp ro P n kf .skip st Q:=fun _ S μ a w _ _ hs q=>wpIn_skip (q _ _ S μ a w h hs)
theorem aF (h:Q .ret st):AWp ro P n kf .ret st Q:=fun _ S μ a w _ _ hs q=>wpIn_ret (q _ _ S μ a w h hs)
theorem aM {id:Nat}(h:Q (.exit id) st):AWp ro P n kf (.exit id) st Q:=fun _ S μ a w _ _ hs q=>wpIn_exit (q _ _ S μ a w h hs)
def a7x (ro:Option Nat) (P:Program) (n:Nat) (kf:List Nat) (c:Code) (Q:Exit→St→Prop):Exit→St→Prop
 | .normal,st=>AWp ro P n kf c st Q
 | ex,st=>Q ex st
theorem a8 {x y:Code}(h:AWp ro P n kf x st (a7x ro P n kf y Q)):AWp ro P n kf (.seq x y) st Q:=fun G S μ a w Q' I hs J=>
 wpIn_seq (h G S μ a w _ I hs fun ex st' S' μ' O w' q s=>by
  cases ex with
  | normal=>exact q G S' μ' O w' Q' I s J
  | _=>exact J _ st' S' μ' O w' q s)
theorem aA {c:Operand}{x y:Code}{b:Bool}(hc:opv st c=some (B b)) (ht:b=true→AWp ro P n kf x st Q) (hf:b=false→AWp ro P n kf y st Q):AWp ro P n kf (.cond c x y) st Q:=fun G S μ a w Q' q hs I=>by
 have hb:=jQ (aQ hs hc fun _ _=>rfl);cases b with
 | true=>exact wpIn_cond_true hb (ht rfl G S μ a w Q' q hs I)
 | false=>exact wpIn_cond_false hb (hf rfl G S μ a w Q' q hs I)
def aQq (id:Nat) (Q:Exit→St→Prop):Exit→St→Prop
 | .exit id',st=>if Nat.beq id' id then Q .normal st else Q (.exit id') st
 | ex,st=>Q ex st
theorem aC {id:Nat}{c:Code}(h:AWp ro P n kf c st (aQq id Q)):AWp ro P n kf (.block id c) st Q:=fun G S μ a w Q' W hs J=>
 wpIn_block (h G S μ a w _ W hs fun ex st' S' μ' O w' q s=>by
  cases ex with
  | exit I=>
   simp only[aQq] at q;simp only[Exit.inBlock];by_cases hb:I=id
   ·subst hb;simp only[Cb,Ct] at q;simpa using J _ st' S' μ' O w' q s
   ·have:Nat.beq I id=false:=by
     cases Y:Nat.beq I id with
     | false=>rfl
     | true=>exact absurd (Ac Y) hb
    simp only[this,Bc,B3] at q;simpa [hb] using J _ st' S' μ' O w' q s
  | _=>exact J _ st' S' μ' O w' q s)
def a6x {α:Type}(kf:List Nat) (σ:α→St) (I:α→Prop) (m:α→Nat) (x:α) (Q:Exit→St→Prop):Exit→St→Prop
 | .normal,st=>∃y,I y∧m y<m x∧Sub kf (σ y) st
 | ex,st=>Q ex st
theorem sE {F:Fence}{m:Nat}{P:Program}{Q:Exit→Act→World→Prop}{a:Act}{w:World}{c:Code}(I:Nat→Act→World→Prop) (W:Nat) (aa:I W a w)
  (round:∀n a w,I n a w→c.wpIn F m P (Exit.then (fun O w'=>∃q,q<n∧I q O w') Q) a w):(Code.loop c).wpIn F m P Q a w:=by
 refine wpIn_loop (fun a w=>∃n,I n a w) (fun a w=>leastOf (fun n=>I n a w)) ⟨W,aa⟩ ?_;intro a w hI;refine wpIn_mono (round _ a w (leastOf_spec hI).1) ?_;intro e O w' Y;cases e with
 | normal=>
  obtain⟨q,Z,J⟩:=Y;exact show(∃n,I n O w')∧leastOf (fun n=>I n O w')<leastOf (fun n=>I n a w) from⟨⟨q,J⟩,C1 ((leastOf_spec ⟨q,J⟩).2 q J) Z⟩
 | _=>exact Y
theorem aO {α:Type}{c:Code}(σ:α→St) (I:α→Prop) (m:α→Nat) (J:α) (hI:I J) (h0:Sub kf (σ J) st) (h:∀x,I x→AWp ro P n kf c (σ x) (a6x kf σ I m x Q)):AWp ro P n kf (.loop c) st Q:=fun G S μ a w Q' O hs hQ=>by
 obtain⟨S',μ',Y⟩:=h0 G n S μ a w O.1 hs;refine sE (fun k a w=>∃x S μ,m x=k∧I x∧Sim G n S μ (σ x) a w) (m J) ⟨J,S',μ',rfl,hI,Y⟩ ?_;rintro k a w ⟨x,S,μ,hk,hx,hs⟩;refine h x hx G S μ a w _ O hs fun ex st' S1 Z a' w' q s=>?_
 cases ex with
 | normal=>
  obtain⟨y,hy,hlt,W⟩:=q;obtain⟨S2,μ2,h2⟩:=W G n S1 Z a' w' O.1 s;exact⟨m y,hk▸hlt,y,S2,μ2,rfl,hy,h2⟩
 | _=>exact hQ _ st' S1 Z a' w' q s
theorem x4 {id:Nat}{ops:Array Oper}{draw:Bool}{st':St}{xs:REs}(hm:P.follows .mixedOrders=true) (O:Run P n ops 0 st xs st') (hlen:Nat.beq xs.length ops.size=true)
  (J:(!draw || (fP (pZ ops) xs []&&iX ops))=true) (h:Q .normal st'):AWp ro P n kf (.region id ops draw) st Q:=fun G S μ a w Q' hg hs hQ=>by
 have q:=Ac hlen;cases draw with
 | true=>
  simp only[Bool.not_true,Bool.false_or,ε] at J;refine wpIn_region_any hm ?_;refine aW1 (G:=G) O q J.1 J.2 (fun S' μ' I w' s=>hQ _ st' S' μ' I w' h s) ops.size _ (by simp) ?_ ?_ S μ a _ ?_ ro
  ·have:((List.range ops.size).filter fun i=>!(Array.replicate ops.size false).getD i false)=List.range ops.size:=by
    apply List.filter_eq_self.2;intro i hi;simp at hi;simp[hi]
   rw[this,length_range]
  ·intro i o ho hl;simp[Array.getElem?_replicate] at hl;split at hl<;>simp at hl
  ·have hz:∀(W:REs) (k:Nat) (s:St),fD (fun j=>(Array.replicate ops.size false).getD j false) k W s=s:=by
    intro W
    induction W with
    | nil=>intro k s;rfl
    | cons y W Y=>
     intro k s;have hf:(Array.replicate ops.size false).getD k false=false:=by
      simp[Array.getElem?_replicate];split<;>rfl
     simp only[fD,hf,Bs];exact Y _ _
   rw[hz];exact⟨hs.inv.same rfl rfl rfl rfl,hs.size,hs.defers,hs.env⟩
 | false=>
  refine wpIn_region ?_;have key:∀(k:Nat) (st st':St) (xs:REs),Run P n ops k st xs st'→k+xs.length=ops.size→(∀S' μ' I w',Sim G n S' μ' st' I w'→Q' .normal I w')→∀S μ a w,Sim G n S μ st a w→wpOpsIn (Wd ro) 0 P ops Q' (List.range' k xs.length) a w:=by
   intro k st st' xs O
   induction O with
   | nil=>intro _ Z S μ a w hs;exact Z S μ a w hs
   | @cons k st rd f xs st' hg _ Y=>
    intro hl Z S μ a w hs;simp only[Am,List.range'_succ,wpOpsIn_cons];exact hg st (qN.refl _ _) G S μ a w _ Q' hs (fun S1 μ1 a1 w1 s1=>Y (by simp at hl;omega) Z S1 μ1 a1 w1 s1) ro
  have:=key 0 st st' xs O (by omega) (fun S' μ' I w' s=>hQ _ st' S' μ' I w' h s) S μ a w hs;rwa [List.range_eq_range',←q]
end
end Go.AM
