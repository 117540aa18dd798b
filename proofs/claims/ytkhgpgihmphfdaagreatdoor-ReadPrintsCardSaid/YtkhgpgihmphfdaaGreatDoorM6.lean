/-
  Texts Am27 to Am50 in one.
-/
import Derived.Test.YtkhgpgihmphfdaaGreatDoorM5
import Derived.Test.YtkhgpgihmphfdaaGreatDoorProg
import Derived.KernelRfl
import Derived.Laws.RangeString
import Derived.Lib.OthersKept
import Derived.LoopTactic
import Derived.Tactics2
import Derived.Shelf.Spec.SlicesGrow
import Derived.Laws.Runes
import Derived.Laws.MakeOwn
import Derived.Lib.Bytealg
import Derived.IntWalk
import Derived.ControlIn
open List (cons_append drop_append drop_drop drop_eq_getElem_cons drop_eq_nil_of_le drop_length drop_zero eq_nil_of_length_eq_zero length_append length_cons length_drop length_map length_nil length_pos_iff length_replicate length_singleton length_take map_take mem_map nil_append replicate_succ take_add_one take_append_drop take_length take_of_length_le)
open Nat (eq_of_beq_eq_true le_refl le_trans lt_of_lt_of_le min_eq_left mul_one sub_self zero_le)
namespace Go.AM
open Go
theorem Ole.arrS {σ:Nat→Nat}{te es fz:Nat}{l q:List (List C)}(h:l=q):Ole σ (.arr te es l fz) (.arr te es q fz):=by subst h;exact .arr
theorem hs_ren {id off a b q u:Nat}(h:a=q) (k:b=u):some (V.one (.hs id off a b))=some (V.ren (fun i=>i) (V.one (.hs id off q u))):=by subst h;subst k;rfl
theorem sl {kf:List Nat}{q:St}{u:List (Nat×V)}{hl:List (Nat×AObj)}
  (he:iM (fun p=>q.e p.1=some (p.2.ren (fun i=>i))) u:=by repeat (first | exact trivial | refine⟨by first | rfl | exact Go.AM.hs_ren (by first | (simp;done) | (simp;omega)) (by first | (simp;done) | (simp;omega)),?_⟩))
  (hh:iM (fun p=>∃o,q.h p.1=some o∧Ole (fun i=>i) o p.2) hl:=by repeat (first | exact trivial | refine⟨⟨_,rfl,by first | exact Go.AM.Ole.arr | exact Go.AM.Ole.var rfl | exact Go.AM.Ole.map | exact Go.AM.Ole.rarr rfl | exact Go.AM.Ole.arr1 | exact Go.AM.Ole.arrS (by first | assumption | (simp;done) | (simp;rfl) | (simp;omega)) | exact Go.AM.Ole.arrE (by first | assumption | (simp;done) | (simp;rfl) | (simp;omega)) | exact Go.AM.Ole.var (by first | (simp[Go.AM.R.renL,Go.AM.R.ren];done) | (simp[Go.AM.R.renL,Go.AM.R.ren];omega)) | exact Go.AM.Ole.mapE (by first | assumption | (simp;done) | (simp;rfl) | (simp;omega))⟩,?_⟩))
  (hok:(a03 kf (fun i=>i) u hl&&eqL [] q.d)=true:=by rfl):Sub kf (mk u hl) q:=Sub.list (fun i=>i) he hh hok
theorem take_all {α:Type}{l:List α}{n:Nat}(h:n=l.length):l=(l.drop 0).take n:=by rw[h,B8,Al]
theorem ltD {i n:Nat}{l:List (List C)}(h:decide ((i:Int)<(l.length:Int))=true) (e:l.length=n):i<n:=by
 have:(i:Int)<(l.length:Int):=by simpa using h
 omega
theorem geD {i n:Nat}{l:List (List C)}(h:decide ((i:Int)<(l.length:Int))=false) (e:l.length=n) (hi:i≤n):i=n:=by
 have:¬(i:Int)<(l.length:Int):=by simpa using h
 omega
section
variable {T:TT}{fn:Func}{st:St}{hin hout:List (Nat×AObj)}{res:V}
theorem rtT {t:Nat}{v:V}{ids:List Nat}(q:fn.results.toList=[.tmp t]:=by rfl) (hv:st.e t=some v:=by rfl)
  (hc:Conv st.h ids v res:=by first | exact .refl | exact .one (.c .nl .nil) | ((first | apply Go.AM.Conv.pa | apply Go.AM.Conv.agg);repeat (first | exact .nil | apply Go.AM.PureL.c .refl | apply Go.AM.PureL.c .nl | (apply Go.AM.PureL.hs;rfl;(first | rfl | assumption | simp);(first | rfl | exact Go.AM.take_all (by first | assumption | rfl | (simp;done)) | exact Go.AM.take_map.symm)))))
  (ho:iM (fun p=>∃o,st.h p.1=some o∧Ole (fun i=>i) o p.2) hout:=by repeat (first | exact trivial | refine⟨⟨_,rfl,by first | exact Go.AM.Ole.arr | exact Go.AM.Ole.var rfl | exact Go.AM.Ole.map | exact Go.AM.Ole.rarr rfl | exact Go.AM.Ole.arr1 | exact Go.AM.Ole.arrS (by first | assumption | (simp;done) | (simp;rfl) | (simp;omega)) | exact Go.AM.Ole.arrE (by first | assumption | (simp;done) | (simp;rfl) | (simp;omega)) | exact Go.AM.Ole.var (by first | (simp[Go.AM.R.renL,Go.AM.R.ren];done) | (simp[Go.AM.R.renL,Go.AM.R.ren];omega)) | exact Go.AM.Ole.mapE (by first | assumption | (simp;done) | (simp;rfl) | (simp;omega))⟩,?_⟩))
  (hok:(subset res.refs (keys hout)&&subset (iN hout) (keys hout)&&distinct (keys hout)&&subset (keys hin) (keys hout)&&(hin.all fun p=>p.2.plain)&&(hout.all fun p=>p.2.plain))=true:=by rfl):(Exit.ret=.normal∨Exit.ret=.ret)∧Fin T fn st hin res hout:=
 ⟨.inr rfl,⟨[v],[res],by rw[q];exact .tmp hv .nil,.cons hc .nil,rfl⟩,ho,hok⟩
theorem rtC {tr:Tr}{a t:Nat}{i:TI}{id off tv:Nat}{cells:List R}{v:V}{ids:List Nat}(hw:tr.wf=true) (q:fn.results.toList=[.cell a t]:=by rfl) (hi:tr.get t=some i:=by rfl) (ha:st.e a=some (.one (.vp id off)):=by rfl) (hh:st.h id=some (.var tv cells):=by rfl) (hb:Nat.ble (off+i.size) cells.length=true:=by rfl) (hv:lO i ((cells.drop off).take i.size)=some v:=by rfl)
  (hc:Conv st.h ids v res:=by first | exact .refl | exact .one (.c .nl .nil) | ((first | apply Go.AM.Conv.pa | apply Go.AM.Conv.agg);repeat (first | exact .nil | apply Go.AM.PureL.c .refl | apply Go.AM.PureL.c .nl | (apply Go.AM.PureL.hs;rfl;(first | rfl | assumption | simp);(first | rfl | exact Go.AM.take_all (by first | assumption | rfl | (simp;done)) | exact Go.AM.take_map.symm)))))
  (ho:iM (fun p=>∃o,st.h p.1=some o∧Ole (fun i=>i) o p.2) hout:=by repeat (first | exact trivial | refine⟨⟨_,rfl,by first | exact Go.AM.Ole.arr | exact Go.AM.Ole.var rfl | exact Go.AM.Ole.map | exact Go.AM.Ole.rarr rfl | exact Go.AM.Ole.arr1 | exact Go.AM.Ole.arrS (by first | assumption | (simp;done) | (simp;rfl) | (simp;omega)) | exact Go.AM.Ole.arrE (by first | assumption | (simp;done) | (simp;rfl) | (simp;omega)) | exact Go.AM.Ole.var (by first | (simp[Go.AM.R.renL,Go.AM.R.ren];done) | (simp[Go.AM.R.renL,Go.AM.R.ren];omega)) | exact Go.AM.Ole.mapE (by first | assumption | (simp;done) | (simp;rfl) | (simp;omega))⟩,?_⟩))
  (hok:(subset res.refs (keys hout)&&subset (iN hout) (keys hout)&&distinct (keys hout)&&subset (keys hin) (keys hout)&&(hin.all fun p=>p.2.plain)&&(hout.all fun p=>p.2.plain))=true:=by rfl):(Exit.ret=.normal∨Exit.ret=.ret)∧Fin tr.flat fn st hin res hout:=
 ⟨.inr rfl,⟨[v],[res],by rw[q];exact .cell ha (Tr.get_ok hw hi) hh hb hv .nil,.cons hc .nil,rfl⟩,ho,hok⟩
end
end Go.AM
namespace Go.AM
open Go
theorem sI {id:Nat}{o:AObj}{hin:List (Nat×AObj)}:look ((id,o)::hin)=upd (look hin) id (some o):=by
 funext i;by_cases h:i=id
 ·subst h;rw[aN,o6]
 ·rw[bJ _ _ _ h,aAg h]
theorem Inv.emptyZ {G:Ctx}{S:Sto}{μ:Mu}{H:cF}{w:World}{id:Nat}(te es z:Nat) (h:Inv G S μ H w) (hid:H id=none):Inv G S (upd μ id none) (upd H id (some (.arr te es [] z))) w∧Evolve S μ H S (upd μ id none) (upd H id (some (.arr te es [] z))):=by
 have y:Evolve S μ H S (upd μ id none) (upd H id (some (.arr te es [] z))):=gM hid _ _;refine⟨⟨h.holds,fun j x hj=>?_,fun i j x A b c c' hi hj hm q=>?_,fun i x b c hi hm=>?_,h.frame,h.sle,h.sto,h.evo.trans y,h.fre⟩,y⟩
 ·by_cases u:j=id
  ·subst u;rw[aN] at hj;cases hj;exact⟨by simp,.inl ⟨aN _ _ _,rfl⟩⟩
  ·rw[bJ _ _ _ u] at hj;exact(h.obj j x hj).evolve y (bJ _ _ _ u) fun _ _ _=>⟨rfl,fun _=>rfl,rfl⟩
 ·have h1:i≠id:=fun e=>by subst e;rw[aN] at hm;cases hm
  have h2:j≠id:=fun e=>by subst e;rw[aN] at q;cases q
  rw[bJ _ _ _ h1] at hi hm;rw[bJ _ _ _ h2] at hj q;exact h.inj i j x A b c c' hi hj hm q
 ·have h1:i≠id:=fun e=>by subst e;rw[aN] at hm;cases hm
  rw[bJ _ _ _ h1] at hi hm;exact h.own i x b c hi hm
theorem aW.nilArg {P:Program}{f:FuncId}{pre post:List V}{hin hout:List (Nat×AObj)}{res:V}{id te es z:Nat}(h:aW P f (pre++ .one (.hs id 0 0 0)::post) ((id,.arr te es [] z)::hin) res hout) (hid:look hin id=none):aW P f (pre++ .one (.c .nl)::post) hin res hout:=by
 intro S μ w vals J hv;obtain⟨hi,A⟩:=J.emptyZ te es z hid;have B:kI (upd μ id none) (look ((id,.arr te es [] z)::hin))=kI μ (look hin):=by
  funext b;rw[sI];refine propext ⟨?_,?_⟩
  ·rintro⟨j,o,c,h1,h2⟩;by_cases hj:j=id
   ·subst hj;rw[aN] at h2;cases h2
   ·rw[bJ _ _ _ hj] at h1 h2;exact⟨j,o,c,h1,h2⟩
  ·rintro⟨j,o,c,h1,h2⟩;have hj:j≠id:=fun e=>by subst e;rw[hid] at h1;cases h1
   exact⟨j,o,c,by rw[bJ _ _ _ hj];exact h1,by rw[bJ _ _ _ hj];exact h2⟩
 have E:Inv ⟨w,S,kI (upd μ id none) (look ((id,.arr te es [] z)::hin)),upd μ id none,look ((id,.arr te es [] z)::hin)⟩ S (upd μ id none) (look ((id,.arr te es [] z)::hin)) w:=by
  rw[B,sI];exact⟨hi.holds,hi.obj,hi.inj,hi.own,hi.frame,hi.sle,hi.sto,Evolve.refl _ _ _,hi.fre⟩
 have I:b7 S (upd μ id none) (look ((id,.arr te es [] z)::hin)) (pre++ .one (.hs id 0 0 0)::post) vals:=by
  rw[sI];have key:∀(l:List V) (us:List Value),b7 S μ (look hin) (l++ .one (.c .nl)::post) us→b7 S (upd μ id none) (upd (look hin) id (some (.arr te es [] z))) (l++ .one (.hs id 0 0 0)::post) us:=by
   intro l
   induction l with
   | nil=>
    intro us hu;simp only[Av,b7] at hu ⊢;obtain⟨u,q,h1,h2,y⟩:=hu;refine⟨u,q,h1,?_,b7.evolve A _ _ y⟩;simp only[aS,aZ,Rep] at h2 ⊢;exact⟨⟨_,_,_,h2⟩,.inr ⟨te,es,[],z,aN _ _ _,le_refl _,fun _=>⟨le_refl _,.inl ⟨aN _ _ _,rfl,h2⟩⟩⟩⟩
   | cons x l M=>
    intro us hu;simp only[As,b7] at hu ⊢;obtain⟨u,q,h1,h2,y⟩:=hu;exact⟨u,q,h1,aS.evolve A _ _ h2,M q y⟩
  exact key pre vals hv
 refine Calls.mono (h S (upd μ id none) w vals E I) ?_;rintro e w' ⟨S',μ',v,h1,h2,y⟩;refine⟨S',μ',v,h1,?_,y⟩;rw[B] at h2;refine⟨h2.holds,h2.obj,h2.inj,h2.own,h2.frame,h2.sle,h2.sto,A.trans ?_,h2.fre⟩;have:=h2.evo;rwa [sI] at this
theorem aW.sub {P:Program}{f:FuncId}{args:List V}{hin hout u:List (Nat×AObj)}{res q:V}(h:aW P f args hin res hout) (hs:Sub (keys hin) (mk [(0,q)] u) (mk [(0,res)] hout)):aW P f args hin q u:=by
 intro S μ w vals B hv;refine Calls.mono (h S μ w vals B hv) ?_;rintro e w' ⟨S',μ',v,h1,h2,E⟩;have A:Ctx.keeps ⟨w,S,kI μ (look hin),μ,look hin⟩ (keys hin):=tT
 obtain⟨S2,I,g⟩:=hs _ 1 S' μ' ⟨#[v],[]⟩ w' A ⟨h2,rfl,rfl,fun t y e=>by
  simp only[mk,look] at e;split at e
  ·rename_i hb;cases e;rw[τ hb];exact E
  ·cases e⟩
 exact⟨S2,I,v,h1,g.inv,g.env 0 q rfl⟩
theorem aW.plain {P:Program}{f:FuncId}{args:List V}{id te es n:Nat}{rows:List (List C)}{fz:Nat}(h:aW P f args [] (.one (.hs id 0 n n)) [(id,.arr te es rows fz)]) (hn:n=rows.length):aW P f args [] (.one (.c (.sl es rows))) []:=by
 refine h.sub ?_;have h1:Sub [] ⟨look [(0,V.one (.hs id 0 n n))],upd (look [(id,AObj.arr te es rows fz)]) id (some (.arr te es rows 2)),[]⟩ (mk [(0,.one (.hs id 0 n n))] [(id,.arr te es rows fz)]):=Sub.freeze (st:=mk [(0,.one (.hs id 0 n n))] [(id,.arr te es rows fz)]) o6;refine Sub.trans (Sub.trans ?_ (Sub.conv (t:=0) (v:=.one (.hs id 0 n n)) rfl (hs_all (aN _ _ _) rfl hn rfl))) h1;exact Sub.list (fun i=>i) ⟨rfl,trivial⟩ trivial rfl
theorem Sub.varPure {kf:List Nat}{st:St}{x tv:Nat}{cells:List R}{ids:List Nat}{cs:List C}(h:st.h x=some (.var tv cells)) (hp:PureL st.h ids cells cs):Sub kf ⟨st.e,upd st.h x (some (.var tv (cs.map R.c))),st.d⟩ st:=by
 intro G n S μ a w _ hs;have hi:=hs.inv;obtain⟨b,vs,g1,g2,g3,g4⟩:=hi.obj x _ h
 have u:Evolve S μ st.h S μ (upd st.h x (some (.var tv (cs.map R.c)))):=⟨S.le_refl,fun j y hj=>by
  by_cases q:j=x
  ·subst q;rw[h] at hj;cases hj;exact⟨_,aN _ _ _,by simp[AObj.succ]⟩
  ·exact⟨y,by rw[bJ _ _ _ q];exact hj,y.succ_refl rfl⟩⟩
 have hold:∀j y,upd st.h x (some (.var tv (cs.map R.c))) j=some y→∃E,st.h j=some E:=fun j y hj=>by
  by_cases q:j=x
  ·subst q;exact⟨_,h⟩
  ·rw[bJ _ _ _ q] at hj;exact⟨_,hj⟩
 refine⟨S,μ,⟨⟨hi.holds,fun j y hj=>?_,fun i j y E b c c' A hj hm I=>?_,fun i y b c A hm=>?_,hi.frame,hi.sle,hi.sto,hi.evo.trans u,hi.fre⟩,hs.size,hs.defers.evolve u,fun s v e=>aS.evolve u v _ (hs.env s v e)⟩⟩
 ·by_cases q:j=x
  ·subst q;have B:some (AObj.var tv (cs.map R.c))=some y:=by rw[←hj];exact(aN _ _ _).symm
   cases B;exact⟨b,vs,g1,g2,(hp.rel (fun _ _=>rfl) hi.obj g3).toR,g4⟩
  ·have B:st.h j=some y:=by rw[←hj];exact(bJ _ _ _ q).symm
   exact(hi.obj j y B).evolve u rfl fun _ _ _=>⟨rfl,fun _=>rfl,rfl⟩
 ·obtain⟨_,h1⟩:=hold _ _ A;obtain⟨_,h2⟩:=hold _ _ hj;exact hi.inj i j _ _ b c c' h1 h2 hm I
 ·obtain⟨_,h1⟩:=hold _ _ A;exact hi.own i _ b c h1 hm
theorem vp {kf:List Nat}{st:St}(x:Nat) {tv:Nat}{cells:List R}(cs:List C) {ids:List Nat}(h:st.h x=some (.var tv cells):=by rfl)
  (hp:PureL st.h ids cells cs:=by repeat (first | exact .nil | apply Go.AM.PureL.c .refl | apply Go.AM.PureL.c .nl | apply Go.AM.PureL.c .sn | (apply Go.AM.PureL.hs;rfl;(first | rfl | assumption | (simp;done) | (simp;omega));(first | rfl | exact Go.AM.take_all (by first | assumption | rfl | (simp;done) | (simp;omega)) | exact Go.AM.take_map.symm)))):Sub kf ⟨st.e,upd st.h x (some (.var tv (cs.map R.c))),st.d⟩ st:=Sub.varPure h hp
theorem cv {kf:List Nat}{st:St}(t:Nat) {id te es n sz:Nat}{l:List (List C)}(q:List (List C)) (h:st.e t=some (.one (.hs id 0 n sz)):=by rfl) (hh:st.h id=some (.arr te es l 2):=by rfl) (h1:n=l.length:=by first | rfl | assumption | (simp;done) | (simp;omega)) (h2:sz=l.length:=by first | rfl | assumption | (simp;done) | (simp;omega)) (u:l=q:=by first | rfl | assumption | (simp;done)):Sub kf ⟨upd st.e t (some (.one (.c (.sl es q)))),st.h,st.d⟩ st:=by
 subst u;exact Sub.conv h (.one (.hs hh h2 (by rw[h1,B8,Al]) .nil))
end Go.AM
namespace Go.Proofs.YtkhgpgihmphfdaaGreatDoor
open Go Go.AM
def zl_:Tr:=.leaf none
def zl0:Tr:=.leaf (some ⟨.fn,1,8,[.zv 1]⟩)
def zl1:Tr:=.leaf (some ⟨.int .u8,1,1,[.int .u8 0]⟩)
def zl2:Tr:=.leaf (some ⟨.int .i64,1,8,[.int .i64 0]⟩)
def zl3:Tr:=.leaf (some ⟨.str,1,16,[.str []]⟩)
def zl4:Tr:=.leaf (some ⟨.int .u64,1,8,[.int .u64 0]⟩)
def zl5:Tr:=.leaf (some ⟨.int .i32,1,4,[.int .i32 0]⟩)
def zl6:Tr:=.leaf (some ⟨.st [(0,3),(1,9),(2,3),(3,3)],4,40,[.int .i64 0,.str [],.int .i64 0,.int .i64 0]⟩)
def tr:Tr:=
 .node 137 (.node 68 (.node 34 (.node 17 (.node 8 (.node 4 (.node 2 (.node 1 zl_ zl0) (.node 1 zl2 zl2)) (.node 2 (.node 1 (.leaf (some ⟨.bool,1,1,[.bool false]⟩)) zl1) (.node 1 zl1 (.leaf (some ⟨.st [(0,2),(1,3),(2,4),(3,6)],4,24,[.int .i64 0,.int .i64 0,.bool false,.int .u8 0]⟩))))) (.node 4 (.node 2 (.node 1 (.leaf (some ⟨.st [(0,2),(1,3),(2,4),(3,6)],4,24,[.int .i64 0,.int .i64 0,.bool false,.int .u8 0]⟩)) zl3) (.node 1 zl3 zl3)) (.node 2 (.node 1 zl4 (.leaf (some ⟨.st [(0,9),(1,12)],2,24,[.str [],.int .u64 0]⟩))) (.node 1 (.leaf (some ⟨.st [(0,9),(1,12)],2,24,[.str [],.int .u64 0]⟩)) (.node 1 (.leaf (some ⟨.pt 263,1,8,[.np]⟩)) (.leaf (some ⟨.pt 266,1,8,[.np]⟩))))))) (.node 8 (.node 4 (.node 2 (.node 1 (.leaf (some ⟨.pt 274,1,8,[.np]⟩)) (.leaf (some ⟨.st [(0,17)],1,8,[.np]⟩))) (.node 1 (.leaf (some ⟨.st [(0,17)],1,8,[.np]⟩)) zl_)) (.node 2 (.node 1 zl5 (.leaf (some ⟨.sl 3,1,24,[.nl]⟩))) (.node 1 zl0 (.leaf (some ⟨.sl 9,1,24,[.nl]⟩))))) (.node 4 (.node 2 (.node 1 (.leaf (some ⟨.sl 81,1,24,[.nl]⟩)) (.leaf (some ⟨.sl 87,1,24,[.nl]⟩))) (.node 1 (.leaf (some ⟨.sl 90,1,24,[.nl]⟩)) (.leaf (some ⟨.sl 109,1,24,[.nl]⟩)))) (.node 2 (.node 1 (.leaf (some ⟨.st [(0,25),(1,26),(2,27),(3,28)],4,96,[.nl,.nl,.nl,.nl]⟩)) (.leaf (some ⟨.st [(0,25),(1,26),(2,27),(3,28)],4,96,[.nl,.nl,.nl,.nl]⟩))) (.node 1 zl2 (.node 1 (.leaf (some ⟨.st [(0,31),(1,3)],2,16,[.int .i64 0,.int .i64 0]⟩)) (.leaf (some ⟨.st [(0,31),(1,3)],2,16,[.int .i64 0,.int .i64 0]⟩)))))))) (.node 17 (.node 8 (.node 4 (.node 2 (.node 1 zl_ zl0) (.node 1 zl0 (.leaf (some ⟨.sl 47,1,24,[.nl]⟩)))) (.node 2 (.node 1 (.leaf (some ⟨.sl 51,1,24,[.nl]⟩)) (.leaf (some ⟨.sl 84,1,24,[.nl]⟩))) (.node 1 (.leaf (some ⟨.sl 98,1,24,[.nl]⟩)) (.leaf (some ⟨.sl 43,1,24,[.nl]⟩))))) (.node 4 (.node 2 (.node 1 (.leaf (some ⟨.st [(0,3),(1,3),(2,9),(3,41)],4,56,[.int .i64 0,.int .i64 0,.str [],.nl]⟩)) (.leaf (some ⟨.st [(0,3),(1,3),(2,9),(3,41)],4,56,[.int .i64 0,.int .i64 0,.str [],.nl]⟩))) (.node 1 (.leaf (some ⟨.st [(0,24),(1,39),(2,40),(3,43)],7,128,[.nl,.nl,.nl,.int .i64 0,.int .i64 0,.str [],.nl]⟩)) (.leaf (some ⟨.st [(0,24),(1,39),(2,40),(3,43)],7,128,[.nl,.nl,.nl,.int .i64 0,.int .i64 0,.str [],.nl]⟩)))) (.node 2 (.node 1 (.leaf (some ⟨.st [(0,3),(1,3),(2,3),(3,9),(4,37),(5,38),(6,28),(7,45),(14,41)],15,264,[.int .i64 0,.int .i64 0,.int .i64 0,.str [],.nl,.nl,.nl,.nl,.nl,.nl,.int .i64 0,.int .i64 0,.str [],.nl,.nl]⟩)) (.leaf (some ⟨.st [(0,3),(1,3),(2,3),(3,9),(4,37),(5,38),(6,28),(7,45),(14,41)],15,264,[.int .i64 0,.int .i64 0,.int .i64 0,.str [],.nl,.nl,.nl,.nl,.nl,.nl,.int .i64 0,.int .i64 0,.str [],.nl,.nl]⟩))) (.node 1 zl_ (.node 1 zl0 (.leaf (some ⟨.st [(0,3),(1,3),(2,3),(3,9),(4,38),(5,43),(9,41)],10,144,[.int .i64 0,.int .i64 0,.int .i64 0,.str [],.nl,.int .i64 0,.int .i64 0,.str [],.nl,.nl]⟩))))))) (.node 8 (.node 4 (.node 2 (.node 1 (.leaf (some ⟨.st [(0,3),(1,3),(2,3),(3,9),(4,38),(5,43),(9,41)],10,144,[.int .i64 0,.int .i64 0,.int .i64 0,.str [],.nl,.int .i64 0,.int .i64 0,.str [],.nl,.nl]⟩)) zl_) (.node 1 zl0 zl0)) (.node 2 (.node 1 zl0 zl0) (.node 1 zl0 (.leaf (some ⟨.sl 62,1,24,[.nl]⟩))))) (.node 4 (.node 2 (.node 1 zl_ zl0) (.node 1 zl6 zl6)) (.node 2 (.node 1 zl0 zl0) (.node 1 zl0 (.node 1 (.leaf (some ⟨.pt 122,1,8,[.np]⟩)) zl0))))))) (.node 34 (.node 17 (.node 8 (.node 4 (.node 2 (.node 1 zl0 zl0) (.node 1 zl0 zl0)) (.node 2 (.node 1 zl0 (.leaf (some ⟨.pt 78,1,8,[.np]⟩))) (.node 1 zl0 zl0))) (.node 4 (.node 2 (.node 1 (.leaf (some ⟨.sl 131,1,24,[.nl]⟩)) (.leaf (some ⟨.st [(0,76),(1,3),(2,33)],4,48,[.nl,.int .i64 0,.int .i64 0,.int .i64 0]⟩))) (.node 1 (.leaf (some ⟨.st [(0,76),(1,3),(2,33)],4,48,[.nl,.int .i64 0,.int .i64 0,.int .i64 0]⟩)) (.leaf (some ⟨.sl 95,1,24,[.nl]⟩)))) (.node 2 (.node 1 (.leaf (some ⟨.st [(0,9),(1,3),(2,24),(3,39),(4,79)],5,96,[.str [],.int .i64 0,.nl,.nl,.nl]⟩)) (.leaf (some ⟨.st [(0,9),(1,3),(2,24),(3,39),(4,79)],5,96,[.str [],.int .i64 0,.nl,.nl,.nl]⟩))) (.node 1 zl0 (.node 1 (.leaf (some ⟨.st [(0,39)],1,24,[.nl]⟩)) (.leaf (some ⟨.st [(0,39)],1,24,[.nl]⟩))))))) (.node 8 (.node 4 (.node 2 (.node 1 (.leaf (some ⟨.sl 100,1,24,[.nl]⟩)) (.leaf (some ⟨.st [(0,9),(1,3),(2,9),(3,84),(4,24),(5,85)],6,112,[.str [],.int .i64 0,.str [],.nl,.nl,.nl]⟩))) (.node 1 (.leaf (some ⟨.st [(0,9),(1,3),(2,9),(3,84),(4,24),(5,85)],6,112,[.str [],.int .i64 0,.str [],.nl,.nl,.nl]⟩)) zl0)) (.node 2 (.node 1 (.leaf (some ⟨.st [(0,9),(1,3),(2,9),(3,24),(4,40),(5,28)],6,112,[.str [],.int .i64 0,.str [],.nl,.nl,.nl]⟩)) (.leaf (some ⟨.st [(0,9),(1,3),(2,9),(3,24),(4,40),(5,28)],6,112,[.str [],.int .i64 0,.str [],.nl,.nl,.nl]⟩))) (.node 1 zl0 zl0))) (.node 4 (.node 2 (.node 1 zl0 (.leaf (some ⟨.st [(0,9),(1,3),(2,41)],3,48,[.str [],.int .i64 0,.nl]⟩))) (.node 1 (.leaf (some ⟨.st [(0,9),(1,3),(2,41)],3,48,[.str [],.int .i64 0,.nl]⟩)) zl0)) (.node 2 (.node 1 (.leaf (some ⟨.st [(0,9),(1,43)],5,72,[.str [],.int .i64 0,.int .i64 0,.str [],.nl]⟩)) (.leaf (some ⟨.st [(0,9),(1,43)],5,72,[.str [],.int .i64 0,.int .i64 0,.str [],.nl]⟩))) (.node 1 (.leaf (some ⟨.st [(0,9),(1,3),(2,45)],9,152,[.str [],.int .i64 0,.nl,.nl,.nl,.int .i64 0,.int .i64 0,.str [],.nl]⟩)) (.node 1 (.leaf (some ⟨.st [(0,9),(1,3),(2,45)],9,152,[.str [],.int .i64 0,.nl,.nl,.nl,.int .i64 0,.int .i64 0,.str [],.nl]⟩)) zl0)))))) (.node 17 (.node 8 (.node 4 (.node 2 (.node 1 zl0 zl0) (.node 1 zl0 zl0)) (.node 2 (.node 1 zl0 zl0) (.node 1 (.leaf (some ⟨.st [(0,9),(1,3),(2,4),(3,45),(10,47),(25,45),(32,3)],33,560,[.str [],.int .i64 0,.bool false,.nl,.nl,.nl,.int .i64 0,.int .i64 0,.str [],.nl,.int .i64 0,.int .i64 0,.int .i64 0,.str [],.nl,.nl,.nl,.nl,.nl,.nl,.int .i64 0,.int .i64 0,.str [],.nl,.nl,.nl,.nl,.nl,.int .i64 0,.int .i64 0,.str [],.nl,.int .i64 0]⟩)) (.leaf (some ⟨.st [(0,9),(1,3),(2,4),(3,45),(10,47),(25,45),(32,3)],33,560,[.str [],.int .i64 0,.bool false,.nl,.nl,.nl,.int .i64 0,.int .i64 0,.str [],.nl,.int .i64 0,.int .i64 0,.int .i64 0,.str [],.nl,.nl,.nl,.nl,.nl,.nl,.int .i64 0,.int .i64 0,.str [],.nl,.nl,.nl,.nl,.nl,.int .i64 0,.int .i64 0,.str [],.nl,.int .i64 0]⟩))))) (.node 4 (.node 2 (.node 1 zl0 zl0) (.node 1 zl0 zl0)) (.node 2 (.node 1 zl_ zl0) (.node 1 zl0 (.node 1 zl0 (.leaf (some ⟨.pt 168,1,8,[.np]⟩))))))) (.node 9 (.node 4 (.node 2 (.node 1 zl0 zl0) (.node 1 (.leaf (some ⟨.st [(0,22),(1,3)],2,32,[.nl,.int .i64 0]⟩)) (.leaf (some ⟨.st [(0,22),(1,3)],2,32,[.nl,.int .i64 0]⟩)))) (.node 2 (.node 1 zl0 zl0) (.node 1 (.leaf (some ⟨.sl 4,1,24,[.nl]⟩)) (.node 1 zl0 zl0)))) (.node 4 (.node 2 (.node 1 zl0 zl_) (.node 1 zl0 zl6)) (.node 2 (.node 1 zl0 zl0) (.node 1 zl0 (.node 1 zl0 zl0)))))))) (.node 69 (.node 34 (.node 17 (.node 8 (.node 4 (.node 2 (.node 1 zl_ zl0) (.node 1 zl0 zl0)) (.node 2 (.node 1 zl0 zl0) (.node 1 (.leaf (some ⟨.pt 146,1,8,[.np]⟩)) (.leaf (some ⟨.sl 5,1,24,[.nl]⟩))))) (.node 4 (.node 2 (.node 1 (.leaf (some ⟨.st [(0,143),(1,144)],2,32,[.np,.nl]⟩)) (.leaf (some ⟨.st [(0,143),(1,144)],2,32,[.np,.nl]⟩))) (.node 1 zl0 zl_)) (.node 2 (.node 1 zl_ zl_) (.node 1 zl0 (.node 1 zl0 zl0))))) (.node 8 (.node 4 (.node 2 (.node 1 zl0 zl_) (.node 1 zl0 zl0)) (.node 2 (.node 1 zl_ zl0) (.node 1 zl0 zl0))) (.node 4 (.node 2 (.node 1 (.leaf (some ⟨.st [(0,33)],2,16,[.int .i64 0,.int .i64 0]⟩)) (.leaf (some ⟨.st [(0,33)],2,16,[.int .i64 0,.int .i64 0]⟩))) (.node 1 zl_ (.leaf (some ⟨.st [(0,58),(1,3)],2,32,[.nl,.int .i64 0]⟩)))) (.node 2 (.node 1 (.leaf (some ⟨.st [(0,58),(1,3)],2,32,[.nl,.int .i64 0]⟩)) (.leaf (some ⟨.st [(0,166)],2,32,[.nl,.int .i64 0]⟩))) (.node 1 (.leaf (some ⟨.st [(0,166)],2,32,[.nl,.int .i64 0]⟩)) (.node 1 zl0 zl0)))))) (.node 17 (.node 8 (.node 4 (.node 2 (.node 1 zl0 zl0) (.node 1 (.leaf (some ⟨.pt 85,1,8,[.np]⟩)) (.leaf (some ⟨.pt 28,1,8,[.np]⟩)))) (.node 2 (.node 1 zl0 (.leaf (some ⟨.sl 22,1,24,[.nl]⟩))) (.node 1 zl0 zl0))) (.node 4 (.node 2 (.node 1 zl0 zl_) (.node 1 zl0 zl0)) (.node 2 (.node 1 zl0 zl0) (.node 1 zl0 (.node 1 zl0 (.leaf (some ⟨.st [(0,43),(4,40),(5,24),(6,3),(7,33)],9,128,[.int .i64 0,.int .i64 0,.str [],.nl,.nl,.nl,.int .i64 0,.int .i64 0,.int .i64 0]⟩))))))) (.node 9 (.node 4 (.node 2 (.node 1 (.leaf (some ⟨.st [(0,43),(4,40),(5,24),(6,3),(7,33)],9,128,[.int .i64 0,.int .i64 0,.str [],.nl,.nl,.nl,.int .i64 0,.int .i64 0,.int .i64 0]⟩)) zl0) (.node 1 zl0 zl0)) (.node 2 (.node 1 zl0 (.leaf (some ⟨.pt 5,1,8,[.np]⟩))) (.node 1 zl0 (.node 1 zl0 zl0)))) (.node 4 (.node 2 (.node 1 zl0 zl0) (.node 1 zl0 (.leaf (some ⟨.pt 166,1,8,[.np]⟩)))) (.node 2 (.node 1 zl0 zl0) (.node 1 zl0 (.node 1 zl0 zl0))))))) (.node 34 (.node 17 (.node 8 (.node 4 (.node 2 (.node 1 zl0 zl0) (.node 1 zl0 zl0)) (.node 2 (.node 1 zl0 zl_) (.node 1 zl0 zl0))) (.node 4 (.node 2 (.node 1 zl0 zl0) (.node 1 zl_ zl0)) (.node 2 (.node 1 zl0 zl0) (.node 1 zl0 (.node 1 zl_ zl4))))) (.node 8 (.node 4 (.node 2 (.node 1 zl0 zl0) (.node 1 zl_ zl0)) (.node 2 (.node 1 zl_ zl0) (.node 1 zl0 zl0))) (.node 4 (.node 2 (.node 1 zl_ zl0) (.node 1 zl_ zl0)) (.node 2 (.node 1 zl_ zl0) (.node 1 zl0 (.node 1 zl0 zl0)))))) (.node 17 (.node 8 (.node 4 (.node 2 (.node 1 zl0 zl0) (.node 1 zl_ (.leaf (some ⟨.int .u32,1,4,[.int .u32 0]⟩)))) (.node 2 (.node 1 zl_ zl0) (.node 1 zl4 zl0))) (.node 4 (.node 2 (.node 1 zl0 zl_) (.node 1 zl0 zl0)) (.node 2 (.node 1 zl_ zl0) (.node 1 zl0 (.node 1 zl0 zl0))))) (.node 9 (.node 4 (.node 2 (.node 1 zl0 zl_) (.node 1 zl_ zl0)) (.node 2 (.node 1 zl0 (.leaf (some ⟨.st [(0,17),(1,17),(2,17),(3,9)],4,40,[.np,.np,.np,.str []]⟩))) (.node 1 (.leaf (some ⟨.st [(0,17),(1,17),(2,17),(3,9)],4,40,[.np,.np,.np,.str []]⟩)) (.node 1 (.leaf (some ⟨.ar 0 16,0,0,[]⟩)) (.leaf (some ⟨.st [(0,264)],0,0,[]⟩)))))) (.node 4 (.node 2 (.node 1 (.leaf (some ⟨.st [(0,264)],0,0,[]⟩)) zl0) (.node 1 zl1 zl1)) (.node 2 (.node 1 zl0 zl5) (.node 1 zl5 (.node 1 (.leaf (some ⟨.st [(0,12),(1,12),(2,243),(3,268),(4,5),(5,5),(6,269),(7,270),(8,193),(9,271),(10,272)],11,48,[.int .u64 0,.int .u64 0,.int .u32 0,.int .u8 0,.int .u8 0,.int .u8 0,.int .u8 0,.zv 1,.np,.int .i32 0,.int .i32 0]⟩)) (.leaf (some ⟨.st [(0,12),(1,12),(2,243),(3,268),(4,5),(5,5),(6,269),(7,270),(8,193),(9,271),(10,272)],11,48,[.int .u64 0,.int .u64 0,.int .u32 0,.int .u8 0,.int .u8 0,.int .u8 0,.int .u8 0,.zv 1,.np,.int .i32 0,.int .i32 0]⟩))))))))))
theorem trw:tr.wf=true:=by kernel_rfl
theorem tok:Tok Tryz.prog tr.flat:=by unfold Tok;kernel_rfl
theorem tg {t:Nat}{i:TI}(h:tr.get t=some i):tr.flat[t]?=some (some i):=Tr.get_ok trw h
theorem mixed:Tryz.prog.follows .mixedOrders=true:=by kernel_rfl
section
variable {QP:Value→Prop}{ro:Option Nat}{n:Nat}{ops:Array Oper}{draw:Bool}{k k':Nat}{e:Nat→Option V}{h0:cF}{d0:List Nat}{st':St}{pre pre':REs}{tr':Tr}{ob:List Prop}{kf:List Nat}{id:Nat}
theorem ag {Q:Exit→St→Prop}(hs:List (Nat×Hn)) (h:vT Tryz.prog tr true false n ops.toList hs 1000 0 ops.toList e h0 d0 [] []=some (st',k',pre',ob)) (hq:Q .normal st')
  (hc:iX ob:=by repeat (first | exact trivial | refine⟨by first | omega | assumption | exact⟨by kernel_rfl,by assumption⟩ | rfl | (simp only[Bu,List.length_nil];omega) | (simp;done) | (simp;omega),?_⟩)) (h1:Nat.beq k' ops.size=true:=by rfl) (h2:(!draw || (dA (preds ops) pre'.reverse []&&eJ ops))=true:=by kernel_rfl):AWp ro Tryz.prog n kf (.region id ops draw) ⟨e,h0,d0⟩ Q:=
 aSh mixed trw tok h hc h1 h2 hq
theorem agN {Q:Exit→St→Prop}(hs:List (Nat×Hn)) (h:vT Tryz.prog tr true true n ops.toList hs 1000 0 ops.toList e h0 d0 [] []=some (st',k',pre',ob)) (hq:Q .normal st')
  (hc:iX ob:=by repeat (first | exact trivial | refine⟨by first | omega | assumption | exact⟨by kernel_rfl,by assumption⟩ | rfl | (simp only[Bu,List.length_nil];omega) | (simp;done) | (simp;omega),?_⟩)) (h1:Nat.beq k' ops.size=true:=by rfl) (h2:(!draw || (dA (preds ops) pre'.reverse []&&eJ ops))=true:=by kernel_rfl):AWp ro Tryz.prog n kf (.region id ops draw) ⟨e,h0,d0⟩ Q:=
 aSh mixed trw tok h hc h1 h2 hq
theorem ak {Q:St→Prop}(m:Nat) (hs:List (Nat×Hn)) (h:vT Tryz.prog tr true false n ops.toList hs m k (ops.toList.drop k) e h0 d0 pre []=some (st',k',pre',ob)) (q:kK QP Tryz.prog n ops draw k' st' pre' Q)
  (hc:iX ob:=by repeat (first | exact trivial | refine⟨by first | omega | assumption | exact⟨by kernel_rfl,by assumption⟩ | rfl | (simp only[Bu,List.length_nil];omega) | (simp;done) | (simp;omega),?_⟩)):kK QP Tryz.prog n ops draw k ⟨e,h0,d0⟩ pre Q:=
 ax_ m trw tok h hc q
theorem akN {Q:St→Prop}(m:Nat) (hs:List (Nat×Hn)) (h:vT Tryz.prog tr true true n ops.toList hs m k (ops.toList.drop k) e h0 d0 pre []=some (st',k',pre',ob)) (q:kK QP Tryz.prog n ops draw k' st' pre' Q)
  (hc:iX ob:=by repeat (first | exact trivial | refine⟨by first | omega | assumption | exact⟨by kernel_rfl,by assumption⟩ | rfl | (simp only[Bu,List.length_nil];omega) | (simp;done) | (simp;omega),?_⟩)):kK QP Tryz.prog n ops draw k ⟨e,h0,d0⟩ pre Q:=
 ax_ m trw tok h hc q
theorem agF {Q:Exit→St→Prop}{y:Nat→Option V}{q:cF}{d1:List Nat}{u:List Prop}{res:Res}{L:List (Nat×Option V)}(m:Nat) (hs:List (Nat×Hn)) (g1:vT Tryz.prog tr true false n ops.toList hs m 0 ops.toList e h0 d0 [] []=some (⟨y,q,d1⟩,k',pre',u))
  (g2:qB Tryz.prog tr true false n ops.toList hs (aWx (ops.toList.drop k')) 1000 k' (ops.toList.drop k') y q d1 [] pre' u=some res) (g3:tQ res (aWx (ops.toList.drop k'))=some L) (hq:Q .normal ⟨nV y L,q,d1⟩)
  (ho:res.obs:=by repeat (first | exact trivial | refine⟨fun _=>?_,fun _=>?_⟩ | refine⟨by first | omega | assumption | exact⟨by kernel_rfl,by assumption⟩ | rfl | (simp only[Bu,List.length_nil];omega) | (simp;done) | (simp;omega),?_⟩)) (A:res.good ops draw=true:=by kernel_rfl):AWp ro Tryz.prog n kf (.region id ops draw) ⟨e,h0,d0⟩ Q:=
 aV9 m mixed trw tok g1 g2 g3 ho A hq
theorem az {Q:St→Prop}(hq:Q ⟨e,h0,d0⟩) (h1:Nat.beq k ops.size=true:=by rfl) (h2:(!draw || (dA (preds ops) pre.reverse []&&eJ ops))=true:=by kernel_rfl):kK QP Tryz.prog n ops draw k ⟨e,h0,d0⟩ pre Q:=z_ h1 h2 hq
theorem sgh {Q:Exit→St→Prop}{y:Code}(hs:List (Nat×Hn)) (h:vT Tryz.prog tr true false n ops.toList hs 1000 0 ops.toList e h0 d0 [] []=some (st',k',pre',ob)) (hq:AWp ro Tryz.prog n kf y st' Q)
  (hc:iX ob:=by repeat (first | exact trivial | refine⟨by first | omega | assumption | exact⟨by kernel_rfl,by assumption⟩ | rfl | (simp only[Bu,List.length_nil];omega) | (simp;done) | (simp;omega),?_⟩)) (h1:Nat.beq k' ops.size=true:=by rfl) (h2:(!draw || (dA (preds ops) pre'.reverse []&&eJ ops))=true:=by kernel_rfl):AWp ro Tryz.prog n kf (.seq (.region id ops draw) y) ⟨e,h0,d0⟩ Q:=
 aA (ag hs h hq hc h1 h2)
theorem sg {Q:Exit→St→Prop}{y:Code}(h:vT Tryz.prog tr true false n ops.toList [] 1000 0 ops.toList e h0 d0 [] []=some (st',k',pre',ob)) (hq:AWp ro Tryz.prog n kf y st' Q)
  (hc:iX ob:=by repeat (first | exact trivial | refine⟨by first | omega | assumption | exact⟨by kernel_rfl,by assumption⟩ | rfl | (simp only[Bu,List.length_nil];omega) | (simp;done) | (simp;omega),?_⟩)) (h1:Nat.beq k' ops.size=true:=by rfl) (h2:(!draw || (dA (preds ops) pre'.reverse []&&eJ ops))=true:=by kernel_rfl):AWp ro Tryz.prog n kf (.seq (.region id ops draw) y) ⟨e,h0,d0⟩ Q:=
 sgh [] h hq hc h1 h2
theorem skh {Q:Exit→St→Prop}{y:Code}(m:Nat) (hs:List (Nat×Hn)) (h:vT Tryz.prog tr true false n ops.toList hs m 0 (ops.toList.drop 0) e h0 d0 [] []=some (st',k',pre',ob)) (q:kK (fun v=>∀e' h',Q (pan v) ⟨e',h',d0⟩) Tryz.prog n ops draw k' st' pre' (fun st'=>AWp ro Tryz.prog n kf y st' Q))
  (hc:iX ob:=by repeat (first | exact trivial | refine⟨by first | omega | assumption | exact⟨by kernel_rfl,by assumption⟩ | rfl | (simp only[Bu,List.length_nil];omega) | (simp;done) | (simp;omega),?_⟩)):AWp ro Tryz.prog n kf (.seq (.region id ops draw) y) ⟨e,h0,d0⟩ Q:=
 aA (aC mixed (ak m hs h q hc))
theorem sk {Q:Exit→St→Prop}{y:Code}(m:Nat) (h:vT Tryz.prog tr true false n ops.toList [] m 0 (ops.toList.drop 0) e h0 d0 [] []=some (st',k',pre',ob)) (q:kK (fun v=>∀e' h',Q (pan v) ⟨e',h',d0⟩) Tryz.prog n ops draw k' st' pre' (fun st'=>AWp ro Tryz.prog n kf y st' Q))
  (hc:iX ob:=by repeat (first | exact trivial | refine⟨by first | omega | assumption | exact⟨by kernel_rfl,by assumption⟩ | rfl | (simp only[Bu,List.length_nil];omega) | (simp;done) | (simp;omega),?_⟩)):AWp ro Tryz.prog n kf (.seq (.region id ops draw) y) ⟨e,h0,d0⟩ Q:=
 skh m [] h q hc
theorem kz {Q:St→Prop}(m:Nat) (h:vT Tryz.prog tr true false n ops.toList [] m k (ops.toList.drop k) e h0 d0 pre []=some (st',k',pre',ob)) (hq:Q st')
  (hc:iX ob:=by repeat (first | exact trivial | refine⟨by first | omega | assumption | exact⟨by kernel_rfl,by assumption⟩ | rfl | (simp only[Bu,List.length_nil];omega) | (simp;done) | (simp;omega),?_⟩)) (h1:Nat.beq k' ops.size=true:=by rfl) (h2:(!draw || (dA (preds ops) pre'.reverse []&&eJ ops))=true:=by kernel_rfl):kK QP Tryz.prog n ops draw k ⟨e,h0,d0⟩ pre Q:=
 ak m [] h (z_ h1 h2 hq) hc
end
set_option maxRecDepth 20000
abbrev Str:=List UInt8
def aK (s:Str):List C:=[.str s]
inductive Ty where
 | mk (form n:Int) (name:Str) (args:List Ty)
def Ty.form:Ty→Int | .mk f _ _ _=>f
def Ty.n:Ty→Int | .mk _ n _ _=>n
def Ty.name:Ty→Str | .mk _ _ s _=>s
def Ty.args:Ty→List Ty | .mk _ _ _ l=>l
mutual
def dK:Ty→List (List C)
 | .mk _ _ _ a=>dV a
def dV:List Ty→List (List C)
 | []=>[]
 | t::l=>[.int .i64 t.form,.int .i64 t.n,.str t.name,.sl 4 (dK t)]::dV l
end
def bF (t:Ty):List C:=[.int .i64 t.form,.int .i64 t.n,.str t.name,.sl 4 (dK t)]
theorem aP {α:Type}{l:List α}{k:Nat}{x:α}(f:α→List C) (h:l[k]?=some x):(l.map f)[k]?=some (f x):=by rw[Br,h];rfl
theorem aG {α:Type}{l:List α}{k:Nat}(h:k<l.length):∃x,l[k]?=some x:=⟨l[k],by simp[h]⟩
theorem gN:∀l:List Ty,dV l=l.map bF
 | []=>by simp[dV]
 | c::l=>by rw[dV,gN l];rfl
def Fits {α:Type}(l:List α):Prop:=l.length≤1152921504606846976
theorem aP5 (l:List Str) (s:Str) (hl:Fits l):aW Tryz.prog 173 [.one (.c (.sl 1 (l.map aK))),Go.AM.T s] [] (B (decide (s∈l))) []:=by
 unfold Fits at hl;refine b9 (n:=18) tok Tryz.func173 rfl rfl rfl ?_;refine sg rfl (aA (sg rfl (aF (aJ (fun k:Nat=>mk [(0,.one (.c (.sl 1 (l.map aK)))),(1,Go.AM.T s),(5,I .i64 k)] []) (fun k=>k≤l.length∧s∉l.take k) (fun k=>l.length-k) 0 ⟨Ab _,by simp⟩ (.list (fun i=>i) ⟨rfl,rfl,rfl,trivial⟩ trivial rfl) ?_))));intro k ⟨J,hm⟩;refine aA (sg rfl (aB rfl (fun hb=>?_) (fun hb=>?_)))
 ·refine aD ?_;have u:k<l.length:=by simpa using hb
  obtain⟨x,hx⟩:=aG u;have E:=aP aK hx;refine aA (aF (sgh [(2,.row k (aK x))] rfl (aB rfl (fun hb=>?_) (fun hb=>?_))))
  ·refine sg rfl (aE ?_);have q:x=s:=by simpa using hb
   have:s∈l:=by rw[←q];exact ε hx
   exact⟨.inr rfl,⟨_,_,.tmp rfl .nil,.cons .refl .nil,by simp[aNy,this]⟩,trivial,rfl⟩
  ·refine aD (ag [] rfl ⟨k+1,⟨u,?_⟩,by dsimp only;omega,.list (fun i=>i) ⟨rfl,rfl,rfl,trivial⟩ trivial rfl⟩);rw[Bh,hx];have q:¬x=s:=by simpa using hb
   have y:¬s=x:=fun e=>q e.symm
   simp[hm,y]
 ·refine aH ?_;have A:k=l.length:=by
   have:¬k<l.length:=by simpa using hb
   omega
  refine sg rfl (aE ?_);rw[A,Al] at hm;exact⟨.inr rfl,⟨_,_,.tmp rfl .nil,.cons .refl .nil,by simp[aNy,hm]⟩,trivial,rfl⟩
def eB (n k:Int):Int:=(if n<0 then -(n+1) else n)%k
def i64 (n:Int):Prop:= -9223372036854775808≤n∧n≤9223372036854775807
theorem dY (n:Int) {k:Int}(q:0<k):0≤eB n k∧eB n k<k:=⟨Int.emod_nonneg _ (by omega),Int.emod_lt_of_pos _ q⟩
theorem pW (n k:Int) (hn:i64 n) (q:1≤k):aW Tryz.prog 62 [I .i64 n,I .i64 k] [] (I .i64 (eB n k)) []:=by
 unfold i64 at hn;refine b9 (n:=13) tok Tryz.func62 rfl rfl rfl ?_;refine sg rfl (aA (sg rfl (aB rfl (fun hb=>?_) (fun hb=>?_))))
 ·have h0:n<0:=by simpa using hb
  exact ag [] rfl (sg rfl (aE ⟨.inr rfl,⟨_,_,.tmp rfl .nil,.cons .refl .nil,by simp[aNy,eB,h0]⟩,trivial,rfl⟩))
 ·have h0:¬n<0:=by simpa using hb
  exact aD (sg rfl (aE ⟨.inr rfl,⟨_,_,.tmp rfl .nil,.cons .refl .nil,by simp[aNy,eB,h0]⟩,trivial,rfl⟩))
set_option maxRecDepth 100000
set_option maxHeartbeats 4000000
def plB (c:Nat):Bool:=decide ((97≤c∧c≤122)∨(65≤c∧c≤90)∨(48≤c∧c≤57))
theorem aCm (c:Nat) (w:World) (h:c<256):Calls Tryz.prog 191 #[.int .u8 (c:Int)] w fun e w'=>e=.returned (.bool (plB c))∧w=w':=by
 go_enter Tryz.func191,Tryz.ntmps191
 go_wp2
 all_goals go_ret
 all_goals refine⟨congrArg Ending.returned (congrArg Value.bool (a₂:=plB c) ?_),rfl⟩
 all_goals (unfold plB;rw[Bz];simp;omega)
def fiB (r lo hi:Int):Bool:=decide (lo≤r∧r≤hi)
theorem aC1 (r lo hi:Int) (a b:Nat) (w:World) (ha:w.cell? ⟨a,0,none⟩=some (.int .i32 lo)) (hb:w.cell? ⟨b,0,none⟩=some (.int .i32 hi)):
  Calls Tryz.prog 190 #[.int .i64 0,.int .i32 r,.pointer (some ⟨a,0,none⟩),.pointer (some ⟨b,0,none⟩)] w fun e w'=>e=.returned (.bool (fiB r lo hi))∧w=w':=by
 go_enter Tryz.func190,Tryz.ntmps190
 go_wp2
 all_goals go_ret
 all_goals refine⟨congrArg Ending.returned (congrArg Value.bool (a₂:=fiB r lo hi) ?_),rfl⟩
 all_goals (unfold fiB;rw[Bz];simp;omega)
def nmQ (c:Nat) (lo hi:Int):Bool:=fiB c lo hi&&(plB c || decide (c=39∨c=95))
def a0u (c:Nat) (lo hi:Int) (w:World) (e:Ending) (w':World):Prop:=e=.returned (.bool (nmQ c lo hi))∧∃os:Array Obj,w'={ w with heap:=w.heap++os }
def a3h (c:Nat) (lo hi:Int) (pos:Nat):Prop:=pos=0∨(pos=1∧nmQ c lo hi=true)
def NmW (c:UInt8) (lo hi:Int) (w:World) (pos:Nat):World:=((w.alloc (.cells #[.int .i32 lo] 21)).alloc (.cells #[.int .i32 hi] 21)).iter ⟨#[c]⟩ pos
theorem aNi (c:UInt8) (lo hi:Int) (w:World) (pos:Nat):∃os:Array Obj,NmW c lo hi w pos={ w with heap:=w.heap++os }:=⟨#[.cells #[.int .i32 lo] 21,.cells #[.int .i32 hi] 21,.stringIter ⟨#[c]⟩ pos],by
 simp only[NmW,World.iter,World.alloc]
 congr 1⟩
theorem a0s (c:UInt8) (lo hi:Int) (w:World) (pos:Nat):(NmW c lo hi w pos).cell? ⟨w.heap.size,0,none⟩=some (.int .i32 lo):=by
 have h:(NmW c lo hi w pos).heap[w.heap.size]?=some (.cells #[.int .i32 lo] 21):=by
  show(((w.heap.push _).push _).push _)[w.heap.size]?=_;rw[Array.getElem?_push_lt (by rw[Bo,Bo];omega),Array.getElem_push_lt (by rw[Bo];omega),Array.getElem_push_eq]
 unfold World.cell?;rw[h];rfl
theorem a0t (c:UInt8) (lo hi:Int) (w:World) (pos:Nat):(NmW c lo hi w pos).cell? ⟨w.heap.size+1,0,none⟩=some (.int .i32 hi):=by
 have h:(NmW c lo hi w pos).heap[w.heap.size+1]?=some (.cells #[.int .i32 hi] 21):=by
  show(((w.heap.push _).push _).push _)[w.heap.size+1]?=_;rw[Array.getElem?_push_lt (by rw[Bo,Bo];omega),Array.getElem_push];rw[dif_neg (by rw[Bo];omega)]
 unfold World.cell?;rw[h];rfl
theorem yI (c:UInt8) (lo hi:Int) (w:World) (pos:Nat):(NmW c lo hi w pos).iterPos (w.heap.size+2)=pos:=by
 have h:(NmW c lo hi w pos).heap[w.heap.size+2]?=some (.stringIter ⟨#[c]⟩ pos):=by
  show(((w.heap.push _).push _).push _)[w.heap.size+2]?=_;rw[Array.getElem?_push,ζ (by rw[Bo,Bo])]
 unfold World.iterPos;rw[h]
theorem aRp {c:Nat}{lo hi:Int}(h1:fiB c lo hi=true) (h2:plB c=true∨c=39∨c=95):nmQ c lo hi=true:=by
 unfold nmQ;rw[h1];rcases h2 with h | h
 ·rw[h];rfl
 ·rw[θ h,Bool.or_true];rfl
theorem aOv {c:Nat}{lo hi:Int}(h:¬fiB c lo hi=true∨(¬plB c=true∧¬c=39∧¬c=95)):nmQ c lo hi=false:=by
 unfold nmQ;rcases h with h | ⟨h1,h2,q⟩
 ·rw[Cb _ |>.mp h];rfl
 ·rw[Cb _ |>.mp h1,φ (by omega),Bool.or_self,Bool.and_false]
theorem vI (c:UInt8) (lo hi:Int) (w:World) (hc:c.toNat<128):Calls Tryz.prog 147 #[.string ⟨#[c]⟩,.int .i32 lo,.int .i32 hi] w (a0u c.toNat lo hi w):=by
 go_enter Tryz.func147,Tryz.ntmps147
 go_wp2
 go_loopw [] (fun wr=>∃pos:Nat,a3h c.toNat lo hi pos∧wr=NmW c lo hi w pos) (fun wr=>1-wr.iterPos (w.heap.size+2))
 case atStart=>exact⟨0,.inl rfl,rfl⟩
 case round=>
  obtain⟨pos,A,rfl⟩:=hrel;have hsz:((w.alloc (.cells #[.int .i32 lo] 21)).alloc (.cells #[.int .i32 hi] 21)).heap.size=w.heap.size+1+1:=by
   show((w.heap.push _).push _).size=_;rw[Bo,Bo]
  rcases A with rfl | ⟨rfl,q⟩
  ·have hn:∀ty,(Instr.next (.pointer (some ⟨w.heap.size+1+1,0,none⟩)) true ty).run Tryz.prog (NmW c lo hi w 0)=.ok (.tuple #[.bool true,.int .i64 0,.int .i32 (c.toNat:Int)]) (NmW c lo hi w 1):=fun ty=>by
    have:=run_next_ascii (P:=Tryz.prog) ((w.alloc (.cells #[.int .i32 lo] 21)).alloc (.cells #[.int .i32 hi] 21)) ⟨#[c]⟩ 0 ty (show 0<1 by decide) hc;rw[hsz] at this;exact this
   clear hsz;have u:=a0s c lo hi w 1;have y:=a0t c lo hi w 1;have B:(c.toNat:Int)≤127:=by omega
   have E:0≤(c.toNat:Int):=by omega
   go_wp2_with (first | (go_at_call 190;(with_reducible refine(aC1 _ _ _ _ _ _ u y).mono ?_);rintro e w' ⟨rfl,rfl⟩) | (go_at_call 191;(with_reducible refine(aCm _ _ (by omega)).mono ?_);rintro e w' ⟨rfl,rfl⟩))
   all_goals first
    | exact⟨⟨1,.inr ⟨rfl,aRp (by assumption) (.inl (by assumption))⟩,rfl⟩,by rw[yI,yI];decide⟩
    | exact⟨⟨1,.inr ⟨rfl,aRp (by assumption) (.inr (by simp at *;omega))⟩,rfl⟩,by rw[yI,yI];decide⟩
    | (go_ret;exact⟨by rw[aOv (.inl (by assumption))];rfl,aNi c lo hi w 1⟩)
    | (go_ret;exact⟨by rw[aOv (.inr ⟨by assumption,by simp at *;omega,by simp at *;omega⟩)];rfl,aNi c lo hi w 1⟩)
  ·have hn:∀ty,(Instr.next (.pointer (some ⟨w.heap.size+1+1,0,none⟩)) true ty).run Tryz.prog (NmW c lo hi w 1)=.ok (.tuple #[.bool false]) (NmW c lo hi w 1):=fun ty=>by
    have:=run_next_end (P:=Tryz.prog) ((w.alloc (.cells #[.int .i32 lo] 21)).alloc (.cells #[.int .i32 hi] 21)) ⟨#[c]⟩ 1 ty (show ¬1<1 by decide);rw[hsz] at this;exact this
   clear hsz
   go_wp2
   go_ret
   exact⟨by rw[q];rfl,aNi c lo hi w 1⟩
def nA (b:Bool) (w:World) (e:Ending) (w':World):Prop:=e=.returned (.bool b)∧∃os:Array Obj,w'={ w with heap:=w.heap++os }
def a0r (s:ByteArray) (lo hi:Int) (w:World) (pos:Nat):World:=((w.alloc (.cells #[.int .i32 lo] 21)).alloc (.cells #[.int .i32 hi] 21)).iter s pos
theorem aNh (s:ByteArray) (lo hi:Int) (w:World) (pos:Nat):∃os:Array Obj,a0r s lo hi w pos={ w with heap:=w.heap++os }:=⟨#[.cells #[.int .i32 lo] 21,.cells #[.int .i32 hi] 21,.stringIter s pos],by
 simp only[a0r,World.iter,World.alloc]
 congr 1⟩
theorem zA {P:Program}(w:World) (s:ByteArray) (pos:Nat) (ty:TypeId) (r k:Nat) (h:pos<s.size) (q:Utf8.decode s pos=(r,k)):
  (Instr.next (.pointer (some ⟨w.heap.size,0,none⟩)) true ty).run P (w.iter s pos)=.ok (.tuple #[.bool true,.int .i64 pos,.int .i32 r]) (w.iter s (pos+k)):=by
 simp only[Instr.next,getObj,setObj,Aa,Sem.run,World.iter_heap,Result.andThen,h,Cu,q,World.iter_set];simp[goInt]
theorem aEs (s:ByteArray) (lo hi:Int) (w:World) (r k:Nat) (h:0<s.size) (q:Utf8.decode s 0=(r,k)) (y:127<r):Calls Tryz.prog 147 #[.string s,.int .i32 lo,.int .i32 hi] w (nA false w):=by
 go_enter Tryz.func147,Tryz.ntmps147
 go_wp2
 go_loopw [] (fun wr=>wr=a0r s lo hi w 0) (fun _=>1)
 case atStart=>rfl
 case round=>
  have hsz:((w.alloc (.cells #[.int .i32 lo] 21)).alloc (.cells #[.int .i32 hi] 21)).heap.size=w.heap.size+1+1:=by
   show((w.heap.push _).push _).size=_;rw[Bo,Bo]
  subst hrel;have hn:∀ty,(Instr.next (.pointer (some ⟨w.heap.size+1+1,0,none⟩)) true ty).run Tryz.prog (a0r s lo hi w 0)=.ok (.tuple #[.bool true,.int .i64 0,.int .i32 (r:Int)]) (a0r s lo hi w (0+k)):=fun ty=>by
   have:=zA (P:=Tryz.prog) ((w.alloc (.cells #[.int .i32 lo] 21)).alloc (.cells #[.int .i32 hi] 21)) s 0 ty r k h q;rw[hsz] at this;exact this
  clear hsz;have u:127<(r:Int):=by omega
  go_wp2
  all_goals (go_ret;exact⟨rfl,by first | exact aNh s lo hi w k | exact aNh s lo hi w (0+k)⟩)
end Go.Proofs.YtkhgpgihmphfdaaGreatDoor
namespace Go.AM
open Go Go.Proofs Go.Shelf
theorem a0n {ro:Option Nat}{P:Program}{n:Nat}{kf:List Nat}{c:Code}{st:St}{Q:Exit→St→Prop}(t:Nat) {es:Nat}{l:List (List C)}(h:st.e t=some (.one (.c (.sl es l)))) (h1:l=[]→AWp ro P n kf c ⟨upd st.e t (some (.one (.c .nl))),st.h,st.d⟩ Q)
  (h2:AWp ro P n kf c ⟨upd st.e t (some (.one (.c (.sn es l)))),st.h,st.d⟩ Q):AWp ro P n kf c st Q:=by
 intro G S μ a w Q' A hs B;have hv:=hs.env t _ h
 have key:∀x:V,aS S μ st.h x (a.tmps.getD t undef)→Sim G n S μ ⟨upd st.e t (some x),st.h,st.d⟩ a w:=fun x hx=>⟨hs.inv,hs.size,hs.defers,fun s u e=>by
  by_cases q:s=t
  ·subst q;have:some x=some u:=by rw[←e];exact(aN _ _ _).symm
   cases this;exact hx
  ·exact hs.env s u (by rw[←e];exact(bJ _ _ _ q).symm)⟩
 simp only[aS,aZ,Rep] at hv;obtain⟨y,len,cap,E,U,Y,e4,e5,e6,b,o,e7,e8⟩:=hv;cases y with
 | none=>
  obtain⟨e9,I⟩:=e5 rfl;have hl:l=[]:=Aw (by omega);exact h1 hl G S μ a w Q' A (key _ (by simp only[aS,aZ,Rep];rw[E,e9,I])) B
 | some y=>
  obtain⟨b',o',sp⟩:=y;have J:=e6 _ rfl;obtain⟨M,O⟩:=e7 _ rfl;dsimp only at J M O;subst M O;exact h2 G S μ a w Q' A (key _ (by simp only[aS,aZ,Rep];exact⟨b',o',sp,len,cap,E,U,Y,e4,J,e8⟩)) B
end Go.AM
namespace Go.AM
open Go Go.Proofs
section
variable {QP:Value→Prop}{P:Program}{n:Nat}{ops:Array Oper}{draw:Bool}{k d:Nat}{st:St}{pre:REs}{Q:St→Prop}{o:Oper}{f:FuncId}{xs:Array Operand}{ts:Array TypeId}{ids:List Nat}{args:List V}{res:V}{hin hout:List (Nat×AObj)}
theorem kcG {j t:Nat}{want b:Bool}(E:aW P f args hin res hout)
  (I:kK QP P n ops draw (k+1) ⟨upd st.e d (some res),jT st.h (outs hout),st.d⟩ ((⟨t::c7 xs.toList,ids++keys hin++keys hout⟩,⟨some (d,some res),outs hout⟩)::pre) Q)
  (hb:jO P f:=by exact aMm (by kernel_rfl)) (ho:ops[k]?=some o:=by rfl) (J:o.guard=some (j,want):=by rfl) (hj:(ops[j]?).bind (·.dst)=some t:=by rfl) (y:st.e t=some (.one (.c (.bool b))):=by rfl) (hw:b=want:=by first | rfl | assumption) (A:o.op=.call { callee:=.value (.func f),args:=xs,argTypes:=ts }:=by rfl) (M:o.dst=some d:=by rfl) (B:Nat.blt d n=true:=by rfl)
  (ha:ArgsV st ids xs.toList args:=by repeat (first | exact .nil | (apply Go.AM.ArgsV.cons rfl;(first | exact .refl | exact .one (.c .nl .nil) | exact .one (.c .sn .nil) | exact .one (.hs rfl (by first | rfl | simp) (by first | rfl | (simp;done) | (simp[Go.AM.take_map];done) | exact Go.AM.take_map.symm) .nil) | exact Go.AM.hs_all rfl rfl (by first | rfl | assumption | (simp;done) | (simp;omega)) (by first | rfl | assumption | (simp;done)) | ((first | apply Go.AM.Conv.pa | apply Go.AM.Conv.agg);repeat (first | exact .nil | apply Go.AM.PureL.c .refl | apply Go.AM.PureL.c .nl | apply Go.AM.PureL.c .sn | (apply Go.AM.PureL.hs;rfl;(first | rfl | simp);(first | rfl | (simp;done) | (simp[Go.AM.take_map];done) | exact Go.AM.take_map.symm))))))))
  (u:iM (fun p=>st.h p.1=some p.2) hin:=by repeat (first | exact trivial | refine⟨rfl,?_⟩)) (q:iM (fun p=>p.1∈keys hin∨st.h p.1=none) hout:=by repeat (first | exact trivial | refine⟨.inr rfl,?_⟩ | refine⟨.inl (by decide),?_⟩ | refine⟨.inl (by repeat (first | exact List.Mem.head _ | apply List.Mem.tail)),?_⟩)) (hok:gG args hin=true:=by rfl):kK QP P n ops draw k st pre Q:=
 k_ (GStep.yes ho J hj y hw (aJ0 hin hout hb A M (kE B) E ha u q hok)) I
end
end Go.AM
namespace Go.AM
open Go
theorem nZ {S:Sto}{c:C}{v:Value}(h:Rep S c v):∀m:Nat,bZ S (List.replicate m c) (List.replicate m v)
 | 0=>by simp[bZ]
 | m+1=>by
  rw[replicate_succ,replicate_succ];simp only[bZ];exact⟨v,_,rfl,h,nZ h m⟩
theorem xB (v:Value) (m:Nat):(madeCells #[v] m).toList=List.replicate m v:=by
 refine List.eq_replicate_iff.2 ⟨by simp[madeCells],fun x hx=>?_⟩;simp only[madeCells,Array.toList_map,C7] at hx;obtain⟨i,_,rfl⟩:=hx;simp[Nat.mod_one]
section
variable {P:Program}{n:Nat}
theorem zK {o:Oper}{st:St}{d:Nat}{T:TT}{t e:TypeId}{i q:TI}{x y:Operand}{m:Nat}{c:C}{J M:IntKind}(id:Nat) (O:Tok P T) (ho:o.op=.makeSlice t x y) (hd:o.dst=some d) (U:d<n)
  (hi:T[t]?=some (some i)) (hk:i.k=.sl e) (Y:T[e]?=some (some q)) (B:q.size=1) (hz:q.zero=[c]) (hx:opv st x=some (I J m)) (hy:opv st y=some (I M m)) (hm:m≤1000000) (hb:q.bytes*m≤281474976710656) (hid:st.h id=none):
  Step P n o st ⟨opr x++opr y,[id]⟩ ⟨some (d,some (.one (.hs id 0 m m))),[(id,some (.arr e q.size (List.replicate m [c]) 0))]⟩:=by
 refine Step.new hd U hid (by simp) fun st' ha hid' G S μ a w hs=>?_
 obtain⟨inf,dd,z,g1,g2,g3,g4,g5,g6,g7,g8,g9⟩:=(O.get Y).ex;have vx:=aO hs hx fun t ht=>ha.1 t (by simp[ht])
 have vy:=aO hs hy fun t ht=>ha.1 t (by simp[ht])
 simp only[aS,aZ,Rep] at vx vy;have u:bZ S q.zero z.cells.toList:=iY (S:=S) g7;rw[hz] at u;simp only[bZ] at u;obtain⟨v,us,hzv,hv,hus⟩:=u;subst hus;have hzc:z.cells= #[v]:=by rw[←Array.toList_inj,hzv]
 have hb':(inf.bytes:Int)*(m:Int)≤281474976710656:=by
  rw[g4];have h:((q.bytes*m:Nat):Int)≤281474976710656:=by omega
  rwa [Int.natCast_mul] at h
 have A:=run_make (P:=P) w t e inf z ((O.get hi).slice hk) g1 g6 J M (m:Int) (m:Int) (by omega) (Int.le_refl _) hb' (by omega);rw[g3,B,mul_one,Int.toNat_natCast,hzc] at A;have E:=xB v m;generalize madeCells #[v] m=out at A E;refine⟨_,_,.slice (some ⟨w.heap.size,0,none⟩) m m,(0,m),?_,WChg.alloc w (.cells out e),?_,?_⟩
 ·simp only[execOp,ho,vx,vy,Aa,A,δ,Ad]
 ·refine⟨fun r hr=>by rw[(List.mem_replicate.1 hr).2,B];rfl,.inr ⟨w.heap.size,0,m,out.toList,aN _ _ _,B2 w _,by simp[E,B],by simp,?_,?_,fun _ o _=>fU hs.inv o,fun o _=>fU hs.inv o,fun e=>by cases e⟩⟩
  ·have:(1000000:Nat)≤maxLen:=by decide
   exact⟨by omega,rE hs.inv⟩
  ·rw[E,B];simp only[B8,C1,mul_one];rw[Au (by simp),List.flatten_replicate_singleton];exact nZ hv m
 ·simp only[aS,aZ];exact⟨⟨_,_,_,rfl⟩,.inr ⟨e,q.size,_,0,aN _ _ _,by simp,fun _=>⟨by simp,.inr ⟨w.heap.size,0,m,aN _ _ _,by simp⟩⟩⟩⟩
end
theorem Inv.grownR {G:Ctx}{S:Sto}{μ:Mu}{H:cF}{w:World}(h:Inv G S μ H w) (k:Nat) (os:Array Obj):Inv G S μ H ({ w with heap:=w.heap++os,drawn:=w.drawn+k }):=by
 have hold:∀b:Nat,b<w.heap.size→({ w with heap:=w.heap++os,drawn:=w.drawn+k }:World).heap[b]?=w.heap[b]?:=fun b hb=>by
  show(w.heap++os)[b]?=w.heap[b]?;exact B4 hb
 have hsz:w.heap.size≤({ w with heap:=w.heap++os,drawn:=w.drawn+k }:World).heap.size:=by
  show w.heap.size≤(w.heap++os).size;rw[Array.size_append];omega
 obtain⟨h1,h2,q,u,y,A,B,E,I⟩:=h;refine⟨⟨fun b o v e=>?_,fun b mk e=>?_⟩,fun id o e=>(h2 id o e).evolve (Evolve.refl _ _ _) rfl fun b c hm=>⟨hold b ((h2 id o e).lt hm),fun _=>rfl,rfl⟩,q,u,?_,A,B,E,I⟩
 ·obtain⟨vs,t,J,g1,g2⟩:=h1.1 b o v e;exact⟨vs,t,J,by rw[hold b (cA g1)];exact g1,g2⟩
 ·have g:=h1.2 b mk e;obtain⟨_,g2⟩:=MK.holds_some g;rw[hold b (cA g2)];exact g
 ·obtain⟨f1,f2,f3,f4,f5,f6⟩:=y;exact⟨f1,f2,f3,le_trans f4 hsz,fun b hb M=>by rw[hold b (A8 hb f4)];exact f5 b hb M,f6⟩
end Go.AM
namespace Go.Proofs.YtkhgpgihmphfdaaGreatDoor
open Go Go.AM
set_option maxRecDepth 100000
set_option maxHeartbeats 4000000
def dgB (c:Nat):Bool:=decide (48≤c∧c≤57)
def sgB (c:Nat):Bool:=plB c || decide (c=39∨c=95)
def wiB (c lo hi:Int):Bool:=decide (lo≤c∧c≤hi)
theorem k8 (c lo hi:Int) (w:World):Calls Tryz.prog 223 #[.int .u8 c,.int .u8 lo,.int .u8 hi] w fun e w'=>e=.returned (.bool (wiB c lo hi))∧w=w':=by
 go_enter Tryz.func223,Tryz.ntmps223
 go_wp2
 all_goals go_ret
 all_goals refine⟨congrArg Ending.returned (congrArg Value.bool (a₂:=wiB c lo hi) ?_),rfl⟩
 all_goals (unfold wiB;rw[Bz];simp;omega)
theorem u3 (c:Nat) (w:World):Calls Tryz.prog 169 #[.int .u8 (c:Int)] w fun e w'=>e=.returned (.bool (dgB c))∧w=w':=by
 go_enter Tryz.func169,Tryz.ntmps169
 go_wp2
 all_goals go_ret
 all_goals refine⟨congrArg Ending.returned (congrArg Value.bool (a₂:=dgB c) ?_),rfl⟩
 all_goals (unfold dgB;rw[Bz];simp;omega)
theorem aGy (c:Nat) (w:World):Calls Tryz.prog 172 #[.int .u8 (c:Int)] w fun e w'=>e=.returned (.bool (sgB c))∧w=w':=by
 go_enter Tryz.func172,Tryz.ntmps172
 go_wp2_with (go_at_call 169;(with_reducible refine(u3 _ _).mono ?_);rintro e w' ⟨rfl,rfl⟩)
 all_goals go_ret
 all_goals refine⟨congrArg Ending.returned (congrArg Value.bool (a₂:=sgB c) ?_),rfl⟩
 all_goals (rw[Bz];unfold sgB plB;unfold dgB at *;simp at *;omega)
theorem zS (c:Nat) (w:World):Calls Tryz.prog 222 #[.int .u8 (c:Int)] w fun e w'=>e=.returned (.bool (plB c))∧w=w':=by
 go_enter Tryz.func222,Tryz.ntmps222
 go_wp2_with (go_at_call 223;first | ((with_reducible refine(k8 c 97 122 _).mono ?_);rintro e w' ⟨rfl,rfl⟩) | ((with_reducible refine(k8 c 65 90 _).mono ?_);rintro e w' ⟨rfl,rfl⟩) | ((with_reducible refine(k8 c 48 57 _).mono ?_);rintro e w' ⟨rfl,rfl⟩))
 all_goals go_ret
 all_goals refine⟨congrArg Ending.returned (congrArg Value.bool (a₂:=plB c) ?_),rfl⟩
 all_goals (rw[Bz];unfold plB;unfold wiB at *;simp at *;omega)
theorem aCu (s:ByteArray) (c:Int) (w:World):Calls Tryz.prog 100 #[.string s,.int .u8 c] w fun e w'=>e=.returned (.int .i64 (Lib.indexByte s.data.toList c.toNat.toUInt8))∧w=w':=by
 go_enter Tryz.func100,Tryz.ntmps100
 go_wp2
 rw[run_callFunc_extern Tryz.func146 (by kernel_rfl) (by kernel_rfl) (by kernel_rfl) (e:=Extern.BytealgIndexByte.indexByte) (by kernel_rfl),Lib.run_indexByteString];simp only[Result.andThen];rw[Oper.upon_value]
 go_wp2
 go_ret
 exact⟨rfl,rfl⟩
theorem mH (s:ByteArray) (c:Int) (w:World):Calls Tryz.prog 57 #[.string s,.int .u8 c] w fun e w'=>e=.returned (.int .i64 (Lib.indexByte s.data.toList c.toNat.toUInt8))∧w=w':=by
 go_enter Tryz.func57,Tryz.ntmps57
 go_wp2_with (go_at_call 100;(with_reducible refine(aCu _ _ _).mono ?_);rintro e w' ⟨rfl,rfl⟩)
 go_ret
 exact⟨rfl,rfl⟩
theorem tR (c:UInt8) (w:World) (hc:c.toNat<128):Calls Tryz.prog 104 #[.string ⟨#[c]⟩] w (nA (nmQ c.toNat 97 122) w):=by
 go_enter Tryz.func104,Tryz.ntmps104
 go_wp2_with (go_at_call 147;(with_reducible refine(vI c 97 122 _ hc).mono ?_);rintro e w' ⟨rfl,os,rfl⟩)
 go_ret
 exact⟨rfl,os,rfl⟩
theorem sV (c:UInt8) (w:World) (hc:c.toNat<128):Calls Tryz.prog 105 #[.string ⟨#[c]⟩] w (nA (nmQ c.toNat 65 90) w):=by
 go_enter Tryz.func105,Tryz.ntmps105
 go_wp2_with (go_at_call 147;(with_reducible refine(vI c 65 90 _ hc).mono ?_);rintro e w' ⟨rfl,os,rfl⟩)
 go_ret
 exact⟨rfl,os,rfl⟩
theorem aLe (c:UInt8) (hc:c.toNat<128):Utf8.encode (c.toNat:Int)=⟨#[c]⟩:=by
 have h:(c.toNat:Int).toNat=c.toNat:=by omega
 have hv:Utf8.valid (c.toNat:Int)=true:=by unfold Utf8.valid;simp;omega
 unfold Utf8.encode;rw[hv];simp[h,hc]
theorem aAd (s:ByteArray) (w:World) (r k:Nat) (h:0<s.size) (q:Utf8.decode s 0=(r,k)) (u:127<r):Calls Tryz.prog 104 #[.string s] w (nA false w):=by
 go_enter Tryz.func104,Tryz.ntmps104
 go_wp2_with (go_at_call 147;(with_reducible refine(aEs s 97 122 _ r k h q u).mono ?_);rintro e w' ⟨rfl,os,rfl⟩)
 go_ret
 exact⟨rfl,os,rfl⟩
theorem yV (s:ByteArray) (w:World) (r k:Nat) (h:0<s.size) (q:Utf8.decode s 0=(r,k)) (u:127<r):Calls Tryz.prog 105 #[.string s] w (nA false w):=by
 go_enter Tryz.func105,Tryz.ntmps105
 go_wp2_with (go_at_call 147;(with_reducible refine(aEs s 65 90 _ r k h q u).mono ?_);rintro e w' ⟨rfl,os,rfl⟩)
 go_ret
 exact⟨rfl,os,rfl⟩
def a06:List UInt8:=[48,49,50,51,52,53,54,55,56,57]
def sgS:List UInt8:=[48,49,50,51,52,53,54,55,56,57,39,95]
def ixB (l:List UInt8) (c:UInt8):Bool:=decide (0≤Lib.indexByte l c)
theorem lS {p:UInt8→Prop}(h:∀n:_root_.Fin 256,p (UInt8.ofNat n.val)) (c:UInt8):p c:=by
 have:=h ⟨c.toNat,c.toNat_lt⟩;rwa [show UInt8.ofNat c.toNat=c by simp] at this
theorem aOb (c:UInt8):(nmQ c.toNat 97 122 || (nmQ c.toNat 65 90 || ixB sgS c))=sgB c.toNat:=lS (p:=fun c=>(nmQ c.toNat 97 122 || (nmQ c.toNat 65 90 || ixB sgS c))=sgB c.toNat) (by decide+kernel) c
theorem a2o (c:UInt8):ixB a06 c=dgB c.toNat:=lS (p:=fun c=>ixB a06 c=dgB c.toNat) (by decide+kernel) c
theorem aAo (c:UInt8) (w:World) (hc:c.toNat<128):Calls Tryz.prog 106 #[.int .u8 (c.toNat:Int)] w (nA (sgB c.toNat) w):=by
 rw[←aOb]
 go_enter Tryz.func106,Tryz.ntmps106
 go_wp2_with (first | (go_at_call 104;rw[aLe c hc];(with_reducible refine(tR c _ hc).mono ?_);rintro e w' ⟨rfl,os,rfl⟩) | (go_at_call 105;rw[aLe c hc];(with_reducible refine(sV c _ hc).mono ?_);rintro e w' ⟨rfl,os,rfl⟩) | (go_at_call 57;(with_reducible refine(mH _ _ _).mono ?_);rintro e w' ⟨rfl,rfl⟩))
 all_goals go_ret
 ·exact⟨congrArg Ending.returned (congrArg Value.bool (a₂:=_) (by rename_i h;rw[h];rfl)),_,rfl⟩
 ·exact⟨congrArg Ending.returned (congrArg Value.bool (a₂:=_) (by simp[*])),_,rfl⟩
 ·exact⟨congrArg Ending.returned (congrArg Value.bool (a₂:=_) (by simp[*];rfl)),_,rfl⟩
theorem aLk (c:UInt8):128≤c.toNat→Utf8.decode ⟨#[c]⟩ 0=(65533,1):=lS (p:=fun c=>128≤c.toNat→Utf8.decode ⟨#[c]⟩ 0=(65533,1)) (by decide+kernel) c
theorem aUk (c:UInt8):128≤c.toNat→0<(Utf8.encode (c.toNat:Int)).size∧Utf8.decode (Utf8.encode (c.toNat:Int)) 0=(c.toNat,2):=lS (p:=fun c=>128≤c.toNat→0<(Utf8.encode (c.toNat:Int)).size∧Utf8.decode (Utf8.encode (c.toNat:Int)) 0=(c.toNat,2)) (by decide+kernel) c
theorem aKm (c:UInt8) (w:World):Calls Tryz.prog 104 #[.string ⟨#[c]⟩] w (nA (nmQ c.toNat 97 122) w):=by
 by_cases hc:c.toNat<128
 ·exact tR c w hc
 ·rw[aOv (.inl (by unfold fiB;simp;omega))];exact aAd _ w _ _ (by show 0<1;decide) (aLk c (by omega)) (by decide)
theorem aIv (c:UInt8) (w:World):Calls Tryz.prog 105 #[.string ⟨#[c]⟩] w (nA (nmQ c.toNat 65 90) w):=by
 by_cases hc:c.toNat<128
 ·exact sV c w hc
 ·rw[aOv (.inl (by unfold fiB;simp;omega))];exact yV _ w _ _ (by show 0<1;decide) (aLk c (by omega)) (by decide)
theorem a1l (c:UInt8):128≤c.toNat→ixB sgS c=sgB c.toNat:=lS (p:=fun c=>128≤c.toNat→ixB sgS c=sgB c.toNat) (by decide+kernel) c
theorem aHo (c:UInt8) (w:World):Calls Tryz.prog 106 #[.int .u8 (c.toNat:Int)] w (nA (sgB c.toNat) w):=by
 by_cases hc:c.toNat<128
 ·exact aAo c w hc
 have q:128≤c.toNat:=by omega
 obtain⟨h1,h2⟩:=aUk c q;rw[←a1l c q]
 go_enter Tryz.func106,Tryz.ntmps106
 go_wp2_with (first | (go_at_call 104;(with_reducible refine(aAd _ _ _ _ h1 h2 (by omega)).mono ?_);rintro e w' ⟨rfl,os,rfl⟩) | (go_at_call 105;(with_reducible refine(yV _ _ _ _ h1 h2 (by omega)).mono ?_);rintro e w' ⟨rfl,os,rfl⟩) | (go_at_call 57;(with_reducible refine(mH _ _ _).mono ?_);rintro e w' ⟨rfl,rfl⟩))
 all_goals go_ret
 all_goals exact⟨congrArg Ending.returned (congrArg Value.bool (a₂:=_) (by first | rfl | (simp[*];rfl) | simp[*])),_,rfl⟩
theorem aKv {f:FuncId}(c:Nat) (b:Bool) (h:∀w,Calls Tryz.prog f #[.int .u8 (c:Int)] w (fun e w'=>e=.returned (.bool b)∧w=w')):aW Tryz.prog f [I .u8 c] [] (B b) []:=by
 intro S μ w vals q hv;simp only[b7,aS,aZ,Rep] at hv;obtain⟨v1,u,rfl,rfl,rfl⟩:=hv;refine Calls.mono (h w) ?_;rintro e w' ⟨rfl,rfl⟩;refine⟨S,μ,_,rfl,q,?_⟩;simp only[aS,aZ,Rep]
theorem aUb {f:FuncId}(c:Nat) (b:Bool) (h:∀w,Calls Tryz.prog f #[.int .u8 (c:Int)] w (nA b w)):aW Tryz.prog f [I .u8 c] [] (B b) []:=by
 intro S μ w vals q hv;simp only[b7,aS,aZ,Rep] at hv;obtain⟨v1,u,rfl,rfl,rfl⟩:=hv;refine Calls.mono (h w) ?_;rintro e w' ⟨rfl,os,rfl⟩;refine⟨S,μ,_,rfl,q.grownR 0 os,?_⟩;simp only[aS,aZ,Rep]
theorem aE4 {f:FuncId}(s:Str) (b:Bool) (h:∀w,Calls Tryz.prog f #[.string ⟨⟨s⟩⟩] w (nA b w)):aW Tryz.prog f [Go.AM.T s] [] (B b) []:=by
 intro S μ w vals q hv;simp only[b7,aS,aZ,Rep] at hv;obtain⟨v1,u,rfl,rfl,rfl⟩:=hv;refine Calls.mono (h w) ?_;rintro e w' ⟨rfl,os,rfl⟩;refine⟨S,μ,_,rfl,q.grownR 0 os,?_⟩;simp only[aS,aZ,Rep]
theorem aMd (c:Nat):aW Tryz.prog 169 [I .u8 c] [] (B (dgB c)) []:=aKv c _ (u3 c)
theorem aZs (c:Nat):aW Tryz.prog 172 [I .u8 c] [] (B (sgB c)) []:=aKv c _ (aGy c)
theorem aPz (c:Nat):aW Tryz.prog 222 [I .u8 c] [] (B (plB c)) []:=aKv c _ (zS c)
theorem aP4 (c:UInt8):aW Tryz.prog 106 [I .u8 c.toNat] [] (B (sgB c.toNat)) []:=aUb _ _ fun w=>aHo c w
theorem aQh (c:UInt8):aW Tryz.prog 104 [Go.AM.T [c]] [] (B (nmQ c.toNat 97 122)) []:=aE4 [c] _ fun w=>aKm c w
theorem aQf (c:UInt8):aW Tryz.prog 105 [Go.AM.T [c]] [] (B (nmQ c.toNat 65 90)) []:=aE4 [c] _ fun w=>aIv c w
theorem uC (s:Str) (c:UInt8):aW Tryz.prog 57 [Go.AM.T s,I .u8 c.toNat] [] (I .i64 (Lib.indexByte s c)) []:=by
 intro S μ w vals q hv;simp only[b7,aS,aZ,Rep] at hv;obtain⟨v1,u,rfl,rfl,v2,y,rfl,rfl,rfl⟩:=hv;refine Calls.mono (mH _ _ w) ?_;rintro e w' ⟨rfl,rfl⟩;refine⟨S,μ,_,rfl,q,?_⟩;rw[show(c.toNat:Int).toNat.toUInt8=c by simp];simp only[aS,aZ,Rep]
theorem aLv (c lo hi:Nat):aW Tryz.prog 223 [I .u8 c,I .u8 lo,I .u8 hi] [] (B (wiB c lo hi)) []:=by
 intro S μ w vals q hv;simp only[b7,aS,aZ,Rep] at hv;obtain⟨v1,u,rfl,rfl,v2,y,rfl,rfl,v3,A,rfl,rfl,rfl⟩:=hv;refine Calls.mono (k8 _ _ _ w) ?_;rintro e w' ⟨rfl,rfl⟩;refine⟨S,μ,_,rfl,q,?_⟩;simp only[aS,aZ,Rep]
structure Tk where
 kind:Int
 text:Str
 n:Int
 pl:Int
def aI (t:Tk):List C:=[.int .i64 t.kind,.str t.text,.int .i64 t.n,.int .i64 t.pl]
def aIi:List C:=[.int .i64 0,.str [],.int .i64 0,.int .i64 0]
def cN (p:Nat→Bool):Str→Nat
 | []=>0
 | c::s=>if p c.toNat=true then cN p s+1 else 0
theorem iF (p:Nat→Bool):∀s:Str,cN p s≤s.length
 | []=>le_refl _
 | c::s=>by
  rw[cN,ω];have:=iF p s;split<;>omega
theorem oK (p:Nat→Bool):∀(s:Str) (i:Nat),i≤cN p s→∀c,s[i]?=some c→(p c.toNat=true↔i<cN p s)
 | [],i,_,c,h=>by cases h
 | a::s,0,_,c,h=>by
  have e:a=c:=by simpa using h
  subst e;rw[cN];by_cases hp:p a.toNat=true
  ·rw[ζ hp];exact⟨fun _=>by omega,fun _=>hp⟩
  ·rw[η hp];exact⟨fun h=>absurd h hp,fun h=>by omega⟩
 | a::s,i+1,hi,c,h=>by
  rw[cN] at hi ⊢;by_cases hp:p a.toNat=true
  ·rw[ζ hp] at hi ⊢;rw[oK p s i (by omega) c (by simpa using h)];omega
  ·rw[η hp] at hi;omega
def neB (c:Nat):Bool:=!decide (c=10)
def preB (x s:Str):Bool:=decide (x.length≤s.length)&&decide (s.take x.length=x)
def blB (c:Nat):Bool:=decide (c=32∨c=9∨c=10)
def fX (s:Str):Nat:=match s with
 | []=>0
 | c::_=>if blB c.toNat=true then 1 else if preB [45,45] s=true then 2+cN neB (s.drop 2) else 0
def kR:Str→Int→Int
 | [],k=>k
 | c::s,k=>if k<3000000000 then kR s (k*10+((c.toNat:Int)-48)) else k
def uP:List Str:=[[45,62],[61,62],[92],[61],[124],[40],[41],[123],[125],[59],[58],[44],[95]]
def qL (s:Str):Str:=match uP.find? fun x=>preB x s with | some x=>x | none=>[]
def tS:List Str:=[[99,97,115,101],[99,108,97,115,115],[100,97,116,97],[105,110],[105,110,115,116,97,110,99,101],[108,101,116],[111,102]]
abbrev TE:=Except Int (Int×Str×Int)
def pE (s:Str) (up:Bool):TE:=
 if 32<cN sgB s then .error 2
 else if up=true then .ok (2,s.take (cN sgB s),0)
 else if s.take (cN sgB s)∈tS then .ok (5,s.take (cN sgB s),0)
 else .ok (1,s.take (cN sgB s),0)
def jE:Str→TE
 | []=>.error 10
 | c::s=>
  if dgB c.toNat=true then
   (if 2147483647<kR ((c::s).take (cN dgB (c::s))) 0 then .error 11 else .ok (3,(c::s).take (cN dgB (c::s)),kR ((c::s).take (cN dgB (c::s))) 0))
  else if wiB c.toNat 97 122=true∨wiB c.toNat 65 90=true then pE (c::s) (wiB c.toNat 65 90)
  else if qL (c::s)=[] then .error 10 else .ok (4,qL (c::s),0)
def a3z:TE→V
 | .ok (k,t,v)=>.tup [.pa [.int .i64 k,.str t,.int .i64 v,.int .i64 0],I .i64 0]
 | .error e=>.tup [.pa aIi,I .i64 e]
theorem aGa (c:UInt8) (lo hi:Nat):aW Tryz.prog 202 [Go.AM.T [c],I .u8 lo,I .u8 hi] [] (B (sgB c.toNat&&wiB c.toNat lo hi)) []:=by
 have hp:=aPz c.toNat;have hw:=aLv c.toNat lo hi;refine b9 (n:=46) tok Tryz.func202 rfl rfl rfl ?_;refine sg rfl (aA (sgh [(3,.bv false),(7,.bv false)] rfl (aB rfl (fun hb=>by simp at hb) (fun _=>aD (aA (sg rfl (aF (aJ (fun i:Nat=>mk [(0,Go.AM.T [c]),(1,I .u8 lo),(2,I .u8 hi),(7,I .i64 i)] []) (fun i=>i=0∨(i=1∧sgB c.toNat=true)) (fun i=>1-i) 0 (.inl rfl) sl ?_))))))));rintro i (rfl | ⟨rfl,hs⟩)
 ·refine aA (sg rfl (aB rfl (fun _=>aD (aA (aF (skh 3 [(2,.byte 0 c)] rfl (kc hp ?_))))) (fun hb=>by simp at hb)));refine kz 1 rfl ?_;by_cases h1:plB c.toNat=true
  ·rw[h1];have hs:sgB c.toNat=true:=by unfold sgB;rw[h1];rfl
   exact sgh [(2,.bv false),(7,.bv false),(8,.bv false),(13,.bv false)] rfl (aB rfl (fun hb=>absurd hb (by decide)) (fun _=>aD (ag [] rfl ⟨1,.inr ⟨rfl,hs⟩,by decide,sl⟩)))
  ·have h1:=Cb _ |>.mp h1;rw[h1];by_cases h2:(c.toNat:Int)=39
   ·have d2:(!decide ((c.toNat:Int)=39))=false:=by rw[θ h2];rfl
    have hs:sgB c.toNat=true:=by unfold sgB;rw[θ (by omega),Bool.or_true]
    exact sgh [(2,.bv true),(5,.byte 0 c),(7,.bv true),(8,.bv false),(13,.bv false)] rfl (aB rfl (fun hb=>absurd hb (by decide)) (fun _=>aD (ag [] rfl ⟨1,.inr ⟨rfl,hs⟩,by decide,sl⟩)))
   have d2:(!decide ((c.toNat:Int)=39))=true:=by rw[φ h2];rfl
   by_cases q:(c.toNat:Int)=95
   ·have d3:(!decide ((c.toNat:Int)=95))=false:=by rw[θ q];rfl
    have hs:sgB c.toNat=true:=by unfold sgB;rw[θ (by omega),Bool.or_true]
    exact sgh [(2,.bv true),(5,.byte 0 c),(7,.bv true),(8,.bv true),(11,.byte 0 c),(13,.bv true)] rfl (aB rfl (fun hb=>absurd (hb.symm.trans d3) (by decide)) (fun _=>aD (ag [] rfl ⟨1,.inr ⟨rfl,hs⟩,by decide,sl⟩)))
   ·have d3:(!decide ((c.toNat:Int)=95))=true:=by rw[φ q];rfl
    have hs:sgB c.toNat=false:=by unfold sgB;rw[h1,φ (by omega)];rfl
    refine sgh [(2,.bv true),(5,.byte 0 c),(7,.bv true),(8,.bv true),(11,.byte 0 c),(13,.bv true)] rfl (aB rfl (fun _=>sg rfl ?_) (fun hb=>absurd (hb.symm.trans d3) (by decide)));rw[hs];exact aE rtT
 ·rw[hs];refine aA (sg rfl (aB rfl (fun hb=>by simp at hb) (fun _=>aH (skh 4 [(1,.byte 0 c)] rfl (kc hw ?_)))));exact kz 1 rfl (aE rtT)
theorem aJb (c:Nat):(sgB c&&wiB c 97 122)=wiB c 97 122:=by
 unfold sgB plB wiB;rw[Bz];simp;omega
theorem aJa (c:Nat):(sgB c&&wiB c 65 90)=wiB c 65 90:=by
 unfold sgB plB wiB;rw[Bz];simp;omega
theorem aQg (c:UInt8):aW Tryz.prog 170 [Go.AM.T [c]] [] (B (wiB c.toNat 97 122)) []:=by
 have h:=aGa c 97 122;rw[show((97:Nat):Int)=97 from rfl,show((122:Nat):Int)=122 from rfl,aJb] at h;refine b9 (n:=5) tok Tryz.func170 rfl rfl rfl ?_;refine sg rfl (sk 1 rfl (kc h ?_));exact kz 1 rfl (aE rtT)
theorem aQe (c:UInt8):aW Tryz.prog 171 [Go.AM.T [c]] [] (B (wiB c.toNat 65 90)) []:=by
 have h:=aGa c 65 90;rw[show((65:Nat):Int)=65 from rfl,show((90:Nat):Int)=90 from rfl,aJa] at h;refine b9 (n:=5) tok Tryz.func171 rfl rfl rfl ?_;refine sg rfl (sk 1 rfl (kc h ?_));exact kz 1 rfl (aE rtT)
theorem o8 {p:Str→Bool}{l:List Str}{i:Nat}{x:Str}(h:(l.take i).find? p=none) (hx:l[i]?=some x) (hp:p x=false):(l.take (i+1)).find? p=none:=by
 rw[Bh,hx,List.find?_append,h];show [x].find? p=none;rw[List.find?_cons,hp];rfl
theorem o7 {p:Str→Bool}{l:List Str}{i:Nat}{x:Str}(h:(l.take i).find? p=none) (hx:l[i]?=some x) (hp:p x=true):l.find? p=some x:=by
 have e:l=l.take i++x::l.drop (i+1):=by
  obtain⟨h1,h2⟩:=Ah.1 hx;have:=Az h1;rw[h2] at this;rw[←this];exact(C2 i l).symm
 rw[e,List.find?_append,h,List.find?_cons,hp];rfl
theorem aPt (s:Str):aW Tryz.prog 175 [Go.AM.T s] [] (Go.AM.T (qL s)) []:=by
 have u:(uP.map aK).length=uP.length:=ξ _;refine b9 (n:=38) tok Tryz.func175 rfl rfl rfl ?_;refine sg rfl (sgh [(0,.all)] rfl (aA (sg rfl (aF (aJ (fun i:Nat=>mk [(0,Go.AM.T s),(3,.one (.c (.sl 1 (uP.map aK)))),(4,I .i64 i)] []) (fun i=>i≤uP.length∧(uP.take i).find? (fun x=>preB x s)=none) (fun i=>uP.length-i) 0 ⟨Ab _,rfl⟩ sl ?_)))));rintro i ⟨hi,hn⟩;refine aA (sg rfl (aB rfl (fun hb=>?_) (fun hb=>?_)))
 ·have q:=ltD hb u;obtain⟨x,hx⟩:=aG q;have J:=aP aK hx;have y:qL s=(match uP.find? (fun x=>preB x s) with | some x=>x | none=>[]):=rfl;have B:preB x s=true→qL s=x:=fun hp=>by rw[y,o7 hn hx hp]
  have A:preB x s=false→(uP.take (i+1)).find? (fun x=>preB x s)=none:=fun hp=>o8 hn hx hp
  have M:uP.length≤13:=by decide
  clear y hn;generalize uP=L at *;refine aD (aA (aF (aA ?_)));by_cases h1:x.length≤s.length
  ·have d1:decide ((x.length:Int)≤(s.length:Int))=true:=θ (by omega);refine agN [(4,.row i (aK x)),(8,.bv true),(12,.row i (aK x)),(18,.row i (aK x)),(21,.bv true)] rfl ?_;by_cases h2:s.take x.length=x
   ·have hp:preB x s=true:=by unfold preB;rw[θ h1,θ h2];rfl
    have d2:decide (s.take x.length=x)=true:=θ h2;refine aB rfl (fun _=>sgh [(2,.row i (aK x))] rfl ?_) (fun hb=>absurd (hb.symm.trans d2) (by decide));rw[B hp];exact aE rtT
   ·have hp:preB x s=false:=by unfold preB;rw[φ h2,Bool.and_false]
    have d2:decide (s.take x.length=x)=false:=φ h2;exact aB rfl (fun hb=>absurd (hb.symm.trans d2) (by decide)) (fun _=>aD (ag [] rfl ⟨i+1,⟨q,A hp⟩,by dsimp only;omega,sl⟩))
  ·have d1:decide ((x.length:Int)≤(s.length:Int))=false:=φ (by omega);have hp:preB x s=false:=by unfold preB;rw[φ h1,B6]
   exact agN [(4,.row i (aK x)),(8,.bv false),(21,.bv false)] rfl (aB rfl (fun hb=>absurd hb (by decide)) (fun _=>aD (ag [] rfl ⟨i+1,⟨q,A hp⟩,by dsimp only;omega,sl⟩)))
 ·have E:=geD hb u hi;rw[E,Al] at hn;have e:qL s=[]:=by unfold qL;rw[hn]
  rw[e];exact aH (sg rfl (aE rtT))
theorem aVo (c:UInt8) (r:Str) (hl:r.length≤4000):aW Tryz.prog 127 [Go.AM.T (c::r)] [] (I .i64 (fX (c::r))) []:=by
 refine b9 (n:=40) tok Tryz.func127 rfl rfl rfl ?_;refine sg rfl ?_;have key:∀b:Bool,blB c.toNat=b→fX (c::r)=if b=true then 1 else if preB [45,45] (c::r)=true then 2+cN neB (r.drop 1) else 0:=fun b hb=>by rw[←hb];rfl
 by_cases h1:(c.toNat:Int)=32
 ·have d1:decide ((c.toNat:Int)=32)=true:=θ h1;refine aA (sgh [(1,.byte 0 c),(3,.bv true),(7,.bv true),(8,.bv true),(12,.bv true)] rfl (aB rfl (fun _=>?_) (fun hb=>absurd hb (by decide))));rw[key true (θ (by omega)),ζ rfl];exact sg rfl (aE rtT)
 have d1:decide ((c.toNat:Int)=32)=false:=φ h1;by_cases h2:(c.toNat:Int)=9
 ·have d2:decide ((c.toNat:Int)=9)=true:=θ h2;refine aA (sgh [(1,.byte 0 c),(3,.bv false),(5,.byte 0 c),(7,.bv false),(8,.bv true),(12,.bv true)] rfl (aB rfl (fun _=>?_) (fun hb=>absurd hb (by decide))));rw[key true (θ (by omega)),ζ rfl];exact sg rfl (aE rtT)
 have d2:decide ((c.toNat:Int)=9)=false:=φ h2;refine aA (sgh [(1,.byte 0 c),(3,.bv false),(5,.byte 0 c),(7,.bv false),(8,.bv false),(10,.byte 0 c),(12,.bv false)] rfl (aB rfl (fun hb=>?_) (fun hb=>?_)))
 ·have O:=κ hb;rw[key true (θ (by omega)),ζ rfl];exact sg rfl (aE rtT)
 have O:=Ac hb;rw[key false (φ (by omega)),η χ];clear key;refine aD ?_;have q:r.drop 1=(c::r).drop 2:=rfl;rw[q];have A:(c::r).length≤4001:=by rw[ω];omega
 generalize c::r=S at A ⊢;clear q hl;by_cases B:2≤S.length
 ·have dl:decide ((1:Int)<(S.length:Int))=true:=θ (by omega);refine aA (sgh [(3,.bv true),(7,.bv true)] rfl (aB rfl (fun hb=>?_) (fun hb=>?_)))
  ·have hp:preB [45,45] S=true:=by unfold preB;rw[θ (show([45,45]:Str).length≤S.length from B)];exact hb
   rw[ζ hp];refine sg rfl ?_;have U:=iF neB (S.drop 2);rw[Bi] at U;refine aA (aF (aJ (fun j:Nat=>mk [(0,Go.AM.T S),(3,I .i64 ((2+j:Nat):Int))] []) (fun j=>j≤cN neB (S.drop 2)) (fun j=>cN neB (S.drop 2)-j) 0 (Ab _) sl ?_));intro j hj;by_cases E:2+j<S.length
   ·obtain⟨d,J⟩:=aG E;have y:(S.take (2+j+1)).drop (2+j)=[d]:=by
     rw[Bh,J,drop_append,drop_eq_nil_of_le (by rw[Ai];omega),Ai,C4 (by omega),Cq];rfl
    have u:=oK neB (S.drop 2) j hj d (by rw[Ao];exact J);have Y:decide (((2+j:Nat):Int)<(S.length:Int))=true:=θ (by omega);refine aA (aA (agN [(4,.bv true),(11,.bv true)] rfl ?_));rw[y];refine aB rfl (fun hb=>?_) (fun hb=>?_)
    ·have M:j<cN neB (S.drop 2):=u.1 (by
      unfold neB;simp at hb ⊢
      exact fun e=>hb (UInt8.toNat_inj.1 e))
     exact aD (aF (agN [] rfl ⟨j+1,M,by dsimp only;omega,sl⟩))
    ·have e:j=cN neB (S.drop 2):=by
      have:¬j<cN neB (S.drop 2):=fun h=>by
       have:=u.2 h;unfold neB at this;simp at hb this;exact this (by rw[hb];rfl)
      omega
     rw[←e];exact aH (sg rfl (aE rtT))
   ·have Y:decide (((2+j:Nat):Int)<(S.length:Int))=false:=φ (by omega);have e:j=cN neB (S.drop 2):=by omega
    refine aA (aA (agN [(4,.bv false),(11,.bv false)] rfl (aB rfl (fun hb=>absurd hb (by decide)) (fun _=>?_))));rw[←e];exact aH (sg rfl (aE rtT))
  ·have hp:¬preB [45,45] S=true:=by
    unfold preB;have hb:decide (S.take 2=[45,45])=false:=hb;rw[show([45,45]:Str).length=2 from rfl,hb,Bool.and_false];exact χ
   rw[η hp];exact aD (sg rfl (aE rtT))
 ·have dl:decide ((1:Int)<(S.length:Int))=false:=φ (by omega);have hp:¬preB [45,45] S=true:=by
   unfold preB;rw[φ (show ¬([45,45]:Str).length≤S.length from B),B6];exact χ
  rw[η hp];exact aA (sgh [(3,.bv false),(7,.bv false)] rfl (aB rfl (fun hb=>absurd hb (by decide)) (fun _=>aD (sg rfl (aE rtT)))))
end Go.Proofs.YtkhgpgihmphfdaaGreatDoor
namespace Go.AM
open Go
section
variable {fn:Func}{st:St}{hin hout:List (Nat×AObj)}{res res2 res3:V}
theorem aEa {tr:Tr}{a t u:Nat}{i:TI}{id off tv:Nat}{cells:List R}{v v2:V}{ids q:List Nat}(hw:tr.wf=true) (A:fn.results.toList=[.cell a t,.tmp u]:=by rfl) (hi:tr.get t=some i:=by rfl) (ha:st.e a=some (.one (.vp id off)):=by rfl) (hh:st.h id=some (.var tv cells):=by rfl) (hb:Nat.ble (off+i.size) cells.length=true:=by rfl) (hv:lO i ((cells.drop off).take i.size)=some v:=by rfl) (hu:st.e u=some v2:=by rfl)
  (hc:Conv st.h ids v res:=by first | exact .refl | exact .one (.c .nl .nil) | ((first | apply Go.AM.Conv.pa | apply Go.AM.Conv.agg);repeat (first | exact .nil | apply Go.AM.PureL.c .refl | apply Go.AM.PureL.c .nl | (apply Go.AM.PureL.hs;rfl;(first | rfl | assumption | simp);(first | rfl | exact Go.AM.take_all (by first | assumption | rfl | (simp;done)) | exact Go.AM.take_map.symm)))))
  (y:Conv st.h q v2 res2:=by exact .refl)
  (ho:iM (fun p=>∃o,st.h p.1=some o∧Ole (fun i=>i) o p.2) hout:=by repeat (first | exact trivial | refine⟨⟨_,rfl,by first | exact Go.AM.Ole.arr | exact Go.AM.Ole.var rfl | exact Go.AM.Ole.varS rfl⟩,?_⟩))
  (hok:(subset (V.tup [res,res2]).refs (keys hout)&&subset (iN hout) (keys hout)&&distinct (keys hout)&&subset (keys hin) (keys hout)&&(hin.all fun p=>p.2.plain)&&(hout.all fun p=>p.2.plain))=true:=by rfl):(Exit.ret=.normal∨Exit.ret=.ret)∧Fin tr.flat fn st hin (.tup [res,res2]) hout:=
 ⟨.inr rfl,⟨[v,v2],[res,res2],by rw[A];exact .cell ha (Tr.get_ok hw hi) hh hb hv (.tmp hu .nil),.cons hc (.cons y .nil),rfl⟩,ho,hok⟩
end
end Go.AM
namespace Go.Proofs.YtkhgpgihmphfdaaGreatDoor
open Go Go.AM
set_option maxRecDepth 20000
set_option maxHeartbeats 4000000
theorem nQ {ro:Option Nat}{P:Program}{n:Nat}{kf:List Nat}{x y:Code}{st:St}{Q:Exit→St→Prop}(σ:St) (h:AWp ro P n kf x st (fun ex st'=>(ex=.normal∧Sub kf σ st')∨(¬ex=.normal∧Q ex st'))) (k:AWp ro P n kf y σ Q):AWp ro P n kf (.seq x y) st Q:=
 aA (h.post fun ex st' q=>by
  rcases q with⟨rfl,q⟩ | ⟨u,q⟩
  ·exact⟨σ,q,k⟩
  ·refine⟨st',fun G n S μ a w A hs=>⟨S,μ,hs⟩,?_⟩;cases ex with
   | normal=>exact absurd rfl u
   | _=>exact q)
theorem aYp {k:Int}(h:¬k<3000000000):∀l:Str,kR l k=k
 | []=>rfl
 | _::_=>by rw[kR,η h]
theorem aVw:aW Tryz.prog 174 [] [] (.one (.c (.sl 1 (tS.map aK)))) []:=by
 refine b9 (n:=2) tok Tryz.func174 rfl rfl rfl ?_;exact sg rfl (sgh [(0,.all)] rfl (aE rtT))
theorem aZw (c:UInt8) (r:Str) (hl:r.length≤4000):aW Tryz.prog 128 [Go.AM.T (c::r)] [] (a3z (jE (c::r))) []:=by
 have ab:=aMd c.toNat;refine b9 (n:=108) tok Tryz.func128 rfl rfl rfl ?_;refine sg rfl (sg rfl (aA (skh 2 [(1,.byte 0 c)] rfl (kc ab ?_))));refine az ?_;have h0:(c::r)[0]?=some c:=rfl;have hSl:(c::r).length≤4001:=by rw[ω];omega
 have hS1:1≤(c::r).length:=by rw[ω];omega
 refine aB rfl (fun hb=>?_) (fun hb=>?_)
 ·have u:jE (c::r)=if 2147483647<kR ((c::r).take (cN dgB (c::r))) 0 then .error 11 else .ok (3,(c::r).take (cN dgB (c::r)),kR ((c::r).take (cN dgB (c::r))) 0):=by
   rw[jE,ζ hb]
  rw[u];clear u;generalize c::r=S at *;have hW:=iF dgB S;refine nQ (mk [(0,Go.AM.T S),(2,.one (.vp 2 0)),(4,I .i64 (cN dgB S:Nat))] [(2,.var 131 (aIi.map .c))]) ?_ ?_
  ·refine aF (aJ (fun j:Nat=>mk [(0,Go.AM.T S),(2,.one (.vp 2 0)),(4,I .i64 j)] [(2,.var 131 (aIi.map .c))]) (fun j=>j≤cN dgB S) (fun j=>cN dgB S-j) 0 (Ab _) sl ?_);intro j hj;by_cases O:j<S.length
   ·obtain⟨d,A⟩:=aG O;have E:=oK dgB S j hj d A;have U:=aMd d.toNat;have q:decide ((j:Int)<(S.length:Int))=true:=θ (by omega);have J:(if(S.length:Int)-1<(j:Int) then(S.length:Int)-1 else(j:Int))=(j:Int):=η (by omega);refine aA (skh 12 [(4,.bv true),(11,.byte j d)] rfl (kcG U ?_) (hc:=⟨⟨J,A⟩,q,q,⟨by omega,by omega⟩,q,q,q,q,q,trivial⟩));refine ak 1 [(4,.bv true),(13,.bv true)] rfl (az (aB rfl (fun hb=>?_) (fun hb=>?_)))
    ·exact aD (aF (ag [] rfl ⟨j+1,E.1 hb,by dsimp only;have:=E.1 hb;omega,sl⟩))
    ·have e:j=cN dgB S:=by
      have:¬j<cN dgB S:=fun h=>by rw[E.2 h] at hb;cases hb
      omega
     refine aH ?_;rw[←e];exact .inl ⟨rfl,sl⟩
   ·have e:j=cN dgB S:=by omega
    have q:decide ((j:Int)<(S.length:Int))=false:=φ (by omega);refine aA (sgh [(4,.bv false),(13,.bv false)] rfl (aB rfl (fun hb=>absurd hb (by decide)) (fun _=>aH ?_)));rw[←e];exact .inl ⟨rfl,sl⟩
  ·have ah:∀(j:Nat) (d:UInt8),j<cN dgB S→S[j]?=some d→48≤d.toNat∧d.toNat≤57:=fun j d hj A=>κ ((oK dgB S j (by omega) d A).2 hj)
   have ai:(S.take (cN dgB S)).length=cN dgB S:=by rw[Ai];omega
   generalize cN dgB S=N at *;refine sg rfl (nQ (mk [(0,Go.AM.T S),(2,.one (.vp 2 0)),(4,I .i64 (N:Nat)),(5,I .i64 (kR (S.take N) 0))] [(2,.var 131 (aIi.map .c))]) ?_ ?_)
   ·refine sg rfl (aF (aJ (fun p:Nat×Int=>mk [(0,Go.AM.T S),(2,.one (.vp 2 0)),(4,I .i64 (N:Nat)),(5,I .i64 p.2),(6,I .i64 p.1)] [(2,.var 131 (aIi.map .c))]) (fun p=>p.1≤N∧0≤p.2∧p.2≤30000000300∧kR ((S.take N).drop p.1) p.2=kR (S.take N) 0) (fun p=>N-p.1) (0,0) ⟨Ab _,by decide,by decide,rfl⟩ sl ?_));rintro⟨i,k⟩ ⟨hi,aj,al,M⟩;dsimp only at hi aj al M ⊢;by_cases Y:i<N
    ·have d1:decide ((i:Int)<(N:Int))=true:=θ (by omega);refine aA (sgh [(3,.bv true),(6,.bv true)] rfl (aB rfl (fun hb=>?_) (fun hb=>?_)))
     ·have aa:=κ hb;obtain⟨d,A⟩:=aG (l:=S) (k:=i) (by omega);obtain⟨g1,g2⟩:=ah i d Y A;have hw:IntKind.wrap .i64 (d.toNat:Int)=(d.toNat:Int):=B5 _ (by omega);have am:(S.take N).drop i=d::(S.take N).drop (i+1):=by
       obtain⟨q1,q2⟩:=Ah.1 (show(S.take N)[i]?=some d by rw[An,ζ Y];exact A);rw[Az q1,q2]
      rw[am,kR,ζ aa,show k*10+((d.toNat:Int)-48)=k*10+(d.toNat:Int)-48 by omega] at M;refine aD (aA (aF (ag [(4,.byte i d)] rfl ?_ (hc:=⟨⟨by rw[hw];omega,by rw[hw];omega⟩,⟨by rw[hw];omega,by rw[hw];omega⟩,⟨rfl,A⟩,⟨by omega,by omega⟩,trivial⟩))));rw[hw];exact ag [] rfl ⟨(i+1,k*10+(d.toNat:Int)-48),⟨Y,by dsimp only;omega,by dsimp only;omega,M⟩,by dsimp only;omega,sl⟩
     ·have aa:=Ac hb;rw[aYp aa] at M;refine aH ?_;rw[←M];exact .inl ⟨rfl,sl⟩
    ·have e:i=N:=by omega
     have d1:decide ((i:Int)<(N:Int))=false:=φ (by omega);rw[e,drop_eq_nil_of_le (by rw[ai];exact le_refl _),kR] at M;refine aA (sgh [(3,.bv false),(6,.bv false)] rfl (aB rfl (fun hb=>absurd hb (by decide)) (fun _=>aH ?_)));rw[←M];exact .inl ⟨rfl,sl⟩
   ·generalize kR (S.take N) 0=K;refine aA (sg rfl (aB rfl (fun hb=>?_) (fun hb=>?_)))
    ·rw[ζ (κ hb)];exact sg rfl (aE (aEa trw))
    ·rw[η (Ac hb)];exact aD (sg rfl (aE (aEa trw)))
 ·have u:jE (c::r)=if wiB c.toNat 97 122=true∨wiB c.toNat 65 90=true then pE (c::r) (wiB c.toNat 65 90) else if qL (c::r)=[] then .error 10 else .ok (4,qL (c::r),0):=by
   rw[jE,η (by rw[hb];exact χ)]
  rw[u];clear u;have ac:=aQg c;have ad:=aQe c;have an:=aPt (c::r);have ae:(c::r).take 1=[c]:=rfl;generalize c::r=S at *;refine aD (sk 2 rfl ?_);rw[ae];refine kc ac ?_;refine kz 1 rfl (sk 2 rfl ?_);rw[ae];refine kc ad ?_;refine kz 1 rfl ?_;generalize wiB c.toNat 65 90=up at *;generalize wiB c.toNat 97 122=lo at *;by_cases hn:lo=true∨up=true
  ·rw[ζ hn];have ap:=aVw;have aq:=aP5 tS (S.take (cN sgB S)) (by unfold Fits;decide);have af:(bif lo then true else up)=true:=by
    rcases hn with h | h
    ·rw[h];rfl
    ·rw[h];cases lo<;>rfl
   refine aA (aA (agF 2 [] rfl rfl rfl (aB rfl (fun _=>AWp.sub (st2:=mk [(0,Go.AM.T S),(2,.one (.vp 2 0)),(4,I .i64 0),(8,B up)] [(2,.var 131 (aIi.map .c))]) sl ?_) (fun hb=>absurd (hb.symm.trans af) (by decide)))));clear af hn ac ad ab;have hW:=iF sgB S;refine nQ (mk [(0,Go.AM.T S),(2,.one (.vp 2 0)),(4,I .i64 (cN sgB S:Nat)),(8,B up)] [(2,.var 131 (aIi.map .c))]) ?_ ?_
   ·refine aF (aJ (fun j:Nat=>mk [(0,Go.AM.T S),(2,.one (.vp 2 0)),(4,I .i64 j),(8,B up)] [(2,.var 131 (aIi.map .c))]) (fun j=>j≤cN sgB S) (fun j=>cN sgB S-j) 0 (Ab _) sl ?_);intro j hj;by_cases O:j<S.length
    ·obtain⟨d,A⟩:=aG O;have E:=oK sgB S j hj d A;have U:=aZs d.toNat;have q:decide ((j:Int)<(S.length:Int))=true:=θ (by omega);have J:(if(S.length:Int)-1<(j:Int) then(S.length:Int)-1 else(j:Int))=(j:Int):=η (by omega);refine aA (skh 12 [(4,.bv true),(11,.byte j d)] rfl (kcG U ?_) (hc:=⟨⟨J,A⟩,q,q,⟨by omega,by omega⟩,q,q,q,q,q,trivial⟩));refine ak 1 [(4,.bv true),(13,.bv true)] rfl (az (aB rfl (fun hb=>?_) (fun hb=>?_)))
     ·exact aD (aF (ag [] rfl ⟨j+1,E.1 hb,by dsimp only;have:=E.1 hb;omega,sl⟩))
     ·have e:j=cN sgB S:=by
       have:¬j<cN sgB S:=fun h=>by rw[E.2 h] at hb;cases hb
       omega
      refine aH ?_;rw[←e];exact .inl ⟨rfl,sl⟩
    ·have e:j=cN sgB S:=by omega
     have q:decide ((j:Int)<(S.length:Int))=false:=φ (by omega);refine aA (sgh [(4,.bv false),(13,.bv false)] rfl (aB rfl (fun hb=>absurd hb (by decide)) (fun _=>aH ?_)));rw[←e];exact .inl ⟨rfl,sl⟩
   ·unfold pE;generalize cN sgB S=N at *;refine aA (sg rfl (aB rfl (fun hb=>?_) (fun hb=>?_)))
    ·rw[ζ (by have:=κ hb;omega)];exact sg rfl (aE (aEa trw))
    rw[η (by have:=Ac hb;omega)];refine aD (aA (sg rfl (aB rfl (fun hb=>?_) (fun hb=>?_))))
    ·rw[ζ hb];exact sg rfl (aE (aEa trw))
    rw[η (by rw[hb];exact χ)];refine aD ?_;generalize tS=L at *;refine aA (aA (aC mixed (kc ap ?_)));refine akN 3 [] rfl (kc aq ?_);refine az (aB rfl (fun hb=>?_) (fun hb=>?_))
    ·rw[ζ (κ hb)];exact sg rfl (aE (aEa trw))
    ·rw[η (Ac hb)];exact aD (sg rfl (aE (aEa trw)))
  ·rw[η hn];have h1:lo=false:=by cases lo<;>simp at hn ⊢
   have h2:up=false:=by cases up<;>simp at hn ⊢
   subst h1 h2;refine aA (sgh [(1,.bv false),(3,.bv false)] rfl (aB rfl (fun hb=>absurd hb (by decide)) (fun _=>aD (sk 1 rfl (kc an ?_)))));refine kz 1 rfl ?_;generalize qL S=y at *;refine aA (sg rfl (aB rfl (fun hb=>?_) (fun hb=>?_)))
   ·rw[ζ (κ hb)];exact sg rfl (aE (aEa trw))
   ·rw[η (Ac hb)];exact aD (sg rfl (aE (aEa trw)))
end Go.Proofs.YtkhgpgihmphfdaaGreatDoor
namespace Go.AM
open Go
section
variable {fn:Func}{st:St}{hin hout:List (Nat×AObj)}{res res2 res3:V}
theorem aWo {tr:Tr}{a t u:Nat}{i:TI}{id off tv:Nat}{cells:List R}{v v2:V}{ids q:List Nat}(hw:tr.wf=true) (A:fn.results.toList=[.tmp u,.cell a t]:=by rfl) (hi:tr.get t=some i:=by rfl) (ha:st.e a=some (.one (.vp id off)):=by rfl) (hh:st.h id=some (.var tv cells):=by rfl) (hb:Nat.ble (off+i.size) cells.length=true:=by rfl) (hv:lO i ((cells.drop off).take i.size)=some v:=by rfl) (hu:st.e u=some v2:=by rfl)
  (hc:Conv st.h ids v res2:=by first | exact .refl | exact .one (.c .nl .nil) | ((first | apply Go.AM.Conv.pa | apply Go.AM.Conv.agg);repeat (first | exact .nil | apply Go.AM.PureL.c .refl | apply Go.AM.PureL.c .nl | (apply Go.AM.PureL.hs;rfl;(first | rfl | assumption | simp);(first | rfl | exact Go.AM.take_all (by first | assumption | rfl | (simp;done)) | exact Go.AM.take_map.symm)))))
  (y:Conv st.h q v2 res:=by exact .refl)
  (ho:iM (fun p=>∃o,st.h p.1=some o∧Ole (fun i=>i) o p.2) hout:=by repeat (first | exact trivial | refine⟨⟨_,rfl,by first | exact Go.AM.Ole.arr | exact Go.AM.Ole.var rfl | exact Go.AM.Ole.varS rfl⟩,?_⟩))
  (hok:(subset (V.tup [res,res2]).refs (keys hout)&&subset (iN hout) (keys hout)&&distinct (keys hout)&&subset (keys hin) (keys hout)&&(hin.all fun p=>p.2.plain)&&(hout.all fun p=>p.2.plain))=true:=by rfl):(Exit.ret=.normal∨Exit.ret=.ret)∧Fin tr.flat fn st hin (.tup [res,res2]) hout:=
 ⟨.inr rfl,⟨[v2,v],[res,res2],by rw[A];exact .tmp hu (.cell ha (Tr.get_ok hw hi) hh hb hv .nil),.cons y (.cons hc .nil),rfl⟩,ho,hok⟩
end
end Go.AM
namespace Go.Proofs.YtkhgpgihmphfdaaGreatDoor
open Go Go.AM
set_option maxRecDepth 20000
set_option maxHeartbeats 4000000
abbrev LE:=Except (Int×Int) (List Tk)
def xY (t:Tk):LE→LE
 | .ok l=>.ok (t::l)
 | .error e=>.error e
def mD:Nat→Nat→Str→LE
 | 0,at',_=>.ok [⟨6,[],0,at'⟩]
 | _+1,at',[]=>.ok [⟨6,[],0,at'⟩]
 | f+1,at',c::r=>
  if 0<fX (c::r) then mD f (at'+fX (c::r)) ((c::r).drop (fX (c::r)))
  else match jE (c::r) with
   | .error e=>.error (e,at')
   | .ok (k,t,v)=>xY ⟨k,t,v,at'⟩ (mD f (at'+t.length) ((c::r).drop t.length))
def pG (s:Str):LE:=if 4000<s.length then .error (2,0) else mD s.length 0 s
def aWr (out:List Tk):LE→LE
 | .ok l=>.ok (out++l)
 | .error e=>.error e
theorem zP (out:List Tk) (t:Tk) (r:LE):aWr out (xY t r)=aWr (out++[t]) r:=by
 cases r with
 | ok l=>show Except.ok _=Except.ok _;simp
 | error e=>rfl
def atV (e p:Int):V:=.pa [.int .i64 e,.int .i64 p]
def aIl:LE→V
 | .ok l=>.tup [.one (.c (.sl 4 (l.map aI))),atV 0 0]
 | .error (e,p)=>.tup [.one (.c .nl),atV e p]
theorem aBp (s:Str):fX s≤s.length:=by
 unfold fX;cases s with
 | nil=>exact le_refl _
 | cons c r=>
  dsimp only;split
  ·rw[ω];omega
  ·split
   ·rename_i h;have hp:2≤(c::r).length:=by
     unfold preB at h;rw[π] at h;exact κ h.1
    have:=iF neB ((c::r).drop 2);rw[Bi] at this;omega
   ·exact Ab _
theorem aSz (s:Str) (h:¬qL s=[]):1≤(qL s).length∧(qL s).length≤s.length:=by
 refine⟨Cg.2 h,?_⟩;unfold qL at h ⊢;cases q:uP.find? fun x=>preB x s with
 | none=>rw[q] at h;exact absurd rfl h
 | some x=>
  have:=List.find?_some q;unfold preB at this;rw[π] at this;exact κ this.1
theorem nI {c:UInt8}{r:Str}{k:Int}{t:Str}{v:Int}(h:jE (c::r)=.ok (k,t,v)):1≤t.length∧t.length≤(c::r).length:=by
 have h1:∀p:Nat→Bool,p c.toNat=true→1≤((c::r).take (cN p (c::r))).length∧((c::r).take (cN p (c::r))).length≤(c::r).length:=fun p hp=>by
  have:=iF p (c::r);rw[Ai];rw[cN,ζ hp] at this ⊢;rw[ω] at this ⊢;omega
 rw[jE] at h;by_cases q:dgB c.toNat=true
 ·rw[ζ q] at h;split at h
  ·cases h
  ·cases h;exact h1 _ q
 rw[η q] at h;by_cases hn:wiB c.toNat 97 122=true∨wiB c.toNat 65 90=true
 ·rw[ζ hn] at h;have hs:sgB c.toNat=true:=by
   rcases hn with h | h
   ·have:=aJb c.toNat;rw[h] at this;simpa using this
   ·have:=aJa c.toNat;rw[h] at this;simpa using this
  unfold pE at h;split at h
  ·cases h
  split at h
  ·cases h;exact h1 _ hs
  split at h
  ·cases h;exact h1 _ hs
  ·cases h;exact h1 _ hs
 rw[η hn] at h;split at h
 ·cases h
 ·rename_i hy;cases h;exact aSz _ hy
theorem x7 {c:UInt8}{r:Str}{e:Int}(h:jE (c::r)=.error e):¬e=0:=by
 rw[jE] at h;split at h
 ·split at h
  ·cases h;decide
  ·cases h
 split at h
 ·unfold pE at h;split at h
  ·cases h;decide
  split at h
  ·cases h
  split at h<;>cases h
 split at h
 ·cases h;decide
 ·cases h
theorem a0e (S:Str):aW Tryz.prog 74 [Go.AM.T S] [] (aIl (pG S)) []:=by
 refine b9 (n:=56) tok Tryz.func74 rfl rfl rfl ?_;refine sg rfl (aA (sg rfl (aB rfl (fun hb=>?_) (fun hb=>?_))))
 ·unfold pG;rw[ζ (by have:=κ hb;omega)];exact sg rfl (aE (aWo trw))
 have hl:S.length≤4000:=by have:=Ac hb;omega
 have hA:pG S=aWr [] (mD S.length 0 (S.drop 0)):=by
  unfold pG;rw[η (by omega),B8];cases mD S.length 0 S<;>rfl
 refine aD (sg rfl (sg rfl (AWp.sub (Sub.own (t:=4) (id:=500) 131 4 rfl rfl) ?_)));refine aA (aF (aJ (fun p:Nat×Nat×List Tk=>mk [(0,Go.AM.T S),(3,.one (.vp 3 0)),(4,.one (.hs 500 0 p.2.2.length p.2.2.length)),(5,I .i64 p.1)] [(3,.var 33 [.c (.int .i64 0),.c (.int .i64 0)]),(500,.arr 131 4 (p.2.2.map aI) 0)]) (fun p=>p.1≤S.length∧S.length-p.1≤p.2.1∧p.2.2.length+(S.length-p.1)≤S.length∧pG S=aWr p.2.2 (mD p.2.1 p.1 (S.drop p.1))) (fun p=>p.2.1) (0,S.length,[]) ⟨Ab _,by dsimp only;omega,by dsimp only;simp,hA⟩ sl ?_));rintro⟨i,f,out⟩ ⟨hi,hf,E,q⟩;dsimp only at hi hf E q ⊢;have hout:(out.map aI).length=out.length:=ξ _;refine aA (sg rfl (aB rfl (fun hb=>?_) (fun hb=>?_)))
 ·have hlt:i<S.length:=by have:=κ hb;omega
  obtain⟨g,rfl⟩:∃g,f=g+1:=⟨f-1,by omega⟩
  obtain⟨c,r,y⟩:∃c r,S.drop i=c::r:=by
   cases h:S.drop i with
   | nil=>
    have:=congrArg List.length h;rw[Bi,length_nil] at this;omega
   | cons c r=>exact⟨c,r,rfl⟩
  have J:(c::r).length=S.length-i:=by rw[←y,Bi]
  rw[ω] at J;have M:=aVo c r (by omega);have O:=aZw c r (by omega);have U:=aBp (c::r);have Y:= @nI c r;have aa:= @x7 c r;rw[y,mD] at q;refine aD (aF (sk 3 rfl ?_));rw[y];refine kc M ?_;refine kz 1 rfl ?_;have B:∀m:Nat,(c::r).drop m=S.drop (i+m):=fun m=>by rw[←y,Cx]
  rw[ω] at U;refine aA (sg rfl (aB rfl (fun hb=>?_) (fun hb=>?_)))
  ·have A:0<fX (c::r):=by have:=κ hb;omega
   rw[ζ A,B] at q;generalize fX (c::r)=m at *;exact aA (agN [] rfl (aH ⟨(i+m,g,out),⟨by dsimp only;omega,by dsimp only;omega,by dsimp only;omega,q⟩,by dsimp only;omega,sl⟩))
  ·have A:¬0<fX (c::r):=by have:=Ac hb;omega
   rw[η A] at q;refine aD (sk 3 rfl ?_);rw[y];refine kc O ?_;generalize jE (c::r)=o at *;cases o with
   | error e=>
    dsimp only at q;have he:=aa rfl;rw[q];exact kz 6 rfl (aA (sg rfl (aB rfl (fun _=>sg rfl (aE (aWo trw))) (fun hb=>absurd hb (by simp[he])))))
   | ok p=>
    obtain⟨k,t,v⟩:=p;dsimp only at q;obtain⟨ht1,ab⟩:=Y rfl;rw[ω] at ab;rw[zP,B] at q;refine kz 6 rfl (aA (sg rfl (aB rfl (fun hb=>absurd hb (by decide)) (fun _=>aD (sg rfl (sgh [(1,.all),(2,.all)] rfl (agN [] rfl ?_)))))));have u:out.map aI++[[.int .i64 k,.str t,.int .i64 v,.int .i64 (i:Int)]]=(out++[(⟨k,t,v,i⟩:Tk)]).map aI:=by simp[aI]
    exact⟨(i+t.length,g,out++[⟨k,t,v,i⟩]),⟨by dsimp only;omega,by dsimp only;omega,by dsimp only;rw[ψ,Bm];omega,q⟩,by dsimp only;omega,sl (he:=⟨rfl,rfl,Go.AM.hs_ren (by simp) (by simp),rfl,trivial⟩) (hh:=⟨⟨_,rfl,.var rfl⟩,⟨_,rfl,.arrS u⟩,trivial⟩)⟩
 ·have e:i=S.length:=by have:=Ac hb;omega
  have hE:mD f i (S.drop i)=.ok [⟨6,[],0,i⟩]:=by
   rw[e,Ch];cases f<;>rfl
  rw[hE] at q;rw[q];have u:out.map aI++[[.int .i64 6,.str [],.int .i64 0,.int .i64 (i:Int)]]=(out++[(⟨6,[],0,i⟩:Tk)]).map aI:=by simp[aI]
  refine aH (sgh [(4,.all)] rfl ?_);subst e;show AWp _ _ _ _ _ _ (fun ex st=>(ex=.normal∨ex=.ret)∧Fin _ _ st _ (aIl (.ok (out++[⟨6,[],0,(S.length:Int)⟩]))) _);unfold aIl;dsimp only;rw[←u];refine AWp.sub (Sub.freeze (id:=500) rfl) (AWp.sub (cv 2 (out.map aI++[[.int .i64 6,.str [],.int .i64 0,.int .i64 (S.length:Int)]])) ?_);exact aE (aWo trw)
end Go.Proofs.YtkhgpgihmphfdaaGreatDoor
namespace Go.Proofs.YtkhgpgihmphfdaaGreatDoor
open Go Go.AM
set_option maxRecDepth 20000
def fY (n:Int):List C:=[.int .i64 n]
def oneOf (l:List Str) (n:Int):Str:=(l[(eB n l.length).toNat]?).getD []
theorem aEq {l:List Str}{n:Int}{k:Nat}(hl:0<l.length) (h:eB n l.length=k):(l.map aK)[k]?=some (aK (oneOf l n)):=by
 have h1:=(dY n (k:=l.length) (by omega)).2
 have q:k<l.length:=by omega
 unfold oneOf;rw[h];simp[q]
def aN0:List Str:=[[97],[98],[99],[120]]
theorem aL1 (n:Int) (hn:i64 n):aW Tryz.prog 200 [I .i64 n] [] (Go.AM.T (oneOf aN0 n)) []:=by
 refine b9 (n:=8) tok Tryz.func200 rfl rfl rfl ?_;refine sg rfl ?_;obtain⟨k,q⟩:=Int.eq_ofNat_of_zero_le (dY n (k:=4) (by omega)).1;have hx:=aEq (l:=aN0) (n:=n) (by decide) q;have u:=(dY n (k:=4) (by omega)).2
 refine sk 2 rfl (kc (pW n 4 hn (by omega)) ?_);exact ak 3 [(3,.row k []),(4,.row k (aK (oneOf aN0 n)))] rfl (az (aE ⟨.inr rfl,⟨_,_,.tmp rfl .nil,.cons .refl .nil,rfl⟩,trivial,rfl⟩))
def dQ (a b:Ty):Ty:=.mk 4 0 [] [a,b]
def arrow:Str:=[45,62]
def nB (a b:Ty):Ty:=dQ (dQ (.mk 3 0 arrow []) a) b
theorem aVq (a b:Ty):aW Tryz.prog 199 [.pa (bF a),.pa (bF b)] [] (.pa (bF (dQ a b))) []:=by
 obtain⟨f,n,s,l⟩:=a;obtain⟨q,u,y,A⟩:=b;refine b9 (n:=9) tok Tryz.func199 rfl rfl rfl ?_;refine sg rfl (sg rfl (AWp.sub (Sub.freeze (id:=7) rfl) (aE ?_)));exact⟨.inr rfl,⟨_,_,.cell rfl (tg rfl) rfl rfl rfl .nil,.cons (.agg (.c .refl (.c .refl (.c .refl (.hs rfl rfl rfl .nil))))) .nil,rfl⟩,trivial,rfl⟩
theorem aVh (a b:Ty):aW Tryz.prog 167 [.pa (bF a),.pa (bF b)] [] (.pa (bF (nB a b))) []:=by
 obtain⟨f,n,s,l⟩:=a;obtain⟨q,u,y,A⟩:=b;refine b9 (n:=10) tok Tryz.func167 rfl rfl rfl ?_;refine sg rfl (sk 2 rfl (kc (aVq (.mk 3 0 arrow []) (.mk f n s l)) ?_));refine ak 1 [] rfl (kc (aVq (dQ (.mk 3 0 arrow []) (.mk f n s l)) (.mk q u y A)) ?_);exact kz 1 rfl (aE ⟨.inr rfl,⟨_,_,.cell rfl (tg rfl) rfl rfl rfl .nil,.cons .refl .nil,rfl⟩,trivial,rfl⟩)
def oD (l:List Int):Prop:=∀x∈l,i64 x
theorem oD.suf {l q:List Int}(h:oD l) (hs:q<:+l):oD q:=fun x hx=>h x (hs.subset hx)
theorem Fits.suf {l q:List Int}(h:Fits l) (hs:q<:+l):Fits q:=by
 have:=hs.length_le;unfold Fits at *;omega
def a1k:Ty:=.mk 3 0 [73,110,116] []
def tyV (t:Ty):V:=.pa (bF t)
def zTy:Ty:=.mk 0 0 [] []
theorem aR5 (l:List Int) (k:Nat) (q:Fits l) (u:k≤1000):aW Tryz.prog 66 [.one (.c (.sl 1 (l.map fY))),I .i64 k] [] (.one (.c (.sl 1 ((l.take k).map fY)))) []:=by
 unfold Fits at q;refine b9 (n:=14) tok Tryz.func66 rfl rfl rfl ?_;refine sg rfl (sg rfl (sk 6 rfl ?_));have hm:(if(k:Int)<(((l.map fY).length:Nat):Int) then(k:Int) else(((l.map fY).length:Nat):Int))=((min l.length k:Nat):Int):=by
  rw[ξ];split<;>omega
 rw[hm];have ht:(l.map fY).take (min l.length k)=(l.take k).map fY:=by
  rw[←map_take];congr 1;by_cases h:k≤l.length
  ·rw[Nat.min_eq_right h]
  ·rw[C4 (by omega),Au (le_refl _),Au (by omega)]
 have hl:((l.map fY).take (min l.length k)).length≤1000:=by rw[Ai];omega
 refine akN 3 [] rfl (az (AWp.sub (Sub.freeze (id:=13) rfl) (aE ?_))) (hc:=⟨by omega,by rw[ξ];omega,by omega,trivial⟩);rw[←ht];exact⟨.inr rfl,⟨_,_,.tmp rfl .nil,.cons (.one (.hs rfl rfl (by rw[B8,Al]) .nil)) .nil,rfl⟩,trivial,rfl⟩
theorem bQ {α:Type}{l:List α}{k:Nat}{x:α}(h:l[k]?=some x):l.take (k+1)=l.take k++[x]:=by rw[Bh,h];rfl
theorem sG {l:List Str}{n:Int}(hl:0<l.length):oneOf l n∈l:=by
 obtain⟨k,q⟩:=Int.eq_ofNat_of_zero_le (dY n (k:=l.length) (by omega)).1;have u:=(dY n (k:=l.length) (by omega)).2
 have h1:k<l.length:=by omega
 have:oneOf l n=l[k]:=by
  unfold oneOf;rw[q];simp[h1]
 rw[this];exact List.getElem_mem h1
def bU (l:List Str):V:=.one (.c (.sl 1 (l.map aK)))
def aC2 (s:Str):List Str→Int→Int
 | [],_=> -1
 | x::l,k=>if s=x then k else aC2 s l (k+1)
theorem xO (s:Str):∀(l:List Str) (k:Int),0≤k→(decide (0≤aC2 s l k)=decide (s∈l))
 | [],k,_=>by simp[aC2]
 | x::l,k,q=>by
  rw[aC2];split
  ·rename_i h;subst h;simp[q]
  ·rename_i h;rw[xO s l (k+1) (by omega)];simp[h]
theorem aVg (l:List Str) (s:Str) (h:l.length≤600000000000):aW Tryz.prog 148 [bU l,Go.AM.T s] [] (I .i64 (aC2 s l 0)) []:=by
 refine b9 (n:=19) tok Tryz.func148 rfl rfl rfl ?_;refine sg rfl (aA (sg rfl ?_));have u:(l.map aK).length=l.length:=ξ _;refine aF (aJ (fun i:Nat=>mk [(0,bU l),(1,Go.AM.T s),(7,I .i64 ((l.map aK).length:Int)),(8,I .i64 i)] []) (fun i=>i≤l.length∧aC2 s l 0=aC2 s (l.drop i) i) (fun i=>l.length-i) 0 ⟨Ab _,rfl⟩ sl ?_);intro i ⟨hi,he⟩;refine sg rfl (aA (aB rfl (fun hb=>?_) (fun hb=>?_)))
 ·have q:=ltD hb u;obtain⟨x,hx⟩:=aG q;have B:=aP aK hx;have A:l.drop i=x::l.drop (i+1):=by rw[Az q,(Ah.1 hx).2]
  rw[A,aC2] at he;refine aD (aA (aF (sg rfl (sgh [(3,.row i (aK x))] rfl (aB rfl (fun hb=>?_) (fun hb=>?_))))))
  ·have hs:s=x:=κ hb;rw[ζ hs] at he;rw[he];exact sg rfl (aE rtT)
  ·have hs:¬s=x:=Ac hb;rw[η hs] at he;exact aD (ag [] rfl ⟨i+1,⟨q,he⟩,by dsimp only;omega,sl⟩)
 ·have y:=geD hb u hi;subst y;rw[Ch,aC2] at he;rw[he];exact aH (sg rfl (aE rtT))
theorem r4 (l:List Str) (s:Str) (h:l.length≤600000000000):aW Tryz.prog 107 [bU l,Go.AM.T s] [] (B (decide (s∈l))) []:=by
 have hi:=aVg l s h;refine b9 (n:=9) tok Tryz.func107 rfl rfl rfl ?_;refine sg rfl (sgh [(2,.pc (I .i64 (aC2 s l 0)))] rfl ?_);rw[←xO s l 0 (by omega)];exact aE rtT
end Go.Proofs.YtkhgpgihmphfdaaGreatDoor
namespace Go
section
variable {F:Fence}{n:Nat}{P:Program}{b:Frame}{a:Act}{k:List Item}{cs:List Frame}{w:World}{Q:Exit→Act→World→Prop}
theorem gI {c:Code}:step P (lone (b.atR a (.code (.scope c)::k)) cs w)=.next (lone (b.atR a (.code c:: .inScope c::k)) cs w):=
 step_lone_go (by simp[stepG,stepG.exec,Frame.atR])
theorem w9 {c:Code}:step P (lone (b.atR a (.inScope c::k)) cs w)=.next (lone (b.atR a k) cs w):=
 step_lone_go (by simp[stepG,stepG.exec,Frame.atR])
def Exit.noJump (Q:Exit→Act→World→Prop):Exit→Act→World→Prop
 | .goto _,_,_=>False
 | e,a,w=>Q e a w
theorem aGv {c:Code}(h:c.wpIn F n P (Exit.noJump Q) a w):(Code.scope c).wpIn F n P Q a w:=by
 intro b k cs E hb A;have h0:(lone (b.atR a (.code (.scope c)::k)) cs w).fenced P F:=fenced_calm hb A rfl;obtain⟨e,u,y,hq,q⟩:=h b (.inScope c::k) cs E hb A;cases e with
 | normal=>exact⟨.normal,u,y,hq,.head h0 gI (StepsIn.trans q (.one (fenced_calm hb A rfl) w9))⟩
 | exit id=>
  have hx:exitTo id (.inScope c::k)=exitTo id k:=by simp[exitTo]
  exact⟨.exit id,u,y,hq,fun k' B=>.head h0 gI (q.1 k' (by rw[hx];exact B)),
   fun I B=>let ⟨k₁,h1,h2⟩:=q.2 I (by rw[hx];exact B);⟨k₁,h1,.head h0 gI h2⟩⟩
 | goto l=>exact hq.elim
 | ret=>exact⟨_,u,y,hq,.of_steps (.one h0 gI) q⟩
 | panic J=>exact⟨_,u,y,hq,.of_steps (.one h0 gI) q⟩
 | outgrown=>exact⟨_,u,y,hq,.of_steps (.one h0 gI) q⟩
end
end Go
namespace Go.AM
open Go
section
variable {ro:Option Nat}{P:Program}{n:Nat}{kf:List Nat}{st:St}{Q:Exit→St→Prop}
theorem aM6 {l:Nat}(h:Q .normal st):AWp ro P n kf (.label l) st Q:=fun _ S μ a w _ _ hs q=>wpIn_label (q _ _ S μ a w h hs)
def aSo (Q:Exit→St→Prop):Exit→St→Prop
 | .goto _,_=>False
 | e,st=>Q e st
theorem aM5 {c:Code}(h:AWp ro P n kf c st (aSo Q)):AWp ro P n kf (.scope c) st Q:=fun G S μ a w Q' u hs y=>
 aGv (h G S μ a w _ u hs fun ex st' S' μ' A w' q s=>by
  cases ex with
  | goto l=>exact q.elim
  | _=>exact y _ st' S' μ' A w' q s)
end
section
variable {QP:Value→Prop}{P:Program}{n:Nat}{ops:Array Oper}{draw:Bool}{k d:Nat}{st:St}{pre:REs}{Q:St→Prop}{o:Oper}{f:FuncId}{xs:Array Operand}{ts:Array TypeId}{ids:List Nat}{args:List V}{res:V}{hin hout:List (Nat×AObj)}
theorem kvG {x:Operand}{caps:List R}{j t:Nat}{want b:Bool}(E:aW P f (args++caps.map V.one) hin res hout)
  (I:kK QP P n ops draw (k+1) ⟨upd st.e d (some res),jT st.h (outs hout),st.d⟩ ((⟨t::(opr x++c7 xs.toList),ids++keys hin++keys hout⟩,⟨some (d,some res),outs hout⟩)::pre) Q)
  (hb:jO P f:=by exact aMm (by kernel_rfl)) (ho:ops[k]?=some o:=by rfl) (J:o.guard=some (j,want):=by rfl) (hj:(ops[j]?).bind (·.dst)=some t:=by rfl) (y:st.e t=some (.one (.c (.bool b))):=by rfl) (hw:b=want:=by first | rfl | assumption) (A:o.op=.call { callee:=.value x,args:=xs,argTypes:=ts }:=by rfl) (M:o.dst=some d:=by rfl) (B:Nat.blt d n=true:=by rfl) (hx:opv st x=some (.one (.clo f caps)):=by rfl)
  (ha:ArgsV st ids xs.toList args:=by repeat (first | exact .nil | (apply Go.AM.ArgsV.cons rfl;(first | exact .refl | exact .one (.c .nl .nil) | exact .one (.c .sn .nil) | exact .one (.hs rfl (by first | rfl | simp) (by first | rfl | (simp;done) | (simp[Go.AM.take_map];done) | exact Go.AM.take_map.symm) .nil) | exact Go.AM.hs_all rfl rfl (by first | rfl | assumption | (simp;done) | (simp;omega)) (by first | rfl | assumption | (simp;done)) | ((first | apply Go.AM.Conv.pa | apply Go.AM.Conv.agg);repeat (first | exact .nil | apply Go.AM.PureL.c .refl | apply Go.AM.PureL.c .nl | apply Go.AM.PureL.c .sn | (apply Go.AM.PureL.hs;rfl;(first | rfl | simp);(first | rfl | (simp;done) | (simp[Go.AM.take_map];done) | exact Go.AM.take_map.symm))))))))
  (u:iM (fun p=>st.h p.1=some p.2) hin:=by repeat (first | exact trivial | refine⟨rfl,?_⟩)) (q:iM (fun p=>p.1∈keys hin∨st.h p.1=none) hout:=by repeat (first | exact trivial | refine⟨.inr rfl,?_⟩ | refine⟨.inl (by decide),?_⟩ | refine⟨.inl (by repeat (first | exact List.Mem.head _ | apply List.Mem.tail)),?_⟩)) (hok:gG (args++caps.map V.one) hin=true:=by rfl):kK QP P n ops draw k st pre Q:=
 k_ (GStep.yes ho J hj y hw (aJy hin hout hb A M (kE B) hx E ha u q hok)) I
end
end Go.AM
