/-
  Texts Am27 to Am50 in one.
-/
import Derived.Test.YtpmheldmadendaaGreatDoorM5
import Derived.Test.YtpmheldmadendaaGreatDoorProg
import Derived.KernelRfl
import Derived.Laws.RangeString
import Derived.Lib.OthersKept
import Derived.LoopTactic
import Derived.Tactics2
import Derived.Shelf.Spec.SlicesGrow
import Derived.Laws.Runes
import Derived.Laws.MakeOwn
import Derived.Lib.Bytealg
import Derived.IntWalk
import Derived.ControlIn
open List (cons_append drop_append drop_drop drop_eq_getElem_cons drop_eq_nil_of_le drop_length drop_zero eq_nil_of_length_eq_zero length_append length_cons length_drop length_map length_nil length_pos_iff length_replicate length_singleton length_take mem_map nil_append replicate_succ take_add_one take_append_drop take_length take_of_length_le)
open Nat (eq_of_beq_eq_true le_refl le_trans lt_of_lt_of_le min_eq_left mul_one sub_self zero_le)
namespace Go.AM
open Go
theorem Ole.arrS {σ:Nat→Nat}{te es fz:Nat}{l q:List (List C)}(h:l=q):Ole σ (.arr te es l fz) (.arr te es q fz):=by subst h;exact .arr
theorem hs_ren {id off a b q r:Nat}(h:a=q) (k:b=r):some (V.one (.hs id off a b))=some (V.ren (fun i=>i) (V.one (.hs id off q r))):=by subst h;subst k;rfl
theorem sl {kf:List Nat}{q:St}{r:List (Nat×V)}{hl:List (Nat×AObj)}
  (he:gN (fun p=>q.e p.1=some (p.2.ren (fun i=>i))) r:=by repeat (first | exact trivial | refine⟨by first | rfl | exact Go.AM.hs_ren (by first | (simp;done) | (simp;omega)) (by first | (simp;done) | (simp;omega)),?_⟩))
  (hh:gN (fun p=>∃o,q.h p.1=some o∧Ole (fun i=>i) o p.2) hl:=by repeat (first | exact trivial | refine⟨⟨_,rfl,by first | exact Go.AM.Ole.arr | exact Go.AM.Ole.var rfl | exact Go.AM.Ole.map | exact Go.AM.Ole.rarr rfl | exact Go.AM.Ole.arr1 | exact Go.AM.Ole.arrS (by first | assumption | (simp;done) | (simp;rfl) | (simp;omega)) | exact Go.AM.Ole.arrE (by first | assumption | (simp;done) | (simp;rfl) | (simp;omega)) | exact Go.AM.Ole.var (by first | (simp[Go.AM.R.renL,Go.AM.R.ren];done) | (simp[Go.AM.R.renL,Go.AM.R.ren];omega)) | exact Go.AM.Ole.mapE (by first | assumption | (simp;done) | (simp;rfl) | (simp;omega))⟩,?_⟩))
  (hok:(aXy kf (fun i=>i) r hl&&eqL [] q.d)=true:=by rfl):Sub kf (mk r hl) q:=Sub.list (fun i=>i) he hh hok
theorem take_all {α:Type}{l:List α}{n:Nat}(h:n=l.length):l=(l.drop 0).take n:=by rw[h,B5,Ax]
theorem ltD {i n:Nat}{l:List (List C)}(h:decide ((i:Int)<(l.length:Int))=true) (e:l.length=n):i<n:=by
 have:(i:Int)<(l.length:Int):=by simpa using h
 omega
theorem geD {i n:Nat}{l:List (List C)}(h:decide ((i:Int)<(l.length:Int))=false) (e:l.length=n) (hi:i≤n):i=n:=by
 have:¬(i:Int)<(l.length:Int):=by simpa using h
 omega
section
variable {T:TT}{fn:Func}{st:St}{hin hout:List (Nat×AObj)}{res:V}
theorem rtT {t:Nat}{v:V}{ids:List Nat}(q:fn.results.toList=[.tmp t]:=by rfl) (hv:st.e t=some v:=by rfl)
  (hc:Conv st.h ids v res:=by first | exact .refl | exact .one (.c .nl .nil) | ((first | apply Go.AM.Conv.pa | apply Go.AM.Conv.agg);repeat (first | exact .nil | apply Go.AM.PureL.c .refl | apply Go.AM.PureL.c .nl | (apply Go.AM.PureL.hs;rfl;(first | rfl | assumption | simp);(first | rfl | exact Go.AM.take_all (by first | assumption | rfl | (simp;done)) | exact Go.AM.take_map.symm)))))
  (ho:gN (fun p=>∃o,st.h p.1=some o∧Ole (fun i=>i) o p.2) hout:=by repeat (first | exact trivial | refine⟨⟨_,rfl,by first | exact Go.AM.Ole.arr | exact Go.AM.Ole.var rfl | exact Go.AM.Ole.map | exact Go.AM.Ole.rarr rfl | exact Go.AM.Ole.arr1 | exact Go.AM.Ole.arrS (by first | assumption | (simp;done) | (simp;rfl) | (simp;omega)) | exact Go.AM.Ole.arrE (by first | assumption | (simp;done) | (simp;rfl) | (simp;omega)) | exact Go.AM.Ole.var (by first | (simp[Go.AM.R.renL,Go.AM.R.ren];done) | (simp[Go.AM.R.renL,Go.AM.R.ren];omega)) | exact Go.AM.Ole.mapE (by first | assumption | (simp;done) | (simp;rfl) | (simp;omega))⟩,?_⟩))
  (hok:(subset res.refs (keys hout)&&subset (gO hout) (keys hout)&&distinct (keys hout)&&subset (keys hin) (keys hout)&&(hin.all fun p=>p.2.plain)&&(hout.all fun p=>p.2.plain))=true:=by rfl):(Exit.ret=.normal∨Exit.ret=.ret)∧Fin T fn st hin res hout:=
 ⟨.inr rfl,⟨[v],[res],by rw[q];exact .tmp hv .nil,.cons hc .nil,rfl⟩,ho,hok⟩
theorem rtC {tr:Tr}{a t:Nat}{i:TI}{id off tv:Nat}{cells:List R}{v:V}{ids:List Nat}(hw:tr.wf=true) (q:fn.results.toList=[.cell a t]:=by rfl) (hi:tr.get t=some i:=by rfl) (ha:st.e a=some (.one (.vp id off)):=by rfl) (hh:st.h id=some (.var tv cells):=by rfl) (hb:Nat.ble (off+i.size) cells.length=true:=by rfl) (hv:k8 i ((cells.drop off).take i.size)=some v:=by rfl)
  (hc:Conv st.h ids v res:=by first | exact .refl | exact .one (.c .nl .nil) | ((first | apply Go.AM.Conv.pa | apply Go.AM.Conv.agg);repeat (first | exact .nil | apply Go.AM.PureL.c .refl | apply Go.AM.PureL.c .nl | (apply Go.AM.PureL.hs;rfl;(first | rfl | assumption | simp);(first | rfl | exact Go.AM.take_all (by first | assumption | rfl | (simp;done)) | exact Go.AM.take_map.symm)))))
  (ho:gN (fun p=>∃o,st.h p.1=some o∧Ole (fun i=>i) o p.2) hout:=by repeat (first | exact trivial | refine⟨⟨_,rfl,by first | exact Go.AM.Ole.arr | exact Go.AM.Ole.var rfl | exact Go.AM.Ole.map | exact Go.AM.Ole.rarr rfl | exact Go.AM.Ole.arr1 | exact Go.AM.Ole.arrS (by first | assumption | (simp;done) | (simp;rfl) | (simp;omega)) | exact Go.AM.Ole.arrE (by first | assumption | (simp;done) | (simp;rfl) | (simp;omega)) | exact Go.AM.Ole.var (by first | (simp[Go.AM.R.renL,Go.AM.R.ren];done) | (simp[Go.AM.R.renL,Go.AM.R.ren];omega)) | exact Go.AM.Ole.mapE (by first | assumption | (simp;done) | (simp;rfl) | (simp;omega))⟩,?_⟩))
  (hok:(subset res.refs (keys hout)&&subset (gO hout) (keys hout)&&distinct (keys hout)&&subset (keys hin) (keys hout)&&(hin.all fun p=>p.2.plain)&&(hout.all fun p=>p.2.plain))=true:=by rfl):(Exit.ret=.normal∨Exit.ret=.ret)∧Fin tr.flat fn st hin res hout:=
 ⟨.inr rfl,⟨[v],[res],by rw[q];exact .cell ha (Tr.get_ok hw hi) hh hb hv .nil,.cons hc .nil,rfl⟩,ho,hok⟩
end
end Go.AM
namespace Go.AM
open Go
theorem qE {id:Nat}{o:AObj}{hin:List (Nat×AObj)}:look ((id,o)::hin)=upd (look hin) id (some o):=by
 funext i;by_cases h:i=id
 ·subst h;rw[aJ,mX]
 ·rw[bH _ _ _ h,wX h]
theorem Inv.emptyZ {G:Ctx}{S:Sto}{μ:Mu}{H:cE}{w:World}{id:Nat}(te es z:Nat) (h:Inv G S μ H w) (hid:H id=none):Inv G S (upd μ id none) (upd H id (some (.arr te es [] z))) w∧Evolve S μ H S (upd μ id none) (upd H id (some (.arr te es [] z))):=by
 have u:Evolve S μ H S (upd μ id none) (upd H id (some (.arr te es [] z))):=fM hid _ _;refine⟨⟨h.holds,fun j x hj=>?_,fun i j x y b c c' hi hj hm q=>?_,fun i x b c hi hm=>?_,h.frame,h.sle,h.sto,h.evo.trans u,h.fre⟩,u⟩
 ·by_cases r:j=id
  ·subst r;rw[aJ] at hj;cases hj;exact⟨by simp,.inl ⟨aJ _ _ _,rfl⟩⟩
  ·rw[bH _ _ _ r] at hj;exact(h.obj j x hj).evolve u (bH _ _ _ r) fun _ _ _=>⟨rfl,fun _=>rfl,rfl⟩
 ·have h1:i≠id:=fun e=>by subst e;rw[aJ] at hm;cases hm
  have h2:j≠id:=fun e=>by subst e;rw[aJ] at q;cases q
  rw[bH _ _ _ h1] at hi hm;rw[bH _ _ _ h2] at hj q;exact h.inj i j x y b c c' hi hj hm q
 ·have h1:i≠id:=fun e=>by subst e;rw[aJ] at hm;cases hm
  rw[bH _ _ _ h1] at hi hm;exact h.own i x b c hi hm
theorem b9.nilArg {P:Program}{f:FuncId}{pre post:List V}{hin hout:List (Nat×AObj)}{res:V}{id te es z:Nat}(h:b9 P f (pre++ .one (.hs id 0 0 0)::post) ((id,.arr te es [] z)::hin) res hout) (hid:look hin id=none):b9 P f (pre++ .one (.c .nl)::post) hin res hout:=by
 intro S μ w vals J hv;obtain⟨hi,y⟩:=J.emptyZ te es z hid;have B:jE (upd μ id none) (look ((id,.arr te es [] z)::hin))=jE μ (look hin):=by
  funext b;rw[qE];refine propext ⟨?_,?_⟩
  ·rintro⟨j,o,c,h1,h2⟩;by_cases hj:j=id
   ·subst hj;rw[aJ] at h2;cases h2
   ·rw[bH _ _ _ hj] at h1 h2;exact⟨j,o,c,h1,h2⟩
  ·rintro⟨j,o,c,h1,h2⟩;have hj:j≠id:=fun e=>by subst e;rw[hid] at h1;cases h1
   exact⟨j,o,c,by rw[bH _ _ _ hj];exact h1,by rw[bH _ _ _ hj];exact h2⟩
 have E:Inv ⟨w,S,jE (upd μ id none) (look ((id,.arr te es [] z)::hin)),upd μ id none,look ((id,.arr te es [] z)::hin)⟩ S (upd μ id none) (look ((id,.arr te es [] z)::hin)) w:=by
  rw[B,qE];exact⟨hi.holds,hi.obj,hi.inj,hi.own,hi.frame,hi.sle,hi.sto,Evolve.refl _ _ _,hi.fre⟩
 have I:b5 S (upd μ id none) (look ((id,.arr te es [] z)::hin)) (pre++ .one (.hs id 0 0 0)::post) vals:=by
  rw[qE];have key:∀(l:List V) (us:List Value),b5 S μ (look hin) (l++ .one (.c .nl)::post) us→b5 S (upd μ id none) (upd (look hin) id (some (.arr te es [] z))) (l++ .one (.hs id 0 0 0)::post) us:=by
   intro l
   induction l with
   | nil=>
    intro us hu;simp only[Ak,b5] at hu ⊢;obtain⟨u,q,h1,h2,r⟩:=hu;refine⟨u,q,h1,?_,b5.evolve y _ _ r⟩;simp only[aO,aZ,Rep] at h2 ⊢;exact⟨⟨_,_,_,h2⟩,.inr ⟨te,es,[],z,aJ _ _ _,le_refl _,fun _=>⟨le_refl _,.inl ⟨aJ _ _ _,rfl,h2⟩⟩⟩⟩
   | cons x l M=>
    intro us hu;simp only[Ad,b5] at hu ⊢;obtain⟨u,q,h1,h2,r⟩:=hu;exact⟨u,q,h1,aO.evolve y _ _ h2,M q r⟩
  exact key pre vals hv
 refine Calls.mono (h S (upd μ id none) w vals E I) ?_;rintro e w' ⟨S',μ',v,h1,h2,r⟩;refine⟨S',μ',v,h1,?_,r⟩;rw[B] at h2;refine⟨h2.holds,h2.obj,h2.inj,h2.own,h2.frame,h2.sle,h2.sto,y.trans ?_,h2.fre⟩;have:=h2.evo;rwa [qE] at this
theorem b9.sub {P:Program}{f:FuncId}{args:List V}{hin hout r:List (Nat×AObj)}{res q:V}(h:b9 P f args hin res hout) (hs:Sub (keys hin) (mk [(0,q)] r) (mk [(0,res)] hout)):b9 P f args hin q r:=by
 intro S μ w vals B hv;refine Calls.mono (h S μ w vals B hv) ?_;rintro e w' ⟨S',μ',v,h1,h2,E⟩;have u:Ctx.keeps ⟨w,S,jE μ (look hin),μ,look hin⟩ (keys hin):=rI
 obtain⟨S2,I,g⟩:=hs _ 1 S' μ' ⟨#[v],[]⟩ w' u ⟨h2,rfl,rfl,fun t y e=>by
  simp only[mk,look] at e;split at e
  ·rename_i hb;cases e;rw[Aa hb];exact E
  ·cases e⟩
 exact⟨S2,I,v,h1,g.inv,g.env 0 q rfl⟩
theorem b9.plain {P:Program}{f:FuncId}{args:List V}{id te es n:Nat}{rows:List (List C)}{fz:Nat}(h:b9 P f args [] (.one (.hs id 0 n n)) [(id,.arr te es rows fz)]) (hn:n=rows.length):b9 P f args [] (.one (.c (.sl es rows))) []:=by
 refine h.sub ?_;have h1:Sub [] ⟨look [(0,V.one (.hs id 0 n n))],upd (look [(id,AObj.arr te es rows fz)]) id (some (.arr te es rows 2)),[]⟩ (mk [(0,.one (.hs id 0 n n))] [(id,.arr te es rows fz)]):=Sub.freeze (st:=mk [(0,.one (.hs id 0 n n))] [(id,.arr te es rows fz)]) mX;refine Sub.trans (Sub.trans ?_ (Sub.conv (t:=0) (v:=.one (.hs id 0 n n)) rfl (hs_all (aJ _ _ _) rfl hn rfl))) h1;exact Sub.list (fun i=>i) ⟨rfl,trivial⟩ trivial rfl
theorem Sub.varPure {kf:List Nat}{st:St}{x tv:Nat}{cells:List R}{ids:List Nat}{cs:List C}(h:st.h x=some (.var tv cells)) (hp:PureL st.h ids cells cs):Sub kf ⟨st.e,upd st.h x (some (.var tv (cs.map R.c))),st.d⟩ st:=by
 intro G n S μ a w _ hs;have hi:=hs.inv;obtain⟨b,vs,g1,g2,g3,g4⟩:=hi.obj x _ h
 have r:Evolve S μ st.h S μ (upd st.h x (some (.var tv (cs.map R.c)))):=⟨S.le_refl,fun j y hj=>by
  by_cases q:j=x
  ·subst q;rw[h] at hj;cases hj;exact⟨_,aJ _ _ _,by simp[AObj.succ]⟩
  ·exact⟨y,by rw[bH _ _ _ q];exact hj,y.succ_refl rfl⟩⟩
 have hold:∀j y,upd st.h x (some (.var tv (cs.map R.c))) j=some y→∃E,st.h j=some E:=fun j y hj=>by
  by_cases q:j=x
  ·subst q;exact⟨_,h⟩
  ·rw[bH _ _ _ q] at hj;exact⟨_,hj⟩
 refine⟨S,μ,⟨⟨hi.holds,fun j y hj=>?_,fun i j y E b c c' u hj hm I=>?_,fun i y b c u hm=>?_,hi.frame,hi.sle,hi.sto,hi.evo.trans r,hi.fre⟩,hs.size,hs.defers.evolve r,fun s v e=>aO.evolve r v _ (hs.env s v e)⟩⟩
 ·by_cases q:j=x
  ·subst q;have B:some (AObj.var tv (cs.map R.c))=some y:=by rw[←hj];exact(aJ _ _ _).symm
   cases B;exact⟨b,vs,g1,g2,(hp.rel (fun _ _=>rfl) hi.obj g3).toR,g4⟩
  ·have B:st.h j=some y:=by rw[←hj];exact(bH _ _ _ q).symm
   exact(hi.obj j y B).evolve r rfl fun _ _ _=>⟨rfl,fun _=>rfl,rfl⟩
 ·obtain⟨_,h1⟩:=hold _ _ u;obtain⟨_,h2⟩:=hold _ _ hj;exact hi.inj i j _ _ b c c' h1 h2 hm I
 ·obtain⟨_,h1⟩:=hold _ _ u;exact hi.own i _ b c h1 hm
theorem vp {kf:List Nat}{st:St}(x:Nat) {tv:Nat}{cells:List R}(cs:List C) {ids:List Nat}(h:st.h x=some (.var tv cells):=by rfl)
  (hp:PureL st.h ids cells cs:=by repeat (first | exact .nil | apply Go.AM.PureL.c .refl | apply Go.AM.PureL.c .nl | apply Go.AM.PureL.c .sn | (apply Go.AM.PureL.hs;rfl;(first | rfl | assumption | (simp;done) | (simp;omega));(first | rfl | exact Go.AM.take_all (by first | assumption | rfl | (simp;done) | (simp;omega)) | exact Go.AM.take_map.symm)))):Sub kf ⟨st.e,upd st.h x (some (.var tv (cs.map R.c))),st.d⟩ st:=Sub.varPure h hp
theorem cv {kf:List Nat}{st:St}(t:Nat) {id te es n sz:Nat}{l:List (List C)}(q:List (List C)) (h:st.e t=some (.one (.hs id 0 n sz)):=by rfl) (hh:st.h id=some (.arr te es l 2):=by rfl) (h1:n=l.length:=by first | rfl | assumption | (simp;done) | (simp;omega)) (h2:sz=l.length:=by first | rfl | assumption | (simp;done) | (simp;omega)) (r:l=q:=by first | rfl | assumption | (simp;done)):Sub kf ⟨upd st.e t (some (.one (.c (.sl es q)))),st.h,st.d⟩ st:=by
 subst r;exact Sub.conv h (.one (.hs hh h2 (by rw[h1,B5,Ax]) .nil))
end Go.AM
namespace Go.Proofs.YtpmheldmadendaaGreatDoor
open Go Go.AM
def zl_:Tr:=.leaf none
def zl0:Tr:=.leaf (some ⟨.fn,1,8,[.zv 1]⟩)
def zl1:Tr:=.leaf (some ⟨.int .u8,1,1,[.int .u8 0]⟩)
def zl2:Tr:=.leaf (some ⟨.int .i64,1,8,[.int .i64 0]⟩)
def zl3:Tr:=.leaf (some ⟨.str,1,16,[.str []]⟩)
def zl4:Tr:=.leaf (some ⟨.int .u64,1,8,[.int .u64 0]⟩)
def zl5:Tr:=.leaf (some ⟨.int .i32,1,4,[.int .i32 0]⟩)
def zl6:Tr:=.leaf (some ⟨.st [(0,3),(1,9),(2,3),(3,3)],4,40,[.int .i64 0,.str [],.int .i64 0,.int .i64 0]⟩)
def tr:Tr:=
 .node 143 (.node 71 (.node 35 (.node 17 (.node 8 (.node 4 (.node 2 (.node 1 zl_ zl0) (.node 1 zl2 zl2)) (.node 2 (.node 1 (.leaf (some ⟨.bool,1,1,[.bool false]⟩)) zl1) (.node 1 zl1 (.leaf (some ⟨.st [(0,2),(1,3),(2,4),(3,6)],4,24,[.int .i64 0,.int .i64 0,.bool false,.int .u8 0]⟩))))) (.node 4 (.node 2 (.node 1 (.leaf (some ⟨.st [(0,2),(1,3),(2,4),(3,6)],4,24,[.int .i64 0,.int .i64 0,.bool false,.int .u8 0]⟩)) zl3) (.node 1 zl3 zl3)) (.node 2 (.node 1 zl4 (.leaf (some ⟨.st [(0,9),(1,12)],2,24,[.str [],.int .u64 0]⟩))) (.node 1 (.leaf (some ⟨.st [(0,9),(1,12)],2,24,[.str [],.int .u64 0]⟩)) (.node 1 (.leaf (some ⟨.pt 274,1,8,[.np]⟩)) (.leaf (some ⟨.pt 277,1,8,[.np]⟩))))))) (.node 9 (.node 4 (.node 2 (.node 1 (.leaf (some ⟨.pt 285,1,8,[.np]⟩)) (.leaf (some ⟨.st [(0,17)],1,8,[.np]⟩))) (.node 1 (.leaf (some ⟨.st [(0,17)],1,8,[.np]⟩)) zl_)) (.node 2 (.node 1 zl5 (.leaf (some ⟨.sl 3,1,24,[.nl]⟩))) (.node 1 zl0 (.node 1 (.leaf (some ⟨.sl 81,1,24,[.nl]⟩)) (.leaf (some ⟨.sl 90,1,24,[.nl]⟩)))))) (.node 4 (.node 2 (.node 1 (.leaf (some ⟨.sl 95,1,24,[.nl]⟩)) (.leaf (some ⟨.sl 99,1,24,[.nl]⟩))) (.node 1 (.leaf (some ⟨.st [(0,24),(1,25),(2,26),(3,27)],4,96,[.nl,.nl,.nl,.nl]⟩)) (.leaf (some ⟨.st [(0,24),(1,25),(2,26),(3,27)],4,96,[.nl,.nl,.nl,.nl]⟩)))) (.node 2 (.node 1 zl2 (.leaf (some ⟨.st [(0,30),(1,3)],2,16,[.int .i64 0,.int .i64 0]⟩))) (.node 1 (.leaf (some ⟨.st [(0,30),(1,3)],2,16,[.int .i64 0,.int .i64 0]⟩)) (.node 1 zl_ zl0)))))) (.node 18 (.node 9 (.node 4 (.node 2 (.node 1 zl0 zl0) (.node 1 zl0 zl0)) (.node 2 (.node 1 zl0 (.leaf (some ⟨.sl 9,1,24,[.nl]⟩))) (.node 1 zl0 (.node 1 zl0 zl0)))) (.node 4 (.node 2 (.node 1 (.leaf (some ⟨.sl 49,1,24,[.nl]⟩)) (.leaf (some ⟨.sl 47,1,24,[.nl]⟩))) (.node 1 (.leaf (some ⟨.st [(0,3),(1,3),(2,9),(3,45)],4,56,[.int .i64 0,.int .i64 0,.str [],.nl]⟩)) (.leaf (some ⟨.st [(0,3),(1,3),(2,9),(3,45)],4,56,[.int .i64 0,.int .i64 0,.str [],.nl]⟩)))) (.node 2 (.node 1 (.leaf (some ⟨.st [(0,3),(1,3),(2,3),(3,9),(4,44),(5,47),(9,45)],10,144,[.int .i64 0,.int .i64 0,.int .i64 0,.str [],.nl,.int .i64 0,.int .i64 0,.str [],.nl,.nl]⟩)) (.leaf (some ⟨.st [(0,3),(1,3),(2,3),(3,9),(4,44),(5,47),(9,45)],10,144,[.int .i64 0,.int .i64 0,.int .i64 0,.str [],.nl,.int .i64 0,.int .i64 0,.str [],.nl,.nl]⟩))) (.node 1 zl_ (.node 1 zl0 zl0))))) (.node 9 (.node 4 (.node 2 (.node 1 zl0 zl0) (.node 1 (.leaf (some ⟨.sl 61,1,24,[.nl]⟩)) (.leaf (some ⟨.sl 87,1,24,[.nl]⟩)))) (.node 2 (.node 1 (.leaf (some ⟨.sl 113,1,24,[.nl]⟩)) (.leaf (some ⟨.st [(0,40),(1,56),(2,57),(3,47)],7,128,[.nl,.nl,.nl,.int .i64 0,.int .i64 0,.str [],.nl]⟩))) (.node 1 (.leaf (some ⟨.st [(0,40),(1,56),(2,57),(3,47)],7,128,[.nl,.nl,.nl,.int .i64 0,.int .i64 0,.str [],.nl]⟩)) (.node 1 (.leaf (some ⟨.st [(0,3),(1,3),(2,3),(3,9),(4,55),(5,44),(6,27),(7,59),(14,45)],15,264,[.int .i64 0,.int .i64 0,.int .i64 0,.str [],.nl,.nl,.nl,.nl,.nl,.nl,.int .i64 0,.int .i64 0,.str [],.nl,.nl]⟩)) (.leaf (some ⟨.st [(0,3),(1,3),(2,3),(3,9),(4,55),(5,44),(6,27),(7,59),(14,45)],15,264,[.int .i64 0,.int .i64 0,.int .i64 0,.str [],.nl,.nl,.nl,.nl,.nl,.nl,.int .i64 0,.int .i64 0,.str [],.nl,.nl]⟩)))))) (.node 4 (.node 2 (.node 1 zl_ zl0) (.node 1 zl0 zl0)) (.node 2 (.node 1 zl0 zl0) (.node 1 (.leaf (some ⟨.pt 126,1,8,[.np]⟩)) (.node 1 zl0 zl0))))))) (.node 36 (.node 18 (.node 9 (.node 4 (.node 2 (.node 1 (.leaf (some ⟨.pt 136,1,8,[.np]⟩)) zl0) (.node 1 zl0 (.leaf (some ⟨.pt 78,1,8,[.np]⟩)))) (.node 2 (.node 1 zl0 (.leaf (some ⟨.sl 152,1,24,[.nl]⟩))) (.node 1 (.leaf (some ⟨.st [(0,76),(1,3),(2,32)],4,48,[.nl,.int .i64 0,.int .i64 0,.int .i64 0]⟩)) (.node 1 (.leaf (some ⟨.st [(0,76),(1,3),(2,32)],4,48,[.nl,.int .i64 0,.int .i64 0,.int .i64 0]⟩)) (.leaf (some ⟨.sl 84,1,24,[.nl]⟩)))))) (.node 4 (.node 2 (.node 1 (.leaf (some ⟨.st [(0,9),(1,3),(2,40),(3,56),(4,79)],5,96,[.str [],.int .i64 0,.nl,.nl,.nl]⟩)) (.leaf (some ⟨.st [(0,9),(1,3),(2,40),(3,56),(4,79)],5,96,[.str [],.int .i64 0,.nl,.nl,.nl]⟩))) (.node 1 zl0 (.leaf (some ⟨.st [(0,9),(1,3),(2,45)],3,48,[.str [],.int .i64 0,.nl]⟩)))) (.node 2 (.node 1 (.leaf (some ⟨.st [(0,9),(1,3),(2,45)],3,48,[.str [],.int .i64 0,.nl]⟩)) zl0) (.node 1 (.leaf (some ⟨.st [(0,56)],1,24,[.nl]⟩)) (.node 1 (.leaf (some ⟨.st [(0,56)],1,24,[.nl]⟩)) (.leaf (some ⟨.sl 92,1,24,[.nl]⟩))))))) (.node 9 (.node 4 (.node 2 (.node 1 (.leaf (some ⟨.st [(0,9),(1,3),(2,9),(3,87),(4,40),(5,88)],6,112,[.str [],.int .i64 0,.str [],.nl,.nl,.nl]⟩)) (.leaf (some ⟨.st [(0,9),(1,3),(2,9),(3,87),(4,40),(5,88)],6,112,[.str [],.int .i64 0,.str [],.nl,.nl,.nl]⟩))) (.node 1 (.leaf (some ⟨.st [(0,9),(1,3),(2,59)],9,152,[.str [],.int .i64 0,.nl,.nl,.nl,.int .i64 0,.int .i64 0,.str [],.nl]⟩)) (.leaf (some ⟨.st [(0,9),(1,3),(2,59)],9,152,[.str [],.int .i64 0,.nl,.nl,.nl,.int .i64 0,.int .i64 0,.str [],.nl]⟩)))) (.node 2 (.node 1 zl0 (.leaf (some ⟨.st [(0,9),(1,3),(2,9),(3,40),(4,57),(5,27)],6,112,[.str [],.int .i64 0,.str [],.nl,.nl,.nl]⟩))) (.node 1 (.leaf (some ⟨.st [(0,9),(1,3),(2,9),(3,40),(4,57),(5,27)],6,112,[.str [],.int .i64 0,.str [],.nl,.nl,.nl]⟩)) (.node 1 zl0 zl0)))) (.node 4 (.node 2 (.node 1 (.leaf (some ⟨.st [(0,9),(1,3),(2,4),(3,59),(10,61),(25,59),(32,3)],33,560,[.str [],.int .i64 0,.bool false,.nl,.nl,.nl,.int .i64 0,.int .i64 0,.str [],.nl,.int .i64 0,.int .i64 0,.int .i64 0,.str [],.nl,.nl,.nl,.nl,.nl,.nl,.int .i64 0,.int .i64 0,.str [],.nl,.nl,.nl,.nl,.nl,.int .i64 0,.int .i64 0,.str [],.nl,.int .i64 0]⟩)) (.leaf (some ⟨.st [(0,9),(1,3),(2,4),(3,59),(10,61),(25,59),(32,3)],33,560,[.str [],.int .i64 0,.bool false,.nl,.nl,.nl,.int .i64 0,.int .i64 0,.str [],.nl,.int .i64 0,.int .i64 0,.int .i64 0,.str [],.nl,.nl,.nl,.nl,.nl,.nl,.int .i64 0,.int .i64 0,.str [],.nl,.nl,.nl,.nl,.nl,.int .i64 0,.int .i64 0,.str [],.nl,.int .i64 0]⟩))) (.node 1 (.leaf (some ⟨.sl 5,1,24,[.nl]⟩)) zl0)) (.node 2 (.node 1 zl0 zl0) (.node 1 zl0 (.node 1 zl0 zl0)))))) (.node 18 (.node 9 (.node 4 (.node 2 (.node 1 zl0 zl0) (.node 1 zl0 zl0)) (.node 2 (.node 1 zl0 (.leaf (some ⟨.st [(0,9),(1,47)],5,72,[.str [],.int .i64 0,.int .i64 0,.str [],.nl]⟩))) (.node 1 (.leaf (some ⟨.st [(0,9),(1,47)],5,72,[.str [],.int .i64 0,.int .i64 0,.str [],.nl]⟩)) (.node 1 zl0 zl0)))) (.node 4 (.node 2 (.node 1 zl0 zl0) (.node 1 zl0 zl0)) (.node 2 (.node 1 (.leaf (some ⟨.sl 4,1,24,[.nl]⟩)) zl0) (.node 1 zl0 (.node 1 zl0 zl0))))) (.node 9 (.node 4 (.node 2 (.node 1 (.leaf (some ⟨.st [(0,22),(1,3)],2,32,[.nl,.int .i64 0]⟩)) (.leaf (some ⟨.st [(0,22),(1,3)],2,32,[.nl,.int .i64 0]⟩))) (.node 1 (.leaf (some ⟨.sl 139,1,24,[.nl]⟩)) zl_)) (.node 2 (.node 1 zl0 (.leaf (some ⟨.st [(0,32)],2,16,[.int .i64 0,.int .i64 0]⟩))) (.node 1 (.leaf (some ⟨.st [(0,32)],2,16,[.int .i64 0,.int .i64 0]⟩)) (.node 1 zl_ (.leaf (some ⟨.st [(0,127),(1,3)],2,32,[.nl,.int .i64 0]⟩)))))) (.node 4 (.node 2 (.node 1 (.leaf (some ⟨.st [(0,127),(1,3)],2,32,[.nl,.int .i64 0]⟩)) (.leaf (some ⟨.st [(0,134)],2,32,[.nl,.int .i64 0]⟩))) (.node 1 (.leaf (some ⟨.st [(0,134)],2,32,[.nl,.int .i64 0]⟩)) zl0)) (.node 2 (.node 1 zl6 zl6) (.node 1 zl0 (.node 1 zl0 zl0)))))))) (.node 71 (.node 35 (.node 17 (.node 8 (.node 4 (.node 2 (.node 1 zl0 zl0) (.node 1 zl0 zl0)) (.node 2 (.node 1 (.leaf (some ⟨.pt 88,1,8,[.np]⟩)) (.leaf (some ⟨.pt 27,1,8,[.np]⟩))) (.node 1 zl0 zl_))) (.node 4 (.node 2 (.node 1 zl0 zl6) (.node 1 zl0 zl_)) (.node 2 (.node 1 zl0 zl0) (.node 1 zl0 (.node 1 zl0 zl_))))) (.node 9 (.node 4 (.node 2 (.node 1 zl0 zl0) (.node 1 zl0 zl0)) (.node 2 (.node 1 (.leaf (some ⟨.pt 166,1,8,[.np]⟩)) (.leaf (some ⟨.st [(0,164),(1,100)],2,32,[.np,.nl]⟩))) (.node 1 (.leaf (some ⟨.st [(0,164),(1,100)],2,32,[.np,.nl]⟩)) (.node 1 zl0 zl_)))) (.node 4 (.node 2 (.node 1 zl_ zl_) (.node 1 zl0 zl0)) (.node 2 (.node 1 zl0 zl0) (.node 1 zl_ (.node 1 zl0 zl0)))))) (.node 18 (.node 9 (.node 4 (.node 2 (.node 1 (.leaf (some ⟨.sl 22,1,24,[.nl]⟩)) zl0) (.node 1 zl0 zl0)) (.node 2 (.node 1 zl0 zl0) (.node 1 zl0 (.node 1 zl0 zl_)))) (.node 4 (.node 2 (.node 1 zl0 (.leaf (some ⟨.pt 134,1,8,[.np]⟩))) (.node 1 zl0 zl0)) (.node 2 (.node 1 zl0 zl0) (.node 1 zl0 (.node 1 zl0 zl0))))) (.node 9 (.node 4 (.node 2 (.node 1 zl0 zl0) (.node 1 zl0 zl0)) (.node 2 (.node 1 zl0 zl_) (.node 1 zl0 (.node 1 zl0 zl0)))) (.node 4 (.node 2 (.node 1 zl0 zl0) (.node 1 (.leaf (some ⟨.st [(0,47),(4,57),(5,40),(6,3),(7,32)],9,128,[.int .i64 0,.int .i64 0,.str [],.nl,.nl,.nl,.int .i64 0,.int .i64 0,.int .i64 0]⟩)) (.leaf (some ⟨.st [(0,47),(4,57),(5,40),(6,3),(7,32)],9,128,[.int .i64 0,.int .i64 0,.str [],.nl,.nl,.nl,.int .i64 0,.int .i64 0,.int .i64 0]⟩)))) (.node 2 (.node 1 zl0 zl0) (.node 1 zl0 (.node 1 zl0 (.leaf (some ⟨.pt 5,1,8,[.np]⟩))))))))) (.node 36 (.node 18 (.node 9 (.node 4 (.node 2 (.node 1 zl0 zl0) (.node 1 zl0 zl0)) (.node 2 (.node 1 zl0 zl_) (.node 1 zl0 (.node 1 zl_ zl0)))) (.node 4 (.node 2 (.node 1 zl_ zl0) (.node 1 zl0 zl0)) (.node 2 (.node 1 zl0 zl0) (.node 1 zl0 (.node 1 zl0 zl_))))) (.node 9 (.node 4 (.node 2 (.node 1 zl0 zl_) (.node 1 zl0 zl0)) (.node 2 (.node 1 zl0 zl0) (.node 1 zl_ (.node 1 zl4 zl0)))) (.node 4 (.node 2 (.node 1 zl0 zl_) (.node 1 zl0 zl_)) (.node 2 (.node 1 zl0 zl0) (.node 1 zl0 (.node 1 zl0 zl0)))))) (.node 18 (.node 9 (.node 4 (.node 2 (.node 1 zl_ zl0) (.node 1 zl0 zl_)) (.node 2 (.node 1 zl0 zl0) (.node 1 zl0 (.node 1 zl0 zl0)))) (.node 4 (.node 2 (.node 1 zl0 zl_) (.node 1 (.leaf (some ⟨.int .u32,1,4,[.int .u32 0]⟩)) zl_)) (.node 2 (.node 1 zl0 zl4) (.node 1 zl0 (.node 1 zl0 zl0))))) (.node 9 (.node 4 (.node 2 (.node 1 zl0 zl0) (.node 1 zl0 zl_)) (.node 2 (.node 1 zl_ (.leaf (some ⟨.st [(0,17),(1,17),(2,17),(3,9)],4,40,[.np,.np,.np,.str []]⟩))) (.node 1 (.leaf (some ⟨.st [(0,17),(1,17),(2,17),(3,9)],4,40,[.np,.np,.np,.str []]⟩)) (.node 1 (.leaf (some ⟨.ar 0 16,0,0,[]⟩)) (.leaf (some ⟨.st [(0,275)],0,0,[]⟩)))))) (.node 4 (.node 2 (.node 1 (.leaf (some ⟨.st [(0,275)],0,0,[]⟩)) zl0) (.node 1 zl1 zl1)) (.node 2 (.node 1 zl0 zl5) (.node 1 zl5 (.node 1 (.leaf (some ⟨.st [(0,12),(1,12),(2,261),(3,279),(4,5),(5,5),(6,280),(7,281),(8,213),(9,282),(10,283)],11,48,[.int .u64 0,.int .u64 0,.int .u32 0,.int .u8 0,.int .u8 0,.int .u8 0,.int .u8 0,.zv 1,.np,.int .i32 0,.int .i32 0]⟩)) (.leaf (some ⟨.st [(0,12),(1,12),(2,261),(3,279),(4,5),(5,5),(6,280),(7,281),(8,213),(9,282),(10,283)],11,48,[.int .u64 0,.int .u64 0,.int .u32 0,.int .u8 0,.int .u8 0,.int .u8 0,.int .u8 0,.zv 1,.np,.int .i32 0,.int .i32 0]⟩))))))))))
theorem trw:tr.wf=true:=by kernel_rfl
theorem tok:Tok Tryz.prog tr.flat:=by unfold Tok;kernel_rfl
theorem tg {t:Nat}{i:TI}(h:tr.get t=some i):tr.flat[t]?=some (some i):=Tr.get_ok trw h
theorem mixed:Tryz.prog.follows .mixedOrders=true:=by kernel_rfl
section
variable {QP:Value→Prop}{ro:Option Nat}{n:Nat}{ops:Array Oper}{draw:Bool}{k k':Nat}{e:Nat→Option V}{h0:cE}{d0:List Nat}{st':St}{pre pre':REs}{tr':Tr}{ob:List Prop}{kf:List Nat}{id:Nat}
theorem ag {Q:Exit→St→Prop}(hs:List (Nat×Hn)) (h:tI Tryz.prog tr true false n ops.toList hs 1000 0 ops.toList e h0 d0 [] []=some (st',k',pre',ob)) (hq:Q .normal st')
  (hc:hD ob:=by repeat (first | exact trivial | refine⟨by first | omega | assumption | exact⟨by kernel_rfl,by assumption⟩ | rfl | (simp only[Br,List.length_nil];omega) | (simp;done) | (simp;omega),?_⟩)) (h1:Nat.beq k' ops.size=true:=by rfl) (h2:(!draw || (cZ (preds ops) pre'.reverse []&&dV ops))=true:=by kernel_rfl):AWp ro Tryz.prog n kf (.region id ops draw) ⟨e,h0,d0⟩ Q:=
 aP2 mixed trw tok h hc h1 h2 hq
theorem agN {Q:Exit→St→Prop}(hs:List (Nat×Hn)) (h:tI Tryz.prog tr true true n ops.toList hs 1000 0 ops.toList e h0 d0 [] []=some (st',k',pre',ob)) (hq:Q .normal st')
  (hc:hD ob:=by repeat (first | exact trivial | refine⟨by first | omega | assumption | exact⟨by kernel_rfl,by assumption⟩ | rfl | (simp only[Br,List.length_nil];omega) | (simp;done) | (simp;omega),?_⟩)) (h1:Nat.beq k' ops.size=true:=by rfl) (h2:(!draw || (cZ (preds ops) pre'.reverse []&&dV ops))=true:=by kernel_rfl):AWp ro Tryz.prog n kf (.region id ops draw) ⟨e,h0,d0⟩ Q:=
 aP2 mixed trw tok h hc h1 h2 hq
theorem ak {Q:St→Prop}(m:Nat) (hs:List (Nat×Hn)) (h:tI Tryz.prog tr true false n ops.toList hs m k (ops.toList.drop k) e h0 d0 pre []=some (st',k',pre',ob)) (q:jG QP Tryz.prog n ops draw k' st' pre' Q)
  (hc:hD ob:=by repeat (first | exact trivial | refine⟨by first | omega | assumption | exact⟨by kernel_rfl,by assumption⟩ | rfl | (simp only[Br,List.length_nil];omega) | (simp;done) | (simp;omega),?_⟩)):jG QP Tryz.prog n ops draw k ⟨e,h0,d0⟩ pre Q:=
 ax_ m trw tok h hc q
theorem akN {Q:St→Prop}(m:Nat) (hs:List (Nat×Hn)) (h:tI Tryz.prog tr true true n ops.toList hs m k (ops.toList.drop k) e h0 d0 pre []=some (st',k',pre',ob)) (q:jG QP Tryz.prog n ops draw k' st' pre' Q)
  (hc:hD ob:=by repeat (first | exact trivial | refine⟨by first | omega | assumption | exact⟨by kernel_rfl,by assumption⟩ | rfl | (simp only[Br,List.length_nil];omega) | (simp;done) | (simp;omega),?_⟩)):jG QP Tryz.prog n ops draw k ⟨e,h0,d0⟩ pre Q:=
 ax_ m trw tok h hc q
theorem agF {Q:Exit→St→Prop}{u:Nat→Option V}{q:cE}{d1:List Nat}{r:List Prop}{res:Res}{L:List (Nat×Option V)}(m:Nat) (hs:List (Nat×Hn)) (g1:tI Tryz.prog tr true false n ops.toList hs m 0 ops.toList e h0 d0 [] []=some (⟨u,q,d1⟩,k',pre',r))
  (g2:oF Tryz.prog tr true false n ops.toList hs (aTv (ops.toList.drop k')) 1000 k' (ops.toList.drop k') u q d1 [] pre' r=some res) (g3:rE res (aTv (ops.toList.drop k'))=some L) (hq:Q .normal ⟨mR u L,q,d1⟩)
  (ho:res.obs:=by repeat (first | exact trivial | refine⟨fun _=>?_,fun _=>?_⟩ | refine⟨by first | omega | assumption | exact⟨by kernel_rfl,by assumption⟩ | rfl | (simp only[Br,List.length_nil];omega) | (simp;done) | (simp;omega),?_⟩)) (y:res.good ops draw=true:=by kernel_rfl):AWp ro Tryz.prog n kf (.region id ops draw) ⟨e,h0,d0⟩ Q:=
 aS8 m mixed trw tok g1 g2 g3 ho y hq
theorem az {Q:St→Prop}(hq:Q ⟨e,h0,d0⟩) (h1:Nat.beq k ops.size=true:=by rfl) (h2:(!draw || (cZ (preds ops) pre.reverse []&&dV ops))=true:=by kernel_rfl):jG QP Tryz.prog n ops draw k ⟨e,h0,d0⟩ pre Q:=z_ h1 h2 hq
theorem sgh {Q:Exit→St→Prop}{y:Code}(hs:List (Nat×Hn)) (h:tI Tryz.prog tr true false n ops.toList hs 1000 0 ops.toList e h0 d0 [] []=some (st',k',pre',ob)) (hq:AWp ro Tryz.prog n kf y st' Q)
  (hc:hD ob:=by repeat (first | exact trivial | refine⟨by first | omega | assumption | exact⟨by kernel_rfl,by assumption⟩ | rfl | (simp only[Br,List.length_nil];omega) | (simp;done) | (simp;omega),?_⟩)) (h1:Nat.beq k' ops.size=true:=by rfl) (h2:(!draw || (cZ (preds ops) pre'.reverse []&&dV ops))=true:=by kernel_rfl):AWp ro Tryz.prog n kf (.seq (.region id ops draw) y) ⟨e,h0,d0⟩ Q:=
 aA (ag hs h hq hc h1 h2)
theorem sg {Q:Exit→St→Prop}{y:Code}(h:tI Tryz.prog tr true false n ops.toList [] 1000 0 ops.toList e h0 d0 [] []=some (st',k',pre',ob)) (hq:AWp ro Tryz.prog n kf y st' Q)
  (hc:hD ob:=by repeat (first | exact trivial | refine⟨by first | omega | assumption | exact⟨by kernel_rfl,by assumption⟩ | rfl | (simp only[Br,List.length_nil];omega) | (simp;done) | (simp;omega),?_⟩)) (h1:Nat.beq k' ops.size=true:=by rfl) (h2:(!draw || (cZ (preds ops) pre'.reverse []&&dV ops))=true:=by kernel_rfl):AWp ro Tryz.prog n kf (.seq (.region id ops draw) y) ⟨e,h0,d0⟩ Q:=
 sgh [] h hq hc h1 h2
theorem skh {Q:Exit→St→Prop}{y:Code}(m:Nat) (hs:List (Nat×Hn)) (h:tI Tryz.prog tr true false n ops.toList hs m 0 (ops.toList.drop 0) e h0 d0 [] []=some (st',k',pre',ob)) (q:jG (fun v=>∀e' h',Q (pan v) ⟨e',h',d0⟩) Tryz.prog n ops draw k' st' pre' (fun st'=>AWp ro Tryz.prog n kf y st' Q))
  (hc:hD ob:=by repeat (first | exact trivial | refine⟨by first | omega | assumption | exact⟨by kernel_rfl,by assumption⟩ | rfl | (simp only[Br,List.length_nil];omega) | (simp;done) | (simp;omega),?_⟩)):AWp ro Tryz.prog n kf (.seq (.region id ops draw) y) ⟨e,h0,d0⟩ Q:=
 aA (aC mixed (ak m hs h q hc))
theorem sk {Q:Exit→St→Prop}{y:Code}(m:Nat) (h:tI Tryz.prog tr true false n ops.toList [] m 0 (ops.toList.drop 0) e h0 d0 [] []=some (st',k',pre',ob)) (q:jG (fun v=>∀e' h',Q (pan v) ⟨e',h',d0⟩) Tryz.prog n ops draw k' st' pre' (fun st'=>AWp ro Tryz.prog n kf y st' Q))
  (hc:hD ob:=by repeat (first | exact trivial | refine⟨by first | omega | assumption | exact⟨by kernel_rfl,by assumption⟩ | rfl | (simp only[Br,List.length_nil];omega) | (simp;done) | (simp;omega),?_⟩)):AWp ro Tryz.prog n kf (.seq (.region id ops draw) y) ⟨e,h0,d0⟩ Q:=
 skh m [] h q hc
theorem kz {Q:St→Prop}(m:Nat) (h:tI Tryz.prog tr true false n ops.toList [] m k (ops.toList.drop k) e h0 d0 pre []=some (st',k',pre',ob)) (hq:Q st')
  (hc:hD ob:=by repeat (first | exact trivial | refine⟨by first | omega | assumption | exact⟨by kernel_rfl,by assumption⟩ | rfl | (simp only[Br,List.length_nil];omega) | (simp;done) | (simp;omega),?_⟩)) (h1:Nat.beq k' ops.size=true:=by rfl) (h2:(!draw || (cZ (preds ops) pre'.reverse []&&dV ops))=true:=by kernel_rfl):jG QP Tryz.prog n ops draw k ⟨e,h0,d0⟩ pre Q:=
 ak m [] h (z_ h1 h2 hq) hc
end
set_option maxRecDepth 20000
abbrev Str:=List UInt8
def b7 (s:Str):List C:=[.str s]
inductive Ty where
 | mk (form n:Int) (name:Str) (args:List Ty)
def Ty.form:Ty→Int | .mk f _ _ _=>f
def Ty.n:Ty→Int | .mk _ n _ _=>n
def Ty.name:Ty→Str | .mk _ _ s _=>s
def Ty.args:Ty→List Ty | .mk _ _ _ l=>l
mutual
def dC:Ty→List (List C)
 | .mk _ _ _ a=>cV a
def cV:List Ty→List (List C)
 | []=>[]
 | t::l=>[.int .i64 t.form,.int .i64 t.n,.str t.name,.sl 4 (dC t)]::cV l
end
def bR (t:Ty):List C:=[.int .i64 t.form,.int .i64 t.n,.str t.name,.sl 4 (dC t)]
theorem aT {α:Type}{l:List α}{k:Nat}{x:α}(f:α→List C) (h:l[k]?=some x):(l.map f)[k]?=some (f x):=by rw[By,h];rfl
theorem aL {α:Type}{l:List α}{k:Nat}(h:k<l.length):∃x,l[k]?=some x:=⟨l[k],by simp[h]⟩
theorem dB:∀l:List Ty,cV l=l.map bR
 | []=>by simp[cV]
 | c::l=>by rw[cV,dB l];rfl
def Fits {α:Type}(l:List α):Prop:=l.length≤1152921504606846976
theorem aNo (l:List Str) (s:Str) (hl:Fits l):b9 Tryz.prog 193 [.one (.c (.sl 1 (l.map b7))),Go.AM.T s] [] (B (decide (s∈l))) []:=by
 unfold Fits at hl;refine bP (n:=18) tok Tryz.func193 rfl rfl rfl ?_;refine sg rfl (aA (sg rfl (aF (aK (fun k:Nat=>mk [(0,.one (.c (.sl 1 (l.map b7)))),(1,Go.AM.T s),(5,I .i64 k)] []) (fun k=>k≤l.length∧s∉l.take k) (fun k=>l.length-k) 0 ⟨ε _,by simp⟩ (.list (fun i=>i) ⟨rfl,rfl,rfl,trivial⟩ trivial rfl) ?_))));intro k ⟨J,hm⟩;refine aA (sg rfl (aB rfl (fun hb=>?_) (fun hb=>?_)))
 ·refine aD ?_;have r:k<l.length:=by simpa using hb
  obtain⟨x,hx⟩:=aL r;have E:=aT b7 hx;refine aA (aF (sgh [(2,.row k (b7 x))] rfl (aB rfl (fun hb=>?_) (fun hb=>?_))))
  ·refine sg rfl (aE ?_);have q:x=s:=by simpa using hb
   have:s∈l:=by rw[←q];exact τ hx
   exact⟨.inr rfl,⟨_,_,.tmp rfl .nil,.cons .refl .nil,by simp[aLa,this]⟩,trivial,rfl⟩
  ·refine aD (ag [] rfl ⟨k+1,⟨r,?_⟩,by dsimp only;omega,.list (fun i=>i) ⟨rfl,rfl,rfl,trivial⟩ trivial rfl⟩);rw[Bf,hx];have q:¬x=s:=by simpa using hb
   have u:¬s=x:=fun e=>q e.symm
   simp[hm,u]
 ·refine aH ?_;have y:k=l.length:=by
   have:¬k<l.length:=by simpa using hb
   omega
  refine sg rfl (aE ?_);rw[y,Ax] at hm;exact⟨.inr rfl,⟨_,_,.tmp rfl .nil,.cons .refl .nil,by simp[aLa,hm]⟩,trivial,rfl⟩
def s7 (n k:Int):Int:=(if n<0 then -(n+1) else n)%k
def i64 (n:Int):Prop:= -9223372036854775808≤n∧n≤9223372036854775807
theorem aKn (n:Int) {k:Int}(q:0<k):0≤s7 n k∧s7 n k<k:=⟨Int.emod_nonneg _ (by omega),Int.emod_lt_of_pos _ q⟩
theorem aNy (n k:Int) (hn:i64 n) (q:1≤k):b9 Tryz.prog 12 [I .i64 n,I .i64 k] [] (I .i64 (s7 n k)) []:=by
 unfold i64 at hn;refine bP (n:=13) tok Tryz.func12 rfl rfl rfl ?_;refine sg rfl (aA (sg rfl (aB rfl (fun hb=>?_) (fun hb=>?_))))
 ·have h0:n<0:=by simpa using hb
  exact ag [] rfl (sg rfl (aE ⟨.inr rfl,⟨_,_,.tmp rfl .nil,.cons .refl .nil,by simp[aLa,s7,h0]⟩,trivial,rfl⟩))
 ·have h0:¬n<0:=by simpa using hb
  exact aD (sg rfl (aE ⟨.inr rfl,⟨_,_,.tmp rfl .nil,.cons .refl .nil,by simp[aLa,s7,h0]⟩,trivial,rfl⟩))
def kQ (n:Int):List C:=[.int .i64 n]
def lY (a b:Ty):Ty:=.mk 4 0 [] [a,b]
def arrow:Str:=[45,62]
def aFs (a b:Ty):Ty:=lY (lY (.mk 3 0 arrow []) a) b
theorem aW6 (a b:Ty):b9 Tryz.prog 229 [.pa (bR a),.pa (bR b)] [] (.pa (bR (lY a b))) []:=by
 obtain⟨f,n,s,l⟩:=a;obtain⟨q,r,u,y⟩:=b;refine bP (n:=9) tok Tryz.func229 rfl rfl rfl ?_;refine sg rfl (sg rfl (AWp.sub (Sub.freeze (id:=7) rfl) (aE ?_)));exact⟨.inr rfl,⟨_,_,.cell rfl (tg rfl) rfl rfl rfl .nil,.cons (.agg (.c .refl (.c .refl (.c .refl (.hs rfl rfl rfl .nil))))) .nil,rfl⟩,trivial,rfl⟩
theorem aZu (a b:Ty):b9 Tryz.prog 200 [.pa (bR a),.pa (bR b)] [] (.pa (bR (aFs a b))) []:=by
 obtain⟨f,n,s,l⟩:=a;obtain⟨q,r,u,y⟩:=b;refine bP (n:=10) tok Tryz.func200 rfl rfl rfl ?_;refine sg rfl (sk 2 rfl (kc (aW6 (.mk 3 0 arrow []) (.mk f n s l)) ?_));refine ak 1 [] rfl (kc (aW6 (lY (.mk 3 0 arrow []) (.mk f n s l)) (.mk q r u y)) ?_);exact kz 1 rfl (aE ⟨.inr rfl,⟨_,_,.cell rfl (tg rfl) rfl rfl rfl .nil,.cons .refl .nil,rfl⟩,trivial,rfl⟩)
def aP8 (l:List Int):Prop:=∀x∈l,i64 x
def tyV (t:Ty):V:=.pa (bR t)
def zTy:Ty:=.mk 0 0 [] []
theorem aWx (l:List Int) (k:Nat) (q:Fits l) (r:k≤1000):b9 Tryz.prog 78 [.one (.c (.sl 1 (l.map kQ))),I .i64 k] [] (.one (.c (.sl 1 ((l.take k).map kQ)))) []:=by
 unfold Fits at q;refine bP (n:=14) tok Tryz.func78 rfl rfl rfl ?_;refine sg rfl (sg rfl (sk 6 rfl ?_));have hm:(if(k:Int)<(((l.map kQ).length:Nat):Int) then(k:Int) else(((l.map kQ).length:Nat):Int))=((min l.length k:Nat):Int):=by
  rw[η];split<;>omega
 rw[hm];have ht:(l.map kQ).take (min l.length k)=(l.take k).map kQ:=by
  rw[←List.map_take];congr 1;by_cases h:k≤l.length
  ·rw[Nat.min_eq_right h]
  ·rw[Da (by omega),Az (le_refl _),Az (by omega)]
 have hl:((l.map kQ).take (min l.length k)).length≤1000:=by rw[An];omega
 refine akN 3 [] rfl (az (AWp.sub (Sub.freeze (id:=13) rfl) (aE ?_))) (hc:=⟨by omega,by rw[η];omega,by omega,trivial⟩);rw[←ht];exact⟨.inr rfl,⟨_,_,.tmp rfl .nil,.cons (.one (.hs rfl rfl (by rw[B5,Ax]) .nil)) .nil,rfl⟩,trivial,rfl⟩
set_option maxRecDepth 100000
set_option maxHeartbeats 4000000
def plB (c:Nat):Bool:=decide ((97≤c∧c≤122)∨(65≤c∧c≤90)∨(48≤c∧c≤57))
theorem zQ (c:Nat) (w:World) (h:c<256):Calls Tryz.prog 239 #[.int .u8 (c:Int)] w fun e w'=>e=.returned (.bool (plB c))∧w=w':=by
 go_enter Tryz.func239,Tryz.ntmps239
 go_wp2
 all_goals go_ret
 all_goals refine⟨congrArg Ending.returned (congrArg Value.bool (a₂:=plB c) ?_),rfl⟩
 all_goals (unfold plB;rw[Bv];simp;omega)
def fiB (r lo hi:Int):Bool:=decide (lo≤r∧r≤hi)
theorem aAd (r lo hi:Int) (a b:Nat) (w:World) (ha:w.cell? ⟨a,0,none⟩=some (.int .i32 lo)) (hb:w.cell? ⟨b,0,none⟩=some (.int .i32 hi)):
  Calls Tryz.prog 238 #[.int .i64 0,.int .i32 r,.pointer (some ⟨a,0,none⟩),.pointer (some ⟨b,0,none⟩)] w fun e w'=>e=.returned (.bool (fiB r lo hi))∧w=w':=by
 go_enter Tryz.func238,Tryz.ntmps238
 go_wp2
 all_goals go_ret
 all_goals refine⟨congrArg Ending.returned (congrArg Value.bool (a₂:=fiB r lo hi) ?_),rfl⟩
 all_goals (unfold fiB;rw[Bv];simp;omega)
def nmQ (c:Nat) (lo hi:Int):Bool:=fiB c lo hi&&(plB c || decide (c=39∨c=95))
def aXo (c:Nat) (lo hi:Int) (w:World) (e:Ending) (w':World):Prop:=e=.returned (.bool (nmQ c lo hi))∧∃os:Array Obj,w'={ w with heap:=w.heap++os }
def aZ3 (c:Nat) (lo hi:Int) (pos:Nat):Prop:=pos=0∨(pos=1∧nmQ c lo hi=true)
def NmW (c:UInt8) (lo hi:Int) (w:World) (pos:Nat):World:=((w.alloc (.cells #[.int .i32 lo] 21)).alloc (.cells #[.int .i32 hi] 21)).iter ⟨#[c]⟩ pos
theorem aKy (c:UInt8) (lo hi:Int) (w:World) (pos:Nat):∃os:Array Obj,NmW c lo hi w pos={ w with heap:=w.heap++os }:=⟨#[.cells #[.int .i32 lo] 21,.cells #[.int .i32 hi] 21,.stringIter ⟨#[c]⟩ pos],by
 simp only[NmW,World.iter,World.alloc]
 congr 1⟩
theorem aXm (c:UInt8) (lo hi:Int) (w:World) (pos:Nat):(NmW c lo hi w pos).cell? ⟨w.heap.size,0,none⟩=some (.int .i32 lo):=by
 have h:(NmW c lo hi w pos).heap[w.heap.size]?=some (.cells #[.int .i32 lo] 21):=by
  show(((w.heap.push _).push _).push _)[w.heap.size]?=_;rw[Array.getElem?_push_lt (by rw[Bn,Bn];omega),Array.getElem_push_lt (by rw[Bn];omega),Array.getElem_push_eq]
 unfold World.cell?;rw[h];rfl
theorem aXn (c:UInt8) (lo hi:Int) (w:World) (pos:Nat):(NmW c lo hi w pos).cell? ⟨w.heap.size+1,0,none⟩=some (.int .i32 hi):=by
 have h:(NmW c lo hi w pos).heap[w.heap.size+1]?=some (.cells #[.int .i32 hi] 21):=by
  show(((w.heap.push _).push _).push _)[w.heap.size+1]?=_;rw[Array.getElem?_push_lt (by rw[Bn,Bn];omega),Array.getElem_push];rw[dif_neg (by rw[Bn];omega)]
 unfold World.cell?;rw[h];rfl
theorem vF (c:UInt8) (lo hi:Int) (w:World) (pos:Nat):(NmW c lo hi w pos).iterPos (w.heap.size+2)=pos:=by
 have h:(NmW c lo hi w pos).heap[w.heap.size+2]?=some (.stringIter ⟨#[c]⟩ pos):=by
  show(((w.heap.push _).push _).push _)[w.heap.size+2]?=_;rw[Array.getElem?_push,ζ (by rw[Bn,Bn])]
 unfold World.iterPos;rw[h]
theorem aO7 {c:Nat}{lo hi:Int}(h1:fiB c lo hi=true) (h2:plB c=true∨c=39∨c=95):nmQ c lo hi=true:=by
 unfold nmQ;rw[h1];rcases h2 with h | h
 ·rw[h];rfl
 ·rw[φ h,Bool.or_true];rfl
theorem aMc {c:Nat}{lo hi:Int}(h:¬fiB c lo hi=true∨(¬plB c=true∧¬c=39∧¬c=95)):nmQ c lo hi=false:=by
 unfold nmQ;rcases h with h | ⟨h1,h2,q⟩
 ·rw[Co _ |>.mp h];rfl
 ·rw[Co _ |>.mp h1,ψ (by omega),Bool.or_self,Bool.and_false]
theorem sU (c:UInt8) (lo hi:Int) (w:World) (hc:c.toNat<128):Calls Tryz.prog 213 #[.string ⟨#[c]⟩,.int .i32 lo,.int .i32 hi] w (aXo c.toNat lo hi w):=by
 go_enter Tryz.func213,Tryz.ntmps213
 go_wp2
 go_loopw [] (fun wr=>∃pos:Nat,aZ3 c.toNat lo hi pos∧wr=NmW c lo hi w pos) (fun wr=>1-wr.iterPos (w.heap.size+2))
 case atStart=>exact⟨0,.inl rfl,rfl⟩
 case round=>
  obtain⟨pos,y,rfl⟩:=hrel;have hsz:((w.alloc (.cells #[.int .i32 lo] 21)).alloc (.cells #[.int .i32 hi] 21)).heap.size=w.heap.size+1+1:=by
   show((w.heap.push _).push _).size=_;rw[Bn,Bn]
  rcases y with rfl | ⟨rfl,q⟩
  ·have hn:∀ty,(Instr.next (.pointer (some ⟨w.heap.size+1+1,0,none⟩)) true ty).run Tryz.prog (NmW c lo hi w 0)=.ok (.tuple #[.bool true,.int .i64 0,.int .i32 (c.toNat:Int)]) (NmW c lo hi w 1):=fun ty=>by
    have:=run_next_ascii (P:=Tryz.prog) ((w.alloc (.cells #[.int .i32 lo] 21)).alloc (.cells #[.int .i32 hi] 21)) ⟨#[c]⟩ 0 ty (show 0<1 by decide) hc;rw[hsz] at this;exact this
   clear hsz;have r:=aXm c lo hi w 1;have u:=aXn c lo hi w 1;have B:(c.toNat:Int)≤127:=by omega
   have E:0≤(c.toNat:Int):=by omega
   go_wp2_with (first | (go_at_call 238;(with_reducible refine(aAd _ _ _ _ _ _ r u).mono ?_);rintro e w' ⟨rfl,rfl⟩) | (go_at_call 239;(with_reducible refine(zQ _ _ (by omega)).mono ?_);rintro e w' ⟨rfl,rfl⟩))
   all_goals first
    | exact⟨⟨1,.inr ⟨rfl,aO7 (by assumption) (.inl (by assumption))⟩,rfl⟩,by rw[vF,vF];decide⟩
    | exact⟨⟨1,.inr ⟨rfl,aO7 (by assumption) (.inr (by simp at *;omega))⟩,rfl⟩,by rw[vF,vF];decide⟩
    | (go_ret;exact⟨by rw[aMc (.inl (by assumption))];rfl,aKy c lo hi w 1⟩)
    | (go_ret;exact⟨by rw[aMc (.inr ⟨by assumption,by simp at *;omega,by simp at *;omega⟩)];rfl,aKy c lo hi w 1⟩)
  ·have hn:∀ty,(Instr.next (.pointer (some ⟨w.heap.size+1+1,0,none⟩)) true ty).run Tryz.prog (NmW c lo hi w 1)=.ok (.tuple #[.bool false]) (NmW c lo hi w 1):=fun ty=>by
    have:=run_next_end (P:=Tryz.prog) ((w.alloc (.cells #[.int .i32 lo] 21)).alloc (.cells #[.int .i32 hi] 21)) ⟨#[c]⟩ 1 ty (show ¬1<1 by decide);rw[hsz] at this;exact this
   clear hsz
   go_wp2
   go_ret
   exact⟨by rw[q];rfl,aKy c lo hi w 1⟩
def lW (b:Bool) (w:World) (e:Ending) (w':World):Prop:=e=.returned (.bool b)∧∃os:Array Obj,w'={ w with heap:=w.heap++os }
def aXl (s:ByteArray) (lo hi:Int) (w:World) (pos:Nat):World:=((w.alloc (.cells #[.int .i32 lo] 21)).alloc (.cells #[.int .i32 hi] 21)).iter s pos
theorem aKx (s:ByteArray) (lo hi:Int) (w:World) (pos:Nat):∃os:Array Obj,aXl s lo hi w pos={ w with heap:=w.heap++os }:=⟨#[.cells #[.int .i32 lo] 21,.cells #[.int .i32 hi] 21,.stringIter s pos],by
 simp only[aXl,World.iter,World.alloc]
 congr 1⟩
theorem vX {P:Program}(w:World) (s:ByteArray) (pos:Nat) (ty:TypeId) (r k:Nat) (h:pos<s.size) (hd:Utf8.decode s pos=(r,k)):
  (Instr.next (.pointer (some ⟨w.heap.size,0,none⟩)) true ty).run P (w.iter s pos)=.ok (.tuple #[.bool true,.int .i64 pos,.int .i32 r]) (w.iter s (pos+k)):=by
 simp only[Instr.next,getObj,setObj,Ab,Sem.run,World.iter_heap,Result.andThen,h,Cv,hd,World.iter_set];simp[goInt]
theorem aB9 (s:ByteArray) (lo hi:Int) (w:World) (r k:Nat) (h:0<s.size) (hd:Utf8.decode s 0=(r,k)) (u:127<r):Calls Tryz.prog 213 #[.string s,.int .i32 lo,.int .i32 hi] w (lW false w):=by
 go_enter Tryz.func213,Tryz.ntmps213
 go_wp2
 go_loopw [] (fun wr=>wr=aXl s lo hi w 0) (fun _=>1)
 case atStart=>rfl
 case round=>
  have hsz:((w.alloc (.cells #[.int .i32 lo] 21)).alloc (.cells #[.int .i32 hi] 21)).heap.size=w.heap.size+1+1:=by
   show((w.heap.push _).push _).size=_;rw[Bn,Bn]
  subst hrel;have hn:∀ty,(Instr.next (.pointer (some ⟨w.heap.size+1+1,0,none⟩)) true ty).run Tryz.prog (aXl s lo hi w 0)=.ok (.tuple #[.bool true,.int .i64 0,.int .i32 (r:Int)]) (aXl s lo hi w (0+k)):=fun ty=>by
   have:=vX (P:=Tryz.prog) ((w.alloc (.cells #[.int .i32 lo] 21)).alloc (.cells #[.int .i32 hi] 21)) s 0 ty r k h hd;rw[hsz] at this;exact this
  clear hsz;have q:127<(r:Int):=by omega
  go_wp2
  all_goals (go_ret;exact⟨rfl,by first | exact aKx s lo hi w k | exact aKx s lo hi w (0+k)⟩)
end Go.Proofs.YtpmheldmadendaaGreatDoor
namespace Go.AM
open Go Go.Proofs Go.Shelf
theorem aXh {ro:Option Nat}{P:Program}{n:Nat}{kf:List Nat}{c:Code}{st:St}{Q:Exit→St→Prop}(t:Nat) {es:Nat}{l:List (List C)}(h:st.e t=some (.one (.c (.sl es l)))) (h1:l=[]→AWp ro P n kf c ⟨upd st.e t (some (.one (.c .nl))),st.h,st.d⟩ Q)
  (h2:AWp ro P n kf c ⟨upd st.e t (some (.one (.c (.sn es l)))),st.h,st.d⟩ Q):AWp ro P n kf c st Q:=by
 intro G S μ a w Q' y hs B;have hv:=hs.env t _ h
 have key:∀x:V,aO S μ st.h x (a.tmps.getD t undef)→Sim G n S μ ⟨upd st.e t (some x),st.h,st.d⟩ a w:=fun x hx=>⟨hs.inv,hs.size,hs.defers,fun s u e=>by
  by_cases q:s=t
  ·subst q;have:some x=some u:=by rw[←e];exact(aJ _ _ _).symm
   cases this;exact hx
  ·exact hs.env s u (by rw[←e];exact(bH _ _ _ q).symm)⟩
 simp only[aO,aZ,Rep] at hv;obtain⟨r,len,cap,E,U,Y,e4,e5,e6,b,o,e7,e8⟩:=hv;cases r with
 | none=>
  obtain⟨e9,I⟩:=e5 rfl;have hl:l=[]:=Aw (by omega);exact h1 hl G S μ a w Q' y (key _ (by simp only[aO,aZ,Rep];rw[E,e9,I])) B
 | some r=>
  obtain⟨b',o',sp⟩:=r;have J:=e6 _ rfl;obtain⟨M,O⟩:=e7 _ rfl;dsimp only at J M O;subst M O;exact h2 G S μ a w Q' y (key _ (by simp only[aO,aZ,Rep];exact⟨b',o',sp,len,cap,E,U,Y,e4,J,e8⟩)) B
end Go.AM
namespace Go.AM
open Go Go.Proofs
section
variable {QP:Value→Prop}{P:Program}{n:Nat}{ops:Array Oper}{draw:Bool}{k d:Nat}{st:St}{pre:REs}{Q:St→Prop}{o:Oper}{f:FuncId}{xs:Array Operand}{ts:Array TypeId}{ids:List Nat}{args:List V}{res:V}{hin hout:List (Nat×AObj)}
theorem kcG {j t:Nat}{want b:Bool}(E:b9 P f args hin res hout)
  (I:jG QP P n ops draw (k+1) ⟨upd st.e d (some res),iS st.h (outs hout),st.d⟩ ((⟨t::c7 xs.toList,ids++keys hin++keys hout⟩,⟨some (d,some res),outs hout⟩)::pre) Q)
  (hb:iN P f:=by exact aJ1 (by kernel_rfl)) (ho:ops[k]?=some o:=by rfl) (J:o.guard=some (j,want):=by rfl) (hj:(ops[j]?).bind (·.dst)=some t:=by rfl) (u:st.e t=some (.one (.c (.bool b))):=by rfl) (hw:b=want:=by first | rfl | assumption) (y:o.op=.call { callee:=.value (.func f),args:=xs,argTypes:=ts }:=by rfl) (hd:o.dst=some d:=by rfl) (B:Nat.blt d n=true:=by rfl)
  (ha:ArgsV st ids xs.toList args:=by repeat (first | exact .nil | (apply Go.AM.ArgsV.cons rfl;(first | exact .refl | exact .one (.c .nl .nil) | exact .one (.c .sn .nil) | exact .one (.hs rfl (by first | rfl | simp) (by first | rfl | (simp;done) | (simp[Go.AM.take_map];done) | exact Go.AM.take_map.symm) .nil) | exact Go.AM.hs_all rfl rfl (by first | rfl | assumption | (simp;done) | (simp;omega)) (by first | rfl | assumption | (simp;done)) | ((first | apply Go.AM.Conv.pa | apply Go.AM.Conv.agg);repeat (first | exact .nil | apply Go.AM.PureL.c .refl | apply Go.AM.PureL.c .nl | apply Go.AM.PureL.c .sn | (apply Go.AM.PureL.hs;rfl;(first | rfl | simp);(first | rfl | (simp;done) | (simp[Go.AM.take_map];done) | exact Go.AM.take_map.symm))))))))
  (r:gN (fun p=>st.h p.1=some p.2) hin:=by repeat (first | exact trivial | refine⟨rfl,?_⟩)) (q:gN (fun p=>p.1∈keys hin∨st.h p.1=none) hout:=by repeat (first | exact trivial | refine⟨.inr rfl,?_⟩ | refine⟨.inl (by decide),?_⟩ | refine⟨.inl (by repeat (first | exact List.Mem.head _ | apply List.Mem.tail)),?_⟩)) (hok:fI args hin=true:=by rfl):jG QP P n ops draw k st pre Q:=
 k_ (GStep.yes ho J hj u hw (aHc hin hout hb y hd (j8 B) E ha r q hok)) I
end
end Go.AM
namespace Go.AM
open Go
theorem mS {S:Sto}{c:C}{v:Value}(h:Rep S c v):∀m:Nat,c0 S (List.replicate m c) (List.replicate m v)
 | 0=>by simp[c0]
 | m+1=>by
  rw[replicate_succ,replicate_succ];simp only[c0];exact⟨v,_,rfl,h,mS h m⟩
theorem uC (v:Value) (m:Nat):(madeCells #[v] m).toList=List.replicate m v:=by
 refine List.eq_replicate_iff.2 ⟨by simp[madeCells],fun x hx=>?_⟩;simp only[madeCells,Array.toList_map,Cz] at hx;obtain⟨i,_,rfl⟩:=hx;simp[Nat.mod_one]
section
variable {P:Program}{n:Nat}
theorem wF {o:Oper}{st:St}{d:Nat}{T:TT}{t e:TypeId}{i q:TI}{x y:Operand}{m:Nat}{c:C}{M O:IntKind}(id:Nat) (U:Tok P T) (ho:o.op=.makeSlice t x y) (hd:o.dst=some d) (Y:d<n)
  (hi:T[t]?=some (some i)) (hk:i.k=.sl e) (aa:T[e]?=some (some q)) (E:q.size=1) (hz:q.zero=[c]) (hx:opv st x=some (I M m)) (hy:opv st y=some (I O m)) (hm:m≤1000000) (hb:q.bytes*m≤281474976710656) (hid:st.h id=none):
  Step P n o st ⟨opr x++opr y,[id]⟩ ⟨some (d,some (.one (.hs id 0 m m))),[(id,some (.arr e q.size (List.replicate m [c]) 0))]⟩:=by
 refine Step.new hd Y hid (by simp) fun st' ha hid' G S μ a w hs=>?_
 obtain⟨inf,dd,z,g1,g2,g3,g4,g5,g6,g7,g8,g9⟩:=(U.get aa).ex;have vx:=aM hs hx fun t ht=>ha.1 t (by simp[ht])
 have vy:=aM hs hy fun t ht=>ha.1 t (by simp[ht])
 simp only[aO,aZ,Rep] at vx vy;have u:c0 S q.zero z.cells.toList:=hJ (S:=S) g7;rw[hz] at u;simp only[c0] at u;obtain⟨v,us,hzv,hv,hus⟩:=u;subst hus;have hzc:z.cells= #[v]:=by rw[←Array.toList_inj,hzv]
 have hb':(inf.bytes:Int)*(m:Int)≤281474976710656:=by
  rw[g4];have h:((q.bytes*m:Nat):Int)≤281474976710656:=by omega
  rwa [Int.natCast_mul] at h
 have B:=run_make (P:=P) w t e inf z ((U.get hi).slice hk) g1 g6 M O (m:Int) (m:Int) (by omega) (Int.le_refl _) hb' (by omega);rw[g3,E,mul_one,Int.toNat_natCast,hzc] at B;have J:=uC v m;generalize madeCells #[v] m=out at B J;refine⟨_,_,.slice (some ⟨w.heap.size,0,none⟩) m m,(0,m),?_,WChg.alloc w (.cells out e),?_,?_⟩
 ·simp only[execOp,ho,vx,vy,Ab,B,δ,Ac]
 ·refine⟨fun r hr=>by rw[(List.mem_replicate.1 hr).2,E];rfl,.inr ⟨w.heap.size,0,m,out.toList,aJ _ _ _,Bx w _,by simp[J,E],by simp,?_,?_,fun _ o _=>fA hs.inv o,fun o _=>fA hs.inv o,fun e=>by cases e⟩⟩
  ·have:(1000000:Nat)≤maxLen:=by decide
   exact⟨by omega,pI hs.inv⟩
  ·rw[J,E];simp only[B5,C5,mul_one];rw[Az (by simp),List.flatten_replicate_singleton];exact mS hv m
 ·simp only[aO,aZ];exact⟨⟨_,_,_,rfl⟩,.inr ⟨e,q.size,_,0,aJ _ _ _,by simp,fun _=>⟨by simp,.inr ⟨w.heap.size,0,m,aJ _ _ _,by simp⟩⟩⟩⟩
end
theorem Inv.grownR {G:Ctx}{S:Sto}{μ:Mu}{H:cE}{w:World}(h:Inv G S μ H w) (k:Nat) (os:Array Obj):Inv G S μ H ({ w with heap:=w.heap++os,drawn:=w.drawn+k }):=by
 have hold:∀b:Nat,b<w.heap.size→({ w with heap:=w.heap++os,drawn:=w.drawn+k }:World).heap[b]?=w.heap[b]?:=fun b hb=>by
  show(w.heap++os)[b]?=w.heap[b]?;exact B1 hb
 have hsz:w.heap.size≤({ w with heap:=w.heap++os,drawn:=w.drawn+k }:World).heap.size:=by
  show w.heap.size≤(w.heap++os).size;rw[Array.size_append];omega
 obtain⟨h1,h2,q,r,u,y,B,E,I⟩:=h;refine⟨⟨fun b o v e=>?_,fun b mk e=>?_⟩,fun id o e=>(h2 id o e).evolve (Evolve.refl _ _ _) rfl fun b c hm=>⟨hold b ((h2 id o e).lt hm),fun _=>rfl,rfl⟩,q,r,?_,y,B,E,I⟩
 ·obtain⟨vs,t,J,g1,g2⟩:=h1.1 b o v e;exact⟨vs,t,J,by rw[hold b (cA g1)];exact g1,g2⟩
 ·have g:=h1.2 b mk e;obtain⟨_,g2⟩:=MK.holds_some g;rw[hold b (cA g2)];exact g
 ·obtain⟨f1,f2,f3,f4,f5,f6⟩:=u;exact⟨f1,f2,f3,le_trans f4 hsz,fun b hb M=>by rw[hold b (A7 hb f4)];exact f5 b hb M,f6⟩
end Go.AM
namespace Go.Proofs.YtpmheldmadendaaGreatDoor
open Go Go.AM
set_option maxRecDepth 100000
set_option maxHeartbeats 4000000
def dgB (c:Nat):Bool:=decide (48≤c∧c≤57)
def sgB (c:Nat):Bool:=plB c || decide (c=39∨c=95)
def wiB (c lo hi:Int):Bool:=decide (lo≤c∧c≤hi)
theorem iY (c lo hi:Int) (w:World):Calls Tryz.prog 245 #[.int .u8 c,.int .u8 lo,.int .u8 hi] w fun e w'=>e=.returned (.bool (wiB c lo hi))∧w=w':=by
 go_enter Tryz.func245,Tryz.ntmps245
 go_wp2
 all_goals go_ret
 all_goals refine⟨congrArg Ending.returned (congrArg Value.bool (a₂:=wiB c lo hi) ?_),rfl⟩
 all_goals (unfold wiB;rw[Bv];simp;omega)
theorem rS (c:Nat) (w:World):Calls Tryz.prog 189 #[.int .u8 (c:Int)] w fun e w'=>e=.returned (.bool (dgB c))∧w=w':=by
 go_enter Tryz.func189,Tryz.ntmps189
 go_wp2
 all_goals go_ret
 all_goals refine⟨congrArg Ending.returned (congrArg Value.bool (a₂:=dgB c) ?_),rfl⟩
 all_goals (unfold dgB;rw[Bv];simp;omega)
theorem aD2 (c:Nat) (w:World):Calls Tryz.prog 192 #[.int .u8 (c:Int)] w fun e w'=>e=.returned (.bool (sgB c))∧w=w':=by
 go_enter Tryz.func192,Tryz.ntmps192
 go_wp2_with (go_at_call 189;(with_reducible refine(rS _ _).mono ?_);rintro e w' ⟨rfl,rfl⟩)
 all_goals go_ret
 all_goals refine⟨congrArg Ending.returned (congrArg Value.bool (a₂:=sgB c) ?_),rfl⟩
 all_goals (rw[Bv];unfold sgB plB;unfold dgB at *;simp at *;omega)
theorem wN (c:Nat) (w:World):Calls Tryz.prog 244 #[.int .u8 (c:Int)] w fun e w'=>e=.returned (.bool (plB c))∧w=w':=by
 go_enter Tryz.func244,Tryz.ntmps244
 go_wp2_with (go_at_call 245;first | ((with_reducible refine(iY c 97 122 _).mono ?_);rintro e w' ⟨rfl,rfl⟩) | ((with_reducible refine(iY c 65 90 _).mono ?_);rintro e w' ⟨rfl,rfl⟩) | ((with_reducible refine(iY c 48 57 _).mono ?_);rintro e w' ⟨rfl,rfl⟩))
 all_goals go_ret
 all_goals refine⟨congrArg Ending.returned (congrArg Value.bool (a₂:=plB c) ?_),rfl⟩
 all_goals (rw[Bv];unfold plB;unfold wiB at *;simp at *;omega)
theorem zW (s:ByteArray) (c:Int) (w:World):Calls Tryz.prog 172 #[.string s,.int .u8 c] w fun e w'=>e=.returned (.int .i64 (Lib.indexByte s.data.toList c.toNat.toUInt8))∧w=w':=by
 go_enter Tryz.func172,Tryz.ntmps172
 go_wp2
 rw[run_callFunc_extern Tryz.func212 (by kernel_rfl) (by kernel_rfl) (by kernel_rfl) (e:=Extern.BytealgIndexByte.indexByte) (by kernel_rfl),Lib.run_indexByteString];simp only[Result.andThen];rw[Oper.upon_value]
 go_wp2
 go_ret
 exact⟨rfl,rfl⟩
theorem kX (s:ByteArray) (c:Int) (w:World):Calls Tryz.prog 128 #[.string s,.int .u8 c] w fun e w'=>e=.returned (.int .i64 (Lib.indexByte s.data.toList c.toNat.toUInt8))∧w=w':=by
 go_enter Tryz.func128,Tryz.ntmps128
 go_wp2_with (go_at_call 172;(with_reducible refine(zW _ _ _).mono ?_);rintro e w' ⟨rfl,rfl⟩)
 go_ret
 exact⟨rfl,rfl⟩
theorem rF (c:UInt8) (w:World) (hc:c.toNat<128):Calls Tryz.prog 176 #[.string ⟨#[c]⟩] w (lW (nmQ c.toNat 97 122) w):=by
 go_enter Tryz.func176,Tryz.ntmps176
 go_wp2_with (go_at_call 213;(with_reducible refine(sU c 97 122 _ hc).mono ?_);rintro e w' ⟨rfl,os,rfl⟩)
 go_ret
 exact⟨rfl,os,rfl⟩
theorem qQ (c:UInt8) (w:World) (hc:c.toNat<128):Calls Tryz.prog 177 #[.string ⟨#[c]⟩] w (lW (nmQ c.toNat 65 90) w):=by
 go_enter Tryz.func177,Tryz.ntmps177
 go_wp2_with (go_at_call 213;(with_reducible refine(sU c 65 90 _ hc).mono ?_);rintro e w' ⟨rfl,os,rfl⟩)
 go_ret
 exact⟨rfl,os,rfl⟩
theorem aIz (c:UInt8) (hc:c.toNat<128):Utf8.encode (c.toNat:Int)=⟨#[c]⟩:=by
 have h:(c.toNat:Int).toNat=c.toNat:=by omega
 have hv:Utf8.valid (c.toNat:Int)=true:=by unfold Utf8.valid;simp;omega
 unfold Utf8.encode;rw[hv];simp[h,hc]
theorem wU (s:ByteArray) (w:World) (r k:Nat) (h:0<s.size) (hd:Utf8.decode s 0=(r,k)) (q:127<r):Calls Tryz.prog 176 #[.string s] w (lW false w):=by
 go_enter Tryz.func176,Tryz.ntmps176
 go_wp2_with (go_at_call 213;(with_reducible refine(aB9 s 97 122 _ r k h hd q).mono ?_);rintro e w' ⟨rfl,os,rfl⟩)
 go_ret
 exact⟨rfl,os,rfl⟩
theorem vS (s:ByteArray) (w:World) (r k:Nat) (h:0<s.size) (hd:Utf8.decode s 0=(r,k)) (q:127<r):Calls Tryz.prog 177 #[.string s] w (lW false w):=by
 go_enter Tryz.func177,Tryz.ntmps177
 go_wp2_with (go_at_call 213;(with_reducible refine(aB9 s 65 90 _ r k h hd q).mono ?_);rintro e w' ⟨rfl,os,rfl⟩)
 go_ret
 exact⟨rfl,os,rfl⟩
def aX4:List UInt8:=[48,49,50,51,52,53,54,55,56,57]
def sgS:List UInt8:=[48,49,50,51,52,53,54,55,56,57,39,95]
def ixB (l:List UInt8) (c:UInt8):Bool:=decide (0≤Lib.indexByte l c)
theorem kC {p:UInt8→Prop}(h:∀n:_root_.Fin 256,p (UInt8.ofNat n.val)) (c:UInt8):p c:=by
 have:=h ⟨c.toNat,c.toNat_lt⟩;rwa [show UInt8.ofNat c.toNat=c by simp] at this
theorem aLm (c:UInt8):(nmQ c.toNat 97 122 || (nmQ c.toNat 65 90 || ixB sgS c))=sgB c.toNat:=kC (p:=fun c=>(nmQ c.toNat 97 122 || (nmQ c.toNat 65 90 || ixB sgS c))=sgB c.toNat) (by decide+kernel) c
theorem aZn (c:UInt8):ixB aX4 c=dgB c.toNat:=kC (p:=fun c=>ixB aX4 c=dgB c.toNat) (by decide+kernel) c
theorem xC (c:UInt8) (w:World) (hc:c.toNat<128):Calls Tryz.prog 178 #[.int .u8 (c.toNat:Int)] w (lW (sgB c.toNat) w):=by
 rw[←aLm]
 go_enter Tryz.func178,Tryz.ntmps178
 go_wp2_with (first | (go_at_call 176;rw[aIz c hc];(with_reducible refine(rF c _ hc).mono ?_);rintro e w' ⟨rfl,os,rfl⟩) | (go_at_call 177;rw[aIz c hc];(with_reducible refine(qQ c _ hc).mono ?_);rintro e w' ⟨rfl,os,rfl⟩) | (go_at_call 128;(with_reducible refine(kX _ _ _).mono ?_);rintro e w' ⟨rfl,rfl⟩))
 all_goals go_ret
 ·exact⟨congrArg Ending.returned (congrArg Value.bool (a₂:=_) (by rename_i h;rw[h];rfl)),_,rfl⟩
 ·exact⟨congrArg Ending.returned (congrArg Value.bool (a₂:=_) (by simp[*])),_,rfl⟩
 ·exact⟨congrArg Ending.returned (congrArg Value.bool (a₂:=_) (by simp[*];rfl)),_,rfl⟩
theorem aI3 (c:UInt8):128≤c.toNat→Utf8.decode ⟨#[c]⟩ 0=(65533,1):=kC (p:=fun c=>128≤c.toNat→Utf8.decode ⟨#[c]⟩ 0=(65533,1)) (by decide+kernel) c
theorem aRy (c:UInt8):128≤c.toNat→0<(Utf8.encode (c.toNat:Int)).size∧Utf8.decode (Utf8.encode (c.toNat:Int)) 0=(c.toNat,2):=kC (p:=fun c=>128≤c.toNat→0<(Utf8.encode (c.toNat:Int)).size∧Utf8.decode (Utf8.encode (c.toNat:Int)) 0=(c.toNat,2)) (by decide+kernel) c
theorem aH9 (c:UInt8) (w:World):Calls Tryz.prog 176 #[.string ⟨#[c]⟩] w (lW (nmQ c.toNat 97 122) w):=by
 by_cases hc:c.toNat<128
 ·exact rF c w hc
 ·rw[aMc (.inl (by unfold fiB;simp;omega))];exact wU _ w _ _ (by show 0<1;decide) (aI3 c (by omega)) (by decide)
theorem aF1 (c:UInt8) (w:World):Calls Tryz.prog 177 #[.string ⟨#[c]⟩] w (lW (nmQ c.toNat 65 90) w):=by
 by_cases hc:c.toNat<128
 ·exact qQ c w hc
 ·rw[aMc (.inl (by unfold fiB;simp;omega))];exact vS _ w _ _ (by show 0<1;decide) (aI3 c (by omega)) (by decide)
theorem aYm (c:UInt8):128≤c.toNat→ixB sgS c=sgB c.toNat:=kC (p:=fun c=>128≤c.toNat→ixB sgS c=sgB c.toNat) (by decide+kernel) c
theorem aEv (c:UInt8) (w:World):Calls Tryz.prog 178 #[.int .u8 (c.toNat:Int)] w (lW (sgB c.toNat) w):=by
 by_cases hc:c.toNat<128
 ·exact xC c w hc
 have q:128≤c.toNat:=by omega
 obtain⟨h1,h2⟩:=aRy c q;rw[←aYm c q]
 go_enter Tryz.func178,Tryz.ntmps178
 go_wp2_with (first | (go_at_call 176;(with_reducible refine(wU _ _ _ _ h1 h2 (by omega)).mono ?_);rintro e w' ⟨rfl,os,rfl⟩) | (go_at_call 177;(with_reducible refine(vS _ _ _ _ h1 h2 (by omega)).mono ?_);rintro e w' ⟨rfl,os,rfl⟩) | (go_at_call 128;(with_reducible refine(kX _ _ _).mono ?_);rintro e w' ⟨rfl,rfl⟩))
 all_goals go_ret
 all_goals exact⟨congrArg Ending.returned (congrArg Value.bool (a₂:=_) (by first | rfl | (simp[*];rfl) | simp[*])),_,rfl⟩
theorem aIi {f:FuncId}(c:Nat) (b:Bool) (h:∀w,Calls Tryz.prog f #[.int .u8 (c:Int)] w (fun e w'=>e=.returned (.bool b)∧w=w')):b9 Tryz.prog f [I .u8 c] [] (B b) []:=by
 intro S μ w vals q hv;simp only[b5,aO,aZ,Rep] at hv;obtain⟨v1,r,rfl,rfl,rfl⟩:=hv;refine Calls.mono (h w) ?_;rintro e w' ⟨rfl,rfl⟩;refine⟨S,μ,_,rfl,q,?_⟩;simp only[aO,aZ,Rep]
theorem aRl {f:FuncId}(c:Nat) (b:Bool) (h:∀w,Calls Tryz.prog f #[.int .u8 (c:Int)] w (lW b w)):b9 Tryz.prog f [I .u8 c] [] (B b) []:=by
 intro S μ w vals q hv;simp only[b5,aO,aZ,Rep] at hv;obtain⟨v1,r,rfl,rfl,rfl⟩:=hv;refine Calls.mono (h w) ?_;rintro e w' ⟨rfl,os,rfl⟩;refine⟨S,μ,_,rfl,q.grownR 0 os,?_⟩;simp only[aO,aZ,Rep]
theorem aCj {f:FuncId}(s:Str) (b:Bool) (h:∀w,Calls Tryz.prog f #[.string ⟨⟨s⟩⟩] w (lW b w)):b9 Tryz.prog f [Go.AM.T s] [] (B b) []:=by
 intro S μ w vals q hv;simp only[b5,aO,aZ,Rep] at hv;obtain⟨v1,r,rfl,rfl,rfl⟩:=hv;refine Calls.mono (h w) ?_;rintro e w' ⟨rfl,os,rfl⟩;refine⟨S,μ,_,rfl,q.grownR 0 os,?_⟩;simp only[aO,aZ,Rep]
theorem aJt (c:Nat):b9 Tryz.prog 189 [I .u8 c] [] (B (dgB c)) []:=aIi c _ (rS c)
theorem aWm (c:Nat):b9 Tryz.prog 192 [I .u8 c] [] (B (sgB c)) []:=aIi c _ (aD2 c)
theorem aNi (c:Nat):b9 Tryz.prog 244 [I .u8 c] [] (B (plB c)) []:=aIi c _ (wN c)
theorem aNn (c:UInt8):b9 Tryz.prog 178 [I .u8 c.toNat] [] (B (sgB c.toNat)) []:=aRl _ _ fun w=>aEv c w
theorem aN2 (c:UInt8):b9 Tryz.prog 176 [Go.AM.T [c]] [] (B (nmQ c.toNat 97 122)) []:=aCj [c] _ fun w=>aH9 c w
theorem aN0 (c:UInt8):b9 Tryz.prog 177 [Go.AM.T [c]] [] (B (nmQ c.toNat 65 90)) []:=aCj [c] _ fun w=>aF1 c w
theorem rZ (s:Str) (c:UInt8):b9 Tryz.prog 128 [Go.AM.T s,I .u8 c.toNat] [] (I .i64 (Lib.indexByte s c)) []:=by
 intro S μ w vals q hv;simp only[b5,aO,aZ,Rep] at hv;obtain⟨v1,r,rfl,rfl,v2,u,rfl,rfl,rfl⟩:=hv;refine Calls.mono (kX _ _ w) ?_;rintro e w' ⟨rfl,rfl⟩;refine⟨S,μ,_,rfl,q,?_⟩;rw[show(c.toNat:Int).toNat.toUInt8=c by simp];simp only[aO,aZ,Rep]
theorem aJb (c lo hi:Nat):b9 Tryz.prog 245 [I .u8 c,I .u8 lo,I .u8 hi] [] (B (wiB c lo hi)) []:=by
 intro S μ w vals q hv;simp only[b5,aO,aZ,Rep] at hv;obtain⟨v1,r,rfl,rfl,v2,u,rfl,rfl,v3,y,rfl,rfl,rfl⟩:=hv;refine Calls.mono (iY _ _ _ w) ?_;rintro e w' ⟨rfl,rfl⟩;refine⟨S,μ,_,rfl,q,?_⟩;simp only[aO,aZ,Rep]
structure Tk where
 kind:Int
 text:Str
 n:Int
 pl:Int
def aG (t:Tk):List C:=[.int .i64 t.kind,.str t.text,.int .i64 t.n,.int .i64 t.pl]
def aFq:List C:=[.int .i64 0,.str [],.int .i64 0,.int .i64 0]
def cN (p:Nat→Bool):Str→Nat
 | []=>0
 | c::s=>if p c.toNat=true then cN p s+1 else 0
theorem gG (p:Nat→Bool):∀s:Str,cN p s≤s.length
 | []=>le_refl _
 | c::s=>by
  rw[cN,χ];have:=gG p s;split<;>omega
theorem nA (p:Nat→Bool):∀(s:Str) (i:Nat),i≤cN p s→∀c,s[i]?=some c→(p c.toNat=true↔i<cN p s)
 | [],i,_,c,h=>by cases h
 | a::s,0,_,c,h=>by
  have e:a=c:=by simpa using h
  subst e;rw[cN];by_cases hp:p a.toNat=true
  ·rw[ζ hp];exact⟨fun _=>by omega,fun _=>hp⟩
  ·rw[ξ hp];exact⟨fun h=>absurd h hp,fun h=>by omega⟩
 | a::s,i+1,hi,c,h=>by
  rw[cN] at hi ⊢;by_cases hp:p a.toNat=true
  ·rw[ζ hp] at hi ⊢;rw[nA p s i (by omega) c (by simpa using h)];omega
  ·rw[ξ hp] at hi;omega
def neB (c:Nat):Bool:=!decide (c=10)
def preB (x s:Str):Bool:=decide (x.length≤s.length)&&decide (s.take x.length=x)
def blB (c:Nat):Bool:=decide (c=32∨c=9∨c=10)
def fD (s:Str):Nat:=match s with
 | []=>0
 | c::_=>if blB c.toNat=true then 1 else if preB [45,45] s=true then 2+cN neB (s.drop 2) else 0
def kR:Str→Int→Int
 | [],k=>k
 | c::s,k=>if k<3000000000 then kR s (k*10+((c.toNat:Int)-48)) else k
def sB:List Str:=[[45,62],[61,62],[92],[61],[124],[40],[41],[123],[125],[59],[58],[44],[95]]
def oP (s:Str):Str:=match sB.find? fun x=>preB x s with | some x=>x | none=>[]
def rH:List Str:=[[99,97,115,101],[99,108,97,115,115],[100,97,116,97],[105,110],[105,110,115,116,97,110,99,101],[108,101,116],[111,102]]
abbrev TE:=Except Int (Int×Str×Int)
def oW (s:Str) (up:Bool):TE:=
 if 32<cN sgB s then .error 2
 else if up=true then .ok (2,s.take (cN sgB s),0)
 else if s.take (cN sgB s)∈rH then .ok (5,s.take (cN sgB s),0)
 else .ok (1,s.take (cN sgB s),0)
def j4:Str→TE
 | []=>.error 10
 | c::s=>
  if dgB c.toNat=true then
   (if 2147483647<kR ((c::s).take (cN dgB (c::s))) 0 then .error 11 else .ok (3,(c::s).take (cN dgB (c::s)),kR ((c::s).take (cN dgB (c::s))) 0))
  else if wiB c.toNat 97 122=true∨wiB c.toNat 65 90=true then oW (c::s) (wiB c.toNat 65 90)
  else if oP (c::s)=[] then .error 10 else .ok (4,oP (c::s),0)
def a2s:TE→V
 | .ok (k,t,v)=>.tup [.pa [.int .i64 k,.str t,.int .i64 v,.int .i64 0],I .i64 0]
 | .error e=>.tup [.pa aFq,I .i64 e]
theorem aDe (c:UInt8) (lo hi:Nat):b9 Tryz.prog 227 [Go.AM.T [c],I .u8 lo,I .u8 hi] [] (B (sgB c.toNat&&wiB c.toNat lo hi)) []:=by
 have hp:=aNi c.toNat;have hw:=aJb c.toNat lo hi;refine bP (n:=46) tok Tryz.func227 rfl rfl rfl ?_;refine sg rfl (aA (sgh [(3,.bv false),(7,.bv false)] rfl (aB rfl (fun hb=>by simp at hb) (fun _=>aD (aA (sg rfl (aF (aK (fun i:Nat=>mk [(0,Go.AM.T [c]),(1,I .u8 lo),(2,I .u8 hi),(7,I .i64 i)] []) (fun i=>i=0∨(i=1∧sgB c.toNat=true)) (fun i=>1-i) 0 (.inl rfl) sl ?_))))))));rintro i (rfl | ⟨rfl,hs⟩)
 ·refine aA (sg rfl (aB rfl (fun _=>aD (aA (aF (skh 3 [(2,.byte 0 c)] rfl (kc hp ?_))))) (fun hb=>by simp at hb)));refine kz 1 rfl ?_;by_cases h1:plB c.toNat=true
  ·rw[h1];have hs:sgB c.toNat=true:=by unfold sgB;rw[h1];rfl
   exact sgh [(2,.bv false),(7,.bv false),(8,.bv false),(13,.bv false)] rfl (aB rfl (fun hb=>absurd hb (by decide)) (fun _=>aD (ag [] rfl ⟨1,.inr ⟨rfl,hs⟩,by decide,sl⟩)))
  ·have h1:=Co _ |>.mp h1;rw[h1];by_cases h2:(c.toNat:Int)=39
   ·have d2:(!decide ((c.toNat:Int)=39))=false:=by rw[φ h2];rfl
    have hs:sgB c.toNat=true:=by unfold sgB;rw[φ (by omega),Bool.or_true]
    exact sgh [(2,.bv true),(5,.byte 0 c),(7,.bv true),(8,.bv false),(13,.bv false)] rfl (aB rfl (fun hb=>absurd hb (by decide)) (fun _=>aD (ag [] rfl ⟨1,.inr ⟨rfl,hs⟩,by decide,sl⟩)))
   have d2:(!decide ((c.toNat:Int)=39))=true:=by rw[ψ h2];rfl
   by_cases q:(c.toNat:Int)=95
   ·have d3:(!decide ((c.toNat:Int)=95))=false:=by rw[φ q];rfl
    have hs:sgB c.toNat=true:=by unfold sgB;rw[φ (by omega),Bool.or_true]
    exact sgh [(2,.bv true),(5,.byte 0 c),(7,.bv true),(8,.bv true),(11,.byte 0 c),(13,.bv true)] rfl (aB rfl (fun hb=>absurd (hb.symm.trans d3) (by decide)) (fun _=>aD (ag [] rfl ⟨1,.inr ⟨rfl,hs⟩,by decide,sl⟩)))
   ·have d3:(!decide ((c.toNat:Int)=95))=true:=by rw[ψ q];rfl
    have hs:sgB c.toNat=false:=by unfold sgB;rw[h1,ψ (by omega)];rfl
    refine sgh [(2,.bv true),(5,.byte 0 c),(7,.bv true),(8,.bv true),(11,.byte 0 c),(13,.bv true)] rfl (aB rfl (fun _=>sg rfl ?_) (fun hb=>absurd (hb.symm.trans d3) (by decide)));rw[hs];exact aE rtT
 ·rw[hs];refine aA (sg rfl (aB rfl (fun hb=>by simp at hb) (fun _=>aH (skh 4 [(1,.byte 0 c)] rfl (kc hw ?_)))));exact kz 1 rfl (aE rtT)
theorem aGj (c:Nat):(sgB c&&wiB c 97 122)=wiB c 97 122:=by
 unfold sgB plB wiB;rw[Bv];simp;omega
theorem aGi (c:Nat):(sgB c&&wiB c 65 90)=wiB c 65 90:=by
 unfold sgB plB wiB;rw[Bv];simp;omega
theorem aN1 (c:UInt8):b9 Tryz.prog 190 [Go.AM.T [c]] [] (B (wiB c.toNat 97 122)) []:=by
 have h:=aDe c 97 122;rw[show((97:Nat):Int)=97 from rfl,show((122:Nat):Int)=122 from rfl,aGj] at h;refine bP (n:=5) tok Tryz.func190 rfl rfl rfl ?_;refine sg rfl (sk 1 rfl (kc h ?_));exact kz 1 rfl (aE rtT)
theorem aNz (c:UInt8):b9 Tryz.prog 191 [Go.AM.T [c]] [] (B (wiB c.toNat 65 90)) []:=by
 have h:=aDe c 65 90;rw[show((65:Nat):Int)=65 from rfl,show((90:Nat):Int)=90 from rfl,aGi] at h;refine bP (n:=5) tok Tryz.func191 rfl rfl rfl ?_;refine sg rfl (sk 1 rfl (kc h ?_));exact kz 1 rfl (aE rtT)
theorem n0 {p:Str→Bool}{l:List Str}{i:Nat}{x:Str}(h:(l.take i).find? p=none) (hx:l[i]?=some x) (hp:p x=false):(l.take (i+1)).find? p=none:=by
 rw[Bf,hx,List.find?_append,h];show [x].find? p=none;rw[List.find?_cons,hp];rfl
theorem mZ {p:Str→Bool}{l:List Str}{i:Nat}{x:Str}(h:(l.take i).find? p=none) (hx:l[i]?=some x) (hp:p x=true):l.find? p=some x:=by
 have e:l=l.take i++x::l.drop (i+1):=by
  obtain⟨h1,h2⟩:=Ai.1 hx;have:=Ay h1;rw[h2] at this;rw[←this];exact(take_append_drop i l).symm
 rw[e,List.find?_append,h,List.find?_cons,hp];rfl
theorem aNc (s:Str):b9 Tryz.prog 195 [Go.AM.T s] [] (Go.AM.T (oP s)) []:=by
 have r:(sB.map b7).length=sB.length:=η _;refine bP (n:=38) tok Tryz.func195 rfl rfl rfl ?_;refine sg rfl (sgh [(0,.all)] rfl (aA (sg rfl (aF (aK (fun i:Nat=>mk [(0,Go.AM.T s),(3,.one (.c (.sl 1 (sB.map b7)))),(4,I .i64 i)] []) (fun i=>i≤sB.length∧(sB.take i).find? (fun x=>preB x s)=none) (fun i=>sB.length-i) 0 ⟨ε _,rfl⟩ sl ?_)))));rintro i ⟨hi,hn⟩;refine aA (sg rfl (aB rfl (fun hb=>?_) (fun hb=>?_)))
 ·have q:=ltD hb r;obtain⟨x,hx⟩:=aL q;have J:=aT b7 hx;have u:oP s=(match sB.find? (fun x=>preB x s) with | some x=>x | none=>[]):=rfl;have B:preB x s=true→oP s=x:=fun hp=>by rw[u,mZ hn hx hp]
  have y:preB x s=false→(sB.take (i+1)).find? (fun x=>preB x s)=none:=fun hp=>n0 hn hx hp
  have M:sB.length≤13:=by decide
  clear u hn;generalize sB=L at *;refine aD (aA (aF (aA ?_)));by_cases h1:x.length≤s.length
  ·have d1:decide ((x.length:Int)≤(s.length:Int))=true:=φ (by omega);refine agN [(4,.row i (b7 x)),(8,.bv true),(12,.row i (b7 x)),(18,.row i (b7 x)),(21,.bv true)] rfl ?_;by_cases h2:s.take x.length=x
   ·have hp:preB x s=true:=by unfold preB;rw[φ h1,φ h2];rfl
    have d2:decide (s.take x.length=x)=true:=φ h2;refine aB rfl (fun _=>sgh [(2,.row i (b7 x))] rfl ?_) (fun hb=>absurd (hb.symm.trans d2) (by decide));rw[B hp];exact aE rtT
   ·have hp:preB x s=false:=by unfold preB;rw[ψ h2,Bool.and_false]
    have d2:decide (s.take x.length=x)=false:=ψ h2;exact aB rfl (fun hb=>absurd (hb.symm.trans d2) (by decide)) (fun _=>aD (ag [] rfl ⟨i+1,⟨q,y hp⟩,by dsimp only;omega,sl⟩))
  ·have d1:decide ((x.length:Int)≤(s.length:Int))=false:=ψ (by omega);have hp:preB x s=false:=by unfold preB;rw[ψ h1,B3]
   exact agN [(4,.row i (b7 x)),(8,.bv false),(21,.bv false)] rfl (aB rfl (fun hb=>absurd hb (by decide)) (fun _=>aD (ag [] rfl ⟨i+1,⟨q,y hp⟩,by dsimp only;omega,sl⟩)))
 ·have E:=geD hb r hi;rw[E,Ax] at hn;have e:oP s=[]:=by unfold oP;rw[hn]
  rw[e];exact aH (sg rfl (aE rtT))
theorem aSp (c:UInt8) (r:Str) (hl:r.length≤4000):b9 Tryz.prog 151 [Go.AM.T (c::r)] [] (I .i64 (fD (c::r))) []:=by
 refine bP (n:=40) tok Tryz.func151 rfl rfl rfl ?_;refine sg rfl ?_;have key:∀b:Bool,blB c.toNat=b→fD (c::r)=if b=true then 1 else if preB [45,45] (c::r)=true then 2+cN neB (r.drop 1) else 0:=fun b hb=>by rw[←hb];rfl
 by_cases h1:(c.toNat:Int)=32
 ·have d1:decide ((c.toNat:Int)=32)=true:=φ h1;refine aA (sgh [(1,.byte 0 c),(3,.bv true),(7,.bv true),(8,.bv true),(12,.bv true)] rfl (aB rfl (fun _=>?_) (fun hb=>absurd hb (by decide))));rw[key true (φ (by omega)),ζ rfl];exact sg rfl (aE rtT)
 have d1:decide ((c.toNat:Int)=32)=false:=ψ h1;by_cases h2:(c.toNat:Int)=9
 ·have d2:decide ((c.toNat:Int)=9)=true:=φ h2;refine aA (sgh [(1,.byte 0 c),(3,.bv false),(5,.byte 0 c),(7,.bv false),(8,.bv true),(12,.bv true)] rfl (aB rfl (fun _=>?_) (fun hb=>absurd hb (by decide))));rw[key true (φ (by omega)),ζ rfl];exact sg rfl (aE rtT)
 have d2:decide ((c.toNat:Int)=9)=false:=ψ h2;refine aA (sgh [(1,.byte 0 c),(3,.bv false),(5,.byte 0 c),(7,.bv false),(8,.bv false),(10,.byte 0 c),(12,.bv false)] rfl (aB rfl (fun hb=>?_) (fun hb=>?_)))
 ·have O:=κ hb;rw[key true (φ (by omega)),ζ rfl];exact sg rfl (aE rtT)
 have O:=Af hb;rw[key false (ψ (by omega)),ξ ω];clear key;refine aD ?_;have q:r.drop 1=(c::r).drop 2:=rfl;rw[q];have B:(c::r).length≤4001:=by rw[χ];omega
 generalize c::r=S at B ⊢;clear q hl;by_cases E:2≤S.length
 ·have dl:decide ((1:Int)<(S.length:Int))=true:=φ (by omega);refine aA (sgh [(3,.bv true),(7,.bv true)] rfl (aB rfl (fun hb=>?_) (fun hb=>?_)))
  ·have hp:preB [45,45] S=true:=by unfold preB;rw[φ (show([45,45]:Str).length≤S.length from E)];exact hb
   rw[ζ hp];refine sg rfl ?_;have U:=gG neB (S.drop 2);rw[Bg] at U;refine aA (aF (aK (fun j:Nat=>mk [(0,Go.AM.T S),(3,I .i64 ((2+j:Nat):Int))] []) (fun j=>j≤cN neB (S.drop 2)) (fun j=>cN neB (S.drop 2)-j) 0 (ε _) sl ?_));intro j hj;by_cases J:2+j<S.length
   ·obtain⟨d,hd⟩:=aL J;have y:(S.take (2+j+1)).drop (2+j)=[d]:=by
     rw[Bf,hd,drop_append,drop_eq_nil_of_le (by rw[An];omega),An,Da (by omega),Cg];rfl
    have u:=nA neB (S.drop 2) j hj d (by rw[Ap];exact hd);have Y:decide (((2+j:Nat):Int)<(S.length:Int))=true:=φ (by omega);refine aA (aA (agN [(4,.bv true),(11,.bv true)] rfl ?_));rw[y];refine aB rfl (fun hb=>?_) (fun hb=>?_)
    ·have M:j<cN neB (S.drop 2):=u.1 (by
      unfold neB;simp at hb ⊢
      exact fun e=>hb (UInt8.toNat_inj.1 e))
     exact aD (aF (agN [] rfl ⟨j+1,M,by dsimp only;omega,sl⟩))
    ·have e:j=cN neB (S.drop 2):=by
      have:¬j<cN neB (S.drop 2):=fun h=>by
       have:=u.2 h;unfold neB at this;simp at hb this;exact this (by rw[hb];rfl)
      omega
     rw[←e];exact aH (sg rfl (aE rtT))
   ·have Y:decide (((2+j:Nat):Int)<(S.length:Int))=false:=ψ (by omega);have e:j=cN neB (S.drop 2):=by omega
    refine aA (aA (agN [(4,.bv false),(11,.bv false)] rfl (aB rfl (fun hb=>absurd hb (by decide)) (fun _=>?_))));rw[←e];exact aH (sg rfl (aE rtT))
  ·have hp:¬preB [45,45] S=true:=by
    unfold preB;have hb:decide (S.take 2=[45,45])=false:=hb;rw[show([45,45]:Str).length=2 from rfl,hb,Bool.and_false];exact ω
   rw[ξ hp];exact aD (sg rfl (aE rtT))
 ·have dl:decide ((1:Int)<(S.length:Int))=false:=ψ (by omega);have hp:¬preB [45,45] S=true:=by
   unfold preB;rw[ψ (show ¬([45,45]:Str).length≤S.length from E),B3];exact ω
  rw[ξ hp];exact aA (sgh [(3,.bv false),(7,.bv false)] rfl (aB rfl (fun hb=>absurd hb (by decide)) (fun _=>aD (sg rfl (aE rtT)))))
end Go.Proofs.YtpmheldmadendaaGreatDoor
namespace Go.AM
open Go
section
variable {fn:Func}{st:St}{hin hout:List (Nat×AObj)}{res res2 res3:V}
theorem aBm {tr:Tr}{a t u:Nat}{i:TI}{id off tv:Nat}{cells:List R}{v v2:V}{ids q:List Nat}(hw:tr.wf=true) (y:fn.results.toList=[.cell a t,.tmp u]:=by rfl) (hi:tr.get t=some i:=by rfl) (ha:st.e a=some (.one (.vp id off)):=by rfl) (hh:st.h id=some (.var tv cells):=by rfl) (hb:Nat.ble (off+i.size) cells.length=true:=by rfl) (hv:k8 i ((cells.drop off).take i.size)=some v:=by rfl) (hu:st.e u=some v2:=by rfl)
  (hc:Conv st.h ids v res:=by first | exact .refl | exact .one (.c .nl .nil) | ((first | apply Go.AM.Conv.pa | apply Go.AM.Conv.agg);repeat (first | exact .nil | apply Go.AM.PureL.c .refl | apply Go.AM.PureL.c .nl | (apply Go.AM.PureL.hs;rfl;(first | rfl | assumption | simp);(first | rfl | exact Go.AM.take_all (by first | assumption | rfl | (simp;done)) | exact Go.AM.take_map.symm)))))
  (r:Conv st.h q v2 res2:=by exact .refl)
  (ho:gN (fun p=>∃o,st.h p.1=some o∧Ole (fun i=>i) o p.2) hout:=by repeat (first | exact trivial | refine⟨⟨_,rfl,by first | exact Go.AM.Ole.arr | exact Go.AM.Ole.var rfl | exact Go.AM.Ole.varS rfl⟩,?_⟩))
  (hok:(subset (V.tup [res,res2]).refs (keys hout)&&subset (gO hout) (keys hout)&&distinct (keys hout)&&subset (keys hin) (keys hout)&&(hin.all fun p=>p.2.plain)&&(hout.all fun p=>p.2.plain))=true:=by rfl):(Exit.ret=.normal∨Exit.ret=.ret)∧Fin tr.flat fn st hin (.tup [res,res2]) hout:=
 ⟨.inr rfl,⟨[v,v2],[res,res2],by rw[y];exact .cell ha (Tr.get_ok hw hi) hh hb hv (.tmp hu .nil),.cons hc (.cons r .nil),rfl⟩,ho,hok⟩
end
end Go.AM
namespace Go.Proofs.YtpmheldmadendaaGreatDoor
open Go Go.AM
set_option maxRecDepth 20000
set_option maxHeartbeats 4000000
theorem mL {ro:Option Nat}{P:Program}{n:Nat}{kf:List Nat}{x y:Code}{st:St}{Q:Exit→St→Prop}(σ:St) (h:AWp ro P n kf x st (fun ex st'=>(ex=.normal∧Sub kf σ st')∨(¬ex=.normal∧Q ex st'))) (k:AWp ro P n kf y σ Q):AWp ro P n kf (.seq x y) st Q:=
 aA (h.post fun ex st' q=>by
  rcases q with⟨rfl,q⟩ | ⟨r,q⟩
  ·exact⟨σ,q,k⟩
  ·refine⟨st',fun G n S μ a w u hs=>⟨S,μ,hs⟩,?_⟩;cases ex with
   | normal=>exact absurd rfl r
   | _=>exact q)
theorem aVw {k:Int}(h:¬k<3000000000):∀l:Str,kR l k=k
 | []=>rfl
 | _::_=>by rw[kR,ξ h]
theorem aSw:b9 Tryz.prog 194 [] [] (.one (.c (.sl 1 (rH.map b7)))) []:=by
 refine bP (n:=2) tok Tryz.func194 rfl rfl rfl ?_;exact sg rfl (sgh [(0,.all)] rfl (aE rtT))
theorem aWq (c:UInt8) (r:Str) (hl:r.length≤4000):b9 Tryz.prog 152 [Go.AM.T (c::r)] [] (a2s (j4 (c::r))) []:=by
 have ab:=aJt c.toNat;refine bP (n:=108) tok Tryz.func152 rfl rfl rfl ?_;refine sg rfl (sg rfl (aA (skh 2 [(1,.byte 0 c)] rfl (kc ab ?_))));refine az ?_;have h0:(c::r)[0]?=some c:=rfl;have hSl:(c::r).length≤4001:=by rw[χ];omega
 have hS1:1≤(c::r).length:=by rw[χ];omega
 refine aB rfl (fun hb=>?_) (fun hb=>?_)
 ·have u:j4 (c::r)=if 2147483647<kR ((c::r).take (cN dgB (c::r))) 0 then .error 11 else .ok (3,(c::r).take (cN dgB (c::r)),kR ((c::r).take (cN dgB (c::r))) 0):=by
   rw[j4,ζ hb]
  rw[u];clear u;generalize c::r=S at *;have hW:=gG dgB S;refine mL (mk [(0,Go.AM.T S),(2,.one (.vp 2 0)),(4,I .i64 (cN dgB S:Nat))] [(2,.var 152 (aFq.map .c))]) ?_ ?_
  ·refine aF (aK (fun j:Nat=>mk [(0,Go.AM.T S),(2,.one (.vp 2 0)),(4,I .i64 j)] [(2,.var 152 (aFq.map .c))]) (fun j=>j≤cN dgB S) (fun j=>cN dgB S-j) 0 (ε _) sl ?_);intro j hj;by_cases O:j<S.length
   ·obtain⟨d,hd⟩:=aL O;have E:=nA dgB S j hj d hd;have U:=aJt d.toNat;have q:decide ((j:Int)<(S.length:Int))=true:=φ (by omega);have J:(if(S.length:Int)-1<(j:Int) then(S.length:Int)-1 else(j:Int))=(j:Int):=ξ (by omega);refine aA (skh 12 [(4,.bv true),(11,.byte j d)] rfl (kcG U ?_) (hc:=⟨⟨J,hd⟩,q,q,⟨by omega,by omega⟩,q,q,q,q,q,trivial⟩));refine ak 1 [(4,.bv true),(13,.bv true)] rfl (az (aB rfl (fun hb=>?_) (fun hb=>?_)))
    ·exact aD (aF (ag [] rfl ⟨j+1,E.1 hb,by dsimp only;have:=E.1 hb;omega,sl⟩))
    ·have e:j=cN dgB S:=by
      have:¬j<cN dgB S:=fun h=>by rw[E.2 h] at hb;cases hb
      omega
     refine aH ?_;rw[←e];exact .inl ⟨rfl,sl⟩
   ·have e:j=cN dgB S:=by omega
    have q:decide ((j:Int)<(S.length:Int))=false:=ψ (by omega);refine aA (sgh [(4,.bv false),(13,.bv false)] rfl (aB rfl (fun hb=>absurd hb (by decide)) (fun _=>aH ?_)));rw[←e];exact .inl ⟨rfl,sl⟩
  ·have ah:∀(j:Nat) (d:UInt8),j<cN dgB S→S[j]?=some d→48≤d.toNat∧d.toNat≤57:=fun j d hj hd=>κ ((nA dgB S j (by omega) d hd).2 hj)
   have ai:(S.take (cN dgB S)).length=cN dgB S:=by rw[An];omega
   generalize cN dgB S=N at *;refine sg rfl (mL (mk [(0,Go.AM.T S),(2,.one (.vp 2 0)),(4,I .i64 (N:Nat)),(5,I .i64 (kR (S.take N) 0))] [(2,.var 152 (aFq.map .c))]) ?_ ?_)
   ·refine sg rfl (aF (aK (fun p:Nat×Int=>mk [(0,Go.AM.T S),(2,.one (.vp 2 0)),(4,I .i64 (N:Nat)),(5,I .i64 p.2),(6,I .i64 p.1)] [(2,.var 152 (aFq.map .c))]) (fun p=>p.1≤N∧0≤p.2∧p.2≤30000000300∧kR ((S.take N).drop p.1) p.2=kR (S.take N) 0) (fun p=>N-p.1) (0,0) ⟨ε _,by decide,by decide,rfl⟩ sl ?_));rintro⟨i,k⟩ ⟨hi,aj,al,M⟩;dsimp only at hi aj al M ⊢;by_cases Y:i<N
    ·have d1:decide ((i:Int)<(N:Int))=true:=φ (by omega);refine aA (sgh [(3,.bv true),(6,.bv true)] rfl (aB rfl (fun hb=>?_) (fun hb=>?_)))
     ·have aa:=κ hb;obtain⟨d,hd⟩:=aL (l:=S) (k:=i) (by omega);obtain⟨g1,g2⟩:=ah i d Y hd;have hw:IntKind.wrap .i64 (d.toNat:Int)=(d.toNat:Int):=B2 _ (by omega);have am:(S.take N).drop i=d::(S.take N).drop (i+1):=by
       obtain⟨q1,q2⟩:=Ai.1 (show(S.take N)[i]?=some d by rw[Ao,ζ Y];exact hd);rw[Ay q1,q2]
      rw[am,kR,ζ aa,show k*10+((d.toNat:Int)-48)=k*10+(d.toNat:Int)-48 by omega] at M;refine aD (aA (aF (ag [(4,.byte i d)] rfl ?_ (hc:=⟨⟨by rw[hw];omega,by rw[hw];omega⟩,⟨by rw[hw];omega,by rw[hw];omega⟩,⟨rfl,hd⟩,⟨by omega,by omega⟩,trivial⟩))));rw[hw];exact ag [] rfl ⟨(i+1,k*10+(d.toNat:Int)-48),⟨Y,by dsimp only;omega,by dsimp only;omega,M⟩,by dsimp only;omega,sl⟩
     ·have aa:=Af hb;rw[aVw aa] at M;refine aH ?_;rw[←M];exact .inl ⟨rfl,sl⟩
    ·have e:i=N:=by omega
     have d1:decide ((i:Int)<(N:Int))=false:=ψ (by omega);rw[e,drop_eq_nil_of_le (by rw[ai];exact le_refl _),kR] at M;refine aA (sgh [(3,.bv false),(6,.bv false)] rfl (aB rfl (fun hb=>absurd hb (by decide)) (fun _=>aH ?_)));rw[←M];exact .inl ⟨rfl,sl⟩
   ·generalize kR (S.take N) 0=K;refine aA (sg rfl (aB rfl (fun hb=>?_) (fun hb=>?_)))
    ·rw[ζ (κ hb)];exact sg rfl (aE (aBm trw))
    ·rw[ξ (Af hb)];exact aD (sg rfl (aE (aBm trw)))
 ·have u:j4 (c::r)=if wiB c.toNat 97 122=true∨wiB c.toNat 65 90=true then oW (c::r) (wiB c.toNat 65 90) else if oP (c::r)=[] then .error 10 else .ok (4,oP (c::r),0):=by
   rw[j4,ξ (by rw[hb];exact ω)]
  rw[u];clear u;have ac:=aN1 c;have ad:=aNz c;have an:=aNc (c::r);have ae:(c::r).take 1=[c]:=rfl;generalize c::r=S at *;refine aD (sk 2 rfl ?_);rw[ae];refine kc ac ?_;refine kz 1 rfl (sk 2 rfl ?_);rw[ae];refine kc ad ?_;refine kz 1 rfl ?_;generalize wiB c.toNat 65 90=up at *;generalize wiB c.toNat 97 122=lo at *;by_cases hn:lo=true∨up=true
  ·rw[ζ hn];have ap:=aSw;have aq:=aNo rH (S.take (cN sgB S)) (by unfold Fits;decide);have af:(bif lo then true else up)=true:=by
    rcases hn with h | h
    ·rw[h];rfl
    ·rw[h];cases lo<;>rfl
   refine aA (aA (agF 2 [] rfl rfl rfl (aB rfl (fun _=>AWp.sub (st2:=mk [(0,Go.AM.T S),(2,.one (.vp 2 0)),(4,I .i64 0),(8,B up)] [(2,.var 152 (aFq.map .c))]) sl ?_) (fun hb=>absurd (hb.symm.trans af) (by decide)))));clear af hn ac ad ab;have hW:=gG sgB S;refine mL (mk [(0,Go.AM.T S),(2,.one (.vp 2 0)),(4,I .i64 (cN sgB S:Nat)),(8,B up)] [(2,.var 152 (aFq.map .c))]) ?_ ?_
   ·refine aF (aK (fun j:Nat=>mk [(0,Go.AM.T S),(2,.one (.vp 2 0)),(4,I .i64 j),(8,B up)] [(2,.var 152 (aFq.map .c))]) (fun j=>j≤cN sgB S) (fun j=>cN sgB S-j) 0 (ε _) sl ?_);intro j hj;by_cases O:j<S.length
    ·obtain⟨d,hd⟩:=aL O;have E:=nA sgB S j hj d hd;have U:=aWm d.toNat;have q:decide ((j:Int)<(S.length:Int))=true:=φ (by omega);have J:(if(S.length:Int)-1<(j:Int) then(S.length:Int)-1 else(j:Int))=(j:Int):=ξ (by omega);refine aA (skh 12 [(4,.bv true),(11,.byte j d)] rfl (kcG U ?_) (hc:=⟨⟨J,hd⟩,q,q,⟨by omega,by omega⟩,q,q,q,q,q,trivial⟩));refine ak 1 [(4,.bv true),(13,.bv true)] rfl (az (aB rfl (fun hb=>?_) (fun hb=>?_)))
     ·exact aD (aF (ag [] rfl ⟨j+1,E.1 hb,by dsimp only;have:=E.1 hb;omega,sl⟩))
     ·have e:j=cN sgB S:=by
       have:¬j<cN sgB S:=fun h=>by rw[E.2 h] at hb;cases hb
       omega
      refine aH ?_;rw[←e];exact .inl ⟨rfl,sl⟩
    ·have e:j=cN sgB S:=by omega
     have q:decide ((j:Int)<(S.length:Int))=false:=ψ (by omega);refine aA (sgh [(4,.bv false),(13,.bv false)] rfl (aB rfl (fun hb=>absurd hb (by decide)) (fun _=>aH ?_)));rw[←e];exact .inl ⟨rfl,sl⟩
   ·unfold oW;generalize cN sgB S=N at *;refine aA (sg rfl (aB rfl (fun hb=>?_) (fun hb=>?_)))
    ·rw[ζ (by have:=κ hb;omega)];exact sg rfl (aE (aBm trw))
    rw[ξ (by have:=Af hb;omega)];refine aD (aA (sg rfl (aB rfl (fun hb=>?_) (fun hb=>?_))))
    ·rw[ζ hb];exact sg rfl (aE (aBm trw))
    rw[ξ (by rw[hb];exact ω)];refine aD ?_;generalize rH=L at *;refine aA (aA (aC mixed (kc ap ?_)));refine akN 3 [] rfl (kc aq ?_);refine az (aB rfl (fun hb=>?_) (fun hb=>?_))
    ·rw[ζ (κ hb)];exact sg rfl (aE (aBm trw))
    ·rw[ξ (Af hb)];exact aD (sg rfl (aE (aBm trw)))
  ·rw[ξ hn];have h1:lo=false:=by cases lo<;>simp at hn ⊢
   have h2:up=false:=by cases up<;>simp at hn ⊢
   subst h1 h2;refine aA (sgh [(1,.bv false),(3,.bv false)] rfl (aB rfl (fun hb=>absurd hb (by decide)) (fun _=>aD (sk 1 rfl (kc an ?_)))));refine kz 1 rfl ?_;generalize oP S=y at *;refine aA (sg rfl (aB rfl (fun hb=>?_) (fun hb=>?_)))
   ·rw[ζ (κ hb)];exact sg rfl (aE (aBm trw))
   ·rw[ξ (Af hb)];exact aD (sg rfl (aE (aBm trw)))
end Go.Proofs.YtpmheldmadendaaGreatDoor
namespace Go.AM
open Go
section
variable {fn:Func}{st:St}{hin hout:List (Nat×AObj)}{res res2 res3:V}
theorem aTn {tr:Tr}{a t u:Nat}{i:TI}{id off tv:Nat}{cells:List R}{v v2:V}{ids q:List Nat}(hw:tr.wf=true) (y:fn.results.toList=[.tmp u,.cell a t]:=by rfl) (hi:tr.get t=some i:=by rfl) (ha:st.e a=some (.one (.vp id off)):=by rfl) (hh:st.h id=some (.var tv cells):=by rfl) (hb:Nat.ble (off+i.size) cells.length=true:=by rfl) (hv:k8 i ((cells.drop off).take i.size)=some v:=by rfl) (hu:st.e u=some v2:=by rfl)
  (hc:Conv st.h ids v res2:=by first | exact .refl | exact .one (.c .nl .nil) | ((first | apply Go.AM.Conv.pa | apply Go.AM.Conv.agg);repeat (first | exact .nil | apply Go.AM.PureL.c .refl | apply Go.AM.PureL.c .nl | (apply Go.AM.PureL.hs;rfl;(first | rfl | assumption | simp);(first | rfl | exact Go.AM.take_all (by first | assumption | rfl | (simp;done)) | exact Go.AM.take_map.symm)))))
  (r:Conv st.h q v2 res:=by exact .refl)
  (ho:gN (fun p=>∃o,st.h p.1=some o∧Ole (fun i=>i) o p.2) hout:=by repeat (first | exact trivial | refine⟨⟨_,rfl,by first | exact Go.AM.Ole.arr | exact Go.AM.Ole.var rfl | exact Go.AM.Ole.varS rfl⟩,?_⟩))
  (hok:(subset (V.tup [res,res2]).refs (keys hout)&&subset (gO hout) (keys hout)&&distinct (keys hout)&&subset (keys hin) (keys hout)&&(hin.all fun p=>p.2.plain)&&(hout.all fun p=>p.2.plain))=true:=by rfl):(Exit.ret=.normal∨Exit.ret=.ret)∧Fin tr.flat fn st hin (.tup [res,res2]) hout:=
 ⟨.inr rfl,⟨[v2,v],[res,res2],by rw[y];exact .tmp hu (.cell ha (Tr.get_ok hw hi) hh hb hv .nil),.cons r (.cons hc .nil),rfl⟩,ho,hok⟩
end
end Go.AM
namespace Go.Proofs.YtpmheldmadendaaGreatDoor
open Go Go.AM
set_option maxRecDepth 20000
set_option maxHeartbeats 4000000
abbrev LE:=Except (Int×Int) (List Tk)
def uU (t:Tk):LE→LE
 | .ok l=>.ok (t::l)
 | .error e=>.error e
def mY:Nat→Nat→Str→LE
 | 0,at',_=>.ok [⟨6,[],0,at'⟩]
 | _+1,at',[]=>.ok [⟨6,[],0,at'⟩]
 | f+1,at',c::r=>
  if 0<fD (c::r) then mY f (at'+fD (c::r)) ((c::r).drop (fD (c::r)))
  else match j4 (c::r) with
   | .error e=>.error (e,at')
   | .ok (k,t,v)=>uU ⟨k,t,v,at'⟩ (mY f (at'+t.length) ((c::r).drop t.length))
def lexA (s:Str):LE:=if 4000<s.length then .error (2,0) else mY s.length 0 s
def aTq (out:List Tk):LE→LE
 | .ok l=>.ok (out++l)
 | .error e=>.error e
theorem wL (out:List Tk) (t:Tk) (r:LE):aTq out (uU t r)=aTq (out++[t]) r:=by
 cases r with
 | ok l=>show Except.ok _=Except.ok _;simp
 | error e=>rfl
def atV (e p:Int):V:=.pa [.int .i64 e,.int .i64 p]
def aFu:LE→V
 | .ok l=>.tup [.one (.c (.sl 4 (l.map aG))),atV 0 0]
 | .error (e,p)=>.tup [.one (.c .nl),atV e p]
theorem yC (s:Str):fD s≤s.length:=by
 unfold fD;cases s with
 | nil=>exact le_refl _
 | cons c r=>
  dsimp only;split
  ·rw[χ];omega
  ·split
   ·rename_i h;have hp:2≤(c::r).length:=by
     unfold preB at h;rw[π] at h;exact κ h.1
    have:=gG neB ((c::r).drop 2);rw[Bg] at this;omega
   ·exact ε _
theorem aQi (s:Str) (h:¬oP s=[]):1≤(oP s).length∧(oP s).length≤s.length:=by
 refine⟨C6.2 h,?_⟩;unfold oP at h ⊢;cases q:sB.find? fun x=>preB x s with
 | none=>rw[q] at h;exact absurd rfl h
 | some x=>
  have:=List.find?_some q;unfold preB at this;rw[π] at this;exact κ this.1
theorem mC {c:UInt8}{r:Str}{k:Int}{t:Str}{v:Int}(h:j4 (c::r)=.ok (k,t,v)):1≤t.length∧t.length≤(c::r).length:=by
 have h1:∀p:Nat→Bool,p c.toNat=true→1≤((c::r).take (cN p (c::r))).length∧((c::r).take (cN p (c::r))).length≤(c::r).length:=fun p hp=>by
  have:=gG p (c::r);rw[An];rw[cN,ζ hp] at this ⊢;rw[χ] at this ⊢;omega
 rw[j4] at h;by_cases hd:dgB c.toNat=true
 ·rw[ζ hd] at h;split at h
  ·cases h
  ·cases h;exact h1 _ hd
 rw[ξ hd] at h;by_cases hn:wiB c.toNat 97 122=true∨wiB c.toNat 65 90=true
 ·rw[ζ hn] at h;have hs:sgB c.toNat=true:=by
   rcases hn with h | h
   ·have:=aGj c.toNat;rw[h] at this;simpa using this
   ·have:=aGi c.toNat;rw[h] at this;simpa using this
  unfold oW at h;split at h
  ·cases h
  split at h
  ·cases h;exact h1 _ hs
  split at h
  ·cases h;exact h1 _ hs
  ·cases h;exact h1 _ hs
 rw[ξ hn] at h;split at h
 ·cases h
 ·rename_i hy;cases h;exact aQi _ hy
theorem u9 {c:UInt8}{r:Str}{e:Int}(h:j4 (c::r)=.error e):¬e=0:=by
 rw[j4] at h;split at h
 ·split at h
  ·cases h;decide
  ·cases h
 split at h
 ·unfold oW at h;split at h
  ·cases h;decide
  split at h
  ·cases h
  split at h<;>cases h
 split at h
 ·cases h;decide
 ·cases h
theorem aW8 (S:Str):b9 Tryz.prog 92 [Go.AM.T S] [] (aFu (lexA S)) []:=by
 refine bP (n:=56) tok Tryz.func92 rfl rfl rfl ?_;refine sg rfl (aA (sg rfl (aB rfl (fun hb=>?_) (fun hb=>?_))))
 ·unfold lexA;rw[ζ (by have:=κ hb;omega)];exact sg rfl (aE (aTn trw))
 have hl:S.length≤4000:=by have:=Af hb;omega
 have hA:lexA S=aTq [] (mY S.length 0 (S.drop 0)):=by
  unfold lexA;rw[ξ (by omega),B5];cases mY S.length 0 S<;>rfl
 refine aD (sg rfl (sg rfl (AWp.sub (Sub.own (t:=4) (id:=500) 152 4 rfl rfl) ?_)));refine aA (aF (aK (fun p:Nat×Nat×List Tk=>mk [(0,Go.AM.T S),(3,.one (.vp 3 0)),(4,.one (.hs 500 0 p.2.2.length p.2.2.length)),(5,I .i64 p.1)] [(3,.var 32 [.c (.int .i64 0),.c (.int .i64 0)]),(500,.arr 152 4 (p.2.2.map aG) 0)]) (fun p=>p.1≤S.length∧S.length-p.1≤p.2.1∧p.2.2.length+(S.length-p.1)≤S.length∧lexA S=aTq p.2.2 (mY p.2.1 p.1 (S.drop p.1))) (fun p=>p.2.1) (0,S.length,[]) ⟨ε _,by dsimp only;omega,by dsimp only;simp,hA⟩ sl ?_));rintro⟨i,f,out⟩ ⟨hi,hf,J,q⟩;dsimp only at hi hf J q ⊢;have hout:(out.map aG).length=out.length:=η _;refine aA (sg rfl (aB rfl (fun hb=>?_) (fun hb=>?_)))
 ·have hlt:i<S.length:=by have:=κ hb;omega
  obtain⟨g,rfl⟩:∃g,f=g+1:=⟨f-1,by omega⟩
  obtain⟨c,r,y⟩:∃c r,S.drop i=c::r:=by
   cases h:S.drop i with
   | nil=>
    have:=congrArg List.length h;rw[Bg,length_nil] at this;omega
   | cons c r=>exact⟨c,r,rfl⟩
  have M:(c::r).length=S.length-i:=by rw[←y,Bg]
  rw[χ] at M;have O:=aSp c r (by omega);have U:=aWq c r (by omega);have Y:=yC (c::r);have aa:= @mC c r;have ab:= @u9 c r;rw[y,mY] at q;refine aD (aF (sk 3 rfl ?_));rw[y];refine kc O ?_;refine kz 1 rfl ?_;have E:∀m:Nat,(c::r).drop m=S.drop (i+m):=fun m=>by rw[←y,C1]
  rw[χ] at Y;refine aA (sg rfl (aB rfl (fun hb=>?_) (fun hb=>?_)))
  ·have B:0<fD (c::r):=by have:=κ hb;omega
   rw[ζ B,E] at q;generalize fD (c::r)=m at *;exact aA (agN [] rfl (aH ⟨(i+m,g,out),⟨by dsimp only;omega,by dsimp only;omega,by dsimp only;omega,q⟩,by dsimp only;omega,sl⟩))
  ·have B:¬0<fD (c::r):=by have:=Af hb;omega
   rw[ξ B] at q;refine aD (sk 3 rfl ?_);rw[y];refine kc U ?_;generalize j4 (c::r)=o at *;cases o with
   | error e=>
    dsimp only at q;have he:=ab rfl;rw[q];exact kz 6 rfl (aA (sg rfl (aB rfl (fun _=>sg rfl (aE (aTn trw))) (fun hb=>absurd hb (by simp[he])))))
   | ok p=>
    obtain⟨k,t,v⟩:=p;dsimp only at q;obtain⟨ht1,ac⟩:=aa rfl;rw[χ] at ac;rw[wL,E] at q;refine kz 6 rfl (aA (sg rfl (aB rfl (fun hb=>absurd hb (by decide)) (fun _=>aD (sg rfl (sgh [(1,.all),(2,.all)] rfl (agN [] rfl ?_)))))));have u:out.map aG++[[.int .i64 k,.str t,.int .i64 v,.int .i64 (i:Int)]]=(out++[(⟨k,t,v,i⟩:Tk)]).map aG:=by simp[aG]
    exact⟨(i+t.length,g,out++[⟨k,t,v,i⟩]),⟨by dsimp only;omega,by dsimp only;omega,by dsimp only;rw[θ,Bl];omega,q⟩,by dsimp only;omega,sl (he:=⟨rfl,rfl,Go.AM.hs_ren (by simp) (by simp),rfl,trivial⟩) (hh:=⟨⟨_,rfl,.var rfl⟩,⟨_,rfl,.arrS u⟩,trivial⟩)⟩
 ·have e:i=S.length:=by have:=Af hb;omega
  have hE:mY f i (S.drop i)=.ok [⟨6,[],0,i⟩]:=by
   rw[e,Cc];cases f<;>rfl
  rw[hE] at q;rw[q];have u:out.map aG++[[.int .i64 6,.str [],.int .i64 0,.int .i64 (i:Int)]]=(out++[(⟨6,[],0,i⟩:Tk)]).map aG:=by simp[aG]
  refine aH (sgh [(4,.all)] rfl ?_);subst e;show AWp _ _ _ _ _ _ (fun ex st=>(ex=.normal∨ex=.ret)∧Fin _ _ st _ (aFu (.ok (out++[⟨6,[],0,(S.length:Int)⟩]))) _);unfold aFu;dsimp only;rw[←u];refine AWp.sub (Sub.freeze (id:=500) rfl) (AWp.sub (cv 2 (out.map aG++[[.int .i64 6,.str [],.int .i64 0,.int .i64 (S.length:Int)]])) ?_);exact aE (aTn trw)
end Go.Proofs.YtpmheldmadendaaGreatDoor
namespace Go.Proofs.YtpmheldmadendaaGreatDoor
open Go Go.AM
set_option maxRecDepth 20000
theorem dH {α:Type}{l:List α}{k:Nat}{x:α}(h:l[k]?=some x):l.take (k+1)=l.take k++[x]:=by rw[Bf,h];rfl
def cJ (l:List Str):V:=.one (.c (.sl 1 (l.map b7)))
def aAe (s:Str):List Str→Int→Int
 | [],_=> -1
 | x::l,k=>if s=x then k else aAe s l (k+1)
theorem uO (s:Str):∀(l:List Str) (k:Int),0≤k→(decide (0≤aAe s l k)=decide (s∈l))
 | [],k,_=>by simp[aAe]
 | x::l,k,q=>by
  rw[aAe];split
  ·rename_i h;subst h;simp[q]
  ·rename_i h;rw[uO s l (k+1) (by omega)];simp[h]
theorem aSj (l:List Str) (s:Str) (h:l.length≤600000000000):b9 Tryz.prog 214 [cJ l,Go.AM.T s] [] (I .i64 (aAe s l 0)) []:=by
 refine bP (n:=19) tok Tryz.func214 rfl rfl rfl ?_;refine sg rfl (aA (sg rfl ?_));have r:(l.map b7).length=l.length:=η _;refine aF (aK (fun i:Nat=>mk [(0,cJ l),(1,Go.AM.T s),(7,I .i64 ((l.map b7).length:Int)),(8,I .i64 i)] []) (fun i=>i≤l.length∧aAe s l 0=aAe s (l.drop i) i) (fun i=>l.length-i) 0 ⟨ε _,rfl⟩ sl ?_);intro i ⟨hi,he⟩;refine sg rfl (aA (aB rfl (fun hb=>?_) (fun hb=>?_)))
 ·have q:=ltD hb r;obtain⟨x,hx⟩:=aL q;have y:=aT b7 hx;have hd:l.drop i=x::l.drop (i+1):=by rw[Ay q,(Ai.1 hx).2]
  rw[hd,aAe] at he;refine aD (aA (aF (sg rfl (sgh [(3,.row i (b7 x))] rfl (aB rfl (fun hb=>?_) (fun hb=>?_))))))
  ·have hs:s=x:=κ hb;rw[ζ hs] at he;rw[he];exact sg rfl (aE rtT)
  ·have hs:¬s=x:=Af hb;rw[ξ hs] at he;exact aD (ag [] rfl ⟨i+1,⟨q,he⟩,by dsimp only;omega,sl⟩)
 ·have u:=geD hb r hi;subst u;rw[Cc,aAe] at he;rw[he];exact aH (sg rfl (aE rtT))
theorem pA (l:List Str) (s:Str) (h:l.length≤600000000000):b9 Tryz.prog 179 [cJ l,Go.AM.T s] [] (B (decide (s∈l))) []:=by
 have hi:=aSj l s h;refine bP (n:=9) tok Tryz.func179 rfl rfl rfl ?_;refine sg rfl (sgh [(2,.pc (I .i64 (aAe s l 0)))] rfl ?_);rw[←uO s l 0 (by omega)];exact aE rtT
end Go.Proofs.YtpmheldmadendaaGreatDoor
namespace Go
section
variable {F:Fence}{n:Nat}{P:Program}{b:Frame}{a:Act}{k:List Item}{cs:List Frame}{w:World}{Q:Exit→Act→World→Prop}
theorem fK {c:Code}:step P (lone (b.atR a (.code (.scope c)::k)) cs w)=.next (lone (b.atR a (.code c:: .inScope c::k)) cs w):=
 step_lone_go (by simp[stepG,stepG.exec,Frame.atR])
theorem tP {c:Code}:step P (lone (b.atR a (.inScope c::k)) cs w)=.next (lone (b.atR a k) cs w):=
 step_lone_go (by simp[stepG,stepG.exec,Frame.atR])
def Exit.noJump (Q:Exit→Act→World→Prop):Exit→Act→World→Prop
 | .goto _,_,_=>False
 | e,a,w=>Q e a w
theorem aDz {c:Code}(h:c.wpIn F n P (Exit.noJump Q) a w):(Code.scope c).wpIn F n P Q a w:=by
 intro b k cs E hb y;have h0:(lone (b.atR a (.code (.scope c)::k)) cs w).fenced P F:=fenced_calm hb y rfl;obtain⟨e,r,u,hq,q⟩:=h b (.inScope c::k) cs E hb y;cases e with
 | normal=>exact⟨.normal,r,u,hq,.head h0 fK (StepsIn.trans q (.one (fenced_calm hb y rfl) tP))⟩
 | exit id=>
  have hx:exitTo id (.inScope c::k)=exitTo id k:=by simp[exitTo]
  exact⟨.exit id,r,u,hq,fun k' B=>.head h0 fK (q.1 k' (by rw[hx];exact B)),
   fun I B=>let ⟨k₁,h1,h2⟩:=q.2 I (by rw[hx];exact B);⟨k₁,h1,.head h0 fK h2⟩⟩
 | goto l=>exact hq.elim
 | ret=>exact⟨_,r,u,hq,.of_steps (.one h0 fK) q⟩
 | panic J=>exact⟨_,r,u,hq,.of_steps (.one h0 fK) q⟩
 | outgrown=>exact⟨_,r,u,hq,.of_steps (.one h0 fK) q⟩
end
end Go
namespace Go.AM
open Go
section
variable {ro:Option Nat}{P:Program}{n:Nat}{kf:List Nat}{st:St}{Q:Exit→St→Prop}
theorem aKl {l:Nat}(h:Q .normal st):AWp ro P n kf (.label l) st Q:=fun _ S μ a w _ _ hs q=>wpIn_label (q _ _ S μ a w h hs)
def aP9 (Q:Exit→St→Prop):Exit→St→Prop
 | .goto _,_=>False
 | e,st=>Q e st
theorem aKk {c:Code}(h:AWp ro P n kf c st (aP9 Q)):AWp ro P n kf (.scope c) st Q:=fun G S μ a w Q' r hs u=>
 aDz (h G S μ a w _ r hs fun ex st' S' μ' y w' q s=>by
  cases ex with
  | goto l=>exact q.elim
  | _=>exact u _ st' S' μ' y w' q s)
end
section
variable {QP:Value→Prop}{P:Program}{n:Nat}{ops:Array Oper}{draw:Bool}{k d:Nat}{st:St}{pre:REs}{Q:St→Prop}{o:Oper}{f:FuncId}{xs:Array Operand}{ts:Array TypeId}{ids:List Nat}{args:List V}{res:V}{hin hout:List (Nat×AObj)}
theorem kvG {x:Operand}{caps:List R}{j t:Nat}{want b:Bool}(E:b9 P f (args++caps.map V.one) hin res hout)
  (I:jG QP P n ops draw (k+1) ⟨upd st.e d (some res),iS st.h (outs hout),st.d⟩ ((⟨t::(opr x++c7 xs.toList),ids++keys hin++keys hout⟩,⟨some (d,some res),outs hout⟩)::pre) Q)
  (hb:iN P f:=by exact aJ1 (by kernel_rfl)) (ho:ops[k]?=some o:=by rfl) (J:o.guard=some (j,want):=by rfl) (hj:(ops[j]?).bind (·.dst)=some t:=by rfl) (u:st.e t=some (.one (.c (.bool b))):=by rfl) (hw:b=want:=by first | rfl | assumption) (y:o.op=.call { callee:=.value x,args:=xs,argTypes:=ts }:=by rfl) (hd:o.dst=some d:=by rfl) (B:Nat.blt d n=true:=by rfl) (hx:opv st x=some (.one (.clo f caps)):=by rfl)
  (ha:ArgsV st ids xs.toList args:=by repeat (first | exact .nil | (apply Go.AM.ArgsV.cons rfl;(first | exact .refl | exact .one (.c .nl .nil) | exact .one (.c .sn .nil) | exact .one (.hs rfl (by first | rfl | simp) (by first | rfl | (simp;done) | (simp[Go.AM.take_map];done) | exact Go.AM.take_map.symm) .nil) | exact Go.AM.hs_all rfl rfl (by first | rfl | assumption | (simp;done) | (simp;omega)) (by first | rfl | assumption | (simp;done)) | ((first | apply Go.AM.Conv.pa | apply Go.AM.Conv.agg);repeat (first | exact .nil | apply Go.AM.PureL.c .refl | apply Go.AM.PureL.c .nl | apply Go.AM.PureL.c .sn | (apply Go.AM.PureL.hs;rfl;(first | rfl | simp);(first | rfl | (simp;done) | (simp[Go.AM.take_map];done) | exact Go.AM.take_map.symm))))))))
  (r:gN (fun p=>st.h p.1=some p.2) hin:=by repeat (first | exact trivial | refine⟨rfl,?_⟩)) (q:gN (fun p=>p.1∈keys hin∨st.h p.1=none) hout:=by repeat (first | exact trivial | refine⟨.inr rfl,?_⟩ | refine⟨.inl (by decide),?_⟩ | refine⟨.inl (by repeat (first | exact List.Mem.head _ | apply List.Mem.tail)),?_⟩)) (hok:fI (args++caps.map V.one) hin=true:=by rfl):jG QP P n ops draw k st pre Q:=
 k_ (GStep.yes ho J hj u hw (aHa hin hout hb y hd (j8 B) hx E ha r q hok)) I
end
end Go.AM
