/-
  Texts Am27 to Ls1 in one.
-/
import Derived.Test.YtkhgpgihmphfdaaGreatDoorM5
import Derived.Test.YtkhgpgihmphfdaaGreatDoorProg
import Derived.KernelRfl
import Derived.Laws.RangeString
import Derived.Lib.OthersKept
import Derived.LoopTactic
import Derived.Tactics2
import Derived.Shelf.Spec.SlicesGrow
import Derived.Laws.Runes
import Derived.Laws.MakeOwn
import Derived.Lib.Bytealg
import Derived.IntWalk
import Derived.ControlIn
open List (drop_drop drop_eq_getElem_cons drop_length drop_zero eq_nil_of_length_eq_zero length_append length_cons length_drop length_map length_nil length_pos_iff length_singleton length_take mem_cons mem_cons_of_mem mem_cons_self mem_of_mem_take not_mem_nil take_add_one take_append_drop take_length take_of_length_le take_succ_cons)
open Nat (le_refl le_trans lt_irrefl lt_of_lt_of_le min_eq_left zero_le)
namespace Go.AM
open Go
theorem Ole.arrS {σ:Nat→Nat}{te es fz:Nat}{l q:List (List C)}(h:l=q):Ole σ (.arr te es l fz) (.arr te es q fz):=by subst h;exact .arr
theorem hs_ren {id off a b q r:Nat}(h:a=q) (k:b=r):some (V.one (.hs id off a b))=some (V.ren (fun i=>i) (V.one (.hs id off q r))):=by subst h;subst k;rfl
theorem sl {kf:List Nat}{q:St}{r:List (Nat×V)}{hl:List (Nat×AObj)}
  (he:gG (fun p=>q.e p.1=some (p.2.ren (fun i=>i))) r:=by repeat (first | exact trivial | refine⟨by first | rfl | exact Go.AM.hs_ren (by first | (simp;done) | (simp;omega)) (by first | (simp;done) | (simp;omega)),?_⟩))
  (hh:gG (fun p=>∃o,q.h p.1=some o∧Ole (fun i=>i) o p.2) hl:=by repeat (first | exact trivial | refine⟨⟨_,rfl,by first | exact Go.AM.Ole.arr | exact Go.AM.Ole.var rfl | exact Go.AM.Ole.map | exact Go.AM.Ole.rarr rfl | exact Go.AM.Ole.arr1 | exact Go.AM.Ole.arrS (by first | assumption | (simp;done) | (simp;rfl) | (simp;omega)) | exact Go.AM.Ole.arrE (by first | assumption | (simp;done) | (simp;rfl) | (simp;omega)) | exact Go.AM.Ole.var (by first | (simp[Go.AM.R.renL,Go.AM.R.ren];done) | (simp[Go.AM.R.renL,Go.AM.R.ren];omega)) | exact Go.AM.Ole.mapE (by first | assumption | (simp;done) | (simp;rfl) | (simp;omega))⟩,?_⟩))
  (hok:(aWo kf (fun i=>i) r hl&&eqL [] q.d)=true:=by rfl):Sub kf (mk r hl) q:=Sub.list (fun i=>i) he hh hok
theorem take_all {α:Type}{l:List α}{n:Nat}(h:n=l.length):l=(l.drop 0).take n:=by rw[h,B8,Aw]
theorem ltD {i n:Nat}{l:List (List C)}(h:decide ((i:Int)<(l.length:Int))=true) (e:l.length=n):i<n:=by
 have:(i:Int)<(l.length:Int):=by simpa using h
 omega
theorem geD {i n:Nat}{l:List (List C)}(h:decide ((i:Int)<(l.length:Int))=false) (e:l.length=n) (hi:i≤n):i=n:=by
 have:¬(i:Int)<(l.length:Int):=by simpa using h
 omega
section
variable {T:TT}{fn:Func}{st:St}{hin hout:List (Nat×AObj)}{res:V}
theorem rtT {t:Nat}{v:V}{ids:List Nat}(q:fn.results.toList=[.tmp t]:=by rfl) (r:st.e t=some v:=by rfl)
  (hc:Conv st.h ids v res:=by first | exact .refl | exact .one (.c .nl .nil) | ((first | apply Go.AM.Conv.pa | apply Go.AM.Conv.agg);repeat (first | exact .nil | apply Go.AM.PureL.c .refl | apply Go.AM.PureL.c .nl | (apply Go.AM.PureL.hs;rfl;(first | rfl | assumption | simp);(first | rfl | exact Go.AM.take_all (by first | assumption | rfl | (simp;done)) | exact Go.AM.take_map.symm)))))
  (ho:gG (fun p=>∃o,st.h p.1=some o∧Ole (fun i=>i) o p.2) hout:=by repeat (first | exact trivial | refine⟨⟨_,rfl,by first | exact Go.AM.Ole.arr | exact Go.AM.Ole.var rfl | exact Go.AM.Ole.map | exact Go.AM.Ole.rarr rfl | exact Go.AM.Ole.arr1 | exact Go.AM.Ole.arrS (by first | assumption | (simp;done) | (simp;rfl) | (simp;omega)) | exact Go.AM.Ole.arrE (by first | assumption | (simp;done) | (simp;rfl) | (simp;omega)) | exact Go.AM.Ole.var (by first | (simp[Go.AM.R.renL,Go.AM.R.ren];done) | (simp[Go.AM.R.renL,Go.AM.R.ren];omega)) | exact Go.AM.Ole.mapE (by first | assumption | (simp;done) | (simp;rfl) | (simp;omega))⟩,?_⟩))
  (hok:(subset res.refs (keys hout)&&subset (gS hout) (keys hout)&&distinct (keys hout)&&subset (keys hin) (keys hout)&&(hin.all fun p=>p.2.plain)&&(hout.all fun p=>p.2.plain))=true:=by rfl):(Exit.ret=.normal∨Exit.ret=.ret)∧Fin T fn st hin res hout:=
 ⟨.inr rfl,⟨[v],[res],by rw[q];exact .tmp r .nil,.cons hc .nil,rfl⟩,ho,hok⟩
theorem rtC {tr:Tr}{a t:Nat}{i:TI}{id off tv:Nat}{cells:List R}{v:V}{ids:List Nat}(hw:tr.wf=true) (q:fn.results.toList=[.cell a t]:=by rfl) (hi:tr.get t=some i:=by rfl) (ha:st.e a=some (.one (.vp id off)):=by rfl) (hh:st.h id=some (.var tv cells):=by rfl) (hb:Nat.ble (off+i.size) cells.length=true:=by rfl) (r:jV i ((cells.drop off).take i.size)=some v:=by rfl)
  (hc:Conv st.h ids v res:=by first | exact .refl | exact .one (.c .nl .nil) | ((first | apply Go.AM.Conv.pa | apply Go.AM.Conv.agg);repeat (first | exact .nil | apply Go.AM.PureL.c .refl | apply Go.AM.PureL.c .nl | (apply Go.AM.PureL.hs;rfl;(first | rfl | assumption | simp);(first | rfl | exact Go.AM.take_all (by first | assumption | rfl | (simp;done)) | exact Go.AM.take_map.symm)))))
  (ho:gG (fun p=>∃o,st.h p.1=some o∧Ole (fun i=>i) o p.2) hout:=by repeat (first | exact trivial | refine⟨⟨_,rfl,by first | exact Go.AM.Ole.arr | exact Go.AM.Ole.var rfl | exact Go.AM.Ole.map | exact Go.AM.Ole.rarr rfl | exact Go.AM.Ole.arr1 | exact Go.AM.Ole.arrS (by first | assumption | (simp;done) | (simp;rfl) | (simp;omega)) | exact Go.AM.Ole.arrE (by first | assumption | (simp;done) | (simp;rfl) | (simp;omega)) | exact Go.AM.Ole.var (by first | (simp[Go.AM.R.renL,Go.AM.R.ren];done) | (simp[Go.AM.R.renL,Go.AM.R.ren];omega)) | exact Go.AM.Ole.mapE (by first | assumption | (simp;done) | (simp;rfl) | (simp;omega))⟩,?_⟩))
  (hok:(subset res.refs (keys hout)&&subset (gS hout) (keys hout)&&distinct (keys hout)&&subset (keys hin) (keys hout)&&(hin.all fun p=>p.2.plain)&&(hout.all fun p=>p.2.plain))=true:=by rfl):(Exit.ret=.normal∨Exit.ret=.ret)∧Fin tr.flat fn st hin res hout:=
 ⟨.inr rfl,⟨[v],[res],by rw[q];exact .cell ha (Tr.get_ok hw hi) hh hb r .nil,.cons hc .nil,rfl⟩,ho,hok⟩
end
end Go.AM
namespace Go.AM
open Go
theorem Sub.varPure {kf:List Nat}{st:St}{x tv:Nat}{cells:List R}{ids:List Nat}{cs:List C}(h:st.h x=some (.var tv cells)) (hp:PureL st.h ids cells cs):Sub kf ⟨st.e,upd st.h x (some (.var tv (cs.map R.c))),st.d⟩ st:=by
 intro G n S μ a w _ hs;have hi:=hs.inv;obtain⟨b,vs,g1,g2,g3,g4⟩:=hi.obj x _ h
 have u:Evolve S μ st.h S μ (upd st.h x (some (.var tv (cs.map R.c)))):=⟨S.le_refl,fun j y r=>by
  by_cases q:j=x
  ·subst q;rw[h] at r;cases r;exact⟨_,aH _ _ _,by simp[AObj.succ]⟩
  ·exact⟨y,by rw[bJ _ _ _ q];exact r,y.succ_refl rfl⟩⟩
 have hold:∀j y,upd st.h x (some (.var tv (cs.map R.c))) j=some y→∃E,st.h j=some E:=fun j y r=>by
  by_cases q:j=x
  ·subst q;exact⟨_,h⟩
  ·rw[bJ _ _ _ q] at r;exact⟨_,r⟩
 refine⟨S,μ,⟨⟨hi.holds,fun j y r=>?_,fun i j y E b c c' A r hm I=>?_,fun i y b c A hm=>?_,hi.frame,hi.sle,hi.sto,hi.evo.trans u,hi.fre⟩,hs.size,hs.defers.evolve u,fun s v e=>aL.evolve u v _ (hs.env s v e)⟩⟩
 ·by_cases q:j=x
  ·subst q;have B:some (AObj.var tv (cs.map R.c))=some y:=by rw[←r];exact(aH _ _ _).symm
   cases B;exact⟨b,vs,g1,g2,(hp.rel (fun _ _=>rfl) hi.obj g3).toR,g4⟩
  ·have B:st.h j=some y:=by rw[←r];exact(bJ _ _ _ q).symm
   exact(hi.obj j y B).evolve u rfl fun _ _ _=>⟨rfl,fun _=>rfl,rfl⟩
 ·obtain⟨_,h1⟩:=hold _ _ A;obtain⟨_,h2⟩:=hold _ _ r;exact hi.inj i j _ _ b c c' h1 h2 hm I
 ·obtain⟨_,h1⟩:=hold _ _ A;exact hi.own i _ b c h1 hm
theorem vp {kf:List Nat}{st:St}(x:Nat) {tv:Nat}{cells:List R}(cs:List C) {ids:List Nat}(h:st.h x=some (.var tv cells):=by rfl)
  (hp:PureL st.h ids cells cs:=by repeat (first | exact .nil | apply Go.AM.PureL.c .refl | apply Go.AM.PureL.c .nl | apply Go.AM.PureL.c .sn | (apply Go.AM.PureL.hs;rfl;(first | rfl | assumption | (simp;done) | (simp;omega));(first | rfl | exact Go.AM.take_all (by first | assumption | rfl | (simp;done) | (simp;omega)) | exact Go.AM.take_map.symm)))):Sub kf ⟨st.e,upd st.h x (some (.var tv (cs.map R.c))),st.d⟩ st:=Sub.varPure h hp
theorem cv {kf:List Nat}{st:St}(t:Nat) {id te es n sz:Nat}{l:List (List C)}(q:List (List C)) (h:st.e t=some (.one (.hs id 0 n sz)):=by rfl) (hh:st.h id=some (.arr te es l 2):=by rfl) (h1:n=l.length:=by first | rfl | assumption | (simp;done) | (simp;omega)) (h2:sz=l.length:=by first | rfl | assumption | (simp;done) | (simp;omega)) (r:l=q:=by first | rfl | assumption | (simp;done)):Sub kf ⟨upd st.e t (some (.one (.c (.sl es q)))),st.h,st.d⟩ st:=by
 subst r;exact Sub.conv h (.one (.hs hh h2 (by rw[h1,B8,Aw]) .nil))
end Go.AM
namespace Go.Proofs.YtkhgpgihmphfdaaGreatDoor
open Go Go.AM
def zl_:Tr:=.leaf none
def zl0:Tr:=.leaf (some ⟨.fn,1,8,[.zv 1]⟩)
def zl1:Tr:=.leaf (some ⟨.int .u8,1,1,[.int .u8 0]⟩)
def zl2:Tr:=.leaf (some ⟨.int .i64,1,8,[.int .i64 0]⟩)
def zl3:Tr:=.leaf (some ⟨.str,1,16,[.str []]⟩)
def zl4:Tr:=.leaf (some ⟨.int .u64,1,8,[.int .u64 0]⟩)
def zl5:Tr:=.leaf (some ⟨.int .i32,1,4,[.int .i32 0]⟩)
def zl6:Tr:=.leaf (some ⟨.st [(0,3),(1,9),(2,3),(3,3)],4,40,[.int .i64 0,.str [],.int .i64 0,.int .i64 0]⟩)
def tr:Tr:=
 .node 137 (.node 68 (.node 34 (.node 17 (.node 8 (.node 4 (.node 2 (.node 1 zl_ zl0) (.node 1 zl2 zl2)) (.node 2 (.node 1 (.leaf (some ⟨.bool,1,1,[.bool false]⟩)) zl1) (.node 1 zl1 (.leaf (some ⟨.st [(0,2),(1,3),(2,4),(3,6)],4,24,[.int .i64 0,.int .i64 0,.bool false,.int .u8 0]⟩))))) (.node 4 (.node 2 (.node 1 (.leaf (some ⟨.st [(0,2),(1,3),(2,4),(3,6)],4,24,[.int .i64 0,.int .i64 0,.bool false,.int .u8 0]⟩)) zl3) (.node 1 zl3 zl3)) (.node 2 (.node 1 zl4 (.leaf (some ⟨.st [(0,9),(1,12)],2,24,[.str [],.int .u64 0]⟩))) (.node 1 (.leaf (some ⟨.st [(0,9),(1,12)],2,24,[.str [],.int .u64 0]⟩)) (.node 1 (.leaf (some ⟨.pt 263,1,8,[.np]⟩)) (.leaf (some ⟨.pt 266,1,8,[.np]⟩))))))) (.node 8 (.node 4 (.node 2 (.node 1 (.leaf (some ⟨.pt 274,1,8,[.np]⟩)) (.leaf (some ⟨.st [(0,17)],1,8,[.np]⟩))) (.node 1 (.leaf (some ⟨.st [(0,17)],1,8,[.np]⟩)) zl_)) (.node 2 (.node 1 zl5 (.leaf (some ⟨.sl 3,1,24,[.nl]⟩))) (.node 1 zl0 (.leaf (some ⟨.sl 9,1,24,[.nl]⟩))))) (.node 4 (.node 2 (.node 1 (.leaf (some ⟨.sl 81,1,24,[.nl]⟩)) (.leaf (some ⟨.sl 87,1,24,[.nl]⟩))) (.node 1 (.leaf (some ⟨.sl 90,1,24,[.nl]⟩)) (.leaf (some ⟨.sl 109,1,24,[.nl]⟩)))) (.node 2 (.node 1 (.leaf (some ⟨.st [(0,25),(1,26),(2,27),(3,28)],4,96,[.nl,.nl,.nl,.nl]⟩)) (.leaf (some ⟨.st [(0,25),(1,26),(2,27),(3,28)],4,96,[.nl,.nl,.nl,.nl]⟩))) (.node 1 zl2 (.node 1 (.leaf (some ⟨.st [(0,31),(1,3)],2,16,[.int .i64 0,.int .i64 0]⟩)) (.leaf (some ⟨.st [(0,31),(1,3)],2,16,[.int .i64 0,.int .i64 0]⟩)))))))) (.node 17 (.node 8 (.node 4 (.node 2 (.node 1 zl_ zl0) (.node 1 zl0 (.leaf (some ⟨.sl 47,1,24,[.nl]⟩)))) (.node 2 (.node 1 (.leaf (some ⟨.sl 51,1,24,[.nl]⟩)) (.leaf (some ⟨.sl 84,1,24,[.nl]⟩))) (.node 1 (.leaf (some ⟨.sl 98,1,24,[.nl]⟩)) (.leaf (some ⟨.sl 43,1,24,[.nl]⟩))))) (.node 4 (.node 2 (.node 1 (.leaf (some ⟨.st [(0,3),(1,3),(2,9),(3,41)],4,56,[.int .i64 0,.int .i64 0,.str [],.nl]⟩)) (.leaf (some ⟨.st [(0,3),(1,3),(2,9),(3,41)],4,56,[.int .i64 0,.int .i64 0,.str [],.nl]⟩))) (.node 1 (.leaf (some ⟨.st [(0,24),(1,39),(2,40),(3,43)],7,128,[.nl,.nl,.nl,.int .i64 0,.int .i64 0,.str [],.nl]⟩)) (.leaf (some ⟨.st [(0,24),(1,39),(2,40),(3,43)],7,128,[.nl,.nl,.nl,.int .i64 0,.int .i64 0,.str [],.nl]⟩)))) (.node 2 (.node 1 (.leaf (some ⟨.st [(0,3),(1,3),(2,3),(3,9),(4,37),(5,38),(6,28),(7,45),(14,41)],15,264,[.int .i64 0,.int .i64 0,.int .i64 0,.str [],.nl,.nl,.nl,.nl,.nl,.nl,.int .i64 0,.int .i64 0,.str [],.nl,.nl]⟩)) (.leaf (some ⟨.st [(0,3),(1,3),(2,3),(3,9),(4,37),(5,38),(6,28),(7,45),(14,41)],15,264,[.int .i64 0,.int .i64 0,.int .i64 0,.str [],.nl,.nl,.nl,.nl,.nl,.nl,.int .i64 0,.int .i64 0,.str [],.nl,.nl]⟩))) (.node 1 zl_ (.node 1 zl0 (.leaf (some ⟨.st [(0,3),(1,3),(2,3),(3,9),(4,38),(5,43),(9,41)],10,144,[.int .i64 0,.int .i64 0,.int .i64 0,.str [],.nl,.int .i64 0,.int .i64 0,.str [],.nl,.nl]⟩))))))) (.node 8 (.node 4 (.node 2 (.node 1 (.leaf (some ⟨.st [(0,3),(1,3),(2,3),(3,9),(4,38),(5,43),(9,41)],10,144,[.int .i64 0,.int .i64 0,.int .i64 0,.str [],.nl,.int .i64 0,.int .i64 0,.str [],.nl,.nl]⟩)) zl_) (.node 1 zl0 zl0)) (.node 2 (.node 1 zl0 zl0) (.node 1 zl0 (.leaf (some ⟨.sl 62,1,24,[.nl]⟩))))) (.node 4 (.node 2 (.node 1 zl_ zl0) (.node 1 zl6 zl6)) (.node 2 (.node 1 zl0 zl0) (.node 1 zl0 (.node 1 (.leaf (some ⟨.pt 122,1,8,[.np]⟩)) zl0))))))) (.node 34 (.node 17 (.node 8 (.node 4 (.node 2 (.node 1 zl0 zl0) (.node 1 zl0 zl0)) (.node 2 (.node 1 zl0 (.leaf (some ⟨.pt 78,1,8,[.np]⟩))) (.node 1 zl0 zl0))) (.node 4 (.node 2 (.node 1 (.leaf (some ⟨.sl 131,1,24,[.nl]⟩)) (.leaf (some ⟨.st [(0,76),(1,3),(2,33)],4,48,[.nl,.int .i64 0,.int .i64 0,.int .i64 0]⟩))) (.node 1 (.leaf (some ⟨.st [(0,76),(1,3),(2,33)],4,48,[.nl,.int .i64 0,.int .i64 0,.int .i64 0]⟩)) (.leaf (some ⟨.sl 95,1,24,[.nl]⟩)))) (.node 2 (.node 1 (.leaf (some ⟨.st [(0,9),(1,3),(2,24),(3,39),(4,79)],5,96,[.str [],.int .i64 0,.nl,.nl,.nl]⟩)) (.leaf (some ⟨.st [(0,9),(1,3),(2,24),(3,39),(4,79)],5,96,[.str [],.int .i64 0,.nl,.nl,.nl]⟩))) (.node 1 zl0 (.node 1 (.leaf (some ⟨.st [(0,39)],1,24,[.nl]⟩)) (.leaf (some ⟨.st [(0,39)],1,24,[.nl]⟩))))))) (.node 8 (.node 4 (.node 2 (.node 1 (.leaf (some ⟨.sl 100,1,24,[.nl]⟩)) (.leaf (some ⟨.st [(0,9),(1,3),(2,9),(3,84),(4,24),(5,85)],6,112,[.str [],.int .i64 0,.str [],.nl,.nl,.nl]⟩))) (.node 1 (.leaf (some ⟨.st [(0,9),(1,3),(2,9),(3,84),(4,24),(5,85)],6,112,[.str [],.int .i64 0,.str [],.nl,.nl,.nl]⟩)) zl0)) (.node 2 (.node 1 (.leaf (some ⟨.st [(0,9),(1,3),(2,9),(3,24),(4,40),(5,28)],6,112,[.str [],.int .i64 0,.str [],.nl,.nl,.nl]⟩)) (.leaf (some ⟨.st [(0,9),(1,3),(2,9),(3,24),(4,40),(5,28)],6,112,[.str [],.int .i64 0,.str [],.nl,.nl,.nl]⟩))) (.node 1 zl0 zl0))) (.node 4 (.node 2 (.node 1 zl0 (.leaf (some ⟨.st [(0,9),(1,3),(2,41)],3,48,[.str [],.int .i64 0,.nl]⟩))) (.node 1 (.leaf (some ⟨.st [(0,9),(1,3),(2,41)],3,48,[.str [],.int .i64 0,.nl]⟩)) zl0)) (.node 2 (.node 1 (.leaf (some ⟨.st [(0,9),(1,43)],5,72,[.str [],.int .i64 0,.int .i64 0,.str [],.nl]⟩)) (.leaf (some ⟨.st [(0,9),(1,43)],5,72,[.str [],.int .i64 0,.int .i64 0,.str [],.nl]⟩))) (.node 1 (.leaf (some ⟨.st [(0,9),(1,3),(2,45)],9,152,[.str [],.int .i64 0,.nl,.nl,.nl,.int .i64 0,.int .i64 0,.str [],.nl]⟩)) (.node 1 (.leaf (some ⟨.st [(0,9),(1,3),(2,45)],9,152,[.str [],.int .i64 0,.nl,.nl,.nl,.int .i64 0,.int .i64 0,.str [],.nl]⟩)) zl0)))))) (.node 17 (.node 8 (.node 4 (.node 2 (.node 1 zl0 zl0) (.node 1 zl0 zl0)) (.node 2 (.node 1 zl0 zl0) (.node 1 (.leaf (some ⟨.st [(0,9),(1,3),(2,4),(3,45),(10,47),(25,45),(32,3)],33,560,[.str [],.int .i64 0,.bool false,.nl,.nl,.nl,.int .i64 0,.int .i64 0,.str [],.nl,.int .i64 0,.int .i64 0,.int .i64 0,.str [],.nl,.nl,.nl,.nl,.nl,.nl,.int .i64 0,.int .i64 0,.str [],.nl,.nl,.nl,.nl,.nl,.int .i64 0,.int .i64 0,.str [],.nl,.int .i64 0]⟩)) (.leaf (some ⟨.st [(0,9),(1,3),(2,4),(3,45),(10,47),(25,45),(32,3)],33,560,[.str [],.int .i64 0,.bool false,.nl,.nl,.nl,.int .i64 0,.int .i64 0,.str [],.nl,.int .i64 0,.int .i64 0,.int .i64 0,.str [],.nl,.nl,.nl,.nl,.nl,.nl,.int .i64 0,.int .i64 0,.str [],.nl,.nl,.nl,.nl,.nl,.int .i64 0,.int .i64 0,.str [],.nl,.int .i64 0]⟩))))) (.node 4 (.node 2 (.node 1 zl0 zl0) (.node 1 zl0 zl0)) (.node 2 (.node 1 zl_ zl0) (.node 1 zl0 (.node 1 zl0 (.leaf (some ⟨.pt 168,1,8,[.np]⟩))))))) (.node 9 (.node 4 (.node 2 (.node 1 zl0 zl0) (.node 1 (.leaf (some ⟨.st [(0,22),(1,3)],2,32,[.nl,.int .i64 0]⟩)) (.leaf (some ⟨.st [(0,22),(1,3)],2,32,[.nl,.int .i64 0]⟩)))) (.node 2 (.node 1 zl0 zl0) (.node 1 (.leaf (some ⟨.sl 4,1,24,[.nl]⟩)) (.node 1 zl0 zl0)))) (.node 4 (.node 2 (.node 1 zl0 zl_) (.node 1 zl0 zl6)) (.node 2 (.node 1 zl0 zl0) (.node 1 zl0 (.node 1 zl0 zl0)))))))) (.node 69 (.node 34 (.node 17 (.node 8 (.node 4 (.node 2 (.node 1 zl_ zl0) (.node 1 zl0 zl0)) (.node 2 (.node 1 zl0 zl0) (.node 1 (.leaf (some ⟨.pt 146,1,8,[.np]⟩)) (.leaf (some ⟨.sl 5,1,24,[.nl]⟩))))) (.node 4 (.node 2 (.node 1 (.leaf (some ⟨.st [(0,143),(1,144)],2,32,[.np,.nl]⟩)) (.leaf (some ⟨.st [(0,143),(1,144)],2,32,[.np,.nl]⟩))) (.node 1 zl0 zl_)) (.node 2 (.node 1 zl_ zl_) (.node 1 zl0 (.node 1 zl0 zl0))))) (.node 8 (.node 4 (.node 2 (.node 1 zl0 zl_) (.node 1 zl0 zl0)) (.node 2 (.node 1 zl_ zl0) (.node 1 zl0 zl0))) (.node 4 (.node 2 (.node 1 (.leaf (some ⟨.st [(0,33)],2,16,[.int .i64 0,.int .i64 0]⟩)) (.leaf (some ⟨.st [(0,33)],2,16,[.int .i64 0,.int .i64 0]⟩))) (.node 1 zl_ (.leaf (some ⟨.st [(0,58),(1,3)],2,32,[.nl,.int .i64 0]⟩)))) (.node 2 (.node 1 (.leaf (some ⟨.st [(0,58),(1,3)],2,32,[.nl,.int .i64 0]⟩)) (.leaf (some ⟨.st [(0,166)],2,32,[.nl,.int .i64 0]⟩))) (.node 1 (.leaf (some ⟨.st [(0,166)],2,32,[.nl,.int .i64 0]⟩)) (.node 1 zl0 zl0)))))) (.node 17 (.node 8 (.node 4 (.node 2 (.node 1 zl0 zl0) (.node 1 (.leaf (some ⟨.pt 85,1,8,[.np]⟩)) (.leaf (some ⟨.pt 28,1,8,[.np]⟩)))) (.node 2 (.node 1 zl0 (.leaf (some ⟨.sl 22,1,24,[.nl]⟩))) (.node 1 zl0 zl0))) (.node 4 (.node 2 (.node 1 zl0 zl_) (.node 1 zl0 zl0)) (.node 2 (.node 1 zl0 zl0) (.node 1 zl0 (.node 1 zl0 (.leaf (some ⟨.st [(0,43),(4,40),(5,24),(6,3),(7,33)],9,128,[.int .i64 0,.int .i64 0,.str [],.nl,.nl,.nl,.int .i64 0,.int .i64 0,.int .i64 0]⟩))))))) (.node 9 (.node 4 (.node 2 (.node 1 (.leaf (some ⟨.st [(0,43),(4,40),(5,24),(6,3),(7,33)],9,128,[.int .i64 0,.int .i64 0,.str [],.nl,.nl,.nl,.int .i64 0,.int .i64 0,.int .i64 0]⟩)) zl0) (.node 1 zl0 zl0)) (.node 2 (.node 1 zl0 (.leaf (some ⟨.pt 5,1,8,[.np]⟩))) (.node 1 zl0 (.node 1 zl0 zl0)))) (.node 4 (.node 2 (.node 1 zl0 zl0) (.node 1 zl0 (.leaf (some ⟨.pt 166,1,8,[.np]⟩)))) (.node 2 (.node 1 zl0 zl0) (.node 1 zl0 (.node 1 zl0 zl0))))))) (.node 34 (.node 17 (.node 8 (.node 4 (.node 2 (.node 1 zl0 zl0) (.node 1 zl0 zl0)) (.node 2 (.node 1 zl0 zl_) (.node 1 zl0 zl0))) (.node 4 (.node 2 (.node 1 zl0 zl0) (.node 1 zl_ zl0)) (.node 2 (.node 1 zl0 zl0) (.node 1 zl0 (.node 1 zl_ zl4))))) (.node 8 (.node 4 (.node 2 (.node 1 zl0 zl0) (.node 1 zl_ zl0)) (.node 2 (.node 1 zl_ zl0) (.node 1 zl0 zl0))) (.node 4 (.node 2 (.node 1 zl_ zl0) (.node 1 zl_ zl0)) (.node 2 (.node 1 zl_ zl0) (.node 1 zl0 (.node 1 zl0 zl0)))))) (.node 17 (.node 8 (.node 4 (.node 2 (.node 1 zl0 zl0) (.node 1 zl_ (.leaf (some ⟨.int .u32,1,4,[.int .u32 0]⟩)))) (.node 2 (.node 1 zl_ zl0) (.node 1 zl4 zl0))) (.node 4 (.node 2 (.node 1 zl0 zl_) (.node 1 zl0 zl0)) (.node 2 (.node 1 zl_ zl0) (.node 1 zl0 (.node 1 zl0 zl0))))) (.node 9 (.node 4 (.node 2 (.node 1 zl0 zl_) (.node 1 zl_ zl0)) (.node 2 (.node 1 zl0 (.leaf (some ⟨.st [(0,17),(1,17),(2,17),(3,9)],4,40,[.np,.np,.np,.str []]⟩))) (.node 1 (.leaf (some ⟨.st [(0,17),(1,17),(2,17),(3,9)],4,40,[.np,.np,.np,.str []]⟩)) (.node 1 (.leaf (some ⟨.ar 0 16,0,0,[]⟩)) (.leaf (some ⟨.st [(0,264)],0,0,[]⟩)))))) (.node 4 (.node 2 (.node 1 (.leaf (some ⟨.st [(0,264)],0,0,[]⟩)) zl0) (.node 1 zl1 zl1)) (.node 2 (.node 1 zl0 zl5) (.node 1 zl5 (.node 1 (.leaf (some ⟨.st [(0,12),(1,12),(2,243),(3,268),(4,5),(5,5),(6,269),(7,270),(8,193),(9,271),(10,272)],11,48,[.int .u64 0,.int .u64 0,.int .u32 0,.int .u8 0,.int .u8 0,.int .u8 0,.int .u8 0,.zv 1,.np,.int .i32 0,.int .i32 0]⟩)) (.leaf (some ⟨.st [(0,12),(1,12),(2,243),(3,268),(4,5),(5,5),(6,269),(7,270),(8,193),(9,271),(10,272)],11,48,[.int .u64 0,.int .u64 0,.int .u32 0,.int .u8 0,.int .u8 0,.int .u8 0,.int .u8 0,.zv 1,.np,.int .i32 0,.int .i32 0]⟩))))))))))
theorem trw:tr.wf=true:=by kernel_rfl
theorem tok:Tok Tryz.prog tr.flat:=by unfold Tok;kernel_rfl
theorem tg {t:Nat}{i:TI}(h:tr.get t=some i):tr.flat[t]?=some (some i):=Tr.get_ok trw h
theorem mixed:Tryz.prog.follows .mixedOrders=true:=by kernel_rfl
section
variable {QP:Value→Prop}{ro:Option Nat}{n:Nat}{ops:Array Oper}{draw:Bool}{k k':Nat}{e:Nat→Option V}{h0:c8}{d0:List Nat}{st':St}{pre pre':REs}{tr':Tr}{ob:List Prop}{kf:List Nat}{id:Nat}
theorem ag {Q:Exit→St→Prop}(hs:List (Nat×Hn)) (h:tG Tryz.prog tr true false n ops.toList hs 1000 0 ops.toList e h0 d0 [] []=some (st',k',pre',ob)) (hq:Q .normal st')
  (hc:gL ob:=by repeat (first | exact trivial | refine⟨by first | omega | assumption | exact⟨by kernel_rfl,by assumption⟩ | rfl | (simp only[Bl,List.length_nil];omega) | (simp;done) | (simp;omega),?_⟩)) (h1:Nat.beq k' ops.size=true:=by rfl) (h2:(!draw || (cR (preds ops) pre'.reverse []&&dU ops))=true:=by kernel_rfl):AWp ro Tryz.prog n kf (.region id ops draw) ⟨e,h0,d0⟩ Q:=
 aOt mixed trw tok h hc h1 h2 hq
theorem agN {Q:Exit→St→Prop}(hs:List (Nat×Hn)) (h:tG Tryz.prog tr true true n ops.toList hs 1000 0 ops.toList e h0 d0 [] []=some (st',k',pre',ob)) (hq:Q .normal st')
  (hc:gL ob:=by repeat (first | exact trivial | refine⟨by first | omega | assumption | exact⟨by kernel_rfl,by assumption⟩ | rfl | (simp only[Bl,List.length_nil];omega) | (simp;done) | (simp;omega),?_⟩)) (h1:Nat.beq k' ops.size=true:=by rfl) (h2:(!draw || (cR (preds ops) pre'.reverse []&&dU ops))=true:=by kernel_rfl):AWp ro Tryz.prog n kf (.region id ops draw) ⟨e,h0,d0⟩ Q:=
 aOt mixed trw tok h hc h1 h2 hq
theorem ak {Q:St→Prop}(m:Nat) (hs:List (Nat×Hn)) (h:tG Tryz.prog tr true false n ops.toList hs m k (ops.toList.drop k) e h0 d0 pre []=some (st',k',pre',ob)) (q:iV QP Tryz.prog n ops draw k' st' pre' Q)
  (hc:gL ob:=by repeat (first | exact trivial | refine⟨by first | omega | assumption | exact⟨by kernel_rfl,by assumption⟩ | rfl | (simp only[Bl,List.length_nil];omega) | (simp;done) | (simp;omega),?_⟩)):iV QP Tryz.prog n ops draw k ⟨e,h0,d0⟩ pre Q:=
 ax_ m trw tok h hc q
theorem akN {Q:St→Prop}(m:Nat) (hs:List (Nat×Hn)) (h:tG Tryz.prog tr true true n ops.toList hs m k (ops.toList.drop k) e h0 d0 pre []=some (st',k',pre',ob)) (q:iV QP Tryz.prog n ops draw k' st' pre' Q)
  (hc:gL ob:=by repeat (first | exact trivial | refine⟨by first | omega | assumption | exact⟨by kernel_rfl,by assumption⟩ | rfl | (simp only[Bl,List.length_nil];omega) | (simp;done) | (simp;omega),?_⟩)):iV QP Tryz.prog n ops draw k ⟨e,h0,d0⟩ pre Q:=
 ax_ m trw tok h hc q
theorem agF {Q:Exit→St→Prop}{u:Nat→Option V}{q:c8}{d1:List Nat}{r:List Prop}{res:Res}{L:List (Nat×Option V)}(m:Nat) (hs:List (Nat×Hn)) (g1:tG Tryz.prog tr true false n ops.toList hs m 0 ops.toList e h0 d0 [] []=some (⟨u,q,d1⟩,k',pre',r))
  (g2:nR Tryz.prog tr true false n ops.toList hs (aSs (ops.toList.drop k')) 1000 k' (ops.toList.drop k') u q d1 [] pre' r=some res) (g3:r6 res (aSs (ops.toList.drop k'))=some L) (hq:Q .normal ⟨mB u L,q,d1⟩)
  (ho:res.obs:=by repeat (first | exact trivial | refine⟨fun _=>?_,fun _=>?_⟩ | refine⟨by first | omega | assumption | exact⟨by kernel_rfl,by assumption⟩ | rfl | (simp only[Bl,List.length_nil];omega) | (simp;done) | (simp;omega),?_⟩)) (y:res.good ops draw=true:=by kernel_rfl):AWp ro Tryz.prog n kf (.region id ops draw) ⟨e,h0,d0⟩ Q:=
 aSc m mixed trw tok g1 g2 g3 ho y hq
theorem az {Q:St→Prop}(hq:Q ⟨e,h0,d0⟩) (h1:Nat.beq k ops.size=true:=by rfl) (h2:(!draw || (cR (preds ops) pre.reverse []&&dU ops))=true:=by kernel_rfl):iV QP Tryz.prog n ops draw k ⟨e,h0,d0⟩ pre Q:=z_ h1 h2 hq
theorem sgh {Q:Exit→St→Prop}{y:Code}(hs:List (Nat×Hn)) (h:tG Tryz.prog tr true false n ops.toList hs 1000 0 ops.toList e h0 d0 [] []=some (st',k',pre',ob)) (hq:AWp ro Tryz.prog n kf y st' Q)
  (hc:gL ob:=by repeat (first | exact trivial | refine⟨by first | omega | assumption | exact⟨by kernel_rfl,by assumption⟩ | rfl | (simp only[Bl,List.length_nil];omega) | (simp;done) | (simp;omega),?_⟩)) (h1:Nat.beq k' ops.size=true:=by rfl) (h2:(!draw || (cR (preds ops) pre'.reverse []&&dU ops))=true:=by kernel_rfl):AWp ro Tryz.prog n kf (.seq (.region id ops draw) y) ⟨e,h0,d0⟩ Q:=
 aA (ag hs h hq hc h1 h2)
theorem sg {Q:Exit→St→Prop}{y:Code}(h:tG Tryz.prog tr true false n ops.toList [] 1000 0 ops.toList e h0 d0 [] []=some (st',k',pre',ob)) (hq:AWp ro Tryz.prog n kf y st' Q)
  (hc:gL ob:=by repeat (first | exact trivial | refine⟨by first | omega | assumption | exact⟨by kernel_rfl,by assumption⟩ | rfl | (simp only[Bl,List.length_nil];omega) | (simp;done) | (simp;omega),?_⟩)) (h1:Nat.beq k' ops.size=true:=by rfl) (h2:(!draw || (cR (preds ops) pre'.reverse []&&dU ops))=true:=by kernel_rfl):AWp ro Tryz.prog n kf (.seq (.region id ops draw) y) ⟨e,h0,d0⟩ Q:=
 sgh [] h hq hc h1 h2
theorem skh {Q:Exit→St→Prop}{y:Code}(m:Nat) (hs:List (Nat×Hn)) (h:tG Tryz.prog tr true false n ops.toList hs m 0 (ops.toList.drop 0) e h0 d0 [] []=some (st',k',pre',ob)) (q:iV (fun v=>∀e' r,Q (pan v) ⟨e',r,d0⟩) Tryz.prog n ops draw k' st' pre' (fun st'=>AWp ro Tryz.prog n kf y st' Q))
  (hc:gL ob:=by repeat (first | exact trivial | refine⟨by first | omega | assumption | exact⟨by kernel_rfl,by assumption⟩ | rfl | (simp only[Bl,List.length_nil];omega) | (simp;done) | (simp;omega),?_⟩)):AWp ro Tryz.prog n kf (.seq (.region id ops draw) y) ⟨e,h0,d0⟩ Q:=
 aA (aC mixed (ak m hs h q hc))
theorem sk {Q:Exit→St→Prop}{y:Code}(m:Nat) (h:tG Tryz.prog tr true false n ops.toList [] m 0 (ops.toList.drop 0) e h0 d0 [] []=some (st',k',pre',ob)) (q:iV (fun v=>∀e' r,Q (pan v) ⟨e',r,d0⟩) Tryz.prog n ops draw k' st' pre' (fun st'=>AWp ro Tryz.prog n kf y st' Q))
  (hc:gL ob:=by repeat (first | exact trivial | refine⟨by first | omega | assumption | exact⟨by kernel_rfl,by assumption⟩ | rfl | (simp only[Bl,List.length_nil];omega) | (simp;done) | (simp;omega),?_⟩)):AWp ro Tryz.prog n kf (.seq (.region id ops draw) y) ⟨e,h0,d0⟩ Q:=
 skh m [] h q hc
theorem kz {Q:St→Prop}(m:Nat) (h:tG Tryz.prog tr true false n ops.toList [] m k (ops.toList.drop k) e h0 d0 pre []=some (st',k',pre',ob)) (hq:Q st')
  (hc:gL ob:=by repeat (first | exact trivial | refine⟨by first | omega | assumption | exact⟨by kernel_rfl,by assumption⟩ | rfl | (simp only[Bl,List.length_nil];omega) | (simp;done) | (simp;omega),?_⟩)) (h1:Nat.beq k' ops.size=true:=by rfl) (h2:(!draw || (cR (preds ops) pre'.reverse []&&dU ops))=true:=by kernel_rfl):iV QP Tryz.prog n ops draw k ⟨e,h0,d0⟩ pre Q:=
 ak m [] h (z_ h1 h2 hq) hc
end
set_option maxRecDepth 20000
abbrev Str:=List UInt8
def aR (s:Str):List C:=[.str s]
inductive Ty where
 | mk (form n:Int) (name:Str) (args:List Ty)
def Ty.form:Ty→Int | .mk f _ _ _=>f
def Ty.n:Ty→Int | .mk _ n _ _=>n
def Ty.name:Ty→Str | .mk _ _ s _=>s
def Ty.args:Ty→List Ty | .mk _ _ _ l=>l
mutual
def eI:Ty→List (List C)
 | .mk _ _ _ a=>dT a
def dT:List Ty→List (List C)
 | []=>[]
 | t::l=>[.int .i64 t.form,.int .i64 t.n,.str t.name,.sl 4 (eI t)]::dT l
end
def bG (t:Ty):List C:=[.int .i64 t.form,.int .i64 t.n,.str t.name,.sl 4 (eI t)]
theorem b9 {α:Type}{l:List α}{k:Nat}{x:α}(f:α→List C) (h:l[k]?=some x):(l.map f)[k]?=some (f x):=by rw[List.getElem?_map,h];rfl
theorem aJ {α:Type}{l:List α}{k:Nat}(h:k<l.length):∃x,l[k]?=some x:=⟨l[k],by simp[h]⟩
theorem jB:∀l:List Ty,dT l=l.map bG
 | []=>by simp[dT]
 | c::l=>by rw[dT,jB l];rfl
def Fits {α:Type}(l:List α):Prop:=l.length≤1152921504606846976
def dM (n k:Int):Int:=(if n<0 then -(n+1) else n)%k
def i64 (n:Int):Prop:= -9223372036854775808≤n∧n≤9223372036854775807
theorem cP (n:Int) {k:Int}(q:0<k):0≤dM n k∧dM n k<k:=⟨Int.emod_nonneg _ (by omega),Int.emod_lt_of_pos _ q⟩
theorem lQ (n k:Int) (hn:i64 n) (q:1≤k):bI Tryz.prog 62 [I .i64 n,I .i64 k] [] (I .i64 (dM n k)) []:=by
 unfold i64 at hn;refine bM (n:=13) tok Tryz.func62 rfl rfl rfl ?_;refine sg rfl (aA (sg rfl (aB rfl (fun hb=>?_) (fun hb=>?_))))
 ·have h0:n<0:=by simpa using hb
  exact ag [] rfl (sg rfl (aD ⟨.inr rfl,⟨_,_,.tmp rfl .nil,.cons .refl .nil,by simp[aPa,dM,h0]⟩,trivial,rfl⟩))
 ·have h0:¬n<0:=by simpa using hb
  exact aF (sg rfl (aD ⟨.inr rfl,⟨_,_,.tmp rfl .nil,.cons .refl .nil,by simp[aPa,dM,h0]⟩,trivial,rfl⟩))
def lN (n:Int):List C:=[.int .i64 n]
def oneOf (l:List Str) (n:Int):Str:=(l[(dM n l.length).toNat]?).getD []
theorem u7 {l:List Str}{n:Int}{k:Nat}(hl:0<l.length) (h:dM n l.length=k):(l.map aR)[k]?=some (aR (oneOf l n)):=by
 have h1:=(cP n (k:=l.length) (by omega)).2
 have q:k<l.length:=by omega
 unfold oneOf;rw[h];simp[q]
def aKo:List Str:=[[97],[98],[99],[120]]
theorem aI3 (n:Int) (hn:i64 n):bI Tryz.prog 200 [I .i64 n] [] (Go.AM.T (oneOf aKo n)) []:=by
 refine bM (n:=8) tok Tryz.func200 rfl rfl rfl ?_;refine sg rfl ?_;obtain⟨k,q⟩:=Int.eq_ofNat_of_zero_le (cP n (k:=4) (by omega)).1;have hx:=u7 (l:=aKo) (n:=n) (by decide) q;have r:=(cP n (k:=4) (by omega)).2
 refine sk 2 rfl (kc (lQ n 4 hn (by omega)) ?_);exact ak 3 [(3,.row k []),(4,.row k (aR (oneOf aKo n)))] rfl (az (aD ⟨.inr rfl,⟨_,_,.tmp rfl .nil,.cons .refl .nil,rfl⟩,trivial,rfl⟩))
def dF (a b:Ty):Ty:=.mk 4 0 [] [a,b]
def arrow:Str:=[45,62]
def lH (a b:Ty):Ty:=dF (dF (.mk 3 0 arrow []) a) b
theorem aRv (a b:Ty):bI Tryz.prog 199 [.pa (bG a),.pa (bG b)] [] (.pa (bG (dF a b))) []:=by
 obtain⟨f,n,s,l⟩:=a;obtain⟨q,r,u,y⟩:=b;refine bM (n:=9) tok Tryz.func199 rfl rfl rfl ?_;refine sg rfl (sg rfl (AWp.sub (Sub.freeze (id:=7) rfl) (aD ?_)));exact⟨.inr rfl,⟨_,_,.cell rfl (tg rfl) rfl rfl rfl .nil,.cons (.agg (.c .refl (.c .refl (.c .refl (.hs rfl rfl rfl .nil))))) .nil,rfl⟩,trivial,rfl⟩
theorem aVt (a b:Ty):bI Tryz.prog 167 [.pa (bG a),.pa (bG b)] [] (.pa (bG (lH a b))) []:=by
 obtain⟨f,n,s,l⟩:=a;obtain⟨q,r,u,y⟩:=b;refine bM (n:=10) tok Tryz.func167 rfl rfl rfl ?_;refine sg rfl (sk 2 rfl (kc (aRv (.mk 3 0 arrow []) (.mk f n s l)) ?_));refine ak 1 [] rfl (kc (aRv (dF (.mk 3 0 arrow []) (.mk f n s l)) (.mk q r u y)) ?_);exact kz 1 rfl (aD ⟨.inr rfl,⟨_,_,.cell rfl (tg rfl) rfl rfl rfl .nil,.cons .refl .nil,rfl⟩,trivial,rfl⟩)
def sB (l:List Int):Prop:=∀x∈l,i64 x
theorem sB.suf {l q:List Int}(h:sB l) (hs:q<:+l):sB q:=fun x hx=>h x (hs.subset hx)
theorem Fits.suf {l q:List Int}(h:Fits l) (hs:q<:+l):Fits q:=by
 have:=hs.length_le;unfold Fits at *;omega
def aW5:Ty:=.mk 3 0 [73,110,116] []
def tyV (t:Ty):V:=.pa (bG t)
def zTy:Ty:=.mk 0 0 [] []
theorem aOj (l:List Int) (k:Nat) (q:Fits l) (r:k≤1000):bI Tryz.prog 66 [.one (.c (.sl 1 (l.map lN))),I .i64 k] [] (.one (.c (.sl 1 ((l.take k).map lN)))) []:=by
 unfold Fits at q;refine bM (n:=14) tok Tryz.func66 rfl rfl rfl ?_;refine sg rfl (sg rfl (sk 6 rfl ?_));have hm:(if(k:Int)<(((l.map lN).length:Nat):Int) then(k:Int) else(((l.map lN).length:Nat):Int))=((min l.length k:Nat):Int):=by
  rw[η];split<;>omega
 rw[hm];have ht:(l.map lN).take (min l.length k)=(l.take k).map lN:=by
  rw[←List.map_take];congr 1;by_cases h:k≤l.length
  ·rw[Nat.min_eq_right h]
  ·rw[min_eq_left (by omega),A0 (le_refl _),A0 (by omega)]
 have hl:((l.map lN).take (min l.length k)).length≤1000:=by rw[Ak];omega
 refine akN 3 [] rfl (az (AWp.sub (Sub.freeze (id:=13) rfl) (aD ?_))) (hc:=⟨by omega,by rw[η];omega,by omega,trivial⟩);rw[←ht];exact⟨.inr rfl,⟨_,_,.tmp rfl .nil,.cons (.one (.hs rfl rfl (by rw[B8,Aw]) .nil)) .nil,rfl⟩,trivial,rfl⟩
set_option maxRecDepth 100000
set_option maxHeartbeats 4000000
def plB (c:Nat):Bool:=decide ((97≤c∧c≤122)∨(65≤c∧c≤90)∨(48≤c∧c≤57))
theorem zI (c:Nat) (w:World) (h:c<256):Calls Tryz.prog 191 #[.int .u8 (c:Int)] w fun e w'=>e=.returned (.bool (plB c))∧w=w':=by
 go_enter Tryz.func191,Tryz.ntmps191
 go_wp2
 all_goals go_ret
 all_goals refine⟨congrArg Ending.returned (congrArg Value.bool (a₂:=plB c) ?_),rfl⟩
 all_goals (unfold plB;rw[Cm];simp;omega)
def fiB (r lo hi:Int):Bool:=decide (lo≤r∧r≤hi)
theorem zV (r lo hi:Int) (a b:Nat) (w:World) (ha:w.cell? ⟨a,0,none⟩=some (.int .i32 lo)) (hb:w.cell? ⟨b,0,none⟩=some (.int .i32 hi)):
  Calls Tryz.prog 190 #[.int .i64 0,.int .i32 r,.pointer (some ⟨a,0,none⟩),.pointer (some ⟨b,0,none⟩)] w fun e w'=>e=.returned (.bool (fiB r lo hi))∧w=w':=by
 go_enter Tryz.func190,Tryz.ntmps190
 go_wp2
 all_goals go_ret
 all_goals refine⟨congrArg Ending.returned (congrArg Value.bool (a₂:=fiB r lo hi) ?_),rfl⟩
 all_goals (unfold fiB;rw[Cm];simp;omega)
def nmQ (c:Nat) (lo hi:Int):Bool:=fiB c lo hi&&(plB c || decide (c=39∨c=95))
def aWf (c:Nat) (lo hi:Int) (w:World) (e:Ending) (w':World):Prop:=e=.returned (.bool (nmQ c lo hi))∧∃os:Array Obj,w'={ w with heap:=w.heap++os }
def aY6 (c:Nat) (lo hi:Int) (pos:Nat):Prop:=pos=0∨(pos=1∧nmQ c lo hi=true)
def NmW (c:UInt8) (lo hi:Int) (w:World) (pos:Nat):World:=((w.alloc (.cells #[.int .i32 lo] 21)).alloc (.cells #[.int .i32 hi] 21)).iter ⟨#[c]⟩ pos
theorem aKc (c:UInt8) (lo hi:Int) (w:World) (pos:Nat):∃os:Array Obj,NmW c lo hi w pos={ w with heap:=w.heap++os }:=⟨#[.cells #[.int .i32 lo] 21,.cells #[.int .i32 hi] 21,.stringIter ⟨#[c]⟩ pos],by
 simp only[NmW,World.iter,World.alloc]
 congr 1⟩
theorem aWd (c:UInt8) (lo hi:Int) (w:World) (pos:Nat):(NmW c lo hi w pos).cell? ⟨w.heap.size,0,none⟩=some (.int .i32 lo):=by
 have h:(NmW c lo hi w pos).heap[w.heap.size]?=some (.cells #[.int .i32 lo] 21):=by
  show(((w.heap.push _).push _).push _)[w.heap.size]?=_;rw[Array.getElem?_push_lt (by rw[Bg,Bg];omega),Array.getElem_push_lt (by rw[Bg];omega),Array.getElem_push_eq]
 unfold World.cell?;rw[h];rfl
theorem aWe (c:UInt8) (lo hi:Int) (w:World) (pos:Nat):(NmW c lo hi w pos).cell? ⟨w.heap.size+1,0,none⟩=some (.int .i32 hi):=by
 have h:(NmW c lo hi w pos).heap[w.heap.size+1]?=some (.cells #[.int .i32 hi] 21):=by
  show(((w.heap.push _).push _).push _)[w.heap.size+1]?=_;rw[Array.getElem?_push_lt (by rw[Bg,Bg];omega),Array.getElem_push];rw[dif_neg (by rw[Bg];omega)]
 unfold World.cell?;rw[h];rfl
theorem vE (c:UInt8) (lo hi:Int) (w:World) (pos:Nat):(NmW c lo hi w pos).iterPos (w.heap.size+2)=pos:=by
 have h:(NmW c lo hi w pos).heap[w.heap.size+2]?=some (.stringIter ⟨#[c]⟩ pos):=by
  show(((w.heap.push _).push _).push _)[w.heap.size+2]?=_;rw[Array.getElem?_push,ξ (by rw[Bg,Bg])]
 unfold World.iterPos;rw[h]
theorem aN3 {c:Nat}{lo hi:Int}(h1:fiB c lo hi=true) (h2:plB c=true∨c=39∨c=95):nmQ c lo hi=true:=by
 unfold nmQ;rw[h1];rcases h2 with h | h
 ·rw[h];rfl
 ·rw[χ h,Bool.or_true];rfl
theorem aLn {c:Nat}{lo hi:Int}(h:¬fiB c lo hi=true∨(¬plB c=true∧¬c=39∧¬c=95)):nmQ c lo hi=false:=by
 unfold nmQ;rcases h with h | ⟨h1,h2,q⟩
 ·rw[Bool.not_eq_true _ |>.mp h];rfl
 ·rw[Bool.not_eq_true _ |>.mp h1,φ (by omega),Bool.or_self,Bool.and_false]
theorem sQ (c:UInt8) (lo hi:Int) (w:World) (hc:c.toNat<128):Calls Tryz.prog 147 #[.string ⟨#[c]⟩,.int .i32 lo,.int .i32 hi] w (aWf c.toNat lo hi w):=by
 go_enter Tryz.func147,Tryz.ntmps147
 go_wp2
 go_loopw [] (fun wr=>∃pos:Nat,aY6 c.toNat lo hi pos∧wr=NmW c lo hi w pos) (fun wr=>1-wr.iterPos (w.heap.size+2))
 case atStart=>exact⟨0,.inl rfl,rfl⟩
 case round=>
  obtain⟨pos,y,rfl⟩:=hrel;have hsz:((w.alloc (.cells #[.int .i32 lo] 21)).alloc (.cells #[.int .i32 hi] 21)).heap.size=w.heap.size+1+1:=by
   show((w.heap.push _).push _).size=_;rw[Bg,Bg]
  rcases y with rfl | ⟨rfl,q⟩
  ·have hn:∀ty,(Instr.next (.pointer (some ⟨w.heap.size+1+1,0,none⟩)) true ty).run Tryz.prog (NmW c lo hi w 0)=.ok (.tuple #[.bool true,.int .i64 0,.int .i32 (c.toNat:Int)]) (NmW c lo hi w 1):=fun ty=>by
    have:=run_next_ascii (P:=Tryz.prog) ((w.alloc (.cells #[.int .i32 lo] 21)).alloc (.cells #[.int .i32 hi] 21)) ⟨#[c]⟩ 0 ty (show 0<1 by decide) hc;rw[hsz] at this;exact this
   clear hsz;have r:=aWd c lo hi w 1;have u:=aWe c lo hi w 1;have A:(c.toNat:Int)≤127:=by omega
   have B:0≤(c.toNat:Int):=by omega
   go_wp2_with (first | (go_at_call 190;(with_reducible refine(zV _ _ _ _ _ _ r u).mono ?_);rintro e w' ⟨rfl,rfl⟩) | (go_at_call 191;(with_reducible refine(zI _ _ (by omega)).mono ?_);rintro e w' ⟨rfl,rfl⟩))
   all_goals first
    | exact⟨⟨1,.inr ⟨rfl,aN3 (by assumption) (.inl (by assumption))⟩,rfl⟩,by rw[vE,vE];decide⟩
    | exact⟨⟨1,.inr ⟨rfl,aN3 (by assumption) (.inr (by simp at *;omega))⟩,rfl⟩,by rw[vE,vE];decide⟩
    | (go_ret;exact⟨by rw[aLn (.inl (by assumption))];rfl,aKc c lo hi w 1⟩)
    | (go_ret;exact⟨by rw[aLn (.inr ⟨by assumption,by simp at *;omega,by simp at *;omega⟩)];rfl,aKc c lo hi w 1⟩)
  ·have hn:∀ty,(Instr.next (.pointer (some ⟨w.heap.size+1+1,0,none⟩)) true ty).run Tryz.prog (NmW c lo hi w 1)=.ok (.tuple #[.bool false]) (NmW c lo hi w 1):=fun ty=>by
    have:=run_next_end (P:=Tryz.prog) ((w.alloc (.cells #[.int .i32 lo] 21)).alloc (.cells #[.int .i32 hi] 21)) ⟨#[c]⟩ 1 ty (show ¬1<1 by decide);rw[hsz] at this;exact this
   clear hsz
   go_wp2
   go_ret
   exact⟨by rw[q];rfl,aKc c lo hi w 1⟩
def lG (b:Bool) (w:World) (e:Ending) (w':World):Prop:=e=.returned (.bool b)∧∃os:Array Obj,w'={ w with heap:=w.heap++os }
def aWc (s:ByteArray) (lo hi:Int) (w:World) (pos:Nat):World:=((w.alloc (.cells #[.int .i32 lo] 21)).alloc (.cells #[.int .i32 hi] 21)).iter s pos
theorem aKb (s:ByteArray) (lo hi:Int) (w:World) (pos:Nat):∃os:Array Obj,aWc s lo hi w pos={ w with heap:=w.heap++os }:=⟨#[.cells #[.int .i32 lo] 21,.cells #[.int .i32 hi] 21,.stringIter s pos],by
 simp only[aWc,World.iter,World.alloc]
 congr 1⟩
theorem vX {P:Program}(w:World) (s:ByteArray) (pos:Nat) (ty:TypeId) (r k:Nat) (h:pos<s.size) (q:Utf8.decode s pos=(r,k)):
  (Instr.next (.pointer (some ⟨w.heap.size,0,none⟩)) true ty).run P (w.iter s pos)=.ok (.tuple #[.bool true,.int .i64 pos,.int .i32 r]) (w.iter s (pos+k)):=by
 simp only[Instr.next,getObj,setObj,ε,Sem.run,World.iter_heap,Result.andThen,h,Ce,q,World.iter_set];simp[goInt]
theorem aBw (s:ByteArray) (lo hi:Int) (w:World) (r k:Nat) (h:0<s.size) (q:Utf8.decode s 0=(r,k)) (y:127<r):Calls Tryz.prog 147 #[.string s,.int .i32 lo,.int .i32 hi] w (lG false w):=by
 go_enter Tryz.func147,Tryz.ntmps147
 go_wp2
 go_loopw [] (fun wr=>wr=aWc s lo hi w 0) (fun _=>1)
 case atStart=>rfl
 case round=>
  have hsz:((w.alloc (.cells #[.int .i32 lo] 21)).alloc (.cells #[.int .i32 hi] 21)).heap.size=w.heap.size+1+1:=by
   show((w.heap.push _).push _).size=_;rw[Bg,Bg]
  subst hrel;have hn:∀ty,(Instr.next (.pointer (some ⟨w.heap.size+1+1,0,none⟩)) true ty).run Tryz.prog (aWc s lo hi w 0)=.ok (.tuple #[.bool true,.int .i64 0,.int .i32 (r:Int)]) (aWc s lo hi w (0+k)):=fun ty=>by
   have:=vX (P:=Tryz.prog) ((w.alloc (.cells #[.int .i32 lo] 21)).alloc (.cells #[.int .i32 hi] 21)) s 0 ty r k h q;rw[hsz] at this;exact this
  clear hsz;have u:127<(r:Int):=by omega
  go_wp2
  all_goals (go_ret;exact⟨rfl,by first | exact aKb s lo hi w k | exact aKb s lo hi w (0+k)⟩)
end Go.Proofs.YtkhgpgihmphfdaaGreatDoor
namespace Go.AM
open Go Go.Proofs Go.Shelf
theorem aV6 {ro:Option Nat}{P:Program}{n:Nat}{kf:List Nat}{c:Code}{st:St}{Q:Exit→St→Prop}(t:Nat) {es:Nat}{l:List (List C)}(h:st.e t=some (.one (.c (.sl es l)))) (h1:l=[]→AWp ro P n kf c ⟨upd st.e t (some (.one (.c .nl))),st.h,st.d⟩ Q)
  (h2:AWp ro P n kf c ⟨upd st.e t (some (.one (.c (.sn es l)))),st.h,st.d⟩ Q):AWp ro P n kf c st Q:=by
 intro G S μ a w Q' y hs A;have B:=hs.env t _ h
 have key:∀x:V,aL S μ st.h x (a.tmps.getD t undef)→Sim G n S μ ⟨upd st.e t (some x),st.h,st.d⟩ a w:=fun x hx=>⟨hs.inv,hs.size,hs.defers,fun s u e=>by
  by_cases q:s=t
  ·subst q;have:some x=some u:=by rw[←e];exact(aH _ _ _).symm
   cases this;exact hx
  ·exact hs.env s u (by rw[←e];exact(bJ _ _ _ q).symm)⟩
 simp only[aL,aV,Rep] at B;obtain⟨r,len,cap,E,U,Y,e4,e5,e6,b,o,e7,e8⟩:=B;cases r with
 | none=>
  obtain⟨e9,I⟩:=e5 rfl;have hl:l=[]:=Au (by omega);exact h1 hl G S μ a w Q' y (key _ (by simp only[aL,aV,Rep];rw[E,e9,I])) A
 | some r=>
  obtain⟨b',o',sp⟩:=r;have J:=e6 _ rfl;obtain⟨M,O⟩:=e7 _ rfl;dsimp only at J M O;subst M O;exact h2 G S μ a w Q' y (key _ (by simp only[aL,aV,Rep];exact⟨b',o',sp,len,cap,E,U,Y,e4,J,e8⟩)) A
end Go.AM
namespace Go.AM
open Go Go.Proofs
section
variable {QP:Value→Prop}{P:Program}{n:Nat}{ops:Array Oper}{draw:Bool}{k d:Nat}{st:St}{pre:REs}{Q:St→Prop}{o:Oper}{f:FuncId}{xs:Array Operand}{ts:Array TypeId}{ids:List Nat}{args:List V}{res:V}{hin hout:List (Nat×AObj)}
theorem kcG {j t:Nat}{want b:Bool}(B:bI P f args hin res hout)
  (E:iV QP P n ops draw (k+1) ⟨upd st.e d (some res),iB st.h (outs hout),st.d⟩ ((⟨t::bW xs.toList,ids++keys hin++keys hout⟩,⟨some (d,some res),outs hout⟩)::pre) Q)
  (hb:i7 P f:=by exact aJg (by kernel_rfl)) (ho:ops[k]?=some o:=by rfl) (I:o.guard=some (j,want):=by rfl) (J:(ops[j]?).bind (·.dst)=some t:=by rfl) (u:st.e t=some (.one (.c (.bool b))):=by rfl) (hw:b=want:=by first | rfl | assumption) (y:o.op=.call { callee:=.value (.func f),args:=xs,argTypes:=ts }:=by rfl) (M:o.dst=some d:=by rfl) (A:Nat.blt d n=true:=by rfl)
  (ha:ArgsV st ids xs.toList args:=by repeat (first | exact .nil | (apply Go.AM.ArgsV.cons rfl;(first | exact .refl | exact .one (.c .nl .nil) | exact .one (.c .sn .nil) | exact .one (.hs rfl (by first | rfl | simp) (by first | rfl | (simp;done) | (simp[Go.AM.take_map];done) | exact Go.AM.take_map.symm) .nil) | exact Go.AM.hs_all rfl rfl (by first | rfl | assumption | (simp;done) | (simp;omega)) (by first | rfl | assumption | (simp;done)) | ((first | apply Go.AM.Conv.pa | apply Go.AM.Conv.agg);repeat (first | exact .nil | apply Go.AM.PureL.c .refl | apply Go.AM.PureL.c .nl | apply Go.AM.PureL.c .sn | (apply Go.AM.PureL.hs;rfl;(first | rfl | simp);(first | rfl | (simp;done) | (simp[Go.AM.take_map];done) | exact Go.AM.take_map.symm))))))))
  (r:gG (fun p=>st.h p.1=some p.2) hin:=by repeat (first | exact trivial | refine⟨rfl,?_⟩)) (q:gG (fun p=>p.1∈keys hin∨st.h p.1=none) hout:=by repeat (first | exact trivial | refine⟨.inr rfl,?_⟩ | refine⟨.inl (by decide),?_⟩ | refine⟨.inl (by repeat (first | exact List.Mem.head _ | apply List.Mem.tail)),?_⟩)) (hok:fC args hin=true:=by rfl):iV QP P n ops draw k st pre Q:=
 k_ (GStep.yes ho I J u hw (aG5 hin hout hb y M (jH A) B ha r q hok)) E
end
end Go.AM
namespace Go.AM
open Go
theorem Inv.grownR {G:Ctx}{S:Sto}{μ:Mu}{H:c8}{w:World}(h:Inv G S μ H w) (k:Nat) (os:Array Obj):Inv G S μ H ({ w with heap:=w.heap++os,drawn:=w.drawn+k }):=by
 have hold:∀b:Nat,b<w.heap.size→({ w with heap:=w.heap++os,drawn:=w.drawn+k }:World).heap[b]?=w.heap[b]?:=fun b hb=>by
  show(w.heap++os)[b]?=w.heap[b]?;exact Bv hb
 have hsz:w.heap.size≤({ w with heap:=w.heap++os,drawn:=w.drawn+k }:World).heap.size:=by
  show w.heap.size≤(w.heap++os).size;rw[Array.size_append];omega
 obtain⟨h1,h2,q,r,u,y,A,B,E⟩:=h;refine⟨⟨fun b o v e=>?_,fun b mk e=>?_⟩,fun id o e=>(h2 id o e).evolve (Evolve.refl _ _ _) rfl fun b c hm=>⟨hold b ((h2 id o e).lt hm),fun _=>rfl,rfl⟩,q,r,?_,y,A,B,E⟩
 ·obtain⟨vs,t,I,g1,g2⟩:=h1.1 b o v e;exact⟨vs,t,I,by rw[hold b (bY g1)];exact g1,g2⟩
 ·have g:=h1.2 b mk e;obtain⟨_,g2⟩:=MK.holds_some g;rw[hold b (bY g2)];exact g
 ·obtain⟨f1,f2,f3,f4,f5,f6⟩:=u;exact⟨f1,f2,f3,le_trans f4 hsz,fun b hb J=>by rw[hold b (A4 hb f4)];exact f5 b hb J,f6⟩
end Go.AM
namespace Go.Proofs.YtkhgpgihmphfdaaGreatDoor
open Go Go.AM
set_option maxRecDepth 100000
set_option maxHeartbeats 4000000
def dgB (c:Nat):Bool:=decide (48≤c∧c≤57)
def sgB (c:Nat):Bool:=plB c || decide (c=39∨c=95)
def wiB (c lo hi:Int):Bool:=decide (lo≤c∧c≤hi)
theorem zQ (s:ByteArray) (c:Int) (w:World):Calls Tryz.prog 100 #[.string s,.int .u8 c] w fun e w'=>e=.returned (.int .i64 (Lib.indexByte s.data.toList c.toNat.toUInt8))∧w=w':=by
 go_enter Tryz.func100,Tryz.ntmps100
 go_wp2
 rw[run_callFunc_extern Tryz.func146 (by kernel_rfl) (by kernel_rfl) (by kernel_rfl) (e:=Extern.BytealgIndexByte.indexByte) (by kernel_rfl),Lib.run_indexByteString];simp only[Result.andThen];rw[Oper.upon_value]
 go_wp2
 go_ret
 exact⟨rfl,rfl⟩
theorem kJ (s:ByteArray) (c:Int) (w:World):Calls Tryz.prog 57 #[.string s,.int .u8 c] w fun e w'=>e=.returned (.int .i64 (Lib.indexByte s.data.toList c.toNat.toUInt8))∧w=w':=by
 go_enter Tryz.func57,Tryz.ntmps57
 go_wp2_with (go_at_call 100;(with_reducible refine(zQ _ _ _).mono ?_);rintro e w' ⟨rfl,rfl⟩)
 go_ret
 exact⟨rfl,rfl⟩
theorem r7 (c:UInt8) (w:World) (hc:c.toNat<128):Calls Tryz.prog 104 #[.string ⟨#[c]⟩] w (lG (nmQ c.toNat 97 122) w):=by
 go_enter Tryz.func104,Tryz.ntmps104
 go_wp2_with (go_at_call 147;(with_reducible refine(sQ c 97 122 _ hc).mono ?_);rintro e w' ⟨rfl,os,rfl⟩)
 go_ret
 exact⟨rfl,os,rfl⟩
theorem qI (c:UInt8) (w:World) (hc:c.toNat<128):Calls Tryz.prog 105 #[.string ⟨#[c]⟩] w (lG (nmQ c.toNat 65 90) w):=by
 go_enter Tryz.func105,Tryz.ntmps105
 go_wp2_with (go_at_call 147;(with_reducible refine(sQ c 65 90 _ hc).mono ?_);rintro e w' ⟨rfl,os,rfl⟩)
 go_ret
 exact⟨rfl,os,rfl⟩
theorem aIo (c:UInt8) (hc:c.toNat<128):Utf8.encode (c.toNat:Int)=⟨#[c]⟩:=by
 have h:(c.toNat:Int).toNat=c.toNat:=by omega
 have q:Utf8.valid (c.toNat:Int)=true:=by unfold Utf8.valid;simp;omega
 unfold Utf8.encode;rw[q];simp[h,hc]
theorem wV (s:ByteArray) (w:World) (r k:Nat) (h:0<s.size) (q:Utf8.decode s 0=(r,k)) (u:127<r):Calls Tryz.prog 104 #[.string s] w (lG false w):=by
 go_enter Tryz.func104,Tryz.ntmps104
 go_wp2_with (go_at_call 147;(with_reducible refine(aBw s 97 122 _ r k h q u).mono ?_);rintro e w' ⟨rfl,os,rfl⟩)
 go_ret
 exact⟨rfl,os,rfl⟩
theorem vO (s:ByteArray) (w:World) (r k:Nat) (h:0<s.size) (q:Utf8.decode s 0=(r,k)) (u:127<r):Calls Tryz.prog 105 #[.string s] w (lG false w):=by
 go_enter Tryz.func105,Tryz.ntmps105
 go_wp2_with (go_at_call 147;(with_reducible refine(aBw s 65 90 _ r k h q u).mono ?_);rintro e w' ⟨rfl,os,rfl⟩)
 go_ret
 exact⟨rfl,os,rfl⟩
def aWt:List UInt8:=[48,49,50,51,52,53,54,55,56,57]
def sgS:List UInt8:=[48,49,50,51,52,53,54,55,56,57,39,95]
def ixB (l:List UInt8) (c:UInt8):Bool:=decide (0≤Lib.indexByte l c)
theorem iM {p:UInt8→Prop}(h:∀n:_root_.Fin 256,p (UInt8.ofNat n.val)) (c:UInt8):p c:=by
 have:=h ⟨c.toNat,c.toNat_lt⟩;rwa [show UInt8.ofNat c.toNat=c by simp] at this
theorem aKy (c:UInt8):(nmQ c.toNat 97 122 || (nmQ c.toNat 65 90 || ixB sgS c))=sgB c.toNat:=iM (p:=fun c=>(nmQ c.toNat 97 122 || (nmQ c.toNat 65 90 || ixB sgS c))=sgB c.toNat) (by decide+kernel) c
theorem aYf (c:UInt8):ixB aWt c=dgB c.toNat:=iM (p:=fun c=>ixB aWt c=dgB c.toNat) (by decide+kernel) c
theorem x8 (c:UInt8) (w:World) (hc:c.toNat<128):Calls Tryz.prog 106 #[.int .u8 (c.toNat:Int)] w (lG (sgB c.toNat) w):=by
 rw[←aKy]
 go_enter Tryz.func106,Tryz.ntmps106
 go_wp2_with (first | (go_at_call 104;rw[aIo c hc];(with_reducible refine(r7 c _ hc).mono ?_);rintro e w' ⟨rfl,os,rfl⟩) | (go_at_call 105;rw[aIo c hc];(with_reducible refine(qI c _ hc).mono ?_);rintro e w' ⟨rfl,os,rfl⟩) | (go_at_call 57;(with_reducible refine(kJ _ _ _).mono ?_);rintro e w' ⟨rfl,rfl⟩))
 all_goals go_ret
 ·exact⟨congrArg Ending.returned (congrArg Value.bool (a₂:=_) (by rename_i h;rw[h];rfl)),_,rfl⟩
 ·exact⟨congrArg Ending.returned (congrArg Value.bool (a₂:=_) (by simp[*])),_,rfl⟩
 ·exact⟨congrArg Ending.returned (congrArg Value.bool (a₂:=_) (by simp[*];rfl)),_,rfl⟩
theorem aIr (c:UInt8):128≤c.toNat→Utf8.decode ⟨#[c]⟩ 0=(65533,1):=iM (p:=fun c=>128≤c.toNat→Utf8.decode ⟨#[c]⟩ 0=(65533,1)) (by decide+kernel) c
theorem aQx (c:UInt8):128≤c.toNat→0<(Utf8.encode (c.toNat:Int)).size∧Utf8.decode (Utf8.encode (c.toNat:Int)) 0=(c.toNat,2):=iM (p:=fun c=>128≤c.toNat→0<(Utf8.encode (c.toNat:Int)).size∧Utf8.decode (Utf8.encode (c.toNat:Int)) 0=(c.toNat,2)) (by decide+kernel) c
theorem aHx (c:UInt8) (w:World):Calls Tryz.prog 104 #[.string ⟨#[c]⟩] w (lG (nmQ c.toNat 97 122) w):=by
 by_cases hc:c.toNat<128
 ·exact r7 c w hc
 ·rw[aLn (.inl (by unfold fiB;simp;omega))];exact wV _ w _ _ (by show 0<1;decide) (aIr c (by omega)) (by decide)
theorem aFt (c:UInt8) (w:World):Calls Tryz.prog 105 #[.string ⟨#[c]⟩] w (lG (nmQ c.toNat 65 90) w):=by
 by_cases hc:c.toNat<128
 ·exact qI c w hc
 ·rw[aLn (.inl (by unfold fiB;simp;omega))];exact vO _ w _ _ (by show 0<1;decide) (aIr c (by omega)) (by decide)
theorem aW6 (c:UInt8):128≤c.toNat→ixB sgS c=sgB c.toNat:=iM (p:=fun c=>128≤c.toNat→ixB sgS c=sgB c.toNat) (by decide+kernel) c
theorem aEm (c:UInt8) (w:World):Calls Tryz.prog 106 #[.int .u8 (c.toNat:Int)] w (lG (sgB c.toNat) w):=by
 by_cases hc:c.toNat<128
 ·exact x8 c w hc
 have q:128≤c.toNat:=by omega
 obtain⟨h1,h2⟩:=aQx c q;rw[←aW6 c q]
 go_enter Tryz.func106,Tryz.ntmps106
 go_wp2_with (first | (go_at_call 104;(with_reducible refine(wV _ _ _ _ h1 h2 (by omega)).mono ?_);rintro e w' ⟨rfl,os,rfl⟩) | (go_at_call 105;(with_reducible refine(vO _ _ _ _ h1 h2 (by omega)).mono ?_);rintro e w' ⟨rfl,os,rfl⟩) | (go_at_call 57;(with_reducible refine(kJ _ _ _).mono ?_);rintro e w' ⟨rfl,rfl⟩))
 all_goals go_ret
 all_goals exact⟨congrArg Ending.returned (congrArg Value.bool (a₂:=_) (by first | rfl | (simp[*];rfl) | simp[*])),_,rfl⟩
theorem aQm {f:FuncId}(c:Nat) (b:Bool) (h:∀w,Calls Tryz.prog f #[.int .u8 (c:Int)] w (lG b w)):bI Tryz.prog f [I .u8 c] [] (B b) []:=by
 intro S μ w vals r q;simp only[aY,aL,aV,Rep] at q;obtain⟨v1,u,rfl,rfl,rfl⟩:=q;refine Calls.mono (h w) ?_;rintro e w' ⟨rfl,os,rfl⟩;refine⟨S,μ,_,rfl,r.grownR 0 os,?_⟩;simp only[aL,aV,Rep]
theorem aB8 {f:FuncId}(s:Str) (b:Bool) (h:∀w,Calls Tryz.prog f #[.string ⟨⟨s⟩⟩] w (lG b w)):bI Tryz.prog f [Go.AM.T s] [] (B b) []:=by
 intro S μ w vals r q;simp only[aY,aL,aV,Rep] at q;obtain⟨v1,u,rfl,rfl,rfl⟩:=q;refine Calls.mono (h w) ?_;rintro e w' ⟨rfl,os,rfl⟩;refine⟨S,μ,_,rfl,r.grownR 0 os,?_⟩;simp only[aL,aV,Rep]
theorem aMg (c:UInt8):bI Tryz.prog 106 [I .u8 c.toNat] [] (B (sgB c.toNat)) []:=aQm _ _ fun w=>aEm c w
theorem aMq (c:UInt8):bI Tryz.prog 104 [Go.AM.T [c]] [] (B (nmQ c.toNat 97 122)) []:=aB8 [c] _ fun w=>aHx c w
theorem aMo (c:UInt8):bI Tryz.prog 105 [Go.AM.T [c]] [] (B (nmQ c.toNat 65 90)) []:=aB8 [c] _ fun w=>aFt c w
theorem rK (s:Str) (c:UInt8):bI Tryz.prog 57 [Go.AM.T s,I .u8 c.toNat] [] (I .i64 (Lib.indexByte s c)) []:=by
 intro S μ w vals r q;simp only[aY,aL,aV,Rep] at q;obtain⟨v1,u,rfl,rfl,v2,y,rfl,rfl,rfl⟩:=q;refine Calls.mono (kJ _ _ w) ?_;rintro e w' ⟨rfl,rfl⟩;refine⟨S,μ,_,rfl,r,?_⟩;rw[show(c.toNat:Int).toNat.toUInt8=c by simp];simp only[aL,aV,Rep]
structure Tk where
 kind:Int
 text:Str
 n:Int
 pl:Int
def aK (t:Tk):List C:=[.int .i64 t.kind,.str t.text,.int .i64 t.n,.int .i64 t.pl]
def aWh:List C:=[.int .i64 0,.str [],.int .i64 0,.int .i64 0]
def cN (p:Nat→Bool):Str→Nat
 | []=>0
 | c::s=>if p c.toNat=true then cN p s+1 else 0
theorem iR (p:Nat→Bool):∀s:Str,cN p s≤s.length
 | []=>le_refl _
 | c::s=>by
  rw[cN,κ];have:=iR p s;split<;>omega
theorem zO (p:Nat→Bool):∀(s:Str) (i:Nat),i≤cN p s→∀c,s[i]?=some c→(p c.toNat=true↔i<cN p s)
 | [],i,_,c,h=>by cases h
 | a::s,0,_,c,h=>by
  have e:a=c:=by simpa using h
  subst e;rw[cN];by_cases hp:p a.toNat=true
  ·rw[ξ hp];exact⟨fun _=>by omega,fun _=>hp⟩
  ·rw[ζ hp];exact⟨fun h=>absurd h hp,fun h=>by omega⟩
 | a::s,i+1,hi,c,h=>by
  rw[cN] at hi ⊢;by_cases hp:p a.toNat=true
  ·rw[ξ hp] at hi ⊢;rw[zO p s i (by omega) c (by simpa using h)];omega
  ·rw[ζ hp] at hi;omega
def neB (c:Nat):Bool:=!decide (c=10)
def preB (x s:Str):Bool:=decide (x.length≤s.length)&&decide (s.take x.length=x)
def blB (c:Nat):Bool:=decide (c=32∨c=9∨c=10)
def eX (s:Str):Nat:=match s with
 | []=>0
 | c::_=>if blB c.toNat=true then 1 else if preB [45,45] s=true then 2+cN neB (s.drop 2) else 0
def kR:Str→Int→Int
 | [],k=>k
 | c::s,k=>if k<3000000000 then kR s (k*10+((c.toNat:Int)-48)) else k
def yJ:List Str:=[[45,62],[61,62],[92],[61],[124],[40],[41],[123],[125],[59],[58],[44],[95]]
def oP (s:Str):Str:=match yJ.find? fun x=>preB x s with | some x=>x | none=>[]
def x5:List Str:=[[99,97,115,101],[99,108,97,115,115],[100,97,116,97],[105,110],[105,110,115,116,97,110,99,101],[108,101,116],[111,102]]
abbrev TE:=Except Int (Int×Str×Int)
def n8 (s:Str) (up:Bool):TE:=
 if 32<cN sgB s then .error 2
 else if up=true then .ok (2,s.take (cN sgB s),0)
 else if s.take (cN sgB s)∈x5 then .ok (5,s.take (cN sgB s),0)
 else .ok (1,s.take (cN sgB s),0)
def fQ:Str→TE
 | []=>.error 10
 | c::s=>
  if dgB c.toNat=true then
   (if 2147483647<kR ((c::s).take (cN dgB (c::s))) 0 then .error 11 else .ok (3,(c::s).take (cN dgB (c::s)),kR ((c::s).take (cN dgB (c::s))) 0))
  else if wiB c.toNat 97 122=true∨wiB c.toNat 65 90=true then n8 (c::s) (wiB c.toNat 65 90)
  else if oP (c::s)=[] then .error 10 else .ok (4,oP (c::s),0)
theorem aGc (c:Nat):(sgB c&&wiB c 97 122)=wiB c 97 122:=by
 unfold sgB plB wiB;rw[Cm];simp;omega
theorem aGb (c:Nat):(sgB c&&wiB c 65 90)=wiB c 65 90:=by
 unfold sgB plB wiB;rw[Cm];simp;omega
theorem rY {p:Str→Bool}{l:List Str}{i:Nat}{x:Str}(h:(l.take i).find? p=none) (hx:l[i]?=some x) (hp:p x=false):(l.take (i+1)).find? p=none:=by
 rw[Bw,hx,List.find?_append,h];show [x].find? p=none;rw[List.find?_cons,hp];rfl
theorem rX {p:Str→Bool}{l:List Str}{i:Nat}{x:Str}(h:(l.take i).find? p=none) (hx:l[i]?=some x) (hp:p x=true):l.find? p=some x:=by
 have e:l=l.take i++x::l.drop (i+1):=by
  obtain⟨h1,h2⟩:=Af.1 hx;have:=Bf h1;rw[h2] at this;rw[←this];exact(take_append_drop i l).symm
 rw[e,List.find?_append,h,List.find?_cons,hp];rfl
end Go.Proofs.YtkhgpgihmphfdaaGreatDoor
namespace Go.AM
open Go
section
variable {fn:Func}{st:St}{hin hout:List (Nat×AObj)}{res res2 res3:V}
theorem aSm {tr:Tr}{a t u:Nat}{i:TI}{id off tv:Nat}{cells:List R}{v v2:V}{ids q:List Nat}(hw:tr.wf=true) (y:fn.results.toList=[.cell a t,.tmp u]:=by rfl) (hi:tr.get t=some i:=by rfl) (ha:st.e a=some (.one (.vp id off)):=by rfl) (hh:st.h id=some (.var tv cells):=by rfl) (hb:Nat.ble (off+i.size) cells.length=true:=by rfl) (A:jV i ((cells.drop off).take i.size)=some v:=by rfl) (hu:st.e u=some v2:=by rfl)
  (hc:Conv st.h ids v res:=by first | exact .refl | exact .one (.c .nl .nil) | ((first | apply Go.AM.Conv.pa | apply Go.AM.Conv.agg);repeat (first | exact .nil | apply Go.AM.PureL.c .refl | apply Go.AM.PureL.c .nl | (apply Go.AM.PureL.hs;rfl;(first | rfl | assumption | simp);(first | rfl | exact Go.AM.take_all (by first | assumption | rfl | (simp;done)) | exact Go.AM.take_map.symm)))))
  (r:Conv st.h q v2 res2:=by exact .refl)
  (ho:gG (fun p=>∃o,st.h p.1=some o∧Ole (fun i=>i) o p.2) hout:=by repeat (first | exact trivial | refine⟨⟨_,rfl,by first | exact Go.AM.Ole.arr | exact Go.AM.Ole.var rfl | exact Go.AM.Ole.varS rfl⟩,?_⟩))
  (hok:(subset (V.tup [res,res2]).refs (keys hout)&&subset (gS hout) (keys hout)&&distinct (keys hout)&&subset (keys hin) (keys hout)&&(hin.all fun p=>p.2.plain)&&(hout.all fun p=>p.2.plain))=true:=by rfl):(Exit.ret=.normal∨Exit.ret=.ret)∧Fin tr.flat fn st hin (.tup [res,res2]) hout:=
 ⟨.inr rfl,⟨[v,v2],[res,res2],by rw[y];exact .cell ha (Tr.get_ok hw hi) hh hb A (.tmp hu .nil),.cons hc (.cons r .nil),rfl⟩,ho,hok⟩
end
end Go.AM
namespace Go.Proofs.YtkhgpgihmphfdaaGreatDoor
open Go Go.AM
set_option maxRecDepth 20000
set_option maxHeartbeats 4000000
theorem aDj {ro:Option Nat}{P:Program}{n:Nat}{kf:List Nat}{x y:Code}{st:St}{Q:Exit→St→Prop}(σ:St) (h:AWp ro P n kf x st (fun ex st'=>(ex=.normal∧Sub kf σ st')∨(¬ex=.normal∧Q ex st'))) (k:AWp ro P n kf y σ Q):AWp ro P n kf (.seq x y) st Q:=
 aA (h.post fun ex st' q=>by
  rcases q with⟨rfl,q⟩ | ⟨r,q⟩
  ·exact⟨σ,q,k⟩
  ·refine⟨st',fun G n S μ a w u hs=>⟨S,μ,hs⟩,?_⟩;cases ex with
   | normal=>exact absurd rfl r
   | _=>exact q)
end Go.Proofs.YtkhgpgihmphfdaaGreatDoor
namespace Go.AM
open Go
section
variable {fn:Func}{st:St}{hin hout:List (Nat×AObj)}{res res2 res3:V}
theorem aXc {tr:Tr}{a t u:Nat}{i:TI}{id off tv:Nat}{cells:List R}{v v2:V}{ids q:List Nat}(hw:tr.wf=true) (y:fn.results.toList=[.tmp u,.cell a t]:=by rfl) (hi:tr.get t=some i:=by rfl) (ha:st.e a=some (.one (.vp id off)):=by rfl) (hh:st.h id=some (.var tv cells):=by rfl) (hb:Nat.ble (off+i.size) cells.length=true:=by rfl) (A:jV i ((cells.drop off).take i.size)=some v:=by rfl) (hu:st.e u=some v2:=by rfl)
  (hc:Conv st.h ids v res2:=by first | exact .refl | exact .one (.c .nl .nil) | ((first | apply Go.AM.Conv.pa | apply Go.AM.Conv.agg);repeat (first | exact .nil | apply Go.AM.PureL.c .refl | apply Go.AM.PureL.c .nl | (apply Go.AM.PureL.hs;rfl;(first | rfl | assumption | simp);(first | rfl | exact Go.AM.take_all (by first | assumption | rfl | (simp;done)) | exact Go.AM.take_map.symm)))))
  (r:Conv st.h q v2 res:=by exact .refl)
  (ho:gG (fun p=>∃o,st.h p.1=some o∧Ole (fun i=>i) o p.2) hout:=by repeat (first | exact trivial | refine⟨⟨_,rfl,by first | exact Go.AM.Ole.arr | exact Go.AM.Ole.var rfl | exact Go.AM.Ole.varS rfl⟩,?_⟩))
  (hok:(subset (V.tup [res,res2]).refs (keys hout)&&subset (gS hout) (keys hout)&&distinct (keys hout)&&subset (keys hin) (keys hout)&&(hin.all fun p=>p.2.plain)&&(hout.all fun p=>p.2.plain))=true:=by rfl):(Exit.ret=.normal∨Exit.ret=.ret)∧Fin tr.flat fn st hin (.tup [res,res2]) hout:=
 ⟨.inr rfl,⟨[v2,v],[res,res2],by rw[y];exact .tmp hu (.cell ha (Tr.get_ok hw hi) hh hb A .nil),.cons r (.cons hc .nil),rfl⟩,ho,hok⟩
end
end Go.AM
namespace Go.Proofs.YtkhgpgihmphfdaaGreatDoor
open Go Go.AM
set_option maxRecDepth 20000
set_option maxHeartbeats 4000000
abbrev LE:=Except (Int×Int) (List Tk)
def uR (t:Tk):LE→LE
 | .ok l=>.ok (t::l)
 | .error e=>.error e
def jA:Nat→Nat→Str→LE
 | 0,at',_=>.ok [⟨6,[],0,at'⟩]
 | _+1,at',[]=>.ok [⟨6,[],0,at'⟩]
 | f+1,at',c::r=>
  if 0<eX (c::r) then jA f (at'+eX (c::r)) ((c::r).drop (eX (c::r)))
  else match fQ (c::r) with
   | .error e=>.error (e,at')
   | .ok (k,t,v)=>uR ⟨k,t,v,at'⟩ (jA f (at'+t.length) ((c::r).drop t.length))
def lexA (s:Str):LE:=if 4000<s.length then .error (2,0) else jA s.length 0 s
def aWm (out:List Tk):LE→LE
 | .ok l=>.ok (out++l)
 | .error e=>.error e
theorem aHe (out:List Tk) (t:Tk) (r:LE):aWm out (uR t r)=aWm (out++[t]) r:=by
 cases r with
 | ok l=>show Except.ok _=Except.ok _;simp
 | error e=>rfl
def atV (e p:Int):V:=.pa [.int .i64 e,.int .i64 p]
def aP9:LE→V
 | .ok l=>.tup [.one (.c (.sl 4 (l.map aK))),atV 0 0]
 | .error (e,p)=>.tup [.one (.c .nl),atV e p]
theorem aJh (s:Str):eX s≤s.length:=by
 unfold eX;cases s with
 | nil=>exact le_refl _
 | cons c r=>
  dsimp only;split
  ·rw[κ];omega
  ·split
   ·rename_i h;have hp:2≤(c::r).length:=by
     unfold preB at h;rw[Ab] at h;exact ω h.1
    have:=iR neB ((c::r).drop 2);rw[Be] at this;omega
   ·exact Ae _
theorem aPd (s:Str) (h:¬oP s=[]):1≤(oP s).length∧(oP s).length≤s.length:=by
 refine⟨length_pos_iff.2 h,?_⟩;unfold oP at h ⊢;cases q:yJ.find? fun x=>preB x s with
 | none=>rw[q] at h;exact absurd rfl h
 | some x=>
  have:=List.find?_some q;unfold preB at this;rw[Ab] at this;exact ω this.1
theorem lK {c:UInt8}{r:Str}{k:Int}{t:Str}{v:Int}(h:fQ (c::r)=.ok (k,t,v)):1≤t.length∧t.length≤(c::r).length:=by
 have h1:∀p:Nat→Bool,p c.toNat=true→1≤((c::r).take (cN p (c::r))).length∧((c::r).take (cN p (c::r))).length≤(c::r).length:=fun p hp=>by
  have:=iR p (c::r);rw[Ak];rw[cN,ξ hp] at this ⊢;rw[κ] at this ⊢;omega
 rw[fQ] at h;by_cases q:dgB c.toNat=true
 ·rw[ξ q] at h;split at h
  ·cases h
  ·cases h;exact h1 _ q
 rw[ζ q] at h;by_cases hn:wiB c.toNat 97 122=true∨wiB c.toNat 65 90=true
 ·rw[ξ hn] at h;have hs:sgB c.toNat=true:=by
   rcases hn with h | h
   ·have:=aGc c.toNat;rw[h] at this;simpa using this
   ·have:=aGb c.toNat;rw[h] at this;simpa using this
  unfold n8 at h;split at h
  ·cases h
  split at h
  ·cases h;exact h1 _ hs
  split at h
  ·cases h;exact h1 _ hs
  ·cases h;exact h1 _ hs
 rw[ζ hn] at h;split at h
 ·cases h
 ·rename_i hy;cases h;exact aPd _ hy
theorem aBt {c:UInt8}{r:Str}{e:Int}(h:fQ (c::r)=.error e):¬e=0:=by
 rw[fQ] at h;split at h
 ·split at h
  ·cases h;decide
  ·cases h
 split at h
 ·unfold n8 at h;split at h
  ·cases h;decide
  split at h
  ·cases h
  split at h<;>cases h
 split at h
 ·cases h;decide
 ·cases h
end Go.Proofs.YtkhgpgihmphfdaaGreatDoor
namespace Go.Proofs.YtkhgpgihmphfdaaGreatDoor
open Go Go.AM
set_option maxRecDepth 20000
theorem cU {α:Type}{l:List α}{k:Nat}{x:α}(h:l[k]?=some x):l.take (k+1)=l.take k++[x]:=by rw[Bw,h];rfl
theorem n7 {l:List Str}{n:Int}(hl:0<l.length):oneOf l n∈l:=by
 obtain⟨k,q⟩:=Int.eq_ofNat_of_zero_le (cP n (k:=l.length) (by omega)).1;have r:=(cP n (k:=l.length) (by omega)).2
 have h1:k<l.length:=by omega
 have:oneOf l n=l[k]:=by
  unfold oneOf;rw[q];simp[h1]
 rw[this];exact List.getElem_mem h1
def eG (l:List Str):V:=.one (.c (.sl 1 (l.map aR)))
def zW (s:Str):List Str→Int→Int
 | [],_=> -1
 | x::l,k=>if s=x then k else zW s l (k+1)
theorem uK (s:Str):∀(l:List Str) (k:Int),0≤k→(decide (0≤zW s l k)=decide (s∈l))
 | [],k,_=>by simp[zW]
 | x::l,k,q=>by
  rw[zW];split
  ·rename_i h;subst h;simp[q]
  ·rename_i h;rw[uK s l (k+1) (by omega)];simp[h]
theorem aRq (l:List Str) (s:Str) (h:l.length≤600000000000):bI Tryz.prog 148 [eG l,Go.AM.T s] [] (I .i64 (zW s l 0)) []:=by
 refine bM (n:=19) tok Tryz.func148 rfl rfl rfl ?_;refine sg rfl (aA (sg rfl ?_));have r:(l.map aR).length=l.length:=η _;refine aE (aP (fun i:Nat=>mk [(0,eG l),(1,Go.AM.T s),(7,I .i64 ((l.map aR).length:Int)),(8,I .i64 i)] []) (fun i=>i≤l.length∧zW s l 0=zW s (l.drop i) i) (fun i=>l.length-i) 0 ⟨Ae _,rfl⟩ sl ?_);intro i ⟨hi,he⟩;refine sg rfl (aA (aB rfl (fun hb=>?_) (fun hb=>?_)))
 ·have q:=ltD hb r;obtain⟨x,hx⟩:=aJ q;have A:=b9 aR hx;have y:l.drop i=x::l.drop (i+1):=by rw[Bf q,(Af.1 hx).2]
  rw[y,zW] at he;refine aF (aA (aE (sg rfl (sgh [(3,.row i (aR x))] rfl (aB rfl (fun hb=>?_) (fun hb=>?_))))))
  ·have hs:s=x:=ω hb;rw[ξ hs] at he;rw[he];exact sg rfl (aD rtT)
  ·have hs:¬s=x:=Ai hb;rw[ζ hs] at he;exact aF (ag [] rfl ⟨i+1,⟨q,he⟩,by dsimp only;omega,sl⟩)
 ·have u:=geD hb r hi;subst u;rw[Cq,zW] at he;rw[he];exact aS (sg rfl (aD rtT))
theorem oI (l:List Str) (s:Str) (h:l.length≤600000000000):bI Tryz.prog 107 [eG l,Go.AM.T s] [] (B (decide (s∈l))) []:=by
 have hi:=aRq l s h;refine bM (n:=9) tok Tryz.func107 rfl rfl rfl ?_;refine sg rfl (sgh [(2,.pc (I .i64 (zW s l 0)))] rfl ?_);rw[←uK s l 0 (by omega)];exact aD rtT
end Go.Proofs.YtkhgpgihmphfdaaGreatDoor
namespace Go
section
variable {F:Fence}{n:Nat}{P:Program}{b:Frame}{a:Act}{k:List Item}{cs:List Frame}{w:World}{Q:Exit→Act→World→Prop}
theorem fF {c:Code}:step P (lone (b.atR a (.code (.scope c)::k)) cs w)=.next (lone (b.atR a (.code c:: .inScope c::k)) cs w):=
 step_lone_go (by simp[stepG,stepG.exec,Frame.atR])
theorem tN {c:Code}:step P (lone (b.atR a (.inScope c::k)) cs w)=.next (lone (b.atR a k) cs w):=
 step_lone_go (by simp[stepG,stepG.exec,Frame.atR])
def Exit.noJump (Q:Exit→Act→World→Prop):Exit→Act→World→Prop
 | .goto _,_,_=>False
 | e,a,w=>Q e a w
theorem aDt {c:Code}(h:c.wpIn F n P (Exit.noJump Q) a w):(Code.scope c).wpIn F n P Q a w:=by
 intro b k cs B hb y;have h0:(lone (b.atR a (.code (.scope c)::k)) cs w).fenced P F:=fenced_calm hb y rfl;obtain⟨e,r,u,hq,q⟩:=h b (.inScope c::k) cs B hb y;cases e with
 | normal=>exact⟨.normal,r,u,hq,.head h0 fF (StepsIn.trans q (.one (fenced_calm hb y rfl) tN))⟩
 | exit id=>
  have hx:exitTo id (.inScope c::k)=exitTo id k:=by simp[exitTo]
  exact⟨.exit id,r,u,hq,fun k' A=>.head h0 fF (q.1 k' (by rw[hx];exact A)),
   fun E A=>let ⟨k₁,h1,h2⟩:=q.2 E (by rw[hx];exact A);⟨k₁,h1,.head h0 fF h2⟩⟩
 | goto l=>exact hq.elim
 | ret=>exact⟨_,r,u,hq,.of_steps (.one h0 fF) q⟩
 | panic I=>exact⟨_,r,u,hq,.of_steps (.one h0 fF) q⟩
 | outgrown=>exact⟨_,r,u,hq,.of_steps (.one h0 fF) q⟩
end
end Go
namespace Go.AM
open Go
section
variable {ro:Option Nat}{P:Program}{n:Nat}{kf:List Nat}{st:St}{Q:Exit→St→Prop}
theorem aJ0 {l:Nat}(h:Q .normal st):AWp ro P n kf (.label l) st Q:=fun _ S μ a w _ _ hs q=>wpIn_label (q _ _ S μ a w h hs)
def aO2 (Q:Exit→St→Prop):Exit→St→Prop
 | .goto _,_=>False
 | e,st=>Q e st
theorem aJz {c:Code}(h:AWp ro P n kf c st (aO2 Q)):AWp ro P n kf (.scope c) st Q:=fun G S μ a w Q' r hs u=>
 aDt (h G S μ a w _ r hs fun ex st' S' μ' y w' q s=>by
  cases ex with
  | goto l=>exact q.elim
  | _=>exact u _ st' S' μ' y w' q s)
end
section
variable {QP:Value→Prop}{P:Program}{n:Nat}{ops:Array Oper}{draw:Bool}{k d:Nat}{st:St}{pre:REs}{Q:St→Prop}{o:Oper}{f:FuncId}{xs:Array Operand}{ts:Array TypeId}{ids:List Nat}{args:List V}{res:V}{hin hout:List (Nat×AObj)}
theorem kvG {x:Operand}{caps:List R}{j t:Nat}{want b:Bool}(B:bI P f (args++caps.map V.one) hin res hout)
  (E:iV QP P n ops draw (k+1) ⟨upd st.e d (some res),iB st.h (outs hout),st.d⟩ ((⟨t::(opr x++bW xs.toList),ids++keys hin++keys hout⟩,⟨some (d,some res),outs hout⟩)::pre) Q)
  (hb:i7 P f:=by exact aJg (by kernel_rfl)) (ho:ops[k]?=some o:=by rfl) (I:o.guard=some (j,want):=by rfl) (J:(ops[j]?).bind (·.dst)=some t:=by rfl) (u:st.e t=some (.one (.c (.bool b))):=by rfl) (hw:b=want:=by first | rfl | assumption) (y:o.op=.call { callee:=.value x,args:=xs,argTypes:=ts }:=by rfl) (M:o.dst=some d:=by rfl) (A:Nat.blt d n=true:=by rfl) (hx:opv st x=some (.one (.clo f caps)):=by rfl)
  (ha:ArgsV st ids xs.toList args:=by repeat (first | exact .nil | (apply Go.AM.ArgsV.cons rfl;(first | exact .refl | exact .one (.c .nl .nil) | exact .one (.c .sn .nil) | exact .one (.hs rfl (by first | rfl | simp) (by first | rfl | (simp;done) | (simp[Go.AM.take_map];done) | exact Go.AM.take_map.symm) .nil) | exact Go.AM.hs_all rfl rfl (by first | rfl | assumption | (simp;done) | (simp;omega)) (by first | rfl | assumption | (simp;done)) | ((first | apply Go.AM.Conv.pa | apply Go.AM.Conv.agg);repeat (first | exact .nil | apply Go.AM.PureL.c .refl | apply Go.AM.PureL.c .nl | apply Go.AM.PureL.c .sn | (apply Go.AM.PureL.hs;rfl;(first | rfl | simp);(first | rfl | (simp;done) | (simp[Go.AM.take_map];done) | exact Go.AM.take_map.symm))))))))
  (r:gG (fun p=>st.h p.1=some p.2) hin:=by repeat (first | exact trivial | refine⟨rfl,?_⟩)) (q:gG (fun p=>p.1∈keys hin∨st.h p.1=none) hout:=by repeat (first | exact trivial | refine⟨.inr rfl,?_⟩ | refine⟨.inl (by decide),?_⟩ | refine⟨.inl (by repeat (first | exact List.Mem.head _ | apply List.Mem.tail)),?_⟩)) (hok:fC (args++caps.map V.one) hin=true:=by rfl):iV QP P n ops draw k st pre Q:=
 k_ (GStep.yes ho I J u hw (aG3 hin hout hb y M (jH A) hx B ha r q hok)) E
end
end Go.AM
namespace Go.Proofs.YtkhgpgihmphfdaaGreatDoor
open Go Go.AM
set_option maxRecDepth 20000
set_option maxHeartbeats 4000000
theorem aAa (f:FuncId) (p:Nat→Bool) (s:Str) (hl:s.length≤4001) (r:aWx Tryz.prog f=true) (E:∀c∈s,bI Tryz.prog f [I .u8 (c.toNat:Nat)] [] (B (p c.toNat)) []):bI Tryz.prog 59 [Go.AM.T s,.one (.clo f [])] [] (I .i64 (cN p s)) []:=by
 have O:=iR p s;refine bM (n:=20) tok Tryz.func59 rfl rfl rfl ?_;refine sg rfl (sg rfl (aA (aE (aP (fun j:Nat=>mk [(0,Go.AM.T s),(1,.one (.clo f [])),(5,I .i64 j)] []) (fun j=>j≤cN p s) (fun j=>cN p s-j) 0 (Ae _) sl ?_))));intro j J;by_cases u:j<s.length
 ·obtain⟨d,y⟩:=aJ u;have q:=zO p s j J d y;have A:=E d (Aa y);have M:decide ((j:Int)<(s.length:Int))=true:=χ (by omega);refine aA (skh 9 [(4,.bv true),(8,.byte j d)] rfl (kvG (caps:=[]) (args:=[I .u8 (d.toNat:Nat)]) (hin:=[]) (hout:=[]) A ?_ (hb:=aJg r)));refine ak 1 [(4,.bv true),(10,.bv true)] rfl (az (aB rfl (fun hb=>?_) (fun hb=>?_)))
  ·exact aF (aE (ag [] rfl ⟨j+1,q.1 hb,by dsimp only;have:=q.1 hb;omega,sl⟩))
  ·have e:j=cN p s:=by
    have:¬j<cN p s:=fun h=>by rw[q.2 h] at hb;cases hb
    omega
   refine aS ?_;rw[←e];exact sg rfl (aD rtT)
 ·have e:j=cN p s:=by omega
  have M:decide ((j:Int)<(s.length:Int))=false:=φ (by omega);refine aA (sgh [(4,.bv false),(10,.bv false)] rfl (aB rfl (fun hb=>absurd hb (by decide)) (fun _=>aS ?_)));rw[←e];exact sg rfl (aD rtT)
theorem xW (s x:Str):bI Tryz.prog 101 [Go.AM.T s,Go.AM.T x] [] (B (preB x s)) []:=by
 unfold preB;refine bM (n:=18) tok Tryz.func101 rfl rfl rfl ?_;refine sg rfl ?_;by_cases h:x.length≤s.length
 ·have d1:decide ((x.length:Int)≤(s.length:Int))=true:=χ (by omega);rw[χ h,Bool.true_and];exact sgh [(5,.bv true),(12,.bv true)] rfl (aD rtT)
 ·have d1:decide ((x.length:Int)≤(s.length:Int))=false:=φ (by omega);rw[φ h,Bool.false_and];exact sgh [(5,.bv false),(12,.bv false)] rfl (aD rtT)
theorem rJ (s x:Str):bI Tryz.prog 58 [Go.AM.T s,Go.AM.T x] [] (B (preB x s)) []:=by
 have h:=xW s x;refine bM (n:=8) tok Tryz.func58 rfl rfl rfl ?_;exact sg rfl (sgh [(2,.pc (B (preB x s)))] rfl (aD rtT))
theorem aRz:bI Tryz.prog 108 [] [] (eG x5) []:=by
 refine bM (n:=2) tok Tryz.func108 rfl rfl rfl ?_;exact sg rfl (sgh [(0,.all)] rfl (aD rtT))
theorem aEy:bI Tryz.prog 109 [] [] (eG yJ) []:=by
 refine bM (n:=2) tok Tryz.func109 rfl rfl rfl ?_;exact sg rfl (sgh [(0,.all)] rfl (aD rtT))
def vH (a b:Int):Int:=if b<a then b else a
def aHo:Str→Int→Int
 | [],k=>k
 | c::s,k=>aHo s (vH (k*10+((c.toNat:Int)-48)) 2147483648)
theorem aMd (s:Str) (hl:s.length≤4001) (O:∀c∈s,48≤c.toNat∧c.toNat≤57):bI Tryz.prog 103 [Go.AM.T s] [] (I .i64 (aHo s 0)) []:=by
 refine bM (n:=21) tok Tryz.func103 rfl rfl rfl ?_;refine sg rfl (sg rfl (aA (sg rfl (aE (aP (fun p:Nat×Int=>mk [(0,Go.AM.T s),(3,I .i64 p.2),(6,I .i64 (s.length:Nat)),(7,I .i64 p.1)] []) (fun p=>p.1≤s.length∧0≤p.2∧p.2≤2147483648∧aHo (s.drop p.1) p.2=aHo s 0) (fun p=>s.length-p.1) (0,0) ⟨Ae _,by decide,by decide,rfl⟩ sl ?_)))));rintro⟨i,k⟩ ⟨hi,E,J,q⟩;dsimp only at hi E J q ⊢;refine sg rfl (aA (aB rfl (fun hb=>?_) (fun hb=>?_)))
 ·have A:i<s.length:=by have:=ω hb;omega
  obtain⟨d,r⟩:=aJ A;obtain⟨g1,g2⟩:=O d (Aa r);have M:s.drop i=d::s.drop (i+1):=by
   obtain⟨U,Y⟩:=Af.1 r;rw[Bf U,Y]
  rw[M,aHo] at q;refine aF ?_;have u:IntKind.wrap .u8 ((d.toNat:Int)-48)=(d.toNat:Int)-48:=by unfold IntKind.wrap;simp[IntKind.bits,IntKind.signed];omega
  have y:IntKind.wrap .i64 ((d.toNat:Int)-48)=(d.toNat:Int)-48:=B4 _ (by omega);refine aA (aE (sg rfl (ag [(4,.byte i d)] rfl ?_ (hc:=⟨⟨by rw[u,y];omega,by rw[u,y];omega⟩,⟨rfl,r⟩,⟨by omega,by omega⟩,trivial⟩))));rw[u,y];refine ag [] rfl ?_;have B:0≤vH (k*10+((d.toNat:Int)-48)) 2147483648∧vH (k*10+((d.toNat:Int)-48)) 2147483648≤2147483648:=by unfold vH;split<;>omega
  exact⟨(i+1,vH (k*10+((d.toNat:Int)-48)) 2147483648),⟨A,B.1,B.2,q⟩,by dsimp only;omega,sl⟩
 ·have e:i=s.length:=by have:=Ai hb;omega
  rw[e,Cq,aHo] at q;rw[←q];exact aS (sg rfl (aD rtT))
theorem aBu:∀s:Str,(∀c∈s,48≤c.toNat∧c.toNat≤57)→aHo s 2147483648=2147483648
 | [],_=>rfl
 | c::s,h=>by
  have:=h c Bp;rw[aHo,show vH (2147483648*10+((c.toNat:Int)-48)) 2147483648=2147483648 by unfold vH;split<;>omega];exact aBu s fun d q=>h d (Bc _ q)
theorem aUl:∀(s:Str) (k:Int),(∀c∈s,48≤c.toNat∧c.toNat≤57)→2147483648≤k→2147483648≤kR s k
 | [],k,_,h=>h
 | c::s,k,hs,h=>by
  have:=hs c Bp;rw[kR];split
  ·exact aUl s _ (fun d q=>hs d (Bc _ q)) (by omega)
  ·exact h
theorem aN2:∀(s:Str) (k:Int),(∀c∈s,48≤c.toNat∧c.toNat≤57)→0≤k→k≤2147483647→aHo s k=vH (kR s k) 2147483648
 | [],k,_,_,h=>by rw[aHo,kR];unfold vH;rw[ζ (by omega)]
 | c::s,k,hs,h0,h=>by
  have h1:=hs c Bp;have h2:∀d∈s,48≤d.toNat∧d.toNat≤57:=fun d q=>hs d (Bc _ q)
  rw[aHo,kR,ξ (by omega)];by_cases r:k*10+((c.toNat:Int)-48)≤2147483647
  ·rw[show vH (k*10+((c.toNat:Int)-48)) 2147483648=k*10+((c.toNat:Int)-48) by unfold vH;rw[ζ (by omega)]];exact aN2 s _ h2 (by omega) r
  ·rw[show vH (k*10+((c.toNat:Int)-48)) 2147483648=2147483648 by unfold vH;split<;>omega,aBu s h2];have:=aUl s (k*10+((c.toNat:Int)-48)) h2 (by omega);unfold vH;split<;>omega
theorem aXz (c:Nat):nmQ c 97 122=wiB c 97 122:=by
 unfold nmQ fiB wiB plB;rw[Cm];simp;omega
theorem aXy (c:Nat):nmQ c 65 90=wiB c 65 90:=by
 unfold nmQ fiB wiB plB;rw[Cm];simp;omega
theorem aX1 (c:Nat) (h:wiB c 97 122=true):wiB c 65 90=false:=by
 unfold wiB at *;simp at *;omega
theorem aKm {c:UInt8}{r:Str}(h:wiB c.toNat 65 90=true) (hs:sgB c.toNat=true):¬(c::r).take (cN sgB (c::r))∈x5:=fun hm=>by
 rw[cN,ξ hs,As] at hm;have:c=99∨c=100∨c=105∨c=108∨c=111:=by
  unfold x5 at hm;simp only[Aq,List.cons.injEq,not_mem_nil,or_false] at hm;rcases hm with⟨h,_⟩ | ⟨h,_⟩ | ⟨h,_⟩ | ⟨h,_⟩ | ⟨h,_⟩ | ⟨h,_⟩ | ⟨h,_⟩<;>simp[h]
 unfold wiB at h;rcases this with rfl | rfl | rfl | rfl | rfl<;>exact absurd h (by decide)
theorem aVv (c:UInt8):bI Tryz.prog 102 [I .u8 (c.toNat:Nat)] [] (B (dgB c.toNat)) []:=by
 have h:=rK aWt c;rw[←aYf c];refine bM (n:=6) tok Tryz.func102 rfl rfl rfl ?_;exact sg rfl (sgh [(1,.pc (I .i64 (Lib.indexByte aWt c)))] rfl (aD rtT))
def yW:Code→Code | .seq _ b=>b | c=>c
noncomputable def aZk (c:Code):Code:=yW (yW (yW (yW c)))
def aL3:TE→Int
 | .ok _=>0
 | .error e=>e
theorem aVo (c:UInt8) (r:Str) (hl:r.length≤4000):∃(k0:Int) (t0:Str) (v0:Int),bI Tryz.prog 61 [Go.AM.T (c::r)] [] (.tup [.pa [.int .i64 k0,.str t0,.int .i64 v0,.int .i64 0],I .i64 (aL3 (fQ (c::r)))]) []∧∀k t v,fQ (c::r)=.ok (k,t,v)→k0=k∧t0=t∧v0=v:=by
 have hSl:(c::r).length≤4001:=by rw[κ];omega
 have E:=aAa 102 dgB (c::r) hSl (by kernel_rfl) fun d A=>aVv d
 have hw2:=aAa 106 sgB (c::r) hSl (by kernel_rfl) fun d _=>aMg d
 have J:=aMq c;have M:=aMo c;rw[aXz] at J;rw[aXy] at M;have ht1:(c::r).take 1=[c]:=rfl;by_cases A:dgB c.toNat=true
 ·have B:∀d∈(c::r).take (cN dgB (c::r)),48≤d.toNat∧d.toNat≤57:=fun d A=>by
   obtain⟨j,hj⟩:=List.getElem?_of_mem A;rw[Al] at hj;split at hj
   ·rename_i O;exact ω ((zO dgB (c::r) j (by omega) d hj).2 O)
   ·cases hj
  have y:fQ (c::r)=if 2147483647<kR ((c::r).take (cN dgB (c::r))) 0 then .error 11 else .ok (3,(c::r).take (cN dgB (c::r)),kR ((c::r).take (cN dgB (c::r))) 0):=by rw[fQ,ξ A]
  have hnum:=aMd ((c::r).take (cN dgB (c::r))) (by rw[Ak];omega) B;rw[aN2 _ 0 B (by decide) (by decide)] at hnum;have hN1:0<cN dgB (c::r):=by rw[cN,ξ A];omega
  have hNl:=iR dgB (c::r);rw[y];clear B y J M hw2 ht1;generalize cN dgB (c::r)=N at *;generalize c::r=S at *;generalize hK:kR (S.take N) 0=K at *;refine⟨3,S.take N,vH K 2147483648,?_,fun k t v h=>?_⟩
  ·refine bM (n:=67) tok Tryz.func61 rfl rfl rfl ?_;refine sg rfl (aA (sk 1 rfl (kc E ?_)));refine kz 1 rfl ?_;have dN:decide ((0:Int)<(N:Int))=true:=χ (by omega);refine sg rfl (aB rfl (fun _=>aA (aC mixed (akN 6 [] rfl (kc hnum ?_)))) (fun hb=>absurd (hb.symm.trans dN) (by decide)));refine akN 3 [] rfl (az (aA (sg rfl ?_)));by_cases hk:2147483647<K
   ·rw[ξ hk];refine aB rfl (fun _=>?_) (fun hb=>?_)
    ·exact sg rfl (aD (aSm trw))
    ·have:=Ai hb;unfold vH at this;split at this<;>omega
   ·rw[ζ hk];refine aB rfl (fun hb=>?_) (fun _=>?_)
    ·have:=ω hb;unfold vH at this;split at this<;>omega
    ·exact aF (sg rfl (aD (aSm trw)))
  ·split at h
   ·cases h
   ·rename_i hk;cases h;exact⟨rfl,rfl,by unfold vH;rw[ζ (by omega)]⟩
 ·have hS1:1≤(c::r).length:=by rw[κ];omega
  have hN0:cN dgB (c::r)=0:=by rw[cN,ζ A]
  rw[hN0] at E;have y:fQ (c::r)=if wiB c.toNat 97 122=true∨wiB c.toNat 65 90=true then n8 (c::r) (wiB c.toNat 65 90) else if oP (c::r)=[] then .error 10 else .ok (4,oP (c::r),0):=by rw[fQ,ζ A]
  have hnk:= @aKm c r;have hsg:wiB c.toNat 97 122=true∨wiB c.toNat 65 90=true→sgB c.toNat=true:=fun h=>by
   rcases h with h | h
   ·have:=aGc c.toNat;rw[h] at this;simpa using this
   ·have:=aGb c.toNat;rw[h] at this;simpa using this
  have hlu:=aX1 c.toNat;have hsy:oP (c::r)=(match yJ.find? (fun x=>preB x (c::r)) with | some x=>x | none=>[]):=rfl;rw[y];clear y A;generalize c::r=S at *;generalize wiB c.toNat 97 122=lo at *;generalize wiB c.toNat 65 90=up at *;have kind:∃k:Int,k=if lo=true then 1 else if up=true then 2 else 0:=⟨_,rfl⟩
  obtain⟨Y,q⟩:=kind;have pre:∀(l:List C) (e:Int),AWp none Tryz.prog 67 (keys []) (aZk (Tryz.f61.body.getD .skip)) (mk [(0,Go.AM.T S),(2,.one (.vp 2 0)),(6,I .i64 Y)] [(2,.var 62 (aWh.map .c))]) (fun ex st=>(ex=.normal∨ex=.ret)∧Fin tr.flat Tryz.f61 st [] (.tup [.pa l,I .i64 e]) [])→bI Tryz.prog 61 [Go.AM.T S] [] (.tup [.pa l,I .i64 e]) []:=fun l e h=>by
   refine bM (n:=67) tok Tryz.func61 rfl rfl rfl ?_;refine sg rfl (aA (sk 1 rfl (kc E ?_)));refine kz 1 rfl (sg rfl (aB rfl (fun hb=>absurd hb (by decide)) (fun _=>aF (sg rfl (aDj (mk [(0,Go.AM.T S),(2,.one (.vp 2 0)),(6,I .i64 Y)] [(2,.var 62 (aWh.map .c))]) ?_ h)))));refine aE (sk 2 rfl ?_);rw[ht1];refine kc J ?_;refine kz 1 rfl (aB rfl (fun hb=>?_) (fun hb=>?_))
   ·rw[hb,ξ rfl] at q;subst q;exact ag [] rfl (.inl ⟨rfl,sl⟩)
   rw[hb,ζ π] at q;refine sk 2 rfl ?_;rw[ht1];refine kc M ?_;refine kz 1 rfl (aB rfl (fun hb=>?_) (fun hb=>?_))
   ·rw[hb,ξ rfl] at q;subst q;exact ag [] rfl (.inl ⟨rfl,sl⟩)
   ·rw[hb,ζ π] at q;subst q;exact aF (.inl ⟨rfl,sl⟩)
  clear J M E hN0;by_cases hn:lo=true∨up=true
  ·rw[ξ hn];have hsg:=hsg hn;have hkp:0<Y:=by
    rw[q];rcases hn with h | h
    ·rw[ξ h];decide
    ·rw[ξ h];split<;>decide
   have hW:=iR sgB S;have hky:=aRz;have hct:=oI x5 (S.take (cN sgB S)) (by decide);have hnk:=fun h=>hnk h hsg
   unfold n8;generalize cN sgB S=N at *;have k5:∃k5:Int,k5=if S.take N∈x5 then 5 else Y:=⟨_,rfl⟩
   obtain⟨k5,u⟩:=k5;have dk:decide ((0:Int)<Y)=true:=χ hkp;refine⟨k5,S.take N,0,pre _ _ ?_,fun k t v h=>?_⟩
   ·refine aA (sg rfl (aB rfl (fun _=>sk 3 rfl (kc hw2 ?_)) (fun hb=>absurd (hb.symm.trans dk) (by decide))));refine kz 4 rfl (aDj (mk [(0,Go.AM.T S),(2,.one (.vp 2 0)),(7,.one (.vp 7 0))] [(2,.var 62 (aWh.map .c)),(7,.var 62 [.c (.int .i64 k5),.c (.str (S.take N)),.c (.int .i64 0),.c (.int .i64 0)])]) ?_ ?_)
    ·generalize x5=L at *;refine aA (aC mixed (kc hky ?_));refine akN 2 [] rfl (kc hct ?_);refine az (aB rfl (fun hb=>?_) (fun hb=>?_))
     ·rw[ξ (ω hb)] at u;subst u;exact ag [] rfl (.inl ⟨rfl,sl⟩)
     ·rw[ζ (Ai hb)] at u;subst u;exact aF (.inl ⟨rfl,sl⟩)
    ·have hTl:(S.take N).length=N:=by rw[Ak];omega
     generalize S.take N=X at *;refine aA (sg rfl ?_);rw[hTl];refine aB rfl (fun hb=>?_) (fun hb=>?_)
     ·rw[ξ (by have:=ω hb;omega)];exact sg rfl (aD (aSm trw))
     ·rw[ζ (by have:=Ai hb;omega)];have e0:aL3 (if up=true then(.ok (2,X,0):TE) else if X∈x5 then .ok (5,X,0) else .ok (1,X,0))=0:=by
       split
       ·rfl
       ·split<;>rfl
      rw[e0];exact aF (sg rfl (aD (aSm trw)))
   ·split at h
    ·cases h
    split at h
    ·rename_i hu;cases h;rw[ζ (hnk hu)] at u;have hl:¬lo=true:=fun hl=>by rw[hlu hl] at hu;cases hu
     exact⟨by rw[u,q,ζ hl,ξ hu],rfl,rfl⟩
    ·rename_i hu;split at h
     ·rename_i hm;cases h;rw[ξ hm] at u;exact⟨u,rfl,rfl⟩
     ·rename_i hm;cases h;rw[ζ hm] at u;exact⟨by rw[u,q,ξ (hn.resolve_right hu)],rfl,rfl⟩
  ·rw[ζ hn];have hk0:Y=0:=by rw[q,ζ (fun h=>hn (.inl h)),ζ (fun h=>hn (.inr h))]
   subst hk0;have hsb:=aEy;have h13:yJ.length≤13:=by decide
   refine⟨if oP S=[] then 0 else 4,oP S,0,pre _ _ ?_,fun k t v h=>?_⟩
   ·refine aA (sg rfl (aB rfl (fun hb=>absurd hb (by decide)) (fun _=>aF ?_)));have hne:∀x∈yJ,¬x=[]:=by decide
    rw[hsy];clear hsy;generalize yJ=L at *;have hkl:(L.map aR).length=L.length:=η _;refine aA (aA (aC mixed (kc hsb ?_)));refine kz 2 rfl (aE (aP (fun i:Nat=>mk [(0,Go.AM.T S),(2,.one (.vp 2 0)),(54,.one (.c (.sl 1 (L.map aR)))),(55,I .i64 ((L.map aR).length:Nat)),(56,I .i64 i)] [(2,.var 62 (aWh.map .c))]) (fun i=>i≤L.length∧(L.take i).find? (fun x=>preB x S)=none) (fun i=>L.length-i) 0 ⟨Ae _,rfl⟩ sl ?_));rintro i ⟨hi,U⟩;refine sg rfl (aA (aB rfl (fun hb=>?_) (fun hb=>?_)))
    ·have O:=ltD hb hkl;obtain⟨x,hx⟩:=aJ O;have hx':=b9 aR hx;have hpx:=rJ S x;refine aF (aA (aE (sgh [(0,.row i (aR x))] rfl (sk 2 rfl (kc hpx ?_)))));refine az (aB rfl (fun hb=>?_) (fun hb=>?_))
     ·rw[rX U hx hb];dsimp only;rw[ζ (hne x (Aa hx)),ζ (hne x (Aa hx))];exact sg rfl (aD (aSm trw))
     ·exact aF (ag [] rfl ⟨i+1,⟨O,rY U hx hb⟩,by dsimp only;omega,sl⟩)
    ·have hge:=geD hb hkl hi;rw[hge,Aw] at U;rw[U];dsimp only;rw[ξ rfl,ξ rfl];exact aS (sg rfl (aD (aSm trw)))
   ·split at h
    ·cases h
    ·rename_i hs;cases h;exact⟨ζ hs,rfl,rfl⟩
def blS:Str:=[32,9,10]
theorem aYx (c:UInt8):ixB blS c=blB c.toNat:=iM (p:=fun c=>ixB blS c=blB c.toNat) (by decide+kernel) c
theorem aH1 {s:Str}(h:preB [45,45] s=true):cN neB s=2+cN neB (s.drop 2):=by
 unfold preB at h;rw[Ab] at h;have h2:=ω h.2
 match s,h2 with
 | a::b::r,h2=>
  have h2:[a,b]=[45,45]:=h2;cases h2;rw[cN,ξ (by decide),cN,ξ (by decide)];show cN neB r+1+1=2+cN neB r;omega
theorem aYv (c:UInt8):bI Tryz.prog 60 [I .u8 (c.toNat:Nat)] [] (B (neB c.toNat)) []:=by
 have e:(!decide ((c.toNat:Int)=10))=neB c.toNat:=by
  unfold neB;by_cases h:c.toNat=10
  ·rw[χ h,χ (by omega)]
  ·rw[φ h,φ (by omega)]
 rw[←e];refine bM (n:=5) tok Tryz.func60 rfl rfl rfl ?_;exact sg rfl (sg rfl (aD rtT))
theorem aJe (S:Str):bI Tryz.prog 20 [Go.AM.T S] [] (aP9 (lexA S)) []:=by
 refine bM (n:=65) tok Tryz.func20 rfl rfl rfl ?_;refine sg rfl (aJz ?_);refine aA (sg rfl (aB rfl (fun hb=>?_) (fun hb=>?_)))
 ·unfold lexA;rw[ξ (by have:=ω hb;omega)];exact sg rfl (aD (aXc trw))
 have hl:S.length≤4000:=by have:=Ai hb;omega
 have hA:lexA S=aWm [] (jA S.length 0 (S.drop 0)):=by
  unfold lexA;rw[ζ (by omega),B8];cases jA S.length 0 S<;>rfl
 refine aF (sg rfl (sg rfl (AWp.sub (Sub.own (t:=4) (id:=500) 62 4 rfl rfl) ?_)));refine aA (aJ0 ?_);refine aA (aE (aP (fun p:Nat×Nat×List Tk=>mk [(0,Go.AM.T S),(3,.one (.vp 3 0)),(4,.one (.hs 500 0 p.2.2.length p.2.2.length)),(5,I .i64 p.1)] [(3,.var 33 [.c (.int .i64 0),.c (.int .i64 0)]),(500,.arr 62 4 (p.2.2.map aK) 0)]) (fun p=>p.1≤S.length∧S.length-p.1≤p.2.1∧p.2.2.length+(S.length-p.1)≤S.length∧lexA S=aWm p.2.2 (jA p.2.1 p.1 (S.drop p.1))) (fun p=>p.2.1) (0,S.length,[]) ⟨Ae _,by dsimp only;omega,by dsimp only;simp,hA⟩ sl ?_));rintro⟨i,f,out⟩ ⟨hi,hf,U,q⟩;dsimp only at hi hf U q ⊢;have hout:(out.map aK).length=out.length:=η _;refine aA (sg rfl (aB rfl (fun hb=>?_) (fun hb=>?_)))
 ·have hlt:i<S.length:=by have:=ω hb;omega
  obtain⟨g,rfl⟩:∃g,f=g+1:=⟨f-1,by omega⟩
  obtain⟨c,r,y⟩:∃c r,S.drop i=c::r:=by
   cases h:S.drop i with
   | nil=>
    have:=congrArg List.length h;rw[Be,length_nil] at this;omega
   | cons c r=>exact⟨c,r,rfl⟩
  have hci:S[i]?=some c:=by
   have:=congrArg (fun l=>l[0]?) y;simpa [Am] using this
  have Y:(c::r).length=S.length-i:=by rw[←y,Be]
  rw[κ] at Y;obtain⟨k0,t0,v0,aa,ab⟩:=aVo c r (by omega);have ac:=rK blS c;have J:=aYx c;unfold ixB at J;have ad:=rJ (c::r) [45,45];have ae:=aAa 60 neB (c::r) (by rw[κ];omega) (by kernel_rfl) fun d _=>aYv d
  have O:=aJh (c::r);have af:= @lK c r;have ah:= @aBt c r;have B:= @aH1 (c::r);have u:eX (c::r)=if blB c.toNat=true then 1 else if preB [45,45] (c::r)=true then 2+cN neB ((c::r).drop 2) else 0:=rfl
  rw[y,jA] at q;have M:∀m:Nat,(c::r).drop m=S.drop (i+m):=fun m=>by rw[←y,Cr]
  rw[κ] at O;refine aF (aE (aA (sg rfl ?_)));rw[y];refine aE (skh 3 [(2,.byte i c)] rfl (kc ac ?_));refine kz 2 rfl ?_;rw[J];by_cases E:blB c.toNat=true
  ·rw[E];rw[ξ E] at u;rw[u,ξ (by decide),M] at q;exact aB rfl (fun _=>aA (agN [] rfl (aS ⟨(i+1,g,out),⟨by dsimp only;omega,by dsimp only;omega,by dsimp only;omega,q⟩,by dsimp only;omega,sl⟩))) (fun hb=>absurd hb (by decide))
  rw[ζ E] at u;rw[Bool.not_eq_true _ |>.mp E];refine aB rfl (fun hb=>absurd hb (by decide)) (fun _=>sk 1 rfl (kc ad ?_));refine kz 1 rfl (aB rfl (fun hb=>?_) (fun hb=>?_))
  ·rw[ξ hb,←B hb] at u;have ai:0<cN neB (c::r):=by rw[B hb];omega
   rw[u,ξ ai,M] at q;rw[u] at O;generalize cN neB (c::r)=m at *;refine aA (aC mixed (akN 2 [] rfl (kc ae ?_)));exact akN 2 [] rfl (az (aS ⟨(i+m,g,out),⟨by dsimp only;omega,by dsimp only;omega,by dsimp only;omega,q⟩,by dsimp only;omega,sl⟩))
  ·rw[ζ (by rw[hb];exact π)] at u;rw[ζ (by rw[u];exact lt_irrefl 0)] at q;refine aF (sk 3 rfl ?_);rw[y];refine kc aa ?_;generalize fQ (c::r)=o at *;cases o with
   | error e=>
    dsimp only at q;have he:=ah rfl;rw[q];exact kz 6 rfl (aA (sg rfl (aB rfl (fun _=>sg rfl (aD (aXc trw))) (fun hb=>absurd hb (by simp[aL3,he])))))
   | ok p=>
    obtain⟨k,t,v⟩:=p;obtain⟨e1,e2,e3⟩:=ab k t v rfl;subst e1 e2 e3;dsimp only at q;obtain⟨ht1,aj⟩:=af rfl;rw[κ] at aj;rw[aHe,M] at q;refine kz 6 rfl (aA (sg rfl (aB rfl (fun hb=>absurd hb (by simp[aL3])) (fun _=>aF (sg rfl (sgh [(1,.all),(2,.all)] rfl (agN [] rfl ?_)))))));have A:out.map aK++[[.int .i64 k0,.str t0,.int .i64 v0,.int .i64 (i:Int)]]=(out++[(⟨k0,t0,v0,i⟩:Tk)]).map aK:=by simp[aK]
    exact⟨(i+t0.length,g,out++[⟨k0,t0,v0,i⟩]),⟨by dsimp only;omega,by dsimp only;omega,by dsimp only;rw[ψ,Bi];omega,q⟩,by dsimp only;omega,sl (he:=⟨rfl,rfl,Go.AM.hs_ren (by simp) (by simp),rfl,trivial⟩) (hh:=⟨⟨_,rfl,.var rfl⟩,⟨_,rfl,.arrS A⟩,trivial⟩)⟩
 ·have e:i=S.length:=by have:=Ai hb;omega
  have hE:jA f i (S.drop i)=.ok [⟨6,[],0,i⟩]:=by
   rw[e,Cq];cases f<;>rfl
  rw[hE] at q;rw[q];have A:out.map aK++[[.int .i64 6,.str [],.int .i64 0,.int .i64 (i:Int)]]=(out++[(⟨6,[],0,i⟩:Tk)]).map aK:=by simp[aK]
  refine aS (sgh [(4,.all)] rfl ?_);subst e;show AWp _ _ _ _ _ _ (aO2 fun ex st=>(ex=.normal∨ex=.ret)∧Fin _ _ st _ (aP9 (.ok (out++[⟨6,[],0,(S.length:Int)⟩]))) _);unfold aP9;dsimp only;rw[←A];refine AWp.sub (Sub.freeze (id:=500) rfl) (AWp.sub (cv 2 (out.map aK++[[.int .i64 6,.str [],.int .i64 0,.int .i64 (S.length:Int)]])) ?_);exact aD (aXc trw)
def aKq:List Str:=[[73,110,116],[66,111,111,108],[76],[80],[70],[45,62]]
theorem aOh (n:Int) (hn:i64 n):bI Tryz.prog 201 [I .i64 n] [] (Go.AM.T (oneOf aKq n)) []:=by
 refine bM (n:=8) tok Tryz.func201 rfl rfl rfl ?_;refine sg rfl ?_;obtain⟨k,q⟩:=Int.eq_ofNat_of_zero_le (cP n (k:=6) (by omega)).1;have hx:=u7 (l:=aKq) (n:=n) (by decide) q;have r:=(cP n (k:=6) (by omega)).2
 refine sk 2 rfl (kc (lQ n 6 hn (by omega)) ?_);exact ak 3 [(3,.row k []),(4,.row k (aR (oneOf aKq n)))] rfl (az (aD ⟨.inr rfl,⟨_,_,.tmp rfl .nil,.cons .refl .nil,rfl⟩,trivial,rfl⟩))
def c6:Nat→List Int→Ty×List Int
 | _,[]=>(aW5,[])
 | 0,x::l=>
  if dM x 40%5<2 then(.mk 2 0 (oneOf aKo (dM x 40/10)) [],l)
  else if dM x 40%5<3 then(.mk 1 (1+dM x 40/10) [] [],l)
  else(.mk 3 0 (oneOf aKq (dM x 40/5)) [],l)
 | d+1,x::l=>
  if dM x 40%10<2 then(.mk 2 0 (oneOf aKo (dM x 40/10)) [],l)
  else if dM x 40%10<3 then(.mk 1 (1+dM x 40/10) [] [],l)
  else if dM x 40%10<5 then(.mk 3 0 (oneOf aKq (dM x 40/5)) [],l)
  else if dM x 40%10<8 then(lH (c6 d l).1 (c6 d (c6 d l).2).1,(c6 d (c6 d l).2).2)
  else(dF (c6 d l).1 (c6 d (c6 d l).2).1,(c6 d (c6 d l).2).2)
theorem oJ:∀(d:Nat) (l:List Int),(c6 d l).2<:+l
 | 0,[]=>by simp[c6]
 | _+1,[]=>by simp[c6]
 | 0,x::l=>by
  have h:l<:+x::l:=⟨[x],rfl⟩
  rw[c6];split
  ·exact h
  ·split<;>exact h
 | d+1,x::l=>by
  have h:l<:+x::l:=⟨[x],rfl⟩
  have h2:=((oJ d (c6 d l).2).trans (oJ d l)).trans h;rw[c6];split
  ·exact h
  ·split
   ·exact h
   ·split
    ·exact h
    ·split<;>exact h2
def pL (l:List Int):V:=.one (.c (.sl 1 (l.map lN)))
theorem aRu:∀(d:Nat) (l:List Int) (q:Int),sB l→Fits l→q+d=5→0≤q→bI Tryz.prog 168 [pL l,I .i64 q,B false] [] (.tup [tyV (c6 d l).1,pL (c6 d l).2]) []:=by
 intro d
 induction d with
 | zero=>
  intro l q hl hf hd h0;refine bM (n:=90) tok Tryz.func168 rfl rfl rfl ?_;refine sg rfl (aA (sg rfl ?_));cases l with
  | nil=>
   refine aB rfl (fun _=>sg rfl (aD ?_)) (fun hb=>by simp at hb);rw[show c6 0 []=(aW5,[]) by simp[c6]];exact⟨.inr rfl,⟨_,_,.cell rfl (tg rfl) rfl rfl rfl (.tmp rfl .nil),.cons (.pa (.c .refl (.c .refl (.c .refl (.c .nl .nil))))) (.cons .refl .nil),rfl⟩,trivial,rfl⟩
  | cons x l=>
   have hx:=hl x (by simp);have hn:=cP x (k:=40) (by omega);have y:=lQ x 40 hx (by omega);rw[c6];generalize dM x 40=n at hn y ⊢;refine aB rfl (fun hb=>by simp at hb;omega) (fun _=>aF (sgh [(1,.row 0 (lN x)),(3,.pc (I .i64 n))] rfl (sg rfl (sg rfl (aA (sg rfl (aB rfl (fun _=>ag [] rfl (aA (sg rfl (aB rfl (fun hb=>?_) (fun hb=>?_))))) (fun hb=>by simp at hb;omega))))))))
   ·have hb:n%5<2:=by simpa using hb
    rw[ξ hb];have hnm:=aI3 (n/10) (by unfold i64;omega);exact sgh [(2,.pc (Go.AM.T (oneOf aKo (n/10))))] rfl (aD ⟨.inr rfl,⟨_,_,.cell rfl (tg rfl) rfl rfl rfl (.tmp rfl .nil),.cons (.pa (.c .refl (.c .refl (.c .refl (.c .nl .nil))))) (.cons .refl .nil),rfl⟩,trivial,rfl⟩)
   have A:¬n%5<2:=by simpa using hb
   rw[ζ A];refine aF (aA (sg rfl (aB rfl (fun hb=>?_) (fun hb=>?_))))
   ·have hb:n%5<3:=by simpa using hb
    rw[ξ hb];exact sg rfl (aD ⟨.inr rfl,⟨_,_,.cell rfl (tg rfl) rfl rfl rfl (.tmp rfl .nil),.cons (.pa (.c .refl (.c .refl (.c .refl (.c .nl .nil))))) (.cons .refl .nil),rfl⟩,trivial,rfl⟩)
   have E:¬n%5<3:=by simpa using hb
   rw[ζ E];refine aF (aA (sg rfl (aB rfl (fun _=>?_) (fun hb=>by simp at hb;omega))));have hcn:=aOh (n/5) (by unfold i64;omega);exact sgh [(2,.pc (Go.AM.T (oneOf aKq (n/5))))] rfl (aD ⟨.inr rfl,⟨_,_,.cell rfl (tg rfl) rfl rfl rfl (.tmp rfl .nil),.cons (.pa (.c .refl (.c .refl (.c .refl (.c .nl .nil))))) (.cons .refl .nil),rfl⟩,trivial,rfl⟩)
 | succ d ih=>
  intro l q hl hf hd h0;refine bM (n:=90) tok Tryz.func168 rfl rfl rfl ?_;refine sg rfl (aA (sg rfl ?_));cases l with
  | nil=>
   refine aB rfl (fun _=>sg rfl (aD ?_)) (fun hb=>by simp at hb);rw[show c6 (d+1) []=(aW5,[]) by simp[c6]];exact⟨.inr rfl,⟨_,_,.cell rfl (tg rfl) rfl rfl rfl (.tmp rfl .nil),.cons (.pa (.c .refl (.c .refl (.c .refl (.c .nl .nil))))) (.cons .refl .nil),rfl⟩,trivial,rfl⟩
  | cons x l=>
   have hx:=hl x (by simp);have hn:=cP x (k:=40) (by omega);have y:=lQ x 40 hx (by omega);have M:l<:+x::l:=⟨[x],rfl⟩
   have O:=hl.suf M;have U:=hf.suf M;have Y:=oJ d l;have ih1:=ih l (q+1) O U (by omega) (by omega);have aa:=ih (c6 d l).2 (q+1) (O.suf Y) (U.suf Y) (by omega) (by omega);rw[c6];generalize dM x 40=n at hn y ⊢;generalize c6 d (c6 d l).2=r2 at aa ⊢;generalize c6 d l=r1 at ih1 aa ⊢;obtain⟨⟨f1,r,s1,u⟩,l1⟩:=r1;obtain⟨⟨f2,J,s2,a2⟩,l2⟩:=r2;have hfu:=aVt (.mk f1 r s1 u) (.mk f2 J s2 a2);have hap:=aRv (.mk f1 r s1 u) (.mk f2 J s2 a2);refine aB rfl (fun hb=>by simp at hb;omega) (fun _=>aF (sgh [(1,.row 0 (lN x)),(3,.pc (I .i64 n))] rfl (sg rfl (sg rfl (aA (sg rfl (aB rfl (fun hb=>by simp at hb;omega) (fun _=>aF (aA (sg rfl (aB rfl (fun hb=>?_) (fun hb=>?_))))))))))))
   ·have hb:n%10<2:=by simpa using hb
    rw[ξ hb];have hnm:=aI3 (n/10) (by unfold i64;omega);exact sgh [(2,.pc (Go.AM.T (oneOf aKo (n/10))))] rfl (aD ⟨.inr rfl,⟨_,_,.cell rfl (tg rfl) rfl rfl rfl (.tmp rfl .nil),.cons (.pa (.c .refl (.c .refl (.c .refl (.c .nl .nil))))) (.cons .refl .nil),rfl⟩,trivial,rfl⟩)
   have A:¬n%10<2:=by simpa using hb
   rw[ζ A];refine aF (aA (sg rfl (aB rfl (fun hb=>?_) (fun hb=>?_))))
   ·have hb:n%10<3:=by simpa using hb
    rw[ξ hb];exact sg rfl (aD ⟨.inr rfl,⟨_,_,.cell rfl (tg rfl) rfl rfl rfl (.tmp rfl .nil),.cons (.pa (.c .refl (.c .refl (.c .refl (.c .nl .nil))))) (.cons .refl .nil),rfl⟩,trivial,rfl⟩)
   have E:¬n%10<3:=by simpa using hb
   rw[ζ E];refine aF (aA (sg rfl (aB rfl (fun hb=>?_) (fun hb=>?_))))
   ·have hb:n%10<5:=by simpa using hb
    rw[ξ hb];have hcn:=aOh (n/5) (by unfold i64;omega);exact sgh [(2,.pc (Go.AM.T (oneOf aKq (n/5))))] rfl (aD ⟨.inr rfl,⟨_,_,.cell rfl (tg rfl) rfl rfl rfl (.tmp rfl .nil),.cons (.pa (.c .refl (.c .refl (.c .refl (.c .nl .nil))))) (.cons .refl .nil),rfl⟩,trivial,rfl⟩)
   have hb5:¬n%10<5:=by simpa using hb
   rw[ζ hb5];refine aF (sgh [(4,.pc (.tup [tyV (.mk f1 r s1 u),pL l1]))] rfl (aA (aA (AWp.cut (mk [(0,pL l),(1,I .i64 q),(2,B false),(6,.one (.vp 6 0)),(8,I .i64 n),(9,I .i64 (n%10)),(10,.one (.vp 10 0)),(11,pL l1),(64,B false)] [(6,.var 43 [.c (.int .i64 0),.c (.int .i64 0),.c (.str []),.c .nl]),(10,.var 43 ((bG (.mk f1 r s1 u)).map R.c))]) ?_ ?_))))
   ·by_cases h9:n%10=9
    ·have e9:decide (n%10=9)=true:=χ h9;exact ag [(2,.bv true),(4,.bv true)] rfl sl
    ·have e9:decide (n%10=9)=false:=φ h9;exact ag [(2,.bv false),(4,.bv false)] rfl sl
   refine aB rfl nofun (fun _=>aF (sgh [(4,.pc (.tup [tyV (.mk f2 J s2 a2),pL l2]))] rfl (aA (sg rfl (aB rfl (fun hb=>?_) (fun hb=>?_))))))
   ·have hb:n%10<8:=by simpa using hb
    rw[ξ hb];exact sgh [(2,.pc (.pa (bG (lH (.mk f1 r s1 u) (.mk f2 J s2 a2)))))] rfl (aD ⟨.inr rfl,⟨_,_,.cell rfl (tg rfl) rfl rfl rfl (.tmp rfl .nil),.cons .refl (.cons .refl .nil),rfl⟩,trivial,rfl⟩)
   ·have hb:¬n%10<8:=by simpa using hb
    rw[ζ hb];exact aF (sgh [(2,.pc (.pa (bG (dF (.mk f1 r s1 u) (.mk f2 J s2 a2)))))] rfl (aD ⟨.inr rfl,⟨_,_,.cell rfl (tg rfl) rfl rfl rfl (.tmp rfl .nil),.cons .refl (.cons .refl .nil),rfl⟩,trivial,rfl⟩))
theorem aRe (l:List Int) (hl:sB l) (q:Fits l):bI Tryz.prog 123 [pL l] [] (tyV (c6 5 (l.take 24)).1) []:=by
 have hi:bI Tryz.prog 66 [pL l,I .i64 (24:Nat)] [] (pL (l.take 24)) []:=aOj l 24 q (by omega);have hb:=aRu 5 (l.take 24) 0 (fun x hx=>hl x (By hx)) (by unfold Fits at *;rw[Ak];omega) (by omega) (by omega);generalize c6 5 (l.take 24)=r at hb ⊢;obtain⟨⟨f1,u,s1,y⟩,A⟩:=r;refine bM (n:=12) tok Tryz.func123 rfl rfl rfl ?_;exact sg rfl (sgh [(1,.pc (pL (l.take 24))),(2,.pc (.tup [tyV (.mk f1 u s1 y),pL A]))] rfl (sg rfl (aD ⟨.inr rfl,⟨_,_,.cell rfl (tg rfl) rfl rfl rfl .nil,.cons .refl .nil,rfl⟩,trivial,rfl⟩)))
mutual
def tn:Ty→Nat
 | .mk _ _ s a=>1+s.length+tns a
def tns:List Ty→Nat
 | []=>0
 | t::l=>tn t+tns l
end
theorem vQ (t:Ty):1≤tn t:=by cases t;rw[tn];omega
theorem aFz:∀l:List Ty,l.length≤tns l
 | []=>Ae _
 | t::l=>by rw[tns,κ];have:=aFz l;have:=vQ t;omega
theorem qJ:∀{l:List Ty}{t:Ty},t∈l→tn t≤tns l
 | u::l,t,h=>by
  rw[tns];rcases Aq.1 h with rfl | h
  ·omega
  ·have:=qJ h;omega
theorem xS (t:Ty) (ht:t.args.length≤1000000) (y:∀u∈t.args,bI Tryz.prog 235 [tyV u] [] (tyV u) []):bI Tryz.prog 235 [tyV t] [] (tyV t) []:=by
 obtain⟨f,n,s,a⟩:=t;have y:∀u∈a,bI Tryz.prog 235 [tyV u] [] (tyV u) []:=y;have J:a.length≤1000000:=ht;have q:(dT a).length=a.length:=by rw[jB,η]
 refine bM (n:=22) tok Tryz.func235 rfl rfl rfl ?_;refine sg rfl (sg rfl (AWp.sub (Sub.own (t:=3) (id:=600) 43 4 rfl rfl) ?_));refine aA (sg rfl (aE (aP (fun i:Nat=>mk [(1,.one (.vp 1 0)),(2,.one (.vp 2 0)),(3,.one (.hs 600 0 ((dT a).take i).length ((dT a).take i).length)),(7,.one (.c (.sl 4 (dT a)))),(8,I .i64 ((dT a).length:Int)),(9,I .i64 i)] [(600,.arr 43 4 ((dT a).take i) 0),(1,.var 43 ((bG (.mk f n s a)).map R.c)),(2,.var 43 [.c (.int .i64 0),.c (.int .i64 0),.c (.str []),.c .nl])]) (fun i=>i≤a.length) (fun i=>a.length-i) 0 (Ae _) sl ?_)));intro i hi;have M:((dT a).take i).length=i:=by rw[Ak];omega
 refine sg rfl (aA (aB rfl (fun hb=>?_) (fun hb=>?_)))
 ·have r:=ltD hb q;obtain⟨u,hu⟩:=aJ r;have A:(dT a)[i]?=some (bG u):=by rw[jB];exact b9 bG hu
  have hc:=y u (Aa hu);have B:(dT a).take (i+1)=(dT a).take i++[bG u]:=by rw[Bw,A];rfl
  refine aF (aA (aE (sgh [(0,.row i (bG u))] rfl (aC mixed (ak 2 [] rfl (kc hc ?_))))));refine ak 3 [(3,.all)] rfl (az (ag [] rfl ⟨i+1,r,by dsimp only;omega,?_⟩));dsimp only;rw[B];exact sl
 have E:=geD hb q hi;subst E;rw[show(dT a).take a.length=dT a by rw[←q,Aw]];refine aS (AWp.sub (Sub.freeze (id:=600) rfl) ?_);refine sg rfl (AWp.sub (vp 1 (bG (.mk f n s a))) ?_);exact sg rfl (aD (rtC trw))
mutual
def wfS:Ty→Bool
 | .mk f n s a=>(if f=4 then decide (n=0∧s=[]∧a.length=2) else if f=5 then decide (n=0∧a.length=1) else a.isEmpty)&&aO6 a
def aO6:List Ty→Bool
 | []=>true
 | t::l=>wfS t&&aO6 l
end
theorem aAv:∀{l:List Ty}{t:Ty},aO6 l=true→t∈l→wfS t=true
 | u::l,t,h,ht=>by
  rw[aO6,Ab] at h;rcases Aq.1 ht with rfl | ht
  ·exact h.1
  ·exact aAv h.2 ht
theorem aNd {f n:Int}{s:Str}{a:List Ty}(h:wfS (.mk f n s a)=true):a.length≤2∧(∀u∈a,wfS u=true)∧(f=4→n=0∧s=[]∧∃u v,a=[u,v])∧(f=5→n=0∧∃u,a=[u])∧(¬f=4→¬f=5→a=[]):=by
 rw[wfS,Ab] at h;obtain⟨h1,h2⟩:=h;refine⟨?_,fun u hu=>aAv h2 hu,fun q=>?_,fun r=>?_,fun q r=>?_⟩
 ·split at h1
  ·exact Nat.le_of_eq (ω h1).2.2
  ·split at h1
   ·rw[(ω h1).2];omega
   ·rw[List.isEmpty_iff.1 h1];simp
 ·rw[ξ q] at h1;obtain⟨y,a2,a3⟩:=ω h1
  match a,a3 with
  | [u,v],_=>exact⟨y,a2,u,v,rfl⟩
 ·rw[ζ (by omega),ξ r] at h1;obtain⟨y,a2⟩:=ω h1;exact⟨y,List.length_eq_one_iff.1 a2⟩
 ·rw[ζ q,ζ r] at h1;exact List.isEmpty_iff.1 h1
theorem aI2:∀(k:Nat) (t:Ty),tn t≤k→wfS t=true→bI Tryz.prog 235 [tyV t] [] (tyV t) []
 | 0,t,h,_=>by have:=vQ t;omega
 | k+1,t,h,hw=>by
  obtain⟨f,n,s,a⟩:=t;obtain⟨h1,h2,_⟩:=aNd hw;exact xS (.mk f n s a) (show a.length≤_ by omega) fun u hu=>aI2 k u (by have hu:u∈a:=hu;have:=qJ hu;rw[tn] at h;omega) (h2 u hu)
theorem uU (a b:Ty):bI Tryz.prog 236 [tyV a,tyV b] [] (tyV (dF a b)) []:=by
 refine bM (n:=9) tok Tryz.func236 rfl rfl rfl ?_;exact sg rfl (sgh [(2,.all)] rfl (aD (rtC trw)))
theorem aVi (s:Str):bI Tryz.prog 85 [Go.AM.T s] [] (tyV (.mk 2 0 s [])) []:=by
 refine bM (n:=5) tok Tryz.func85 rfl rfl rfl ?_;exact sg rfl (sg rfl (aD (rtC trw)))
end Go.Proofs.YtkhgpgihmphfdaaGreatDoor
