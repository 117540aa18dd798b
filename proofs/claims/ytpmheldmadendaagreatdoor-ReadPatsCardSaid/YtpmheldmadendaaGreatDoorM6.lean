/-
  Texts Am27 to Rd9 in one.
-/
import Derived.Test.YtpmheldmadendaaGreatDoorM5
import Derived.Test.YtpmheldmadendaaGreatDoorProg
import Derived.KernelRfl
import Derived.Laws.RangeString
import Derived.Lib.OthersKept
import Derived.LoopTactic
import Derived.Tactics2
import Derived.Shelf.Spec.SlicesGrow
import Derived.Laws.Runes
import Derived.Laws.MakeOwn
import Derived.Lib.Bytealg
import Derived.IntWalk
import Derived.ControlIn
open List (drop_append drop_drop drop_eq_getElem_cons drop_length drop_zero eq_nil_of_length_eq_zero length_append length_cons length_drop length_map length_nil length_pos_iff length_singleton length_take take_add_one take_append_drop take_length take_of_length_le)
open Nat (le_refl le_trans lt_of_lt_of_le min_eq_left sub_self zero_le)
namespace Go.AM
open Go
theorem Ole.arrS {σ:Nat→Nat}{te es fz:Nat}{l c:List (List C)}(h:l=c):Ole σ (.arr te es l fz) (.arr te es c fz):=by subst h;exact .arr
theorem hs_ren {id off a b c q:Nat}(h:a=c) (k:b=q):some (V.one (.hs id off a b))=some (V.ren (fun i=>i) (V.one (.hs id off c q))):=by subst h;subst k;rfl
theorem sl {kf:List Nat}{c:St}{q:List (Nat×V)}{hl:List (Nat×AObj)}
  (he:eN (fun p=>c.e p.1=some (p.2.ren (fun i=>i))) q:=by repeat (first | exact trivial | refine⟨by first | rfl | exact Go.AM.hs_ren (by first | (simp;done) | (simp;omega)) (by first | (simp;done) | (simp;omega)),?_⟩))
  (hh:eN (fun p=>∃o,c.h p.1=some o∧Ole (fun i=>i) o p.2) hl:=by repeat (first | exact trivial | refine⟨⟨_,rfl,by first | exact Go.AM.Ole.arr | exact Go.AM.Ole.var rfl | exact Go.AM.Ole.map | exact Go.AM.Ole.rarr rfl | exact Go.AM.Ole.arr1 | exact Go.AM.Ole.arrS (by first | assumption | (simp;done) | (simp;rfl) | (simp;omega)) | exact Go.AM.Ole.arrE (by first | assumption | (simp;done) | (simp;rfl) | (simp;omega)) | exact Go.AM.Ole.var (by first | (simp[Go.AM.R.renL,Go.AM.R.ren];done) | (simp[Go.AM.R.renL,Go.AM.R.ren];omega)) | exact Go.AM.Ole.mapE (by first | assumption | (simp;done) | (simp;rfl) | (simp;omega))⟩,?_⟩))
  (hok:(aPx kf (fun i=>i) q hl&&eqL [] c.d)=true:=by rfl):Sub kf (mk q hl) c:=Sub.list (fun i=>i) he hh hok
theorem take_all {α:Type}{l:List α}{n:Nat}(h:n=l.length):l=(l.drop 0).take n:=by rw[h,B1,Az]
theorem ltD {i n:Nat}{l:List (List C)}(h:decide ((i:Int)<(l.length:Int))=true) (e:l.length=n):i<n:=by
 have:(i:Int)<(l.length:Int):=by simpa using h
 omega
theorem geD {i n:Nat}{l:List (List C)}(h:decide ((i:Int)<(l.length:Int))=false) (e:l.length=n) (hi:i≤n):i=n:=by
 have:¬(i:Int)<(l.length:Int):=by simpa using h
 omega
section
variable {T:TT}{fn:Func}{st:St}{hin hout:List (Nat×AObj)}{res:V}
theorem rtT {t:Nat}{v:V}{ids:List Nat}(q:fn.results.toList=[.tmp t]:=by rfl) (r:st.e t=some v:=by rfl)
  (hc:Conv st.h ids v res:=by first | exact .refl | exact .one (.c .nl .nil) | ((first | apply Go.AM.Conv.pa | apply Go.AM.Conv.agg);repeat (first | exact .nil | apply Go.AM.PureL.c .refl | apply Go.AM.PureL.c .nl | (apply Go.AM.PureL.hs;rfl;(first | rfl | assumption | simp);(first | rfl | exact Go.AM.take_all (by first | assumption | rfl | (simp;done)) | exact Go.AM.take_map.symm)))))
  (ho:eN (fun p=>∃o,st.h p.1=some o∧Ole (fun i=>i) o p.2) hout:=by repeat (first | exact trivial | refine⟨⟨_,rfl,by first | exact Go.AM.Ole.arr | exact Go.AM.Ole.var rfl | exact Go.AM.Ole.map | exact Go.AM.Ole.rarr rfl | exact Go.AM.Ole.arr1 | exact Go.AM.Ole.arrS (by first | assumption | (simp;done) | (simp;rfl) | (simp;omega)) | exact Go.AM.Ole.arrE (by first | assumption | (simp;done) | (simp;rfl) | (simp;omega)) | exact Go.AM.Ole.var (by first | (simp[Go.AM.R.renL,Go.AM.R.ren];done) | (simp[Go.AM.R.renL,Go.AM.R.ren];omega)) | exact Go.AM.Ole.mapE (by first | assumption | (simp;done) | (simp;rfl) | (simp;omega))⟩,?_⟩))
  (hok:(subset res.refs (keys hout)&&subset (eK hout) (keys hout)&&distinct (keys hout)&&subset (keys hin) (keys hout)&&(hin.all fun p=>p.2.plain)&&(hout.all fun p=>p.2.plain))=true:=by rfl):(Exit.ret=.normal∨Exit.ret=.ret)∧Fin T fn st hin res hout:=
 ⟨.inr rfl,⟨[v],[res],by rw[q];exact .tmp r .nil,.cons hc .nil,rfl⟩,ho,hok⟩
theorem rtC {tr:Tr}{a t:Nat}{i:TI}{id off tv:Nat}{cells:List R}{v:V}{ids:List Nat}(hw:tr.wf=true) (q:fn.results.toList=[.cell a t]:=by rfl) (hi:tr.get t=some i:=by rfl) (ha:st.e a=some (.one (.vp id off)):=by rfl) (hh:st.h id=some (.var tv cells):=by rfl) (hb:Nat.ble (off+i.size) cells.length=true:=by rfl) (r:gX i ((cells.drop off).take i.size)=some v:=by rfl)
  (hc:Conv st.h ids v res:=by first | exact .refl | exact .one (.c .nl .nil) | ((first | apply Go.AM.Conv.pa | apply Go.AM.Conv.agg);repeat (first | exact .nil | apply Go.AM.PureL.c .refl | apply Go.AM.PureL.c .nl | (apply Go.AM.PureL.hs;rfl;(first | rfl | assumption | simp);(first | rfl | exact Go.AM.take_all (by first | assumption | rfl | (simp;done)) | exact Go.AM.take_map.symm)))))
  (ho:eN (fun p=>∃o,st.h p.1=some o∧Ole (fun i=>i) o p.2) hout:=by repeat (first | exact trivial | refine⟨⟨_,rfl,by first | exact Go.AM.Ole.arr | exact Go.AM.Ole.var rfl | exact Go.AM.Ole.map | exact Go.AM.Ole.rarr rfl | exact Go.AM.Ole.arr1 | exact Go.AM.Ole.arrS (by first | assumption | (simp;done) | (simp;rfl) | (simp;omega)) | exact Go.AM.Ole.arrE (by first | assumption | (simp;done) | (simp;rfl) | (simp;omega)) | exact Go.AM.Ole.var (by first | (simp[Go.AM.R.renL,Go.AM.R.ren];done) | (simp[Go.AM.R.renL,Go.AM.R.ren];omega)) | exact Go.AM.Ole.mapE (by first | assumption | (simp;done) | (simp;rfl) | (simp;omega))⟩,?_⟩))
  (hok:(subset res.refs (keys hout)&&subset (eK hout) (keys hout)&&distinct (keys hout)&&subset (keys hin) (keys hout)&&(hin.all fun p=>p.2.plain)&&(hout.all fun p=>p.2.plain))=true:=by rfl):(Exit.ret=.normal∨Exit.ret=.ret)∧Fin tr.flat fn st hin res hout:=
 ⟨.inr rfl,⟨[v],[res],by rw[q];exact .cell ha (Tr.get_ok hw hi) hh hb r .nil,.cons hc .nil,rfl⟩,ho,hok⟩
end
end Go.AM
namespace Go.AM
open Go
theorem Sub.varPure {kf:List Nat}{st:St}{x tv:Nat}{cells:List R}{ids:List Nat}{cs:List C}(h:st.h x=some (.var tv cells)) (hp:PureL st.h ids cells cs):Sub kf ⟨st.e,upd st.h x (some (.var tv (cs.map R.c))),st.d⟩ st:=by
 intro G n S μ a w _ hs;have hi:=hs.inv;obtain⟨b,vs,g1,g2,g3,g4⟩:=hi.obj x _ h
 have A:Evolve S μ st.h S μ (upd st.h x (some (.var tv (cs.map R.c)))):=⟨S.le_refl,fun j y r=>by
  by_cases q:j=x
  ·subst q;rw[h] at r;cases r;exact⟨_,aH _ _ _,by simp[AObj.succ]⟩
  ·exact⟨y,by rw[bC _ _ _ q];exact r,y.succ_refl rfl⟩⟩
 have hold:∀j y,upd st.h x (some (.var tv (cs.map R.c))) j=some y→∃I,st.h j=some I:=fun j y r=>by
  by_cases q:j=x
  ·subst q;exact⟨_,h⟩
  ·rw[bC _ _ _ q] at r;exact⟨_,r⟩
 refine⟨S,μ,⟨⟨hi.holds,fun j y r=>?_,fun i j y I b c c' B r hm J=>?_,fun i y b c B hm=>?_,hi.frame,hi.sle,hi.sto,hi.evo.trans A,hi.fre⟩,hs.size,hs.defers.evolve A,fun s v e=>aK.evolve A v _ (hs.env s v e)⟩⟩
 ·by_cases q:j=x
  ·subst q;have E:some (AObj.var tv (cs.map R.c))=some y:=by rw[←r];exact(aH _ _ _).symm
   cases E;exact⟨b,vs,g1,g2,(hp.rel (fun _ _=>rfl) hi.obj g3).toR,g4⟩
  ·have E:st.h j=some y:=by rw[←r];exact(bC _ _ _ q).symm
   exact(hi.obj j y E).evolve A rfl fun _ _ _=>⟨rfl,fun _=>rfl,rfl⟩
 ·obtain⟨_,h1⟩:=hold _ _ B;obtain⟨_,h2⟩:=hold _ _ r;exact hi.inj i j _ _ b c c' h1 h2 hm J
 ·obtain⟨_,h1⟩:=hold _ _ B;exact hi.own i _ b c h1 hm
theorem vp {kf:List Nat}{st:St}(x:Nat) {tv:Nat}{cells:List R}(cs:List C) {ids:List Nat}(h:st.h x=some (.var tv cells):=by rfl)
  (hp:PureL st.h ids cells cs:=by repeat (first | exact .nil | apply Go.AM.PureL.c .refl | apply Go.AM.PureL.c .nl | apply Go.AM.PureL.c .sn | (apply Go.AM.PureL.hs;rfl;(first | rfl | assumption | (simp;done) | (simp;omega));(first | rfl | exact Go.AM.take_all (by first | assumption | rfl | (simp;done) | (simp;omega)) | exact Go.AM.take_map.symm)))):Sub kf ⟨st.e,upd st.h x (some (.var tv (cs.map R.c))),st.d⟩ st:=Sub.varPure h hp
theorem cv {kf:List Nat}{st:St}(t:Nat) {id te es n sz:Nat}{l:List (List C)}(q:List (List C)) (h:st.e t=some (.one (.hs id 0 n sz)):=by rfl) (hh:st.h id=some (.arr te es l 2):=by rfl) (h1:n=l.length:=by first | rfl | assumption | (simp;done) | (simp;omega)) (h2:sz=l.length:=by first | rfl | assumption | (simp;done) | (simp;omega)) (r:l=q:=by first | rfl | assumption | (simp;done)):Sub kf ⟨upd st.e t (some (.one (.c (.sl es q)))),st.h,st.d⟩ st:=by
 subst r;exact Sub.conv h (.one (.hs hh h2 (by rw[h1,B1,Az]) .nil))
end Go.AM
namespace Go.Proofs.YtpmheldmadendaaGreatDoor
open Go Go.AM
def zl_:Tr:=.leaf none
def zl0:Tr:=.leaf (some ⟨.fn,1,8,[.zv 1]⟩)
def zl1:Tr:=.leaf (some ⟨.int .u8,1,1,[.int .u8 0]⟩)
def zl2:Tr:=.leaf (some ⟨.int .i64,1,8,[.int .i64 0]⟩)
def zl3:Tr:=.leaf (some ⟨.str,1,16,[.str []]⟩)
def zl4:Tr:=.leaf (some ⟨.int .u64,1,8,[.int .u64 0]⟩)
def zl5:Tr:=.leaf (some ⟨.int .i32,1,4,[.int .i32 0]⟩)
def zl6:Tr:=.leaf (some ⟨.st [(0,3),(1,9),(2,3),(3,3)],4,40,[.int .i64 0,.str [],.int .i64 0,.int .i64 0]⟩)
def tr:Tr:=
 .node 143 (.node 71 (.node 35 (.node 17 (.node 8 (.node 4 (.node 2 (.node 1 zl_ zl0) (.node 1 zl2 zl2)) (.node 2 (.node 1 (.leaf (some ⟨.bool,1,1,[.bool false]⟩)) zl1) (.node 1 zl1 (.leaf (some ⟨.st [(0,2),(1,3),(2,4),(3,6)],4,24,[.int .i64 0,.int .i64 0,.bool false,.int .u8 0]⟩))))) (.node 4 (.node 2 (.node 1 (.leaf (some ⟨.st [(0,2),(1,3),(2,4),(3,6)],4,24,[.int .i64 0,.int .i64 0,.bool false,.int .u8 0]⟩)) zl3) (.node 1 zl3 zl3)) (.node 2 (.node 1 zl4 (.leaf (some ⟨.st [(0,9),(1,12)],2,24,[.str [],.int .u64 0]⟩))) (.node 1 (.leaf (some ⟨.st [(0,9),(1,12)],2,24,[.str [],.int .u64 0]⟩)) (.node 1 (.leaf (some ⟨.pt 274,1,8,[.np]⟩)) (.leaf (some ⟨.pt 277,1,8,[.np]⟩))))))) (.node 9 (.node 4 (.node 2 (.node 1 (.leaf (some ⟨.pt 285,1,8,[.np]⟩)) (.leaf (some ⟨.st [(0,17)],1,8,[.np]⟩))) (.node 1 (.leaf (some ⟨.st [(0,17)],1,8,[.np]⟩)) zl_)) (.node 2 (.node 1 zl5 (.leaf (some ⟨.sl 3,1,24,[.nl]⟩))) (.node 1 zl0 (.node 1 (.leaf (some ⟨.sl 81,1,24,[.nl]⟩)) (.leaf (some ⟨.sl 90,1,24,[.nl]⟩)))))) (.node 4 (.node 2 (.node 1 (.leaf (some ⟨.sl 95,1,24,[.nl]⟩)) (.leaf (some ⟨.sl 99,1,24,[.nl]⟩))) (.node 1 (.leaf (some ⟨.st [(0,24),(1,25),(2,26),(3,27)],4,96,[.nl,.nl,.nl,.nl]⟩)) (.leaf (some ⟨.st [(0,24),(1,25),(2,26),(3,27)],4,96,[.nl,.nl,.nl,.nl]⟩)))) (.node 2 (.node 1 zl2 (.leaf (some ⟨.st [(0,30),(1,3)],2,16,[.int .i64 0,.int .i64 0]⟩))) (.node 1 (.leaf (some ⟨.st [(0,30),(1,3)],2,16,[.int .i64 0,.int .i64 0]⟩)) (.node 1 zl_ zl0)))))) (.node 18 (.node 9 (.node 4 (.node 2 (.node 1 zl0 zl0) (.node 1 zl0 zl0)) (.node 2 (.node 1 zl0 (.leaf (some ⟨.sl 9,1,24,[.nl]⟩))) (.node 1 zl0 (.node 1 zl0 zl0)))) (.node 4 (.node 2 (.node 1 (.leaf (some ⟨.sl 49,1,24,[.nl]⟩)) (.leaf (some ⟨.sl 47,1,24,[.nl]⟩))) (.node 1 (.leaf (some ⟨.st [(0,3),(1,3),(2,9),(3,45)],4,56,[.int .i64 0,.int .i64 0,.str [],.nl]⟩)) (.leaf (some ⟨.st [(0,3),(1,3),(2,9),(3,45)],4,56,[.int .i64 0,.int .i64 0,.str [],.nl]⟩)))) (.node 2 (.node 1 (.leaf (some ⟨.st [(0,3),(1,3),(2,3),(3,9),(4,44),(5,47),(9,45)],10,144,[.int .i64 0,.int .i64 0,.int .i64 0,.str [],.nl,.int .i64 0,.int .i64 0,.str [],.nl,.nl]⟩)) (.leaf (some ⟨.st [(0,3),(1,3),(2,3),(3,9),(4,44),(5,47),(9,45)],10,144,[.int .i64 0,.int .i64 0,.int .i64 0,.str [],.nl,.int .i64 0,.int .i64 0,.str [],.nl,.nl]⟩))) (.node 1 zl_ (.node 1 zl0 zl0))))) (.node 9 (.node 4 (.node 2 (.node 1 zl0 zl0) (.node 1 (.leaf (some ⟨.sl 61,1,24,[.nl]⟩)) (.leaf (some ⟨.sl 87,1,24,[.nl]⟩)))) (.node 2 (.node 1 (.leaf (some ⟨.sl 113,1,24,[.nl]⟩)) (.leaf (some ⟨.st [(0,40),(1,56),(2,57),(3,47)],7,128,[.nl,.nl,.nl,.int .i64 0,.int .i64 0,.str [],.nl]⟩))) (.node 1 (.leaf (some ⟨.st [(0,40),(1,56),(2,57),(3,47)],7,128,[.nl,.nl,.nl,.int .i64 0,.int .i64 0,.str [],.nl]⟩)) (.node 1 (.leaf (some ⟨.st [(0,3),(1,3),(2,3),(3,9),(4,55),(5,44),(6,27),(7,59),(14,45)],15,264,[.int .i64 0,.int .i64 0,.int .i64 0,.str [],.nl,.nl,.nl,.nl,.nl,.nl,.int .i64 0,.int .i64 0,.str [],.nl,.nl]⟩)) (.leaf (some ⟨.st [(0,3),(1,3),(2,3),(3,9),(4,55),(5,44),(6,27),(7,59),(14,45)],15,264,[.int .i64 0,.int .i64 0,.int .i64 0,.str [],.nl,.nl,.nl,.nl,.nl,.nl,.int .i64 0,.int .i64 0,.str [],.nl,.nl]⟩)))))) (.node 4 (.node 2 (.node 1 zl_ zl0) (.node 1 zl0 zl0)) (.node 2 (.node 1 zl0 zl0) (.node 1 (.leaf (some ⟨.pt 126,1,8,[.np]⟩)) (.node 1 zl0 zl0))))))) (.node 36 (.node 18 (.node 9 (.node 4 (.node 2 (.node 1 (.leaf (some ⟨.pt 136,1,8,[.np]⟩)) zl0) (.node 1 zl0 (.leaf (some ⟨.pt 78,1,8,[.np]⟩)))) (.node 2 (.node 1 zl0 (.leaf (some ⟨.sl 152,1,24,[.nl]⟩))) (.node 1 (.leaf (some ⟨.st [(0,76),(1,3),(2,32)],4,48,[.nl,.int .i64 0,.int .i64 0,.int .i64 0]⟩)) (.node 1 (.leaf (some ⟨.st [(0,76),(1,3),(2,32)],4,48,[.nl,.int .i64 0,.int .i64 0,.int .i64 0]⟩)) (.leaf (some ⟨.sl 84,1,24,[.nl]⟩)))))) (.node 4 (.node 2 (.node 1 (.leaf (some ⟨.st [(0,9),(1,3),(2,40),(3,56),(4,79)],5,96,[.str [],.int .i64 0,.nl,.nl,.nl]⟩)) (.leaf (some ⟨.st [(0,9),(1,3),(2,40),(3,56),(4,79)],5,96,[.str [],.int .i64 0,.nl,.nl,.nl]⟩))) (.node 1 zl0 (.leaf (some ⟨.st [(0,9),(1,3),(2,45)],3,48,[.str [],.int .i64 0,.nl]⟩)))) (.node 2 (.node 1 (.leaf (some ⟨.st [(0,9),(1,3),(2,45)],3,48,[.str [],.int .i64 0,.nl]⟩)) zl0) (.node 1 (.leaf (some ⟨.st [(0,56)],1,24,[.nl]⟩)) (.node 1 (.leaf (some ⟨.st [(0,56)],1,24,[.nl]⟩)) (.leaf (some ⟨.sl 92,1,24,[.nl]⟩))))))) (.node 9 (.node 4 (.node 2 (.node 1 (.leaf (some ⟨.st [(0,9),(1,3),(2,9),(3,87),(4,40),(5,88)],6,112,[.str [],.int .i64 0,.str [],.nl,.nl,.nl]⟩)) (.leaf (some ⟨.st [(0,9),(1,3),(2,9),(3,87),(4,40),(5,88)],6,112,[.str [],.int .i64 0,.str [],.nl,.nl,.nl]⟩))) (.node 1 (.leaf (some ⟨.st [(0,9),(1,3),(2,59)],9,152,[.str [],.int .i64 0,.nl,.nl,.nl,.int .i64 0,.int .i64 0,.str [],.nl]⟩)) (.leaf (some ⟨.st [(0,9),(1,3),(2,59)],9,152,[.str [],.int .i64 0,.nl,.nl,.nl,.int .i64 0,.int .i64 0,.str [],.nl]⟩)))) (.node 2 (.node 1 zl0 (.leaf (some ⟨.st [(0,9),(1,3),(2,9),(3,40),(4,57),(5,27)],6,112,[.str [],.int .i64 0,.str [],.nl,.nl,.nl]⟩))) (.node 1 (.leaf (some ⟨.st [(0,9),(1,3),(2,9),(3,40),(4,57),(5,27)],6,112,[.str [],.int .i64 0,.str [],.nl,.nl,.nl]⟩)) (.node 1 zl0 zl0)))) (.node 4 (.node 2 (.node 1 (.leaf (some ⟨.st [(0,9),(1,3),(2,4),(3,59),(10,61),(25,59),(32,3)],33,560,[.str [],.int .i64 0,.bool false,.nl,.nl,.nl,.int .i64 0,.int .i64 0,.str [],.nl,.int .i64 0,.int .i64 0,.int .i64 0,.str [],.nl,.nl,.nl,.nl,.nl,.nl,.int .i64 0,.int .i64 0,.str [],.nl,.nl,.nl,.nl,.nl,.int .i64 0,.int .i64 0,.str [],.nl,.int .i64 0]⟩)) (.leaf (some ⟨.st [(0,9),(1,3),(2,4),(3,59),(10,61),(25,59),(32,3)],33,560,[.str [],.int .i64 0,.bool false,.nl,.nl,.nl,.int .i64 0,.int .i64 0,.str [],.nl,.int .i64 0,.int .i64 0,.int .i64 0,.str [],.nl,.nl,.nl,.nl,.nl,.nl,.int .i64 0,.int .i64 0,.str [],.nl,.nl,.nl,.nl,.nl,.int .i64 0,.int .i64 0,.str [],.nl,.int .i64 0]⟩))) (.node 1 (.leaf (some ⟨.sl 5,1,24,[.nl]⟩)) zl0)) (.node 2 (.node 1 zl0 zl0) (.node 1 zl0 (.node 1 zl0 zl0)))))) (.node 18 (.node 9 (.node 4 (.node 2 (.node 1 zl0 zl0) (.node 1 zl0 zl0)) (.node 2 (.node 1 zl0 (.leaf (some ⟨.st [(0,9),(1,47)],5,72,[.str [],.int .i64 0,.int .i64 0,.str [],.nl]⟩))) (.node 1 (.leaf (some ⟨.st [(0,9),(1,47)],5,72,[.str [],.int .i64 0,.int .i64 0,.str [],.nl]⟩)) (.node 1 zl0 zl0)))) (.node 4 (.node 2 (.node 1 zl0 zl0) (.node 1 zl0 zl0)) (.node 2 (.node 1 (.leaf (some ⟨.sl 4,1,24,[.nl]⟩)) zl0) (.node 1 zl0 (.node 1 zl0 zl0))))) (.node 9 (.node 4 (.node 2 (.node 1 (.leaf (some ⟨.st [(0,22),(1,3)],2,32,[.nl,.int .i64 0]⟩)) (.leaf (some ⟨.st [(0,22),(1,3)],2,32,[.nl,.int .i64 0]⟩))) (.node 1 (.leaf (some ⟨.sl 139,1,24,[.nl]⟩)) zl_)) (.node 2 (.node 1 zl0 (.leaf (some ⟨.st [(0,32)],2,16,[.int .i64 0,.int .i64 0]⟩))) (.node 1 (.leaf (some ⟨.st [(0,32)],2,16,[.int .i64 0,.int .i64 0]⟩)) (.node 1 zl_ (.leaf (some ⟨.st [(0,127),(1,3)],2,32,[.nl,.int .i64 0]⟩)))))) (.node 4 (.node 2 (.node 1 (.leaf (some ⟨.st [(0,127),(1,3)],2,32,[.nl,.int .i64 0]⟩)) (.leaf (some ⟨.st [(0,134)],2,32,[.nl,.int .i64 0]⟩))) (.node 1 (.leaf (some ⟨.st [(0,134)],2,32,[.nl,.int .i64 0]⟩)) zl0)) (.node 2 (.node 1 zl6 zl6) (.node 1 zl0 (.node 1 zl0 zl0)))))))) (.node 71 (.node 35 (.node 17 (.node 8 (.node 4 (.node 2 (.node 1 zl0 zl0) (.node 1 zl0 zl0)) (.node 2 (.node 1 (.leaf (some ⟨.pt 88,1,8,[.np]⟩)) (.leaf (some ⟨.pt 27,1,8,[.np]⟩))) (.node 1 zl0 zl_))) (.node 4 (.node 2 (.node 1 zl0 zl6) (.node 1 zl0 zl_)) (.node 2 (.node 1 zl0 zl0) (.node 1 zl0 (.node 1 zl0 zl_))))) (.node 9 (.node 4 (.node 2 (.node 1 zl0 zl0) (.node 1 zl0 zl0)) (.node 2 (.node 1 (.leaf (some ⟨.pt 166,1,8,[.np]⟩)) (.leaf (some ⟨.st [(0,164),(1,100)],2,32,[.np,.nl]⟩))) (.node 1 (.leaf (some ⟨.st [(0,164),(1,100)],2,32,[.np,.nl]⟩)) (.node 1 zl0 zl_)))) (.node 4 (.node 2 (.node 1 zl_ zl_) (.node 1 zl0 zl0)) (.node 2 (.node 1 zl0 zl0) (.node 1 zl_ (.node 1 zl0 zl0)))))) (.node 18 (.node 9 (.node 4 (.node 2 (.node 1 (.leaf (some ⟨.sl 22,1,24,[.nl]⟩)) zl0) (.node 1 zl0 zl0)) (.node 2 (.node 1 zl0 zl0) (.node 1 zl0 (.node 1 zl0 zl_)))) (.node 4 (.node 2 (.node 1 zl0 (.leaf (some ⟨.pt 134,1,8,[.np]⟩))) (.node 1 zl0 zl0)) (.node 2 (.node 1 zl0 zl0) (.node 1 zl0 (.node 1 zl0 zl0))))) (.node 9 (.node 4 (.node 2 (.node 1 zl0 zl0) (.node 1 zl0 zl0)) (.node 2 (.node 1 zl0 zl_) (.node 1 zl0 (.node 1 zl0 zl0)))) (.node 4 (.node 2 (.node 1 zl0 zl0) (.node 1 (.leaf (some ⟨.st [(0,47),(4,57),(5,40),(6,3),(7,32)],9,128,[.int .i64 0,.int .i64 0,.str [],.nl,.nl,.nl,.int .i64 0,.int .i64 0,.int .i64 0]⟩)) (.leaf (some ⟨.st [(0,47),(4,57),(5,40),(6,3),(7,32)],9,128,[.int .i64 0,.int .i64 0,.str [],.nl,.nl,.nl,.int .i64 0,.int .i64 0,.int .i64 0]⟩)))) (.node 2 (.node 1 zl0 zl0) (.node 1 zl0 (.node 1 zl0 (.leaf (some ⟨.pt 5,1,8,[.np]⟩))))))))) (.node 36 (.node 18 (.node 9 (.node 4 (.node 2 (.node 1 zl0 zl0) (.node 1 zl0 zl0)) (.node 2 (.node 1 zl0 zl_) (.node 1 zl0 (.node 1 zl_ zl0)))) (.node 4 (.node 2 (.node 1 zl_ zl0) (.node 1 zl0 zl0)) (.node 2 (.node 1 zl0 zl0) (.node 1 zl0 (.node 1 zl0 zl_))))) (.node 9 (.node 4 (.node 2 (.node 1 zl0 zl_) (.node 1 zl0 zl0)) (.node 2 (.node 1 zl0 zl0) (.node 1 zl_ (.node 1 zl4 zl0)))) (.node 4 (.node 2 (.node 1 zl0 zl_) (.node 1 zl0 zl_)) (.node 2 (.node 1 zl0 zl0) (.node 1 zl0 (.node 1 zl0 zl0)))))) (.node 18 (.node 9 (.node 4 (.node 2 (.node 1 zl_ zl0) (.node 1 zl0 zl_)) (.node 2 (.node 1 zl0 zl0) (.node 1 zl0 (.node 1 zl0 zl0)))) (.node 4 (.node 2 (.node 1 zl0 zl_) (.node 1 (.leaf (some ⟨.int .u32,1,4,[.int .u32 0]⟩)) zl_)) (.node 2 (.node 1 zl0 zl4) (.node 1 zl0 (.node 1 zl0 zl0))))) (.node 9 (.node 4 (.node 2 (.node 1 zl0 zl0) (.node 1 zl0 zl_)) (.node 2 (.node 1 zl_ (.leaf (some ⟨.st [(0,17),(1,17),(2,17),(3,9)],4,40,[.np,.np,.np,.str []]⟩))) (.node 1 (.leaf (some ⟨.st [(0,17),(1,17),(2,17),(3,9)],4,40,[.np,.np,.np,.str []]⟩)) (.node 1 (.leaf (some ⟨.ar 0 16,0,0,[]⟩)) (.leaf (some ⟨.st [(0,275)],0,0,[]⟩)))))) (.node 4 (.node 2 (.node 1 (.leaf (some ⟨.st [(0,275)],0,0,[]⟩)) zl0) (.node 1 zl1 zl1)) (.node 2 (.node 1 zl0 zl5) (.node 1 zl5 (.node 1 (.leaf (some ⟨.st [(0,12),(1,12),(2,261),(3,279),(4,5),(5,5),(6,280),(7,281),(8,213),(9,282),(10,283)],11,48,[.int .u64 0,.int .u64 0,.int .u32 0,.int .u8 0,.int .u8 0,.int .u8 0,.int .u8 0,.zv 1,.np,.int .i32 0,.int .i32 0]⟩)) (.leaf (some ⟨.st [(0,12),(1,12),(2,261),(3,279),(4,5),(5,5),(6,280),(7,281),(8,213),(9,282),(10,283)],11,48,[.int .u64 0,.int .u64 0,.int .u32 0,.int .u8 0,.int .u8 0,.int .u8 0,.int .u8 0,.zv 1,.np,.int .i32 0,.int .i32 0]⟩))))))))))
theorem trw:tr.wf=true:=by kernel_rfl
theorem tok:Tok Tryz.prog tr.flat:=by unfold Tok;kernel_rfl
theorem tg {t:Nat}{i:TI}(h:tr.get t=some i):tr.flat[t]?=some (some i):=Tr.get_ok trw h
theorem mixed:Tryz.prog.follows .mixedOrders=true:=by kernel_rfl
section
variable {QP:Value→Prop}{ro:Option Nat}{n:Nat}{ops:Array Oper}{draw:Bool}{k k':Nat}{e:Nat→Option V}{h0:bW}{d0:List Nat}{st':St}{pre pre':REs}{tr':Tr}{ob:List Prop}{kf:List Nat}{id:Nat}
theorem ag {Q:Exit→St→Prop}(hs:List (Nat×Hn)) (h:pW Tryz.prog tr true false n ops.toList hs 1000 0 ops.toList e h0 d0 [] []=some (st',k',pre',ob)) (hq:Q .normal st')
  (hc:eQ ob:=by repeat (first | exact trivial | refine⟨by first | omega | assumption | exact⟨by kernel_rfl,by assumption⟩ | rfl | (simp only[Bj,List.length_nil];omega) | (simp;done) | (simp;omega),?_⟩)) (h1:Nat.beq k' ops.size=true:=by rfl) (h2:(!draw || (c7 (preds ops) pre'.reverse []&&cS ops))=true:=by kernel_rfl):AWp ro Tryz.prog n kf (.region id ops draw) ⟨e,h0,d0⟩ Q:=
 aJo mixed trw tok h hc h1 h2 hq
theorem agN {Q:Exit→St→Prop}(hs:List (Nat×Hn)) (h:pW Tryz.prog tr true true n ops.toList hs 1000 0 ops.toList e h0 d0 [] []=some (st',k',pre',ob)) (hq:Q .normal st')
  (hc:eQ ob:=by repeat (first | exact trivial | refine⟨by first | omega | assumption | exact⟨by kernel_rfl,by assumption⟩ | rfl | (simp only[Bj,List.length_nil];omega) | (simp;done) | (simp;omega),?_⟩)) (h1:Nat.beq k' ops.size=true:=by rfl) (h2:(!draw || (c7 (preds ops) pre'.reverse []&&cS ops))=true:=by kernel_rfl):AWp ro Tryz.prog n kf (.region id ops draw) ⟨e,h0,d0⟩ Q:=
 aJo mixed trw tok h hc h1 h2 hq
theorem ak {Q:St→Prop}(m:Nat) (hs:List (Nat×Hn)) (h:pW Tryz.prog tr true false n ops.toList hs m k (ops.toList.drop k) e h0 d0 pre []=some (st',k',pre',ob)) (c:fX QP Tryz.prog n ops draw k' st' pre' Q)
  (hc:eQ ob:=by repeat (first | exact trivial | refine⟨by first | omega | assumption | exact⟨by kernel_rfl,by assumption⟩ | rfl | (simp only[Bj,List.length_nil];omega) | (simp;done) | (simp;omega),?_⟩)):fX QP Tryz.prog n ops draw k ⟨e,h0,d0⟩ pre Q:=
 ax_ m trw tok h hc c
theorem akN {Q:St→Prop}(m:Nat) (hs:List (Nat×Hn)) (h:pW Tryz.prog tr true true n ops.toList hs m k (ops.toList.drop k) e h0 d0 pre []=some (st',k',pre',ob)) (c:fX QP Tryz.prog n ops draw k' st' pre' Q)
  (hc:eQ ob:=by repeat (first | exact trivial | refine⟨by first | omega | assumption | exact⟨by kernel_rfl,by assumption⟩ | rfl | (simp only[Bj,List.length_nil];omega) | (simp;done) | (simp;omega),?_⟩)):fX QP Tryz.prog n ops draw k ⟨e,h0,d0⟩ pre Q:=
 ax_ m trw tok h hc c
theorem agF {Q:Exit→St→Prop}{r:Nat→Option V}{c:bW}{d1:List Nat}{q:List Prop}{res:Res}{L:List (Nat×Option V)}(m:Nat) (hs:List (Nat×Hn)) (g1:pW Tryz.prog tr true false n ops.toList hs m 0 ops.toList e h0 d0 [] []=some (⟨r,c,d1⟩,k',pre',q))
  (g2:lK Tryz.prog tr true false n ops.toList hs (aMn (ops.toList.drop k')) 1000 k' (ops.toList.drop k') r c d1 [] pre' q=some res) (g3:nW res (aMn (ops.toList.drop k'))=some L) (hq:Q .normal ⟨jJ r L,c,d1⟩)
  (ho:res.obs:=by repeat (first | exact trivial | refine⟨fun _=>?_,fun _=>?_⟩ | refine⟨by first | omega | assumption | exact⟨by kernel_rfl,by assumption⟩ | rfl | (simp only[Bj,List.length_nil];omega) | (simp;done) | (simp;omega),?_⟩)) (y:res.good ops draw=true:=by kernel_rfl):AWp ro Tryz.prog n kf (.region id ops draw) ⟨e,h0,d0⟩ Q:=
 aL1 m mixed trw tok g1 g2 g3 ho y hq
theorem az {Q:St→Prop}(hq:Q ⟨e,h0,d0⟩) (h1:Nat.beq k ops.size=true:=by rfl) (h2:(!draw || (c7 (preds ops) pre.reverse []&&cS ops))=true:=by kernel_rfl):fX QP Tryz.prog n ops draw k ⟨e,h0,d0⟩ pre Q:=z_ h1 h2 hq
theorem sgh {Q:Exit→St→Prop}{y:Code}(hs:List (Nat×Hn)) (h:pW Tryz.prog tr true false n ops.toList hs 1000 0 ops.toList e h0 d0 [] []=some (st',k',pre',ob)) (hq:AWp ro Tryz.prog n kf y st' Q)
  (hc:eQ ob:=by repeat (first | exact trivial | refine⟨by first | omega | assumption | exact⟨by kernel_rfl,by assumption⟩ | rfl | (simp only[Bj,List.length_nil];omega) | (simp;done) | (simp;omega),?_⟩)) (h1:Nat.beq k' ops.size=true:=by rfl) (h2:(!draw || (c7 (preds ops) pre'.reverse []&&cS ops))=true:=by kernel_rfl):AWp ro Tryz.prog n kf (.seq (.region id ops draw) y) ⟨e,h0,d0⟩ Q:=
 aA (ag hs h hq hc h1 h2)
theorem sg {Q:Exit→St→Prop}{y:Code}(h:pW Tryz.prog tr true false n ops.toList [] 1000 0 ops.toList e h0 d0 [] []=some (st',k',pre',ob)) (hq:AWp ro Tryz.prog n kf y st' Q)
  (hc:eQ ob:=by repeat (first | exact trivial | refine⟨by first | omega | assumption | exact⟨by kernel_rfl,by assumption⟩ | rfl | (simp only[Bj,List.length_nil];omega) | (simp;done) | (simp;omega),?_⟩)) (h1:Nat.beq k' ops.size=true:=by rfl) (h2:(!draw || (c7 (preds ops) pre'.reverse []&&cS ops))=true:=by kernel_rfl):AWp ro Tryz.prog n kf (.seq (.region id ops draw) y) ⟨e,h0,d0⟩ Q:=
 sgh [] h hq hc h1 h2
theorem skh {Q:Exit→St→Prop}{y:Code}(m:Nat) (hs:List (Nat×Hn)) (h:pW Tryz.prog tr true false n ops.toList hs m 0 (ops.toList.drop 0) e h0 d0 [] []=some (st',k',pre',ob)) (c:fX (fun v=>∀e' q,Q (pan v) ⟨e',q,d0⟩) Tryz.prog n ops draw k' st' pre' (fun st'=>AWp ro Tryz.prog n kf y st' Q))
  (hc:eQ ob:=by repeat (first | exact trivial | refine⟨by first | omega | assumption | exact⟨by kernel_rfl,by assumption⟩ | rfl | (simp only[Bj,List.length_nil];omega) | (simp;done) | (simp;omega),?_⟩)):AWp ro Tryz.prog n kf (.seq (.region id ops draw) y) ⟨e,h0,d0⟩ Q:=
 aA (aC mixed (ak m hs h c hc))
theorem sk {Q:Exit→St→Prop}{y:Code}(m:Nat) (h:pW Tryz.prog tr true false n ops.toList [] m 0 (ops.toList.drop 0) e h0 d0 [] []=some (st',k',pre',ob)) (c:fX (fun v=>∀e' q,Q (pan v) ⟨e',q,d0⟩) Tryz.prog n ops draw k' st' pre' (fun st'=>AWp ro Tryz.prog n kf y st' Q))
  (hc:eQ ob:=by repeat (first | exact trivial | refine⟨by first | omega | assumption | exact⟨by kernel_rfl,by assumption⟩ | rfl | (simp only[Bj,List.length_nil];omega) | (simp;done) | (simp;omega),?_⟩)):AWp ro Tryz.prog n kf (.seq (.region id ops draw) y) ⟨e,h0,d0⟩ Q:=
 skh m [] h c hc
theorem kz {Q:St→Prop}(m:Nat) (h:pW Tryz.prog tr true false n ops.toList [] m k (ops.toList.drop k) e h0 d0 pre []=some (st',k',pre',ob)) (hq:Q st')
  (hc:eQ ob:=by repeat (first | exact trivial | refine⟨by first | omega | assumption | exact⟨by kernel_rfl,by assumption⟩ | rfl | (simp only[Bj,List.length_nil];omega) | (simp;done) | (simp;omega),?_⟩)) (h1:Nat.beq k' ops.size=true:=by rfl) (h2:(!draw || (c7 (preds ops) pre'.reverse []&&cS ops))=true:=by kernel_rfl):fX QP Tryz.prog n ops draw k ⟨e,h0,d0⟩ pre Q:=
 ak m [] h (z_ h1 h2 hq) hc
end
set_option maxRecDepth 20000
abbrev Str:=List UInt8
def bD (s:Str):List C:=[.str s]
inductive Ty where
 | mk (form n:Int) (name:Str) (args:List Ty)
def Ty.form:Ty→Int | .mk f _ _ _=>f
def Ty.n:Ty→Int | .mk _ n _ _=>n
def Ty.name:Ty→Str | .mk _ _ s _=>s
def Ty.args:Ty→List Ty | .mk _ _ _ l=>l
mutual
def cW:Ty→List (List C)
 | .mk _ _ _ a=>cC a
def cC:List Ty→List (List C)
 | []=>[]
 | t::l=>[.int .i64 t.form,.int .i64 t.n,.str t.name,.sl 4 (cW t)]::cC l
end
def bT (t:Ty):List C:=[.int .i64 t.form,.int .i64 t.n,.str t.name,.sl 4 (cW t)]
theorem bG {α:Type}{l:List α}{k:Nat}{x:α}(f:α→List C) (h:l[k]?=some x):(l.map f)[k]?=some (f x):=by rw[Ce,h];rfl
theorem aP {α:Type}{l:List α}{k:Nat}(h:k<l.length):∃x,l[k]?=some x:=⟨l[k],by simp[h]⟩
theorem cV:∀l:List Ty,cC l=l.map bT
 | []=>by simp[cC]
 | c::l=>by rw[cC,cV l];rfl
def Fits {α:Type}(l:List α):Prop:=l.length≤1152921504606846976
theorem aRc (l:List Str) (s:Str) (hl:Fits l):b9 Tryz.prog 193 [.one (.c (.sl 1 (l.map bD))),Go.AM.T s] [] (B (decide (s∈l))) []:=by
 unfold Fits at hl;refine bM (n:=18) tok Tryz.func193 rfl rfl rfl ?_;refine sg rfl (aA (sg rfl (aF (aM (fun k:Nat=>mk [(0,.one (.c (.sl 1 (l.map bD)))),(1,Go.AM.T s),(5,I .i64 k)] []) (fun k=>k≤l.length∧s∉l.take k) (fun k=>l.length-k) 0 ⟨Ae _,by simp⟩ (.list (fun i=>i) ⟨rfl,rfl,rfl,trivial⟩ trivial rfl) ?_))));intro k ⟨J,hm⟩;refine aA (sg rfl (aB rfl (fun hb=>?_) (fun hb=>?_)))
 ·refine aE ?_;have r:k<l.length:=by simpa using hb
  obtain⟨x,hx⟩:=aP r;have E:=bG bD hx;refine aA (aF (sgh [(2,.row k (bD x))] rfl (aB rfl (fun hb=>?_) (fun hb=>?_))))
  ·refine sg rfl (aD ?_);have q:x=s:=by simpa using hb
   have:s∈l:=by rw[←q];exact Ag hx
   exact⟨.inr rfl,⟨_,_,.tmp rfl .nil,.cons .refl .nil,by simp[aF6,this]⟩,trivial,rfl⟩
  ·refine aE (ag [] rfl ⟨k+1,⟨r,?_⟩,by dsimp only;omega,.list (fun i=>i) ⟨rfl,rfl,rfl,trivial⟩ trivial rfl⟩);rw[Bk,hx];have q:¬x=s:=by simpa using hb
   have y:¬s=x:=fun e=>q e.symm
   simp[hm,y]
 ·refine aL ?_;have A:k=l.length:=by
   have:¬k<l.length:=by simpa using hb
   omega
  refine sg rfl (aD ?_);rw[A,Az] at hm;exact⟨.inr rfl,⟨_,_,.tmp rfl .nil,.cons .refl .nil,by simp[aF6,hm]⟩,trivial,rfl⟩
def iF (n k:Int):Int:=(if n<0 then -(n+1) else n)%k
def i64 (n:Int):Prop:= -9223372036854775808≤n∧n≤9223372036854775807
theorem uK (n:Int) {k:Int}(c:0<k):0≤iF n k∧iF n k<k:=⟨Int.emod_nonneg _ (by omega),Int.emod_lt_of_pos _ c⟩
theorem yT (n k:Int) (hn:i64 n) (c:1≤k):b9 Tryz.prog 12 [I .i64 n,I .i64 k] [] (I .i64 (iF n k)) []:=by
 unfold i64 at hn;refine bM (n:=13) tok Tryz.func12 rfl rfl rfl ?_;refine sg rfl (aA (sg rfl (aB rfl (fun hb=>?_) (fun hb=>?_))))
 ·have h0:n<0:=by simpa using hb
  exact ag [] rfl (sg rfl (aD ⟨.inr rfl,⟨_,_,.tmp rfl .nil,.cons .refl .nil,by simp[aF6,iF,h0]⟩,trivial,rfl⟩))
 ·have h0:¬n<0:=by simpa using hb
  exact aE (sg rfl (aD ⟨.inr rfl,⟨_,_,.tmp rfl .nil,.cons .refl .nil,by simp[aF6,iF,h0]⟩,trivial,rfl⟩))
set_option maxRecDepth 100000
set_option maxHeartbeats 4000000
def plB (c:Nat):Bool:=decide ((97≤c∧c≤122)∨(65≤c∧c≤90)∨(48≤c∧c≤57))
theorem vK (c:Nat) (w:World) (h:c<256):Calls Tryz.prog 239 #[.int .u8 (c:Int)] w fun e w'=>e=.returned (.bool (plB c))∧w=w':=by
 go_enter Tryz.func239,Tryz.ntmps239
 go_wp2
 all_goals go_ret
 all_goals refine⟨congrArg Ending.returned (congrArg Value.bool (a₂:=plB c) ?_),rfl⟩
 all_goals (unfold plB;rw[Bo];simp;omega)
def fiB (r lo hi:Int):Bool:=decide (lo≤r∧r≤hi)
theorem vU (r lo hi:Int) (a b:Nat) (w:World) (ha:w.cell? ⟨a,0,none⟩=some (.int .i32 lo)) (hb:w.cell? ⟨b,0,none⟩=some (.int .i32 hi)):
  Calls Tryz.prog 238 #[.int .i64 0,.int .i32 r,.pointer (some ⟨a,0,none⟩),.pointer (some ⟨b,0,none⟩)] w fun e w'=>e=.returned (.bool (fiB r lo hi))∧w=w':=by
 go_enter Tryz.func238,Tryz.ntmps238
 go_wp2
 all_goals go_ret
 all_goals refine⟨congrArg Ending.returned (congrArg Value.bool (a₂:=fiB r lo hi) ?_),rfl⟩
 all_goals (unfold fiB;rw[Bo];simp;omega)
def nmQ (c:Nat) (lo hi:Int):Bool:=fiB c lo hi&&(plB c || decide (c=39∨c=95))
def aPp (c:Nat) (lo hi:Int) (w:World) (e:Ending) (w':World):Prop:=e=.returned (.bool (nmQ c lo hi))∧∃os:Array Obj,w'={ w with heap:=w.heap++os }
def aRj (c:Nat) (lo hi:Int) (pos:Nat):Prop:=pos=0∨(pos=1∧nmQ c lo hi=true)
def NmW (c:UInt8) (lo hi:Int) (w:World) (pos:Nat):World:=((w.alloc (.cells #[.int .i32 lo] 21)).alloc (.cells #[.int .i32 hi] 21)).iter ⟨#[c]⟩ pos
theorem aFo (c:UInt8) (lo hi:Int) (w:World) (pos:Nat):∃os:Array Obj,NmW c lo hi w pos={ w with heap:=w.heap++os }:=⟨#[.cells #[.int .i32 lo] 21,.cells #[.int .i32 hi] 21,.stringIter ⟨#[c]⟩ pos],by
 simp only[NmW,World.iter,World.alloc]
 congr 1⟩
theorem aPn (c:UInt8) (lo hi:Int) (w:World) (pos:Nat):(NmW c lo hi w pos).cell? ⟨w.heap.size,0,none⟩=some (.int .i32 lo):=by
 have h:(NmW c lo hi w pos).heap[w.heap.size]?=some (.cells #[.int .i32 lo] 21):=by
  show(((w.heap.push _).push _).push _)[w.heap.size]?=_;rw[Array.getElem?_push_lt (by rw[Be,Be];omega),Array.getElem_push_lt (by rw[Be];omega),Array.getElem_push_eq]
 unfold World.cell?;rw[h];rfl
theorem aPo (c:UInt8) (lo hi:Int) (w:World) (pos:Nat):(NmW c lo hi w pos).cell? ⟨w.heap.size+1,0,none⟩=some (.int .i32 hi):=by
 have h:(NmW c lo hi w pos).heap[w.heap.size+1]?=some (.cells #[.int .i32 hi] 21):=by
  show(((w.heap.push _).push _).push _)[w.heap.size+1]?=_;rw[Array.getElem?_push_lt (by rw[Be,Be];omega),Array.getElem_push];rw[dif_neg (by rw[Be];omega)]
 unfold World.cell?;rw[h];rfl
theorem rS (c:UInt8) (lo hi:Int) (w:World) (pos:Nat):(NmW c lo hi w pos).iterPos (w.heap.size+2)=pos:=by
 have h:(NmW c lo hi w pos).heap[w.heap.size+2]?=some (.stringIter ⟨#[c]⟩ pos):=by
  show(((w.heap.push _).push _).push _)[w.heap.size+2]?=_;rw[Array.getElem?_push,ξ (by rw[Be,Be])]
 unfold World.iterPos;rw[h]
theorem aI5 {c:Nat}{lo hi:Int}(h1:fiB c lo hi=true) (h2:plB c=true∨c=39∨c=95):nmQ c lo hi=true:=by
 unfold nmQ;rw[h1];rcases h2 with h | h
 ·rw[h];rfl
 ·rw[φ h,Bool.or_true];rfl
theorem aG0 {c:Nat}{lo hi:Int}(h:¬fiB c lo hi=true∨(¬plB c=true∧¬c=39∧¬c=95)):nmQ c lo hi=false:=by
 unfold nmQ;rcases h with h | ⟨h1,h2,q⟩
 ·rw[Bool.not_eq_true _ |>.mp h];rfl
 ·rw[Bool.not_eq_true _ |>.mp h1,ψ (by omega),Bool.or_self,Bool.and_false]
theorem pJ (c:UInt8) (lo hi:Int) (w:World) (hc:c.toNat<128):Calls Tryz.prog 213 #[.string ⟨#[c]⟩,.int .i32 lo,.int .i32 hi] w (aPp c.toNat lo hi w):=by
 go_enter Tryz.func213,Tryz.ntmps213
 go_wp2
 go_loopw [] (fun wr=>∃pos:Nat,aRj c.toNat lo hi pos∧wr=NmW c lo hi w pos) (fun wr=>1-wr.iterPos (w.heap.size+2))
 case atStart=>exact⟨0,.inl rfl,rfl⟩
 case round=>
  obtain⟨pos,A,rfl⟩:=hrel;have hsz:((w.alloc (.cells #[.int .i32 lo] 21)).alloc (.cells #[.int .i32 hi] 21)).heap.size=w.heap.size+1+1:=by
   show((w.heap.push _).push _).size=_;rw[Be,Be]
  rcases A with rfl | ⟨rfl,q⟩
  ·have hn:∀ty,(Instr.next (.pointer (some ⟨w.heap.size+1+1,0,none⟩)) true ty).run Tryz.prog (NmW c lo hi w 0)=.ok (.tuple #[.bool true,.int .i64 0,.int .i32 (c.toNat:Int)]) (NmW c lo hi w 1):=fun ty=>by
    have:=run_next_ascii (P:=Tryz.prog) ((w.alloc (.cells #[.int .i32 lo] 21)).alloc (.cells #[.int .i32 hi] 21)) ⟨#[c]⟩ 0 ty (show 0<1 by decide) hc;rw[hsz] at this;exact this
   clear hsz;have r:=aPn c lo hi w 1;have y:=aPo c lo hi w 1;have B:(c.toNat:Int)≤127:=by omega
   have E:0≤(c.toNat:Int):=by omega
   go_wp2_with (first | (go_at_call 238;(with_reducible refine(vU _ _ _ _ _ _ r y).mono ?_);rintro e w' ⟨rfl,rfl⟩) | (go_at_call 239;(with_reducible refine(vK _ _ (by omega)).mono ?_);rintro e w' ⟨rfl,rfl⟩))
   all_goals first
    | exact⟨⟨1,.inr ⟨rfl,aI5 (by assumption) (.inl (by assumption))⟩,rfl⟩,by rw[rS,rS];decide⟩
    | exact⟨⟨1,.inr ⟨rfl,aI5 (by assumption) (.inr (by simp at *;omega))⟩,rfl⟩,by rw[rS,rS];decide⟩
    | (go_ret;exact⟨by rw[aG0 (.inl (by assumption))];rfl,aFo c lo hi w 1⟩)
    | (go_ret;exact⟨by rw[aG0 (.inr ⟨by assumption,by simp at *;omega,by simp at *;omega⟩)];rfl,aFo c lo hi w 1⟩)
  ·have hn:∀ty,(Instr.next (.pointer (some ⟨w.heap.size+1+1,0,none⟩)) true ty).run Tryz.prog (NmW c lo hi w 1)=.ok (.tuple #[.bool false]) (NmW c lo hi w 1):=fun ty=>by
    have:=run_next_end (P:=Tryz.prog) ((w.alloc (.cells #[.int .i32 lo] 21)).alloc (.cells #[.int .i32 hi] 21)) ⟨#[c]⟩ 1 ty (show ¬1<1 by decide);rw[hsz] at this;exact this
   clear hsz
   go_wp2
   go_ret
   exact⟨by rw[q];rfl,aFo c lo hi w 1⟩
def j8 (b:Bool) (w:World) (e:Ending) (w':World):Prop:=e=.returned (.bool b)∧∃os:Array Obj,w'={ w with heap:=w.heap++os }
def aPm (s:ByteArray) (lo hi:Int) (w:World) (pos:Nat):World:=((w.alloc (.cells #[.int .i32 lo] 21)).alloc (.cells #[.int .i32 hi] 21)).iter s pos
theorem aFn (s:ByteArray) (lo hi:Int) (w:World) (pos:Nat):∃os:Array Obj,aPm s lo hi w pos={ w with heap:=w.heap++os }:=⟨#[.cells #[.int .i32 lo] 21,.cells #[.int .i32 hi] 21,.stringIter s pos],by
 simp only[aPm,World.iter,World.alloc]
 congr 1⟩
theorem s9 {P:Program}(w:World) (s:ByteArray) (pos:Nat) (ty:TypeId) (r k:Nat) (h:pos<s.size) (c:Utf8.decode s pos=(r,k)):
  (Instr.next (.pointer (some ⟨w.heap.size,0,none⟩)) true ty).run P (w.iter s pos)=.ok (.tuple #[.bool true,.int .i64 pos,.int .i32 r]) (w.iter s (pos+k)):=by
 simp only[Instr.next,getObj,setObj,δ,Sem.run,World.iter_heap,Result.andThen,h,Cd,c,World.iter_set];simp[goInt]
theorem xS (s:ByteArray) (lo hi:Int) (w:World) (r k:Nat) (h:0<s.size) (c:Utf8.decode s 0=(r,k)) (y:127<r):Calls Tryz.prog 213 #[.string s,.int .i32 lo,.int .i32 hi] w (j8 false w):=by
 go_enter Tryz.func213,Tryz.ntmps213
 go_wp2
 go_loopw [] (fun wr=>wr=aPm s lo hi w 0) (fun _=>1)
 case atStart=>rfl
 case round=>
  have hsz:((w.alloc (.cells #[.int .i32 lo] 21)).alloc (.cells #[.int .i32 hi] 21)).heap.size=w.heap.size+1+1:=by
   show((w.heap.push _).push _).size=_;rw[Be,Be]
  subst hrel;have hn:∀ty,(Instr.next (.pointer (some ⟨w.heap.size+1+1,0,none⟩)) true ty).run Tryz.prog (aPm s lo hi w 0)=.ok (.tuple #[.bool true,.int .i64 0,.int .i32 (r:Int)]) (aPm s lo hi w (0+k)):=fun ty=>by
   have:=s9 (P:=Tryz.prog) ((w.alloc (.cells #[.int .i32 lo] 21)).alloc (.cells #[.int .i32 hi] 21)) s 0 ty r k h c;rw[hsz] at this;exact this
  clear hsz;have q:127<(r:Int):=by omega
  go_wp2
  all_goals (go_ret;exact⟨rfl,by first | exact aFn s lo hi w k | exact aFn s lo hi w (0+k)⟩)
end Go.Proofs.YtpmheldmadendaaGreatDoor
namespace Go.AM
open Go Go.Proofs Go.Shelf
theorem aPh {ro:Option Nat}{P:Program}{n:Nat}{kf:List Nat}{c:Code}{st:St}{Q:Exit→St→Prop}(t:Nat) {es:Nat}{l:List (List C)}(h:st.e t=some (.one (.c (.sl es l)))) (h1:l=[]→AWp ro P n kf c ⟨upd st.e t (some (.one (.c .nl))),st.h,st.d⟩ Q)
  (h2:AWp ro P n kf c ⟨upd st.e t (some (.one (.c (.sn es l)))),st.h,st.d⟩ Q):AWp ro P n kf c st Q:=by
 intro G S μ a w Q' y hs A;have B:=hs.env t _ h
 have key:∀x:V,aK S μ st.h x (a.tmps.getD t undef)→Sim G n S μ ⟨upd st.e t (some x),st.h,st.d⟩ a w:=fun x hx=>⟨hs.inv,hs.size,hs.defers,fun s u e=>by
  by_cases q:s=t
  ·subst q;have:some x=some u:=by rw[←e];exact(aH _ _ _).symm
   cases this;exact hx
  ·exact hs.env s u (by rw[←e];exact(bC _ _ _ q).symm)⟩
 simp only[aK,aQ,Rep] at B;obtain⟨r,len,cap,E,U,Y,e4,e5,e6,b,o,e7,e8⟩:=B;cases r with
 | none=>
  obtain⟨e9,I⟩:=e5 rfl;have hl:l=[]:=An (by omega);exact h1 hl G S μ a w Q' y (key _ (by simp only[aK,aQ,Rep];rw[E,e9,I])) A
 | some r=>
  obtain⟨b',o',sp⟩:=r;have J:=e6 _ rfl;obtain⟨M,O⟩:=e7 _ rfl;dsimp only at J M O;subst M O;exact h2 G S μ a w Q' y (key _ (by simp only[aK,aQ,Rep];exact⟨b',o',sp,len,cap,E,U,Y,e4,J,e8⟩)) A
end Go.AM
namespace Go.AM
open Go Go.Proofs
section
variable {QP:Value→Prop}{P:Program}{n:Nat}{ops:Array Oper}{draw:Bool}{k d:Nat}{st:St}{pre:REs}{Q:St→Prop}{o:Oper}{f:FuncId}{xs:Array Operand}{ts:Array TypeId}{ids:List Nat}{args:List V}{res:V}{hin hout:List (Nat×AObj)}
theorem kcG {j t:Nat}{want b:Bool}(E:b9 P f args hin res hout)
  (I:fX QP P n ops draw (k+1) ⟨upd st.e d (some res),dX st.h (outs hout),st.d⟩ ((⟨t::bO xs.toList,ids++keys hin++keys hout⟩,⟨some (d,some res),outs hout⟩)::pre) Q)
  (hb:eH P f:=by exact aA4 (by kernel_rfl)) (ho:ops[k]?=some o:=by rfl) (J:o.guard=some (j,want):=by rfl) (M:(ops[j]?).bind (·.dst)=some t:=by rfl) (y:st.e t=some (.one (.c (.bool b))):=by rfl) (hw:b=want:=by first | rfl | assumption) (A:o.op=.call { callee:=.value (.func f),args:=xs,argTypes:=ts }:=by rfl) (O:o.dst=some d:=by rfl) (B:Nat.blt d n=true:=by rfl)
  (ha:ArgsV st ids xs.toList args:=by repeat (first | exact .nil | (apply Go.AM.ArgsV.cons rfl;(first | exact .refl | exact .one (.c .nl .nil) | exact .one (.c .sn .nil) | exact .one (.hs rfl (by first | rfl | simp) (by first | rfl | (simp;done) | (simp[Go.AM.take_map];done) | exact Go.AM.take_map.symm) .nil) | exact Go.AM.hs_all rfl rfl (by first | rfl | assumption | (simp;done) | (simp;omega)) (by first | rfl | assumption | (simp;done)) | ((first | apply Go.AM.Conv.pa | apply Go.AM.Conv.agg);repeat (first | exact .nil | apply Go.AM.PureL.c .refl | apply Go.AM.PureL.c .nl | apply Go.AM.PureL.c .sn | (apply Go.AM.PureL.hs;rfl;(first | rfl | simp);(first | rfl | (simp;done) | (simp[Go.AM.take_map];done) | exact Go.AM.take_map.symm))))))))
  (r:eN (fun p=>st.h p.1=some p.2) hin:=by repeat (first | exact trivial | refine⟨rfl,?_⟩)) (q:eN (fun p=>p.1∈keys hin∨st.h p.1=none) hout:=by repeat (first | exact trivial | refine⟨.inr rfl,?_⟩ | refine⟨.inl (by decide),?_⟩ | refine⟨.inl (by repeat (first | exact List.Mem.head _ | apply List.Mem.tail)),?_⟩)) (hok:dP args hin=true:=by rfl):fX QP P n ops draw k st pre Q:=
 k_ (GStep.yes ho J M y hw (aCq hin hout hb A O (eI B) E ha r q hok)) I
end
end Go.AM
namespace Go.AM
open Go
theorem Inv.grownR {G:Ctx}{S:Sto}{μ:Mu}{H:bW}{w:World}(h:Inv G S μ H w) (k:Nat) (os:Array Obj):Inv G S μ H ({ w with heap:=w.heap++os,drawn:=w.drawn+k }):=by
 have hold:∀b:Nat,b<w.heap.size→({ w with heap:=w.heap++os,drawn:=w.drawn+k }:World).heap[b]?=w.heap[b]?:=fun b hb=>by
  show(w.heap++os)[b]?=w.heap[b]?;exact Br hb
 have hsz:w.heap.size≤({ w with heap:=w.heap++os,drawn:=w.drawn+k }:World).heap.size:=by
  show w.heap.size≤(w.heap++os).size;rw[Array.size_append];omega
 obtain⟨h1,h2,q,r,y,A,B,E,I⟩:=h;refine⟨⟨fun b o v e=>?_,fun b mk e=>?_⟩,fun id o e=>(h2 id o e).evolve (Evolve.refl _ _ _) rfl fun b c hm=>⟨hold b ((h2 id o e).lt hm),fun _=>rfl,rfl⟩,q,r,?_,A,B,E,I⟩
 ·obtain⟨vs,t,J,g1,g2⟩:=h1.1 b o v e;exact⟨vs,t,J,by rw[hold b (bQ g1)];exact g1,g2⟩
 ·have g:=h1.2 b mk e;obtain⟨_,g2⟩:=MK.holds_some g;rw[hold b (bQ g2)];exact g
 ·obtain⟨f1,f2,f3,f4,f5,f6⟩:=y;exact⟨f1,f2,f3,le_trans f4 hsz,fun b hb M=>by rw[hold b (Ay hb f4)];exact f5 b hb M,f6⟩
end Go.AM
namespace Go.Proofs.YtpmheldmadendaaGreatDoor
open Go Go.AM
set_option maxRecDepth 100000
set_option maxHeartbeats 4000000
def dgB (c:Nat):Bool:=decide (48≤c∧c≤57)
def sgB (c:Nat):Bool:=plB c || decide (c=39∨c=95)
def wiB (c lo hi:Int):Bool:=decide (lo≤c∧c≤hi)
theorem fN (c lo hi:Int) (w:World):Calls Tryz.prog 245 #[.int .u8 c,.int .u8 lo,.int .u8 hi] w fun e w'=>e=.returned (.bool (wiB c lo hi))∧w=w':=by
 go_enter Tryz.func245,Tryz.ntmps245
 go_wp2
 all_goals go_ret
 all_goals refine⟨congrArg Ending.returned (congrArg Value.bool (a₂:=wiB c lo hi) ?_),rfl⟩
 all_goals (unfold wiB;rw[Bo];simp;omega)
theorem o7 (c:Nat) (w:World):Calls Tryz.prog 189 #[.int .u8 (c:Int)] w fun e w'=>e=.returned (.bool (dgB c))∧w=w':=by
 go_enter Tryz.func189,Tryz.ntmps189
 go_wp2
 all_goals go_ret
 all_goals refine⟨congrArg Ending.returned (congrArg Value.bool (a₂:=dgB c) ?_),rfl⟩
 all_goals (unfold dgB;rw[Bo];simp;omega)
theorem zM (c:Nat) (w:World):Calls Tryz.prog 192 #[.int .u8 (c:Int)] w fun e w'=>e=.returned (.bool (sgB c))∧w=w':=by
 go_enter Tryz.func192,Tryz.ntmps192
 go_wp2_with (go_at_call 189;(with_reducible refine(o7 _ _).mono ?_);rintro e w' ⟨rfl,rfl⟩)
 all_goals go_ret
 all_goals refine⟨congrArg Ending.returned (congrArg Value.bool (a₂:=sgB c) ?_),rfl⟩
 all_goals (rw[Bo];unfold sgB plB;unfold dgB at *;simp at *;omega)
theorem sQ (c:Nat) (w:World):Calls Tryz.prog 244 #[.int .u8 (c:Int)] w fun e w'=>e=.returned (.bool (plB c))∧w=w':=by
 go_enter Tryz.func244,Tryz.ntmps244
 go_wp2_with (go_at_call 245;first | ((with_reducible refine(fN c 97 122 _).mono ?_);rintro e w' ⟨rfl,rfl⟩) | ((with_reducible refine(fN c 65 90 _).mono ?_);rintro e w' ⟨rfl,rfl⟩) | ((with_reducible refine(fN c 48 57 _).mono ?_);rintro e w' ⟨rfl,rfl⟩))
 all_goals go_ret
 all_goals refine⟨congrArg Ending.returned (congrArg Value.bool (a₂:=plB c) ?_),rfl⟩
 all_goals (rw[Bo];unfold plB;unfold wiB at *;simp at *;omega)
theorem vP (s:ByteArray) (c:Int) (w:World):Calls Tryz.prog 172 #[.string s,.int .u8 c] w fun e w'=>e=.returned (.int .i64 (Lib.indexByte s.data.toList c.toNat.toUInt8))∧w=w':=by
 go_enter Tryz.func172,Tryz.ntmps172
 go_wp2
 rw[run_callFunc_extern Tryz.func212 (by kernel_rfl) (by kernel_rfl) (by kernel_rfl) (e:=Extern.BytealgIndexByte.indexByte) (by kernel_rfl),Lib.run_indexByteString];simp only[Result.andThen];rw[Oper.upon_value]
 go_wp2
 go_ret
 exact⟨rfl,rfl⟩
theorem iK (s:ByteArray) (c:Int) (w:World):Calls Tryz.prog 128 #[.string s,.int .u8 c] w fun e w'=>e=.returned (.int .i64 (Lib.indexByte s.data.toList c.toNat.toUInt8))∧w=w':=by
 go_enter Tryz.func128,Tryz.ntmps128
 go_wp2_with (go_at_call 172;(with_reducible refine(vP _ _ _).mono ?_);rintro e w' ⟨rfl,rfl⟩)
 go_ret
 exact⟨rfl,rfl⟩
theorem nX (c:UInt8) (w:World) (hc:c.toNat<128):Calls Tryz.prog 176 #[.string ⟨#[c]⟩] w (j8 (nmQ c.toNat 97 122) w):=by
 go_enter Tryz.func176,Tryz.ntmps176
 go_wp2_with (go_at_call 213;(with_reducible refine(pJ c 97 122 _ hc).mono ?_);rintro e w' ⟨rfl,os,rfl⟩)
 go_ret
 exact⟨rfl,os,rfl⟩
theorem nD (c:UInt8) (w:World) (hc:c.toNat<128):Calls Tryz.prog 177 #[.string ⟨#[c]⟩] w (j8 (nmQ c.toNat 65 90) w):=by
 go_enter Tryz.func177,Tryz.ntmps177
 go_wp2_with (go_at_call 213;(with_reducible refine(pJ c 65 90 _ hc).mono ?_);rintro e w' ⟨rfl,os,rfl⟩)
 go_ret
 exact⟨rfl,os,rfl⟩
theorem aDz (c:UInt8) (hc:c.toNat<128):Utf8.encode (c.toNat:Int)=⟨#[c]⟩:=by
 have h:(c.toNat:Int).toNat=c.toNat:=by omega
 have q:Utf8.valid (c.toNat:Int)=true:=by unfold Utf8.valid;simp;omega
 unfold Utf8.encode;rw[q];simp[h,hc]
theorem sX (s:ByteArray) (w:World) (r k:Nat) (h:0<s.size) (c:Utf8.decode s 0=(r,k)) (q:127<r):Calls Tryz.prog 176 #[.string s] w (j8 false w):=by
 go_enter Tryz.func176,Tryz.ntmps176
 go_wp2_with (go_at_call 213;(with_reducible refine(xS s 97 122 _ r k h c q).mono ?_);rintro e w' ⟨rfl,os,rfl⟩)
 go_ret
 exact⟨rfl,os,rfl⟩
theorem rZ (s:ByteArray) (w:World) (r k:Nat) (h:0<s.size) (c:Utf8.decode s 0=(r,k)) (q:127<r):Calls Tryz.prog 177 #[.string s] w (j8 false w):=by
 go_enter Tryz.func177,Tryz.ntmps177
 go_wp2_with (go_at_call 213;(with_reducible refine(xS s 65 90 _ r k h c q).mono ?_);rintro e w' ⟨rfl,os,rfl⟩)
 go_ret
 exact⟨rfl,os,rfl⟩
def aP2:List UInt8:=[48,49,50,51,52,53,54,55,56,57]
def sgS:List UInt8:=[48,49,50,51,52,53,54,55,56,57,39,95]
def ixB (l:List UInt8) (c:UInt8):Bool:=decide (0≤Lib.indexByte l c)
theorem jD {p:UInt8→Prop}(h:∀n:_root_.Fin 256,p (UInt8.ofNat n.val)) (c:UInt8):p c:=by
 have:=h ⟨c.toNat,c.toNat_lt⟩;rwa [show UInt8.ofNat c.toNat=c by simp] at this
theorem aGf (c:UInt8):(nmQ c.toNat 97 122 || (nmQ c.toNat 65 90 || ixB sgS c))=sgB c.toNat:=jD (p:=fun c=>(nmQ c.toNat 97 122 || (nmQ c.toNat 65 90 || ixB sgS c))=sgB c.toNat) (by decide+kernel) c
theorem aQ8 (c:UInt8):ixB aP2 c=dgB c.toNat:=jD (p:=fun c=>ixB aP2 c=dgB c.toNat) (by decide+kernel) c
theorem tE (c:UInt8) (w:World) (hc:c.toNat<128):Calls Tryz.prog 178 #[.int .u8 (c.toNat:Int)] w (j8 (sgB c.toNat) w):=by
 rw[←aGf]
 go_enter Tryz.func178,Tryz.ntmps178
 go_wp2_with (first | (go_at_call 176;rw[aDz c hc];(with_reducible refine(nX c _ hc).mono ?_);rintro e w' ⟨rfl,os,rfl⟩) | (go_at_call 177;rw[aDz c hc];(with_reducible refine(nD c _ hc).mono ?_);rintro e w' ⟨rfl,os,rfl⟩) | (go_at_call 128;(with_reducible refine(iK _ _ _).mono ?_);rintro e w' ⟨rfl,rfl⟩))
 all_goals go_ret
 ·exact⟨congrArg Ending.returned (congrArg Value.bool (a₂:=_) (by rename_i h;rw[h];rfl)),_,rfl⟩
 ·exact⟨congrArg Ending.returned (congrArg Value.bool (a₂:=_) (by simp[*])),_,rfl⟩
 ·exact⟨congrArg Ending.returned (congrArg Value.bool (a₂:=_) (by simp[*];rfl)),_,rfl⟩
theorem aD4 (c:UInt8):128≤c.toNat→Utf8.decode ⟨#[c]⟩ 0=(65533,1):=jD (p:=fun c=>128≤c.toNat→Utf8.decode ⟨#[c]⟩ 0=(65533,1)) (by decide+kernel) c
theorem aK1 (c:UInt8):128≤c.toNat→0<(Utf8.encode (c.toNat:Int)).size∧Utf8.decode (Utf8.encode (c.toNat:Int)) 0=(c.toNat,2):=jD (p:=fun c=>128≤c.toNat→0<(Utf8.encode (c.toNat:Int)).size∧Utf8.decode (Utf8.encode (c.toNat:Int)) 0=(c.toNat,2)) (by decide+kernel) c
theorem aC9 (c:UInt8) (w:World):Calls Tryz.prog 176 #[.string ⟨#[c]⟩] w (j8 (nmQ c.toNat 97 122) w):=by
 by_cases hc:c.toNat<128
 ·exact nX c w hc
 ·rw[aG0 (.inl (by unfold fiB;simp;omega))];exact sX _ w _ _ (by show 0<1;decide) (aD4 c (by omega)) (by decide)
theorem aBp (c:UInt8) (w:World):Calls Tryz.prog 177 #[.string ⟨#[c]⟩] w (j8 (nmQ c.toNat 65 90) w):=by
 by_cases hc:c.toNat<128
 ·exact nD c w hc
 ·rw[aG0 (.inl (by unfold fiB;simp;omega))];exact rZ _ w _ _ (by show 0<1;decide) (aD4 c (by omega)) (by decide)
theorem aQf (c:UInt8):128≤c.toNat→ixB sgS c=sgB c.toNat:=jD (p:=fun c=>128≤c.toNat→ixB sgS c=sgB c.toNat) (by decide+kernel) c
theorem aAm (c:UInt8) (w:World):Calls Tryz.prog 178 #[.int .u8 (c.toNat:Int)] w (j8 (sgB c.toNat) w):=by
 by_cases hc:c.toNat<128
 ·exact tE c w hc
 have q:128≤c.toNat:=by omega
 obtain⟨h1,h2⟩:=aK1 c q;rw[←aQf c q]
 go_enter Tryz.func178,Tryz.ntmps178
 go_wp2_with (first | (go_at_call 176;(with_reducible refine(sX _ _ _ _ h1 h2 (by omega)).mono ?_);rintro e w' ⟨rfl,os,rfl⟩) | (go_at_call 177;(with_reducible refine(rZ _ _ _ _ h1 h2 (by omega)).mono ?_);rintro e w' ⟨rfl,os,rfl⟩) | (go_at_call 128;(with_reducible refine(iK _ _ _).mono ?_);rintro e w' ⟨rfl,rfl⟩))
 all_goals go_ret
 all_goals exact⟨congrArg Ending.returned (congrArg Value.bool (a₂:=_) (by first | rfl | (simp[*];rfl) | simp[*])),_,rfl⟩
theorem aDk {f:FuncId}(c:Nat) (b:Bool) (h:∀w,Calls Tryz.prog f #[.int .u8 (c:Int)] w (fun e w'=>e=.returned (.bool b)∧w=w')):b9 Tryz.prog f [I .u8 c] [] (B b) []:=by
 intro S μ w vals r q;simp only[aS,aK,aQ,Rep] at q;obtain⟨v1,y,rfl,rfl,rfl⟩:=q;refine Calls.mono (h w) ?_;rintro e w' ⟨rfl,rfl⟩;refine⟨S,μ,_,rfl,r,?_⟩;simp only[aK,aQ,Rep]
theorem aKt {f:FuncId}(c:Nat) (b:Bool) (h:∀w,Calls Tryz.prog f #[.int .u8 (c:Int)] w (j8 b w)):b9 Tryz.prog f [I .u8 c] [] (B b) []:=by
 intro S μ w vals r q;simp only[aS,aK,aQ,Rep] at q;obtain⟨v1,y,rfl,rfl,rfl⟩:=q;refine Calls.mono (h w) ?_;rintro e w' ⟨rfl,os,rfl⟩;refine⟨S,μ,_,rfl,r.grownR 0 os,?_⟩;simp only[aK,aQ,Rep]
theorem y0 {f:FuncId}(s:Str) (b:Bool) (h:∀w,Calls Tryz.prog f #[.string ⟨⟨s⟩⟩] w (j8 b w)):b9 Tryz.prog f [Go.AM.T s] [] (B b) []:=by
 intro S μ w vals q c;simp only[aS,aK,aQ,Rep] at c;obtain⟨v1,r,rfl,rfl,rfl⟩:=c;refine Calls.mono (h w) ?_;rintro e w' ⟨rfl,os,rfl⟩;refine⟨S,μ,_,rfl,q.grownR 0 os,?_⟩;simp only[aK,aQ,Rep]
theorem aEp (c:Nat):b9 Tryz.prog 189 [I .u8 c] [] (B (dgB c)) []:=aDk c _ (o7 c)
theorem aOl (c:Nat):b9 Tryz.prog 192 [I .u8 c] [] (B (sgB c)) []:=aDk c _ (zM c)
theorem aHt (c:Nat):b9 Tryz.prog 244 [I .u8 c] [] (B (plB c)) []:=aDk c _ (sQ c)
theorem aHy (c:UInt8):b9 Tryz.prog 178 [I .u8 c.toNat] [] (B (sgB c.toNat)) []:=aKt _ _ fun w=>aAm c w
theorem aIa (c:UInt8):b9 Tryz.prog 176 [Go.AM.T [c]] [] (B (nmQ c.toNat 97 122)) []:=y0 [c] _ fun w=>aC9 c w
theorem aH8 (c:UInt8):b9 Tryz.prog 177 [Go.AM.T [c]] [] (B (nmQ c.toNat 65 90)) []:=y0 [c] _ fun w=>aBp c w
theorem oD (s:Str) (c:UInt8):b9 Tryz.prog 128 [Go.AM.T s,I .u8 c.toNat] [] (I .i64 (Lib.indexByte s c)) []:=by
 intro S μ w vals r q;simp only[aS,aK,aQ,Rep] at q;obtain⟨v1,y,rfl,rfl,v2,A,rfl,rfl,rfl⟩:=q;refine Calls.mono (iK _ _ w) ?_;rintro e w' ⟨rfl,rfl⟩;refine⟨S,μ,_,rfl,r,?_⟩;rw[show(c.toNat:Int).toNat.toUInt8=c by simp];simp only[aK,aQ,Rep]
theorem aEb (c lo hi:Nat):b9 Tryz.prog 245 [I .u8 c,I .u8 lo,I .u8 hi] [] (B (wiB c lo hi)) []:=by
 intro S μ w vals r q;simp only[aS,aK,aQ,Rep] at q;obtain⟨v1,y,rfl,rfl,v2,A,rfl,rfl,v3,E,rfl,rfl,rfl⟩:=q;refine Calls.mono (fN _ _ _ w) ?_;rintro e w' ⟨rfl,rfl⟩;refine⟨S,μ,_,rfl,r,?_⟩;simp only[aK,aQ,Rep]
structure Tk where
 kind:Int
 text:Str
 n:Int
 pl:Int
def aJ (t:Tk):List C:=[.int .i64 t.kind,.str t.text,.int .i64 t.n,.int .i64 t.pl]
def aBg:List C:=[.int .i64 0,.str [],.int .i64 0,.int .i64 0]
def cJ (p:Nat→Bool):Str→Nat
 | []=>0
 | c::s=>if p c.toNat=true then cJ p s+1 else 0
theorem gY (p:Nat→Bool):∀s:Str,cJ p s≤s.length
 | []=>le_refl _
 | c::s=>by
  rw[cJ,τ];have:=gY p s;split<;>omega
theorem jS (p:Nat→Bool):∀(s:Str) (i:Nat),i≤cJ p s→∀c,s[i]?=some c→(p c.toNat=true↔i<cJ p s)
 | [],i,_,c,h=>by cases h
 | a::s,0,_,c,h=>by
  have e:a=c:=by simpa using h
  subst e;rw[cJ];by_cases hp:p a.toNat=true
  ·rw[ξ hp];exact⟨fun _=>by omega,fun _=>hp⟩
  ·rw[η hp];exact⟨fun h=>absurd h hp,fun h=>by omega⟩
 | a::s,i+1,hi,c,h=>by
  rw[cJ] at hi ⊢;by_cases hp:p a.toNat=true
  ·rw[ξ hp] at hi ⊢;rw[jS p s i (by omega) c (by simpa using h)];omega
  ·rw[η hp] at hi;omega
def neB (c:Nat):Bool:=!decide (c=10)
def preB (x s:Str):Bool:=decide (x.length≤s.length)&&decide (s.take x.length=x)
def blB (c:Nat):Bool:=decide (c=32∨c=9∨c=10)
def j0 (s:Str):Nat:=match s with
 | []=>0
 | c::_=>if blB c.toNat=true then 1 else if preB [45,45] s=true then 2+cJ neB (s.drop 2) else 0
def kR:Str→Int→Int
 | [],k=>k
 | c::s,k=>if k<3000000000 then kR s (k*10+((c.toNat:Int)-48)) else k
def s3:List Str:=[[45,62],[61,62],[92],[61],[124],[40],[41],[123],[125],[59],[58],[44],[95]]
def qB (s:Str):Str:=match s3.find? fun x=>preB x s with | some x=>x | none=>[]
def nY:List Str:=[[99,97,115,101],[99,108,97,115,115],[100,97,116,97],[105,110],[105,110,115,116,97,110,99,101],[108,101,116],[111,102]]
abbrev TE:=Except Int (Int×Str×Int)
def qX (s:Str) (up:Bool):TE:=
 if 32<cJ sgB s then .error 2
 else if up=true then .ok (2,s.take (cJ sgB s),0)
 else if s.take (cJ sgB s)∈nY then .ok (5,s.take (cJ sgB s),0)
 else .ok (1,s.take (cJ sgB s),0)
def mW:Str→TE
 | []=>.error 10
 | c::s=>
  if dgB c.toNat=true then
   (if 2147483647<kR ((c::s).take (cJ dgB (c::s))) 0 then .error 11 else .ok (3,(c::s).take (cJ dgB (c::s)),kR ((c::s).take (cJ dgB (c::s))) 0))
  else if wiB c.toNat 97 122=true∨wiB c.toNat 65 90=true then qX (c::s) (wiB c.toNat 65 90)
  else if qB (c::s)=[] then .error 10 else .ok (4,qB (c::s),0)
def aRv:TE→V
 | .ok (k,t,v)=>.tup [.pa [.int .i64 k,.str t,.int .i64 v,.int .i64 0],I .i64 0]
 | .error e=>.tup [.pa aBg,I .i64 e]
theorem yQ (c:UInt8) (lo hi:Nat):b9 Tryz.prog 227 [Go.AM.T [c],I .u8 lo,I .u8 hi] [] (B (sgB c.toNat&&wiB c.toNat lo hi)) []:=by
 have hp:=aHt c.toNat;have hw:=aEb c.toNat lo hi;refine bM (n:=46) tok Tryz.func227 rfl rfl rfl ?_;refine sg rfl (aA (sgh [(3,.bv false),(7,.bv false)] rfl (aB rfl (fun hb=>by simp at hb) (fun _=>aE (aA (sg rfl (aF (aM (fun i:Nat=>mk [(0,Go.AM.T [c]),(1,I .u8 lo),(2,I .u8 hi),(7,I .i64 i)] []) (fun i=>i=0∨(i=1∧sgB c.toNat=true)) (fun i=>1-i) 0 (.inl rfl) sl ?_))))))));rintro i (rfl | ⟨rfl,hs⟩)
 ·refine aA (sg rfl (aB rfl (fun _=>aE (aA (aF (skh 3 [(2,.byte 0 c)] rfl (kc hp ?_))))) (fun hb=>by simp at hb)));refine kz 1 rfl ?_;by_cases h1:plB c.toNat=true
  ·rw[h1];have hs:sgB c.toNat=true:=by unfold sgB;rw[h1];rfl
   exact sgh [(2,.bv false),(7,.bv false),(8,.bv false),(13,.bv false)] rfl (aB rfl (fun hb=>absurd hb (by decide)) (fun _=>aE (ag [] rfl ⟨1,.inr ⟨rfl,hs⟩,by decide,sl⟩)))
  ·have h1:=Bool.not_eq_true _ |>.mp h1;rw[h1];by_cases h2:(c.toNat:Int)=39
   ·have d2:(!decide ((c.toNat:Int)=39))=false:=by rw[φ h2];rfl
    have hs:sgB c.toNat=true:=by unfold sgB;rw[φ (by omega),Bool.or_true]
    exact sgh [(2,.bv true),(5,.byte 0 c),(7,.bv true),(8,.bv false),(13,.bv false)] rfl (aB rfl (fun hb=>absurd hb (by decide)) (fun _=>aE (ag [] rfl ⟨1,.inr ⟨rfl,hs⟩,by decide,sl⟩)))
   have d2:(!decide ((c.toNat:Int)=39))=true:=by rw[ψ h2];rfl
   by_cases q:(c.toNat:Int)=95
   ·have d3:(!decide ((c.toNat:Int)=95))=false:=by rw[φ q];rfl
    have hs:sgB c.toNat=true:=by unfold sgB;rw[φ (by omega),Bool.or_true]
    exact sgh [(2,.bv true),(5,.byte 0 c),(7,.bv true),(8,.bv true),(11,.byte 0 c),(13,.bv true)] rfl (aB rfl (fun hb=>absurd (hb.symm.trans d3) (by decide)) (fun _=>aE (ag [] rfl ⟨1,.inr ⟨rfl,hs⟩,by decide,sl⟩)))
   ·have d3:(!decide ((c.toNat:Int)=95))=true:=by rw[ψ q];rfl
    have hs:sgB c.toNat=false:=by unfold sgB;rw[h1,ψ (by omega)];rfl
    refine sgh [(2,.bv true),(5,.byte 0 c),(7,.bv true),(8,.bv true),(11,.byte 0 c),(13,.bv true)] rfl (aB rfl (fun _=>sg rfl ?_) (fun hb=>absurd (hb.symm.trans d3) (by decide)));rw[hs];exact aD rtT
 ·rw[hs];refine aA (sg rfl (aB rfl (fun hb=>by simp at hb) (fun _=>aL (skh 4 [(1,.byte 0 c)] rfl (kc hw ?_)))));exact kz 1 rfl (aD rtT)
theorem aJ2 (c:Nat):(sgB c&&wiB c 97 122)=wiB c 97 122:=by
 unfold sgB plB wiB;rw[Bo];simp;omega
theorem aJ1 (c:Nat):(sgB c&&wiB c 65 90)=wiB c 65 90:=by
 unfold sgB plB wiB;rw[Bo];simp;omega
theorem aH9 (c:UInt8):b9 Tryz.prog 190 [Go.AM.T [c]] [] (B (wiB c.toNat 97 122)) []:=by
 have h:=yQ c 97 122;rw[show((97:Nat):Int)=97 from rfl,show((122:Nat):Int)=122 from rfl,aJ2] at h;refine bM (n:=5) tok Tryz.func190 rfl rfl rfl ?_;refine sg rfl (sk 1 rfl (kc h ?_));exact kz 1 rfl (aD rtT)
theorem aH7 (c:UInt8):b9 Tryz.prog 191 [Go.AM.T [c]] [] (B (wiB c.toNat 65 90)) []:=by
 have h:=yQ c 65 90;rw[show((65:Nat):Int)=65 from rfl,show((90:Nat):Int)=90 from rfl,aJ1] at h;refine bM (n:=5) tok Tryz.func191 rfl rfl rfl ?_;refine sg rfl (sk 1 rfl (kc h ?_));exact kz 1 rfl (aD rtT)
theorem jN {p:Str→Bool}{l:List Str}{i:Nat}{x:Str}(h:(l.take i).find? p=none) (hx:l[i]?=some x) (hp:p x=false):(l.take (i+1)).find? p=none:=by
 rw[Bk,hx,List.find?_append,h];show [x].find? p=none;rw[List.find?_cons,hp];rfl
theorem jM {p:Str→Bool}{l:List Str}{i:Nat}{x:Str}(h:(l.take i).find? p=none) (hx:l[i]?=some x) (hp:p x=true):l.find? p=some x:=by
 have e:l=l.take i++x::l.drop (i+1):=by
  obtain⟨h1,h2⟩:=Ad.1 hx;have:=A8 h1;rw[h2] at this;rw[←this];exact(take_append_drop i l).symm
 rw[e,List.find?_append,h,List.find?_cons,hp];rfl
theorem aHo (s:Str):b9 Tryz.prog 195 [Go.AM.T s] [] (Go.AM.T (qB s)) []:=by
 have r:(s3.map bD).length=s3.length:=χ _;refine bM (n:=38) tok Tryz.func195 rfl rfl rfl ?_;refine sg rfl (sgh [(0,.all)] rfl (aA (sg rfl (aF (aM (fun i:Nat=>mk [(0,Go.AM.T s),(3,.one (.c (.sl 1 (s3.map bD)))),(4,I .i64 i)] []) (fun i=>i≤s3.length∧(s3.take i).find? (fun x=>preB x s)=none) (fun i=>s3.length-i) 0 ⟨Ae _,rfl⟩ sl ?_)))));rintro i ⟨hi,hn⟩;refine aA (sg rfl (aB rfl (fun hb=>?_) (fun hb=>?_)))
 ·have q:=ltD hb r;obtain⟨x,hx⟩:=aP q;have J:=bG bD hx;have y:qB s=(match s3.find? (fun x=>preB x s) with | some x=>x | none=>[]):=rfl;have B:preB x s=true→qB s=x:=fun hp=>by rw[y,jM hn hx hp]
  have A:preB x s=false→(s3.take (i+1)).find? (fun x=>preB x s)=none:=fun hp=>jN hn hx hp
  have M:s3.length≤13:=by decide
  clear y hn;generalize s3=L at *;refine aE (aA (aF (aA ?_)));by_cases h1:x.length≤s.length
  ·have d1:decide ((x.length:Int)≤(s.length:Int))=true:=φ (by omega);refine agN [(4,.row i (bD x)),(8,.bv true),(12,.row i (bD x)),(18,.row i (bD x)),(21,.bv true)] rfl ?_;by_cases h2:s.take x.length=x
   ·have hp:preB x s=true:=by unfold preB;rw[φ h1,φ h2];rfl
    have d2:decide (s.take x.length=x)=true:=φ h2;refine aB rfl (fun _=>sgh [(2,.row i (bD x))] rfl ?_) (fun hb=>absurd (hb.symm.trans d2) (by decide));rw[B hp];exact aD rtT
   ·have hp:preB x s=false:=by unfold preB;rw[ψ h2,Bool.and_false]
    have d2:decide (s.take x.length=x)=false:=ψ h2;exact aB rfl (fun hb=>absurd (hb.symm.trans d2) (by decide)) (fun _=>aE (ag [] rfl ⟨i+1,⟨q,A hp⟩,by dsimp only;omega,sl⟩))
  ·have d1:decide ((x.length:Int)≤(s.length:Int))=false:=ψ (by omega);have hp:preB x s=false:=by unfold preB;rw[ψ h1,B8]
   exact agN [(4,.row i (bD x)),(8,.bv false),(21,.bv false)] rfl (aB rfl (fun hb=>absurd hb (by decide)) (fun _=>aE (ag [] rfl ⟨i+1,⟨q,A hp⟩,by dsimp only;omega,sl⟩)))
 ·have E:=geD hb r hi;rw[E,Az] at hn;have e:qB s=[]:=by unfold qB;rw[hn]
  rw[e];exact aL (sg rfl (aD rtT))
theorem aLn (c:UInt8) (r:Str) (hl:r.length≤4000):b9 Tryz.prog 151 [Go.AM.T (c::r)] [] (I .i64 (j0 (c::r))) []:=by
 refine bM (n:=40) tok Tryz.func151 rfl rfl rfl ?_;refine sg rfl ?_;have key:∀b:Bool,blB c.toNat=b→j0 (c::r)=if b=true then 1 else if preB [45,45] (c::r)=true then 2+cJ neB (r.drop 1) else 0:=fun b hb=>by rw[←hb];rfl
 by_cases h1:(c.toNat:Int)=32
 ·have d1:decide ((c.toNat:Int)=32)=true:=φ h1;refine aA (sgh [(1,.byte 0 c),(3,.bv true),(7,.bv true),(8,.bv true),(12,.bv true)] rfl (aB rfl (fun _=>?_) (fun hb=>absurd hb (by decide))));rw[key true (φ (by omega)),ξ rfl];exact sg rfl (aD rtT)
 have d1:decide ((c.toNat:Int)=32)=false:=ψ h1;by_cases h2:(c.toNat:Int)=9
 ·have d2:decide ((c.toNat:Int)=9)=true:=φ h2;refine aA (sgh [(1,.byte 0 c),(3,.bv false),(5,.byte 0 c),(7,.bv false),(8,.bv true),(12,.bv true)] rfl (aB rfl (fun _=>?_) (fun hb=>absurd hb (by decide))));rw[key true (φ (by omega)),ξ rfl];exact sg rfl (aD rtT)
 have d2:decide ((c.toNat:Int)=9)=false:=ψ h2;refine aA (sgh [(1,.byte 0 c),(3,.bv false),(5,.byte 0 c),(7,.bv false),(8,.bv false),(10,.byte 0 c),(12,.bv false)] rfl (aB rfl (fun hb=>?_) (fun hb=>?_)))
 ·have U:=κ hb;rw[key true (φ (by omega)),ξ rfl];exact sg rfl (aD rtT)
 have U:=Af hb;rw[key false (ψ (by omega)),η π];clear key;refine aE ?_;have q:r.drop 1=(c::r).drop 2:=rfl;rw[q];have B:(c::r).length≤4001:=by rw[τ];omega
 generalize c::r=S at B ⊢;clear q hl;by_cases E:2≤S.length
 ·have dl:decide ((1:Int)<(S.length:Int))=true:=φ (by omega);refine aA (sgh [(3,.bv true),(7,.bv true)] rfl (aB rfl (fun hb=>?_) (fun hb=>?_)))
  ·have hp:preB [45,45] S=true:=by unfold preB;rw[φ (show([45,45]:Str).length≤S.length from E)];exact hb
   rw[ξ hp];refine sg rfl ?_;have Y:=gY neB (S.drop 2);rw[Bf] at Y;refine aA (aF (aM (fun j:Nat=>mk [(0,Go.AM.T S),(3,I .i64 ((2+j:Nat):Int))] []) (fun j=>j≤cJ neB (S.drop 2)) (fun j=>cJ neB (S.drop 2)-j) 0 (Ae _) sl ?_));intro j hj;by_cases J:2+j<S.length
   ·obtain⟨d,M⟩:=aP J;have A:(S.take (2+j+1)).drop (2+j)=[d]:=by
     rw[Bk,M,drop_append,List.drop_eq_nil_of_le (by rw[Al];omega),Al,Cr (by omega),B4];rfl
    have y:=jS neB (S.drop 2) j hj d (by rw[Aj];exact M);have dj:decide (((2+j:Nat):Int)<(S.length:Int))=true:=φ (by omega);refine aA (aA (agN [(4,.bv true),(11,.bv true)] rfl ?_));rw[A];refine aB rfl (fun hb=>?_) (fun hb=>?_)
    ·have O:j<cJ neB (S.drop 2):=y.1 (by
      unfold neB;simp at hb ⊢
      exact fun e=>hb (UInt8.toNat_inj.1 e))
     exact aE (aF (agN [] rfl ⟨j+1,O,by dsimp only;omega,sl⟩))
    ·have e:j=cJ neB (S.drop 2):=by
      have:¬j<cJ neB (S.drop 2):=fun h=>by
       have:=y.2 h;unfold neB at this;simp at hb this;exact this (by rw[hb];rfl)
      omega
     rw[←e];exact aL (sg rfl (aD rtT))
   ·have dj:decide (((2+j:Nat):Int)<(S.length:Int))=false:=ψ (by omega);have e:j=cJ neB (S.drop 2):=by omega
    refine aA (aA (agN [(4,.bv false),(11,.bv false)] rfl (aB rfl (fun hb=>absurd hb (by decide)) (fun _=>?_))));rw[←e];exact aL (sg rfl (aD rtT))
  ·have hp:¬preB [45,45] S=true:=by
    unfold preB;have hb:decide (S.take 2=[45,45])=false:=hb;rw[show([45,45]:Str).length=2 from rfl,hb,Bool.and_false];exact π
   rw[η hp];exact aE (sg rfl (aD rtT))
 ·have dl:decide ((1:Int)<(S.length:Int))=false:=ψ (by omega);have hp:¬preB [45,45] S=true:=by
   unfold preB;rw[ψ (show ¬([45,45]:Str).length≤S.length from E),B8];exact π
  rw[η hp];exact aA (sgh [(3,.bv false),(7,.bv false)] rfl (aB rfl (fun hb=>absurd hb (by decide)) (fun _=>aE (sg rfl (aD rtT)))))
end Go.Proofs.YtpmheldmadendaaGreatDoor
namespace Go.AM
open Go
section
variable {fn:Func}{st:St}{hin hout:List (Nat×AObj)}{res res2 res3:V}
theorem x8 {tr:Tr}{a t u:Nat}{i:TI}{id off tv:Nat}{cells:List R}{v v2:V}{ids q:List Nat}(hw:tr.wf=true) (y:fn.results.toList=[.cell a t,.tmp u]:=by rfl) (hi:tr.get t=some i:=by rfl) (ha:st.e a=some (.one (.vp id off)):=by rfl) (hh:st.h id=some (.var tv cells):=by rfl) (hb:Nat.ble (off+i.size) cells.length=true:=by rfl) (A:gX i ((cells.drop off).take i.size)=some v:=by rfl) (hu:st.e u=some v2:=by rfl)
  (hc:Conv st.h ids v res:=by first | exact .refl | exact .one (.c .nl .nil) | ((first | apply Go.AM.Conv.pa | apply Go.AM.Conv.agg);repeat (first | exact .nil | apply Go.AM.PureL.c .refl | apply Go.AM.PureL.c .nl | (apply Go.AM.PureL.hs;rfl;(first | rfl | assumption | simp);(first | rfl | exact Go.AM.take_all (by first | assumption | rfl | (simp;done)) | exact Go.AM.take_map.symm)))))
  (r:Conv st.h q v2 res2:=by exact .refl)
  (ho:eN (fun p=>∃o,st.h p.1=some o∧Ole (fun i=>i) o p.2) hout:=by repeat (first | exact trivial | refine⟨⟨_,rfl,by first | exact Go.AM.Ole.arr | exact Go.AM.Ole.var rfl | exact Go.AM.Ole.varS rfl⟩,?_⟩))
  (hok:(subset (V.tup [res,res2]).refs (keys hout)&&subset (eK hout) (keys hout)&&distinct (keys hout)&&subset (keys hin) (keys hout)&&(hin.all fun p=>p.2.plain)&&(hout.all fun p=>p.2.plain))=true:=by rfl):(Exit.ret=.normal∨Exit.ret=.ret)∧Fin tr.flat fn st hin (.tup [res,res2]) hout:=
 ⟨.inr rfl,⟨[v,v2],[res,res2],by rw[y];exact .cell ha (Tr.get_ok hw hi) hh hb A (.tmp hu .nil),.cons hc (.cons r .nil),rfl⟩,ho,hok⟩
end
end Go.AM
namespace Go.Proofs.YtpmheldmadendaaGreatDoor
open Go Go.AM
set_option maxRecDepth 20000
set_option maxHeartbeats 4000000
theorem lL {ro:Option Nat}{P:Program}{n:Nat}{kf:List Nat}{x y:Code}{st:St}{Q:Exit→St→Prop}(σ:St) (h:AWp ro P n kf x st (fun ex st'=>(ex=.normal∧Sub kf σ st')∨(¬ex=.normal∧Q ex st'))) (k:AWp ro P n kf y σ Q):AWp ro P n kf (.seq x y) st Q:=
 aA (h.post fun ex st' q=>by
  rcases q with⟨rfl,q⟩ | ⟨c,q⟩
  ·exact⟨σ,q,k⟩
  ·refine⟨st',fun G n S μ a w r hs=>⟨S,μ,hs⟩,?_⟩;cases ex with
   | normal=>exact absurd rfl c
   | _=>exact q)
theorem aN3 {k:Int}(h:¬k<3000000000):∀l:Str,kR l k=k
 | []=>rfl
 | _::_=>by rw[kR,η h]
theorem aLr:b9 Tryz.prog 194 [] [] (.one (.c (.sl 1 (nY.map bD)))) []:=by
 refine bM (n:=2) tok Tryz.func194 rfl rfl rfl ?_;exact sg rfl (sgh [(0,.all)] rfl (aD rtT))
theorem aOp (c:UInt8) (r:Str) (hl:r.length≤4000):b9 Tryz.prog 152 [Go.AM.T (c::r)] [] (aRv (mW (c::r))) []:=by
 have ad:=aEp c.toNat;refine bM (n:=108) tok Tryz.func152 rfl rfl rfl ?_;refine sg rfl (sg rfl (aA (skh 2 [(1,.byte 0 c)] rfl (kc ad ?_))));refine az ?_;have h0:(c::r)[0]?=some c:=rfl;have hSl:(c::r).length≤4001:=by rw[τ];omega
 have hS1:1≤(c::r).length:=by rw[τ];omega
 refine aB rfl (fun hb=>?_) (fun hb=>?_)
 ·have A:mW (c::r)=if 2147483647<kR ((c::r).take (cJ dgB (c::r))) 0 then .error 11 else .ok (3,(c::r).take (cJ dgB (c::r)),kR ((c::r).take (cJ dgB (c::r))) 0):=by
   rw[mW,ξ hb]
  rw[A];clear A;generalize c::r=S at *;have hW:=gY dgB S;refine lL (mk [(0,Go.AM.T S),(2,.one (.vp 2 0)),(4,I .i64 (cJ dgB S:Nat))] [(2,.var 152 (aBg.map .c))]) ?_ ?_
  ·refine aF (aM (fun j:Nat=>mk [(0,Go.AM.T S),(2,.one (.vp 2 0)),(4,I .i64 j)] [(2,.var 152 (aBg.map .c))]) (fun j=>j≤cJ dgB S) (fun j=>cJ dgB S-j) 0 (Ae _) sl ?_);intro j U;by_cases Y:j<S.length
   ·obtain⟨d,E⟩:=aP Y;have J:=jS dgB S j U d E;have aa:=aEp d.toNat;have q:decide ((j:Int)<(S.length:Int))=true:=φ (by omega);have M:(if(S.length:Int)-1<(j:Int) then(S.length:Int)-1 else(j:Int))=(j:Int):=η (by omega);refine aA (skh 12 [(4,.bv true),(11,.byte j d)] rfl (kcG aa ?_) (hc:=⟨⟨M,E⟩,q,q,⟨by omega,by omega⟩,q,q,q,q,q,trivial⟩));refine ak 1 [(4,.bv true),(13,.bv true)] rfl (az (aB rfl (fun hb=>?_) (fun hb=>?_)))
    ·exact aE (aF (ag [] rfl ⟨j+1,J.1 hb,by dsimp only;have:=J.1 hb;omega,sl⟩))
    ·have e:j=cJ dgB S:=by
      have:¬j<cJ dgB S:=fun h=>by rw[J.2 h] at hb;cases hb
      omega
     refine aL ?_;rw[←e];exact .inl ⟨rfl,sl⟩
   ·have e:j=cJ dgB S:=by omega
    have q:decide ((j:Int)<(S.length:Int))=false:=ψ (by omega);refine aA (sgh [(4,.bv false),(13,.bv false)] rfl (aB rfl (fun hb=>absurd hb (by decide)) (fun _=>aL ?_)));rw[←e];exact .inl ⟨rfl,sl⟩
  ·have aj:∀(j:Nat) (d:UInt8),j<cJ dgB S→S[j]?=some d→48≤d.toNat∧d.toNat≤57:=fun j d U E=>κ ((jS dgB S j (by omega) d E).2 U)
   have al:(S.take (cJ dgB S)).length=cJ dgB S:=by rw[Al];omega
   generalize cJ dgB S=N at *;refine sg rfl (lL (mk [(0,Go.AM.T S),(2,.one (.vp 2 0)),(4,I .i64 (N:Nat)),(5,I .i64 (kR (S.take N) 0))] [(2,.var 152 (aBg.map .c))]) ?_ ?_)
   ·refine sg rfl (aF (aM (fun p:Nat×Int=>mk [(0,Go.AM.T S),(2,.one (.vp 2 0)),(4,I .i64 (N:Nat)),(5,I .i64 p.2),(6,I .i64 p.1)] [(2,.var 152 (aBg.map .c))]) (fun p=>p.1≤N∧0≤p.2∧p.2≤30000000300∧kR ((S.take N).drop p.1) p.2=kR (S.take N) 0) (fun p=>N-p.1) (0,0) ⟨Ae _,by decide,by decide,rfl⟩ sl ?_));rintro⟨i,k⟩ ⟨hi,am,an,O⟩;dsimp only at hi am an O ⊢;by_cases ab:i<N
    ·have d1:decide ((i:Int)<(N:Int))=true:=φ (by omega);refine aA (sgh [(3,.bv true),(6,.bv true)] rfl (aB rfl (fun hb=>?_) (fun hb=>?_)))
     ·have ac:=κ hb;obtain⟨d,E⟩:=aP (l:=S) (k:=i) (by omega);obtain⟨g1,g2⟩:=aj i d ab E;have hw:IntKind.wrap .i64 (d.toNat:Int)=(d.toNat:Int):=Bt _ (by omega);have ap:(S.take N).drop i=d::(S.take N).drop (i+1):=by
       obtain⟨q1,q2⟩:=Ad.1 (show(S.take N)[i]?=some d by rw[Ai,ξ ab];exact E);rw[A8 q1,q2]
      rw[ap,kR,ξ ac,show k*10+((d.toNat:Int)-48)=k*10+(d.toNat:Int)-48 by omega] at O;refine aE (aA (aF (ag [(4,.byte i d)] rfl ?_ (hc:=⟨⟨by rw[hw];omega,by rw[hw];omega⟩,⟨by rw[hw];omega,by rw[hw];omega⟩,⟨rfl,E⟩,⟨by omega,by omega⟩,trivial⟩))));rw[hw];exact ag [] rfl ⟨(i+1,k*10+(d.toNat:Int)-48),⟨ab,by dsimp only;omega,by dsimp only;omega,O⟩,by dsimp only;omega,sl⟩
     ·have ac:=Af hb;rw[aN3 ac] at O;refine aL ?_;rw[←O];exact .inl ⟨rfl,sl⟩
    ·have e:i=N:=by omega
     have d1:decide ((i:Int)<(N:Int))=false:=ψ (by omega);rw[e,List.drop_eq_nil_of_le (by rw[al];exact le_refl _),kR] at O;refine aA (sgh [(3,.bv false),(6,.bv false)] rfl (aB rfl (fun hb=>absurd hb (by decide)) (fun _=>aL ?_)));rw[←O];exact .inl ⟨rfl,sl⟩
   ·generalize kR (S.take N) 0=K;refine aA (sg rfl (aB rfl (fun hb=>?_) (fun hb=>?_)))
    ·rw[ξ (κ hb)];exact sg rfl (aD (x8 trw))
    ·rw[η (Af hb)];exact aE (sg rfl (aD (x8 trw)))
 ·have A:mW (c::r)=if wiB c.toNat 97 122=true∨wiB c.toNat 65 90=true then qX (c::r) (wiB c.toNat 65 90) else if qB (c::r)=[] then .error 10 else .ok (4,qB (c::r),0):=by
   rw[mW,η (by rw[hb];exact π)]
  rw[A];clear A;have ae:=aH9 c;have af:=aH7 c;have aq:=aHo (c::r);have ah:(c::r).take 1=[c]:=rfl;generalize c::r=S at *;refine aE (sk 2 rfl ?_);rw[ah];refine kc ae ?_;refine kz 1 rfl (sk 2 rfl ?_);rw[ah];refine kc af ?_;refine kz 1 rfl ?_;generalize wiB c.toNat 65 90=up at *;generalize wiB c.toNat 97 122=lo at *;by_cases hn:lo=true∨up=true
  ·rw[ξ hn];have ar:=aLr;have au:=aRc nY (S.take (cJ sgB S)) (by unfold Fits;decide);have ai:(bif lo then true else up)=true:=by
    rcases hn with h | h
    ·rw[h];rfl
    ·rw[h];cases lo<;>rfl
   refine aA (aA (agF 2 [] rfl rfl rfl (aB rfl (fun _=>AWp.sub (st2:=mk [(0,Go.AM.T S),(2,.one (.vp 2 0)),(4,I .i64 0),(8,B up)] [(2,.var 152 (aBg.map .c))]) sl ?_) (fun hb=>absurd (hb.symm.trans ai) (by decide)))));clear ai hn ae af ad;have hW:=gY sgB S;refine lL (mk [(0,Go.AM.T S),(2,.one (.vp 2 0)),(4,I .i64 (cJ sgB S:Nat)),(8,B up)] [(2,.var 152 (aBg.map .c))]) ?_ ?_
   ·refine aF (aM (fun j:Nat=>mk [(0,Go.AM.T S),(2,.one (.vp 2 0)),(4,I .i64 j),(8,B up)] [(2,.var 152 (aBg.map .c))]) (fun j=>j≤cJ sgB S) (fun j=>cJ sgB S-j) 0 (Ae _) sl ?_);intro j U;by_cases Y:j<S.length
    ·obtain⟨d,E⟩:=aP Y;have J:=jS sgB S j U d E;have aa:=aOl d.toNat;have q:decide ((j:Int)<(S.length:Int))=true:=φ (by omega);have M:(if(S.length:Int)-1<(j:Int) then(S.length:Int)-1 else(j:Int))=(j:Int):=η (by omega);refine aA (skh 12 [(4,.bv true),(11,.byte j d)] rfl (kcG aa ?_) (hc:=⟨⟨M,E⟩,q,q,⟨by omega,by omega⟩,q,q,q,q,q,trivial⟩));refine ak 1 [(4,.bv true),(13,.bv true)] rfl (az (aB rfl (fun hb=>?_) (fun hb=>?_)))
     ·exact aE (aF (ag [] rfl ⟨j+1,J.1 hb,by dsimp only;have:=J.1 hb;omega,sl⟩))
     ·have e:j=cJ sgB S:=by
       have:¬j<cJ sgB S:=fun h=>by rw[J.2 h] at hb;cases hb
       omega
      refine aL ?_;rw[←e];exact .inl ⟨rfl,sl⟩
    ·have e:j=cJ sgB S:=by omega
     have q:decide ((j:Int)<(S.length:Int))=false:=ψ (by omega);refine aA (sgh [(4,.bv false),(13,.bv false)] rfl (aB rfl (fun hb=>absurd hb (by decide)) (fun _=>aL ?_)));rw[←e];exact .inl ⟨rfl,sl⟩
   ·unfold qX;generalize cJ sgB S=N at *;refine aA (sg rfl (aB rfl (fun hb=>?_) (fun hb=>?_)))
    ·rw[ξ (by have:=κ hb;omega)];exact sg rfl (aD (x8 trw))
    rw[η (by have:=Af hb;omega)];refine aE (aA (sg rfl (aB rfl (fun hb=>?_) (fun hb=>?_))))
    ·rw[ξ hb];exact sg rfl (aD (x8 trw))
    rw[η (by rw[hb];exact π)];refine aE ?_;generalize nY=L at *;refine aA (aA (aC mixed (kc ar ?_)));refine akN 3 [] rfl (kc au ?_);refine az (aB rfl (fun hb=>?_) (fun hb=>?_))
    ·rw[ξ (κ hb)];exact sg rfl (aD (x8 trw))
    ·rw[η (Af hb)];exact aE (sg rfl (aD (x8 trw)))
  ·rw[η hn];have h1:lo=false:=by cases lo<;>simp at hn ⊢
   have h2:up=false:=by cases up<;>simp at hn ⊢
   subst h1 h2;refine aA (sgh [(1,.bv false),(3,.bv false)] rfl (aB rfl (fun hb=>absurd hb (by decide)) (fun _=>aE (sk 1 rfl (kc aq ?_)))));refine kz 1 rfl ?_;generalize qB S=y at *;refine aA (sg rfl (aB rfl (fun hb=>?_) (fun hb=>?_)))
   ·rw[ξ (κ hb)];exact sg rfl (aD (x8 trw))
   ·rw[η (Af hb)];exact aE (sg rfl (aD (x8 trw)))
end Go.Proofs.YtpmheldmadendaaGreatDoor
namespace Go.AM
open Go
section
variable {fn:Func}{st:St}{hin hout:List (Nat×AObj)}{res res2 res3:V}
theorem aMd {tr:Tr}{a t u:Nat}{i:TI}{id off tv:Nat}{cells:List R}{v v2:V}{ids q:List Nat}(hw:tr.wf=true) (y:fn.results.toList=[.tmp u,.cell a t]:=by rfl) (hi:tr.get t=some i:=by rfl) (ha:st.e a=some (.one (.vp id off)):=by rfl) (hh:st.h id=some (.var tv cells):=by rfl) (hb:Nat.ble (off+i.size) cells.length=true:=by rfl) (A:gX i ((cells.drop off).take i.size)=some v:=by rfl) (hu:st.e u=some v2:=by rfl)
  (hc:Conv st.h ids v res2:=by first | exact .refl | exact .one (.c .nl .nil) | ((first | apply Go.AM.Conv.pa | apply Go.AM.Conv.agg);repeat (first | exact .nil | apply Go.AM.PureL.c .refl | apply Go.AM.PureL.c .nl | (apply Go.AM.PureL.hs;rfl;(first | rfl | assumption | simp);(first | rfl | exact Go.AM.take_all (by first | assumption | rfl | (simp;done)) | exact Go.AM.take_map.symm)))))
  (r:Conv st.h q v2 res:=by exact .refl)
  (ho:eN (fun p=>∃o,st.h p.1=some o∧Ole (fun i=>i) o p.2) hout:=by repeat (first | exact trivial | refine⟨⟨_,rfl,by first | exact Go.AM.Ole.arr | exact Go.AM.Ole.var rfl | exact Go.AM.Ole.varS rfl⟩,?_⟩))
  (hok:(subset (V.tup [res,res2]).refs (keys hout)&&subset (eK hout) (keys hout)&&distinct (keys hout)&&subset (keys hin) (keys hout)&&(hin.all fun p=>p.2.plain)&&(hout.all fun p=>p.2.plain))=true:=by rfl):(Exit.ret=.normal∨Exit.ret=.ret)∧Fin tr.flat fn st hin (.tup [res,res2]) hout:=
 ⟨.inr rfl,⟨[v2,v],[res,res2],by rw[y];exact .tmp hu (.cell ha (Tr.get_ok hw hi) hh hb A .nil),.cons r (.cons hc .nil),rfl⟩,ho,hok⟩
end
end Go.AM
namespace Go.Proofs.YtpmheldmadendaaGreatDoor
open Go Go.AM
set_option maxRecDepth 20000
set_option maxHeartbeats 4000000
abbrev LE:=Except (Int×Int) (List Tk)
def tQ (t:Tk):LE→LE
 | .ok l=>.ok (t::l)
 | .error e=>.error e
def lO:Nat→Nat→Str→LE
 | 0,at',_=>.ok [⟨6,[],0,at'⟩]
 | _+1,at',[]=>.ok [⟨6,[],0,at'⟩]
 | f+1,at',c::r=>
  if 0<j0 (c::r) then lO f (at'+j0 (c::r)) ((c::r).drop (j0 (c::r)))
  else match mW (c::r) with
   | .error e=>.error (e,at')
   | .ok (k,t,v)=>tQ ⟨k,t,v,at'⟩ (lO f (at'+t.length) ((c::r).drop t.length))
def kA (s:Str):LE:=if 4000<s.length then .error (2,0) else lO s.length 0 s
def aMh (out:List Tk):LE→LE
 | .ok l=>.ok (out++l)
 | .error e=>.error e
theorem sO (out:List Tk) (t:Tk) (r:LE):aMh out (tQ t r)=aMh (out++[t]) r:=by
 cases r with
 | ok l=>show Except.ok _=Except.ok _;simp
 | error e=>rfl
def atV (e p:Int):V:=.pa [.int .i64 e,.int .i64 p]
def aAl:LE→V
 | .ok l=>.tup [.one (.c (.sl 4 (l.map aJ))),atV 0 0]
 | .error (e,p)=>.tup [.one (.c .nl),atV e p]
theorem uA (s:Str):j0 s≤s.length:=by
 unfold j0;cases s with
 | nil=>exact le_refl _
 | cons c r=>
  dsimp only;split
  ·rw[τ];omega
  ·split
   ·rename_i h;have hp:2≤(c::r).length:=by
     unfold preB at h;rw[Aa] at h;exact κ h.1
    have:=gY neB ((c::r).drop 2);rw[Bf] at this;omega
   ·exact Ae _
theorem aJ0 (s:Str) (h:¬qB s=[]):1≤(qB s).length∧(qB s).length≤s.length:=by
 refine⟨length_pos_iff.2 h,?_⟩;unfold qB at h ⊢;cases c:s3.find? fun x=>preB x s with
 | none=>rw[c] at h;exact absurd rfl h
 | some x=>
  have:=List.find?_some c;unfold preB at this;rw[Aa] at this;exact κ this.1
theorem qV {c:UInt8}{r:Str}{k:Int}{t:Str}{v:Int}(h:mW (c::r)=.ok (k,t,v)):1≤t.length∧t.length≤(c::r).length:=by
 have h1:∀p:Nat→Bool,p c.toNat=true→1≤((c::r).take (cJ p (c::r))).length∧((c::r).take (cJ p (c::r))).length≤(c::r).length:=fun p hp=>by
  have:=gY p (c::r);rw[Al];rw[cJ,ξ hp] at this ⊢;rw[τ] at this ⊢;omega
 rw[mW] at h;by_cases q:dgB c.toNat=true
 ·rw[ξ q] at h;split at h
  ·cases h
  ·cases h;exact h1 _ q
 rw[η q] at h;by_cases hn:wiB c.toNat 97 122=true∨wiB c.toNat 65 90=true
 ·rw[ξ hn] at h;have hs:sgB c.toNat=true:=by
   rcases hn with h | h
   ·have:=aJ2 c.toNat;rw[h] at this;simpa using this
   ·have:=aJ1 c.toNat;rw[h] at this;simpa using this
  unfold qX at h;split at h
  ·cases h
  split at h
  ·cases h;exact h1 _ hs
  split at h
  ·cases h;exact h1 _ hs
  ·cases h;exact h1 _ hs
 rw[η hn] at h;split at h
 ·cases h
 ·rename_i hy;cases h;exact aJ0 _ hy
theorem qW {c:UInt8}{r:Str}{e:Int}(h:mW (c::r)=.error e):¬e=0:=by
 rw[mW] at h;split at h
 ·split at h
  ·cases h;decide
  ·cases h
 split at h
 ·unfold qX at h;split at h
  ·cases h;decide
  split at h
  ·cases h
  split at h<;>cases h
 split at h
 ·cases h;decide
 ·cases h
theorem aO6 (S:Str):b9 Tryz.prog 92 [Go.AM.T S] [] (aAl (kA S)) []:=by
 refine bM (n:=56) tok Tryz.func92 rfl rfl rfl ?_;refine sg rfl (aA (sg rfl (aB rfl (fun hb=>?_) (fun hb=>?_))))
 ·unfold kA;rw[ξ (by have:=κ hb;omega)];exact sg rfl (aD (aMd trw))
 have hl:S.length≤4000:=by have:=Af hb;omega
 have hA:kA S=aMh [] (lO S.length 0 (S.drop 0)):=by
  unfold kA;rw[η (by omega),B1];cases lO S.length 0 S<;>rfl
 refine aE (sg rfl (sg rfl (AWp.sub (Sub.own (t:=4) (id:=500) 152 4 rfl rfl) ?_)));refine aA (aF (aM (fun p:Nat×Nat×List Tk=>mk [(0,Go.AM.T S),(3,.one (.vp 3 0)),(4,.one (.hs 500 0 p.2.2.length p.2.2.length)),(5,I .i64 p.1)] [(3,.var 32 [.c (.int .i64 0),.c (.int .i64 0)]),(500,.arr 152 4 (p.2.2.map aJ) 0)]) (fun p=>p.1≤S.length∧S.length-p.1≤p.2.1∧p.2.2.length+(S.length-p.1)≤S.length∧kA S=aMh p.2.2 (lO p.2.1 p.1 (S.drop p.1))) (fun p=>p.2.1) (0,S.length,[]) ⟨Ae _,by dsimp only;omega,by dsimp only;simp,hA⟩ sl ?_));rintro⟨i,f,out⟩ ⟨hi,hf,J,q⟩;dsimp only at hi hf J q ⊢;have hout:(out.map aJ).length=out.length:=χ _;refine aA (sg rfl (aB rfl (fun hb=>?_) (fun hb=>?_)))
 ·have hlt:i<S.length:=by have:=κ hb;omega
  obtain⟨g,rfl⟩:∃g,f=g+1:=⟨f-1,by omega⟩
  obtain⟨c,r,A⟩:∃c r,S.drop i=c::r:=by
   cases h:S.drop i with
   | nil=>
    have:=congrArg List.length h;rw[Bf,length_nil] at this;omega
   | cons c r=>exact⟨c,r,rfl⟩
  have M:(c::r).length=S.length-i:=by rw[←A,Bf]
  rw[τ] at M;have O:=aLn c r (by omega);have U:=aOp c r (by omega);have Y:=uA (c::r);have aa:= @qV c r;have ab:= @qW c r;rw[A,lO] at q;refine aE (aF (sk 3 rfl ?_));rw[A];refine kc O ?_;refine kz 1 rfl ?_;have E:∀m:Nat,(c::r).drop m=S.drop (i+m):=fun m=>by rw[←A,Cp]
  rw[τ] at Y;refine aA (sg rfl (aB rfl (fun hb=>?_) (fun hb=>?_)))
  ·have B:0<j0 (c::r):=by have:=κ hb;omega
   rw[ξ B,E] at q;generalize j0 (c::r)=m at *;exact aA (agN [] rfl (aL ⟨(i+m,g,out),⟨by dsimp only;omega,by dsimp only;omega,by dsimp only;omega,q⟩,by dsimp only;omega,sl⟩))
  ·have B:¬0<j0 (c::r):=by have:=Af hb;omega
   rw[η B] at q;refine aE (sk 3 rfl ?_);rw[A];refine kc U ?_;generalize mW (c::r)=o at *;cases o with
   | error e=>
    dsimp only at q;have he:=ab rfl;rw[q];exact kz 6 rfl (aA (sg rfl (aB rfl (fun _=>sg rfl (aD (aMd trw))) (fun hb=>absurd hb (by simp[he])))))
   | ok p=>
    obtain⟨k,t,v⟩:=p;dsimp only at q;obtain⟨ht1,ac⟩:=aa rfl;rw[τ] at ac;rw[sO,E] at q;refine kz 6 rfl (aA (sg rfl (aB rfl (fun hb=>absurd hb (by decide)) (fun _=>aE (sg rfl (sgh [(1,.all),(2,.all)] rfl (agN [] rfl ?_)))))));have y:out.map aJ++[[.int .i64 k,.str t,.int .i64 v,.int .i64 (i:Int)]]=(out++[(⟨k,t,v,i⟩:Tk)]).map aJ:=by simp[aJ]
    exact⟨(i+t.length,g,out++[⟨k,t,v,i⟩]),⟨by dsimp only;omega,by dsimp only;omega,by dsimp only;rw[ζ,Ba];omega,q⟩,by dsimp only;omega,sl (he:=⟨rfl,rfl,Go.AM.hs_ren (by simp) (by simp),rfl,trivial⟩) (hh:=⟨⟨_,rfl,.var rfl⟩,⟨_,rfl,.arrS y⟩,trivial⟩)⟩
 ·have e:i=S.length:=by have:=Af hb;omega
  have hE:lO f i (S.drop i)=.ok [⟨6,[],0,i⟩]:=by
   rw[e,Ck];cases f<;>rfl
  rw[hE] at q;rw[q];have y:out.map aJ++[[.int .i64 6,.str [],.int .i64 0,.int .i64 (i:Int)]]=(out++[(⟨6,[],0,i⟩:Tk)]).map aJ:=by simp[aJ]
  refine aL (sgh [(4,.all)] rfl ?_);subst e;show AWp _ _ _ _ _ _ (fun ex st=>(ex=.normal∨ex=.ret)∧Fin _ _ st _ (aAl (.ok (out++[⟨6,[],0,(S.length:Int)⟩]))) _);unfold aAl;dsimp only;rw[←y];refine AWp.sub (Sub.freeze (id:=500) rfl) (AWp.sub (cv 2 (out.map aJ++[[.int .i64 6,.str [],.int .i64 0,.int .i64 (S.length:Int)]])) ?_);exact aD (aMd trw)
end Go.Proofs.YtpmheldmadendaaGreatDoor
namespace Go.Proofs.YtpmheldmadendaaGreatDoor
open Go Go.AM
set_option maxRecDepth 20000
def pO (n:Int):List C:=[.int .i64 n]
def kC (a b:Ty):Ty:=.mk 4 0 [] [a,b]
def arrow:Str:=[45,62]
def aBt (a b:Ty):Ty:=kC (kC (.mk 3 0 arrow []) a) b
def aMt (l:List Int):Prop:=∀x∈l,i64 x
def tyV (t:Ty):V:=.pa (bT t)
def zTy:Ty:=.mk 0 0 [] []
theorem aOv (l:List Int) (k:Nat) (q:Fits l) (r:k≤1000):b9 Tryz.prog 78 [.one (.c (.sl 1 (l.map pO))),I .i64 k] [] (.one (.c (.sl 1 ((l.take k).map pO)))) []:=by
 unfold Fits at q;refine bM (n:=14) tok Tryz.func78 rfl rfl rfl ?_;refine sg rfl (sg rfl (sk 6 rfl ?_));have hm:(if(k:Int)<(((l.map pO).length:Nat):Int) then(k:Int) else(((l.map pO).length:Nat):Int))=((min l.length k:Nat):Int):=by
  rw[χ];split<;>omega
 rw[hm];have ht:(l.map pO).take (min l.length k)=(l.take k).map pO:=by
  rw[←List.map_take];congr 1;by_cases h:k≤l.length
  ·rw[Nat.min_eq_right h]
  ·rw[Cr (by omega),Aq (le_refl _),Aq (by omega)]
 have hl:((l.map pO).take (min l.length k)).length≤1000:=by rw[Al];omega
 refine akN 3 [] rfl (az (AWp.sub (Sub.freeze (id:=13) rfl) (aD ?_))) (hc:=⟨by omega,by rw[χ];omega,by omega,trivial⟩);rw[←ht];exact⟨.inr rfl,⟨_,_,.tmp rfl .nil,.cons (.one (.hs rfl rfl (by rw[B1,Az]) .nil)) .nil,rfl⟩,trivial,rfl⟩
theorem fZ {α:Type}{l:List α}{k:Nat}{x:α}(h:l[k]?=some x):l.take (k+1)=l.take k++[x]:=by rw[Bk,h];rfl
def dH (l:List Str):V:=.one (.c (.sl 1 (l.map bD)))
def vW (s:Str):List Str→Int→Int
 | [],_=> -1
 | x::l,k=>if s=x then k else vW s l (k+1)
theorem r4 (s:Str):∀(l:List Str) (k:Int),0≤k→(decide (0≤vW s l k)=decide (s∈l))
 | [],k,_=>by simp[vW]
 | x::l,k,c=>by
  rw[vW];split
  ·rename_i h;subst h;simp[c]
  ·rename_i h;rw[r4 s l (k+1) (by omega)];simp[h]
theorem aLj (l:List Str) (s:Str) (h:l.length≤600000000000):b9 Tryz.prog 214 [dH l,Go.AM.T s] [] (I .i64 (vW s l 0)) []:=by
 refine bM (n:=19) tok Tryz.func214 rfl rfl rfl ?_;refine sg rfl (aA (sg rfl ?_));have q:(l.map bD).length=l.length:=χ _;refine aF (aM (fun i:Nat=>mk [(0,dH l),(1,Go.AM.T s),(7,I .i64 ((l.map bD).length:Int)),(8,I .i64 i)] []) (fun i=>i≤l.length∧vW s l 0=vW s (l.drop i) i) (fun i=>l.length-i) 0 ⟨Ae _,rfl⟩ sl ?_);intro i ⟨hi,he⟩;refine sg rfl (aA (aB rfl (fun hb=>?_) (fun hb=>?_)))
 ·have c:=ltD hb q;obtain⟨x,hx⟩:=aP c;have A:=bG bD hx;have y:l.drop i=x::l.drop (i+1):=by rw[A8 c,(Ad.1 hx).2]
  rw[y,vW] at he;refine aE (aA (aF (sg rfl (sgh [(3,.row i (bD x))] rfl (aB rfl (fun hb=>?_) (fun hb=>?_))))))
  ·have hs:s=x:=κ hb;rw[ξ hs] at he;rw[he];exact sg rfl (aD rtT)
  ·have hs:¬s=x:=Af hb;rw[η hs] at he;exact aE (ag [] rfl ⟨i+1,⟨c,he⟩,by dsimp only;omega,sl⟩)
 ·have r:=geD hb q hi;subst r;rw[Ck,vW] at he;rw[he];exact aL (sg rfl (aD rtT))
theorem mD (l:List Str) (s:Str) (h:l.length≤600000000000):b9 Tryz.prog 179 [dH l,Go.AM.T s] [] (B (decide (s∈l))) []:=by
 have hi:=aLj l s h;refine bM (n:=9) tok Tryz.func179 rfl rfl rfl ?_;refine sg rfl (sgh [(2,.pc (I .i64 (vW s l 0)))] rfl ?_);rw[←r4 s l 0 (by omega)];exact aD rtT
end Go.Proofs.YtpmheldmadendaaGreatDoor
namespace Go
section
variable {F:Fence}{n:Nat}{P:Program}{b:Frame}{a:Act}{k:List Item}{cs:List Frame}{w:World}{Q:Exit→Act→World→Prop}
theorem dS {c:Code}:step P (lone (b.atR a (.code (.scope c)::k)) cs w)=.next (lone (b.atR a (.code c:: .inScope c::k)) cs w):=
 step_lone_go (by simp[stepG,stepG.exec,Frame.atR])
theorem qC {c:Code}:step P (lone (b.atR a (.inScope c::k)) cs w)=.next (lone (b.atR a k) cs w):=
 step_lone_go (by simp[stepG,stepG.exec,Frame.atR])
def Exit.noJump (Q:Exit→Act→World→Prop):Exit→Act→World→Prop
 | .goto _,_,_=>False
 | e,a,w=>Q e a w
theorem zK {c:Code}(h:c.wpIn F n P (Exit.noJump Q) a w):(Code.scope c).wpIn F n P Q a w:=by
 intro b k cs E hb A;have h0:(lone (b.atR a (.code (.scope c)::k)) cs w).fenced P F:=fenced_calm hb A rfl;obtain⟨e,r,y,hq,q⟩:=h b (.inScope c::k) cs E hb A;cases e with
 | normal=>exact⟨.normal,r,y,hq,.head h0 dS (StepsIn.trans q (.one (fenced_calm hb A rfl) qC))⟩
 | exit id=>
  have hx:exitTo id (.inScope c::k)=exitTo id k:=by simp[exitTo]
  exact⟨.exit id,r,y,hq,fun k' B=>.head h0 dS (q.1 k' (by rw[hx];exact B)),
   fun I B=>let ⟨k₁,h1,h2⟩:=q.2 I (by rw[hx];exact B);⟨k₁,h1,.head h0 dS h2⟩⟩
 | goto l=>exact hq.elim
 | ret=>exact⟨_,r,y,hq,.of_steps (.one h0 dS) q⟩
 | panic J=>exact⟨_,r,y,hq,.of_steps (.one h0 dS) q⟩
 | outgrown=>exact⟨_,r,y,hq,.of_steps (.one h0 dS) q⟩
end
end Go
namespace Go.AM
open Go
section
variable {ro:Option Nat}{P:Program}{n:Nat}{kf:List Nat}{st:St}{Q:Exit→St→Prop}
theorem aFd {l:Nat}(h:Q .normal st):AWp ro P n kf (.label l) st Q:=fun _ S μ a w _ _ hs c=>wpIn_label (c _ _ S μ a w h hs)
def aJr (Q:Exit→St→Prop):Exit→St→Prop
 | .goto _,_=>False
 | e,st=>Q e st
theorem aFc {c:Code}(h:AWp ro P n kf c st (aJr Q)):AWp ro P n kf (.scope c) st Q:=fun G S μ a w Q' r hs y=>
 zK (h G S μ a w _ r hs fun ex st' S' μ' A w' q s=>by
  cases ex with
  | goto l=>exact q.elim
  | _=>exact y _ st' S' μ' A w' q s)
end
section
variable {QP:Value→Prop}{P:Program}{n:Nat}{ops:Array Oper}{draw:Bool}{k d:Nat}{st:St}{pre:REs}{Q:St→Prop}{o:Oper}{f:FuncId}{xs:Array Operand}{ts:Array TypeId}{ids:List Nat}{args:List V}{res:V}{hin hout:List (Nat×AObj)}
theorem kvG {x:Operand}{caps:List R}{j t:Nat}{want b:Bool}(E:b9 P f (args++caps.map V.one) hin res hout)
  (I:fX QP P n ops draw (k+1) ⟨upd st.e d (some res),dX st.h (outs hout),st.d⟩ ((⟨t::(opr x++bO xs.toList),ids++keys hin++keys hout⟩,⟨some (d,some res),outs hout⟩)::pre) Q)
  (hb:eH P f:=by exact aA4 (by kernel_rfl)) (ho:ops[k]?=some o:=by rfl) (J:o.guard=some (j,want):=by rfl) (M:(ops[j]?).bind (·.dst)=some t:=by rfl) (y:st.e t=some (.one (.c (.bool b))):=by rfl) (hw:b=want:=by first | rfl | assumption) (A:o.op=.call { callee:=.value x,args:=xs,argTypes:=ts }:=by rfl) (O:o.dst=some d:=by rfl) (B:Nat.blt d n=true:=by rfl) (hx:opv st x=some (.one (.clo f caps)):=by rfl)
  (ha:ArgsV st ids xs.toList args:=by repeat (first | exact .nil | (apply Go.AM.ArgsV.cons rfl;(first | exact .refl | exact .one (.c .nl .nil) | exact .one (.c .sn .nil) | exact .one (.hs rfl (by first | rfl | simp) (by first | rfl | (simp;done) | (simp[Go.AM.take_map];done) | exact Go.AM.take_map.symm) .nil) | exact Go.AM.hs_all rfl rfl (by first | rfl | assumption | (simp;done) | (simp;omega)) (by first | rfl | assumption | (simp;done)) | ((first | apply Go.AM.Conv.pa | apply Go.AM.Conv.agg);repeat (first | exact .nil | apply Go.AM.PureL.c .refl | apply Go.AM.PureL.c .nl | apply Go.AM.PureL.c .sn | (apply Go.AM.PureL.hs;rfl;(first | rfl | simp);(first | rfl | (simp;done) | (simp[Go.AM.take_map];done) | exact Go.AM.take_map.symm))))))))
  (r:eN (fun p=>st.h p.1=some p.2) hin:=by repeat (first | exact trivial | refine⟨rfl,?_⟩)) (q:eN (fun p=>p.1∈keys hin∨st.h p.1=none) hout:=by repeat (first | exact trivial | refine⟨.inr rfl,?_⟩ | refine⟨.inl (by decide),?_⟩ | refine⟨.inl (by repeat (first | exact List.Mem.head _ | apply List.Mem.tail)),?_⟩)) (hok:dP (args++caps.map V.one) hin=true:=by rfl):fX QP P n ops draw k st pre Q:=
 k_ (GStep.yes ho J M y hw (aCo hin hout hb A O (eI B) hx E ha r q hok)) I
end
end Go.AM
namespace Go.Proofs.YtpmheldmadendaaGreatDoor
open Go Go.AM
set_option maxRecDepth 20000
set_option maxHeartbeats 4000000
theorem wA (f:FuncId) (p:Nat→Bool) (s:Str) (hl:s.length≤4001) (r:aP6 Tryz.prog f=true) (J:∀c∈s,b9 Tryz.prog f [I .u8 (c.toNat:Nat)] [] (B (p c.toNat)) []):b9 Tryz.prog 130 [Go.AM.T s,.one (.clo f [])] [] (I .i64 (cJ p s)) []:=by
 have U:=gY p s;refine bM (n:=20) tok Tryz.func130 rfl rfl rfl ?_;refine sg rfl (sg rfl (aA (aF (aM (fun j:Nat=>mk [(0,Go.AM.T s),(1,.one (.clo f [])),(5,I .i64 j)] []) (fun j=>j≤cJ p s) (fun j=>cJ p s-j) 0 (Ae _) sl ?_))));intro j M;by_cases y:j<s.length
 ·obtain⟨d,A⟩:=aP y;have q:=jS p s j M d A;have E:=J d (Ag A);have O:decide ((j:Int)<(s.length:Int))=true:=φ (by omega);refine aA (skh 9 [(4,.bv true),(8,.byte j d)] rfl (kvG (caps:=[]) (args:=[I .u8 (d.toNat:Nat)]) (hin:=[]) (hout:=[]) E ?_ (hb:=aA4 r)));refine ak 1 [(4,.bv true),(10,.bv true)] rfl (az (aB rfl (fun hb=>?_) (fun hb=>?_)))
  ·exact aE (aF (ag [] rfl ⟨j+1,q.1 hb,by dsimp only;have:=q.1 hb;omega,sl⟩))
  ·have e:j=cJ p s:=by
    have:¬j<cJ p s:=fun h=>by rw[q.2 h] at hb;cases hb
    omega
   refine aL ?_;rw[←e];exact sg rfl (aD rtT)
 ·have e:j=cJ p s:=by omega
  have O:decide ((j:Int)<(s.length:Int))=false:=ψ (by omega);refine aA (sgh [(4,.bv false),(10,.bv false)] rfl (aB rfl (fun hb=>absurd hb (by decide)) (fun _=>aL ?_)));rw[←e];exact sg rfl (aD rtT)
theorem u4 (s x:Str):b9 Tryz.prog 173 [Go.AM.T s,Go.AM.T x] [] (B (preB x s)) []:=by
 unfold preB;refine bM (n:=18) tok Tryz.func173 rfl rfl rfl ?_;refine sg rfl ?_;by_cases h:x.length≤s.length
 ·have d1:decide ((x.length:Int)≤(s.length:Int))=true:=φ (by omega);rw[φ h,Cq];exact sgh [(5,.bv true),(12,.bv true)] rfl (aD rtT)
 ·have d1:decide ((x.length:Int)≤(s.length:Int))=false:=ψ (by omega);rw[ψ h,B8];exact sgh [(5,.bv false),(12,.bv false)] rfl (aD rtT)
theorem oB (s x:Str):b9 Tryz.prog 129 [Go.AM.T s,Go.AM.T x] [] (B (preB x s)) []:=by
 have h:=u4 s x;refine bM (n:=8) tok Tryz.func129 rfl rfl rfl ?_;exact sg rfl (sgh [(2,.pc (B (preB x s)))] rfl (aD rtT))
theorem aLs:b9 Tryz.prog 180 [] [] (dH nY) []:=by
 refine bM (n:=2) tok Tryz.func180 rfl rfl rfl ?_;exact sg rfl (sgh [(0,.all)] rfl (aD rtT))
theorem aAw:b9 Tryz.prog 181 [] [] (dH s3) []:=by
 refine bM (n:=2) tok Tryz.func181 rfl rfl rfl ?_;exact sg rfl (sgh [(0,.all)] rfl (aD rtT))
def rU (a b:Int):Int:=if b<a then b else a
def aC2:Str→Int→Int
 | [],k=>k
 | c::s,k=>aC2 s (rU (k*10+((c.toNat:Int)-48)) 2147483648)
theorem aHv (s:Str) (hl:s.length≤4001) (U:∀c∈s,48≤c.toNat∧c.toNat≤57):b9 Tryz.prog 175 [Go.AM.T s] [] (I .i64 (aC2 s 0)) []:=by
 refine bM (n:=21) tok Tryz.func175 rfl rfl rfl ?_;refine sg rfl (sg rfl (aA (sg rfl (aF (aM (fun p:Nat×Int=>mk [(0,Go.AM.T s),(3,I .i64 p.2),(6,I .i64 (s.length:Nat)),(7,I .i64 p.1)] []) (fun p=>p.1≤s.length∧0≤p.2∧p.2≤2147483648∧aC2 (s.drop p.1) p.2=aC2 s 0) (fun p=>s.length-p.1) (0,0) ⟨Ae _,by decide,by decide,rfl⟩ sl ?_)))));rintro⟨i,k⟩ ⟨hi,J,M,q⟩;dsimp only at hi J M q ⊢;refine sg rfl (aA (aB rfl (fun hb=>?_) (fun hb=>?_)))
 ·have B:i<s.length:=by have:=κ hb;omega
  obtain⟨d,r⟩:=aP B;obtain⟨g1,g2⟩:=U d (Ag r);have O:s.drop i=d::s.drop (i+1):=by
   obtain⟨Y,q2⟩:=Ad.1 r;rw[A8 Y,q2]
  rw[O,aC2] at q;refine aE ?_;have y:IntKind.wrap .u8 ((d.toNat:Int)-48)=(d.toNat:Int)-48:=by unfold IntKind.wrap;simp[IntKind.bits,IntKind.signed];omega
  have A:IntKind.wrap .i64 ((d.toNat:Int)-48)=(d.toNat:Int)-48:=Bt _ (by omega);refine aA (aF (sg rfl (ag [(4,.byte i d)] rfl ?_ (hc:=⟨⟨by rw[y,A];omega,by rw[y,A];omega⟩,⟨rfl,r⟩,⟨by omega,by omega⟩,trivial⟩))));rw[y,A];refine ag [] rfl ?_;have E:0≤rU (k*10+((d.toNat:Int)-48)) 2147483648∧rU (k*10+((d.toNat:Int)-48)) 2147483648≤2147483648:=by unfold rU;split<;>omega
  exact⟨(i+1,rU (k*10+((d.toNat:Int)-48)) 2147483648),⟨B,E.1,E.2,q⟩,by dsimp only;omega,sl⟩
 ·have e:i=s.length:=by have:=Af hb;omega
  rw[e,Ck,aC2] at q;rw[←q];exact aL (sg rfl (aD rtT))
end Go.Proofs.YtpmheldmadendaaGreatDoor
