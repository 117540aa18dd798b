/-
  Texts Am27 to Rd7 in one.
-/
import Derived.Test.YtpmheldmadendaaGreatDoorM5
import Derived.Test.YtpmheldmadendaaGreatDoorProg
import Derived.KernelRfl
import Derived.Shelf.Spec.SlicesGrow
import Derived.Laws.RangeString
import Derived.Lib.OthersKept
import Derived.LoopTactic
import Derived.Tactics2
import Derived.Laws.Runes
import Derived.Laws.MakeOwn
import Derived.Lib.Bytealg
import Derived.IntWalk
open List (cons_append drop_append drop_eq_getElem_cons drop_eq_nil_of_le drop_length drop_zero eq_nil_of_length_eq_zero foldl_append length_cons length_drop length_map length_nil length_take map_append mem_cons mem_cons_of_mem mem_cons_self mem_of_mem_take nil_append take_add_one take_append_drop take_length take_succ_cons take_zero)
open Nat (eq_of_beq_eq_true le_refl le_trans lt_of_lt_of_le min_eq_left mul_le_mul_right sub_self zero_le)
namespace Go.AM
open Go
theorem Ole.arrS {σ:Nat→Nat}{te es fz:Nat}{l c:List (List C)}(h:l=c):Ole σ (.arr te es l fz) (.arr te es c fz):=by subst h;exact .arr
theorem hs_ren {id off a b c j:Nat}(h:a=c) (k:b=j):some (V.one (.hs id off a b))=some (V.ren (fun i=>i) (V.one (.hs id off c j))):=by subst h;subst k;rfl
theorem sl {kf:List Nat}{c:St}{j:List (Nat×V)}{hl:List (Nat×AObj)}
  (he:fH (fun p=>c.e p.1=some (p.2.ren (fun i=>i))) j:=by repeat (first | exact trivial | refine⟨by first | rfl | exact Go.AM.hs_ren (by first | (simp;done) | (simp;omega)) (by first | (simp;done) | (simp;omega)),?_⟩))
  (hh:fH (fun p=>∃o,c.h p.1=some o∧Ole (fun i=>i) o p.2) hl:=by repeat (first | exact trivial | refine⟨⟨_,rfl,by first | exact Go.AM.Ole.arr | exact Go.AM.Ole.var rfl | exact Go.AM.Ole.map | exact Go.AM.Ole.rarr rfl | exact Go.AM.Ole.arr1 | exact Go.AM.Ole.arrS (by first | assumption | (simp;done) | (simp;rfl) | (simp;omega)) | exact Go.AM.Ole.arrE (by first | assumption | (simp;done) | (simp;rfl) | (simp;omega)) | exact Go.AM.Ole.var (by first | (simp[Go.AM.R.renL,Go.AM.R.ren];done) | (simp[Go.AM.R.renL,Go.AM.R.ren];omega)) | exact Go.AM.Ole.mapE (by first | assumption | (simp;done) | (simp;rfl) | (simp;omega))⟩,?_⟩))
  (hok:(aRd kf (fun i=>i) j hl&&eqL [] c.d)=true:=by rfl):Sub kf (mk j hl) c:=Sub.list (fun i=>i) he hh hok
theorem take_all {α:Type}{l:List α}{n:Nat}(h:n=l.length):l=(l.drop 0).take n:=by rw[h,B5,Aq]
theorem ltD {i n:Nat}{l:List (List C)}(h:decide ((i:Int)<(l.length:Int))=true) (e:l.length=n):i<n:=by
 have:(i:Int)<(l.length:Int):=by simpa using h
 omega
theorem geD {i n:Nat}{l:List (List C)}(h:decide ((i:Int)<(l.length:Int))=false) (e:l.length=n) (hi:i≤n):i=n:=by
 have:¬(i:Int)<(l.length:Int):=by simpa using h
 omega
section
variable {T:TT}{fn:Func}{st:St}{hin hout:List (Nat×AObj)}{res:V}
theorem rtT {t:Nat}{v:V}{ids:List Nat}(j:fn.results.toList=[.tmp t]:=by rfl) (q:st.e t=some v:=by rfl)
  (hc:Conv st.h ids v res:=by first | exact .refl | exact .one (.c .nl .nil) | ((first | apply Go.AM.Conv.pa | apply Go.AM.Conv.agg);repeat (first | exact .nil | apply Go.AM.PureL.c .refl | apply Go.AM.PureL.c .nl | (apply Go.AM.PureL.hs;rfl;(first | rfl | assumption | simp);(first | rfl | exact Go.AM.take_all (by first | assumption | rfl | (simp;done)) | exact Go.AM.take_map.symm)))))
  (ho:fH (fun p=>∃o,st.h p.1=some o∧Ole (fun i=>i) o p.2) hout:=by repeat (first | exact trivial | refine⟨⟨_,rfl,by first | exact Go.AM.Ole.arr | exact Go.AM.Ole.var rfl | exact Go.AM.Ole.map | exact Go.AM.Ole.rarr rfl | exact Go.AM.Ole.arr1 | exact Go.AM.Ole.arrS (by first | assumption | (simp;done) | (simp;rfl) | (simp;omega)) | exact Go.AM.Ole.arrE (by first | assumption | (simp;done) | (simp;rfl) | (simp;omega)) | exact Go.AM.Ole.var (by first | (simp[Go.AM.R.renL,Go.AM.R.ren];done) | (simp[Go.AM.R.renL,Go.AM.R.ren];omega)) | exact Go.AM.Ole.mapE (by first | assumption | (simp;done) | (simp;rfl) | (simp;omega))⟩,?_⟩))
  (hok:(subset res.refs (keys hout)&&subset (fI hout) (keys hout)&&distinct (keys hout)&&subset (keys hin) (keys hout)&&(hin.all fun p=>p.2.plain)&&(hout.all fun p=>p.2.plain))=true:=by rfl):(Exit.ret=.normal∨Exit.ret=.ret)∧Fin T fn st hin res hout:=
 ⟨.inr rfl,⟨[v],[res],by rw[j];exact .tmp q .nil,.cons hc .nil,rfl⟩,ho,hok⟩
theorem rtC {tr:Tr}{a t:Nat}{i:TI}{id off tv:Nat}{cells:List R}{v:V}{ids:List Nat}(hw:tr.wf=true) (j:fn.results.toList=[.cell a t]:=by rfl) (hi:tr.get t=some i:=by rfl) (ha:st.e a=some (.one (.vp id off)):=by rfl) (hh:st.h id=some (.var tv cells):=by rfl) (hb:Nat.ble (off+i.size) cells.length=true:=by rfl) (q:iS i ((cells.drop off).take i.size)=some v:=by rfl)
  (hc:Conv st.h ids v res:=by first | exact .refl | exact .one (.c .nl .nil) | ((first | apply Go.AM.Conv.pa | apply Go.AM.Conv.agg);repeat (first | exact .nil | apply Go.AM.PureL.c .refl | apply Go.AM.PureL.c .nl | (apply Go.AM.PureL.hs;rfl;(first | rfl | assumption | simp);(first | rfl | exact Go.AM.take_all (by first | assumption | rfl | (simp;done)) | exact Go.AM.take_map.symm)))))
  (ho:fH (fun p=>∃o,st.h p.1=some o∧Ole (fun i=>i) o p.2) hout:=by repeat (first | exact trivial | refine⟨⟨_,rfl,by first | exact Go.AM.Ole.arr | exact Go.AM.Ole.var rfl | exact Go.AM.Ole.map | exact Go.AM.Ole.rarr rfl | exact Go.AM.Ole.arr1 | exact Go.AM.Ole.arrS (by first | assumption | (simp;done) | (simp;rfl) | (simp;omega)) | exact Go.AM.Ole.arrE (by first | assumption | (simp;done) | (simp;rfl) | (simp;omega)) | exact Go.AM.Ole.var (by first | (simp[Go.AM.R.renL,Go.AM.R.ren];done) | (simp[Go.AM.R.renL,Go.AM.R.ren];omega)) | exact Go.AM.Ole.mapE (by first | assumption | (simp;done) | (simp;rfl) | (simp;omega))⟩,?_⟩))
  (hok:(subset res.refs (keys hout)&&subset (fI hout) (keys hout)&&distinct (keys hout)&&subset (keys hin) (keys hout)&&(hin.all fun p=>p.2.plain)&&(hout.all fun p=>p.2.plain))=true:=by rfl):(Exit.ret=.normal∨Exit.ret=.ret)∧Fin tr.flat fn st hin res hout:=
 ⟨.inr rfl,⟨[v],[res],by rw[j];exact .cell ha (Tr.get_ok hw hi) hh hb q .nil,.cons hc .nil,rfl⟩,ho,hok⟩
end
end Go.AM
namespace Go.AM
open Go
theorem oL {id:Nat}{o:AObj}{hin:List (Nat×AObj)}:look ((id,o)::hin)=upd (look hin) id (some o):=by
 funext i;by_cases h:i=id
 ·subst h;rw[aJ,lD]
 ·rw[bC _ _ _ h,uK h]
theorem Inv.emptyZ {G:Ctx}{S:Sto}{μ:Mu}{H:bZ}{w:World}{id:Nat}(te es z:Nat) (h:Inv G S μ H w) (hid:H id=none):Inv G S (upd μ id none) (upd H id (some (.arr te es [] z))) w∧Evolve S μ H S (upd μ id none) (upd H id (some (.arr te es [] z))):=by
 have y:Evolve S μ H S (upd μ id none) (upd H id (some (.arr te es [] z))):=eM hid _ _;refine⟨⟨h.holds,fun j x q=>?_,fun i j x A b c c' hi q hm r=>?_,fun i x b c hi hm=>?_,h.frame,h.sle,h.sto,h.evo.trans y,h.fre⟩,y⟩
 ·by_cases u:j=id
  ·subst u;rw[aJ] at q;cases q;exact⟨by simp,.inl ⟨aJ _ _ _,rfl⟩⟩
  ·rw[bC _ _ _ u] at q;exact(h.obj j x q).evolve y (bC _ _ _ u) fun _ _ _=>⟨rfl,fun _=>rfl,rfl⟩
 ·have h1:i≠id:=fun e=>by subst e;rw[aJ] at hm;cases hm
  have h2:j≠id:=fun e=>by subst e;rw[aJ] at r;cases r
  rw[bC _ _ _ h1] at hi hm;rw[bC _ _ _ h2] at q r;exact h.inj i j x A b c c' hi q hm r
 ·have h1:i≠id:=fun e=>by subst e;rw[aJ] at hm;cases hm
  rw[bC _ _ _ h1] at hi hm;exact h.own i x b c hi hm
theorem b8.nilArg {P:Program}{f:FuncId}{pre post:List V}{hin hout:List (Nat×AObj)}{res:V}{id te es z:Nat}(h:b8 P f (pre++ .one (.hs id 0 0 0)::post) ((id,.arr te es [] z)::hin) res hout) (hid:look hin id=none):b8 P f (pre++ .one (.c .nl)::post) hin res hout:=by
 intro S μ w vals J M;obtain⟨hi,A⟩:=J.emptyZ te es z hid;have B:hH (upd μ id none) (look ((id,.arr te es [] z)::hin))=hH μ (look hin):=by
  funext b;rw[oL];refine propext ⟨?_,?_⟩
  ·rintro⟨j,o,c,h1,h2⟩;by_cases r:j=id
   ·subst r;rw[aJ] at h2;cases h2
   ·rw[bC _ _ _ r] at h1 h2;exact⟨j,o,c,h1,h2⟩
  ·rintro⟨j,o,c,h1,h2⟩;have r:j≠id:=fun e=>by subst e;rw[hid] at h1;cases h1
   exact⟨j,o,c,by rw[bC _ _ _ r];exact h1,by rw[bC _ _ _ r];exact h2⟩
 have E:Inv ⟨w,S,hH (upd μ id none) (look ((id,.arr te es [] z)::hin)),upd μ id none,look ((id,.arr te es [] z)::hin)⟩ S (upd μ id none) (look ((id,.arr te es [] z)::hin)) w:=by
  rw[B,oL];exact⟨hi.holds,hi.obj,hi.inj,hi.own,hi.frame,hi.sle,hi.sto,Evolve.refl _ _ _,hi.fre⟩
 have I:aU S (upd μ id none) (look ((id,.arr te es [] z)::hin)) (pre++ .one (.hs id 0 0 0)::post) vals:=by
  rw[oL];have key:∀(l:List V) (us:List Value),aU S μ (look hin) (l++ .one (.c .nl)::post) us→aU S (upd μ id none) (upd (look hin) id (some (.arr te es [] z))) (l++ .one (.hs id 0 0 0)::post) us:=by
   intro l
   induction l with
   | nil=>
    intro us hu;simp only[Br,aU] at hu ⊢;obtain⟨u,q,h1,h2,y⟩:=hu;refine⟨u,q,h1,?_,aU.evolve A _ _ y⟩;simp only[aO,aT,Rep] at h2 ⊢;exact⟨⟨_,_,_,h2⟩,.inr ⟨te,es,[],z,aJ _ _ _,le_refl _,fun _=>⟨le_refl _,.inl ⟨aJ _ _ _,rfl,h2⟩⟩⟩⟩
   | cons x l O=>
    intro us hu;simp only[Bl,aU] at hu ⊢;obtain⟨u,q,h1,h2,y⟩:=hu;exact⟨u,q,h1,aO.evolve A _ _ h2,O q y⟩
  exact key pre vals M
 refine Calls.mono (h S (upd μ id none) w vals E I) ?_;rintro e w' ⟨S',μ',v,h1,h2,y⟩;refine⟨S',μ',v,h1,?_,y⟩;rw[B] at h2;refine⟨h2.holds,h2.obj,h2.inj,h2.own,h2.frame,h2.sle,h2.sto,A.trans ?_,h2.fre⟩;have:=h2.evo;rwa [oL] at this
theorem b8.sub {P:Program}{f:FuncId}{args:List V}{hin hout j:List (Nat×AObj)}{res c:V}(h:b8 P f args hin res hout) (hs:Sub (keys hin) (mk [(0,c)] j) (mk [(0,res)] hout)):b8 P f args hin c j:=by
 intro S μ w vals r u;refine Calls.mono (h S μ w vals r u) ?_;rintro e w' ⟨S',μ',v,h1,h2,A⟩;have q:Ctx.keeps ⟨w,S,hH μ (look hin),μ,look hin⟩ (keys hin):=pX
 obtain⟨S2,B,g⟩:=hs _ 1 S' μ' ⟨#[v],[]⟩ w' q ⟨h2,rfl,rfl,fun t y e=>by
  simp only[mk,look] at e;split at e
  ·rename_i hb;cases e;rw[δ hb];exact A
  ·cases e⟩
 exact⟨S2,B,v,h1,g.inv,g.env 0 c rfl⟩
theorem b8.plain {P:Program}{f:FuncId}{args:List V}{id te es n:Nat}{rows:List (List C)}{fz:Nat}(h:b8 P f args [] (.one (.hs id 0 n n)) [(id,.arr te es rows fz)]) (hn:n=rows.length):b8 P f args [] (.one (.c (.sl es rows))) []:=by
 refine h.sub ?_;have h1:Sub [] ⟨look [(0,V.one (.hs id 0 n n))],upd (look [(id,AObj.arr te es rows fz)]) id (some (.arr te es rows 2)),[]⟩ (mk [(0,.one (.hs id 0 n n))] [(id,.arr te es rows fz)]):=Sub.freeze (st:=mk [(0,.one (.hs id 0 n n))] [(id,.arr te es rows fz)]) lD;refine Sub.trans (Sub.trans ?_ (Sub.conv (t:=0) (v:=.one (.hs id 0 n n)) rfl (hs_all (aJ _ _ _) rfl hn rfl))) h1;exact Sub.list (fun i=>i) ⟨rfl,trivial⟩ trivial rfl
theorem Sub.varPure {kf:List Nat}{st:St}{x tv:Nat}{cells:List R}{ids:List Nat}{cs:List C}(h:st.h x=some (.var tv cells)) (hp:PureL st.h ids cells cs):Sub kf ⟨st.e,upd st.h x (some (.var tv (cs.map R.c))),st.d⟩ st:=by
 intro G n S μ a w _ hs;have hi:=hs.inv;obtain⟨b,vs,g1,g2,g3,g4⟩:=hi.obj x _ h
 have u:Evolve S μ st.h S μ (upd st.h x (some (.var tv (cs.map R.c)))):=⟨S.le_refl,fun j y r=>by
  by_cases q:j=x
  ·subst q;rw[h] at r;cases r;exact⟨_,aJ _ _ _,by simp[AObj.succ]⟩
  ·exact⟨y,by rw[bC _ _ _ q];exact r,y.succ_refl rfl⟩⟩
 have hold:∀j y,upd st.h x (some (.var tv (cs.map R.c))) j=some y→∃E,st.h j=some E:=fun j y r=>by
  by_cases q:j=x
  ·subst q;exact⟨_,h⟩
  ·rw[bC _ _ _ q] at r;exact⟨_,r⟩
 refine⟨S,μ,⟨⟨hi.holds,fun j y r=>?_,fun i j y E b c c' A r hm I=>?_,fun i y b c A hm=>?_,hi.frame,hi.sle,hi.sto,hi.evo.trans u,hi.fre⟩,hs.size,hs.defers.evolve u,fun s v e=>aO.evolve u v _ (hs.env s v e)⟩⟩
 ·by_cases q:j=x
  ·subst q;have B:some (AObj.var tv (cs.map R.c))=some y:=by rw[←r];exact(aJ _ _ _).symm
   cases B;exact⟨b,vs,g1,g2,(hp.rel (fun _ _=>rfl) hi.obj g3).toR,g4⟩
  ·have B:st.h j=some y:=by rw[←r];exact(bC _ _ _ q).symm
   exact(hi.obj j y B).evolve u rfl fun _ _ _=>⟨rfl,fun _=>rfl,rfl⟩
 ·obtain⟨_,h1⟩:=hold _ _ A;obtain⟨_,h2⟩:=hold _ _ r;exact hi.inj i j _ _ b c c' h1 h2 hm I
 ·obtain⟨_,h1⟩:=hold _ _ A;exact hi.own i _ b c h1 hm
theorem vp {kf:List Nat}{st:St}(x:Nat) {tv:Nat}{cells:List R}(cs:List C) {ids:List Nat}(h:st.h x=some (.var tv cells):=by rfl)
  (hp:PureL st.h ids cells cs:=by repeat (first | exact .nil | apply Go.AM.PureL.c .refl | apply Go.AM.PureL.c .nl | apply Go.AM.PureL.c .sn | (apply Go.AM.PureL.hs;rfl;(first | rfl | assumption | (simp;done) | (simp;omega));(first | rfl | exact Go.AM.take_all (by first | assumption | rfl | (simp;done) | (simp;omega)) | exact Go.AM.take_map.symm)))):Sub kf ⟨st.e,upd st.h x (some (.var tv (cs.map R.c))),st.d⟩ st:=Sub.varPure h hp
theorem cv {kf:List Nat}{st:St}(t:Nat) {id te es n sz:Nat}{l:List (List C)}(j:List (List C)) (h:st.e t=some (.one (.hs id 0 n sz)):=by rfl) (hh:st.h id=some (.arr te es l 2):=by rfl) (h1:n=l.length:=by first | rfl | assumption | (simp;done) | (simp;omega)) (h2:sz=l.length:=by first | rfl | assumption | (simp;done) | (simp;omega)) (q:l=j:=by first | rfl | assumption | (simp;done)):Sub kf ⟨upd st.e t (some (.one (.c (.sl es j)))),st.h,st.d⟩ st:=by
 subst q;exact Sub.conv h (.one (.hs hh h2 (by rw[h1,B5,Aq]) .nil))
end Go.AM
namespace Go.Proofs.YtpmheldmadendaaGreatDoor
open Go Go.AM
def zl_:Tr:=.leaf none
def zl0:Tr:=.leaf (some ⟨.fn,1,8,[.zv 1]⟩)
def zl1:Tr:=.leaf (some ⟨.int .u8,1,1,[.int .u8 0]⟩)
def zl2:Tr:=.leaf (some ⟨.int .i64,1,8,[.int .i64 0]⟩)
def zl3:Tr:=.leaf (some ⟨.str,1,16,[.str []]⟩)
def zl4:Tr:=.leaf (some ⟨.int .u64,1,8,[.int .u64 0]⟩)
def zl5:Tr:=.leaf (some ⟨.int .i32,1,4,[.int .i32 0]⟩)
def zl6:Tr:=.leaf (some ⟨.st [(0,3),(1,9),(2,3),(3,3)],4,40,[.int .i64 0,.str [],.int .i64 0,.int .i64 0]⟩)
def tr:Tr:=
 .node 143 (.node 71 (.node 35 (.node 17 (.node 8 (.node 4 (.node 2 (.node 1 zl_ zl0) (.node 1 zl2 zl2)) (.node 2 (.node 1 (.leaf (some ⟨.bool,1,1,[.bool false]⟩)) zl1) (.node 1 zl1 (.leaf (some ⟨.st [(0,2),(1,3),(2,4),(3,6)],4,24,[.int .i64 0,.int .i64 0,.bool false,.int .u8 0]⟩))))) (.node 4 (.node 2 (.node 1 (.leaf (some ⟨.st [(0,2),(1,3),(2,4),(3,6)],4,24,[.int .i64 0,.int .i64 0,.bool false,.int .u8 0]⟩)) zl3) (.node 1 zl3 zl3)) (.node 2 (.node 1 zl4 (.leaf (some ⟨.st [(0,9),(1,12)],2,24,[.str [],.int .u64 0]⟩))) (.node 1 (.leaf (some ⟨.st [(0,9),(1,12)],2,24,[.str [],.int .u64 0]⟩)) (.node 1 (.leaf (some ⟨.pt 274,1,8,[.np]⟩)) (.leaf (some ⟨.pt 277,1,8,[.np]⟩))))))) (.node 9 (.node 4 (.node 2 (.node 1 (.leaf (some ⟨.pt 285,1,8,[.np]⟩)) (.leaf (some ⟨.st [(0,17)],1,8,[.np]⟩))) (.node 1 (.leaf (some ⟨.st [(0,17)],1,8,[.np]⟩)) zl_)) (.node 2 (.node 1 zl5 (.leaf (some ⟨.sl 3,1,24,[.nl]⟩))) (.node 1 zl0 (.node 1 (.leaf (some ⟨.sl 81,1,24,[.nl]⟩)) (.leaf (some ⟨.sl 90,1,24,[.nl]⟩)))))) (.node 4 (.node 2 (.node 1 (.leaf (some ⟨.sl 95,1,24,[.nl]⟩)) (.leaf (some ⟨.sl 99,1,24,[.nl]⟩))) (.node 1 (.leaf (some ⟨.st [(0,24),(1,25),(2,26),(3,27)],4,96,[.nl,.nl,.nl,.nl]⟩)) (.leaf (some ⟨.st [(0,24),(1,25),(2,26),(3,27)],4,96,[.nl,.nl,.nl,.nl]⟩)))) (.node 2 (.node 1 zl2 (.leaf (some ⟨.st [(0,30),(1,3)],2,16,[.int .i64 0,.int .i64 0]⟩))) (.node 1 (.leaf (some ⟨.st [(0,30),(1,3)],2,16,[.int .i64 0,.int .i64 0]⟩)) (.node 1 zl_ zl0)))))) (.node 18 (.node 9 (.node 4 (.node 2 (.node 1 zl0 zl0) (.node 1 zl0 zl0)) (.node 2 (.node 1 zl0 (.leaf (some ⟨.sl 9,1,24,[.nl]⟩))) (.node 1 zl0 (.node 1 zl0 zl0)))) (.node 4 (.node 2 (.node 1 (.leaf (some ⟨.sl 49,1,24,[.nl]⟩)) (.leaf (some ⟨.sl 47,1,24,[.nl]⟩))) (.node 1 (.leaf (some ⟨.st [(0,3),(1,3),(2,9),(3,45)],4,56,[.int .i64 0,.int .i64 0,.str [],.nl]⟩)) (.leaf (some ⟨.st [(0,3),(1,3),(2,9),(3,45)],4,56,[.int .i64 0,.int .i64 0,.str [],.nl]⟩)))) (.node 2 (.node 1 (.leaf (some ⟨.st [(0,3),(1,3),(2,3),(3,9),(4,44),(5,47),(9,45)],10,144,[.int .i64 0,.int .i64 0,.int .i64 0,.str [],.nl,.int .i64 0,.int .i64 0,.str [],.nl,.nl]⟩)) (.leaf (some ⟨.st [(0,3),(1,3),(2,3),(3,9),(4,44),(5,47),(9,45)],10,144,[.int .i64 0,.int .i64 0,.int .i64 0,.str [],.nl,.int .i64 0,.int .i64 0,.str [],.nl,.nl]⟩))) (.node 1 zl_ (.node 1 zl0 zl0))))) (.node 9 (.node 4 (.node 2 (.node 1 zl0 zl0) (.node 1 (.leaf (some ⟨.sl 61,1,24,[.nl]⟩)) (.leaf (some ⟨.sl 87,1,24,[.nl]⟩)))) (.node 2 (.node 1 (.leaf (some ⟨.sl 113,1,24,[.nl]⟩)) (.leaf (some ⟨.st [(0,40),(1,56),(2,57),(3,47)],7,128,[.nl,.nl,.nl,.int .i64 0,.int .i64 0,.str [],.nl]⟩))) (.node 1 (.leaf (some ⟨.st [(0,40),(1,56),(2,57),(3,47)],7,128,[.nl,.nl,.nl,.int .i64 0,.int .i64 0,.str [],.nl]⟩)) (.node 1 (.leaf (some ⟨.st [(0,3),(1,3),(2,3),(3,9),(4,55),(5,44),(6,27),(7,59),(14,45)],15,264,[.int .i64 0,.int .i64 0,.int .i64 0,.str [],.nl,.nl,.nl,.nl,.nl,.nl,.int .i64 0,.int .i64 0,.str [],.nl,.nl]⟩)) (.leaf (some ⟨.st [(0,3),(1,3),(2,3),(3,9),(4,55),(5,44),(6,27),(7,59),(14,45)],15,264,[.int .i64 0,.int .i64 0,.int .i64 0,.str [],.nl,.nl,.nl,.nl,.nl,.nl,.int .i64 0,.int .i64 0,.str [],.nl,.nl]⟩)))))) (.node 4 (.node 2 (.node 1 zl_ zl0) (.node 1 zl0 zl0)) (.node 2 (.node 1 zl0 zl0) (.node 1 (.leaf (some ⟨.pt 126,1,8,[.np]⟩)) (.node 1 zl0 zl0))))))) (.node 36 (.node 18 (.node 9 (.node 4 (.node 2 (.node 1 (.leaf (some ⟨.pt 136,1,8,[.np]⟩)) zl0) (.node 1 zl0 (.leaf (some ⟨.pt 78,1,8,[.np]⟩)))) (.node 2 (.node 1 zl0 (.leaf (some ⟨.sl 152,1,24,[.nl]⟩))) (.node 1 (.leaf (some ⟨.st [(0,76),(1,3),(2,32)],4,48,[.nl,.int .i64 0,.int .i64 0,.int .i64 0]⟩)) (.node 1 (.leaf (some ⟨.st [(0,76),(1,3),(2,32)],4,48,[.nl,.int .i64 0,.int .i64 0,.int .i64 0]⟩)) (.leaf (some ⟨.sl 84,1,24,[.nl]⟩)))))) (.node 4 (.node 2 (.node 1 (.leaf (some ⟨.st [(0,9),(1,3),(2,40),(3,56),(4,79)],5,96,[.str [],.int .i64 0,.nl,.nl,.nl]⟩)) (.leaf (some ⟨.st [(0,9),(1,3),(2,40),(3,56),(4,79)],5,96,[.str [],.int .i64 0,.nl,.nl,.nl]⟩))) (.node 1 zl0 (.leaf (some ⟨.st [(0,9),(1,3),(2,45)],3,48,[.str [],.int .i64 0,.nl]⟩)))) (.node 2 (.node 1 (.leaf (some ⟨.st [(0,9),(1,3),(2,45)],3,48,[.str [],.int .i64 0,.nl]⟩)) zl0) (.node 1 (.leaf (some ⟨.st [(0,56)],1,24,[.nl]⟩)) (.node 1 (.leaf (some ⟨.st [(0,56)],1,24,[.nl]⟩)) (.leaf (some ⟨.sl 92,1,24,[.nl]⟩))))))) (.node 9 (.node 4 (.node 2 (.node 1 (.leaf (some ⟨.st [(0,9),(1,3),(2,9),(3,87),(4,40),(5,88)],6,112,[.str [],.int .i64 0,.str [],.nl,.nl,.nl]⟩)) (.leaf (some ⟨.st [(0,9),(1,3),(2,9),(3,87),(4,40),(5,88)],6,112,[.str [],.int .i64 0,.str [],.nl,.nl,.nl]⟩))) (.node 1 (.leaf (some ⟨.st [(0,9),(1,3),(2,59)],9,152,[.str [],.int .i64 0,.nl,.nl,.nl,.int .i64 0,.int .i64 0,.str [],.nl]⟩)) (.leaf (some ⟨.st [(0,9),(1,3),(2,59)],9,152,[.str [],.int .i64 0,.nl,.nl,.nl,.int .i64 0,.int .i64 0,.str [],.nl]⟩)))) (.node 2 (.node 1 zl0 (.leaf (some ⟨.st [(0,9),(1,3),(2,9),(3,40),(4,57),(5,27)],6,112,[.str [],.int .i64 0,.str [],.nl,.nl,.nl]⟩))) (.node 1 (.leaf (some ⟨.st [(0,9),(1,3),(2,9),(3,40),(4,57),(5,27)],6,112,[.str [],.int .i64 0,.str [],.nl,.nl,.nl]⟩)) (.node 1 zl0 zl0)))) (.node 4 (.node 2 (.node 1 (.leaf (some ⟨.st [(0,9),(1,3),(2,4),(3,59),(10,61),(25,59),(32,3)],33,560,[.str [],.int .i64 0,.bool false,.nl,.nl,.nl,.int .i64 0,.int .i64 0,.str [],.nl,.int .i64 0,.int .i64 0,.int .i64 0,.str [],.nl,.nl,.nl,.nl,.nl,.nl,.int .i64 0,.int .i64 0,.str [],.nl,.nl,.nl,.nl,.nl,.int .i64 0,.int .i64 0,.str [],.nl,.int .i64 0]⟩)) (.leaf (some ⟨.st [(0,9),(1,3),(2,4),(3,59),(10,61),(25,59),(32,3)],33,560,[.str [],.int .i64 0,.bool false,.nl,.nl,.nl,.int .i64 0,.int .i64 0,.str [],.nl,.int .i64 0,.int .i64 0,.int .i64 0,.str [],.nl,.nl,.nl,.nl,.nl,.nl,.int .i64 0,.int .i64 0,.str [],.nl,.nl,.nl,.nl,.nl,.int .i64 0,.int .i64 0,.str [],.nl,.int .i64 0]⟩))) (.node 1 (.leaf (some ⟨.sl 5,1,24,[.nl]⟩)) zl0)) (.node 2 (.node 1 zl0 zl0) (.node 1 zl0 (.node 1 zl0 zl0)))))) (.node 18 (.node 9 (.node 4 (.node 2 (.node 1 zl0 zl0) (.node 1 zl0 zl0)) (.node 2 (.node 1 zl0 (.leaf (some ⟨.st [(0,9),(1,47)],5,72,[.str [],.int .i64 0,.int .i64 0,.str [],.nl]⟩))) (.node 1 (.leaf (some ⟨.st [(0,9),(1,47)],5,72,[.str [],.int .i64 0,.int .i64 0,.str [],.nl]⟩)) (.node 1 zl0 zl0)))) (.node 4 (.node 2 (.node 1 zl0 zl0) (.node 1 zl0 zl0)) (.node 2 (.node 1 (.leaf (some ⟨.sl 4,1,24,[.nl]⟩)) zl0) (.node 1 zl0 (.node 1 zl0 zl0))))) (.node 9 (.node 4 (.node 2 (.node 1 (.leaf (some ⟨.st [(0,22),(1,3)],2,32,[.nl,.int .i64 0]⟩)) (.leaf (some ⟨.st [(0,22),(1,3)],2,32,[.nl,.int .i64 0]⟩))) (.node 1 (.leaf (some ⟨.sl 139,1,24,[.nl]⟩)) zl_)) (.node 2 (.node 1 zl0 (.leaf (some ⟨.st [(0,32)],2,16,[.int .i64 0,.int .i64 0]⟩))) (.node 1 (.leaf (some ⟨.st [(0,32)],2,16,[.int .i64 0,.int .i64 0]⟩)) (.node 1 zl_ (.leaf (some ⟨.st [(0,127),(1,3)],2,32,[.nl,.int .i64 0]⟩)))))) (.node 4 (.node 2 (.node 1 (.leaf (some ⟨.st [(0,127),(1,3)],2,32,[.nl,.int .i64 0]⟩)) (.leaf (some ⟨.st [(0,134)],2,32,[.nl,.int .i64 0]⟩))) (.node 1 (.leaf (some ⟨.st [(0,134)],2,32,[.nl,.int .i64 0]⟩)) zl0)) (.node 2 (.node 1 zl6 zl6) (.node 1 zl0 (.node 1 zl0 zl0)))))))) (.node 71 (.node 35 (.node 17 (.node 8 (.node 4 (.node 2 (.node 1 zl0 zl0) (.node 1 zl0 zl0)) (.node 2 (.node 1 (.leaf (some ⟨.pt 88,1,8,[.np]⟩)) (.leaf (some ⟨.pt 27,1,8,[.np]⟩))) (.node 1 zl0 zl_))) (.node 4 (.node 2 (.node 1 zl0 zl6) (.node 1 zl0 zl_)) (.node 2 (.node 1 zl0 zl0) (.node 1 zl0 (.node 1 zl0 zl_))))) (.node 9 (.node 4 (.node 2 (.node 1 zl0 zl0) (.node 1 zl0 zl0)) (.node 2 (.node 1 (.leaf (some ⟨.pt 166,1,8,[.np]⟩)) (.leaf (some ⟨.st [(0,164),(1,100)],2,32,[.np,.nl]⟩))) (.node 1 (.leaf (some ⟨.st [(0,164),(1,100)],2,32,[.np,.nl]⟩)) (.node 1 zl0 zl_)))) (.node 4 (.node 2 (.node 1 zl_ zl_) (.node 1 zl0 zl0)) (.node 2 (.node 1 zl0 zl0) (.node 1 zl_ (.node 1 zl0 zl0)))))) (.node 18 (.node 9 (.node 4 (.node 2 (.node 1 (.leaf (some ⟨.sl 22,1,24,[.nl]⟩)) zl0) (.node 1 zl0 zl0)) (.node 2 (.node 1 zl0 zl0) (.node 1 zl0 (.node 1 zl0 zl_)))) (.node 4 (.node 2 (.node 1 zl0 (.leaf (some ⟨.pt 134,1,8,[.np]⟩))) (.node 1 zl0 zl0)) (.node 2 (.node 1 zl0 zl0) (.node 1 zl0 (.node 1 zl0 zl0))))) (.node 9 (.node 4 (.node 2 (.node 1 zl0 zl0) (.node 1 zl0 zl0)) (.node 2 (.node 1 zl0 zl_) (.node 1 zl0 (.node 1 zl0 zl0)))) (.node 4 (.node 2 (.node 1 zl0 zl0) (.node 1 (.leaf (some ⟨.st [(0,47),(4,57),(5,40),(6,3),(7,32)],9,128,[.int .i64 0,.int .i64 0,.str [],.nl,.nl,.nl,.int .i64 0,.int .i64 0,.int .i64 0]⟩)) (.leaf (some ⟨.st [(0,47),(4,57),(5,40),(6,3),(7,32)],9,128,[.int .i64 0,.int .i64 0,.str [],.nl,.nl,.nl,.int .i64 0,.int .i64 0,.int .i64 0]⟩)))) (.node 2 (.node 1 zl0 zl0) (.node 1 zl0 (.node 1 zl0 (.leaf (some ⟨.pt 5,1,8,[.np]⟩))))))))) (.node 36 (.node 18 (.node 9 (.node 4 (.node 2 (.node 1 zl0 zl0) (.node 1 zl0 zl0)) (.node 2 (.node 1 zl0 zl_) (.node 1 zl0 (.node 1 zl_ zl0)))) (.node 4 (.node 2 (.node 1 zl_ zl0) (.node 1 zl0 zl0)) (.node 2 (.node 1 zl0 zl0) (.node 1 zl0 (.node 1 zl0 zl_))))) (.node 9 (.node 4 (.node 2 (.node 1 zl0 zl_) (.node 1 zl0 zl0)) (.node 2 (.node 1 zl0 zl0) (.node 1 zl_ (.node 1 zl4 zl0)))) (.node 4 (.node 2 (.node 1 zl0 zl_) (.node 1 zl0 zl_)) (.node 2 (.node 1 zl0 zl0) (.node 1 zl0 (.node 1 zl0 zl0)))))) (.node 18 (.node 9 (.node 4 (.node 2 (.node 1 zl_ zl0) (.node 1 zl0 zl_)) (.node 2 (.node 1 zl0 zl0) (.node 1 zl0 (.node 1 zl0 zl0)))) (.node 4 (.node 2 (.node 1 zl0 zl_) (.node 1 (.leaf (some ⟨.int .u32,1,4,[.int .u32 0]⟩)) zl_)) (.node 2 (.node 1 zl0 zl4) (.node 1 zl0 (.node 1 zl0 zl0))))) (.node 9 (.node 4 (.node 2 (.node 1 zl0 zl0) (.node 1 zl0 zl_)) (.node 2 (.node 1 zl_ (.leaf (some ⟨.st [(0,17),(1,17),(2,17),(3,9)],4,40,[.np,.np,.np,.str []]⟩))) (.node 1 (.leaf (some ⟨.st [(0,17),(1,17),(2,17),(3,9)],4,40,[.np,.np,.np,.str []]⟩)) (.node 1 (.leaf (some ⟨.ar 0 16,0,0,[]⟩)) (.leaf (some ⟨.st [(0,275)],0,0,[]⟩)))))) (.node 4 (.node 2 (.node 1 (.leaf (some ⟨.st [(0,275)],0,0,[]⟩)) zl0) (.node 1 zl1 zl1)) (.node 2 (.node 1 zl0 zl5) (.node 1 zl5 (.node 1 (.leaf (some ⟨.st [(0,12),(1,12),(2,261),(3,279),(4,5),(5,5),(6,280),(7,281),(8,213),(9,282),(10,283)],11,48,[.int .u64 0,.int .u64 0,.int .u32 0,.int .u8 0,.int .u8 0,.int .u8 0,.int .u8 0,.zv 1,.np,.int .i32 0,.int .i32 0]⟩)) (.leaf (some ⟨.st [(0,12),(1,12),(2,261),(3,279),(4,5),(5,5),(6,280),(7,281),(8,213),(9,282),(10,283)],11,48,[.int .u64 0,.int .u64 0,.int .u32 0,.int .u8 0,.int .u8 0,.int .u8 0,.int .u8 0,.zv 1,.np,.int .i32 0,.int .i32 0]⟩))))))))))
theorem trw:tr.wf=true:=by kernel_rfl
theorem tok:Tok Tryz.prog tr.flat:=by unfold Tok;kernel_rfl
theorem tg {t:Nat}{i:TI}(h:tr.get t=some i):tr.flat[t]?=some (some i):=Tr.get_ok trw h
theorem mixed:Tryz.prog.follows .mixedOrders=true:=by kernel_rfl
section
variable {QP:Value→Prop}{ro:Option Nat}{n:Nat}{ops:Array Oper}{draw:Bool}{k k':Nat}{e:Nat→Option V}{h0:bZ}{d0:List Nat}{st':St}{pre pre':REs}{tr':Tr}{ob:List Prop}{kf:List Nat}{id:Nat}
theorem ag {Q:Exit→St→Prop}(hs:List (Nat×Hn)) (h:rG Tryz.prog tr true false n ops.toList hs 1000 0 ops.toList e h0 d0 [] []=some (st',k',pre',ob)) (hq:Q .normal st')
  (hc:fQ ob:=by repeat (first | exact trivial | refine⟨by first | omega | assumption | exact⟨by kernel_rfl,by assumption⟩ | rfl | (simp only[Bj,List.length_nil];omega) | (simp;done) | (simp;omega),?_⟩)) (h1:Nat.beq k' ops.size=true:=by rfl) (h2:(!draw || (cH (preds ops) pre'.reverse []&&dE ops))=true:=by kernel_rfl):AWp ro Tryz.prog n kf (.region id ops draw) ⟨e,h0,d0⟩ Q:=
 aK8 mixed trw tok h hc h1 h2 hq
theorem agN {Q:Exit→St→Prop}(hs:List (Nat×Hn)) (h:rG Tryz.prog tr true true n ops.toList hs 1000 0 ops.toList e h0 d0 [] []=some (st',k',pre',ob)) (hq:Q .normal st')
  (hc:fQ ob:=by repeat (first | exact trivial | refine⟨by first | omega | assumption | exact⟨by kernel_rfl,by assumption⟩ | rfl | (simp only[Bj,List.length_nil];omega) | (simp;done) | (simp;omega),?_⟩)) (h1:Nat.beq k' ops.size=true:=by rfl) (h2:(!draw || (cH (preds ops) pre'.reverse []&&dE ops))=true:=by kernel_rfl):AWp ro Tryz.prog n kf (.region id ops draw) ⟨e,h0,d0⟩ Q:=
 aK8 mixed trw tok h hc h1 h2 hq
theorem ak {Q:St→Prop}(m:Nat) (hs:List (Nat×Hn)) (h:rG Tryz.prog tr true false n ops.toList hs m k (ops.toList.drop k) e h0 d0 pre []=some (st',k',pre',ob)) (c:hY QP Tryz.prog n ops draw k' st' pre' Q)
  (hc:fQ ob:=by repeat (first | exact trivial | refine⟨by first | omega | assumption | exact⟨by kernel_rfl,by assumption⟩ | rfl | (simp only[Bj,List.length_nil];omega) | (simp;done) | (simp;omega),?_⟩)):hY QP Tryz.prog n ops draw k ⟨e,h0,d0⟩ pre Q:=
 ax_ m trw tok h hc c
theorem akN {Q:St→Prop}(m:Nat) (hs:List (Nat×Hn)) (h:rG Tryz.prog tr true true n ops.toList hs m k (ops.toList.drop k) e h0 d0 pre []=some (st',k',pre',ob)) (c:hY QP Tryz.prog n ops draw k' st' pre' Q)
  (hc:fQ ob:=by repeat (first | exact trivial | refine⟨by first | omega | assumption | exact⟨by kernel_rfl,by assumption⟩ | rfl | (simp only[Bj,List.length_nil];omega) | (simp;done) | (simp;omega),?_⟩)):hY QP Tryz.prog n ops draw k ⟨e,h0,d0⟩ pre Q:=
 ax_ m trw tok h hc c
theorem agF {Q:Exit→St→Prop}{q:Nat→Option V}{c:bZ}{d1:List Nat}{j:List Prop}{res:Res}{L:List (Nat×Option V)}(m:Nat) (hs:List (Nat×Hn)) (g1:rG Tryz.prog tr true false n ops.toList hs m 0 ops.toList e h0 d0 [] []=some (⟨q,c,d1⟩,k',pre',j))
  (g2:mX Tryz.prog tr true false n ops.toList hs (aOb (ops.toList.drop k')) 1000 k' (ops.toList.drop k') q c d1 [] pre' j=some res) (g3:pU res (aOb (ops.toList.drop k'))=some L) (hq:Q .normal ⟨kY q L,c,d1⟩)
  (ho:res.obs:=by repeat (first | exact trivial | refine⟨fun _=>?_,fun _=>?_⟩ | refine⟨by first | omega | assumption | exact⟨by kernel_rfl,by assumption⟩ | rfl | (simp only[Bj,List.length_nil];omega) | (simp;done) | (simp;omega),?_⟩)) (r:res.good ops draw=true:=by kernel_rfl):AWp ro Tryz.prog n kf (.region id ops draw) ⟨e,h0,d0⟩ Q:=
 aNo m mixed trw tok g1 g2 g3 ho r hq
theorem az {Q:St→Prop}(hq:Q ⟨e,h0,d0⟩) (h1:Nat.beq k ops.size=true:=by rfl) (h2:(!draw || (cH (preds ops) pre.reverse []&&dE ops))=true:=by kernel_rfl):hY QP Tryz.prog n ops draw k ⟨e,h0,d0⟩ pre Q:=z_ h1 h2 hq
theorem sgh {Q:Exit→St→Prop}{y:Code}(hs:List (Nat×Hn)) (h:rG Tryz.prog tr true false n ops.toList hs 1000 0 ops.toList e h0 d0 [] []=some (st',k',pre',ob)) (hq:AWp ro Tryz.prog n kf y st' Q)
  (hc:fQ ob:=by repeat (first | exact trivial | refine⟨by first | omega | assumption | exact⟨by kernel_rfl,by assumption⟩ | rfl | (simp only[Bj,List.length_nil];omega) | (simp;done) | (simp;omega),?_⟩)) (h1:Nat.beq k' ops.size=true:=by rfl) (h2:(!draw || (cH (preds ops) pre'.reverse []&&dE ops))=true:=by kernel_rfl):AWp ro Tryz.prog n kf (.seq (.region id ops draw) y) ⟨e,h0,d0⟩ Q:=
 aA (ag hs h hq hc h1 h2)
theorem sg {Q:Exit→St→Prop}{y:Code}(h:rG Tryz.prog tr true false n ops.toList [] 1000 0 ops.toList e h0 d0 [] []=some (st',k',pre',ob)) (hq:AWp ro Tryz.prog n kf y st' Q)
  (hc:fQ ob:=by repeat (first | exact trivial | refine⟨by first | omega | assumption | exact⟨by kernel_rfl,by assumption⟩ | rfl | (simp only[Bj,List.length_nil];omega) | (simp;done) | (simp;omega),?_⟩)) (h1:Nat.beq k' ops.size=true:=by rfl) (h2:(!draw || (cH (preds ops) pre'.reverse []&&dE ops))=true:=by kernel_rfl):AWp ro Tryz.prog n kf (.seq (.region id ops draw) y) ⟨e,h0,d0⟩ Q:=
 sgh [] h hq hc h1 h2
theorem skh {Q:Exit→St→Prop}{y:Code}(m:Nat) (hs:List (Nat×Hn)) (h:rG Tryz.prog tr true false n ops.toList hs m 0 (ops.toList.drop 0) e h0 d0 [] []=some (st',k',pre',ob)) (c:hY (fun v=>∀e' j,Q (pan v) ⟨e',j,d0⟩) Tryz.prog n ops draw k' st' pre' (fun st'=>AWp ro Tryz.prog n kf y st' Q))
  (hc:fQ ob:=by repeat (first | exact trivial | refine⟨by first | omega | assumption | exact⟨by kernel_rfl,by assumption⟩ | rfl | (simp only[Bj,List.length_nil];omega) | (simp;done) | (simp;omega),?_⟩)):AWp ro Tryz.prog n kf (.seq (.region id ops draw) y) ⟨e,h0,d0⟩ Q:=
 aA (aC mixed (ak m hs h c hc))
theorem sk {Q:Exit→St→Prop}{y:Code}(m:Nat) (h:rG Tryz.prog tr true false n ops.toList [] m 0 (ops.toList.drop 0) e h0 d0 [] []=some (st',k',pre',ob)) (c:hY (fun v=>∀e' j,Q (pan v) ⟨e',j,d0⟩) Tryz.prog n ops draw k' st' pre' (fun st'=>AWp ro Tryz.prog n kf y st' Q))
  (hc:fQ ob:=by repeat (first | exact trivial | refine⟨by first | omega | assumption | exact⟨by kernel_rfl,by assumption⟩ | rfl | (simp only[Bj,List.length_nil];omega) | (simp;done) | (simp;omega),?_⟩)):AWp ro Tryz.prog n kf (.seq (.region id ops draw) y) ⟨e,h0,d0⟩ Q:=
 skh m [] h c hc
theorem kz {Q:St→Prop}(m:Nat) (h:rG Tryz.prog tr true false n ops.toList [] m k (ops.toList.drop k) e h0 d0 pre []=some (st',k',pre',ob)) (hq:Q st')
  (hc:fQ ob:=by repeat (first | exact trivial | refine⟨by first | omega | assumption | exact⟨by kernel_rfl,by assumption⟩ | rfl | (simp only[Bj,List.length_nil];omega) | (simp;done) | (simp;omega),?_⟩)) (h1:Nat.beq k' ops.size=true:=by rfl) (h2:(!draw || (cH (preds ops) pre'.reverse []&&dE ops))=true:=by kernel_rfl):hY QP Tryz.prog n ops draw k ⟨e,h0,d0⟩ pre Q:=
 ak m [] h (z_ h1 h2 hq) hc
end
set_option maxRecDepth 20000
abbrev Str:=List UInt8
def bE (s:Str):List C:=[.str s]
inductive Ty where
 | mk (form n:Int) (name:Str) (args:List Ty)
def Ty.form:Ty→Int | .mk f _ _ _=>f
def Ty.n:Ty→Int | .mk _ n _ _=>n
def Ty.name:Ty→Str | .mk _ _ s _=>s
def Ty.args:Ty→List Ty | .mk _ _ _ l=>l
mutual
def cK:Ty→List (List C)
 | .mk _ _ _ a=>cF a
def cF:List Ty→List (List C)
 | []=>[]
 | t::l=>[.int .i64 t.form,.int .i64 t.n,.str t.name,.sl 4 (cK t)]::cF l
end
def bL (t:Ty):List C:=[.int .i64 t.form,.int .i64 t.n,.str t.name,.sl 4 (cK t)]
theorem aY {α:Type}{l:List α}{k:Nat}{x:α}(f:α→List C) (h:l[k]?=some x):(l.map f)[k]?=some (f x):=by rw[List.getElem?_map,h];rfl
theorem aN {α:Type}{l:List α}{k:Nat}(h:k<l.length):∃x,l[k]?=some x:=⟨l[k],by simp[h]⟩
theorem cJ:∀l:List Ty,cF l=l.map bL
 | []=>by simp[cF]
 | c::l=>by rw[cF,cJ l];rfl
def Fits {α:Type}(l:List α):Prop:=l.length≤1152921504606846976
theorem aJf (l:List Str) (s:Str) (hl:Fits l):b8 Tryz.prog 193 [.one (.c (.sl 1 (l.map bE))),Go.AM.T s] [] (B (decide (s∈l))) []:=by
 unfold Fits at hl;refine bM (n:=18) tok Tryz.func193 rfl rfl rfl ?_;refine sg rfl (aA (sg rfl (aF (aK (fun k:Nat=>mk [(0,.one (.c (.sl 1 (l.map bE)))),(1,Go.AM.T s),(5,I .i64 k)] []) (fun k=>k≤l.length∧s∉l.take k) (fun k=>l.length-k) 0 ⟨Ac _,by simp⟩ (.list (fun i=>i) ⟨rfl,rfl,rfl,trivial⟩ trivial rfl) ?_))));intro k ⟨A,hm⟩;refine aA (sg rfl (aB rfl (fun hb=>?_) (fun hb=>?_)))
 ·refine aD ?_;have q:k<l.length:=by simpa using hb
  obtain⟨x,hx⟩:=aN q;have y:=aY bE hx;refine aA (aF (sgh [(2,.row k (bE x))] rfl (aB rfl (fun hb=>?_) (fun hb=>?_))))
  ·refine sg rfl (aE ?_);have j:x=s:=by simpa using hb
   have:s∈l:=by rw[←j];exact Ag hx
   exact⟨.inr rfl,⟨_,_,.tmp rfl .nil,.cons .refl .nil,by simp[aHo,this]⟩,trivial,rfl⟩
  ·refine aD (ag [] rfl ⟨k+1,⟨q,?_⟩,by dsimp only;omega,.list (fun i=>i) ⟨rfl,rfl,rfl,trivial⟩ trivial rfl⟩);rw[A7,hx];have j:¬x=s:=by simpa using hb
   have r:¬s=x:=fun e=>j e.symm
   simp[hm,r]
 ·refine aH ?_;have u:k=l.length:=by
   have:¬k<l.length:=by simpa using hb
   omega
  refine sg rfl (aE ?_);rw[u,Aq] at hm;exact⟨.inr rfl,⟨_,_,.tmp rfl .nil,.cons .refl .nil,by simp[aHo,hm]⟩,trivial,rfl⟩
def kC (n k:Int):Int:=(if n<0 then -(n+1) else n)%k
def i64 (n:Int):Prop:= -9223372036854775808≤n∧n≤9223372036854775807
theorem aGz (n:Int) {k:Int}(c:0<k):0≤kC n k∧kC n k<k:=⟨Int.emod_nonneg _ (by omega),Int.emod_lt_of_pos _ c⟩
theorem oQ (n k:Int) (hn:i64 n) (c:1≤k):b8 Tryz.prog 12 [I .i64 n,I .i64 k] [] (I .i64 (kC n k)) []:=by
 unfold i64 at hn;refine bM (n:=13) tok Tryz.func12 rfl rfl rfl ?_;refine sg rfl (aA (sg rfl (aB rfl (fun hb=>?_) (fun hb=>?_))))
 ·have h0:n<0:=by simpa using hb
  exact ag [] rfl (sg rfl (aE ⟨.inr rfl,⟨_,_,.tmp rfl .nil,.cons .refl .nil,by simp[aHo,kC,h0]⟩,trivial,rfl⟩))
 ·have h0:¬n<0:=by simpa using hb
  exact aD (sg rfl (aE ⟨.inr rfl,⟨_,_,.tmp rfl .nil,.cons .refl .nil,by simp[aHo,kC,h0]⟩,trivial,rfl⟩))
def kZ (a b:Ty):Ty:=.mk 4 0 [] [a,b]
def arrow:Str:=[45,62]
def aCz (a b:Ty):Ty:=kZ (kZ (.mk 3 0 arrow []) a) b
theorem aQq (a b:Ty):b8 Tryz.prog 229 [.pa (bL a),.pa (bL b)] [] (.pa (bL (kZ a b))) []:=by
 obtain⟨f,n,s,l⟩:=a;obtain⟨j,q,r,u⟩:=b;refine bM (n:=9) tok Tryz.func229 rfl rfl rfl ?_;refine sg rfl (sg rfl (AWp.sub (Sub.freeze (id:=7) rfl) (aE ?_)));exact⟨.inr rfl,⟨_,_,.cell rfl (tg rfl) rfl rfl rfl .nil,.cons (.agg (.c .refl (.c .refl (.c .refl (.hs rfl rfl rfl .nil))))) .nil,rfl⟩,trivial,rfl⟩
theorem aSt (a b:Ty):b8 Tryz.prog 200 [.pa (bL a),.pa (bL b)] [] (.pa (bL (aCz a b))) []:=by
 obtain⟨f,n,s,l⟩:=a;obtain⟨c,j,q,r⟩:=b;refine bM (n:=10) tok Tryz.func200 rfl rfl rfl ?_;refine sg rfl (sk 2 rfl (kc (aQq (.mk 3 0 arrow []) (.mk f n s l)) ?_));refine ak 1 [] rfl (kc (aQq (kZ (.mk 3 0 arrow []) (.mk f n s l)) (.mk c j q r)) ?_);exact kz 1 rfl (aE ⟨.inr rfl,⟨_,_,.cell rfl (tg rfl) rfl rfl rfl .nil,.cons .refl .nil,rfl⟩,trivial,rfl⟩)
def tyV (t:Ty):V:=.pa (bL t)
def zTy:Ty:=.mk 0 0 [] []
theorem i7 {α:Type}{l:List α}{k:Nat}{x:α}(h:l[k]?=some x):l.take (k+1)=l.take k++[x]:=by rw[A7,h];rfl
end Go.Proofs.YtpmheldmadendaaGreatDoor
namespace Go.AM
open Go Go.Proofs Go.Shelf
theorem aQ1 {ro:Option Nat}{P:Program}{n:Nat}{kf:List Nat}{c:Code}{st:St}{Q:Exit→St→Prop}(t:Nat) {es:Nat}{l:List (List C)}(h:st.e t=some (.one (.c (.sl es l)))) (h1:l=[]→AWp ro P n kf c ⟨upd st.e t (some (.one (.c .nl))),st.h,st.d⟩ Q)
  (h2:AWp ro P n kf c ⟨upd st.e t (some (.one (.c (.sn es l)))),st.h,st.d⟩ Q):AWp ro P n kf c st Q:=by
 intro G S μ a w Q' r hs y;have A:=hs.env t _ h
 have key:∀x:V,aO S μ st.h x (a.tmps.getD t undef)→Sim G n S μ ⟨upd st.e t (some x),st.h,st.d⟩ a w:=fun x hx=>⟨hs.inv,hs.size,hs.defers,fun s u e=>by
  by_cases j:s=t
  ·subst j;have:some x=some u:=by rw[←e];exact(aJ _ _ _).symm
   cases this;exact hx
  ·exact hs.env s u (by rw[←e];exact(bC _ _ _ j).symm)⟩
 simp only[aO,aT,Rep] at A;obtain⟨q,len,cap,B,O,U,Y,e5,e6,b,o,e7,e8⟩:=A;cases q with
 | none=>
  obtain⟨e9,E⟩:=e5 rfl;have hl:l=[]:=An (by omega);exact h1 hl G S μ a w Q' r (key _ (by simp only[aO,aT,Rep];rw[B,e9,E])) y
 | some q=>
  obtain⟨b',o',sp⟩:=q;have I:=e6 _ rfl;obtain⟨J,M⟩:=e7 _ rfl;dsimp only at I J M;subst J M;exact h2 G S μ a w Q' r (key _ (by simp only[aO,aT,Rep];exact⟨b',o',sp,len,cap,B,O,U,Y,I,e8⟩)) y
end Go.AM
namespace Go.AM
open Go Go.Proofs
section
variable {QP:Value→Prop}{P:Program}{n:Nat}{ops:Array Oper}{draw:Bool}{k d:Nat}{st:St}{pre:REs}{Q:St→Prop}{o:Oper}{f:FuncId}{xs:Array Operand}{ts:Array TypeId}{ids:List Nat}{args:List V}{res:V}{hin hout:List (Nat×AObj)}
theorem kcG {j t:Nat}{want b:Bool}(B:b8 P f args hin res hout)
  (E:hY QP P n ops draw (k+1) ⟨upd st.e d (some res),gO st.h (outs hout),st.d⟩ ((⟨t::bT xs.toList,ids++keys hin++keys hout⟩,⟨some (d,some res),outs hout⟩)::pre) Q)
  (hb:gL P f:=by exact aGe (by kernel_rfl)) (ho:ops[k]?=some o:=by rfl) (I:o.guard=some (j,want):=by rfl) (J:(ops[j]?).bind (·.dst)=some t:=by rfl) (u:st.e t=some (.one (.c (.bool b))):=by rfl) (hw:b=want:=by first | rfl | assumption) (y:o.op=.call { callee:=.value (.func f),args:=xs,argTypes:=ts }:=by rfl) (M:o.dst=some d:=by rfl) (A:Nat.blt d n=true:=by rfl)
  (ha:ArgsV st ids xs.toList args:=by repeat (first | exact .nil | (apply Go.AM.ArgsV.cons rfl;(first | exact .refl | exact .one (.c .nl .nil) | exact .one (.c .sn .nil) | exact .one (.hs rfl (by first | rfl | simp) (by first | rfl | (simp;done) | (simp[Go.AM.take_map];done) | exact Go.AM.take_map.symm) .nil) | exact Go.AM.hs_all rfl rfl (by first | rfl | assumption | (simp;done) | (simp;omega)) (by first | rfl | assumption | (simp;done)) | ((first | apply Go.AM.Conv.pa | apply Go.AM.Conv.agg);repeat (first | exact .nil | apply Go.AM.PureL.c .refl | apply Go.AM.PureL.c .nl | apply Go.AM.PureL.c .sn | (apply Go.AM.PureL.hs;rfl;(first | rfl | simp);(first | rfl | (simp;done) | (simp[Go.AM.take_map];done) | exact Go.AM.take_map.symm))))))))
  (r:fH (fun p=>st.h p.1=some p.2) hin:=by repeat (first | exact trivial | refine⟨rfl,?_⟩)) (q:fH (fun p=>p.1∈keys hin∨st.h p.1=none) hout:=by repeat (first | exact trivial | refine⟨.inr rfl,?_⟩ | refine⟨.inl (by decide),?_⟩ | refine⟨.inl (by repeat (first | exact List.Mem.head _ | apply List.Mem.tail)),?_⟩)) (hok:eI args hin=true:=by rfl):hY QP P n ops draw k st pre Q:=
 k_ (GStep.yes ho I J u hw (aEa hin hout hb y M (iF A) B ha r q hok)) E
end
end Go.AM
namespace Go.Proofs.YtpmheldmadendaaGreatDoor
open Go Go.AM
set_option maxRecDepth 20000
def cM (l:List Str):V:=.one (.c (.sl 1 (l.map bE)))
def xF (s:Str):List Str→Int→Int
 | [],_=> -1
 | x::l,k=>if s=x then k else xF s l (k+1)
theorem sJ (s:Str):∀(l:List Str) (k:Int),0≤k→(decide (0≤xF s l k)=decide (s∈l))
 | [],k,_=>by simp[xF]
 | x::l,k,c=>by
  rw[xF];split
  ·rename_i h;subst h;simp[c]
  ·rename_i h;rw[sJ s l (k+1) (by omega)];simp[h]
theorem aM2 (l:List Str) (s:Str) (h:l.length≤600000000000):b8 Tryz.prog 214 [cM l,Go.AM.T s] [] (I .i64 (xF s l 0)) []:=by
 refine bM (n:=19) tok Tryz.func214 rfl rfl rfl ?_;refine sg rfl (aA (sg rfl ?_));have j:(l.map bE).length=l.length:=η _;refine aF (aK (fun i:Nat=>mk [(0,cM l),(1,Go.AM.T s),(7,I .i64 ((l.map bE).length:Int)),(8,I .i64 i)] []) (fun i=>i≤l.length∧xF s l 0=xF s (l.drop i) i) (fun i=>l.length-i) 0 ⟨Ac _,rfl⟩ sl ?_);intro i ⟨hi,he⟩;refine sg rfl (aA (aB rfl (fun hb=>?_) (fun hb=>?_)))
 ·have c:=ltD hb j;obtain⟨x,hx⟩:=aN c;have u:=aY bE hx;have r:l.drop i=x::l.drop (i+1):=by rw[Aw c,(Af.1 hx).2]
  rw[r,xF] at he;refine aD (aA (aF (sg rfl (sgh [(3,.row i (bE x))] rfl (aB rfl (fun hb=>?_) (fun hb=>?_))))))
  ·have hs:s=x:=χ hb;rw[θ hs] at he;rw[he];exact sg rfl (aE rtT)
  ·have hs:¬s=x:=Ad hb;rw[ξ hs] at he;exact aD (ag [] rfl ⟨i+1,⟨c,he⟩,by dsimp only;omega,sl⟩)
 ·have q:=geD hb j hi;subst q;rw[Ci,xF] at he;rw[he];exact aH (sg rfl (aE rtT))
theorem nN (l:List Str) (s:Str) (h:l.length≤600000000000):b8 Tryz.prog 179 [cM l,Go.AM.T s] [] (B (decide (s∈l))) []:=by
 have hi:=aM2 l s h;refine bM (n:=9) tok Tryz.func179 rfl rfl rfl ?_;refine sg rfl (sgh [(2,.pc (I .i64 (xF s l 0)))] rfl ?_);rw[←sJ s l 0 (by omega)];exact aE rtT
mutual
def tn:Ty→Nat
 | .mk _ _ s a=>1+s.length+tns a
def tns:List Ty→Nat
 | []=>0
 | t::l=>tn t+tns l
end
theorem oZ (t:Ty):1≤tn t:=by cases t;rw[tn];omega
theorem wI:∀l:List Ty,l.length≤tns l
 | []=>Ac _
 | t::l=>by rw[tns,ε];have:=wI l;have:=oZ t;omega
theorem jB:∀{l:List Ty}{t:Ty},t∈l→tn t≤tns l
 | u::l,t,h=>by
  rw[tns];rcases Ap.1 h with rfl | h
  ·omega
  ·have:=jB h;omega
theorem vB (t:Ty) (ht:t.args.length≤1000000) (r:∀u∈t.args,b8 Tryz.prog 251 [tyV u] [] (tyV u) []):b8 Tryz.prog 251 [tyV t] [] (tyV t) []:=by
 obtain⟨f,n,s,a⟩:=t;have r:∀u∈a,b8 Tryz.prog 251 [tyV u] [] (tyV u) []:=r;have E:a.length≤1000000:=ht;have j:(cF a).length=a.length:=by rw[cJ,η]
 refine bM (n:=22) tok Tryz.func251 rfl rfl rfl ?_;refine sg rfl (sg rfl (AWp.sub (Sub.own (t:=3) (id:=600) 47 4 rfl rfl) ?_));refine aA (sg rfl (aF (aK (fun i:Nat=>mk [(1,.one (.vp 1 0)),(2,.one (.vp 2 0)),(3,.one (.hs 600 0 ((cF a).take i).length ((cF a).take i).length)),(7,.one (.c (.sl 4 (cF a)))),(8,I .i64 ((cF a).length:Int)),(9,I .i64 i)] [(600,.arr 47 4 ((cF a).take i) 0),(1,.var 47 ((bL (.mk f n s a)).map R.c)),(2,.var 47 [.c (.int .i64 0),.c (.int .i64 0),.c (.str []),.c .nl])]) (fun i=>i≤a.length) (fun i=>a.length-i) 0 (Ac _) sl ?_)));intro i hi;have J:((cF a).take i).length=i:=by rw[Am];omega
 refine sg rfl (aA (aB rfl (fun hb=>?_) (fun hb=>?_)))
 ·have q:=ltD hb j;obtain⟨u,hu⟩:=aN q;have y:(cF a)[i]?=some (bL u):=by rw[cJ];exact aY bL hu
  have hc:=r u (Ag hu);have A:(cF a).take (i+1)=(cF a).take i++[bL u]:=by rw[A7,y];rfl
  refine aD (aA (aF (sgh [(0,.row i (bL u))] rfl (aC mixed (ak 2 [] rfl (kc hc ?_))))));refine ak 3 [(3,.all)] rfl (az (ag [] rfl ⟨i+1,q,by dsimp only;omega,?_⟩));dsimp only;rw[A];exact sl
 have B:=geD hb j hi;subst B;rw[show(cF a).take a.length=cF a by rw[←j,Aq]];refine aH (AWp.sub (Sub.freeze (id:=600) rfl) ?_);refine sg rfl (AWp.sub (vp 1 (bL (.mk f n s a))) ?_);exact sg rfl (aE (rtC trw))
mutual
def wfS:Ty→Bool
 | .mk f n s a=>(if f=4 then decide (n=0∧s=[]∧a.length=2) else if f=5 then decide (n=0∧a.length=1) else a.isEmpty)&&aLf a
def aLf:List Ty→Bool
 | []=>true
 | t::l=>wfS t&&aLf l
end
theorem y7:∀{l:List Ty}{t:Ty},aLf l=true→t∈l→wfS t=true
 | u::l,t,h,ht=>by
  rw[aLf,τ] at h;rcases Ap.1 ht with rfl | ht
  ·exact h.1
  ·exact y7 h.2 ht
theorem aC7 {f n:Int}{s:Str}{a:List Ty}(h:wfS (.mk f n s a)=true):a.length≤2∧(∀u∈a,wfS u=true)∧(f=4→n=0∧s=[]∧∃u v,a=[u,v])∧(f=5→n=0∧∃u,a=[u])∧(¬f=4→¬f=5→a=[]):=by
 rw[wfS,τ] at h;obtain⟨h1,h2⟩:=h;refine⟨?_,fun u hu=>y7 h2 hu,fun c=>?_,fun j=>?_,fun c j=>?_⟩
 ·split at h1
  ·exact Nat.le_of_eq (χ h1).2.2
  ·split at h1
   ·rw[(χ h1).2];omega
   ·rw[List.isEmpty_iff.1 h1];simp
 ·rw[θ c] at h1;obtain⟨q,a2,a3⟩:=χ h1
  match a,a3 with
  | [u,v],_=>exact⟨q,a2,u,v,rfl⟩
 ·rw[ξ (by omega),θ j] at h1;obtain⟨q,a2⟩:=χ h1;exact⟨q,List.length_eq_one_iff.1 a2⟩
 ·rw[ξ c,ξ j] at h1;exact List.isEmpty_iff.1 h1
theorem aFt:∀(k:Nat) (t:Ty),tn t≤k→wfS t=true→b8 Tryz.prog 251 [tyV t] [] (tyV t) []
 | 0,t,h,_=>by have:=oZ t;omega
 | k+1,t,h,hw=>by
  obtain⟨f,n,s,a⟩:=t;obtain⟨h1,h2,_⟩:=aC7 hw;exact vB (.mk f n s a) (show a.length≤_ by omega) fun u hu=>aFt k u (by have hu:u∈a:=hu;have:=jB hu;rw[tn] at h;omega) (h2 u hu)
theorem sR (a b:Ty):b8 Tryz.prog 252 [tyV a,tyV b] [] (tyV (kZ a b)) []:=by
 refine bM (n:=9) tok Tryz.func252 rfl rfl rfl ?_;exact sg rfl (sgh [(2,.all)] rfl (aE (rtC trw)))
def jC (f:Int) (s:Str) (o:List Str) (x:Str):List Str:=if ¬x∈o∧(¬f=5∨¬x=s) then o++[x] else o
def tE (f:Int) (s:Str) (o:List Str) (l:List Str):List Str:=l.foldl (jC f s) o
mutual
def tfR:Ty→List Str
 | .mk f _ s a=>if f=2 then [s] else aHq f s a []
def aHq (f:Int) (s:Str):List Ty→List Str→List Str
 | [],o=>o
 | t::l,o=>aHq f s l (tE f s o (tfR t))
end
def tfL (f:Int) (s:Str) (l:List Ty) (o:List Str):List Str:=l.foldl (fun o t=>tE f s o (tfR t)) o
theorem rL (f:Int) (s:Str):∀(l:List Ty) (o:List Str),aHq f s l o=tfL f s l o
 | [],o=>by rw[aHq];rfl
 | t::l,o=>by rw[aHq,rL f s l];rfl
theorem aDd (f:Int) (s:Str) (o:List Str) (x:Str):(jC f s o x).length≤o.length+1:=by
 unfold jC;split
 ·simp
 ·omega
theorem oF (f:Int) (s:Str):∀(l o:List Str),(tE f s o l).length≤o.length+l.length
 | [],o=>le_refl _
 | x::l,o=>by
  have h1:=oF f s l (jC f s o x);have h2:=aDd f s o x;show(tE f s (jC f s o x) l).length≤_;rw[ε];omega
mutual
theorem lY:∀t:Ty,(tfR t).length≤tn t
 | .mk f n s a=>by
  rw[tfR,tn];split
  ·simp;omega
  ·have:=wJ f s a [];simp only[length_nil] at this;omega
theorem wJ (f:Int) (s:Str):∀(l:List Ty) (o:List Str),(aHq f s l o).length≤o.length+tns l
 | [],o=>by rw[aHq,tns];exact le_refl _
 | t::l,o=>by
  rw[aHq,tns];have h1:=wJ f s l (tE f s o (tfR t));have h2:=oF f s (tfR t) o;have c:=lY t;omega
end
theorem aDf {f:Int}{s:Str}{o l:List Str}{j:Nat}{x:Str}(h:l[j]?=some x):tE f s o (l.take (j+1))=jC f s (tE f s o (l.take j)) x:=by
 unfold tE;rw[A7,h,foldl_append];rfl
theorem aHr {f:Int}{s:Str}{o:List Str}{l:List Ty}{j:Nat}{x:Ty}(h:l[j]?=some x):tfL f s (l.take (j+1)) o=tE f s (tfL f s (l.take j) o) (tfR x):=by
 unfold tfL;rw[A7,h,foldl_append];rfl
theorem yB:∀(l:List Ty) (i:Nat),tns (l.take i)≤tns l
 | [],i=>by simp
 | t::l,0=>by rw[take_zero,tns];omega
 | t::l,i+1=>by rw[A8,tns,tns];have:=yB l i;omega
theorem mP (t:Ty) (ht:t.args.length≤1000000000) (hL:∀i,(tfL t.form t.name (t.args.take i) []).length≤1000000000) (hU:∀u∈t.args,(tfR u).length≤1000000000) (ih:∀u∈t.args,b8 Tryz.prog 222 [tyV u] [] (cM (tfR u)) []):b8 Tryz.prog 222 [tyV t] [] (cM (tfR t)) []:=by
 obtain⟨f,n,s,a⟩:=t;have hal:a.length≤1000000000:=ht;have hL:∀i,(tfL f s (a.take i) []).length≤1000000000:=hL;have hU:∀u∈a,(tfR u).length≤1000000000:=hU;have ih:∀u∈a,b8 Tryz.prog 222 [tyV u] [] (cM (tfR u)) []:=ih;have aa:(cF a).length=a.length:=by rw[cJ,η]
 rw[tfR];refine bM (n:=50) tok Tryz.func222 rfl rfl rfl ?_;refine sg rfl (aA (sg rfl (aB rfl (fun hb=>?_) (fun hb=>?_))))
 ·have h2:f=2:=χ hb;rw[θ h2];exact sgh [(2,.all)] rfl (aE rtT)
 ·have h2:¬f=2:=Ad hb;rw[ξ h2,rL] at *;refine aD (sg rfl (AWp.sub (Sub.own (t:=3) (id:=600) 9 1 rfl rfl) (AWp.sub (Sub.freeze (id:=600) rfl) ?_)));refine aA (sg rfl (aF (aK (fun i:Nat=>mk [(1,.one (.vp 1 0)),(3,.one (.hs 600 0 (tfL f s (a.take i) []).length (tfL f s (a.take i) []).length)),(15,.one (.c (.sl 4 (cF a)))),(16,I .i64 ((cF a).length:Int)),(17,I .i64 i)] [(600,.arr 9 1 ((tfL f s (a.take i) []).map bE) 2),(1,.var 47 ((bL (.mk f n s a)).map R.c))]) (fun i=>i≤a.length) (fun i=>a.length-i) 0 (Ac _) sl ?_)));intro i hi;refine sg rfl (aA (aB rfl (fun hb=>?_) (fun hb=>?_)))
  ·have ab:=ltD hb aa;obtain⟨u,hu⟩:=aN ab;have hu':(cF a)[i]?=some (bL u):=by rw[cJ];exact aY bL hu
   have hm:=Ag hu;have hc:=ih u hm;have hul:=hU u hm;have J:=aHr (f:=f) (s:=s) (o:=[]) hu;have hol:=hL i;generalize tfL f s (a.take i) []=o at J hol ⊢;have M:((tfR u).map bE).length=(tfR u).length:=η _;generalize tfR u=r at hc hul J M;refine aD (aA (aF (sgh [(0,.row i (bL u))] rfl (sk 1 rfl (kc hc ?_)))));refine kz 2 rfl (aF (aK (fun j:Nat=>mk [(1,.one (.vp 1 0)),(3,.one (.hs 600 0 (tE f s o (r.take j)).length (tE f s o (r.take j)).length)),(15,.one (.c (.sl 4 (cF a)))),(16,I .i64 ((cF a).length:Int)),(17,I .i64 i),(22,cM r),(23,I .i64 ((r.map bE).length:Int)),(24,I .i64 j)] [(600,.arr 9 1 ((tE f s o (r.take j)).map bE) 2),(1,.var 47 ((bL (.mk f n s a)).map R.c))]) (fun j=>j≤r.length) (fun j=>r.length-j) 0 (Ac _) sl ?_));intro j hj;refine sg rfl (aA (aB rfl (fun hb=>?_) (fun hb=>?_)))
   ·have y:=ltD hb M;obtain⟨x,hx⟩:=aN y;have hx':=aY bE hx;have A:=aDf (f:=f) (s:=s) (o:=o) hx;have hpl:(tE f s o (r.take j)).length≤2000000000:=by
     have:=oF f s (r.take j) o;rw[Am] at this;omega
    generalize tE f s o (r.take j)=q at A hpl ⊢;have B:=nN q x (by omega);have hkq:(q.map bE).length=q.length:=η _;refine aD (aA (aF (sgh [(0,.row j (bE x))] rfl ?_)));by_cases E:x∈q
    ·rw[φ E] at B;have he:jC f s q x=q:=by unfold jC;rw[ξ (fun h=>h.1 E)]
     refine sk 2 rfl (kc B ?_);refine kz 12 rfl (aB rfl nofun (fun _=>aD (ag [] rfl ⟨j+1,y,by dsimp only;omega,?_⟩)));dsimp only;rw[A,he];exact sl
    rw[ψ E] at B;by_cases Y:f=5
    ·have d5:decide (f=5)=true:=φ Y;have d5':(!decide (f=5))=false:=by rw[d5];rfl
     refine sk 2 rfl (kc B ?_);refine ak 12 [(8,.bv false),(13,.bv false)] rfl (az (aB rfl (fun hb=>?_) (fun hb=>?_)))
     ·have O:¬x=s:=by simp at hb;exact hb
      have he:jC f s q x=q++[x]:=by unfold jC;rw[θ ⟨E,.inr O⟩]
      refine ag [(2,.all)] rfl (AWp.sub (Sub.freeze (id:=600) rfl) ?_);refine ag [] rfl ⟨j+1,y,by dsimp only;omega,?_⟩;dsimp only;rw[A,he];exact sl (hh:=⟨⟨_,rfl,.arrS (by rw[Ai];rfl)⟩,⟨_,rfl,.var rfl⟩,trivial⟩)
     ·have O:x=s:=by simp at hb;exact hb
      have he:jC f s q x=q:=by unfold jC;rw[ξ (fun h=>h.2.elim (fun h=>h Y) (fun h=>h O))]
      refine aD (ag [] rfl ⟨j+1,y,by dsimp only;omega,?_⟩);dsimp only;rw[A,he];exact sl
    ·have d5:decide (f=5)=false:=ψ Y;have d5':(!decide (f=5))=true:=by rw[d5];rfl
     have he:jC f s q x=q++[x]:=by unfold jC;rw[θ ⟨E,.inl Y⟩]
     refine sk 2 rfl (kc B ?_);refine ak 12 [(8,.bv true),(13,.bv true)] rfl (az (aB rfl (fun _=>ag [(2,.all)] rfl (AWp.sub (Sub.freeze (id:=600) rfl) ?_)) nofun));refine ag [] rfl ⟨j+1,y,by dsimp only;omega,?_⟩;dsimp only;rw[A,he];exact sl (hh:=⟨⟨_,rfl,.arrS (by rw[Ai];rfl)⟩,⟨_,rfl,.var rfl⟩,trivial⟩)
   have U:=geD hb M hj;subst U;rw[Aq];refine aH (ag [] rfl ⟨i+1,ab,by dsimp only;omega,?_⟩);dsimp only;rw[J];exact sl
  have U:=geD hb aa hi;subst U;rw[Aq];exact aH (sg rfl (aE (rtT (hc:=hs_all rfl rfl (by simp) rfl))))
theorem vC (t:Ty) (ht:tn t≤1000000000) (c:∀u,tn u<tn t→b8 Tryz.prog 222 [tyV u] [] (cM (tfR u)) []):b8 Tryz.prog 222 [tyV t] [] (cM (tfR t)) []:=by
 obtain⟨f,n,s,a⟩:=t;rw[tn] at ht c;have j:=wI a;refine mP (.mk f n s a) (show a.length≤_ by omega) (fun i=>?_) (fun u hu=>?_) fun u hu=>c u ?_
 ·have h1:=wJ f s (a.take i) [];rw[rL] at h1;have h2:=yB a i;simp only[length_nil] at h1;show(tfL f s (a.take i) []).length≤_;omega
 ·have h1:=jB (show u∈a from hu);have h2:=lY u;omega
 ·have h1:=jB (show u∈a from hu);omega
theorem aAi:∀(k:Nat) (t:Ty),tn t≤k→tn t≤1000000000→b8 Tryz.prog 222 [tyV t] [] (cM (tfR t)) []
 | 0,t,h,_=>by have:=oZ t;omega
 | k+1,t,h,hm=>vC t hm fun u hu=>aAi k u (by omega) (by omega)
mutual
def fvm:Ty→Nat
 | .mk f n s a=>max (tfR (.mk f n s a)).length (aRg a)
def aRg:List Ty→Nat
 | []=>0
 | t::l=>max (fvm t) (aRg l)
end
theorem aPs (t:Ty):(tfR t).length≤fvm t:=by cases t;rw[fvm];exact Nat.le_max_left ..
theorem zQ:∀{l:List Ty}{t:Ty},t∈l→fvm t≤aRg l
 | u::l,t,h=>by
  rw[aRg];rcases Ap.1 h with rfl | h
  ·exact Nat.le_max_left ..
  ·exact le_trans (zQ h) (Nat.le_max_right ..)
theorem aE6 {f n:Int}{s:Str}{a:List Ty}{u:Ty}(h:u∈a):fvm u≤fvm (.mk f n s a):=by
 rw[fvm];exact le_trans (zQ h) (Nat.le_max_right ..)
theorem aDe {f:Int}{s:Str}{L:Nat}:∀{l:List Ty}{o:List Str},(∀u∈l,(tfR u).length≤L)→(tfL f s l o).length≤o.length+l.length*L
 | [],o,_=>by simp[tfL]
 | t::l,o,h=>by
  have h1:=aDe (f:=f) (s:=s) (l:=l) (o:=tE f s o (tfR t)) fun u hu=>h u (Ba _ hu)
  have h2:=oF f s (tfR t) o;have c:=h t Bq;show(tfL f s l (tE f s o (tfR t))).length≤_;rw[ε,Nat.succ_mul];omega
theorem aAh:∀(k:Nat) (t:Ty),tn t≤k→wfS t=true→fvm t≤400000000→b8 Tryz.prog 222 [tyV t] [] (cM (tfR t)) []
 | 0,t,h,_,_=>by have:=oZ t;omega
 | k+1,t,h,hw,j=>by
  obtain⟨f,n,s,a⟩:=t;obtain⟨h1,h2,_⟩:=aC7 hw;have hu:∀u∈a,(tfR u).length≤400000000:=fun u hu=>le_trans (aPs u) (le_trans (aE6 hu) j)
  refine mP (.mk f n s a) (show a.length≤_ by omega) (fun i=>?_) (fun u c=>le_trans (hu u c) (by decide)) fun u c=>?_
  ·have q:=aDe (f:=f) (s:=s) (l:=a.take i) (o:=[]) fun u c=>hu u (Cq c)
   rw[Am,length_nil] at q;have r:min i a.length*400000000≤2*400000000:=Ar _ (by omega);show(tfL f s (a.take i) []).length≤_;omega
  ·have c:u∈a:=c;exact aAh k u (by have:=jB c;rw[tn] at h;omega) (h2 u c) (le_trans (aE6 c) j)
def fw (t:Ty):Nat:=if wfS t=true∧fvm t≤tn t then fvm t else tn t
theorem aPr (t:Ty):fw t≤tn t:=by
 unfold fw;split
 ·rename_i h;exact h.2
 ·exact le_refl _
theorem aAj (t:Ty) (h:fw t≤400000000):b8 Tryz.prog 222 [tyV t] [] (cM (tfR t)) []:=by
 unfold fw at h;split at h
 ·rename_i c;exact aAh (tn t) t (le_refl _) c.1 h
 ·exact aAi (tn t) t (le_refl _) (by omega)
set_option maxRecDepth 100000
set_option maxHeartbeats 4000000
def plB (c:Nat):Bool:=decide ((97≤c∧c≤122)∨(65≤c∧c≤90)∨(48≤c∧c≤57))
theorem wU (c:Nat) (w:World) (h:c<256):Calls Tryz.prog 239 #[.int .u8 (c:Int)] w fun e w'=>e=.returned (.bool (plB c))∧w=w':=by
 go_enter Tryz.func239,Tryz.ntmps239
 go_wp2
 all_goals go_ret
 all_goals refine⟨congrArg Ending.returned (congrArg Value.bool (a₂:=plB c) ?_),rfl⟩
 all_goals (unfold plB;rw[Bo];simp;omega)
def fiB (r lo hi:Int):Bool:=decide (lo≤r∧r≤hi)
theorem xE (r lo hi:Int) (a b:Nat) (w:World) (ha:w.cell? ⟨a,0,none⟩=some (.int .i32 lo)) (hb:w.cell? ⟨b,0,none⟩=some (.int .i32 hi)):
  Calls Tryz.prog 238 #[.int .i64 0,.int .i32 r,.pointer (some ⟨a,0,none⟩),.pointer (some ⟨b,0,none⟩)] w fun e w'=>e=.returned (.bool (fiB r lo hi))∧w=w':=by
 go_enter Tryz.func238,Tryz.ntmps238
 go_wp2
 all_goals go_ret
 all_goals refine⟨congrArg Ending.returned (congrArg Value.bool (a₂:=fiB r lo hi) ?_),rfl⟩
 all_goals (unfold fiB;rw[Bo];simp;omega)
def nmQ (c:Nat) (lo hi:Int):Bool:=fiB c lo hi&&(plB c || decide (c=39∨c=95))
def aQ6 (c:Nat) (lo hi:Int) (w:World) (e:Ending) (w':World):Prop:=e=.returned (.bool (nmQ c lo hi))∧∃os:Array Obj,w'={ w with heap:=w.heap++os }
def aS0 (c:Nat) (lo hi:Int) (pos:Nat):Prop:=pos=0∨(pos=1∧nmQ c lo hi=true)
def NmW (c:UInt8) (lo hi:Int) (w:World) (pos:Nat):World:=((w.alloc (.cells #[.int .i32 lo] 21)).alloc (.cells #[.int .i32 hi] 21)).iter ⟨#[c]⟩ pos
theorem aHa (c:UInt8) (lo hi:Int) (w:World) (pos:Nat):∃os:Array Obj,NmW c lo hi w pos={ w with heap:=w.heap++os }:=⟨#[.cells #[.int .i32 lo] 21,.cells #[.int .i32 hi] 21,.stringIter ⟨#[c]⟩ pos],by
 simp only[NmW,World.iter,World.alloc]
 congr 1⟩
theorem aQ4 (c:UInt8) (lo hi:Int) (w:World) (pos:Nat):(NmW c lo hi w pos).cell? ⟨w.heap.size,0,none⟩=some (.int .i32 lo):=by
 have h:(NmW c lo hi w pos).heap[w.heap.size]?=some (.cells #[.int .i32 lo] 21):=by
  show(((w.heap.push _).push _).push _)[w.heap.size]?=_;rw[Array.getElem?_push_lt (by rw[Bf,Bf];omega),Array.getElem_push_lt (by rw[Bf];omega),Array.getElem_push_eq]
 unfold World.cell?;rw[h];rfl
theorem aQ5 (c:UInt8) (lo hi:Int) (w:World) (pos:Nat):(NmW c lo hi w pos).cell? ⟨w.heap.size+1,0,none⟩=some (.int .i32 hi):=by
 have h:(NmW c lo hi w pos).heap[w.heap.size+1]?=some (.cells #[.int .i32 hi] 21):=by
  show(((w.heap.push _).push _).push _)[w.heap.size+1]?=_;rw[Array.getElem?_push_lt (by rw[Bf,Bf];omega),Array.getElem_push];rw[dif_neg (by rw[Bf];omega)]
 unfold World.cell?;rw[h];rfl
theorem tC (c:UInt8) (lo hi:Int) (w:World) (pos:Nat):(NmW c lo hi w pos).iterPos (w.heap.size+2)=pos:=by
 have h:(NmW c lo hi w pos).heap[w.heap.size+2]?=some (.stringIter ⟨#[c]⟩ pos):=by
  show(((w.heap.push _).push _).push _)[w.heap.size+2]?=_;rw[Array.getElem?_push,θ (by rw[Bf,Bf])]
 unfold World.iterPos;rw[h]
theorem aKo {c:Nat}{lo hi:Int}(h1:fiB c lo hi=true) (h2:plB c=true∨c=39∨c=95):nmQ c lo hi=true:=by
 unfold nmQ;rw[h1];rcases h2 with h | h
 ·rw[h];rfl
 ·rw[φ h,Bool.or_true];rfl
theorem aIh {c:Nat}{lo hi:Int}(h:¬fiB c lo hi=true∨(¬plB c=true∧¬c=39∧¬c=95)):nmQ c lo hi=false:=by
 unfold nmQ;rcases h with h | ⟨h1,h2,j⟩
 ·rw[B9 _ |>.mp h];rfl
 ·rw[B9 _ |>.mp h1,ψ (by omega),Bool.or_self,Bool.and_false]
theorem r4 (c:UInt8) (lo hi:Int) (w:World) (hc:c.toNat<128):Calls Tryz.prog 213 #[.string ⟨#[c]⟩,.int .i32 lo,.int .i32 hi] w (aQ6 c.toNat lo hi w):=by
 go_enter Tryz.func213,Tryz.ntmps213
 go_wp2
 go_loopw [] (fun wr=>∃pos:Nat,aS0 c.toNat lo hi pos∧wr=NmW c lo hi w pos) (fun wr=>1-wr.iterPos (w.heap.size+2))
 case atStart=>exact⟨0,.inl rfl,rfl⟩
 case round=>
  obtain⟨pos,u,rfl⟩:=hrel;have hsz:((w.alloc (.cells #[.int .i32 lo] 21)).alloc (.cells #[.int .i32 hi] 21)).heap.size=w.heap.size+1+1:=by
   show((w.heap.push _).push _).size=_;rw[Bf,Bf]
  rcases u with rfl | ⟨rfl,j⟩
  ·have hn:∀ty,(Instr.next (.pointer (some ⟨w.heap.size+1+1,0,none⟩)) true ty).run Tryz.prog (NmW c lo hi w 0)=.ok (.tuple #[.bool true,.int .i64 0,.int .i32 (c.toNat:Int)]) (NmW c lo hi w 1):=fun ty=>by
    have:=run_next_ascii (P:=Tryz.prog) ((w.alloc (.cells #[.int .i32 lo] 21)).alloc (.cells #[.int .i32 hi] 21)) ⟨#[c]⟩ 0 ty (show 0<1 by decide) hc;rw[hsz] at this;exact this
   clear hsz;have q:=aQ4 c lo hi w 1;have r:=aQ5 c lo hi w 1;have y:(c.toNat:Int)≤127:=by omega
   have A:0≤(c.toNat:Int):=by omega
   go_wp2_with (first | (go_at_call 238;(with_reducible refine(xE _ _ _ _ _ _ q r).mono ?_);rintro e w' ⟨rfl,rfl⟩) | (go_at_call 239;(with_reducible refine(wU _ _ (by omega)).mono ?_);rintro e w' ⟨rfl,rfl⟩))
   all_goals first
    | exact⟨⟨1,.inr ⟨rfl,aKo (by assumption) (.inl (by assumption))⟩,rfl⟩,by rw[tC,tC];decide⟩
    | exact⟨⟨1,.inr ⟨rfl,aKo (by assumption) (.inr (by simp at *;omega))⟩,rfl⟩,by rw[tC,tC];decide⟩
    | (go_ret;exact⟨by rw[aIh (.inl (by assumption))];rfl,aHa c lo hi w 1⟩)
    | (go_ret;exact⟨by rw[aIh (.inr ⟨by assumption,by simp at *;omega,by simp at *;omega⟩)];rfl,aHa c lo hi w 1⟩)
  ·have hn:∀ty,(Instr.next (.pointer (some ⟨w.heap.size+1+1,0,none⟩)) true ty).run Tryz.prog (NmW c lo hi w 1)=.ok (.tuple #[.bool false]) (NmW c lo hi w 1):=fun ty=>by
    have:=run_next_end (P:=Tryz.prog) ((w.alloc (.cells #[.int .i32 lo] 21)).alloc (.cells #[.int .i32 hi] 21)) ⟨#[c]⟩ 1 ty (show ¬1<1 by decide);rw[hsz] at this;exact this
   clear hsz
   go_wp2
   go_ret
   exact⟨by rw[j];rfl,aHa c lo hi w 1⟩
def kE (b:Bool) (w:World) (e:Ending) (w':World):Prop:=e=.returned (.bool b)∧∃os:Array Obj,w'={ w with heap:=w.heap++os }
def aQ3 (s:ByteArray) (lo hi:Int) (w:World) (pos:Nat):World:=((w.alloc (.cells #[.int .i32 lo] 21)).alloc (.cells #[.int .i32 hi] 21)).iter s pos
theorem aG9 (s:ByteArray) (lo hi:Int) (w:World) (pos:Nat):∃os:Array Obj,aQ3 s lo hi w pos={ w with heap:=w.heap++os }:=⟨#[.cells #[.int .i32 lo] 21,.cells #[.int .i32 hi] 21,.stringIter s pos],by
 simp only[aQ3,World.iter,World.alloc]
 congr 1⟩
theorem tS {P:Program}(w:World) (s:ByteArray) (pos:Nat) (ty:TypeId) (r k:Nat) (h:pos<s.size) (c:Utf8.decode s pos=(r,k)):
  (Instr.next (.pointer (some ⟨w.heap.size,0,none⟩)) true ty).run P (w.iter s pos)=.ok (.tuple #[.bool true,.int .i64 pos,.int .i32 r]) (w.iter s (pos+k)):=by
 simp only[Instr.next,getObj,setObj,π,Sem.run,World.iter_heap,Result.andThen,h,Ch,c,World.iter_set];simp[goInt]
theorem yZ (s:ByteArray) (lo hi:Int) (w:World) (r k:Nat) (h:0<s.size) (c:Utf8.decode s 0=(r,k)) (q:127<r):Calls Tryz.prog 213 #[.string s,.int .i32 lo,.int .i32 hi] w (kE false w):=by
 go_enter Tryz.func213,Tryz.ntmps213
 go_wp2
 go_loopw [] (fun wr=>wr=aQ3 s lo hi w 0) (fun _=>1)
 case atStart=>rfl
 case round=>
  have hsz:((w.alloc (.cells #[.int .i32 lo] 21)).alloc (.cells #[.int .i32 hi] 21)).heap.size=w.heap.size+1+1:=by
   show((w.heap.push _).push _).size=_;rw[Bf,Bf]
  subst hrel;have hn:∀ty,(Instr.next (.pointer (some ⟨w.heap.size+1+1,0,none⟩)) true ty).run Tryz.prog (aQ3 s lo hi w 0)=.ok (.tuple #[.bool true,.int .i64 0,.int .i32 (r:Int)]) (aQ3 s lo hi w (0+k)):=fun ty=>by
   have:=tS (P:=Tryz.prog) ((w.alloc (.cells #[.int .i32 lo] 21)).alloc (.cells #[.int .i32 hi] 21)) s 0 ty r k h c;rw[hsz] at this;exact this
  clear hsz;have j:127<(r:Int):=by omega
  go_wp2
  all_goals (go_ret;exact⟨rfl,by first | exact aG9 s lo hi w k | exact aG9 s lo hi w (0+k)⟩)
end Go.Proofs.YtpmheldmadendaaGreatDoor
namespace Go.AM
open Go
theorem Inv.grownR {G:Ctx}{S:Sto}{μ:Mu}{H:bZ}{w:World}(h:Inv G S μ H w) (k:Nat) (os:Array Obj):Inv G S μ H ({ w with heap:=w.heap++os,drawn:=w.drawn+k }):=by
 have hold:∀b:Nat,b<w.heap.size→({ w with heap:=w.heap++os,drawn:=w.drawn+k }:World).heap[b]?=w.heap[b]?:=fun b hb=>by
  show(w.heap++os)[b]?=w.heap[b]?;exact Bu hb
 have hsz:w.heap.size≤({ w with heap:=w.heap++os,drawn:=w.drawn+k }:World).heap.size:=by
  show w.heap.size≤(w.heap++os).size;rw[Array.size_append];omega
 obtain⟨h1,h2,j,q,r,u,y,A,B⟩:=h;refine⟨⟨fun b o v e=>?_,fun b mk e=>?_⟩,fun id o e=>(h2 id o e).evolve (Evolve.refl _ _ _) rfl fun b c hm=>⟨hold b ((h2 id o e).lt hm),fun _=>rfl,rfl⟩,j,q,?_,u,y,A,B⟩
 ·obtain⟨vs,t,E,g1,g2⟩:=h1.1 b o v e;exact⟨vs,t,E,by rw[hold b (bV g1)];exact g1,g2⟩
 ·have g:=h1.2 b mk e;obtain⟨_,g2⟩:=MK.holds_some g;rw[hold b (bV g2)];exact g
 ·obtain⟨f1,f2,f3,f4,f5,f6⟩:=r;exact⟨f1,f2,f3,le_trans f4 hsz,fun b hb I=>by rw[hold b (Ay hb f4)];exact f5 b hb I,f6⟩
end Go.AM
namespace Go.Proofs.YtpmheldmadendaaGreatDoor
open Go Go.AM
set_option maxRecDepth 100000
set_option maxHeartbeats 4000000
def dgB (c:Nat):Bool:=decide (48≤c∧c≤57)
def sgB (c:Nat):Bool:=plB c || decide (c=39∨c=95)
def wiB (c lo hi:Int):Bool:=decide (lo≤c∧c≤hi)
theorem gS (c lo hi:Int) (w:World):Calls Tryz.prog 245 #[.int .u8 c,.int .u8 lo,.int .u8 hi] w fun e w'=>e=.returned (.bool (wiB c lo hi))∧w=w':=by
 go_enter Tryz.func245,Tryz.ntmps245
 go_wp2
 all_goals go_ret
 all_goals refine⟨congrArg Ending.returned (congrArg Value.bool (a₂:=wiB c lo hi) ?_),rfl⟩
 all_goals (unfold wiB;rw[Bo];simp;omega)
theorem qD (c:Nat) (w:World):Calls Tryz.prog 189 #[.int .u8 (c:Int)] w fun e w'=>e=.returned (.bool (dgB c))∧w=w':=by
 go_enter Tryz.func189,Tryz.ntmps189
 go_wp2
 all_goals go_ret
 all_goals refine⟨congrArg Ending.returned (congrArg Value.bool (a₂:=dgB c) ?_),rfl⟩
 all_goals (unfold dgB;rw[Bo];simp;omega)
theorem aBc (c:Nat) (w:World):Calls Tryz.prog 192 #[.int .u8 (c:Int)] w fun e w'=>e=.returned (.bool (sgB c))∧w=w':=by
 go_enter Tryz.func192,Tryz.ntmps192
 go_wp2_with (go_at_call 189;(with_reducible refine(qD _ _).mono ?_);rintro e w' ⟨rfl,rfl⟩)
 all_goals go_ret
 all_goals refine⟨congrArg Ending.returned (congrArg Value.bool (a₂:=sgB c) ?_),rfl⟩
 all_goals (rw[Bo];unfold sgB plB;unfold dgB at *;simp at *;omega)
theorem uA (c:Nat) (w:World):Calls Tryz.prog 244 #[.int .u8 (c:Int)] w fun e w'=>e=.returned (.bool (plB c))∧w=w':=by
 go_enter Tryz.func244,Tryz.ntmps244
 go_wp2_with (go_at_call 245;first | ((with_reducible refine(gS c 97 122 _).mono ?_);rintro e w' ⟨rfl,rfl⟩) | ((with_reducible refine(gS c 65 90 _).mono ?_);rintro e w' ⟨rfl,rfl⟩) | ((with_reducible refine(gS c 48 57 _).mono ?_);rintro e w' ⟨rfl,rfl⟩))
 all_goals go_ret
 all_goals refine⟨congrArg Ending.returned (congrArg Value.bool (a₂:=plB c) ?_),rfl⟩
 all_goals (rw[Bo];unfold plB;unfold wiB at *;simp at *;omega)
theorem x8 (s:ByteArray) (c:Int) (w:World):Calls Tryz.prog 172 #[.string s,.int .u8 c] w fun e w'=>e=.returned (.int .i64 (Lib.indexByte s.data.toList c.toNat.toUInt8))∧w=w':=by
 go_enter Tryz.func172,Tryz.ntmps172
 go_wp2
 rw[run_callFunc_extern Tryz.func212 (by kernel_rfl) (by kernel_rfl) (by kernel_rfl) (e:=Extern.BytealgIndexByte.indexByte) (by kernel_rfl),Lib.run_indexByteString];simp only[Result.andThen];rw[Oper.upon_value]
 go_wp2
 go_ret
 exact⟨rfl,rfl⟩
theorem jE (s:ByteArray) (c:Int) (w:World):Calls Tryz.prog 128 #[.string s,.int .u8 c] w fun e w'=>e=.returned (.int .i64 (Lib.indexByte s.data.toList c.toNat.toUInt8))∧w=w':=by
 go_enter Tryz.func128,Tryz.ntmps128
 go_wp2_with (go_at_call 172;(with_reducible refine(x8 _ _ _).mono ?_);rintro e w' ⟨rfl,rfl⟩)
 go_ret
 exact⟨rfl,rfl⟩
theorem pV (c:UInt8) (w:World) (hc:c.toNat<128):Calls Tryz.prog 176 #[.string ⟨#[c]⟩] w (kE (nmQ c.toNat 97 122) w):=by
 go_enter Tryz.func176,Tryz.ntmps176
 go_wp2_with (go_at_call 213;(with_reducible refine(r4 c 97 122 _ hc).mono ?_);rintro e w' ⟨rfl,os,rfl⟩)
 go_ret
 exact⟨rfl,os,rfl⟩
theorem oY (c:UInt8) (w:World) (hc:c.toNat<128):Calls Tryz.prog 177 #[.string ⟨#[c]⟩] w (kE (nmQ c.toNat 65 90) w):=by
 go_enter Tryz.func177,Tryz.ntmps177
 go_wp2_with (go_at_call 213;(with_reducible refine(r4 c 65 90 _ hc).mono ?_);rintro e w' ⟨rfl,os,rfl⟩)
 go_ret
 exact⟨rfl,os,rfl⟩
theorem aFf (c:UInt8) (hc:c.toNat<128):Utf8.encode (c.toNat:Int)=⟨#[c]⟩:=by
 have h:(c.toNat:Int).toNat=c.toNat:=by omega
 have j:Utf8.valid (c.toNat:Int)=true:=by unfold Utf8.valid;simp;omega
 unfold Utf8.encode;rw[j];simp[h,hc]
theorem uH (s:ByteArray) (w:World) (r k:Nat) (h:0<s.size) (c:Utf8.decode s 0=(r,k)) (j:127<r):Calls Tryz.prog 176 #[.string s] w (kE false w):=by
 go_enter Tryz.func176,Tryz.ntmps176
 go_wp2_with (go_at_call 213;(with_reducible refine(yZ s 97 122 _ r k h c j).mono ?_);rintro e w' ⟨rfl,os,rfl⟩)
 go_ret
 exact⟨rfl,os,rfl⟩
theorem tO (s:ByteArray) (w:World) (r k:Nat) (h:0<s.size) (c:Utf8.decode s 0=(r,k)) (j:127<r):Calls Tryz.prog 177 #[.string s] w (kE false w):=by
 go_enter Tryz.func177,Tryz.ntmps177
 go_wp2_with (go_at_call 213;(with_reducible refine(yZ s 65 90 _ r k h c j).mono ?_);rintro e w' ⟨rfl,os,rfl⟩)
 go_ret
 exact⟨rfl,os,rfl⟩
def aRi:List UInt8:=[48,49,50,51,52,53,54,55,56,57]
def sgS:List UInt8:=[48,49,50,51,52,53,54,55,56,57,39,95]
def ixB (l:List UInt8) (c:UInt8):Bool:=decide (0≤Lib.indexByte l c)
theorem kN {p:UInt8→Prop}(h:∀n:_root_.Fin 256,p (UInt8.ofNat n.val)) (c:UInt8):p c:=by
 have:=h ⟨c.toNat,c.toNat_lt⟩;rwa [show UInt8.ofNat c.toNat=c by simp] at this
theorem aHx (c:UInt8):(nmQ c.toNat 97 122 || (nmQ c.toNat 65 90 || ixB sgS c))=sgB c.toNat:=kN (p:=fun c=>(nmQ c.toNat 97 122 || (nmQ c.toNat 65 90 || ixB sgS c))=sgB c.toNat) (by decide+kernel) c
theorem aSp (c:UInt8):ixB aRi c=dgB c.toNat:=kN (p:=fun c=>ixB aRi c=dgB c.toNat) (by decide+kernel) c
theorem uN (c:UInt8) (w:World) (hc:c.toNat<128):Calls Tryz.prog 178 #[.int .u8 (c.toNat:Int)] w (kE (sgB c.toNat) w):=by
 rw[←aHx]
 go_enter Tryz.func178,Tryz.ntmps178
 go_wp2_with (first | (go_at_call 176;rw[aFf c hc];(with_reducible refine(pV c _ hc).mono ?_);rintro e w' ⟨rfl,os,rfl⟩) | (go_at_call 177;rw[aFf c hc];(with_reducible refine(oY c _ hc).mono ?_);rintro e w' ⟨rfl,os,rfl⟩) | (go_at_call 128;(with_reducible refine(jE _ _ _).mono ?_);rintro e w' ⟨rfl,rfl⟩))
 all_goals go_ret
 ·exact⟨congrArg Ending.returned (congrArg Value.bool (a₂:=_) (by rename_i h;rw[h];rfl)),_,rfl⟩
 ·exact⟨congrArg Ending.returned (congrArg Value.bool (a₂:=_) (by simp[*])),_,rfl⟩
 ·exact⟨congrArg Ending.returned (congrArg Value.bool (a₂:=_) (by simp[*];rfl)),_,rfl⟩
theorem aFi (c:UInt8):128≤c.toNat→Utf8.decode ⟨#[c]⟩ 0=(65533,1):=kN (p:=fun c=>128≤c.toNat→Utf8.decode ⟨#[c]⟩ 0=(65533,1)) (by decide+kernel) c
theorem aMj (c:UInt8):128≤c.toNat→0<(Utf8.encode (c.toNat:Int)).size∧Utf8.decode (Utf8.encode (c.toNat:Int)) 0=(c.toNat,2):=kN (p:=fun c=>128≤c.toNat→0<(Utf8.encode (c.toNat:Int)).size∧Utf8.decode (Utf8.encode (c.toNat:Int)) 0=(c.toNat,2)) (by decide+kernel) c
theorem aEs (c:UInt8) (w:World):Calls Tryz.prog 176 #[.string ⟨#[c]⟩] w (kE (nmQ c.toNat 97 122) w):=by
 by_cases hc:c.toNat<128
 ·exact pV c w hc
 ·rw[aIh (.inl (by unfold fiB;simp;omega))];exact uH _ w _ _ (by show 0<1;decide) (aFi c (by omega)) (by decide)
theorem aC8 (c:UInt8) (w:World):Calls Tryz.prog 177 #[.string ⟨#[c]⟩] w (kE (nmQ c.toNat 65 90) w):=by
 by_cases hc:c.toNat<128
 ·exact oY c w hc
 ·rw[aIh (.inl (by unfold fiB;simp;omega))];exact tO _ w _ _ (by show 0<1;decide) (aFi c (by omega)) (by decide)
theorem aRu (c:UInt8):128≤c.toNat→ixB sgS c=sgB c.toNat:=kN (p:=fun c=>128≤c.toNat→ixB sgS c=sgB c.toNat) (by decide+kernel) c
theorem aB1 (c:UInt8) (w:World):Calls Tryz.prog 178 #[.int .u8 (c.toNat:Int)] w (kE (sgB c.toNat) w):=by
 by_cases hc:c.toNat<128
 ·exact uN c w hc
 have j:128≤c.toNat:=by omega
 obtain⟨h1,h2⟩:=aMj c j;rw[←aRu c j]
 go_enter Tryz.func178,Tryz.ntmps178
 go_wp2_with (first | (go_at_call 176;(with_reducible refine(uH _ _ _ _ h1 h2 (by omega)).mono ?_);rintro e w' ⟨rfl,os,rfl⟩) | (go_at_call 177;(with_reducible refine(tO _ _ _ _ h1 h2 (by omega)).mono ?_);rintro e w' ⟨rfl,os,rfl⟩) | (go_at_call 128;(with_reducible refine(jE _ _ _).mono ?_);rintro e w' ⟨rfl,rfl⟩))
 all_goals go_ret
 all_goals exact⟨congrArg Ending.returned (congrArg Value.bool (a₂:=_) (by first | rfl | (simp[*];rfl) | simp[*])),_,rfl⟩
theorem aE0 {f:FuncId}(c:Nat) (b:Bool) (h:∀w,Calls Tryz.prog f #[.int .u8 (c:Int)] w (fun e w'=>e=.returned (.bool b)∧w=w')):b8 Tryz.prog f [I .u8 c] [] (B b) []:=by
 intro S μ w vals q j;simp only[aU,aO,aT,Rep] at j;obtain⟨v1,r,rfl,rfl,rfl⟩:=j;refine Calls.mono (h w) ?_;rintro e w' ⟨rfl,rfl⟩;refine⟨S,μ,_,rfl,q,?_⟩;simp only[aO,aT,Rep]
theorem aMd {f:FuncId}(c:Nat) (b:Bool) (h:∀w,Calls Tryz.prog f #[.int .u8 (c:Int)] w (kE b w)):b8 Tryz.prog f [I .u8 c] [] (B b) []:=by
 intro S μ w vals q j;simp only[aU,aO,aT,Rep] at j;obtain⟨v1,r,rfl,rfl,rfl⟩:=j;refine Calls.mono (h w) ?_;rintro e w' ⟨rfl,os,rfl⟩;refine⟨S,μ,_,rfl,q.grownR 0 os,?_⟩;simp only[aO,aT,Rep]
theorem zK {f:FuncId}(s:Str) (b:Bool) (h:∀w,Calls Tryz.prog f #[.string ⟨⟨s⟩⟩] w (kE b w)):b8 Tryz.prog f [Go.AM.T s] [] (B b) []:=by
 intro S μ w vals j c;simp only[aU,aO,aT,Rep] at c;obtain⟨v1,q,rfl,rfl,rfl⟩:=c;refine Calls.mono (h w) ?_;rintro e w' ⟨rfl,os,rfl⟩;refine⟨S,μ,_,rfl,j.grownR 0 os,?_⟩;simp only[aO,aT,Rep]
theorem aF6 (c:Nat):b8 Tryz.prog 189 [I .u8 c] [] (B (dgB c)) []:=aE0 c _ (qD c)
theorem aP7 (c:Nat):b8 Tryz.prog 192 [I .u8 c] [] (B (sgB c)) []:=aE0 c _ (aBc c)
theorem aI9 (c:Nat):b8 Tryz.prog 244 [I .u8 c] [] (B (plB c)) []:=aE0 c _ (uA c)
theorem aJe (c:UInt8):b8 Tryz.prog 178 [I .u8 c.toNat] [] (B (sgB c.toNat)) []:=aMd _ _ fun w=>aB1 c w
theorem aJs (c:UInt8):b8 Tryz.prog 176 [Go.AM.T [c]] [] (B (nmQ c.toNat 97 122)) []:=zK [c] _ fun w=>aEs c w
theorem aJq (c:UInt8):b8 Tryz.prog 177 [Go.AM.T [c]] [] (B (nmQ c.toNat 65 90)) []:=zK [c] _ fun w=>aC8 c w
theorem qL (s:Str) (c:UInt8):b8 Tryz.prog 128 [Go.AM.T s,I .u8 c.toNat] [] (I .i64 (Lib.indexByte s c)) []:=by
 intro S μ w vals q j;simp only[aU,aO,aT,Rep] at j;obtain⟨v1,r,rfl,rfl,v2,u,rfl,rfl,rfl⟩:=j;refine Calls.mono (jE _ _ w) ?_;rintro e w' ⟨rfl,rfl⟩;refine⟨S,μ,_,rfl,q,?_⟩;rw[show(c.toNat:Int).toNat.toUInt8=c by simp];simp only[aO,aT,Rep]
theorem aFo (c lo hi:Nat):b8 Tryz.prog 245 [I .u8 c,I .u8 lo,I .u8 hi] [] (B (wiB c lo hi)) []:=by
 intro S μ w vals q j;simp only[aU,aO,aT,Rep] at j;obtain⟨v1,r,rfl,rfl,v2,u,rfl,rfl,v3,y,rfl,rfl,rfl⟩:=j;refine Calls.mono (gS _ _ _ w) ?_;rintro e w' ⟨rfl,rfl⟩;refine⟨S,μ,_,rfl,q,?_⟩;simp only[aO,aT,Rep]
structure Tk where
 kind:Int
 text:Str
 n:Int
 pl:Int
def aG (t:Tk):List C:=[.int .i64 t.kind,.str t.text,.int .i64 t.n,.int .i64 t.pl]
def aCx:List C:=[.int .i64 0,.str [],.int .i64 0,.int .i64 0]
def cU (p:Nat→Bool):Str→Nat
 | []=>0
 | c::s=>if p c.toNat=true then cU p s+1 else 0
theorem iT (p:Nat→Bool):∀s:Str,cU p s≤s.length
 | []=>le_refl _
 | c::s=>by
  rw[cU,ε];have:=iT p s;split<;>omega
theorem lP (p:Nat→Bool):∀(s:Str) (i:Nat),i≤cU p s→∀c,s[i]?=some c→(p c.toNat=true↔i<cU p s)
 | [],i,_,c,h=>by cases h
 | a::s,0,_,c,h=>by
  have e:a=c:=by simpa using h
  subst e;rw[cU];by_cases hp:p a.toNat=true
  ·rw[θ hp];exact⟨fun _=>by omega,fun _=>hp⟩
  ·rw[ξ hp];exact⟨fun h=>absurd h hp,fun h=>by omega⟩
 | a::s,i+1,hi,c,h=>by
  rw[cU] at hi ⊢;by_cases hp:p a.toNat=true
  ·rw[θ hp] at hi ⊢;rw[lP p s i (by omega) c (by simpa using h)];omega
  ·rw[ξ hp] at hi;omega
def neB (c:Nat):Bool:=!decide (c=10)
def preB (x s:Str):Bool:=decide (x.length≤s.length)&&decide (s.take x.length=x)
def blB (c:Nat):Bool:=decide (c=32∨c=9∨c=10)
def k8 (s:Str):Nat:=match s with
 | []=>0
 | c::_=>if blB c.toNat=true then 1 else if preB [45,45] s=true then 2+cU neB (s.drop 2) else 0
def kR:Str→Int→Int
 | [],k=>k
 | c::s,k=>if k<3000000000 then kR s (k*10+((c.toNat:Int)-48)) else k
def tP:List Str:=[[45,62],[61,62],[92],[61],[124],[40],[41],[123],[125],[59],[58],[44],[95]]
def rM (s:Str):Str:=match tP.find? fun x=>preB x s with | some x=>x | none=>[]
def pW:List Str:=[[99,97,115,101],[99,108,97,115,115],[100,97,116,97],[105,110],[105,110,115,116,97,110,99,101],[108,101,116],[111,102]]
abbrev TE:=Except Int (Int×Str×Int)
def s9 (s:Str) (up:Bool):TE:=
 if 32<cU sgB s then .error 2
 else if up=true then .ok (2,s.take (cU sgB s),0)
 else if s.take (cU sgB s)∈pW then .ok (5,s.take (cU sgB s),0)
 else .ok (1,s.take (cU sgB s),0)
def o8:Str→TE
 | []=>.error 10
 | c::s=>
  if dgB c.toNat=true then
   (if 2147483647<kR ((c::s).take (cU dgB (c::s))) 0 then .error 11 else .ok (3,(c::s).take (cU dgB (c::s)),kR ((c::s).take (cU dgB (c::s))) 0))
  else if wiB c.toNat 97 122=true∨wiB c.toNat 65 90=true then s9 (c::s) (wiB c.toNat 65 90)
  else if rM (c::s)=[] then .error 10 else .ok (4,rM (c::s),0)
def aTe:TE→V
 | .ok (k,t,v)=>.tup [.pa [.int .i64 k,.str t,.int .i64 v,.int .i64 0],I .i64 0]
 | .error e=>.tup [.pa aCx,I .i64 e]
theorem aAp (c:UInt8) (lo hi:Nat):b8 Tryz.prog 227 [Go.AM.T [c],I .u8 lo,I .u8 hi] [] (B (sgB c.toNat&&wiB c.toNat lo hi)) []:=by
 have hp:=aI9 c.toNat;have hw:=aFo c.toNat lo hi;refine bM (n:=46) tok Tryz.func227 rfl rfl rfl ?_;refine sg rfl (aA (sgh [(3,.bv false),(7,.bv false)] rfl (aB rfl (fun hb=>by simp at hb) (fun _=>aD (aA (sg rfl (aF (aK (fun i:Nat=>mk [(0,Go.AM.T [c]),(1,I .u8 lo),(2,I .u8 hi),(7,I .i64 i)] []) (fun i=>i=0∨(i=1∧sgB c.toNat=true)) (fun i=>1-i) 0 (.inl rfl) sl ?_))))))));rintro i (rfl | ⟨rfl,hs⟩)
 ·refine aA (sg rfl (aB rfl (fun _=>aD (aA (aF (skh 3 [(2,.byte 0 c)] rfl (kc hp ?_))))) (fun hb=>by simp at hb)));refine kz 1 rfl ?_;by_cases h1:plB c.toNat=true
  ·rw[h1];have hs:sgB c.toNat=true:=by unfold sgB;rw[h1];rfl
   exact sgh [(2,.bv false),(7,.bv false),(8,.bv false),(13,.bv false)] rfl (aB rfl (fun hb=>absurd hb (by decide)) (fun _=>aD (ag [] rfl ⟨1,.inr ⟨rfl,hs⟩,by decide,sl⟩)))
  ·have h1:=B9 _ |>.mp h1;rw[h1];by_cases h2:(c.toNat:Int)=39
   ·have d2:(!decide ((c.toNat:Int)=39))=false:=by rw[φ h2];rfl
    have hs:sgB c.toNat=true:=by unfold sgB;rw[φ (by omega),Bool.or_true]
    exact sgh [(2,.bv true),(5,.byte 0 c),(7,.bv true),(8,.bv false),(13,.bv false)] rfl (aB rfl (fun hb=>absurd hb (by decide)) (fun _=>aD (ag [] rfl ⟨1,.inr ⟨rfl,hs⟩,by decide,sl⟩)))
   have d2:(!decide ((c.toNat:Int)=39))=true:=by rw[ψ h2];rfl
   by_cases j:(c.toNat:Int)=95
   ·have d3:(!decide ((c.toNat:Int)=95))=false:=by rw[φ j];rfl
    have hs:sgB c.toNat=true:=by unfold sgB;rw[φ (by omega),Bool.or_true]
    exact sgh [(2,.bv true),(5,.byte 0 c),(7,.bv true),(8,.bv true),(11,.byte 0 c),(13,.bv true)] rfl (aB rfl (fun hb=>absurd (hb.symm.trans d3) (by decide)) (fun _=>aD (ag [] rfl ⟨1,.inr ⟨rfl,hs⟩,by decide,sl⟩)))
   ·have d3:(!decide ((c.toNat:Int)=95))=true:=by rw[ψ j];rfl
    have hs:sgB c.toNat=false:=by unfold sgB;rw[h1,ψ (by omega)];rfl
    refine sgh [(2,.bv true),(5,.byte 0 c),(7,.bv true),(8,.bv true),(11,.byte 0 c),(13,.bv true)] rfl (aB rfl (fun _=>sg rfl ?_) (fun hb=>absurd (hb.symm.trans d3) (by decide)));rw[hs];exact aE rtT
 ·rw[hs];refine aA (sg rfl (aB rfl (fun hb=>by simp at hb) (fun _=>aH (skh 4 [(1,.byte 0 c)] rfl (kc hw ?_)))));exact kz 1 rfl (aE rtT)
theorem aLl (c:Nat):(sgB c&&wiB c 97 122)=wiB c 97 122:=by
 unfold sgB plB wiB;rw[Bo];simp;omega
theorem aLk (c:Nat):(sgB c&&wiB c 65 90)=wiB c 65 90:=by
 unfold sgB plB wiB;rw[Bo];simp;omega
theorem aJr (c:UInt8):b8 Tryz.prog 190 [Go.AM.T [c]] [] (B (wiB c.toNat 97 122)) []:=by
 have h:=aAp c 97 122;rw[show((97:Nat):Int)=97 from rfl,show((122:Nat):Int)=122 from rfl,aLl] at h;refine bM (n:=5) tok Tryz.func190 rfl rfl rfl ?_;refine sg rfl (sk 1 rfl (kc h ?_));exact kz 1 rfl (aE rtT)
theorem aJp (c:UInt8):b8 Tryz.prog 191 [Go.AM.T [c]] [] (B (wiB c.toNat 65 90)) []:=by
 have h:=aAp c 65 90;rw[show((65:Nat):Int)=65 from rfl,show((90:Nat):Int)=90 from rfl,aLk] at h;refine bM (n:=5) tok Tryz.func191 rfl rfl rfl ?_;refine sg rfl (sk 1 rfl (kc h ?_));exact kz 1 rfl (aE rtT)
theorem lF {p:Str→Bool}{l:List Str}{i:Nat}{x:Str}(h:(l.take i).find? p=none) (hx:l[i]?=some x) (hp:p x=false):(l.take (i+1)).find? p=none:=by
 rw[A7,hx,List.find?_append,h];show [x].find? p=none;rw[List.find?_cons,hp];rfl
theorem lE {p:Str→Bool}{l:List Str}{i:Nat}{x:Str}(h:(l.take i).find? p=none) (hx:l[i]?=some x) (hp:p x=true):l.find? p=some x:=by
 have e:l=l.take i++x::l.drop (i+1):=by
  obtain⟨h1,h2⟩:=Af.1 hx;have:=Aw h1;rw[h2] at this;rw[←this];exact(take_append_drop i l).symm
 rw[e,List.find?_append,h,List.find?_cons,hp];rfl
theorem aI3 (s:Str):b8 Tryz.prog 195 [Go.AM.T s] [] (Go.AM.T (rM s)) []:=by
 have q:(tP.map bE).length=tP.length:=η _;refine bM (n:=38) tok Tryz.func195 rfl rfl rfl ?_;refine sg rfl (sgh [(0,.all)] rfl (aA (sg rfl (aF (aK (fun i:Nat=>mk [(0,Go.AM.T s),(3,.one (.c (.sl 1 (tP.map bE)))),(4,I .i64 i)] []) (fun i=>i≤tP.length∧(tP.take i).find? (fun x=>preB x s)=none) (fun i=>tP.length-i) 0 ⟨Ac _,rfl⟩ sl ?_)))));rintro i ⟨hi,hn⟩;refine aA (sg rfl (aB rfl (fun hb=>?_) (fun hb=>?_)))
 ·have j:=ltD hb q;obtain⟨x,hx⟩:=aN j;have B:=aY bE hx;have r:rM s=(match tP.find? (fun x=>preB x s) with | some x=>x | none=>[]):=rfl;have y:preB x s=true→rM s=x:=fun hp=>by rw[r,lE hn hx hp]
  have u:preB x s=false→(tP.take (i+1)).find? (fun x=>preB x s)=none:=fun hp=>lF hn hx hp
  have E:tP.length≤13:=by decide
  clear r hn;generalize tP=L at *;refine aD (aA (aF (aA ?_)));by_cases h1:x.length≤s.length
  ·have d1:decide ((x.length:Int)≤(s.length:Int))=true:=φ (by omega);refine agN [(4,.row i (bE x)),(8,.bv true),(12,.row i (bE x)),(18,.row i (bE x)),(21,.bv true)] rfl ?_;by_cases h2:s.take x.length=x
   ·have hp:preB x s=true:=by unfold preB;rw[φ h1,φ h2];rfl
    have d2:decide (s.take x.length=x)=true:=φ h2;refine aB rfl (fun _=>sgh [(2,.row i (bE x))] rfl ?_) (fun hb=>absurd (hb.symm.trans d2) (by decide));rw[y hp];exact aE rtT
   ·have hp:preB x s=false:=by unfold preB;rw[ψ h2,Bool.and_false]
    have d2:decide (s.take x.length=x)=false:=ψ h2;exact aB rfl (fun hb=>absurd (hb.symm.trans d2) (by decide)) (fun _=>aD (ag [] rfl ⟨i+1,⟨j,u hp⟩,by dsimp only;omega,sl⟩))
  ·have d1:decide ((x.length:Int)≤(s.length:Int))=false:=ψ (by omega);have hp:preB x s=false:=by unfold preB;rw[ψ h1,Bw]
   exact agN [(4,.row i (bE x)),(8,.bv false),(21,.bv false)] rfl (aB rfl (fun hb=>absurd hb (by decide)) (fun _=>aD (ag [] rfl ⟨i+1,⟨j,u hp⟩,by dsimp only;omega,sl⟩)))
 ·have A:=geD hb q hi;rw[A,Aq] at hn;have e:rM s=[]:=by unfold rM;rw[hn]
  rw[e];exact aH (sg rfl (aE rtT))
theorem aM8 (c:UInt8) (r:Str) (hl:r.length≤4000):b8 Tryz.prog 151 [Go.AM.T (c::r)] [] (I .i64 (k8 (c::r))) []:=by
 refine bM (n:=40) tok Tryz.func151 rfl rfl rfl ?_;refine sg rfl ?_;have key:∀b:Bool,blB c.toNat=b→k8 (c::r)=if b=true then 1 else if preB [45,45] (c::r)=true then 2+cU neB (r.drop 1) else 0:=fun b hb=>by rw[←hb];rfl
 by_cases h1:(c.toNat:Int)=32
 ·have d1:decide ((c.toNat:Int)=32)=true:=φ h1;refine aA (sgh [(1,.byte 0 c),(3,.bv true),(7,.bv true),(8,.bv true),(12,.bv true)] rfl (aB rfl (fun _=>?_) (fun hb=>absurd hb (by decide))));rw[key true (φ (by omega)),θ rfl];exact sg rfl (aE rtT)
 have d1:decide ((c.toNat:Int)=32)=false:=ψ h1;by_cases h2:(c.toNat:Int)=9
 ·have d2:decide ((c.toNat:Int)=9)=true:=φ h2;refine aA (sgh [(1,.byte 0 c),(3,.bv false),(5,.byte 0 c),(7,.bv false),(8,.bv true),(12,.bv true)] rfl (aB rfl (fun _=>?_) (fun hb=>absurd hb (by decide))));rw[key true (φ (by omega)),θ rfl];exact sg rfl (aE rtT)
 have d2:decide ((c.toNat:Int)=9)=false:=ψ h2;refine aA (sgh [(1,.byte 0 c),(3,.bv false),(5,.byte 0 c),(7,.bv false),(8,.bv false),(10,.byte 0 c),(12,.bv false)] rfl (aB rfl (fun hb=>?_) (fun hb=>?_)))
 ·have O:=χ hb;rw[key true (φ (by omega)),θ rfl];exact sg rfl (aE rtT)
 have O:=Ad hb;rw[key false (ψ (by omega)),ξ ω];clear key;refine aD ?_;have q:r.drop 1=(c::r).drop 2:=rfl;rw[q];have A:(c::r).length≤4001:=by rw[ε];omega
 generalize c::r=S at A ⊢;clear q hl;by_cases B:2≤S.length
 ·have dl:decide ((1:Int)<(S.length:Int))=true:=φ (by omega);refine aA (sgh [(3,.bv true),(7,.bv true)] rfl (aB rfl (fun hb=>?_) (fun hb=>?_)))
  ·have hp:preB [45,45] S=true:=by unfold preB;rw[φ (show([45,45]:Str).length≤S.length from B)];exact hb
   rw[θ hp];refine sg rfl ?_;have U:=iT neB (S.drop 2);rw[Bg] at U;refine aA (aF (aK (fun j:Nat=>mk [(0,Go.AM.T S),(3,I .i64 ((2+j:Nat):Int))] []) (fun j=>j≤cU neB (S.drop 2)) (fun j=>cU neB (S.drop 2)-j) 0 (Ac _) sl ?_));intro j Y;by_cases E:2+j<S.length
   ·obtain⟨d,J⟩:=aN E;have y:(S.take (2+j+1)).drop (2+j)=[d]:=by
     rw[A7,J,drop_append,drop_eq_nil_of_le (by rw[Am];omega),Am,min_eq_left (by omega),Cb];rfl
    have u:=lP neB (S.drop 2) j Y d (by rw[Ak];exact J);have dj:decide (((2+j:Nat):Int)<(S.length:Int))=true:=φ (by omega);refine aA (aA (agN [(4,.bv true),(11,.bv true)] rfl ?_));rw[y];refine aB rfl (fun hb=>?_) (fun hb=>?_)
    ·have M:j<cU neB (S.drop 2):=u.1 (by
      unfold neB;simp at hb ⊢
      exact fun e=>hb (UInt8.toNat_inj.1 e))
     exact aD (aF (agN [] rfl ⟨j+1,M,by dsimp only;omega,sl⟩))
    ·have e:j=cU neB (S.drop 2):=by
      have:¬j<cU neB (S.drop 2):=fun h=>by
       have:=u.2 h;unfold neB at this;simp at hb this;exact this (by rw[hb];rfl)
      omega
     rw[←e];exact aH (sg rfl (aE rtT))
   ·have dj:decide (((2+j:Nat):Int)<(S.length:Int))=false:=ψ (by omega);have e:j=cU neB (S.drop 2):=by omega
    refine aA (aA (agN [(4,.bv false),(11,.bv false)] rfl (aB rfl (fun hb=>absurd hb (by decide)) (fun _=>?_))));rw[←e];exact aH (sg rfl (aE rtT))
  ·have hp:¬preB [45,45] S=true:=by
    unfold preB;have hb:decide (S.take 2=[45,45])=false:=hb;rw[show([45,45]:Str).length=2 from rfl,hb,Bool.and_false];exact ω
   rw[ξ hp];exact aD (sg rfl (aE rtT))
 ·have dl:decide ((1:Int)<(S.length:Int))=false:=ψ (by omega);have hp:¬preB [45,45] S=true:=by
   unfold preB;rw[ψ (show ¬([45,45]:Str).length≤S.length from B),Bw];exact ω
  rw[ξ hp];exact aA (sgh [(3,.bv false),(7,.bv false)] rfl (aB rfl (fun hb=>absurd hb (by decide)) (fun _=>aD (sg rfl (aE rtT)))))
end Go.Proofs.YtpmheldmadendaaGreatDoor
namespace Go.AM
open Go
section
variable {fn:Func}{st:St}{hin hout:List (Nat×AObj)}{res res2 res3:V}
theorem yH {tr:Tr}{a t u:Nat}{i:TI}{id off tv:Nat}{cells:List R}{v v2:V}{ids j:List Nat}(hw:tr.wf=true) (r:fn.results.toList=[.cell a t,.tmp u]:=by rfl) (hi:tr.get t=some i:=by rfl) (ha:st.e a=some (.one (.vp id off)):=by rfl) (hh:st.h id=some (.var tv cells):=by rfl) (hb:Nat.ble (off+i.size) cells.length=true:=by rfl) (y:iS i ((cells.drop off).take i.size)=some v:=by rfl) (hu:st.e u=some v2:=by rfl)
  (hc:Conv st.h ids v res:=by first | exact .refl | exact .one (.c .nl .nil) | ((first | apply Go.AM.Conv.pa | apply Go.AM.Conv.agg);repeat (first | exact .nil | apply Go.AM.PureL.c .refl | apply Go.AM.PureL.c .nl | (apply Go.AM.PureL.hs;rfl;(first | rfl | assumption | simp);(first | rfl | exact Go.AM.take_all (by first | assumption | rfl | (simp;done)) | exact Go.AM.take_map.symm)))))
  (q:Conv st.h j v2 res2:=by exact .refl)
  (ho:fH (fun p=>∃o,st.h p.1=some o∧Ole (fun i=>i) o p.2) hout:=by repeat (first | exact trivial | refine⟨⟨_,rfl,by first | exact Go.AM.Ole.arr | exact Go.AM.Ole.var rfl | exact Go.AM.Ole.varS rfl⟩,?_⟩))
  (hok:(subset (V.tup [res,res2]).refs (keys hout)&&subset (fI hout) (keys hout)&&distinct (keys hout)&&subset (keys hin) (keys hout)&&(hin.all fun p=>p.2.plain)&&(hout.all fun p=>p.2.plain))=true:=by rfl):(Exit.ret=.normal∨Exit.ret=.ret)∧Fin tr.flat fn st hin (.tup [res,res2]) hout:=
 ⟨.inr rfl,⟨[v,v2],[res,res2],by rw[r];exact .cell ha (Tr.get_ok hw hi) hh hb y (.tmp hu .nil),.cons hc (.cons q .nil),rfl⟩,ho,hok⟩
end
end Go.AM
namespace Go.Proofs.YtpmheldmadendaaGreatDoor
open Go Go.AM
set_option maxRecDepth 20000
set_option maxHeartbeats 4000000
theorem kQ {ro:Option Nat}{P:Program}{n:Nat}{kf:List Nat}{x y:Code}{st:St}{Q:Exit→St→Prop}(σ:St) (h:AWp ro P n kf x st (fun ex st'=>(ex=.normal∧Sub kf σ st')∨(¬ex=.normal∧Q ex st'))) (k:AWp ro P n kf y σ Q):AWp ro P n kf (.seq x y) st Q:=
 aA (h.post fun ex st' q=>by
  rcases q with⟨rfl,q⟩ | ⟨c,q⟩
  ·exact⟨σ,q,k⟩
  ·refine⟨st',fun G n S μ a w j hs=>⟨S,μ,hs⟩,?_⟩;cases ex with
   | normal=>exact absurd rfl c
   | _=>exact q)
theorem aPo {k:Int}(h:¬k<3000000000):∀l:Str,kR l k=k
 | []=>rfl
 | _::_=>by rw[kR,ξ h]
theorem aNd:b8 Tryz.prog 194 [] [] (.one (.c (.sl 1 (pW.map bE)))) []:=by
 refine bM (n:=2) tok Tryz.func194 rfl rfl rfl ?_;exact sg rfl (sgh [(0,.all)] rfl (aE rtT))
theorem aQb (c:UInt8) (r:Str) (hl:r.length≤4000):b8 Tryz.prog 152 [Go.AM.T (c::r)] [] (aTe (o8 (c::r))) []:=by
 have ac:=aF6 c.toNat;refine bM (n:=108) tok Tryz.func152 rfl rfl rfl ?_;refine sg rfl (sg rfl (aA (skh 2 [(1,.byte 0 c)] rfl (kc ac ?_))));refine az ?_;have h0:(c::r)[0]?=some c:=rfl;have hSl:(c::r).length≤4001:=by rw[ε];omega
 have hS1:1≤(c::r).length:=by rw[ε];omega
 refine aB rfl (fun hb=>?_) (fun hb=>?_)
 ·have u:o8 (c::r)=if 2147483647<kR ((c::r).take (cU dgB (c::r))) 0 then .error 11 else .ok (3,(c::r).take (cU dgB (c::r)),kR ((c::r).take (cU dgB (c::r))) 0):=by
   rw[o8,θ hb]
  rw[u];clear u;generalize c::r=S at *;have hW:=iT dgB S;refine kQ (mk [(0,Go.AM.T S),(2,.one (.vp 2 0)),(4,I .i64 (cU dgB S:Nat))] [(2,.var 152 (aCx.map .c))]) ?_ ?_
  ·refine aF (aK (fun j:Nat=>mk [(0,Go.AM.T S),(2,.one (.vp 2 0)),(4,I .i64 j)] [(2,.var 152 (aCx.map .c))]) (fun j=>j≤cU dgB S) (fun j=>cU dgB S-j) 0 (Ac _) sl ?_);intro j O;by_cases U:j<S.length
   ·obtain⟨d,A⟩:=aN U;have E:=lP dgB S j O d A;have Y:=aF6 d.toNat;have q:decide ((j:Int)<(S.length:Int))=true:=φ (by omega);have J:(if(S.length:Int)-1<(j:Int) then(S.length:Int)-1 else(j:Int))=(j:Int):=ξ (by omega);refine aA (skh 12 [(4,.bv true),(11,.byte j d)] rfl (kcG Y ?_) (hc:=⟨⟨J,A⟩,q,q,⟨by omega,by omega⟩,q,q,q,q,q,trivial⟩));refine ak 1 [(4,.bv true),(13,.bv true)] rfl (az (aB rfl (fun hb=>?_) (fun hb=>?_)))
    ·exact aD (aF (ag [] rfl ⟨j+1,E.1 hb,by dsimp only;have:=E.1 hb;omega,sl⟩))
    ·have e:j=cU dgB S:=by
      have:¬j<cU dgB S:=fun h=>by rw[E.2 h] at hb;cases hb
      omega
     refine aH ?_;rw[←e];exact .inl ⟨rfl,sl⟩
   ·have e:j=cU dgB S:=by omega
    have q:decide ((j:Int)<(S.length:Int))=false:=ψ (by omega);refine aA (sgh [(4,.bv false),(13,.bv false)] rfl (aB rfl (fun hb=>absurd hb (by decide)) (fun _=>aH ?_)));rw[←e];exact .inl ⟨rfl,sl⟩
  ·have ai:∀(j:Nat) (d:UInt8),j<cU dgB S→S[j]?=some d→48≤d.toNat∧d.toNat≤57:=fun j d O A=>χ ((lP dgB S j (by omega) d A).2 O)
   have aj:(S.take (cU dgB S)).length=cU dgB S:=by rw[Am];omega
   generalize cU dgB S=N at *;refine sg rfl (kQ (mk [(0,Go.AM.T S),(2,.one (.vp 2 0)),(4,I .i64 (N:Nat)),(5,I .i64 (kR (S.take N) 0))] [(2,.var 152 (aCx.map .c))]) ?_ ?_)
   ·refine sg rfl (aF (aK (fun p:Nat×Int=>mk [(0,Go.AM.T S),(2,.one (.vp 2 0)),(4,I .i64 (N:Nat)),(5,I .i64 p.2),(6,I .i64 p.1)] [(2,.var 152 (aCx.map .c))]) (fun p=>p.1≤N∧0≤p.2∧p.2≤30000000300∧kR ((S.take N).drop p.1) p.2=kR (S.take N) 0) (fun p=>N-p.1) (0,0) ⟨Ac _,by decide,by decide,rfl⟩ sl ?_));rintro⟨i,k⟩ ⟨hi,al,am,M⟩;dsimp only at hi al am M ⊢;by_cases aa:i<N
    ·have d1:decide ((i:Int)<(N:Int))=true:=φ (by omega);refine aA (sgh [(3,.bv true),(6,.bv true)] rfl (aB rfl (fun hb=>?_) (fun hb=>?_)))
     ·have ab:=χ hb;obtain⟨d,A⟩:=aN (l:=S) (k:=i) (by omega);obtain⟨g1,g2⟩:=ai i d aa A;have hw:IntKind.wrap .i64 (d.toNat:Int)=(d.toNat:Int):=Bv _ (by omega);have an:(S.take N).drop i=d::(S.take N).drop (i+1):=by
       obtain⟨q1,q2⟩:=Af.1 (show(S.take N)[i]?=some d by rw[Aj,θ aa];exact A);rw[Aw q1,q2]
      rw[an,kR,θ ab,show k*10+((d.toNat:Int)-48)=k*10+(d.toNat:Int)-48 by omega] at M;refine aD (aA (aF (ag [(4,.byte i d)] rfl ?_ (hc:=⟨⟨by rw[hw];omega,by rw[hw];omega⟩,⟨by rw[hw];omega,by rw[hw];omega⟩,⟨rfl,A⟩,⟨by omega,by omega⟩,trivial⟩))));rw[hw];exact ag [] rfl ⟨(i+1,k*10+(d.toNat:Int)-48),⟨aa,by dsimp only;omega,by dsimp only;omega,M⟩,by dsimp only;omega,sl⟩
     ·have ab:=Ad hb;rw[aPo ab] at M;refine aH ?_;rw[←M];exact .inl ⟨rfl,sl⟩
    ·have e:i=N:=by omega
     have d1:decide ((i:Int)<(N:Int))=false:=ψ (by omega);rw[e,drop_eq_nil_of_le (by rw[aj];exact le_refl _),kR] at M;refine aA (sgh [(3,.bv false),(6,.bv false)] rfl (aB rfl (fun hb=>absurd hb (by decide)) (fun _=>aH ?_)));rw[←M];exact .inl ⟨rfl,sl⟩
   ·generalize kR (S.take N) 0=K;refine aA (sg rfl (aB rfl (fun hb=>?_) (fun hb=>?_)))
    ·rw[θ (χ hb)];exact sg rfl (aE (yH trw))
    ·rw[ξ (Ad hb)];exact aD (sg rfl (aE (yH trw)))
 ·have u:o8 (c::r)=if wiB c.toNat 97 122=true∨wiB c.toNat 65 90=true then s9 (c::r) (wiB c.toNat 65 90) else if rM (c::r)=[] then .error 10 else .ok (4,rM (c::r),0):=by
   rw[o8,ξ (by rw[hb];exact ω)]
  rw[u];clear u;have ad:=aJr c;have ae:=aJp c;have ap:=aI3 (c::r);have af:(c::r).take 1=[c]:=rfl;generalize c::r=S at *;refine aD (sk 2 rfl ?_);rw[af];refine kc ad ?_;refine kz 1 rfl (sk 2 rfl ?_);rw[af];refine kc ae ?_;refine kz 1 rfl ?_;generalize wiB c.toNat 65 90=up at *;generalize wiB c.toNat 97 122=lo at *;by_cases hn:lo=true∨up=true
  ·rw[θ hn];have aq:=aNd;have ar:=aJf pW (S.take (cU sgB S)) (by unfold Fits;decide);have ah:(bif lo then true else up)=true:=by
    rcases hn with h | h
    ·rw[h];rfl
    ·rw[h];cases lo<;>rfl
   refine aA (aA (agF 2 [] rfl rfl rfl (aB rfl (fun _=>AWp.sub (st2:=mk [(0,Go.AM.T S),(2,.one (.vp 2 0)),(4,I .i64 0),(8,B up)] [(2,.var 152 (aCx.map .c))]) sl ?_) (fun hb=>absurd (hb.symm.trans ah) (by decide)))));clear ah hn ad ae ac;have hW:=iT sgB S;refine kQ (mk [(0,Go.AM.T S),(2,.one (.vp 2 0)),(4,I .i64 (cU sgB S:Nat)),(8,B up)] [(2,.var 152 (aCx.map .c))]) ?_ ?_
   ·refine aF (aK (fun j:Nat=>mk [(0,Go.AM.T S),(2,.one (.vp 2 0)),(4,I .i64 j),(8,B up)] [(2,.var 152 (aCx.map .c))]) (fun j=>j≤cU sgB S) (fun j=>cU sgB S-j) 0 (Ac _) sl ?_);intro j O;by_cases U:j<S.length
    ·obtain⟨d,A⟩:=aN U;have E:=lP sgB S j O d A;have Y:=aP7 d.toNat;have q:decide ((j:Int)<(S.length:Int))=true:=φ (by omega);have J:(if(S.length:Int)-1<(j:Int) then(S.length:Int)-1 else(j:Int))=(j:Int):=ξ (by omega);refine aA (skh 12 [(4,.bv true),(11,.byte j d)] rfl (kcG Y ?_) (hc:=⟨⟨J,A⟩,q,q,⟨by omega,by omega⟩,q,q,q,q,q,trivial⟩));refine ak 1 [(4,.bv true),(13,.bv true)] rfl (az (aB rfl (fun hb=>?_) (fun hb=>?_)))
     ·exact aD (aF (ag [] rfl ⟨j+1,E.1 hb,by dsimp only;have:=E.1 hb;omega,sl⟩))
     ·have e:j=cU sgB S:=by
       have:¬j<cU sgB S:=fun h=>by rw[E.2 h] at hb;cases hb
       omega
      refine aH ?_;rw[←e];exact .inl ⟨rfl,sl⟩
    ·have e:j=cU sgB S:=by omega
     have q:decide ((j:Int)<(S.length:Int))=false:=ψ (by omega);refine aA (sgh [(4,.bv false),(13,.bv false)] rfl (aB rfl (fun hb=>absurd hb (by decide)) (fun _=>aH ?_)));rw[←e];exact .inl ⟨rfl,sl⟩
   ·unfold s9;generalize cU sgB S=N at *;refine aA (sg rfl (aB rfl (fun hb=>?_) (fun hb=>?_)))
    ·rw[θ (by have:=χ hb;omega)];exact sg rfl (aE (yH trw))
    rw[ξ (by have:=Ad hb;omega)];refine aD (aA (sg rfl (aB rfl (fun hb=>?_) (fun hb=>?_))))
    ·rw[θ hb];exact sg rfl (aE (yH trw))
    rw[ξ (by rw[hb];exact ω)];refine aD ?_;generalize pW=L at *;refine aA (aA (aC mixed (kc aq ?_)));refine akN 3 [] rfl (kc ar ?_);refine az (aB rfl (fun hb=>?_) (fun hb=>?_))
    ·rw[θ (χ hb)];exact sg rfl (aE (yH trw))
    ·rw[ξ (Ad hb)];exact aD (sg rfl (aE (yH trw)))
  ·rw[ξ hn];have h1:lo=false:=by cases lo<;>simp at hn ⊢
   have h2:up=false:=by cases up<;>simp at hn ⊢
   subst h1 h2;refine aA (sgh [(1,.bv false),(3,.bv false)] rfl (aB rfl (fun hb=>absurd hb (by decide)) (fun _=>aD (sk 1 rfl (kc ap ?_)))));refine kz 1 rfl ?_;generalize rM S=y at *;refine aA (sg rfl (aB rfl (fun hb=>?_) (fun hb=>?_)))
   ·rw[θ (χ hb)];exact sg rfl (aE (yH trw))
   ·rw[ξ (Ad hb)];exact aD (sg rfl (aE (yH trw)))
end Go.Proofs.YtpmheldmadendaaGreatDoor
