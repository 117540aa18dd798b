/-
  Texts Am27 to Rd7 in one.
-/
import Derived.Test.YtkhgpgihmphfdaaGreatM5
import Derived.Test.YtkhgpgihmphfdaaGreatProg
import Derived.KernelRfl
import Derived.Laws.RangeString
import Derived.Lib.OthersKept
import Derived.LoopTactic
import Derived.Tactics2
import Derived.Shelf.Spec.SlicesGrow
import Derived.Laws.Runes
import Derived.OpenShut
import Derived.Laws.MakeOwn
import Derived.Lib.Bytealg
import Derived.IntWalk
open List (cons_append drop_append drop_eq_getElem_cons drop_eq_nil_of_le drop_zero eq_nil_of_length_eq_zero flatten_cons length_cons length_drop length_map length_nil length_replicate length_take map_cons mem_cons mem_cons_of_mem mem_cons_self mem_map nil_append replicate_succ take_add_one take_append_drop take_length take_of_length_le)
open Nat (beq_refl eq_of_beq_eq_true le_refl le_trans lt_of_lt_of_le min_eq_left mul_one sub_self zero_le)
namespace Go.AM
open Go
theorem Ole.arrS {σ:Nat→Nat}{te es fz:Nat}{l l':List (List C)}(h:l=l'):Ole σ (.arr te es l fz) (.arr te es l' fz):=by subst h;exact .arr
theorem hs_ren {id off a b g q:Nat}(h:a=g) (k:b=q):some (V.one (.hs id off a b))=some (V.ren (fun i=>i) (V.one (.hs id off g q))):=by subst h;subst k;rfl
theorem sl {kf:List Nat}{g:St}{q:List (Nat×V)}{hl:List (Nat×AObj)}
  (he:eF (fun p=>g.e p.1=some (p.2.ren (fun i=>i))) q:=by repeat (first | exact trivial | refine⟨by first | rfl | exact Go.AM.hs_ren (by first | (simp;done) | (simp;omega)) (by first | (simp;done) | (simp;omega)),?_⟩))
  (hh:eF (fun p=>∃o,g.h p.1=some o∧Ole (fun i=>i) o p.2) hl:=by repeat (first | exact trivial | refine⟨⟨_,rfl,by first | exact Go.AM.Ole.arr | exact Go.AM.Ole.var rfl | exact Go.AM.Ole.map | exact Go.AM.Ole.rarr rfl | exact Go.AM.Ole.arr1 | exact Go.AM.Ole.arrS (by first | assumption | (simp;done) | (simp;rfl) | (simp;omega)) | exact Go.AM.Ole.arrE (by first | assumption | (simp;done) | (simp;rfl) | (simp;omega)) | exact Go.AM.Ole.var (by first | (simp[Go.AM.R.renL,Go.AM.R.ren];done) | (simp[Go.AM.R.renL,Go.AM.R.ren];omega)) | exact Go.AM.Ole.mapE (by first | assumption | (simp;done) | (simp;rfl) | (simp;omega))⟩,?_⟩))
  (hok:(aUy kf (fun i=>i) q hl&&eqL [] g.d)=true:=by rfl):Sub kf (mk q hl) g:=Sub.list (fun i=>i) he hh hok
theorem take_all {α:Type}{l:List α}{n:Nat}(h:n=l.length):l=(l.drop 0).take n:=by rw[h,B0,Ao]
theorem ltD {i n:Nat}{l:List (List C)}(h:decide ((i:Int)<(l.length:Int))=true) (e:l.length=n):i<n:=by
 have:(i:Int)<(l.length:Int):=by simpa using h
 omega
theorem geD {i n:Nat}{l:List (List C)}(h:decide ((i:Int)<(l.length:Int))=false) (e:l.length=n) (hi:i≤n):i=n:=by
 have:¬(i:Int)<(l.length:Int):=by simpa using h
 omega
section
variable {T:TT}{fn:Func}{st:St}{hin hout:List (Nat×AObj)}{res:V}
theorem rtT {t:Nat}{v:V}{ids:List Nat}(g:fn.results.toList=[.tmp t]:=by rfl) (q:st.e t=some v:=by rfl)
  (hc:Conv st.h ids v res:=by first | exact .refl | exact .one (.c .nl .nil) | ((first | apply Go.AM.Conv.pa | apply Go.AM.Conv.agg);repeat (first | exact .nil | apply Go.AM.PureL.c .refl | apply Go.AM.PureL.c .nl | (apply Go.AM.PureL.hs;rfl;(first | rfl | assumption | simp);(first | rfl | exact Go.AM.take_all (by first | assumption | rfl | (simp;done)) | exact Go.AM.take_map.symm)))))
  (ho:eF (fun p=>∃o,st.h p.1=some o∧Ole (fun i=>i) o p.2) hout:=by repeat (first | exact trivial | refine⟨⟨_,rfl,by first | exact Go.AM.Ole.arr | exact Go.AM.Ole.var rfl | exact Go.AM.Ole.map | exact Go.AM.Ole.rarr rfl | exact Go.AM.Ole.arr1 | exact Go.AM.Ole.arrS (by first | assumption | (simp;done) | (simp;rfl) | (simp;omega)) | exact Go.AM.Ole.arrE (by first | assumption | (simp;done) | (simp;rfl) | (simp;omega)) | exact Go.AM.Ole.var (by first | (simp[Go.AM.R.renL,Go.AM.R.ren];done) | (simp[Go.AM.R.renL,Go.AM.R.ren];omega)) | exact Go.AM.Ole.mapE (by first | assumption | (simp;done) | (simp;rfl) | (simp;omega))⟩,?_⟩))
  (hok:(subset res.refs (keys hout)&&subset (eG hout) (keys hout)&&distinct (keys hout)&&subset (keys hin) (keys hout)&&(hin.all fun p=>p.2.plain)&&(hout.all fun p=>p.2.plain))=true:=by rfl):(Exit.ret=.normal∨Exit.ret=.ret)∧Fin T fn st hin res hout:=
 ⟨.inr rfl,⟨[v],[res],by rw[g];exact .tmp q .nil,.cons hc .nil,rfl⟩,ho,hok⟩
theorem rtC {tr:Tr}{a t:Nat}{i:TI}{id off tv:Nat}{cells:List R}{v:V}{ids:List Nat}(hw:tr.wf=true) (g:fn.results.toList=[.cell a t]:=by rfl) (hi:tr.get t=some i:=by rfl) (ha:st.e a=some (.one (.vp id off)):=by rfl) (hh:st.h id=some (.var tv cells):=by rfl) (hb:Nat.ble (off+i.size) cells.length=true:=by rfl) (q:iU i ((cells.drop off).take i.size)=some v:=by rfl)
  (hc:Conv st.h ids v res:=by first | exact .refl | exact .one (.c .nl .nil) | ((first | apply Go.AM.Conv.pa | apply Go.AM.Conv.agg);repeat (first | exact .nil | apply Go.AM.PureL.c .refl | apply Go.AM.PureL.c .nl | (apply Go.AM.PureL.hs;rfl;(first | rfl | assumption | simp);(first | rfl | exact Go.AM.take_all (by first | assumption | rfl | (simp;done)) | exact Go.AM.take_map.symm)))))
  (ho:eF (fun p=>∃o,st.h p.1=some o∧Ole (fun i=>i) o p.2) hout:=by repeat (first | exact trivial | refine⟨⟨_,rfl,by first | exact Go.AM.Ole.arr | exact Go.AM.Ole.var rfl | exact Go.AM.Ole.map | exact Go.AM.Ole.rarr rfl | exact Go.AM.Ole.arr1 | exact Go.AM.Ole.arrS (by first | assumption | (simp;done) | (simp;rfl) | (simp;omega)) | exact Go.AM.Ole.arrE (by first | assumption | (simp;done) | (simp;rfl) | (simp;omega)) | exact Go.AM.Ole.var (by first | (simp[Go.AM.R.renL,Go.AM.R.ren];done) | (simp[Go.AM.R.renL,Go.AM.R.ren];omega)) | exact Go.AM.Ole.mapE (by first | assumption | (simp;done) | (simp;rfl) | (simp;omega))⟩,?_⟩))
  (hok:(subset res.refs (keys hout)&&subset (eG hout) (keys hout)&&distinct (keys hout)&&subset (keys hin) (keys hout)&&(hin.all fun p=>p.2.plain)&&(hout.all fun p=>p.2.plain))=true:=by rfl):(Exit.ret=.normal∨Exit.ret=.ret)∧Fin tr.flat fn st hin res hout:=
 ⟨.inr rfl,⟨[v],[res],by rw[g];exact .cell ha (Tr.get_ok hw hi) hh hb q .nil,.cons hc .nil,rfl⟩,ho,hok⟩
end
end Go.AM
namespace Go.AM
open Go
theorem oG {id:Nat}{o:AObj}{hin:List (Nat×AObj)}:look ((id,o)::hin)=upd (look hin) id (some o):=by
 funext i;by_cases h:i=id
 ·subst h;rw[aH,dA]
 ·rw[aW _ _ _ h,dZ h]
theorem Inv.emptyZ {G:Ctx}{S:Sto}{μ:Mu}{H:bX}{w:World}{id:Nat}(te es z:Nat) (h:Inv G S μ H w) (A:H id=none):Inv G S (upd μ id none) (upd H id (some (.arr te es [] z))) w∧Evolve S μ H S (upd μ id none) (upd H id (some (.arr te es [] z))):=by
 have y:Evolve S μ H S (upd μ id none) (upd H id (some (.arr te es [] z))):=dR A _ _;refine⟨⟨h.holds,fun j x g=>?_,fun i j x B b c c' hi g hm q=>?_,fun i x b c hi hm=>?_,h.frame,h.sle,h.sto,h.evo.trans y,h.fre⟩,y⟩
 ·by_cases u:j=id
  ·subst u;rw[aH] at g;cases g;exact⟨by simp,.inl ⟨aH _ _ _,rfl⟩⟩
  ·rw[aW _ _ _ u] at g;exact(h.obj j x g).evolve y (aW _ _ _ u) fun _ _ _=>⟨rfl,fun _=>rfl,rfl⟩
 ·have h1:i≠id:=fun e=>by subst e;rw[aH] at hm;cases hm
  have h2:j≠id:=fun e=>by subst e;rw[aH] at q;cases q
  rw[aW _ _ _ h1] at hi hm;rw[aW _ _ _ h2] at g q;exact h.inj i j x B b c c' hi g hm q
 ·have h1:i≠id:=fun e=>by subst e;rw[aH] at hm;cases hm
  rw[aW _ _ _ h1] at hi hm;exact h.own i x b c hi hm
theorem aV.nilArg {P:Program}{f:FuncId}{pre post:List V}{hin hout:List (Nat×AObj)}{res:V}{id te es z:Nat}(h:aV P f (pre++ .one (.hs id 0 0 0)::post) ((id,.arr te es [] z)::hin) res hout) (A:look hin id=none):aV P f (pre++ .one (.c .nl)::post) hin res hout:=by
 intro S μ w vals M O;obtain⟨hi,B⟩:=M.emptyZ te es z A;have E:i3 (upd μ id none) (look ((id,.arr te es [] z)::hin))=i3 μ (look hin):=by
  funext b;rw[oG];refine propext ⟨?_,?_⟩
  ·rintro⟨j,o,c,h1,h2⟩;by_cases q:j=id
   ·subst q;rw[aH] at h2;cases h2
   ·rw[aW _ _ _ q] at h1 h2;exact⟨j,o,c,h1,h2⟩
  ·rintro⟨j,o,c,h1,h2⟩;have q:j≠id:=fun e=>by subst e;rw[A] at h1;cases h1
   exact⟨j,o,c,by rw[aW _ _ _ q];exact h1,by rw[aW _ _ _ q];exact h2⟩
 have I:Inv ⟨w,S,i3 (upd μ id none) (look ((id,.arr te es [] z)::hin)),upd μ id none,look ((id,.arr te es [] z)::hin)⟩ S (upd μ id none) (look ((id,.arr te es [] z)::hin)) w:=by
  rw[E,oG];exact⟨hi.holds,hi.obj,hi.inj,hi.own,hi.frame,hi.sle,hi.sto,Evolve.refl _ _ _,hi.fre⟩
 have J:aT S (upd μ id none) (look ((id,.arr te es [] z)::hin)) (pre++ .one (.hs id 0 0 0)::post) vals:=by
  rw[oG];have key:∀(l:List V) (us:List Value),aT S μ (look hin) (l++ .one (.c .nl)::post) us→aT S (upd μ id none) (upd (look hin) id (some (.arr te es [] z))) (l++ .one (.hs id 0 0 0)::post) us:=by
   intro l
   induction l with
   | nil=>
    intro us hu;simp only[A2,aT] at hu ⊢;obtain⟨u,g,h1,h2,y⟩:=hu;refine⟨u,g,h1,?_,aT.evolve B _ _ y⟩;simp only[aN,aY,Rep] at h2 ⊢;exact⟨⟨_,_,_,h2⟩,.inr ⟨te,es,[],z,aH _ _ _,le_refl _,fun _=>⟨le_refl _,.inl ⟨aH _ _ _,rfl,h2⟩⟩⟩⟩
   | cons x l U=>
    intro us hu;simp only[A4,aT] at hu ⊢;obtain⟨u,g,h1,h2,y⟩:=hu;exact⟨u,g,h1,aN.evolve B _ _ h2,U g y⟩
  exact key pre vals O
 refine Calls.mono (h S (upd μ id none) w vals I J) ?_;rintro e w' ⟨S',μ',v,h1,h2,y⟩;refine⟨S',μ',v,h1,?_,y⟩;rw[E] at h2;refine⟨h2.holds,h2.obj,h2.inj,h2.own,h2.frame,h2.sle,h2.sto,B.trans ?_,h2.fre⟩;have:=h2.evo;rwa [oG] at this
theorem aV.sub {P:Program}{f:FuncId}{args:List V}{hin hout u:List (Nat×AObj)}{res q:V}(h:aV P f args hin res hout) (hs:Sub (keys hin) (mk [(0,q)] u) (mk [(0,res)] hout)):aV P f args hin q u:=by
 intro S μ w vals B E;refine Calls.mono (h S μ w vals B E) ?_;rintro e w' ⟨S',μ',v,h1,h2,I⟩;have A:Ctx.keeps ⟨w,S,i3 μ (look hin),μ,look hin⟩ (keys hin):=pI
 obtain⟨S2,J,g⟩:=hs _ 1 S' μ' ⟨#[v],[]⟩ w' A ⟨h2,rfl,rfl,fun t y e=>by
  simp only[mk,look] at e;split at e
  ·rename_i hb;cases e;rw[δ hb];exact I
  ·cases e⟩
 exact⟨S2,J,v,h1,g.inv,g.env 0 q rfl⟩
theorem aV.plain {P:Program}{f:FuncId}{args:List V}{id te es n:Nat}{rows:List (List C)}{fz:Nat}(h:aV P f args [] (.one (.hs id 0 n n)) [(id,.arr te es rows fz)]) (hn:n=rows.length):aV P f args [] (.one (.c (.sl es rows))) []:=by
 refine h.sub ?_;have h1:Sub [] ⟨look [(0,V.one (.hs id 0 n n))],upd (look [(id,AObj.arr te es rows fz)]) id (some (.arr te es rows 2)),[]⟩ (mk [(0,.one (.hs id 0 n n))] [(id,.arr te es rows fz)]):=Sub.freeze (st:=mk [(0,.one (.hs id 0 n n))] [(id,.arr te es rows fz)]) dA;refine Sub.trans (Sub.trans ?_ (Sub.conv (t:=0) (v:=.one (.hs id 0 n n)) rfl (hs_all (aH _ _ _) rfl hn rfl))) h1;exact Sub.list (fun i=>i) ⟨rfl,trivial⟩ trivial rfl
theorem Sub.varPure {kf:List Nat}{st:St}{x tv:Nat}{cells:List R}{ids:List Nat}{cs:List C}(h:st.h x=some (.var tv cells)) (hp:PureL st.h ids cells cs):Sub kf ⟨st.e,upd st.h x (some (.var tv (cs.map R.c))),st.d⟩ st:=by
 intro G n S μ a w _ hs;have hi:=hs.inv;obtain⟨b,vs,J,M,O,U⟩:=hi.obj x _ h
 have u:Evolve S μ st.h S μ (upd st.h x (some (.var tv (cs.map R.c)))):=⟨S.le_refl,fun j y q=>by
  by_cases g:j=x
  ·subst g;rw[h] at q;cases q;exact⟨_,aH _ _ _,by simp[AObj.succ]⟩
  ·exact⟨y,by rw[aW _ _ _ g];exact q,y.succ_refl rfl⟩⟩
 have hold:∀j y,upd st.h x (some (.var tv (cs.map R.c))) j=some y→∃E,st.h j=some E:=fun j y q=>by
  by_cases g:j=x
  ·subst g;exact⟨_,h⟩
  ·rw[aW _ _ _ g] at q;exact⟨_,q⟩
 refine⟨S,μ,⟨⟨hi.holds,fun j y q=>?_,fun i j y E b c c' A q hm I=>?_,fun i y b c A hm=>?_,hi.frame,hi.sle,hi.sto,hi.evo.trans u,hi.fre⟩,hs.size,hs.defers.evolve u,fun s v e=>aN.evolve u v _ (hs.env s v e)⟩⟩
 ·by_cases g:j=x
  ·subst g;have B:some (AObj.var tv (cs.map R.c))=some y:=by rw[←q];exact(aH _ _ _).symm
   cases B;exact⟨b,vs,J,M,(hp.rel (fun _ _=>rfl) hi.obj O).toR,U⟩
  ·have B:st.h j=some y:=by rw[←q];exact(aW _ _ _ g).symm
   exact(hi.obj j y B).evolve u rfl fun _ _ _=>⟨rfl,fun _=>rfl,rfl⟩
 ·obtain⟨_,h1⟩:=hold _ _ A;obtain⟨_,h2⟩:=hold _ _ q;exact hi.inj i j _ _ b c c' h1 h2 hm I
 ·obtain⟨_,h1⟩:=hold _ _ A;exact hi.own i _ b c h1 hm
theorem vp {kf:List Nat}{st:St}(x:Nat) {tv:Nat}{cells:List R}(cs:List C) {ids:List Nat}(h:st.h x=some (.var tv cells):=by rfl)
  (hp:PureL st.h ids cells cs:=by repeat (first | exact .nil | apply Go.AM.PureL.c .refl | apply Go.AM.PureL.c .nl | apply Go.AM.PureL.c .sn | (apply Go.AM.PureL.hs;rfl;(first | rfl | assumption | (simp;done) | (simp;omega));(first | rfl | exact Go.AM.take_all (by first | assumption | rfl | (simp;done) | (simp;omega)) | exact Go.AM.take_map.symm)))):Sub kf ⟨st.e,upd st.h x (some (.var tv (cs.map R.c))),st.d⟩ st:=Sub.varPure h hp
theorem cv {kf:List Nat}{st:St}(t:Nat) {id te es n sz:Nat}{l:List (List C)}(l':List (List C)) (h:st.e t=some (.one (.hs id 0 n sz)):=by rfl) (hh:st.h id=some (.arr te es l 2):=by rfl) (h1:n=l.length:=by first | rfl | assumption | (simp;done) | (simp;omega)) (h2:sz=l.length:=by first | rfl | assumption | (simp;done) | (simp;omega)) (g:l=l':=by first | rfl | assumption | (simp;done)):Sub kf ⟨upd st.e t (some (.one (.c (.sl es l')))),st.h,st.d⟩ st:=by
 subst g;exact Sub.conv h (.one (.hs hh h2 (by rw[h1,B0,Ao]) .nil))
end Go.AM
namespace Go.Proofs.YtkhgpgihmphfdaaGreat
open Go Go.AM
def zl_:Tr:=.leaf none
def zl0:Tr:=.leaf (some ⟨.fn,1,8,[.zv 1]⟩)
def zl1:Tr:=.leaf (some ⟨.int .i64,1,8,[.int .i64 0]⟩)
def zl2:Tr:=.leaf (some ⟨.int .u8,1,1,[.int .u8 0]⟩)
def zl3:Tr:=.leaf (some ⟨.int .u64,1,8,[.int .u64 0]⟩)
def zl4:Tr:=.leaf (some ⟨.st [(0,9),(1,3)],2,24,[.str [],.int .i64 0]⟩)
def zl5:Tr:=.leaf (some ⟨.str,1,16,[.str []]⟩)
def zl6:Tr:=.leaf (some ⟨.int .i32,1,4,[.int .i32 0]⟩)
def zl7:Tr:=.leaf (some ⟨.st [(0,3),(1,9),(2,3),(3,3)],4,40,[.int .i64 0,.str [],.int .i64 0,.int .i64 0]⟩)
def tr:Tr:=
 .node 151 (.node 75 (.node 37 (.node 18 (.node 9 (.node 4 (.node 2 (.node 1 zl_ zl0) (.node 1 zl1 zl1)) (.node 2 (.node 1 (.leaf (some ⟨.bool,1,1,[.bool false]⟩)) zl2) (.node 1 zl2 (.node 1 (.leaf (some ⟨.st [(0,2),(1,3),(2,4),(3,6)],4,24,[.int .i64 0,.int .i64 0,.bool false,.int .u8 0]⟩)) (.leaf (some ⟨.st [(0,2),(1,3),(2,4),(3,6)],4,24,[.int .i64 0,.int .i64 0,.bool false,.int .u8 0]⟩)))))) (.node 4 (.node 2 (.node 1 zl5 zl5) (.node 1 zl5 zl3)) (.node 2 (.node 1 (.leaf (some ⟨.st [(0,9),(1,12)],2,24,[.str [],.int .u64 0]⟩)) (.leaf (some ⟨.st [(0,9),(1,12)],2,24,[.str [],.int .u64 0]⟩))) (.node 1 (.leaf (some ⟨.pt 289,1,8,[.np]⟩)) (.node 1 (.leaf (some ⟨.pt 292,1,8,[.np]⟩)) (.leaf (some ⟨.pt 301,1,8,[.np]⟩))))))) (.node 9 (.node 4 (.node 2 (.node 1 (.leaf (some ⟨.st [(0,17)],1,8,[.np]⟩)) (.leaf (some ⟨.st [(0,17)],1,8,[.np]⟩))) (.node 1 zl_ zl6)) (.node 2 (.node 1 (.leaf (some ⟨.sl 3,1,24,[.nl]⟩)) (.leaf (some ⟨.sl 35,1,24,[.nl]⟩))) (.node 1 (.leaf (some ⟨.sl 43,1,24,[.nl]⟩)) (.node 1 (.leaf (some ⟨.sl 103,1,24,[.nl]⟩)) (.leaf (some ⟨.sl 9,1,24,[.nl]⟩)))))) (.node 5 (.node 2 (.node 1 (.leaf (some ⟨.sl 115,1,24,[.nl]⟩)) (.leaf (some ⟨.sl 195,1,24,[.nl]⟩))) (.node 1 (.leaf (some ⟨.sl 31,1,24,[.nl]⟩)) (.node 1 (.leaf (some ⟨.st [(0,3),(1,3),(2,9),(3,29)],4,56,[.int .i64 0,.int .i64 0,.str [],.nl]⟩)) (.leaf (some ⟨.st [(0,3),(1,3),(2,9),(3,29)],4,56,[.int .i64 0,.int .i64 0,.str [],.nl]⟩))))) (.node 2 (.node 1 (.leaf (some ⟨.st [(0,26),(1,27),(2,28),(3,31)],7,128,[.nl,.nl,.nl,.int .i64 0,.int .i64 0,.str [],.nl]⟩)) (.leaf (some ⟨.st [(0,26),(1,27),(2,28),(3,31)],7,128,[.nl,.nl,.nl,.int .i64 0,.int .i64 0,.str [],.nl]⟩))) (.node 1 (.leaf (some ⟨.st [(0,3),(1,3),(2,3),(3,9),(4,23),(5,24),(6,25),(7,33),(14,29)],15,264,[.int .i64 0,.int .i64 0,.int .i64 0,.str [],.nl,.nl,.nl,.nl,.nl,.nl,.int .i64 0,.int .i64 0,.str [],.nl,.nl]⟩)) (.node 1 (.leaf (some ⟨.st [(0,3),(1,3),(2,3),(3,9),(4,23),(5,24),(6,25),(7,33),(14,29)],15,264,[.int .i64 0,.int .i64 0,.int .i64 0,.str [],.nl,.nl,.nl,.nl,.nl,.nl,.int .i64 0,.int .i64 0,.str [],.nl,.nl]⟩)) zl1)))))) (.node 19 (.node 9 (.node 4 (.node 2 (.node 1 (.leaf (some ⟨.st [(0,36),(1,3)],2,16,[.int .i64 0,.int .i64 0]⟩)) (.leaf (some ⟨.st [(0,36),(1,3)],2,16,[.int .i64 0,.int .i64 0]⟩))) (.node 1 zl_ zl0)) (.node 2 (.node 1 zl0 (.leaf (some ⟨.st [(0,3),(1,3),(2,3),(3,9),(4,24),(5,31),(9,29)],10,144,[.int .i64 0,.int .i64 0,.int .i64 0,.str [],.nl,.int .i64 0,.int .i64 0,.str [],.nl,.nl]⟩))) (.node 1 (.leaf (some ⟨.st [(0,3),(1,3),(2,3),(3,9),(4,24),(5,31),(9,29)],10,144,[.int .i64 0,.int .i64 0,.int .i64 0,.str [],.nl,.int .i64 0,.int .i64 0,.str [],.nl,.nl]⟩)) (.node 1 zl_ zl0)))) (.node 5 (.node 2 (.node 1 zl0 zl0) (.node 1 zl0 (.node 1 zl0 zl0))) (.node 2 (.node 1 zl0 zl0) (.node 1 zl0 (.node 1 zl0 (.leaf (some ⟨.pt 60,1,8,[.np]⟩))))))) (.node 9 (.node 4 (.node 2 (.node 1 zl0 zl0) (.node 1 (.leaf (some ⟨.sl 85,1,24,[.nl]⟩)) (.leaf (some ⟨.st [(0,58),(1,3),(2,38)],4,48,[.nl,.int .i64 0,.int .i64 0,.int .i64 0]⟩)))) (.node 2 (.node 1 (.leaf (some ⟨.st [(0,58),(1,3),(2,38)],4,48,[.nl,.int .i64 0,.int .i64 0,.int .i64 0]⟩)) zl0) (.node 1 (.leaf (some ⟨.pt 97,1,8,[.np]⟩)) (.node 1 zl0 zl0)))) (.node 5 (.node 2 (.node 1 zl0 zl0) (.node 1 (.leaf (some ⟨.sl 70,1,24,[.nl]⟩)) (.node 1 zl0 zl4))) (.node 2 (.node 1 zl4 (.leaf (some ⟨.sl 172,1,24,[.nl]⟩))) (.node 1 (.leaf (some ⟨.sl 118,1,24,[.nl]⟩)) (.node 1 (.leaf (some ⟨.sl 176,1,24,[.nl]⟩)) (.leaf (some ⟨.st [(0,71),(1,72),(2,73),(3,25)],4,96,[.nl,.nl,.nl,.nl]⟩))))))))) (.node 38 (.node 19 (.node 9 (.node 4 (.node 2 (.node 1 (.leaf (some ⟨.st [(0,71),(1,72),(2,73),(3,25)],4,96,[.nl,.nl,.nl,.nl]⟩)) zl_) (.node 1 zl0 zl0)) (.node 2 (.node 1 zl0 (.leaf (some ⟨.sl 22,1,24,[.nl]⟩))) (.node 1 zl0 (.node 1 zl_ zl0)))) (.node 5 (.node 2 (.node 1 zl7 zl7) (.node 1 zl0 (.node 1 zl0 zl0))) (.node 2 (.node 1 zl0 zl_) (.node 1 zl0 (.node 1 zl0 zl0))))) (.node 9 (.node 4 (.node 2 (.node 1 zl0 zl0) (.node 1 (.leaf (some ⟨.st [(0,22),(1,3)],2,32,[.nl,.int .i64 0]⟩)) (.leaf (some ⟨.st [(0,22),(1,3)],2,32,[.nl,.int .i64 0]⟩)))) (.node 2 (.node 1 zl_ zl0) (.node 1 zl0 (.node 1 zl0 (.leaf (some ⟨.st [(0,9),(1,3),(2,4),(3,33),(10,35),(25,33),(32,3)],33,560,[.str [],.int .i64 0,.bool false,.nl,.nl,.nl,.int .i64 0,.int .i64 0,.str [],.nl,.int .i64 0,.int .i64 0,.int .i64 0,.str [],.nl,.nl,.nl,.nl,.nl,.nl,.int .i64 0,.int .i64 0,.str [],.nl,.nl,.nl,.nl,.nl,.int .i64 0,.int .i64 0,.str [],.nl,.int .i64 0]⟩)))))) (.node 5 (.node 2 (.node 1 (.leaf (some ⟨.st [(0,9),(1,3),(2,4),(3,33),(10,35),(25,33),(32,3)],33,560,[.str [],.int .i64 0,.bool false,.nl,.nl,.nl,.int .i64 0,.int .i64 0,.str [],.nl,.int .i64 0,.int .i64 0,.int .i64 0,.str [],.nl,.nl,.nl,.nl,.nl,.nl,.int .i64 0,.int .i64 0,.str [],.nl,.nl,.nl,.nl,.nl,.int .i64 0,.int .i64 0,.str [],.nl,.int .i64 0]⟩)) zl0) (.node 1 zl0 (.node 1 zl0 (.leaf (some ⟨.pt 166,1,8,[.np]⟩))))) (.node 2 (.node 1 zl0 zl0) (.node 1 (.leaf (some ⟨.pt 136,1,8,[.np]⟩)) (.node 1 zl0 zl0)))))) (.node 19 (.node 9 (.node 4 (.node 2 (.node 1 (.leaf (some ⟨.sl 123,1,24,[.nl]⟩)) (.leaf (some ⟨.st [(0,27)],1,24,[.nl]⟩))) (.node 1 (.leaf (some ⟨.st [(0,27)],1,24,[.nl]⟩)) (.leaf (some ⟨.sl 121,1,24,[.nl]⟩)))) (.node 2 (.node 1 (.leaf (some ⟨.st [(0,9),(1,3),(2,9),(3,115),(4,26),(5,116)],6,112,[.str [],.int .i64 0,.str [],.nl,.nl,.nl]⟩)) (.leaf (some ⟨.st [(0,9),(1,3),(2,9),(3,115),(4,26),(5,116)],6,112,[.str [],.int .i64 0,.str [],.nl,.nl,.nl]⟩))) (.node 1 zl0 (.node 1 (.leaf (some ⟨.st [(0,9),(1,3),(2,33)],9,152,[.str [],.int .i64 0,.nl,.nl,.nl,.int .i64 0,.int .i64 0,.str [],.nl]⟩)) (.leaf (some ⟨.st [(0,9),(1,3),(2,33)],9,152,[.str [],.int .i64 0,.nl,.nl,.nl,.int .i64 0,.int .i64 0,.str [],.nl]⟩)))))) (.node 5 (.node 2 (.node 1 zl4 zl4) (.node 1 zl0 (.node 1 zl0 zl0))) (.node 2 (.node 1 zl0 zl0) (.node 1 zl0 (.node 1 zl0 (.leaf (some ⟨.mp 9 4,1,8,[.zv 0]⟩))))))) (.node 9 (.node 4 (.node 2 (.node 1 (.leaf (some ⟨.mp 9 3,1,8,[.zv 0]⟩)) (.leaf (some ⟨.mp 9 26,1,8,[.zv 0]⟩))) (.node 1 (.leaf (some ⟨.sl 38,1,24,[.nl]⟩)) (.leaf (some ⟨.st [(0,131),(1,132),(2,133),(3,26),(4,134)],5,72,[.zv 0,.zv 0,.zv 0,.nl,.nl]⟩)))) (.node 2 (.node 1 (.leaf (some ⟨.st [(0,131),(1,132),(2,133),(3,26),(4,134)],5,72,[.zv 0,.zv 0,.zv 0,.nl,.nl]⟩)) zl0) (.node 1 zl0 (.node 1 zl0 zl0)))) (.node 5 (.node 2 (.node 1 zl0 zl0) (.node 1 zl_ (.node 1 zl0 zl0))) (.node 2 (.node 1 zl0 zl0) (.node 1 zl0 (.node 1 zl0 zl_)))))))) (.node 76 (.node 38 (.node 19 (.node 9 (.node 4 (.node 2 (.node 1 zl0 zl0) (.node 1 (.leaf (some ⟨.st [(0,31),(4,28),(5,26),(6,3),(7,38)],9,128,[.int .i64 0,.int .i64 0,.str [],.nl,.nl,.nl,.int .i64 0,.int .i64 0,.int .i64 0]⟩)) (.leaf (some ⟨.st [(0,31),(4,28),(5,26),(6,3),(7,38)],9,128,[.int .i64 0,.int .i64 0,.str [],.nl,.nl,.nl,.int .i64 0,.int .i64 0,.int .i64 0]⟩)))) (.node 2 (.node 1 zl0 zl0) (.node 1 (.leaf (some ⟨.sl 167,1,24,[.nl]⟩)) (.node 1 zl_ zl0)))) (.node 5 (.node 2 (.node 1 (.leaf (some ⟨.st [(0,38)],2,16,[.int .i64 0,.int .i64 0]⟩)) (.leaf (some ⟨.st [(0,38)],2,16,[.int .i64 0,.int .i64 0]⟩))) (.node 1 zl_ (.node 1 (.leaf (some ⟨.st [(0,157),(1,3)],2,32,[.nl,.int .i64 0]⟩)) (.leaf (some ⟨.st [(0,157),(1,3)],2,32,[.nl,.int .i64 0]⟩))))) (.node 2 (.node 1 (.leaf (some ⟨.st [(0,164)],2,32,[.nl,.int .i64 0]⟩)) (.leaf (some ⟨.st [(0,164)],2,32,[.nl,.int .i64 0]⟩))) (.node 1 zl7 (.node 1 zl0 zl0))))) (.node 9 (.node 4 (.node 2 (.node 1 (.leaf (some ⟨.sl 188,1,24,[.nl]⟩)) (.leaf (some ⟨.st [(0,9),(1,3),(2,26),(3,27),(4,170)],5,96,[.str [],.int .i64 0,.nl,.nl,.nl]⟩))) (.node 1 (.leaf (some ⟨.st [(0,9),(1,3),(2,26),(3,27),(4,170)],5,96,[.str [],.int .i64 0,.nl,.nl,.nl]⟩)) zl0)) (.node 2 (.node 1 zl0 (.leaf (some ⟨.st [(0,9),(1,3),(2,9),(3,26),(4,28),(5,25)],6,112,[.str [],.int .i64 0,.str [],.nl,.nl,.nl]⟩))) (.node 1 (.leaf (some ⟨.st [(0,9),(1,3),(2,9),(3,26),(4,28),(5,25)],6,112,[.str [],.int .i64 0,.str [],.nl,.nl,.nl]⟩)) (.node 1 zl0 zl0)))) (.node 5 (.node 2 (.node 1 (.leaf (some ⟨.pt 116,1,8,[.np]⟩)) (.leaf (some ⟨.pt 25,1,8,[.np]⟩))) (.node 1 zl0 (.node 1 zl0 zl0))) (.node 2 (.node 1 zl0 zl0) (.node 1 zl0 (.node 1 (.leaf (some ⟨.st [(0,9),(1,3),(2,29)],3,48,[.str [],.int .i64 0,.nl]⟩)) (.leaf (some ⟨.st [(0,9),(1,3),(2,29)],3,48,[.str [],.int .i64 0,.nl]⟩)))))))) (.node 19 (.node 9 (.node 4 (.node 2 (.node 1 zl0 zl0) (.node 1 zl0 zl0)) (.node 2 (.node 1 zl_ (.leaf (some ⟨.st [(0,9),(1,31)],5,72,[.str [],.int .i64 0,.int .i64 0,.str [],.nl]⟩))) (.node 1 (.leaf (some ⟨.st [(0,9),(1,31)],5,72,[.str [],.int .i64 0,.int .i64 0,.str [],.nl]⟩)) (.node 1 zl0 zl0)))) (.node 5 (.node 2 (.node 1 zl3 zl0) (.node 1 zl0 (.node 1 (.leaf (some ⟨.sl 36,1,24,[.nl]⟩)) (.leaf (some ⟨.sl 203,1,24,[.nl]⟩))))) (.node 2 (.node 1 (.leaf (some ⟨.sl 4,1,24,[.nl]⟩)) zl0) (.node 1 zl0 (.node 1 zl0 zl0))))) (.node 9 (.node 4 (.node 2 (.node 1 zl0 zl0) (.node 1 zl0 zl0)) (.node 2 (.node 1 zl0 zl0) (.node 1 zl0 (.node 1 zl_ zl0)))) (.node 5 (.node 2 (.node 1 (.leaf (some ⟨.pt 164,1,8,[.np]⟩)) zl0) (.node 1 zl0 (.node 1 zl0 zl0))) (.node 2 (.node 1 zl0 zl0) (.node 1 zl0 (.node 1 zl0 zl0))))))) (.node 38 (.node 19 (.node 9 (.node 4 (.node 2 (.node 1 zl0 zl0) (.node 1 zl0 zl0)) (.node 2 (.node 1 zl0 zl0) (.node 1 zl1 (.node 1 zl_ zl0)))) (.node 5 (.node 2 (.node 1 zl0 zl0) (.node 1 zl_ (.node 1 zl0 zl0))) (.node 2 (.node 1 (.leaf (some ⟨.int .u32,1,4,[.int .u32 0]⟩)) zl0) (.node 1 zl3 (.node 1 zl0 zl0))))) (.node 9 (.node 4 (.node 2 (.node 1 zl0 zl0) (.node 1 zl0 zl0)) (.node 2 (.node 1 zl0 zl0) (.node 1 zl0 (.node 1 zl_ zl0)))) (.node 5 (.node 2 (.node 1 zl_ zl0) (.node 1 zl_ (.node 1 zl0 zl0))) (.node 2 (.node 1 zl0 zl3) (.node 1 zl0 (.node 1 zl0 zl0)))))) (.node 19 (.node 9 (.node 4 (.node 2 (.node 1 (.leaf (some ⟨.pt 3,1,8,[.np]⟩)) zl0) (.node 1 zl0 zl0)) (.node 2 (.node 1 zl0 zl0) (.node 1 zl0 (.node 1 zl_ zl0)))) (.node 5 (.node 2 (.node 1 zl0 zl_) (.node 1 zl0 (.node 1 zl0 zl0))) (.node 2 (.node 1 (.leaf (some ⟨.pt 261,1,8,[.np]⟩)) zl_) (.node 1 zl0 (.node 1 zl0 zl0))))) (.node 9 (.node 4 (.node 2 (.node 1 zl0 zl0) (.node 1 zl0 zl0)) (.node 2 (.node 1 (.leaf (some ⟨.st [(0,17),(1,17),(2,17),(3,9)],4,40,[.np,.np,.np,.str []]⟩)) (.leaf (some ⟨.st [(0,17),(1,17),(2,17),(3,9)],4,40,[.np,.np,.np,.str []]⟩))) (.node 1 (.leaf (some ⟨.ar 0 16,0,0,[]⟩)) (.node 1 (.leaf (some ⟨.st [(0,290)],0,0,[]⟩)) (.leaf (some ⟨.st [(0,290)],0,0,[]⟩)))))) (.node 5 (.node 2 (.node 1 zl0 zl2) (.node 1 zl2 (.node 1 zl0 (.leaf (some ⟨.pt 5,1,8,[.np]⟩))))) (.node 2 (.node 1 zl6 zl6) (.node 1 (.leaf (some ⟨.st [(0,12),(1,12),(2,241),(3,294),(4,5),(5,5),(6,295),(7,296),(8,297),(9,298),(10,299)],11,48,[.int .u64 0,.int .u64 0,.int .u32 0,.int .u8 0,.int .u8 0,.int .u8 0,.int .u8 0,.zv 1,.np,.int .i32 0,.int .i32 0]⟩)) (.node 1 (.leaf (some ⟨.st [(0,12),(1,12),(2,241),(3,294),(4,5),(5,5),(6,295),(7,296),(8,297),(9,298),(10,299)],11,48,[.int .u64 0,.int .u64 0,.int .u32 0,.int .u8 0,.int .u8 0,.int .u8 0,.int .u8 0,.zv 1,.np,.int .i32 0,.int .i32 0]⟩)) zl_))))))))
theorem trw:tr.wf=true:=by kernel_rfl
theorem tok:Tok Tryz.prog tr.flat:=by unfold Tok;kernel_rfl
theorem tg {t:Nat}{i:TI}(h:tr.get t=some i):tr.flat[t]?=some (some i):=Tr.get_ok trw h
theorem mixed:Tryz.prog.follows .mixedOrders=true:=by kernel_rfl
section
variable {QP:Value→Prop}{ro:Option Nat}{n:Nat}{ops:Array Oper}{draw:Bool}{k k':Nat}{e:Nat→Option V}{h0:bX}{d0:List Nat}{st':St}{pre pre':REs}{tr':Tr}{ob:List Prop}{kf:List Nat}{id:Nat}
theorem ag {Q:Exit→St→Prop}(hs:List (Nat×Hn)) (h:rF Tryz.prog tr true false n ops.toList hs 1000 0 ops.toList e h0 d0 [] []=some (st',k',pre',ob)) (hq:Q .normal st')
  (hc:fX ob:=by repeat (first | exact trivial | refine⟨by first | omega | assumption | exact⟨by kernel_rfl,by assumption⟩ | rfl | (simp only[Bp,List.length_nil];omega) | (simp;done) | (simp;omega),?_⟩)) (h1:Nat.beq k' ops.size=true:=by rfl) (h2:(!draw || (cK (preds ops) pre'.reverse []&&dM ops))=true:=by kernel_rfl):AWp ro Tryz.prog n kf (.region id ops draw) ⟨e,h0,d0⟩ Q:=
 aNk mixed trw tok h hc h1 h2 hq
theorem agN {Q:Exit→St→Prop}(hs:List (Nat×Hn)) (h:rF Tryz.prog tr true true n ops.toList hs 1000 0 ops.toList e h0 d0 [] []=some (st',k',pre',ob)) (hq:Q .normal st')
  (hc:fX ob:=by repeat (first | exact trivial | refine⟨by first | omega | assumption | exact⟨by kernel_rfl,by assumption⟩ | rfl | (simp only[Bp,List.length_nil];omega) | (simp;done) | (simp;omega),?_⟩)) (h1:Nat.beq k' ops.size=true:=by rfl) (h2:(!draw || (cK (preds ops) pre'.reverse []&&dM ops))=true:=by kernel_rfl):AWp ro Tryz.prog n kf (.region id ops draw) ⟨e,h0,d0⟩ Q:=
 aNk mixed trw tok h hc h1 h2 hq
theorem ak {Q:St→Prop}(m:Nat) (hs:List (Nat×Hn)) (h:rF Tryz.prog tr true false n ops.toList hs m k (ops.toList.drop k) e h0 d0 pre []=some (st',k',pre',ob)) (g:i7 QP Tryz.prog n ops draw k' st' pre' Q)
  (hc:fX ob:=by repeat (first | exact trivial | refine⟨by first | omega | assumption | exact⟨by kernel_rfl,by assumption⟩ | rfl | (simp only[Bp,List.length_nil];omega) | (simp;done) | (simp;omega),?_⟩)):i7 QP Tryz.prog n ops draw k ⟨e,h0,d0⟩ pre Q:=
 ax_ m trw tok h hc g
theorem akN {Q:St→Prop}(m:Nat) (hs:List (Nat×Hn)) (h:rF Tryz.prog tr true true n ops.toList hs m k (ops.toList.drop k) e h0 d0 pre []=some (st',k',pre',ob)) (g:i7 QP Tryz.prog n ops draw k' st' pre' Q)
  (hc:fX ob:=by repeat (first | exact trivial | refine⟨by first | omega | assumption | exact⟨by kernel_rfl,by assumption⟩ | rfl | (simp only[Bp,List.length_nil];omega) | (simp;done) | (simp;omega),?_⟩)):i7 QP Tryz.prog n ops draw k ⟨e,h0,d0⟩ pre Q:=
 ax_ m trw tok h hc g
theorem agF {Q:Exit→St→Prop}{u:Nat→Option V}{g:bX}{d1:List Nat}{q:List Prop}{res:Res}{L:List (Nat×Option V)}(m:Nat) (hs:List (Nat×Hn)) (y:rF Tryz.prog tr true false n ops.toList hs m 0 ops.toList e h0 d0 [] []=some (⟨u,g,d1⟩,k',pre',q))
  (A:mS Tryz.prog tr true false n ops.toList hs (aRe (ops.toList.drop k')) 1000 k' (ops.toList.drop k') u g d1 [] pre' q=some res) (B:pD res (aRe (ops.toList.drop k'))=some L) (hq:Q .normal ⟨kX u L,g,d1⟩)
  (ho:res.obs:=by repeat (first | exact trivial | refine⟨fun _=>?_,fun _=>?_⟩ | refine⟨by first | omega | assumption | exact⟨by kernel_rfl,by assumption⟩ | rfl | (simp only[Bp,List.length_nil];omega) | (simp;done) | (simp;omega),?_⟩)) (E:res.good ops draw=true:=by kernel_rfl):AWp ro Tryz.prog n kf (.region id ops draw) ⟨e,h0,d0⟩ Q:=
 aQu m mixed trw tok y A B ho E hq
theorem az {Q:St→Prop}(hq:Q ⟨e,h0,d0⟩) (h1:Nat.beq k ops.size=true:=by rfl) (h2:(!draw || (cK (preds ops) pre.reverse []&&dM ops))=true:=by kernel_rfl):i7 QP Tryz.prog n ops draw k ⟨e,h0,d0⟩ pre Q:=z_ h1 h2 hq
theorem sgh {Q:Exit→St→Prop}{y:Code}(hs:List (Nat×Hn)) (h:rF Tryz.prog tr true false n ops.toList hs 1000 0 ops.toList e h0 d0 [] []=some (st',k',pre',ob)) (hq:AWp ro Tryz.prog n kf y st' Q)
  (hc:fX ob:=by repeat (first | exact trivial | refine⟨by first | omega | assumption | exact⟨by kernel_rfl,by assumption⟩ | rfl | (simp only[Bp,List.length_nil];omega) | (simp;done) | (simp;omega),?_⟩)) (h1:Nat.beq k' ops.size=true:=by rfl) (h2:(!draw || (cK (preds ops) pre'.reverse []&&dM ops))=true:=by kernel_rfl):AWp ro Tryz.prog n kf (.seq (.region id ops draw) y) ⟨e,h0,d0⟩ Q:=
 aA (ag hs h hq hc h1 h2)
theorem sg {Q:Exit→St→Prop}{y:Code}(h:rF Tryz.prog tr true false n ops.toList [] 1000 0 ops.toList e h0 d0 [] []=some (st',k',pre',ob)) (hq:AWp ro Tryz.prog n kf y st' Q)
  (hc:fX ob:=by repeat (first | exact trivial | refine⟨by first | omega | assumption | exact⟨by kernel_rfl,by assumption⟩ | rfl | (simp only[Bp,List.length_nil];omega) | (simp;done) | (simp;omega),?_⟩)) (h1:Nat.beq k' ops.size=true:=by rfl) (h2:(!draw || (cK (preds ops) pre'.reverse []&&dM ops))=true:=by kernel_rfl):AWp ro Tryz.prog n kf (.seq (.region id ops draw) y) ⟨e,h0,d0⟩ Q:=
 sgh [] h hq hc h1 h2
theorem skh {Q:Exit→St→Prop}{y:Code}(m:Nat) (hs:List (Nat×Hn)) (h:rF Tryz.prog tr true false n ops.toList hs m 0 (ops.toList.drop 0) e h0 d0 [] []=some (st',k',pre',ob)) (g:i7 (fun v=>∀e' q,Q (pan v) ⟨e',q,d0⟩) Tryz.prog n ops draw k' st' pre' (fun st'=>AWp ro Tryz.prog n kf y st' Q))
  (hc:fX ob:=by repeat (first | exact trivial | refine⟨by first | omega | assumption | exact⟨by kernel_rfl,by assumption⟩ | rfl | (simp only[Bp,List.length_nil];omega) | (simp;done) | (simp;omega),?_⟩)):AWp ro Tryz.prog n kf (.seq (.region id ops draw) y) ⟨e,h0,d0⟩ Q:=
 aA (aC mixed (ak m hs h g hc))
theorem sk {Q:Exit→St→Prop}{y:Code}(m:Nat) (h:rF Tryz.prog tr true false n ops.toList [] m 0 (ops.toList.drop 0) e h0 d0 [] []=some (st',k',pre',ob)) (g:i7 (fun v=>∀e' q,Q (pan v) ⟨e',q,d0⟩) Tryz.prog n ops draw k' st' pre' (fun st'=>AWp ro Tryz.prog n kf y st' Q))
  (hc:fX ob:=by repeat (first | exact trivial | refine⟨by first | omega | assumption | exact⟨by kernel_rfl,by assumption⟩ | rfl | (simp only[Bp,List.length_nil];omega) | (simp;done) | (simp;omega),?_⟩)):AWp ro Tryz.prog n kf (.seq (.region id ops draw) y) ⟨e,h0,d0⟩ Q:=
 skh m [] h g hc
theorem kz {Q:St→Prop}(m:Nat) (h:rF Tryz.prog tr true false n ops.toList [] m k (ops.toList.drop k) e h0 d0 pre []=some (st',k',pre',ob)) (hq:Q st')
  (hc:fX ob:=by repeat (first | exact trivial | refine⟨by first | omega | assumption | exact⟨by kernel_rfl,by assumption⟩ | rfl | (simp only[Bp,List.length_nil];omega) | (simp;done) | (simp;omega),?_⟩)) (h1:Nat.beq k' ops.size=true:=by rfl) (h2:(!draw || (cK (preds ops) pre'.reverse []&&dM ops))=true:=by kernel_rfl):i7 QP Tryz.prog n ops draw k ⟨e,h0,d0⟩ pre Q:=
 ak m [] h (z_ h1 h2 hq) hc
end
set_option maxRecDepth 20000
abbrev Str:=List UInt8
def aX (s:Str):List C:=[.str s]
inductive Ty where
 | mk (form n:Int) (name:Str) (args:List Ty)
def Ty.form:Ty→Int | .mk f _ _ _=>f
def Ty.n:Ty→Int | .mk _ n _ _=>n
def Ty.name:Ty→Str | .mk _ _ s _=>s
def Ty.args:Ty→List Ty | .mk _ _ _ l=>l
mutual
def dD:Ty→List (List C)
 | .mk _ _ _ a=>cW a
def cW:List Ty→List (List C)
 | []=>[]
 | t::l=>[.int .i64 t.form,.int .i64 t.n,.str t.name,.sl 4 (dD t)]::cW l
end
def cF (t:Ty):List C:=[.int .i64 t.form,.int .i64 t.n,.str t.name,.sl 4 (dD t)]
theorem bB {α:Type}{l:List α}{k:Nat}{x:α}(f:α→List C) (h:l[k]?=some x):(l.map f)[k]?=some (f x):=by rw[List.getElem?_map,h];rfl
theorem aM {α:Type}{l:List α}{k:Nat}(h:k<l.length):∃x,l[k]?=some x:=⟨l[k],by simp[h]⟩
theorem eW:∀l:List Ty,cW l=l.map cF
 | []=>by simp[cW]
 | c::l=>by rw[cW,eW l];rfl
def Fits {α:Type}(l:List α):Prop:=l.length≤1152921504606846976
theorem aG9 (l:List Str) (s:Str) (hl:Fits l):aV Tryz.prog 18 [.one (.c (.sl 1 (l.map aX))),Go.AM.T s] [] (B (decide (s∈l))) []:=by
 unfold Fits at hl;refine bF (n:=18) tok Tryz.func18 rfl rfl rfl ?_;refine sg rfl (aA (sg rfl (aE (aL (fun k:Nat=>mk [(0,.one (.c (.sl 1 (l.map aX)))),(1,Go.AM.T s),(5,I .i64 k)] []) (fun k=>k≤l.length∧s∉l.take k) (fun k=>l.length-k) 0 ⟨Ad _,by simp⟩ (.list (fun i=>i) ⟨rfl,rfl,rfl,trivial⟩ trivial rfl) ?_))));intro k ⟨E,hm⟩;refine aA (sg rfl (aB rfl (fun hb=>?_) (fun hb=>?_)))
 ·refine aD ?_;have q:k<l.length:=by simpa using hb
  obtain⟨x,hx⟩:=aM q;have A:=bB aX hx;refine aA (aE (sgh [(2,.row k (aX x))] rfl (aB rfl (fun hb=>?_) (fun hb=>?_))))
  ·refine sg rfl (aF ?_);have g:x=s:=by simpa using hb
   have:s∈l:=by rw[←g];exact Ag hx
   exact⟨.inr rfl,⟨_,_,.tmp rfl .nil,.cons .refl .nil,by simp[aI0,this]⟩,trivial,rfl⟩
  ·refine aD (ag [] rfl ⟨k+1,⟨q,?_⟩,by dsimp only;omega,.list (fun i=>i) ⟨rfl,rfl,rfl,trivial⟩ trivial rfl⟩);rw[Bg,hx];have g:¬x=s:=by simpa using hb
   have u:¬s=x:=fun e=>g e.symm
   simp[hm,u]
 ·refine aG ?_;have y:k=l.length:=by
   have:¬k<l.length:=by simpa using hb
   omega
  refine sg rfl (aF ?_);rw[y,Ao] at hm;exact⟨.inr rfl,⟨_,_,.tmp rfl .nil,.cons .refl .nil,by simp[aI0,hm]⟩,trivial,rfl⟩
def nY (n k:Int):Int:=(if n<0 then -(n+1) else n)%k
def i64 (n:Int):Prop:= -9223372036854775808≤n∧n≤9223372036854775807
theorem wV (n:Int) {k:Int}(g:0<k):0≤nY n k∧nY n k<k:=⟨Int.emod_nonneg _ (by omega),Int.emod_lt_of_pos _ g⟩
theorem aBe (n k:Int) (hn:i64 n) (g:1≤k):aV Tryz.prog 17 [I .i64 n,I .i64 k] [] (I .i64 (nY n k)) []:=by
 unfold i64 at hn;refine bF (n:=13) tok Tryz.func17 rfl rfl rfl ?_;refine sg rfl (aA (sg rfl (aB rfl (fun hb=>?_) (fun hb=>?_))))
 ·have h0:n<0:=by simpa using hb
  exact ag [] rfl (sg rfl (aF ⟨.inr rfl,⟨_,_,.tmp rfl .nil,.cons .refl .nil,by simp[aI0,nY,h0]⟩,trivial,rfl⟩))
 ·have h0:¬n<0:=by simpa using hb
  exact aD (sg rfl (aF ⟨.inr rfl,⟨_,_,.tmp rfl .nil,.cons .refl .nil,by simp[aI0,nY,h0]⟩,trivial,rfl⟩))
set_option maxRecDepth 100000
set_option maxHeartbeats 4000000
def plB (c:Nat):Bool:=decide ((97≤c∧c≤122)∨(65≤c∧c≤90)∨(48≤c∧c≤57))
theorem xQ (c:Nat) (w:World) (h:c<256):Calls Tryz.prog 222 #[.int .u8 (c:Int)] w fun e w'=>e=.returned (.bool (plB c))∧w=w':=by
 go_enter Tryz.func222,Tryz.ntmps222
 go_wp2
 all_goals go_ret
 all_goals refine⟨congrArg Ending.returned (congrArg Value.bool (a₂:=plB c) ?_),rfl⟩
 all_goals (unfold plB;rw[Bt];simp;omega)
def fiB (r lo hi:Int):Bool:=decide (lo≤r∧r≤hi)
theorem y7 (r lo hi:Int) (a b:Nat) (w:World) (ha:w.cell? ⟨a,0,none⟩=some (.int .i32 lo)) (hb:w.cell? ⟨b,0,none⟩=some (.int .i32 hi)):
  Calls Tryz.prog 221 #[.int .i64 0,.int .i32 r,.pointer (some ⟨a,0,none⟩),.pointer (some ⟨b,0,none⟩)] w fun e w'=>e=.returned (.bool (fiB r lo hi))∧w=w':=by
 go_enter Tryz.func221,Tryz.ntmps221
 go_wp2
 all_goals go_ret
 all_goals refine⟨congrArg Ending.returned (congrArg Value.bool (a₂:=fiB r lo hi) ?_),rfl⟩
 all_goals (unfold fiB;rw[Bt];simp;omega)
def nmQ (c:Nat) (lo hi:Int):Bool:=fiB c lo hi&&(plB c || decide (c=39∨c=95))
def aUs (c:Nat) (lo hi:Int) (w:World) (e:Ending) (w':World):Prop:=e=.returned (.bool (nmQ c lo hi))∧∃os:Array Obj,w'={ w with heap:=w.heap++os }
def aWu (c:Nat) (lo hi:Int) (pos:Nat):Prop:=pos=0∨(pos=1∧nmQ c lo hi=true)
def NmW (c:UInt8) (lo hi:Int) (w:World) (pos:Nat):World:=((w.alloc (.cells #[.int .i32 lo] 21)).alloc (.cells #[.int .i32 hi] 21)).iter ⟨#[c]⟩ pos
theorem aIk (c:UInt8) (lo hi:Int) (w:World) (pos:Nat):∃os:Array Obj,NmW c lo hi w pos={ w with heap:=w.heap++os }:=⟨#[.cells #[.int .i32 lo] 21,.cells #[.int .i32 hi] 21,.stringIter ⟨#[c]⟩ pos],by
 simp only[NmW,World.iter,World.alloc]
 congr 1⟩
theorem aUq (c:UInt8) (lo hi:Int) (w:World) (pos:Nat):(NmW c lo hi w pos).cell? ⟨w.heap.size,0,none⟩=some (.int .i32 lo):=by
 have h:(NmW c lo hi w pos).heap[w.heap.size]?=some (.cells #[.int .i32 lo] 21):=by
  show(((w.heap.push _).push _).push _)[w.heap.size]?=_;rw[Array.getElem?_push_lt (by rw[Bl,Bl];omega),Array.getElem_push_lt (by rw[Bl];omega),Array.getElem_push_eq]
 unfold World.cell?;rw[h];rfl
theorem aUr (c:UInt8) (lo hi:Int) (w:World) (pos:Nat):(NmW c lo hi w pos).cell? ⟨w.heap.size+1,0,none⟩=some (.int .i32 hi):=by
 have h:(NmW c lo hi w pos).heap[w.heap.size+1]?=some (.cells #[.int .i32 hi] 21):=by
  show(((w.heap.push _).push _).push _)[w.heap.size+1]?=_;rw[Array.getElem?_push_lt (by rw[Bl,Bl];omega),Array.getElem_push];rw[dif_neg (by rw[Bl];omega)]
 unfold World.cell?;rw[h];rfl
theorem tP (c:UInt8) (lo hi:Int) (w:World) (pos:Nat):(NmW c lo hi w pos).iterPos (w.heap.size+2)=pos:=by
 have h:(NmW c lo hi w pos).heap[w.heap.size+2]?=some (.stringIter ⟨#[c]⟩ pos):=by
  show(((w.heap.push _).push _).push _)[w.heap.size+2]?=_;rw[Array.getElem?_push,θ (by rw[Bl,Bl])]
 unfold World.iterPos;rw[h]
theorem aMs {c:Nat}{lo hi:Int}(h1:fiB c lo hi=true) (h2:plB c=true∨c=39∨c=95):nmQ c lo hi=true:=by
 unfold nmQ;rw[h1];rcases h2 with h | h
 ·rw[h];rfl
 ·rw[φ h,Bool.or_true];rfl
theorem aJw {c:Nat}{lo hi:Int}(h:¬fiB c lo hi=true∨(¬plB c=true∧¬c=39∧¬c=95)):nmQ c lo hi=false:=by
 unfold nmQ;rcases h with h | ⟨h1,h2,g⟩
 ·rw[Cq _ |>.mp h];rfl
 ·rw[Cq _ |>.mp h1,ψ (by omega),Bool.or_self,Bool.and_false]
theorem qZ (c:UInt8) (lo hi:Int) (w:World) (hc:c.toNat<128):Calls Tryz.prog 206 #[.string ⟨#[c]⟩,.int .i32 lo,.int .i32 hi] w (aUs c.toNat lo hi w):=by
 go_enter Tryz.func206,Tryz.ntmps206
 go_wp2
 go_loopw [] (fun wr=>∃pos:Nat,aWu c.toNat lo hi pos∧wr=NmW c lo hi w pos) (fun wr=>1-wr.iterPos (w.heap.size+2))
 case atStart=>exact⟨0,.inl rfl,rfl⟩
 case round=>
  obtain⟨pos,y,rfl⟩:=hrel;have hsz:((w.alloc (.cells #[.int .i32 lo] 21)).alloc (.cells #[.int .i32 hi] 21)).heap.size=w.heap.size+1+1:=by
   show((w.heap.push _).push _).size=_;rw[Bl,Bl]
  rcases y with rfl | ⟨rfl,g⟩
  ·have hn:∀ty,(Instr.next (.pointer (some ⟨w.heap.size+1+1,0,none⟩)) true ty).run Tryz.prog (NmW c lo hi w 0)=.ok (.tuple #[.bool true,.int .i64 0,.int .i32 (c.toNat:Int)]) (NmW c lo hi w 1):=fun ty=>by
    have:=run_next_ascii (P:=Tryz.prog) ((w.alloc (.cells #[.int .i32 lo] 21)).alloc (.cells #[.int .i32 hi] 21)) ⟨#[c]⟩ 0 ty (show 0<1 by decide) hc;rw[hsz] at this;exact this
   clear hsz;have q:=aUq c lo hi w 1;have u:=aUr c lo hi w 1;have A:(c.toNat:Int)≤127:=by omega
   have B:0≤(c.toNat:Int):=by omega
   go_wp2_with (first | (go_at_call 221;(with_reducible refine(y7 _ _ _ _ _ _ q u).mono ?_);rintro e w' ⟨rfl,rfl⟩) | (go_at_call 222;(with_reducible refine(xQ _ _ (by omega)).mono ?_);rintro e w' ⟨rfl,rfl⟩))
   all_goals first
    | exact⟨⟨1,.inr ⟨rfl,aMs (by assumption) (.inl (by assumption))⟩,rfl⟩,by rw[tP,tP];decide⟩
    | exact⟨⟨1,.inr ⟨rfl,aMs (by assumption) (.inr (by simp at *;omega))⟩,rfl⟩,by rw[tP,tP];decide⟩
    | (go_ret;exact⟨by rw[aJw (.inl (by assumption))];rfl,aIk c lo hi w 1⟩)
    | (go_ret;exact⟨by rw[aJw (.inr ⟨by assumption,by simp at *;omega,by simp at *;omega⟩)];rfl,aIk c lo hi w 1⟩)
  ·have hn:∀ty,(Instr.next (.pointer (some ⟨w.heap.size+1+1,0,none⟩)) true ty).run Tryz.prog (NmW c lo hi w 1)=.ok (.tuple #[.bool false]) (NmW c lo hi w 1):=fun ty=>by
    have:=run_next_end (P:=Tryz.prog) ((w.alloc (.cells #[.int .i32 lo] 21)).alloc (.cells #[.int .i32 hi] 21)) ⟨#[c]⟩ 1 ty (show ¬1<1 by decide);rw[hsz] at this;exact this
   clear hsz
   go_wp2
   go_ret
   exact⟨by rw[g];rfl,aIk c lo hi w 1⟩
def kJ (b:Bool) (w:World) (e:Ending) (w':World):Prop:=e=.returned (.bool b)∧∃os:Array Obj,w'={ w with heap:=w.heap++os }
def aUp (s:ByteArray) (lo hi:Int) (w:World) (pos:Nat):World:=((w.alloc (.cells #[.int .i32 lo] 21)).alloc (.cells #[.int .i32 hi] 21)).iter s pos
theorem aIj (s:ByteArray) (lo hi:Int) (w:World) (pos:Nat):∃os:Array Obj,aUp s lo hi w pos={ w with heap:=w.heap++os }:=⟨#[.cells #[.int .i32 lo] 21,.cells #[.int .i32 hi] 21,.stringIter s pos],by
 simp only[aUp,World.iter,World.alloc]
 congr 1⟩
theorem uQ6 {P:Program}(w:World) (s:ByteArray) (pos:Nat) (ty:TypeId) (r k:Nat) (h:pos<s.size) (g:Utf8.decode s pos=(r,k)):
  (Instr.next (.pointer (some ⟨w.heap.size,0,none⟩)) true ty).run P (w.iter s pos)=.ok (.tuple #[.bool true,.int .i64 pos,.int .i32 r]) (w.iter s (pos+k)):=by
 simp only[Instr.next,getObj,setObj,π,Sem.run,World.iter_heap,Result.andThen,h,Cg,g,World.iter_set];simp[goInt]
theorem aAf (s:ByteArray) (lo hi:Int) (w:World) (r k:Nat) (h:0<s.size) (g:Utf8.decode s 0=(r,k)) (u:127<r):Calls Tryz.prog 206 #[.string s,.int .i32 lo,.int .i32 hi] w (kJ false w):=by
 go_enter Tryz.func206,Tryz.ntmps206
 go_wp2
 go_loopw [] (fun wr=>wr=aUp s lo hi w 0) (fun _=>1)
 case atStart=>rfl
 case round=>
  have hsz:((w.alloc (.cells #[.int .i32 lo] 21)).alloc (.cells #[.int .i32 hi] 21)).heap.size=w.heap.size+1+1:=by
   show((w.heap.push _).push _).size=_;rw[Bl,Bl]
  subst hrel;have hn:∀ty,(Instr.next (.pointer (some ⟨w.heap.size+1+1,0,none⟩)) true ty).run Tryz.prog (aUp s lo hi w 0)=.ok (.tuple #[.bool true,.int .i64 0,.int .i32 (r:Int)]) (aUp s lo hi w (0+k)):=fun ty=>by
   have:=uQ6 (P:=Tryz.prog) ((w.alloc (.cells #[.int .i32 lo] 21)).alloc (.cells #[.int .i32 hi] 21)) s 0 ty r k h g;rw[hsz] at this;exact this
  clear hsz;have q:127<(r:Int):=by omega
  go_wp2
  all_goals (go_ret;exact⟨rfl,by first | exact aIj s lo hi w k | exact aIj s lo hi w (0+k)⟩)
end Go.Proofs.YtkhgpgihmphfdaaGreat
namespace Go.AM
open Go Go.Proofs Go.Shelf
theorem aH7 {ro:Option Nat}{P:Program}{n:Nat}{kf:List Nat}{c:Code}{st:St}{Q:Exit→St→Prop}(t:Nat) {es:Nat}{l:List (List C)}(h:st.e t=some (.one (.c (.sl es l)))) (h1:l=[]→AWp ro P n kf c ⟨upd st.e t (some (.one (.c .nl))),st.h,st.d⟩ Q)
  (h2:AWp ro P n kf c ⟨upd st.e t (some (.one (.c (.sn es l)))),st.h,st.d⟩ Q):AWp ro P n kf c st Q:=by
 intro G S μ a w Q' y hs A;have B:=hs.env t _ h
 have key:∀x:V,aN S μ st.h x (a.tmps.getD t undef)→Sim G n S μ ⟨upd st.e t (some x),st.h,st.d⟩ a w:=fun x hx=>⟨hs.inv,hs.size,hs.defers,fun s u e=>by
  by_cases g:s=t
  ·subst g;have:some x=some u:=by rw[←e];exact(aH _ _ _).symm
   cases this;exact hx
  ·exact hs.env s u (by rw[←e];exact(aW _ _ _ g).symm)⟩
 simp only[aN,aY,Rep] at B;obtain⟨q,len,cap,E,U,Y,e4,e5,e6,b,o,e7,e8⟩:=B;cases q with
 | none=>
  obtain⟨e9,I⟩:=e5 rfl;have hl:l=[]:=Ap (by omega);exact h1 hl G S μ a w Q' y (key _ (by simp only[aN,aY,Rep];rw[E,e9,I])) A
 | some q=>
  obtain⟨b',o',sp⟩:=q;have J:=e6 _ rfl;obtain⟨M,O⟩:=e7 _ rfl;dsimp only at J M O;subst M O;exact h2 G S μ a w Q' y (key _ (by simp only[aN,aY,Rep];exact⟨b',o',sp,len,cap,E,U,Y,e4,J,e8⟩)) A
end Go.AM
namespace Go.AM
open Go
def AObj.ren (σ:Nat→Nat):AObj→AObj
 | .var t cells=>.var t (R.renL σ cells)
 | .lp st j i e=>.lp st j i (aDq σ e)
 | .rarr te es l=>.rarr te es (uH σ l)
 | .tok r k=>.tok (r.ren σ) k
 | o=>o
def renH (σ:Nat→Nat) (hl:List (Nat×AObj)):List (Nat×AObj):=hl.map fun p=>(σ p.1,p.2.ren σ)
section
mutual
theorem R.ren_ren {σ:Nat→Nat}(hσ:∀i,σ (σ i)=i):∀r:R,(r.ren σ).ren σ=r
 | .c _=>rfl
 | .hs ..=>by simp[R.ren,hσ]
 | .tl ..=>by simp[R.ren,hσ]
 | .vp ..=>by simp[R.ren,hσ]
 | .ep ..=>by simp[R.ren,hσ]
 | .mr _=>by simp[R.ren,hσ]
 | .clo f caps=>by simp[R.ren,R.renL_renL hσ caps]
 | .mth f r=>by simp[R.ren,R.ren_ren hσ r]
 | .yl _=>by simp[R.ren,hσ]
 | .ra ..=>by simp[R.ren,hσ]
 | .rp ..=>by simp[R.ren,hσ]
 | .ras n es l=>by simp[R.ren,R.renL_renL hσ l]
 | .pas l=>by simp[R.ren,R.renL_renL hσ l]
theorem R.renL_renL {σ:Nat→Nat}(hσ:∀i,σ (σ i)=i):∀l:List R,R.renL σ (R.renL σ l)=l
 | []=>rfl
 | r::l=>by simp[R.renL,R.ren_ren hσ r,R.renL_renL hσ l]
end
mutual
theorem V.ren_ren {σ:Nat→Nat}(hσ:∀i,σ (σ i)=i):∀r:V,(r.ren σ).ren σ=r
 | .one r=>by simp[V.ren,R.ren_ren hσ r]
 | .pa _=>rfl
 | .ma l=>by simp[V.ren,R.renL_renL hσ l]
 | .tup l=>by simp[V.ren,V.renL_renL hσ l]
theorem V.renL_renL {σ:Nat→Nat}(hσ:∀i,σ (σ i)=i):∀l:List V,V.renL σ (V.renL σ l)=l
 | []=>rfl
 | r::l=>by simp[V.renL,V.ren_ren hσ r,V.renL_renL hσ l]
end
variable {σ:Nat→Nat}(hσ:∀i,σ (σ i)=i)
include hσ
theorem uI:∀l:List (Nat×V),aDq σ (aDq σ l)=l
 | []=>rfl
 | (t,v)::l=>by simp[aDq,V.ren_ren hσ v,uI l]
theorem uF:∀l:List (List R),uH σ (uH σ l)=l
 | []=>rfl
 | r::l=>by simp[uH,R.renL_renL hσ r,uF l]
theorem Ole.to_ren (o:AObj):Ole σ o (o.ren σ):=by
 cases o with
 | var t cells=>exact .var (R.renL_renL hσ cells).symm
 | lp st j i e=>exact .lp (uI hσ e).symm
 | rarr te es l=>exact .rarr (uF hσ l).symm
 | tok r k=>exact .tok (R.ren_ren hσ r).symm
 | arr=>exact .arr
 | map=>exact .map
 | dead=>exact .dead
 | dfr=>exact .dfr
end
theorem Ole.of_ren {σ:Nat→Nat}(o:AObj):Ole σ (o.ren σ) o:=by
 cases o with
 | var t cells=>exact .var rfl
 | lp st j i e=>exact .lp rfl
 | rarr te es l=>exact .rarr rfl
 | tok r k=>exact .tok rfl
 | arr=>exact .arr
 | map=>exact .map
 | dead=>exact .dead
 | dfr=>exact .dfr
mutual
theorem R.refs_ren {σ:Nat→Nat}:∀r:R,(r.ren σ).refs=r.refs.map σ
 | .c _=>rfl
 | .hs ..=>rfl
 | .tl ..=>rfl
 | .vp ..=>rfl
 | .ep ..=>rfl
 | .mr _=>rfl
 | .clo f caps=>by simp[R.ren,R.refs,R.refsL_ren caps]
 | .mth f r=>by simp[R.ren,R.refs,R.refs_ren r]
 | .yl _=>rfl
 | .ra ..=>rfl
 | .rp ..=>rfl
 | .ras n es l=>by simp[R.ren,R.refs,R.refsL_ren l]
 | .pas l=>by simp[R.ren,R.refs,R.refsL_ren l]
theorem R.refsL_ren {σ:Nat→Nat}:∀l:List R,R.refsL (R.renL σ l)=(R.refsL l).map σ
 | []=>rfl
 | r::l=>by simp[R.renL,R.refsL,R.refs_ren r,R.refsL_ren l]
end
mutual
theorem V.refs_ren {σ:Nat→Nat}:∀r:V,(r.ren σ).refs=r.refs.map σ
 | .one r=>by simp[V.ren,V.refs,R.refs_ren r]
 | .pa _=>rfl
 | .ma l=>by simp[V.ren,V.refs,R.refsL_ren l]
 | .tup l=>by simp[V.ren,V.refs,V.refsL_ren l]
theorem V.refsL_ren {σ:Nat→Nat}:∀l:List V,V.refsL (V.renL σ l)=(V.refsL l).map σ
 | []=>rfl
 | r::l=>by simp[V.renL,V.refsL,V.refs_ren r,V.refsL_ren l]
end
theorem uL {σ:Nat→Nat}:∀l:List (Nat×V),uM (aDq σ l)=(uM l).map σ
 | []=>rfl
 | (t,v)::l=>by simp[aDq,uM,V.refs_ren v,uL l]
theorem uK {σ:Nat→Nat}:∀l:List (List R),xJ (uH σ l)=(xJ l).map σ
 | []=>rfl
 | r::l=>by simp[uH,xJ,R.refsL_ren r,uK l]
theorem AObj.refs_ren {σ:Nat→Nat}(o:AObj):(o.ren σ).refs=o.refs.map σ:=by
 cases o with
 | var t cells=>exact R.refsL_ren cells
 | lp st j i e=>exact uL e
 | rarr te es l=>exact uK l
 | tok r k=>exact R.refs_ren r
 | _=>rfl
structure RenH (σ:Nat→Nat) (H H':bX):Prop where
 to:∀i o,H (σ i)=some o→∃o',H' i=some o'∧Ole σ o o'
 of:∀i o',H' i=some o'→∃o,H (σ i)=some o∧Ole σ o o'
 cl:∀i o',H' i=some o'→∀j∈o'.refs,∃x,H' j=some x
theorem RenH.good {σ:Nat→Nat}{H H':bX}(h:RenH σ H H') {i:Nat}(hi:∃x,H' i=some x):Good H H' σ i:=by
 obtain⟨x,hx⟩:=hi;obtain⟨o,h1,h2⟩:=h.of i x hx;exact⟨o,x,h1,hx,h2⟩
theorem aI5 {σ:Nat→Nat}{P:Prop}{a b c d:AObj}(h1:Ole σ a b) (h2:Ole σ c d) (h:a.succ P c):b.succ P d:=by
 cases h1<;>cases h2<;>simp only[AObj.succ] at h ⊢<;>try exact h
 ·rename_i g _ _ _ _ q;subst g q;simpa [dJ] using h
theorem Inv.renH {σ:Nat→Nat}(hσ:∀i,σ (σ i)=i) {G:Ctx}{q H H':bX}{S:Sto}{μ:Mu}{w:World}(h:Inv G S μ H w) (h0:RenH σ G.h0 q) (g:RenH σ H H'):
  Inv { G with μ0:=fun i=>G.μ0 (σ i),h0:=q } S (fun i=>μ (σ i)) H' w:=by
 refine⟨h.holds,fun id o ho=>?_,fun i j o o' b c c' hi u hm A=>?_,fun i o b c hi hm=>?_,h.frame,h.sle,h.sto,⟨h.evo.le,fun id o ho=>?_⟩,h.fre⟩
 ·obtain⟨x,h1,h2⟩:=g.of id o ho;exact(h.obj _ _ h1).ren h2 fun j u=>g.good (g.cl id o ho j u)
 ·obtain⟨x,h1,_⟩:=g.of i o hi;obtain⟨y,h2,_⟩:=g.of j o' u;have:=h.inj _ _ _ _ b c c' h1 h2 hm A;rw[←hσ i,←hσ j,this]
 ·obtain⟨x,h1,_⟩:=g.of i o hi;exact h.own _ _ b c h1 hm
 ·obtain⟨x,h1,h2⟩:=h0.of id o ho;obtain⟨y,B,E⟩:=h.evo.obj _ _ h1;obtain⟨z,I,J⟩:=g.to id y B;exact⟨z,I,aI5 h2 J E⟩
section
variable {σ:Nat→Nat}(hσ:∀i,σ (σ i)=i)
include hσ
theorem aQo (i k:Nat):Nat.beq (σ i) (σ k)=Nat.beq i k:=by
 cases h:Nat.beq i k with
 | true=>rw[δ h];exact beq_refl _
 | false=>
  cases g:Nat.beq (σ i) (σ k) with
  | false=>rfl
  | true=>
   have:=δ g;have e:i=k:=by rw[←hσ i,←hσ k,this]
   rw[e,beq_refl] at h;cases h
theorem jY (i:Nat):∀hl:List (Nat×AObj),look (Go.AM.renH σ hl) (σ i)=(look hl i).map (AObj.ren σ)
 | []=>rfl
 | (k,o)::hl=>by
  have g:=jY i hl;simp only[Go.AM.renH,Be,look,aQo hσ] at g ⊢;split
  ·rfl
  ·exact g
theorem RenH.a {hl:List (Nat×AObj)}(hc:subset (eG hl) (keys hl)=true):RenH σ (look (Go.AM.renH σ hl)) (look hl):=by
 refine⟨fun i o h=>?_,fun i o h=>?_,fun i o h j g=>?_⟩
 ·rw[jY hσ] at h;cases hx:look hl i with
  | none=>rw[hx] at h;cases h
  | some x=>rw[hx] at h;cases h;exact⟨x,rfl,.of_ren x⟩
 ·exact⟨o.ren σ,by rw[jY hσ,h];rfl,.of_ren o⟩
 ·exact gZ (bM hc j (gC (b6 h) j g))
theorem RenH.b {hl:List (Nat×AObj)}(hc:subset (eG hl) (keys hl)=true):RenH σ (look hl) (look (Go.AM.renH σ hl)):=by
 have key:∀i,look (Go.AM.renH σ hl) i=(look hl (σ i)).map (AObj.ren σ):=fun i=>by
  have:=jY hσ (σ i) hl;rwa [hσ] at this
 refine⟨fun i o h=>⟨o.ren σ,by rw[key,h];rfl,.to_ren hσ o⟩,fun i o h=>?_,fun i o h j g=>?_⟩
 ·rw[key] at h;cases hx:look hl (σ i) with
  | none=>rw[hx] at h;cases h
  | some x=>rw[hx] at h;cases h;exact⟨x,rfl,.to_ren hσ x⟩
 ·rw[key] at h;cases hx:look hl (σ i) with
  | none=>rw[hx] at h;cases h
  | some x=>
   rw[hx] at h;cases h;rw[AObj.refs_ren] at g;obtain⟨k,q,rfl⟩:=mem_map.1 g;obtain⟨y,hy⟩:=gZ (bM hc k (gC (b6 hx) k q));exact⟨y.ren σ,by rw[key,hσ,hy];rfl⟩
theorem aV.ren {P:Program}{f:FuncId}{args:List V}{hin hout:List (Nat×AObj)}{res:V}(h:aV P f args hin res hout) (h1:subset (eG hin) (keys hin)=true) (h2:subset (V.refsL args) (keys hin)=true) (B:subset (eG hout) (keys hout)=true) (J:subset res.refs (keys hout)=true):
  aV P f (V.renL σ args) (Go.AM.renH σ hin) (res.ren σ) (Go.AM.renH σ hout):=by
 intro S μ w vals M O;have ra:=RenH.a hσ h1;have A:=M.renH hσ ra ra;have E:i3 μ (look (Go.AM.renH σ hin))=i3 (fun i=>μ (σ i)) (look hin):=by
  funext b;refine propext ⟨?_,?_⟩
  ·rintro⟨j,o,c,g,q⟩;obtain⟨o',u,_⟩:=ra.to (σ j) o (by rw[hσ];exact g);exact⟨σ j,o',c,u,by show μ (σ (σ j))=_;rw[hσ];exact q⟩
  ·rintro⟨j,o,c,g,q⟩;obtain⟨o',u,_⟩:=ra.of j o g;exact⟨σ j,o',c,u,q⟩
 rw[E] at A;have I:aT S (fun i=>μ (σ i)) (look hin) args vals:=aT.ren args vals (fun i hi=>ra.good (gZ (bM h2 i hi))) O;refine Calls.mono (h S (fun i=>μ (σ i)) w vals A I) ?_;rintro e w' ⟨S',μ',v,g,q,u⟩;refine⟨S',fun i=>μ' (σ i),v,g,?_,?_⟩
 ·have:=q.renH hσ (RenH.b hσ h1) (RenH.b hσ B);dsimp only at this;rw[E];simpa only[hσ] using this
 ·refine aN.ren (res.ren σ) v (fun i hi=>(RenH.b hσ B).good ?_) (by rw[V.ren_ren hσ];exact u);rw[V.refs_ren] at hi;obtain⟨k,U,rfl⟩:=mem_map.1 hi;obtain⟨y,hy⟩:=gZ (bM J k U);exact⟨y.ren σ,by rw[jY hσ,hy];rfl⟩
end
def swp (a b i:Nat):Nat:=bif Nat.beq i a then b else bif Nat.beq i b then a else i
theorem aN2 (a b i:Nat):swp a b (swp a b i)=i:=by
 have hb:∀x y:Nat,(Nat.beq x y=true)↔x=y:=fun x y=>⟨δ,fun h=>by subst h;exact beq_refl _⟩
 unfold swp;cases h1:Nat.beq i a<;>cases h2:Nat.beq i b<;>simp only[Bk,Bi]
 ·rw[h1,h2];rfl
 ·cases g:Nat.beq a a with
  | true=>simp only[Bk];exact((hb _ _).1 h2).symm
  | false=>rw[beq_refl] at g;cases g
 ·cases g:Nat.beq b a with
  | true=>simp only[Bk];rw[(hb _ _).1 g,(hb _ _).1 h1]
  | false=>rw[beq_refl];simp only[Bk,Bi];exact((hb _ _).1 h1).symm
 ·have q:=(hb _ _).1 h1;have u:=(hb _ _).1 h2;have A:b=a:=by rw[←u,q]
  rw[A,beq_refl];simp only[Bk];exact q.symm
theorem aV.swap (a b:Nat) {P:Program}{f:FuncId}{args:List V}{hin hout:List (Nat×AObj)}{res:V}(h:aV P f args hin res hout) (h1:subset (eG hin) (keys hin)=true:=by rfl) (h2:subset (V.refsL args) (keys hin)=true:=by rfl) (g:subset (eG hout) (keys hout)=true:=by rfl) (q:subset res.refs (keys hout)=true:=by rfl):
  aV P f (V.renL (swp a b) args) (renH (swp a b) hin) (res.ren (swp a b)) (renH (swp a b) hout):=h.ren (aN2 a b) h1 h2 g q
end Go.AM
namespace Go.AM
open Go Go.Proofs
section
variable {QP:Value→Prop}{P:Program}{n:Nat}{ops:Array Oper}{draw:Bool}{k d:Nat}{st:St}{pre:REs}{Q:St→Prop}{o:Oper}{f:FuncId}{xs:Array Operand}{ts:Array TypeId}{ids:List Nat}{args:List V}{res:V}{hin hout:List (Nat×AObj)}
theorem kcG {j t:Nat}{want b:Bool}(B:aV P f args hin res hout)
  (E:i7 QP P n ops draw (k+1) ⟨upd st.e d (some res),fC st.h (outs hout),st.d⟩ ((⟨t::bU xs.toList,ids++keys hin++keys hout⟩,⟨some (d,some res),outs hout⟩)::pre) Q)
  (hb:fG P f:=by exact aC8 (by kernel_rfl)) (ho:ops[k]?=some o:=by rfl) (I:o.guard=some (j,want):=by rfl) (J:(ops[j]?).bind (·.dst)=some t:=by rfl) (u:st.e t=some (.one (.c (.bool b))):=by rfl) (hw:b=want:=by first | rfl | assumption) (y:o.op=.call { callee:=.value (.func f),args:=xs,argTypes:=ts }:=by rfl) (M:o.dst=some d:=by rfl) (A:Nat.blt d n=true:=by rfl)
  (ha:ArgsV st ids xs.toList args:=by repeat (first | exact .nil | (apply Go.AM.ArgsV.cons rfl;(first | exact .refl | exact .one (.c .nl .nil) | exact .one (.c .sn .nil) | exact .one (.hs rfl (by first | rfl | simp) (by first | rfl | (simp;done) | (simp[Go.AM.take_map];done) | exact Go.AM.take_map.symm) .nil) | exact Go.AM.hs_all rfl rfl (by first | rfl | assumption | (simp;done) | (simp;omega)) (by first | rfl | assumption | (simp;done)) | ((first | apply Go.AM.Conv.pa | apply Go.AM.Conv.agg);repeat (first | exact .nil | apply Go.AM.PureL.c .refl | apply Go.AM.PureL.c .nl | apply Go.AM.PureL.c .sn | (apply Go.AM.PureL.hs;rfl;(first | rfl | simp);(first | rfl | (simp;done) | (simp[Go.AM.take_map];done) | exact Go.AM.take_map.symm))))))))
  (q:eF (fun p=>st.h p.1=some p.2) hin:=by repeat (first | exact trivial | refine⟨rfl,?_⟩)) (g:eF (fun p=>p.1∈keys hin∨st.h p.1=none) hout:=by repeat (first | exact trivial | refine⟨.inr rfl,?_⟩ | refine⟨.inl (by decide),?_⟩ | refine⟨.inl (by repeat (first | exact List.Mem.head _ | apply List.Mem.tail)),?_⟩)) (hok:dU args hin=true:=by rfl):i7 QP P n ops draw k st pre Q:=
 k_ (GStep.yes ho I J u hw (aE5 hin hout hb y M (eC A) B ha q g hok)) E
end
end Go.AM
namespace Go.AM
open Go
inductive CsLe:List C→List C→Prop
 | nil:CsLe [] []
 | cons {c c':C} {l l':List C} (h0:Cle c c') (h:CsLe l l'):CsLe (c::l) (c'::l')
inductive RowsLe:List (List C)→List (List C)→Prop
 | nil:RowsLe [] []
 | cons {r r':List C} {l l':List (List C)} (h:CsLe r r') (k:RowsLe l l'):RowsLe (r::l) (r'::l')
theorem CsLe.length {l l':List C}(h:CsLe l l'):l'.length=l.length:=by
 induction h with
 | nil=>rfl
 | cons h0 h g=>simp[g]
theorem CsLe.rep {S:Sto}{l l':List C}(h:CsLe l l'):∀{vs:List Value},bS S l vs→bS S l' vs:=by
 induction h with
 | nil=>exact fun k=>k
 | cons h0 h g=>
  intro vs k;simp only[bS] at k ⊢;obtain⟨v,vs',rfl,h1,h2⟩:=k;exact⟨v,vs',rfl,h0.rep h1,g h2⟩
theorem CsLe.app {a g b q:List C}(h:CsLe a g) (k:CsLe b q):CsLe (a++b) (g++q):=by
 induction h with
 | nil=>exact k
 | cons h0 h u=>exact .cons h0 u
theorem RowsLe.flat {l l':List (List C)}(h:RowsLe l l'):CsLe l.flatten l'.flatten:=by
 induction h with
 | nil=>exact .nil
 | cons h k g=>simp only[Bb];exact h.app g
theorem RowsLe.length {l l':List (List C)}(h:RowsLe l l'):l'.length=l.length:=by
 induction h with
 | nil=>rfl
 | cons h k g=>simp[g]
theorem RowsLe.rows {l l':List (List C)}(h:RowsLe l l') {n:Nat}:(∀r∈l,r.length=n)→∀r∈l',r.length=n:=by
 induction h with
 | nil=>exact fun h=>h
 | cons h k q=>
  intro hl r g;rcases Au.1 g with rfl | g
  ·rw[h.length];exact hl _ Bu
  ·exact q (fun x hx=>hl x (Bh _ hx)) r g
theorem Sub.arrWeak {kf:List Nat}{st:St}{x te es fz:Nat}{rows q:List (List C)}(h:st.h x=some (.arr te es rows fz)) (hp:RowsLe rows q):Sub kf ⟨st.e,upd st.h x (some (.arr te es q fz)),st.d⟩ st:=by
 intro G n S μ a w _ hs;have hi:=hs.inv;have ho:=hi.obj x _ h
 have B:Evolve S μ st.h S μ (upd st.h x (some (.arr te es q fz))):=⟨S.le_refl,fun j y A=>by
  by_cases u:j=x
  ·subst u;rw[h] at A;cases A;exact⟨_,aH _ _ _,by simp[AObj.succ,hp.length]⟩
  ·exact⟨y,by rw[aW _ _ _ u];exact A,y.succ_refl rfl⟩⟩
 have hold:∀j y,upd st.h x (some (.arr te es q fz)) j=some y→∃O,st.h j=some O:=fun j y A=>by
  by_cases u:j=x
  ·subst u;exact⟨_,h⟩
  ·rw[aW _ _ _ u] at A;exact⟨_,A⟩
 refine⟨S,μ,⟨⟨hi.holds,fun j y A=>?_,fun i j y O b c c' E A hm U=>?_,fun i y b c E hm=>?_,hi.frame,hi.sle,hi.sto,hi.evo.trans B,hi.fre⟩,hs.size,hs.defers.evolve B,fun s v e=>aN.evolve B v _ (hs.env s v e)⟩⟩
 ·by_cases u:j=x
  ·subst u;have I:some (AObj.arr te es q fz)=some y:=by rw[←A];exact(aH _ _ _).symm
   cases I;obtain⟨Y,g⟩:=ho;refine⟨hp.rows Y,?_⟩;rcases g with⟨J,M⟩ | ⟨b,base,cap,vs,J,M,g3,g4,g5,g6,g7,g8,g9⟩
   ·subst M;cases hp;exact .inl ⟨J,rfl⟩
   ·refine .inr ⟨b,base,cap,vs,J,M,g3,by rw[hp.length];exact g4,g5,?_,g7,?_,?_⟩
    ·rw[hp.length];exact hp.flat.rep g6
    ·rw[hp.length];exact g8
    ·rw[hp.length];exact g9
  ·have I:st.h j=some y:=by rw[←A];exact(aW _ _ _ u).symm
   exact(hi.obj j y I).evolve B rfl fun _ _ _=>⟨rfl,fun _=>rfl,rfl⟩
 ·obtain⟨_,h1⟩:=hold _ _ E;obtain⟨_,h2⟩:=hold _ _ A;exact hi.inj i j _ _ b c c' h1 h2 hm U
 ·obtain⟨_,h1⟩:=hold _ _ E;exact hi.own i _ b c h1 hm
theorem aw {kf:List Nat}{st:St}(x:Nat) {te es fz:Nat}{rows:List (List C)}(g:List (List C)) (h:st.h x=some (.arr te es rows fz):=by rfl)
  (hp:RowsLe rows g:=by repeat (first | exact .nil | apply Go.AM.RowsLe.cons | apply Go.AM.CsLe.cons .refl | apply Go.AM.CsLe.cons .nl)):Sub kf ⟨st.e,upd st.h x (some (.arr te es g fz)),st.d⟩ st:=Sub.arrWeak h hp
theorem kY {S:Sto}{c:C}{v:Value}(h:Rep S c v):∀m:Nat,bS S (List.replicate m c) (List.replicate m v)
 | 0=>by simp[bS]
 | m+1=>by
  rw[replicate_succ,replicate_succ];simp only[bS];exact⟨v,_,rfl,h,kY h m⟩
theorem sC (v:Value) (m:Nat):(madeCells #[v] m).toList=List.replicate m v:=by
 refine List.eq_replicate_iff.2 ⟨by simp[madeCells],fun x hx=>?_⟩;simp only[madeCells,Array.toList_map,mem_map] at hx;obtain⟨i,_,rfl⟩:=hx;simp[Nat.mod_one]
section
variable {P:Program}{n:Nat}
theorem jS {o:Oper}{st:St}{d:Nat}{T:TT}{t e:TypeId}{i g:TI}{x y:Operand}{m:Nat}{c:C}{J M:IntKind}(id:Nat) (O:Tok P T) (ho:o.op=.makeSlice t x y) (hd:o.dst=some d) (U:d<n)
  (hi:T[t]?=some (some i)) (hk:i.k=.sl e) (Y:T[e]?=some (some g)) (A:g.size=1) (hz:g.zero=[c]) (hx:opv st x=some (I J m)) (hy:opv st y=some (I M m)) (hm:m≤1000000) (hb:g.bytes*m≤281474976710656) (aa:st.h id=none):
  Step P n o st ⟨opr x++opr y,[id]⟩ ⟨some (d,some (.one (.hs id 0 m m))),[(id,some (.arr e g.size (List.replicate m [c]) 0))]⟩:=by
 refine Step.new hd U aa (by simp) fun st' ha hid' G S μ a w hs=>?_
 obtain⟨inf,dd,z,g1,g2,g3,g4,g5,g6,g7,g8,g9⟩:=(O.get Y).ex;have vx:=aK hs hx fun t E=>ha.1 t (by simp[E])
 have vy:=aK hs hy fun t E=>ha.1 t (by simp[E])
 simp only[aN,aY,Rep] at vx vy;have q:bS S g.zero z.cells.toList:=fY (S:=S) g7;rw[hz] at q;simp only[bS] at q;obtain⟨v,us,hzv,hv,hus⟩:=q;subst hus;have hzc:z.cells= #[v]:=by rw[←Array.toList_inj,hzv]
 have hb':(inf.bytes:Int)*(m:Int)≤281474976710656:=by
  rw[g4];have h:((g.bytes*m:Nat):Int)≤281474976710656:=by omega
  rwa [Int.natCast_mul] at h
 have u:=run_make (P:=P) w t e inf z ((O.get hi).slice hk) g1 g6 J M (m:Int) (m:Int) (by omega) (Int.le_refl _) hb' (by omega);rw[g3,A,mul_one,Int.toNat_natCast,hzc] at u;have B:=sC v m;generalize madeCells #[v] m=out at u B;refine⟨_,_,.slice (some ⟨w.heap.size,0,none⟩) m m,(0,m),?_,WChg.alloc w (.cells out e),?_,?_⟩
 ·simp only[execOp,ho,vx,vy,π,u,ζ,τ]
 ·refine⟨fun r hr=>by rw[(List.mem_replicate.1 hr).2,A];rfl,.inr ⟨w.heap.size,0,m,out.toList,aH _ _ _,Bx w _,by simp[B,A],by simp,?_,?_,fun _ o _=>eJ hs.inv o,fun o _=>eJ hs.inv o,fun e=>by cases e⟩⟩
  ·have:(1000000:Nat)≤maxLen:=by decide
   exact⟨by omega,nQ hs.inv⟩
  ·rw[B,A];simp only[B0,Cr,mul_one];rw[Aw (by simp),List.flatten_replicate_singleton];exact kY hv m
 ·simp only[aN,aY];exact⟨⟨_,_,_,rfl⟩,.inr ⟨e,g.size,_,0,aH _ _ _,by simp,fun _=>⟨by simp,.inr ⟨w.heap.size,0,m,aH _ _ _,by simp⟩⟩⟩⟩
end
theorem Inv.grownR {G:Ctx}{S:Sto}{μ:Mu}{H:bX}{w:World}(h:Inv G S μ H w) (k:Nat) (os:Array Obj):Inv G S μ H ({ w with heap:=w.heap++os,drawn:=w.drawn+k }):=by
 have hold:∀b:Nat,b<w.heap.size→({ w with heap:=w.heap++os,drawn:=w.drawn+k }:World).heap[b]?=w.heap[b]?:=fun b hb=>by
  show(w.heap++os)[b]?=w.heap[b]?;exact Cc hb
 have hsz:w.heap.size≤({ w with heap:=w.heap++os,drawn:=w.drawn+k }:World).heap.size:=by
  show w.heap.size≤(w.heap++os).size;rw[Array.size_append];omega
 obtain⟨h1,h2,y,A,B,E,I,J,M⟩:=h;refine⟨⟨fun b o v e=>?_,fun b mk e=>?_⟩,fun id o e=>(h2 id o e).evolve (Evolve.refl _ _ _) rfl fun b c hm=>⟨hold b ((h2 id o e).lt hm),fun _=>rfl,rfl⟩,y,A,?_,E,I,J,M⟩
 ·obtain⟨vs,t,O,u,q⟩:=h1.1 b o v e;exact⟨vs,t,O,by rw[hold b (c9 u)];exact u,q⟩
 ·have g:=h1.2 b mk e;obtain⟨_,q⟩:=MK.holds_some g;rw[hold b (c9 q)];exact g
 ·obtain⟨f1,f2,f3,f4,f5,f6⟩:=B;exact⟨f1,f2,f3,le_trans f4 hsz,fun b hb U=>by rw[hold b (A8 hb f4)];exact f5 b hb U,f6⟩
end Go.AM
namespace Go.Proofs.YtkhgpgihmphfdaaGreat
open Go Go.AM
set_option maxRecDepth 100000
set_option maxHeartbeats 4000000
def dgB (c:Nat):Bool:=decide (48≤c∧c≤57)
def sgB (c:Nat):Bool:=plB c || decide (c=39∨c=95)
def wiB (c lo hi:Int):Bool:=decide (lo≤c∧c≤hi)
theorem gX (c lo hi:Int) (w:World):Calls Tryz.prog 203 #[.int .u8 c,.int .u8 lo,.int .u8 hi] w fun e w'=>e=.returned (.bool (wiB c lo hi))∧w=w':=by
 go_enter Tryz.func203,Tryz.ntmps203
 go_wp2
 all_goals go_ret
 all_goals refine⟨congrArg Ending.returned (congrArg Value.bool (a₂:=wiB c lo hi) ?_),rfl⟩
 all_goals (unfold wiB;rw[Bt];simp;omega)
theorem pP (c:Nat) (w:World):Calls Tryz.prog 116 #[.int .u8 (c:Int)] w fun e w'=>e=.returned (.bool (dgB c))∧w=w':=by
 go_enter Tryz.func116,Tryz.ntmps116
 go_wp2
 all_goals go_ret
 all_goals refine⟨congrArg Ending.returned (congrArg Value.bool (a₂:=dgB c) ?_),rfl⟩
 all_goals (unfold dgB;rw[Bt];simp;omega)
theorem aB1 (c:Nat) (w:World):Calls Tryz.prog 119 #[.int .u8 (c:Int)] w fun e w'=>e=.returned (.bool (sgB c))∧w=w':=by
 go_enter Tryz.func119,Tryz.ntmps119
 go_wp2_with (go_at_call 116;(with_reducible refine(pP _ _).mono ?_);rintro e w' ⟨rfl,rfl⟩)
 all_goals go_ret
 all_goals refine⟨congrArg Ending.returned (congrArg Value.bool (a₂:=sgB c) ?_),rfl⟩
 all_goals (rw[Bt];unfold sgB plB;unfold dgB at *;simp at *;omega)
theorem uS (c:Nat) (w:World):Calls Tryz.prog 202 #[.int .u8 (c:Int)] w fun e w'=>e=.returned (.bool (plB c))∧w=w':=by
 go_enter Tryz.func202,Tryz.ntmps202
 go_wp2_with (go_at_call 203;first | ((with_reducible refine(gX c 97 122 _).mono ?_);rintro e w' ⟨rfl,rfl⟩) | ((with_reducible refine(gX c 65 90 _).mono ?_);rintro e w' ⟨rfl,rfl⟩) | ((with_reducible refine(gX c 48 57 _).mono ?_);rintro e w' ⟨rfl,rfl⟩))
 all_goals go_ret
 all_goals refine⟨congrArg Ending.returned (congrArg Value.bool (a₂:=plB c) ?_),rfl⟩
 all_goals (rw[Bt];unfold plB;unfold wiB at *;simp at *;omega)
theorem y1 (s:ByteArray) (c:Int) (w:World):Calls Tryz.prog 178 #[.string s,.int .u8 c] w fun e w'=>e=.returned (.int .i64 (Lib.indexByte s.data.toList c.toNat.toUInt8))∧w=w':=by
 go_enter Tryz.func178,Tryz.ntmps178
 go_wp2
 rw[run_callFunc_extern Tryz.func205 (by kernel_rfl) (by kernel_rfl) (by kernel_rfl) (e:=Extern.BytealgIndexByte.indexByte) (by kernel_rfl),Lib.run_indexByteString];simp only[Result.andThen];rw[Oper.upon_value]
 go_wp2
 go_ret
 exact⟨rfl,rfl⟩
theorem jM (s:ByteArray) (c:Int) (w:World):Calls Tryz.prog 129 #[.string s,.int .u8 c] w fun e w'=>e=.returned (.int .i64 (Lib.indexByte s.data.toList c.toNat.toUInt8))∧w=w':=by
 go_enter Tryz.func129,Tryz.ntmps129
 go_wp2_with (go_at_call 178;(with_reducible refine(y1 _ _ _).mono ?_);rintro e w' ⟨rfl,rfl⟩)
 go_ret
 exact⟨rfl,rfl⟩
theorem pE (c:UInt8) (w:World) (hc:c.toNat<128):Calls Tryz.prog 182 #[.string ⟨#[c]⟩] w (kJ (nmQ c.toNat 97 122) w):=by
 go_enter Tryz.func182,Tryz.ntmps182
 go_wp2_with (go_at_call 206;(with_reducible refine(qZ c 97 122 _ hc).mono ?_);rintro e w' ⟨rfl,os,rfl⟩)
 go_ret
 exact⟨rfl,os,rfl⟩
theorem oP (c:UInt8) (w:World) (hc:c.toNat<128):Calls Tryz.prog 183 #[.string ⟨#[c]⟩] w (kJ (nmQ c.toNat 65 90) w):=by
 go_enter Tryz.func183,Tryz.ntmps183
 go_wp2_with (go_at_call 206;(with_reducible refine(qZ c 65 90 _ hc).mono ?_);rintro e w' ⟨rfl,os,rfl⟩)
 go_ret
 exact⟨rfl,os,rfl⟩
theorem aGc (c:UInt8) (hc:c.toNat<128):Utf8.encode (c.toNat:Int)=⟨#[c]⟩:=by
 have h:(c.toNat:Int).toNat=c.toNat:=by omega
 have g:Utf8.valid (c.toNat:Int)=true:=by unfold Utf8.valid;simp;omega
 unfold Utf8.encode;rw[g];simp[h,hc]
theorem uX (s:ByteArray) (w:World) (r k:Nat) (h:0<s.size) (g:Utf8.decode s 0=(r,k)) (q:127<r):Calls Tryz.prog 182 #[.string s] w (kJ false w):=by
 go_enter Tryz.func182,Tryz.ntmps182
 go_wp2_with (go_at_call 206;(with_reducible refine(aAf s 97 122 _ r k h g q).mono ?_);rintro e w' ⟨rfl,os,rfl⟩)
 go_ret
 exact⟨rfl,os,rfl⟩
theorem tY (s:ByteArray) (w:World) (r k:Nat) (h:0<s.size) (g:Utf8.decode s 0=(r,k)) (q:127<r):Calls Tryz.prog 183 #[.string s] w (kJ false w):=by
 go_enter Tryz.func183,Tryz.ntmps183
 go_wp2_with (go_at_call 206;(with_reducible refine(aAf s 65 90 _ r k h g q).mono ?_);rintro e w' ⟨rfl,os,rfl⟩)
 go_ret
 exact⟨rfl,os,rfl⟩
def aU0:List UInt8:=[48,49,50,51,52,53,54,55,56,57]
def sgS:List UInt8:=[48,49,50,51,52,53,54,55,56,57,39,95]
def ixB (l:List UInt8) (c:UInt8):Bool:=decide (0≤Lib.indexByte l c)
theorem iZ {p:UInt8→Prop}(h:∀n:_root_.Fin 256,p (UInt8.ofNat n.val)) (c:UInt8):p c:=by
 have:=h ⟨c.toNat,c.toNat_lt⟩;rwa [show UInt8.ofNat c.toNat=c by simp] at this
theorem aJb (c:UInt8):(nmQ c.toNat 97 122 || (nmQ c.toNat 65 90 || ixB sgS c))=sgB c.toNat:=iZ (p:=fun c=>(nmQ c.toNat 97 122 || (nmQ c.toNat 65 90 || ixB sgS c))=sgB c.toNat) (by decide+kernel) c
theorem aWa (c:UInt8):ixB aU0 c=dgB c.toNat:=iZ (p:=fun c=>ixB aU0 c=dgB c.toNat) (by decide+kernel) c
theorem vB (c:UInt8) (w:World) (hc:c.toNat<128):Calls Tryz.prog 184 #[.int .u8 (c.toNat:Int)] w (kJ (sgB c.toNat) w):=by
 rw[←aJb]
 go_enter Tryz.func184,Tryz.ntmps184
 go_wp2_with (first | (go_at_call 182;rw[aGc c hc];(with_reducible refine(pE c _ hc).mono ?_);rintro e w' ⟨rfl,os,rfl⟩) | (go_at_call 183;rw[aGc c hc];(with_reducible refine(oP c _ hc).mono ?_);rintro e w' ⟨rfl,os,rfl⟩) | (go_at_call 129;(with_reducible refine(jM _ _ _).mono ?_);rintro e w' ⟨rfl,rfl⟩))
 all_goals go_ret
 ·exact⟨congrArg Ending.returned (congrArg Value.bool (a₂:=_) (by rename_i h;rw[h];rfl)),_,rfl⟩
 ·exact⟨congrArg Ending.returned (congrArg Value.bool (a₂:=_) (by simp[*])),_,rfl⟩
 ·exact⟨congrArg Ending.returned (congrArg Value.bool (a₂:=_) (by simp[*];rfl)),_,rfl⟩
theorem aGg (c:UInt8):128≤c.toNat→Utf8.decode ⟨#[c]⟩ 0=(65533,1):=iZ (p:=fun c=>128≤c.toNat→Utf8.decode ⟨#[c]⟩ 0=(65533,1)) (by decide+kernel) c
theorem aPh (c:UInt8):128≤c.toNat→0<(Utf8.encode (c.toNat:Int)).size∧Utf8.decode (Utf8.encode (c.toNat:Int)) 0=(c.toNat,2):=iZ (p:=fun c=>128≤c.toNat→0<(Utf8.encode (c.toNat:Int)).size∧Utf8.decode (Utf8.encode (c.toNat:Int)) 0=(c.toNat,2)) (by decide+kernel) c
theorem aFp (c:UInt8) (w:World):Calls Tryz.prog 182 #[.string ⟨#[c]⟩] w (kJ (nmQ c.toNat 97 122) w):=by
 by_cases hc:c.toNat<128
 ·exact pE c w hc
 ·rw[aJw (.inl (by unfold fiB;simp;omega))];exact uX _ w _ _ (by show 0<1;decide) (aGg c (by omega)) (by decide)
theorem aD1 (c:UInt8) (w:World):Calls Tryz.prog 183 #[.string ⟨#[c]⟩] w (kJ (nmQ c.toNat 65 90) w):=by
 by_cases hc:c.toNat<128
 ·exact oP c w hc
 ·rw[aJw (.inl (by unfold fiB;simp;omega))];exact tY _ w _ _ (by show 0<1;decide) (aGg c (by omega)) (by decide)
theorem aVb (c:UInt8):128≤c.toNat→ixB sgS c=sgB c.toNat:=iZ (p:=fun c=>128≤c.toNat→ixB sgS c=sgB c.toNat) (by decide+kernel) c
theorem aCp (c:UInt8) (w:World):Calls Tryz.prog 184 #[.int .u8 (c.toNat:Int)] w (kJ (sgB c.toNat) w):=by
 by_cases hc:c.toNat<128
 ·exact vB c w hc
 have g:128≤c.toNat:=by omega
 obtain⟨h1,h2⟩:=aPh c g;rw[←aVb c g]
 go_enter Tryz.func184,Tryz.ntmps184
 go_wp2_with (first | (go_at_call 182;(with_reducible refine(uX _ _ _ _ h1 h2 (by omega)).mono ?_);rintro e w' ⟨rfl,os,rfl⟩) | (go_at_call 183;(with_reducible refine(tY _ _ _ _ h1 h2 (by omega)).mono ?_);rintro e w' ⟨rfl,os,rfl⟩) | (go_at_call 129;(with_reducible refine(jM _ _ _).mono ?_);rintro e w' ⟨rfl,rfl⟩))
 all_goals go_ret
 all_goals exact⟨congrArg Ending.returned (congrArg Value.bool (a₂:=_) (by first | rfl | (simp[*];rfl) | simp[*])),_,rfl⟩
theorem aFw {f:FuncId}(c:Nat) (b:Bool) (h:∀w,Calls Tryz.prog f #[.int .u8 (c:Int)] w (fun e w'=>e=.returned (.bool b)∧w=w')):aV Tryz.prog f [I .u8 c] [] (B b) []:=by
 intro S μ w vals q g;simp only[aT,aN,aY,Rep] at g;obtain⟨v1,u,rfl,rfl,rfl⟩:=g;refine Calls.mono (h w) ?_;rintro e w' ⟨rfl,rfl⟩;refine⟨S,μ,_,rfl,q,?_⟩;simp only[aN,aY,Rep]
theorem aO9 {f:FuncId}(c:Nat) (b:Bool) (h:∀w,Calls Tryz.prog f #[.int .u8 (c:Int)] w (kJ b w)):aV Tryz.prog f [I .u8 c] [] (B b) []:=by
 intro S μ w vals q g;simp only[aT,aN,aY,Rep] at g;obtain⟨v1,u,rfl,rfl,rfl⟩:=g;refine Calls.mono (h w) ?_;rintro e w' ⟨rfl,os,rfl⟩;refine⟨S,μ,_,rfl,q.grownR 0 os,?_⟩;simp only[aN,aY,Rep]
theorem aAn {f:FuncId}(s:Str) (b:Bool) (h:∀w,Calls Tryz.prog f #[.string ⟨⟨s⟩⟩] w (kJ b w)):aV Tryz.prog f [Go.AM.T s] [] (B b) []:=by
 intro S μ w vals q g;simp only[aT,aN,aY,Rep] at g;obtain⟨v1,u,rfl,rfl,rfl⟩:=g;refine Calls.mono (h w) ?_;rintro e w' ⟨rfl,os,rfl⟩;refine⟨S,μ,_,rfl,q.grownR 0 os,?_⟩;simp only[aN,aY,Rep]
theorem aHb (c:Nat):aV Tryz.prog 116 [I .u8 c] [] (B (dgB c)) []:=aFw c _ (pP c)
theorem aTj (c:Nat):aV Tryz.prog 119 [I .u8 c] [] (B (sgB c)) []:=aFw c _ (aB1 c)
theorem aKu (c:Nat):aV Tryz.prog 202 [I .u8 c] [] (B (plB c)) []:=aFw c _ (uS c)
theorem aK2 (c:UInt8):aV Tryz.prog 184 [I .u8 c.toNat] [] (B (sgB c.toNat)) []:=aO9 _ _ fun w=>aCp c w
theorem aLk (c:UInt8):aV Tryz.prog 182 [Go.AM.T [c]] [] (B (nmQ c.toNat 97 122)) []:=aAn [c] _ fun w=>aFp c w
theorem aLf (c:UInt8):aV Tryz.prog 183 [Go.AM.T [c]] [] (B (nmQ c.toNat 65 90)) []:=aAn [c] _ fun w=>aD1 c w
theorem pV (s:Str) (c:UInt8):aV Tryz.prog 129 [Go.AM.T s,I .u8 c.toNat] [] (I .i64 (Lib.indexByte s c)) []:=by
 intro S μ w vals q g;simp only[aT,aN,aY,Rep] at g;obtain⟨v1,u,rfl,rfl,v2,y,rfl,rfl,rfl⟩:=g;refine Calls.mono (jM _ _ w) ?_;rintro e w' ⟨rfl,rfl⟩;refine⟨S,μ,_,rfl,q,?_⟩;rw[show(c.toNat:Int).toNat.toUInt8=c by simp];simp only[aN,aY,Rep]
theorem aGr (c lo hi:Nat):aV Tryz.prog 203 [I .u8 c,I .u8 lo,I .u8 hi] [] (B (wiB c lo hi)) []:=by
 intro S μ w vals q g;simp only[aT,aN,aY,Rep] at g;obtain⟨v1,u,rfl,rfl,v2,y,rfl,rfl,v3,A,rfl,rfl,rfl⟩:=g;refine Calls.mono (gX _ _ _ w) ?_;rintro e w' ⟨rfl,rfl⟩;refine⟨S,μ,_,rfl,q,?_⟩;simp only[aN,aY,Rep]
structure Tk where
 kind:Int
 text:Str
 n:Int
 pl:Int
def aI (t:Tk):List C:=[.int .i64 t.kind,.str t.text,.int .i64 t.n,.int .i64 t.pl]
def aDo:List C:=[.int .i64 0,.str [],.int .i64 0,.int .i64 0]
def cD (p:Nat→Bool):Str→Nat
 | []=>0
 | c::s=>if p c.toNat=true then cD p s+1 else 0
theorem fK (p:Nat→Bool):∀s:Str,cD p s≤s.length
 | []=>le_refl _
 | c::s=>by
  rw[cD,Aa];have:=fK p s;split<;>omega
theorem lI (p:Nat→Bool):∀(s:Str) (i:Nat),i≤cD p s→∀c,s[i]?=some c→(p c.toNat=true↔i<cD p s)
 | [],i,_,c,h=>by cases h
 | a::s,0,_,c,h=>by
  have e:a=c:=by simpa using h
  subst e;rw[cD];by_cases hp:p a.toNat=true
  ·rw[θ hp];exact⟨fun _=>by omega,fun _=>hp⟩
  ·rw[ξ hp];exact⟨fun h=>absurd h hp,fun h=>by omega⟩
 | a::s,i+1,hi,c,h=>by
  rw[cD] at hi ⊢;by_cases hp:p a.toNat=true
  ·rw[θ hp] at hi ⊢;rw[lI p s i (by omega) c (by simpa using h)];omega
  ·rw[ξ hp] at hi;omega
def neB (c:Nat):Bool:=!decide (c=10)
def preB (x s:Str):Bool:=decide (x.length≤s.length)&&decide (s.take x.length=x)
def blB (c:Nat):Bool:=decide (c=32∨c=9∨c=10)
def eL (s:Str):Nat:=match s with
 | []=>0
 | c::_=>if blB c.toNat=true then 1 else if preB [45,45] s=true then 2+cD neB (s.drop 2) else 0
def kR:Str→Int→Int
 | [],k=>k
 | c::s,k=>if k<3000000000 then kR s (k*10+((c.toNat:Int)-48)) else k
def qB:List Str:=[[45,62],[61,62],[92],[61],[124],[40],[41],[123],[125],[59],[58],[44],[95]]
def n0 (s:Str):Str:=match qB.find? fun x=>preB x s with | some x=>x | none=>[]
def pH:List Str:=[[99,97,115,101],[99,108,97,115,115],[100,97,116,97],[105,110],[105,110,115,116,97,110,99,101],[108,101,116],[111,102]]
abbrev TE:=Except Int (Int×Str×Int)
def m8 (s:Str) (up:Bool):TE:=
 if 32<cD sgB s then .error 2
 else if up=true then .ok (2,s.take (cD sgB s),0)
 else if s.take (cD sgB s)∈pH then .ok (5,s.take (cD sgB s),0)
 else .ok (1,s.take (cD sgB s),0)
def gG:Str→TE
 | []=>.error 10
 | c::s=>
  if dgB c.toNat=true then
   (if 2147483647<kR ((c::s).take (cD dgB (c::s))) 0 then .error 11 else .ok (3,(c::s).take (cD dgB (c::s)),kR ((c::s).take (cD dgB (c::s))) 0))
  else if wiB c.toNat 97 122=true∨wiB c.toNat 65 90=true then m8 (c::s) (wiB c.toNat 65 90)
  else if n0 (c::s)=[] then .error 10 else .ok (4,n0 (c::s),0)
def aW8:TE→V
 | .ok (k,t,v)=>.tup [.pa [.int .i64 k,.str t,.int .i64 v,.int .i64 0],I .i64 0]
 | .error e=>.tup [.pa aDo,I .i64 e]
theorem aBd (c:UInt8) (lo hi:Nat):aV Tryz.prog 171 [Go.AM.T [c],I .u8 lo,I .u8 hi] [] (B (sgB c.toNat&&wiB c.toNat lo hi)) []:=by
 have hp:=aKu c.toNat;have hw:=aGr c.toNat lo hi;refine bF (n:=46) tok Tryz.func171 rfl rfl rfl ?_;refine sg rfl (aA (sgh [(3,.bv false),(7,.bv false)] rfl (aB rfl (fun hb=>by simp at hb) (fun _=>aD (aA (sg rfl (aE (aL (fun i:Nat=>mk [(0,Go.AM.T [c]),(1,I .u8 lo),(2,I .u8 hi),(7,I .i64 i)] []) (fun i=>i=0∨(i=1∧sgB c.toNat=true)) (fun i=>1-i) 0 (.inl rfl) sl ?_))))))));rintro i (rfl | ⟨rfl,hs⟩)
 ·refine aA (sg rfl (aB rfl (fun _=>aD (aA (aE (skh 3 [(2,.byte 0 c)] rfl (kc hp ?_))))) (fun hb=>by simp at hb)));refine kz 1 rfl ?_;by_cases h1:plB c.toNat=true
  ·rw[h1];have hs:sgB c.toNat=true:=by unfold sgB;rw[h1];rfl
   exact sgh [(2,.bv false),(7,.bv false),(8,.bv false),(13,.bv false)] rfl (aB rfl (fun hb=>absurd hb (by decide)) (fun _=>aD (ag [] rfl ⟨1,.inr ⟨rfl,hs⟩,by decide,sl⟩)))
  ·have h1:=Cq _ |>.mp h1;rw[h1];by_cases h2:(c.toNat:Int)=39
   ·have d2:(!decide ((c.toNat:Int)=39))=false:=by rw[φ h2];rfl
    have hs:sgB c.toNat=true:=by unfold sgB;rw[φ (by omega),Bool.or_true]
    exact sgh [(2,.bv true),(5,.byte 0 c),(7,.bv true),(8,.bv false),(13,.bv false)] rfl (aB rfl (fun hb=>absurd hb (by decide)) (fun _=>aD (ag [] rfl ⟨1,.inr ⟨rfl,hs⟩,by decide,sl⟩)))
   have d2:(!decide ((c.toNat:Int)=39))=true:=by rw[ψ h2];rfl
   by_cases g:(c.toNat:Int)=95
   ·have d3:(!decide ((c.toNat:Int)=95))=false:=by rw[φ g];rfl
    have hs:sgB c.toNat=true:=by unfold sgB;rw[φ (by omega),Bool.or_true]
    exact sgh [(2,.bv true),(5,.byte 0 c),(7,.bv true),(8,.bv true),(11,.byte 0 c),(13,.bv true)] rfl (aB rfl (fun hb=>absurd (hb.symm.trans d3) (by decide)) (fun _=>aD (ag [] rfl ⟨1,.inr ⟨rfl,hs⟩,by decide,sl⟩)))
   ·have d3:(!decide ((c.toNat:Int)=95))=true:=by rw[ψ g];rfl
    have hs:sgB c.toNat=false:=by unfold sgB;rw[h1,ψ (by omega)];rfl
    refine sgh [(2,.bv true),(5,.byte 0 c),(7,.bv true),(8,.bv true),(11,.byte 0 c),(13,.bv true)] rfl (aB rfl (fun _=>sg rfl ?_) (fun hb=>absurd (hb.symm.trans d3) (by decide)));rw[hs];exact aF rtT
 ·rw[hs];refine aA (sg rfl (aB rfl (fun hb=>by simp at hb) (fun _=>aG (skh 4 [(1,.byte 0 c)] rfl (kc hw ?_)))));exact kz 1 rfl (aF rtT)
theorem aEg (c:Nat):(sgB c&&wiB c 97 122)=wiB c 97 122:=by
 unfold sgB plB wiB;rw[Bt];simp;omega
theorem aEf (c:Nat):(sgB c&&wiB c 65 90)=wiB c 65 90:=by
 unfold sgB plB wiB;rw[Bt];simp;omega
theorem aLj (c:UInt8):aV Tryz.prog 117 [Go.AM.T [c]] [] (B (wiB c.toNat 97 122)) []:=by
 have h:=aBd c 97 122;rw[show((97:Nat):Int)=97 from rfl,show((122:Nat):Int)=122 from rfl,aEg] at h;refine bF (n:=5) tok Tryz.func117 rfl rfl rfl ?_;refine sg rfl (sk 1 rfl (kc h ?_));exact kz 1 rfl (aF rtT)
theorem aLe (c:UInt8):aV Tryz.prog 118 [Go.AM.T [c]] [] (B (wiB c.toNat 65 90)) []:=by
 have h:=aBd c 65 90;rw[show((65:Nat):Int)=65 from rfl,show((90:Nat):Int)=90 from rfl,aEf] at h;refine bF (n:=5) tok Tryz.func118 rfl rfl rfl ?_;refine sg rfl (sk 1 rfl (kc h ?_));exact kz 1 rfl (aF rtT)
theorem lA {p:Str→Bool}{l:List Str}{i:Nat}{x:Str}(h:(l.take i).find? p=none) (hx:l[i]?=some x) (hp:p x=false):(l.take (i+1)).find? p=none:=by
 rw[Bg,hx,List.find?_append,h];show [x].find? p=none;rw[List.find?_cons,hp];rfl
theorem l9 {p:Str→Bool}{l:List Str}{i:Nat}{x:Str}(h:(l.take i).find? p=none) (hx:l[i]?=some x) (hp:p x=true):l.find? p=some x:=by
 have e:l=l.take i++x::l.drop (i+1):=by
  obtain⟨h1,h2⟩:=Af.1 hx;have:=A7 h1;rw[h2] at this;rw[←this];exact(take_append_drop i l).symm
 rw[e,List.find?_append,h,List.find?_cons,hp];rfl
theorem aKq (s:Str):aV Tryz.prog 121 [Go.AM.T s] [] (Go.AM.T (n0 s)) []:=by
 have q:(qB.map aX).length=qB.length:=χ _;refine bF (n:=38) tok Tryz.func121 rfl rfl rfl ?_;refine sg rfl (sgh [(0,.all)] rfl (aA (sg rfl (aE (aL (fun i:Nat=>mk [(0,Go.AM.T s),(3,.one (.c (.sl 1 (qB.map aX)))),(4,I .i64 i)] []) (fun i=>i≤qB.length∧(qB.take i).find? (fun x=>preB x s)=none) (fun i=>qB.length-i) 0 ⟨Ad _,rfl⟩ sl ?_)))));rintro i ⟨hi,hn⟩;refine aA (sg rfl (aB rfl (fun hb=>?_) (fun hb=>?_)))
 ·have g:=ltD hb q;obtain⟨x,hx⟩:=aM g;have E:=bB aX hx;have u:n0 s=(match qB.find? (fun x=>preB x s) with | some x=>x | none=>[]):=rfl;have A:preB x s=true→n0 s=x:=fun hp=>by rw[u,l9 hn hx hp]
  have y:preB x s=false→(qB.take (i+1)).find? (fun x=>preB x s)=none:=fun hp=>lA hn hx hp
  have J:qB.length≤13:=by decide
  clear u hn;generalize qB=L at *;refine aD (aA (aE (aA ?_)));by_cases h1:x.length≤s.length
  ·have d1:decide ((x.length:Int)≤(s.length:Int))=true:=φ (by omega);refine agN [(4,.row i (aX x)),(8,.bv true),(12,.row i (aX x)),(18,.row i (aX x)),(21,.bv true)] rfl ?_;by_cases h2:s.take x.length=x
   ·have hp:preB x s=true:=by unfold preB;rw[φ h1,φ h2];rfl
    have d2:decide (s.take x.length=x)=true:=φ h2;refine aB rfl (fun _=>sgh [(2,.row i (aX x))] rfl ?_) (fun hb=>absurd (hb.symm.trans d2) (by decide));rw[A hp];exact aF rtT
   ·have hp:preB x s=false:=by unfold preB;rw[ψ h2,Bool.and_false]
    have d2:decide (s.take x.length=x)=false:=ψ h2;exact aB rfl (fun hb=>absurd (hb.symm.trans d2) (by decide)) (fun _=>aD (ag [] rfl ⟨i+1,⟨g,y hp⟩,by dsimp only;omega,sl⟩))
  ·have d1:decide ((x.length:Int)≤(s.length:Int))=false:=ψ (by omega);have hp:preB x s=false:=by unfold preB;rw[ψ h1,Cs]
   exact agN [(4,.row i (aX x)),(8,.bv false),(21,.bv false)] rfl (aB rfl (fun hb=>absurd hb (by decide)) (fun _=>aD (ag [] rfl ⟨i+1,⟨g,y hp⟩,by dsimp only;omega,sl⟩)))
 ·have B:=geD hb q hi;rw[B,Ao] at hn;have e:n0 s=[]:=by unfold n0;rw[hn]
  rw[e];exact aG (sg rfl (aF rtT))
theorem aQa (c:UInt8) (r:Str) (hl:r.length≤4000):aV Tryz.prog 74 [Go.AM.T (c::r)] [] (I .i64 (eL (c::r))) []:=by
 refine bF (n:=40) tok Tryz.func74 rfl rfl rfl ?_;refine sg rfl ?_;have key:∀b:Bool,blB c.toNat=b→eL (c::r)=if b=true then 1 else if preB [45,45] (c::r)=true then 2+cD neB (r.drop 1) else 0:=fun b hb=>by rw[←hb];rfl
 by_cases h1:(c.toNat:Int)=32
 ·have d1:decide ((c.toNat:Int)=32)=true:=φ h1;refine aA (sgh [(1,.byte 0 c),(3,.bv true),(7,.bv true),(8,.bv true),(12,.bv true)] rfl (aB rfl (fun _=>?_) (fun hb=>absurd hb (by decide))));rw[key true (φ (by omega)),θ rfl];exact sg rfl (aF rtT)
 have d1:decide ((c.toNat:Int)=32)=false:=ψ h1;by_cases h2:(c.toNat:Int)=9
 ·have d2:decide ((c.toNat:Int)=9)=true:=φ h2;refine aA (sgh [(1,.byte 0 c),(3,.bv false),(5,.byte 0 c),(7,.bv false),(8,.bv true),(12,.bv true)] rfl (aB rfl (fun _=>?_) (fun hb=>absurd hb (by decide))));rw[key true (φ (by omega)),θ rfl];exact sg rfl (aF rtT)
 have d2:decide ((c.toNat:Int)=9)=false:=ψ h2;refine aA (sgh [(1,.byte 0 c),(3,.bv false),(5,.byte 0 c),(7,.bv false),(8,.bv false),(10,.byte 0 c),(12,.bv false)] rfl (aB rfl (fun hb=>?_) (fun hb=>?_)))
 ·have M:=κ hb;rw[key true (φ (by omega)),θ rfl];exact sg rfl (aF rtT)
 have M:=Ae hb;rw[key false (ψ (by omega)),ξ ω];clear key;refine aD ?_;have g:r.drop 1=(c::r).drop 2:=rfl;rw[g];have y:(c::r).length≤4001:=by rw[Aa];omega
 generalize c::r=S at y ⊢;clear g hl;by_cases A:2≤S.length
 ·have dl:decide ((1:Int)<(S.length:Int))=true:=φ (by omega);refine aA (sgh [(3,.bv true),(7,.bv true)] rfl (aB rfl (fun hb=>?_) (fun hb=>?_)))
  ·have hp:preB [45,45] S=true:=by unfold preB;rw[φ (show([45,45]:Str).length≤S.length from A)];exact hb
   rw[θ hp];refine sg rfl ?_;have O:=fK neB (S.drop 2);rw[Bf] at O;refine aA (aE (aL (fun j:Nat=>mk [(0,Go.AM.T S),(3,I .i64 ((2+j:Nat):Int))] []) (fun j=>j≤cD neB (S.drop 2)) (fun j=>cD neB (S.drop 2)-j) 0 (Ad _) sl ?_));intro j U;by_cases B:2+j<S.length
   ·obtain⟨d,E⟩:=aM B;have u:(S.take (2+j+1)).drop (2+j)=[d]:=by
     rw[Bg,E,drop_append,drop_eq_nil_of_le (by rw[Aj];omega),Aj,Cv (by omega),Cb];rfl
    have q:=lI neB (S.drop 2) j U d (by rw[Al];exact E);have Y:decide (((2+j:Nat):Int)<(S.length:Int))=true:=φ (by omega);refine aA (aA (agN [(4,.bv true),(11,.bv true)] rfl ?_));rw[u];refine aB rfl (fun hb=>?_) (fun hb=>?_)
    ·have J:j<cD neB (S.drop 2):=q.1 (by
      unfold neB;simp at hb ⊢
      exact fun e=>hb (UInt8.toNat_inj.1 e))
     exact aD (aE (agN [] rfl ⟨j+1,J,by dsimp only;omega,sl⟩))
    ·have e:j=cD neB (S.drop 2):=by
      have:¬j<cD neB (S.drop 2):=fun h=>by
       have:=q.2 h;unfold neB at this;simp at hb this;exact this (by rw[hb];rfl)
      omega
     rw[←e];exact aG (sg rfl (aF rtT))
   ·have Y:decide (((2+j:Nat):Int)<(S.length:Int))=false:=ψ (by omega);have e:j=cD neB (S.drop 2):=by omega
    refine aA (aA (agN [(4,.bv false),(11,.bv false)] rfl (aB rfl (fun hb=>absurd hb (by decide)) (fun _=>?_))));rw[←e];exact aG (sg rfl (aF rtT))
  ·have hp:¬preB [45,45] S=true:=by
    unfold preB;have hb:decide (S.take 2=[45,45])=false:=hb;rw[show([45,45]:Str).length=2 from rfl,hb,Bool.and_false];exact ω
   rw[ξ hp];exact aD (sg rfl (aF rtT))
 ·have dl:decide ((1:Int)<(S.length:Int))=false:=ψ (by omega);have hp:¬preB [45,45] S=true:=by
   unfold preB;rw[ψ (show ¬([45,45]:Str).length≤S.length from A),Cs];exact ω
  rw[ξ hp];exact aA (sgh [(3,.bv false),(7,.bv false)] rfl (aB rfl (fun hb=>absurd hb (by decide)) (fun _=>aD (sg rfl (aF rtT)))))
end Go.Proofs.YtkhgpgihmphfdaaGreat
namespace Go.AM
open Go
section
variable {fn:Func}{st:St}{hin hout:List (Nat×AObj)}{res res2 res3:V}
theorem zN {tr:Tr}{a t u:Nat}{i:TI}{id off tv:Nat}{cells:List R}{v v2:V}{ids g:List Nat}(hw:tr.wf=true) (y:fn.results.toList=[.cell a t,.tmp u]:=by rfl) (hi:tr.get t=some i:=by rfl) (ha:st.e a=some (.one (.vp id off)):=by rfl) (hh:st.h id=some (.var tv cells):=by rfl) (hb:Nat.ble (off+i.size) cells.length=true:=by rfl) (A:iU i ((cells.drop off).take i.size)=some v:=by rfl) (hu:st.e u=some v2:=by rfl)
  (hc:Conv st.h ids v res:=by first | exact .refl | exact .one (.c .nl .nil) | ((first | apply Go.AM.Conv.pa | apply Go.AM.Conv.agg);repeat (first | exact .nil | apply Go.AM.PureL.c .refl | apply Go.AM.PureL.c .nl | (apply Go.AM.PureL.hs;rfl;(first | rfl | assumption | simp);(first | rfl | exact Go.AM.take_all (by first | assumption | rfl | (simp;done)) | exact Go.AM.take_map.symm)))))
  (q:Conv st.h g v2 res2:=by exact .refl)
  (ho:eF (fun p=>∃o,st.h p.1=some o∧Ole (fun i=>i) o p.2) hout:=by repeat (first | exact trivial | refine⟨⟨_,rfl,by first | exact Go.AM.Ole.arr | exact Go.AM.Ole.var rfl | exact Go.AM.Ole.varS rfl⟩,?_⟩))
  (hok:(subset (V.tup [res,res2]).refs (keys hout)&&subset (eG hout) (keys hout)&&distinct (keys hout)&&subset (keys hin) (keys hout)&&(hin.all fun p=>p.2.plain)&&(hout.all fun p=>p.2.plain))=true:=by rfl):(Exit.ret=.normal∨Exit.ret=.ret)∧Fin tr.flat fn st hin (.tup [res,res2]) hout:=
 ⟨.inr rfl,⟨[v,v2],[res,res2],by rw[y];exact .cell ha (Tr.get_ok hw hi) hh hb A (.tmp hu .nil),.cons hc (.cons q .nil),rfl⟩,ho,hok⟩
end
end Go.AM
namespace Go.Proofs.YtkhgpgihmphfdaaGreat
open Go Go.AM
set_option maxRecDepth 20000
set_option maxHeartbeats 4000000
theorem kV {ro:Option Nat}{P:Program}{n:Nat}{kf:List Nat}{x y:Code}{st:St}{Q:Exit→St→Prop}(σ:St) (h:AWp ro P n kf x st (fun ex st'=>(ex=.normal∧Sub kf σ st')∨(¬ex=.normal∧Q ex st'))) (k:AWp ro P n kf y σ Q):AWp ro P n kf (.seq x y) st Q:=
 aA (h.post fun ex st' q=>by
  rcases q with⟨rfl,q⟩ | ⟨g,q⟩
  ·exact⟨σ,q,k⟩
  ·refine⟨st',fun G n S μ a w u hs=>⟨S,μ,hs⟩,?_⟩;cases ex with
   | normal=>exact absurd rfl g
   | _=>exact q)
theorem aSs {k:Int}(h:¬k<3000000000):∀l:Str,kR l k=k
 | []=>rfl
 | _::_=>by rw[kR,ξ h]
theorem aQg:aV Tryz.prog 120 [] [] (.one (.c (.sl 1 (pH.map aX)))) []:=by
 refine bF (n:=2) tok Tryz.func120 rfl rfl rfl ?_;exact sg rfl (sgh [(0,.all)] rfl (aF rtT))
theorem aTn (c:UInt8) (r:Str) (hl:r.length≤4000):aV Tryz.prog 75 [Go.AM.T (c::r)] [] (aW8 (gG (c::r))) []:=by
 have ab:=aHb c.toNat;refine bF (n:=108) tok Tryz.func75 rfl rfl rfl ?_;refine sg rfl (sg rfl (aA (skh 2 [(1,.byte 0 c)] rfl (kc ab ?_))));refine az ?_;have h0:(c::r)[0]?=some c:=rfl;have hSl:(c::r).length≤4001:=by rw[Aa];omega
 have hS1:1≤(c::r).length:=by rw[Aa];omega
 refine aB rfl (fun hb=>?_) (fun hb=>?_)
 ·have q:gG (c::r)=if 2147483647<kR ((c::r).take (cD dgB (c::r))) 0 then .error 11 else .ok (3,(c::r).take (cD dgB (c::r)),kR ((c::r).take (cD dgB (c::r))) 0):=by
   rw[gG,θ hb]
  rw[q];clear q;generalize c::r=S at *;have hW:=fK dgB S;refine kV (mk [(0,Go.AM.T S),(2,.one (.vp 2 0)),(4,I .i64 (cD dgB S:Nat))] [(2,.var 85 (aDo.map .c))]) ?_ ?_
  ·refine aE (aL (fun j:Nat=>mk [(0,Go.AM.T S),(2,.one (.vp 2 0)),(4,I .i64 j)] [(2,.var 85 (aDo.map .c))]) (fun j=>j≤cD dgB S) (fun j=>cD dgB S-j) 0 (Ad _) sl ?_);intro j M;by_cases O:j<S.length
   ·obtain⟨d,u⟩:=aM O;have A:=lI dgB S j M d u;have U:=aHb d.toNat;have g:decide ((j:Int)<(S.length:Int))=true:=φ (by omega);have E:(if(S.length:Int)-1<(j:Int) then(S.length:Int)-1 else(j:Int))=(j:Int):=ξ (by omega);refine aA (skh 12 [(4,.bv true),(11,.byte j d)] rfl (kcG U ?_) (hc:=⟨⟨E,u⟩,g,g,⟨by omega,by omega⟩,g,g,g,g,g,trivial⟩));refine ak 1 [(4,.bv true),(13,.bv true)] rfl (az (aB rfl (fun hb=>?_) (fun hb=>?_)))
    ·exact aD (aE (ag [] rfl ⟨j+1,A.1 hb,by dsimp only;have:=A.1 hb;omega,sl⟩))
    ·have e:j=cD dgB S:=by
      have:¬j<cD dgB S:=fun h=>by rw[A.2 h] at hb;cases hb
      omega
     refine aG ?_;rw[←e];exact .inl ⟨rfl,sl⟩
   ·have e:j=cD dgB S:=by omega
    have g:decide ((j:Int)<(S.length:Int))=false:=ψ (by omega);refine aA (sgh [(4,.bv false),(13,.bv false)] rfl (aB rfl (fun hb=>absurd hb (by decide)) (fun _=>aG ?_)));rw[←e];exact .inl ⟨rfl,sl⟩
  ·have ah:∀(j:Nat) (d:UInt8),j<cD dgB S→S[j]?=some d→48≤d.toNat∧d.toNat≤57:=fun j d M u=>κ ((lI dgB S j (by omega) d u).2 M)
   have ai:(S.take (cD dgB S)).length=cD dgB S:=by rw[Aj];omega
   generalize cD dgB S=N at *;refine sg rfl (kV (mk [(0,Go.AM.T S),(2,.one (.vp 2 0)),(4,I .i64 (N:Nat)),(5,I .i64 (kR (S.take N) 0))] [(2,.var 85 (aDo.map .c))]) ?_ ?_)
   ·refine sg rfl (aE (aL (fun p:Nat×Int=>mk [(0,Go.AM.T S),(2,.one (.vp 2 0)),(4,I .i64 (N:Nat)),(5,I .i64 p.2),(6,I .i64 p.1)] [(2,.var 85 (aDo.map .c))]) (fun p=>p.1≤N∧0≤p.2∧p.2≤30000000300∧kR ((S.take N).drop p.1) p.2=kR (S.take N) 0) (fun p=>N-p.1) (0,0) ⟨Ad _,by decide,by decide,rfl⟩ sl ?_));rintro⟨i,k⟩ ⟨hi,aj,al,J⟩;dsimp only at hi aj al J ⊢;by_cases Y:i<N
    ·have d1:decide ((i:Int)<(N:Int))=true:=φ (by omega);refine aA (sgh [(3,.bv true),(6,.bv true)] rfl (aB rfl (fun hb=>?_) (fun hb=>?_)))
     ·have aa:=κ hb;obtain⟨d,u⟩:=aM (l:=S) (k:=i) (by omega);obtain⟨g1,g2⟩:=ah i d Y u;have hw:IntKind.wrap .i64 (d.toNat:Int)=(d.toNat:Int):=Bz _ (by omega);have am:(S.take N).drop i=d::(S.take N).drop (i+1):=by
       obtain⟨q1,q2⟩:=Af.1 (show(S.take N)[i]?=some d by rw[Ak,θ Y];exact u);rw[A7 q1,q2]
      rw[am,kR,θ aa,show k*10+((d.toNat:Int)-48)=k*10+(d.toNat:Int)-48 by omega] at J;refine aD (aA (aE (ag [(4,.byte i d)] rfl ?_ (hc:=⟨⟨by rw[hw];omega,by rw[hw];omega⟩,⟨by rw[hw];omega,by rw[hw];omega⟩,⟨rfl,u⟩,⟨by omega,by omega⟩,trivial⟩))));rw[hw];exact ag [] rfl ⟨(i+1,k*10+(d.toNat:Int)-48),⟨Y,by dsimp only;omega,by dsimp only;omega,J⟩,by dsimp only;omega,sl⟩
     ·have aa:=Ae hb;rw[aSs aa] at J;refine aG ?_;rw[←J];exact .inl ⟨rfl,sl⟩
    ·have e:i=N:=by omega
     have d1:decide ((i:Int)<(N:Int))=false:=ψ (by omega);rw[e,drop_eq_nil_of_le (by rw[ai];exact le_refl _),kR] at J;refine aA (sgh [(3,.bv false),(6,.bv false)] rfl (aB rfl (fun hb=>absurd hb (by decide)) (fun _=>aG ?_)));rw[←J];exact .inl ⟨rfl,sl⟩
   ·generalize kR (S.take N) 0=K;refine aA (sg rfl (aB rfl (fun hb=>?_) (fun hb=>?_)))
    ·rw[θ (κ hb)];exact sg rfl (aF (zN trw))
    ·rw[ξ (Ae hb)];exact aD (sg rfl (aF (zN trw)))
 ·have q:gG (c::r)=if wiB c.toNat 97 122=true∨wiB c.toNat 65 90=true then m8 (c::r) (wiB c.toNat 65 90) else if n0 (c::r)=[] then .error 10 else .ok (4,n0 (c::r),0):=by
   rw[gG,ξ (by rw[hb];exact ω)]
  rw[q];clear q;have ac:=aLj c;have ad:=aLe c;have an:=aKq (c::r);have ae:(c::r).take 1=[c]:=rfl;generalize c::r=S at *;refine aD (sk 2 rfl ?_);rw[ae];refine kc ac ?_;refine kz 1 rfl (sk 2 rfl ?_);rw[ae];refine kc ad ?_;refine kz 1 rfl ?_;generalize wiB c.toNat 65 90=up at *;generalize wiB c.toNat 97 122=lo at *;by_cases hn:lo=true∨up=true
  ·rw[θ hn];have ap:=aQg;have aq:=aG9 pH (S.take (cD sgB S)) (by unfold Fits;decide);have af:(bif lo then true else up)=true:=by
    rcases hn with h | h
    ·rw[h];rfl
    ·rw[h];cases lo<;>rfl
   refine aA (aA (agF 2 [] rfl rfl rfl (aB rfl (fun _=>AWp.sub (st2:=mk [(0,Go.AM.T S),(2,.one (.vp 2 0)),(4,I .i64 0),(8,B up)] [(2,.var 85 (aDo.map .c))]) sl ?_) (fun hb=>absurd (hb.symm.trans af) (by decide)))));clear af hn ac ad ab;have hW:=fK sgB S;refine kV (mk [(0,Go.AM.T S),(2,.one (.vp 2 0)),(4,I .i64 (cD sgB S:Nat)),(8,B up)] [(2,.var 85 (aDo.map .c))]) ?_ ?_
   ·refine aE (aL (fun j:Nat=>mk [(0,Go.AM.T S),(2,.one (.vp 2 0)),(4,I .i64 j),(8,B up)] [(2,.var 85 (aDo.map .c))]) (fun j=>j≤cD sgB S) (fun j=>cD sgB S-j) 0 (Ad _) sl ?_);intro j M;by_cases O:j<S.length
    ·obtain⟨d,u⟩:=aM O;have A:=lI sgB S j M d u;have U:=aTj d.toNat;have g:decide ((j:Int)<(S.length:Int))=true:=φ (by omega);have E:(if(S.length:Int)-1<(j:Int) then(S.length:Int)-1 else(j:Int))=(j:Int):=ξ (by omega);refine aA (skh 12 [(4,.bv true),(11,.byte j d)] rfl (kcG U ?_) (hc:=⟨⟨E,u⟩,g,g,⟨by omega,by omega⟩,g,g,g,g,g,trivial⟩));refine ak 1 [(4,.bv true),(13,.bv true)] rfl (az (aB rfl (fun hb=>?_) (fun hb=>?_)))
     ·exact aD (aE (ag [] rfl ⟨j+1,A.1 hb,by dsimp only;have:=A.1 hb;omega,sl⟩))
     ·have e:j=cD sgB S:=by
       have:¬j<cD sgB S:=fun h=>by rw[A.2 h] at hb;cases hb
       omega
      refine aG ?_;rw[←e];exact .inl ⟨rfl,sl⟩
    ·have e:j=cD sgB S:=by omega
     have g:decide ((j:Int)<(S.length:Int))=false:=ψ (by omega);refine aA (sgh [(4,.bv false),(13,.bv false)] rfl (aB rfl (fun hb=>absurd hb (by decide)) (fun _=>aG ?_)));rw[←e];exact .inl ⟨rfl,sl⟩
   ·unfold m8;generalize cD sgB S=N at *;refine aA (sg rfl (aB rfl (fun hb=>?_) (fun hb=>?_)))
    ·rw[θ (by have:=κ hb;omega)];exact sg rfl (aF (zN trw))
    rw[ξ (by have:=Ae hb;omega)];refine aD (aA (sg rfl (aB rfl (fun hb=>?_) (fun hb=>?_))))
    ·rw[θ hb];exact sg rfl (aF (zN trw))
    rw[ξ (by rw[hb];exact ω)];refine aD ?_;generalize pH=L at *;refine aA (aA (aC mixed (kc ap ?_)));refine akN 3 [] rfl (kc aq ?_);refine az (aB rfl (fun hb=>?_) (fun hb=>?_))
    ·rw[θ (κ hb)];exact sg rfl (aF (zN trw))
    ·rw[ξ (Ae hb)];exact aD (sg rfl (aF (zN trw)))
  ·rw[ξ hn];have h1:lo=false:=by cases lo<;>simp at hn ⊢
   have h2:up=false:=by cases up<;>simp at hn ⊢
   subst h1 h2;refine aA (sgh [(1,.bv false),(3,.bv false)] rfl (aB rfl (fun hb=>absurd hb (by decide)) (fun _=>aD (sk 1 rfl (kc an ?_)))));refine kz 1 rfl ?_;generalize n0 S=y at *;refine aA (sg rfl (aB rfl (fun hb=>?_) (fun hb=>?_)))
   ·rw[θ (κ hb)];exact sg rfl (aF (zN trw))
   ·rw[ξ (Ae hb)];exact aD (sg rfl (aF (zN trw)))
end Go.Proofs.YtkhgpgihmphfdaaGreat
