/-
  Texts Am27 to La4 in one.
-/
import Derived.Test.YtkhgpgihmphfdaaGreatM5
import Derived.Test.YtkhgpgihmphfdaaGreatProg
import Derived.KernelRfl
import Derived.Laws.RangeString
import Derived.Lib.OthersKept
import Derived.LoopTactic
import Derived.Tactics2
import Derived.Shelf.Spec.SlicesGrow
import Derived.Laws.Runes
import Derived.OpenShut
import Derived.Laws.MakeOwn
import Derived.Lib.Bytealg
import Derived.IntWalk
open List (cons_append drop_append drop_drop drop_eq_getElem_cons drop_eq_nil_of_le drop_length drop_zero eq_nil_of_length_eq_zero length_append length_cons length_drop length_map length_nil length_pos_iff length_replicate length_singleton length_take map_cons mem_map nil_append replicate_succ take_add_one take_append_drop take_length take_of_length_le)
open Nat (beq_refl eq_of_beq_eq_true le_refl le_trans lt_of_lt_of_le min_eq_left mul_one sub_self zero_le)
namespace Go.AM
open Go
theorem Ole.arrS {σ:Nat→Nat}{te es fz:Nat}{l g:List (List C)}(h:l=g):Ole σ (.arr te es l fz) (.arr te es g fz):=by subst h;exact .arr
theorem hs_ren {id off a b g q:Nat}(h:a=g) (k:b=q):some (V.one (.hs id off a b))=some (V.ren (fun i=>i) (V.one (.hs id off g q))):=by subst h;subst k;rfl
theorem sl {kf:List Nat}{g:St}{q:List (Nat×V)}{hl:List (Nat×AObj)}
  (he:eG (fun p=>g.e p.1=some (p.2.ren (fun i=>i))) q:=by repeat (first | exact trivial | refine⟨by first | rfl | exact Go.AM.hs_ren (by first | (simp;done) | (simp;omega)) (by first | (simp;done) | (simp;omega)),?_⟩))
  (hh:eG (fun p=>∃o,g.h p.1=some o∧Ole (fun i=>i) o p.2) hl:=by repeat (first | exact trivial | refine⟨⟨_,rfl,by first | exact Go.AM.Ole.arr | exact Go.AM.Ole.var rfl | exact Go.AM.Ole.map | exact Go.AM.Ole.rarr rfl | exact Go.AM.Ole.arr1 | exact Go.AM.Ole.arrS (by first | assumption | (simp;done) | (simp;rfl) | (simp;omega)) | exact Go.AM.Ole.arrE (by first | assumption | (simp;done) | (simp;rfl) | (simp;omega)) | exact Go.AM.Ole.var (by first | (simp[Go.AM.R.renL,Go.AM.R.ren];done) | (simp[Go.AM.R.renL,Go.AM.R.ren];omega)) | exact Go.AM.Ole.mapE (by first | assumption | (simp;done) | (simp;rfl) | (simp;omega))⟩,?_⟩))
  (hok:(aUy kf (fun i=>i) q hl&&eqL [] g.d)=true:=by rfl):Sub kf (mk q hl) g:=Sub.list (fun i=>i) he hh hok
theorem take_all {α:Type}{l:List α}{n:Nat}(h:n=l.length):l=(l.drop 0).take n:=by rw[h,Bv,Ao]
theorem ltD {i n:Nat}{l:List (List C)}(h:decide ((i:Int)<(l.length:Int))=true) (e:l.length=n):i<n:=by
 have:(i:Int)<(l.length:Int):=by simpa using h
 omega
theorem geD {i n:Nat}{l:List (List C)}(h:decide ((i:Int)<(l.length:Int))=false) (e:l.length=n) (hi:i≤n):i=n:=by
 have:¬(i:Int)<(l.length:Int):=by simpa using h
 omega
section
variable {T:TT}{fn:Func}{st:St}{hin hout:List (Nat×AObj)}{res:V}
theorem rtT {t:Nat}{v:V}{ids:List Nat}(g:fn.results.toList=[.tmp t]:=by rfl) (q:st.e t=some v:=by rfl)
  (hc:Conv st.h ids v res:=by first | exact .refl | exact .one (.c .nl .nil) | ((first | apply Go.AM.Conv.pa | apply Go.AM.Conv.agg);repeat (first | exact .nil | apply Go.AM.PureL.c .refl | apply Go.AM.PureL.c .nl | (apply Go.AM.PureL.hs;rfl;(first | rfl | assumption | simp);(first | rfl | exact Go.AM.take_all (by first | assumption | rfl | (simp;done)) | exact Go.AM.take_map.symm)))))
  (ho:eG (fun p=>∃o,st.h p.1=some o∧Ole (fun i=>i) o p.2) hout:=by repeat (first | exact trivial | refine⟨⟨_,rfl,by first | exact Go.AM.Ole.arr | exact Go.AM.Ole.var rfl | exact Go.AM.Ole.map | exact Go.AM.Ole.rarr rfl | exact Go.AM.Ole.arr1 | exact Go.AM.Ole.arrS (by first | assumption | (simp;done) | (simp;rfl) | (simp;omega)) | exact Go.AM.Ole.arrE (by first | assumption | (simp;done) | (simp;rfl) | (simp;omega)) | exact Go.AM.Ole.var (by first | (simp[Go.AM.R.renL,Go.AM.R.ren];done) | (simp[Go.AM.R.renL,Go.AM.R.ren];omega)) | exact Go.AM.Ole.mapE (by first | assumption | (simp;done) | (simp;rfl) | (simp;omega))⟩,?_⟩))
  (hok:(subset res.refs (keys hout)&&subset (eH hout) (keys hout)&&distinct (keys hout)&&subset (keys hin) (keys hout)&&(hin.all fun p=>p.2.plain)&&(hout.all fun p=>p.2.plain))=true:=by rfl):(Exit.ret=.normal∨Exit.ret=.ret)∧Fin T fn st hin res hout:=
 ⟨.inr rfl,⟨[v],[res],by rw[g];exact .tmp q .nil,.cons hc .nil,rfl⟩,ho,hok⟩
theorem rtC {tr:Tr}{a t:Nat}{i:TI}{id off tv:Nat}{cells:List R}{v:V}{ids:List Nat}(hw:tr.wf=true) (g:fn.results.toList=[.cell a t]:=by rfl) (hi:tr.get t=some i:=by rfl) (ha:st.e a=some (.one (.vp id off)):=by rfl) (hh:st.h id=some (.var tv cells):=by rfl) (hb:Nat.ble (off+i.size) cells.length=true:=by rfl) (q:iW i ((cells.drop off).take i.size)=some v:=by rfl)
  (hc:Conv st.h ids v res:=by first | exact .refl | exact .one (.c .nl .nil) | ((first | apply Go.AM.Conv.pa | apply Go.AM.Conv.agg);repeat (first | exact .nil | apply Go.AM.PureL.c .refl | apply Go.AM.PureL.c .nl | (apply Go.AM.PureL.hs;rfl;(first | rfl | assumption | simp);(first | rfl | exact Go.AM.take_all (by first | assumption | rfl | (simp;done)) | exact Go.AM.take_map.symm)))))
  (ho:eG (fun p=>∃o,st.h p.1=some o∧Ole (fun i=>i) o p.2) hout:=by repeat (first | exact trivial | refine⟨⟨_,rfl,by first | exact Go.AM.Ole.arr | exact Go.AM.Ole.var rfl | exact Go.AM.Ole.map | exact Go.AM.Ole.rarr rfl | exact Go.AM.Ole.arr1 | exact Go.AM.Ole.arrS (by first | assumption | (simp;done) | (simp;rfl) | (simp;omega)) | exact Go.AM.Ole.arrE (by first | assumption | (simp;done) | (simp;rfl) | (simp;omega)) | exact Go.AM.Ole.var (by first | (simp[Go.AM.R.renL,Go.AM.R.ren];done) | (simp[Go.AM.R.renL,Go.AM.R.ren];omega)) | exact Go.AM.Ole.mapE (by first | assumption | (simp;done) | (simp;rfl) | (simp;omega))⟩,?_⟩))
  (hok:(subset res.refs (keys hout)&&subset (eH hout) (keys hout)&&distinct (keys hout)&&subset (keys hin) (keys hout)&&(hin.all fun p=>p.2.plain)&&(hout.all fun p=>p.2.plain))=true:=by rfl):(Exit.ret=.normal∨Exit.ret=.ret)∧Fin tr.flat fn st hin res hout:=
 ⟨.inr rfl,⟨[v],[res],by rw[g];exact .cell ha (Tr.get_ok hw hi) hh hb q .nil,.cons hc .nil,rfl⟩,ho,hok⟩
end
end Go.AM
namespace Go.AM
open Go
theorem oK {id:Nat}{o:AObj}{hin:List (Nat×AObj)}:look ((id,o)::hin)=upd (look hin) id (some o):=by
 funext i;by_cases h:i=id
 ·subst h;rw[aH,dD]
 ·rw[aY _ _ _ h,eB h]
theorem Inv.emptyZ {G:Ctx}{S:Sto}{μ:Mu}{H:bY}{w:World}{id:Nat}(te es z:Nat) (h:Inv G S μ H w) (A:H id=none):Inv G S (upd μ id none) (upd H id (some (.arr te es [] z))) w∧Evolve S μ H S (upd μ id none) (upd H id (some (.arr te es [] z))):=by
 have y:Evolve S μ H S (upd μ id none) (upd H id (some (.arr te es [] z))):=dT A _ _;refine⟨⟨h.holds,fun j x g=>?_,fun i j x B b c c' hi g hm q=>?_,fun i x b c hi hm=>?_,h.frame,h.sle,h.sto,h.evo.trans y,h.fre⟩,y⟩
 ·by_cases u:j=id
  ·subst u;rw[aH] at g;cases g;exact⟨by simp,.inl ⟨aH _ _ _,rfl⟩⟩
  ·rw[aY _ _ _ u] at g;exact(h.obj j x g).evolve y (aY _ _ _ u) fun _ _ _=>⟨rfl,fun _=>rfl,rfl⟩
 ·have h1:i≠id:=fun e=>by subst e;rw[aH] at hm;cases hm
  have h2:j≠id:=fun e=>by subst e;rw[aH] at q;cases q
  rw[aY _ _ _ h1] at hi hm;rw[aY _ _ _ h2] at g q;exact h.inj i j x B b c c' hi g hm q
 ·have h1:i≠id:=fun e=>by subst e;rw[aH] at hm;cases hm
  rw[aY _ _ _ h1] at hi hm;exact h.own i x b c hi hm
theorem aU.nilArg {P:Program}{f:FuncId}{pre post:List V}{hin hout:List (Nat×AObj)}{res:V}{id te es z:Nat}(h:aU P f (pre++ .one (.hs id 0 0 0)::post) ((id,.arr te es [] z)::hin) res hout) (A:look hin id=none):aU P f (pre++ .one (.c .nl)::post) hin res hout:=by
 intro S μ w vals M O;obtain⟨hi,B⟩:=M.emptyZ te es z A;have E:i9 (upd μ id none) (look ((id,.arr te es [] z)::hin))=i9 μ (look hin):=by
  funext b;rw[oK];refine propext ⟨?_,?_⟩
  ·rintro⟨j,o,c,h1,h2⟩;by_cases q:j=id
   ·subst q;rw[aH] at h2;cases h2
   ·rw[aY _ _ _ q] at h1 h2;exact⟨j,o,c,h1,h2⟩
  ·rintro⟨j,o,c,h1,h2⟩;have q:j≠id:=fun e=>by subst e;rw[A] at h1;cases h1
   exact⟨j,o,c,by rw[aY _ _ _ q];exact h1,by rw[aY _ _ _ q];exact h2⟩
 have I:Inv ⟨w,S,i9 (upd μ id none) (look ((id,.arr te es [] z)::hin)),upd μ id none,look ((id,.arr te es [] z)::hin)⟩ S (upd μ id none) (look ((id,.arr te es [] z)::hin)) w:=by
  rw[E,oK];exact⟨hi.holds,hi.obj,hi.inj,hi.own,hi.frame,hi.sle,hi.sto,Evolve.refl _ _ _,hi.fre⟩
 have J:aV S (upd μ id none) (look ((id,.arr te es [] z)::hin)) (pre++ .one (.hs id 0 0 0)::post) vals:=by
  rw[oK];have key:∀(l:List V) (us:List Value),aV S μ (look hin) (l++ .one (.c .nl)::post) us→aV S (upd μ id none) (upd (look hin) id (some (.arr te es [] z))) (l++ .one (.hs id 0 0 0)::post) us:=by
   intro l
   induction l with
   | nil=>
    intro us hu;simp only[A9,aV] at hu ⊢;obtain⟨u,g,h1,h2,y⟩:=hu;refine⟨u,g,h1,?_,aV.evolve B _ _ y⟩;simp only[aN,aX,Rep] at h2 ⊢;exact⟨⟨_,_,_,h2⟩,.inr ⟨te,es,[],z,aH _ _ _,le_refl _,fun _=>⟨le_refl _,.inl ⟨aH _ _ _,rfl,h2⟩⟩⟩⟩
   | cons x l U=>
    intro us hu;simp only[A1,aV] at hu ⊢;obtain⟨u,g,h1,h2,y⟩:=hu;exact⟨u,g,h1,aN.evolve B _ _ h2,U g y⟩
  exact key pre vals O
 refine Calls.mono (h S (upd μ id none) w vals I J) ?_;rintro e w' ⟨S',μ',v,h1,h2,y⟩;refine⟨S',μ',v,h1,?_,y⟩;rw[E] at h2;refine⟨h2.holds,h2.obj,h2.inj,h2.own,h2.frame,h2.sle,h2.sto,B.trans ?_,h2.fre⟩;have:=h2.evo;rwa [oK] at this
theorem aU.sub {P:Program}{f:FuncId}{args:List V}{hin hout u:List (Nat×AObj)}{res q:V}(h:aU P f args hin res hout) (hs:Sub (keys hin) (mk [(0,q)] u) (mk [(0,res)] hout)):aU P f args hin q u:=by
 intro S μ w vals B E;refine Calls.mono (h S μ w vals B E) ?_;rintro e w' ⟨S',μ',v,h1,h2,I⟩;have A:Ctx.keeps ⟨w,S,i9 μ (look hin),μ,look hin⟩ (keys hin):=pP
 obtain⟨S2,J,g⟩:=hs _ 1 S' μ' ⟨#[v],[]⟩ w' A ⟨h2,rfl,rfl,fun t y e=>by
  simp only[mk,look] at e;split at e
  ·rename_i hb;cases e;rw[δ hb];exact I
  ·cases e⟩
 exact⟨S2,J,v,h1,g.inv,g.env 0 q rfl⟩
theorem aU.plain {P:Program}{f:FuncId}{args:List V}{id te es n:Nat}{rows:List (List C)}{fz:Nat}(h:aU P f args [] (.one (.hs id 0 n n)) [(id,.arr te es rows fz)]) (hn:n=rows.length):aU P f args [] (.one (.c (.sl es rows))) []:=by
 refine h.sub ?_;have h1:Sub [] ⟨look [(0,V.one (.hs id 0 n n))],upd (look [(id,AObj.arr te es rows fz)]) id (some (.arr te es rows 2)),[]⟩ (mk [(0,.one (.hs id 0 n n))] [(id,.arr te es rows fz)]):=Sub.freeze (st:=mk [(0,.one (.hs id 0 n n))] [(id,.arr te es rows fz)]) dD;refine Sub.trans (Sub.trans ?_ (Sub.conv (t:=0) (v:=.one (.hs id 0 n n)) rfl (hs_all (aH _ _ _) rfl hn rfl))) h1;exact Sub.list (fun i=>i) ⟨rfl,trivial⟩ trivial rfl
theorem Sub.varPure {kf:List Nat}{st:St}{x tv:Nat}{cells:List R}{ids:List Nat}{cs:List C}(h:st.h x=some (.var tv cells)) (hp:PureL st.h ids cells cs):Sub kf ⟨st.e,upd st.h x (some (.var tv (cs.map R.c))),st.d⟩ st:=by
 intro G n S μ a w _ hs;have hi:=hs.inv;obtain⟨b,vs,J,M,O,U⟩:=hi.obj x _ h
 have u:Evolve S μ st.h S μ (upd st.h x (some (.var tv (cs.map R.c)))):=⟨S.le_refl,fun j y q=>by
  by_cases g:j=x
  ·subst g;rw[h] at q;cases q;exact⟨_,aH _ _ _,by simp[AObj.succ]⟩
  ·exact⟨y,by rw[aY _ _ _ g];exact q,y.succ_refl rfl⟩⟩
 have hold:∀j y,upd st.h x (some (.var tv (cs.map R.c))) j=some y→∃E,st.h j=some E:=fun j y q=>by
  by_cases g:j=x
  ·subst g;exact⟨_,h⟩
  ·rw[aY _ _ _ g] at q;exact⟨_,q⟩
 refine⟨S,μ,⟨⟨hi.holds,fun j y q=>?_,fun i j y E b c c' A q hm I=>?_,fun i y b c A hm=>?_,hi.frame,hi.sle,hi.sto,hi.evo.trans u,hi.fre⟩,hs.size,hs.defers.evolve u,fun s v e=>aN.evolve u v _ (hs.env s v e)⟩⟩
 ·by_cases g:j=x
  ·subst g;have B:some (AObj.var tv (cs.map R.c))=some y:=by rw[←q];exact(aH _ _ _).symm
   cases B;exact⟨b,vs,J,M,(hp.rel (fun _ _=>rfl) hi.obj O).toR,U⟩
  ·have B:st.h j=some y:=by rw[←q];exact(aY _ _ _ g).symm
   exact(hi.obj j y B).evolve u rfl fun _ _ _=>⟨rfl,fun _=>rfl,rfl⟩
 ·obtain⟨_,h1⟩:=hold _ _ A;obtain⟨_,h2⟩:=hold _ _ q;exact hi.inj i j _ _ b c c' h1 h2 hm I
 ·obtain⟨_,h1⟩:=hold _ _ A;exact hi.own i _ b c h1 hm
theorem vp {kf:List Nat}{st:St}(x:Nat) {tv:Nat}{cells:List R}(cs:List C) {ids:List Nat}(h:st.h x=some (.var tv cells):=by rfl)
  (hp:PureL st.h ids cells cs:=by repeat (first | exact .nil | apply Go.AM.PureL.c .refl | apply Go.AM.PureL.c .nl | apply Go.AM.PureL.c .sn | (apply Go.AM.PureL.hs;rfl;(first | rfl | assumption | (simp;done) | (simp;omega));(first | rfl | exact Go.AM.take_all (by first | assumption | rfl | (simp;done) | (simp;omega)) | exact Go.AM.take_map.symm)))):Sub kf ⟨st.e,upd st.h x (some (.var tv (cs.map R.c))),st.d⟩ st:=Sub.varPure h hp
theorem cv {kf:List Nat}{st:St}(t:Nat) {id te es n sz:Nat}{l:List (List C)}(g:List (List C)) (h:st.e t=some (.one (.hs id 0 n sz)):=by rfl) (hh:st.h id=some (.arr te es l 2):=by rfl) (h1:n=l.length:=by first | rfl | assumption | (simp;done) | (simp;omega)) (h2:sz=l.length:=by first | rfl | assumption | (simp;done) | (simp;omega)) (q:l=g:=by first | rfl | assumption | (simp;done)):Sub kf ⟨upd st.e t (some (.one (.c (.sl es g)))),st.h,st.d⟩ st:=by
 subst q;exact Sub.conv h (.one (.hs hh h2 (by rw[h1,Bv,Ao]) .nil))
end Go.AM
namespace Go.Proofs.YtkhgpgihmphfdaaGreat
open Go Go.AM
def zl_:Tr:=.leaf none
def zl0:Tr:=.leaf (some ⟨.fn,1,8,[.zv 1]⟩)
def zl1:Tr:=.leaf (some ⟨.int .i64,1,8,[.int .i64 0]⟩)
def zl2:Tr:=.leaf (some ⟨.int .u8,1,1,[.int .u8 0]⟩)
def zl3:Tr:=.leaf (some ⟨.int .u64,1,8,[.int .u64 0]⟩)
def zl4:Tr:=.leaf (some ⟨.st [(0,9),(1,3)],2,24,[.str [],.int .i64 0]⟩)
def zl5:Tr:=.leaf (some ⟨.str,1,16,[.str []]⟩)
def zl6:Tr:=.leaf (some ⟨.int .i32,1,4,[.int .i32 0]⟩)
def zl7:Tr:=.leaf (some ⟨.st [(0,3),(1,9),(2,3),(3,3)],4,40,[.int .i64 0,.str [],.int .i64 0,.int .i64 0]⟩)
def tr:Tr:=
 .node 151 (.node 75 (.node 37 (.node 18 (.node 9 (.node 4 (.node 2 (.node 1 zl_ zl0) (.node 1 zl1 zl1)) (.node 2 (.node 1 (.leaf (some ⟨.bool,1,1,[.bool false]⟩)) zl2) (.node 1 zl2 (.node 1 (.leaf (some ⟨.st [(0,2),(1,3),(2,4),(3,6)],4,24,[.int .i64 0,.int .i64 0,.bool false,.int .u8 0]⟩)) (.leaf (some ⟨.st [(0,2),(1,3),(2,4),(3,6)],4,24,[.int .i64 0,.int .i64 0,.bool false,.int .u8 0]⟩)))))) (.node 4 (.node 2 (.node 1 zl5 zl5) (.node 1 zl5 zl3)) (.node 2 (.node 1 (.leaf (some ⟨.st [(0,9),(1,12)],2,24,[.str [],.int .u64 0]⟩)) (.leaf (some ⟨.st [(0,9),(1,12)],2,24,[.str [],.int .u64 0]⟩))) (.node 1 (.leaf (some ⟨.pt 289,1,8,[.np]⟩)) (.node 1 (.leaf (some ⟨.pt 292,1,8,[.np]⟩)) (.leaf (some ⟨.pt 301,1,8,[.np]⟩))))))) (.node 9 (.node 4 (.node 2 (.node 1 (.leaf (some ⟨.st [(0,17)],1,8,[.np]⟩)) (.leaf (some ⟨.st [(0,17)],1,8,[.np]⟩))) (.node 1 zl_ zl6)) (.node 2 (.node 1 (.leaf (some ⟨.sl 3,1,24,[.nl]⟩)) (.leaf (some ⟨.sl 35,1,24,[.nl]⟩))) (.node 1 (.leaf (some ⟨.sl 43,1,24,[.nl]⟩)) (.node 1 (.leaf (some ⟨.sl 103,1,24,[.nl]⟩)) (.leaf (some ⟨.sl 9,1,24,[.nl]⟩)))))) (.node 5 (.node 2 (.node 1 (.leaf (some ⟨.sl 115,1,24,[.nl]⟩)) (.leaf (some ⟨.sl 195,1,24,[.nl]⟩))) (.node 1 (.leaf (some ⟨.sl 31,1,24,[.nl]⟩)) (.node 1 (.leaf (some ⟨.st [(0,3),(1,3),(2,9),(3,29)],4,56,[.int .i64 0,.int .i64 0,.str [],.nl]⟩)) (.leaf (some ⟨.st [(0,3),(1,3),(2,9),(3,29)],4,56,[.int .i64 0,.int .i64 0,.str [],.nl]⟩))))) (.node 2 (.node 1 (.leaf (some ⟨.st [(0,26),(1,27),(2,28),(3,31)],7,128,[.nl,.nl,.nl,.int .i64 0,.int .i64 0,.str [],.nl]⟩)) (.leaf (some ⟨.st [(0,26),(1,27),(2,28),(3,31)],7,128,[.nl,.nl,.nl,.int .i64 0,.int .i64 0,.str [],.nl]⟩))) (.node 1 (.leaf (some ⟨.st [(0,3),(1,3),(2,3),(3,9),(4,23),(5,24),(6,25),(7,33),(14,29)],15,264,[.int .i64 0,.int .i64 0,.int .i64 0,.str [],.nl,.nl,.nl,.nl,.nl,.nl,.int .i64 0,.int .i64 0,.str [],.nl,.nl]⟩)) (.node 1 (.leaf (some ⟨.st [(0,3),(1,3),(2,3),(3,9),(4,23),(5,24),(6,25),(7,33),(14,29)],15,264,[.int .i64 0,.int .i64 0,.int .i64 0,.str [],.nl,.nl,.nl,.nl,.nl,.nl,.int .i64 0,.int .i64 0,.str [],.nl,.nl]⟩)) zl1)))))) (.node 19 (.node 9 (.node 4 (.node 2 (.node 1 (.leaf (some ⟨.st [(0,36),(1,3)],2,16,[.int .i64 0,.int .i64 0]⟩)) (.leaf (some ⟨.st [(0,36),(1,3)],2,16,[.int .i64 0,.int .i64 0]⟩))) (.node 1 zl_ zl0)) (.node 2 (.node 1 zl0 (.leaf (some ⟨.st [(0,3),(1,3),(2,3),(3,9),(4,24),(5,31),(9,29)],10,144,[.int .i64 0,.int .i64 0,.int .i64 0,.str [],.nl,.int .i64 0,.int .i64 0,.str [],.nl,.nl]⟩))) (.node 1 (.leaf (some ⟨.st [(0,3),(1,3),(2,3),(3,9),(4,24),(5,31),(9,29)],10,144,[.int .i64 0,.int .i64 0,.int .i64 0,.str [],.nl,.int .i64 0,.int .i64 0,.str [],.nl,.nl]⟩)) (.node 1 zl_ zl0)))) (.node 5 (.node 2 (.node 1 zl0 zl0) (.node 1 zl0 (.node 1 zl0 zl0))) (.node 2 (.node 1 zl0 zl0) (.node 1 zl0 (.node 1 zl0 (.leaf (some ⟨.pt 60,1,8,[.np]⟩))))))) (.node 9 (.node 4 (.node 2 (.node 1 zl0 zl0) (.node 1 (.leaf (some ⟨.sl 85,1,24,[.nl]⟩)) (.leaf (some ⟨.st [(0,58),(1,3),(2,38)],4,48,[.nl,.int .i64 0,.int .i64 0,.int .i64 0]⟩)))) (.node 2 (.node 1 (.leaf (some ⟨.st [(0,58),(1,3),(2,38)],4,48,[.nl,.int .i64 0,.int .i64 0,.int .i64 0]⟩)) zl0) (.node 1 (.leaf (some ⟨.pt 97,1,8,[.np]⟩)) (.node 1 zl0 zl0)))) (.node 5 (.node 2 (.node 1 zl0 zl0) (.node 1 (.leaf (some ⟨.sl 70,1,24,[.nl]⟩)) (.node 1 zl0 zl4))) (.node 2 (.node 1 zl4 (.leaf (some ⟨.sl 172,1,24,[.nl]⟩))) (.node 1 (.leaf (some ⟨.sl 118,1,24,[.nl]⟩)) (.node 1 (.leaf (some ⟨.sl 176,1,24,[.nl]⟩)) (.leaf (some ⟨.st [(0,71),(1,72),(2,73),(3,25)],4,96,[.nl,.nl,.nl,.nl]⟩))))))))) (.node 38 (.node 19 (.node 9 (.node 4 (.node 2 (.node 1 (.leaf (some ⟨.st [(0,71),(1,72),(2,73),(3,25)],4,96,[.nl,.nl,.nl,.nl]⟩)) zl_) (.node 1 zl0 zl0)) (.node 2 (.node 1 zl0 (.leaf (some ⟨.sl 22,1,24,[.nl]⟩))) (.node 1 zl0 (.node 1 zl_ zl0)))) (.node 5 (.node 2 (.node 1 zl7 zl7) (.node 1 zl0 (.node 1 zl0 zl0))) (.node 2 (.node 1 zl0 zl_) (.node 1 zl0 (.node 1 zl0 zl0))))) (.node 9 (.node 4 (.node 2 (.node 1 zl0 zl0) (.node 1 (.leaf (some ⟨.st [(0,22),(1,3)],2,32,[.nl,.int .i64 0]⟩)) (.leaf (some ⟨.st [(0,22),(1,3)],2,32,[.nl,.int .i64 0]⟩)))) (.node 2 (.node 1 zl_ zl0) (.node 1 zl0 (.node 1 zl0 (.leaf (some ⟨.st [(0,9),(1,3),(2,4),(3,33),(10,35),(25,33),(32,3)],33,560,[.str [],.int .i64 0,.bool false,.nl,.nl,.nl,.int .i64 0,.int .i64 0,.str [],.nl,.int .i64 0,.int .i64 0,.int .i64 0,.str [],.nl,.nl,.nl,.nl,.nl,.nl,.int .i64 0,.int .i64 0,.str [],.nl,.nl,.nl,.nl,.nl,.int .i64 0,.int .i64 0,.str [],.nl,.int .i64 0]⟩)))))) (.node 5 (.node 2 (.node 1 (.leaf (some ⟨.st [(0,9),(1,3),(2,4),(3,33),(10,35),(25,33),(32,3)],33,560,[.str [],.int .i64 0,.bool false,.nl,.nl,.nl,.int .i64 0,.int .i64 0,.str [],.nl,.int .i64 0,.int .i64 0,.int .i64 0,.str [],.nl,.nl,.nl,.nl,.nl,.nl,.int .i64 0,.int .i64 0,.str [],.nl,.nl,.nl,.nl,.nl,.int .i64 0,.int .i64 0,.str [],.nl,.int .i64 0]⟩)) zl0) (.node 1 zl0 (.node 1 zl0 (.leaf (some ⟨.pt 166,1,8,[.np]⟩))))) (.node 2 (.node 1 zl0 zl0) (.node 1 (.leaf (some ⟨.pt 136,1,8,[.np]⟩)) (.node 1 zl0 zl0)))))) (.node 19 (.node 9 (.node 4 (.node 2 (.node 1 (.leaf (some ⟨.sl 123,1,24,[.nl]⟩)) (.leaf (some ⟨.st [(0,27)],1,24,[.nl]⟩))) (.node 1 (.leaf (some ⟨.st [(0,27)],1,24,[.nl]⟩)) (.leaf (some ⟨.sl 121,1,24,[.nl]⟩)))) (.node 2 (.node 1 (.leaf (some ⟨.st [(0,9),(1,3),(2,9),(3,115),(4,26),(5,116)],6,112,[.str [],.int .i64 0,.str [],.nl,.nl,.nl]⟩)) (.leaf (some ⟨.st [(0,9),(1,3),(2,9),(3,115),(4,26),(5,116)],6,112,[.str [],.int .i64 0,.str [],.nl,.nl,.nl]⟩))) (.node 1 zl0 (.node 1 (.leaf (some ⟨.st [(0,9),(1,3),(2,33)],9,152,[.str [],.int .i64 0,.nl,.nl,.nl,.int .i64 0,.int .i64 0,.str [],.nl]⟩)) (.leaf (some ⟨.st [(0,9),(1,3),(2,33)],9,152,[.str [],.int .i64 0,.nl,.nl,.nl,.int .i64 0,.int .i64 0,.str [],.nl]⟩)))))) (.node 5 (.node 2 (.node 1 zl4 zl4) (.node 1 zl0 (.node 1 zl0 zl0))) (.node 2 (.node 1 zl0 zl0) (.node 1 zl0 (.node 1 zl0 (.leaf (some ⟨.mp 9 4,1,8,[.zv 0]⟩))))))) (.node 9 (.node 4 (.node 2 (.node 1 (.leaf (some ⟨.mp 9 3,1,8,[.zv 0]⟩)) (.leaf (some ⟨.mp 9 26,1,8,[.zv 0]⟩))) (.node 1 (.leaf (some ⟨.sl 38,1,24,[.nl]⟩)) (.leaf (some ⟨.st [(0,131),(1,132),(2,133),(3,26),(4,134)],5,72,[.zv 0,.zv 0,.zv 0,.nl,.nl]⟩)))) (.node 2 (.node 1 (.leaf (some ⟨.st [(0,131),(1,132),(2,133),(3,26),(4,134)],5,72,[.zv 0,.zv 0,.zv 0,.nl,.nl]⟩)) zl0) (.node 1 zl0 (.node 1 zl0 zl0)))) (.node 5 (.node 2 (.node 1 zl0 zl0) (.node 1 zl_ (.node 1 zl0 zl0))) (.node 2 (.node 1 zl0 zl0) (.node 1 zl0 (.node 1 zl0 zl_)))))))) (.node 76 (.node 38 (.node 19 (.node 9 (.node 4 (.node 2 (.node 1 zl0 zl0) (.node 1 (.leaf (some ⟨.st [(0,31),(4,28),(5,26),(6,3),(7,38)],9,128,[.int .i64 0,.int .i64 0,.str [],.nl,.nl,.nl,.int .i64 0,.int .i64 0,.int .i64 0]⟩)) (.leaf (some ⟨.st [(0,31),(4,28),(5,26),(6,3),(7,38)],9,128,[.int .i64 0,.int .i64 0,.str [],.nl,.nl,.nl,.int .i64 0,.int .i64 0,.int .i64 0]⟩)))) (.node 2 (.node 1 zl0 zl0) (.node 1 (.leaf (some ⟨.sl 167,1,24,[.nl]⟩)) (.node 1 zl_ zl0)))) (.node 5 (.node 2 (.node 1 (.leaf (some ⟨.st [(0,38)],2,16,[.int .i64 0,.int .i64 0]⟩)) (.leaf (some ⟨.st [(0,38)],2,16,[.int .i64 0,.int .i64 0]⟩))) (.node 1 zl_ (.node 1 (.leaf (some ⟨.st [(0,157),(1,3)],2,32,[.nl,.int .i64 0]⟩)) (.leaf (some ⟨.st [(0,157),(1,3)],2,32,[.nl,.int .i64 0]⟩))))) (.node 2 (.node 1 (.leaf (some ⟨.st [(0,164)],2,32,[.nl,.int .i64 0]⟩)) (.leaf (some ⟨.st [(0,164)],2,32,[.nl,.int .i64 0]⟩))) (.node 1 zl7 (.node 1 zl0 zl0))))) (.node 9 (.node 4 (.node 2 (.node 1 (.leaf (some ⟨.sl 188,1,24,[.nl]⟩)) (.leaf (some ⟨.st [(0,9),(1,3),(2,26),(3,27),(4,170)],5,96,[.str [],.int .i64 0,.nl,.nl,.nl]⟩))) (.node 1 (.leaf (some ⟨.st [(0,9),(1,3),(2,26),(3,27),(4,170)],5,96,[.str [],.int .i64 0,.nl,.nl,.nl]⟩)) zl0)) (.node 2 (.node 1 zl0 (.leaf (some ⟨.st [(0,9),(1,3),(2,9),(3,26),(4,28),(5,25)],6,112,[.str [],.int .i64 0,.str [],.nl,.nl,.nl]⟩))) (.node 1 (.leaf (some ⟨.st [(0,9),(1,3),(2,9),(3,26),(4,28),(5,25)],6,112,[.str [],.int .i64 0,.str [],.nl,.nl,.nl]⟩)) (.node 1 zl0 zl0)))) (.node 5 (.node 2 (.node 1 (.leaf (some ⟨.pt 116,1,8,[.np]⟩)) (.leaf (some ⟨.pt 25,1,8,[.np]⟩))) (.node 1 zl0 (.node 1 zl0 zl0))) (.node 2 (.node 1 zl0 zl0) (.node 1 zl0 (.node 1 (.leaf (some ⟨.st [(0,9),(1,3),(2,29)],3,48,[.str [],.int .i64 0,.nl]⟩)) (.leaf (some ⟨.st [(0,9),(1,3),(2,29)],3,48,[.str [],.int .i64 0,.nl]⟩)))))))) (.node 19 (.node 9 (.node 4 (.node 2 (.node 1 zl0 zl0) (.node 1 zl0 zl0)) (.node 2 (.node 1 zl_ (.leaf (some ⟨.st [(0,9),(1,31)],5,72,[.str [],.int .i64 0,.int .i64 0,.str [],.nl]⟩))) (.node 1 (.leaf (some ⟨.st [(0,9),(1,31)],5,72,[.str [],.int .i64 0,.int .i64 0,.str [],.nl]⟩)) (.node 1 zl0 zl0)))) (.node 5 (.node 2 (.node 1 zl3 zl0) (.node 1 zl0 (.node 1 (.leaf (some ⟨.sl 36,1,24,[.nl]⟩)) (.leaf (some ⟨.sl 203,1,24,[.nl]⟩))))) (.node 2 (.node 1 (.leaf (some ⟨.sl 4,1,24,[.nl]⟩)) zl0) (.node 1 zl0 (.node 1 zl0 zl0))))) (.node 9 (.node 4 (.node 2 (.node 1 zl0 zl0) (.node 1 zl0 zl0)) (.node 2 (.node 1 zl0 zl0) (.node 1 zl0 (.node 1 zl_ zl0)))) (.node 5 (.node 2 (.node 1 (.leaf (some ⟨.pt 164,1,8,[.np]⟩)) zl0) (.node 1 zl0 (.node 1 zl0 zl0))) (.node 2 (.node 1 zl0 zl0) (.node 1 zl0 (.node 1 zl0 zl0))))))) (.node 38 (.node 19 (.node 9 (.node 4 (.node 2 (.node 1 zl0 zl0) (.node 1 zl0 zl0)) (.node 2 (.node 1 zl0 zl0) (.node 1 zl1 (.node 1 zl_ zl0)))) (.node 5 (.node 2 (.node 1 zl0 zl0) (.node 1 zl_ (.node 1 zl0 zl0))) (.node 2 (.node 1 (.leaf (some ⟨.int .u32,1,4,[.int .u32 0]⟩)) zl0) (.node 1 zl3 (.node 1 zl0 zl0))))) (.node 9 (.node 4 (.node 2 (.node 1 zl0 zl0) (.node 1 zl0 zl0)) (.node 2 (.node 1 zl0 zl0) (.node 1 zl0 (.node 1 zl_ zl0)))) (.node 5 (.node 2 (.node 1 zl_ zl0) (.node 1 zl_ (.node 1 zl0 zl0))) (.node 2 (.node 1 zl0 zl3) (.node 1 zl0 (.node 1 zl0 zl0)))))) (.node 19 (.node 9 (.node 4 (.node 2 (.node 1 (.leaf (some ⟨.pt 3,1,8,[.np]⟩)) zl0) (.node 1 zl0 zl0)) (.node 2 (.node 1 zl0 zl0) (.node 1 zl0 (.node 1 zl_ zl0)))) (.node 5 (.node 2 (.node 1 zl0 zl_) (.node 1 zl0 (.node 1 zl0 zl0))) (.node 2 (.node 1 (.leaf (some ⟨.pt 261,1,8,[.np]⟩)) zl_) (.node 1 zl0 (.node 1 zl0 zl0))))) (.node 9 (.node 4 (.node 2 (.node 1 zl0 zl0) (.node 1 zl0 zl0)) (.node 2 (.node 1 (.leaf (some ⟨.st [(0,17),(1,17),(2,17),(3,9)],4,40,[.np,.np,.np,.str []]⟩)) (.leaf (some ⟨.st [(0,17),(1,17),(2,17),(3,9)],4,40,[.np,.np,.np,.str []]⟩))) (.node 1 (.leaf (some ⟨.ar 0 16,0,0,[]⟩)) (.node 1 (.leaf (some ⟨.st [(0,290)],0,0,[]⟩)) (.leaf (some ⟨.st [(0,290)],0,0,[]⟩)))))) (.node 5 (.node 2 (.node 1 zl0 zl2) (.node 1 zl2 (.node 1 zl0 (.leaf (some ⟨.pt 5,1,8,[.np]⟩))))) (.node 2 (.node 1 zl6 zl6) (.node 1 (.leaf (some ⟨.st [(0,12),(1,12),(2,241),(3,294),(4,5),(5,5),(6,295),(7,296),(8,297),(9,298),(10,299)],11,48,[.int .u64 0,.int .u64 0,.int .u32 0,.int .u8 0,.int .u8 0,.int .u8 0,.int .u8 0,.zv 1,.np,.int .i32 0,.int .i32 0]⟩)) (.node 1 (.leaf (some ⟨.st [(0,12),(1,12),(2,241),(3,294),(4,5),(5,5),(6,295),(7,296),(8,297),(9,298),(10,299)],11,48,[.int .u64 0,.int .u64 0,.int .u32 0,.int .u8 0,.int .u8 0,.int .u8 0,.int .u8 0,.zv 1,.np,.int .i32 0,.int .i32 0]⟩)) zl_))))))))
theorem trw:tr.wf=true:=by kernel_rfl
theorem tok:Tok Tryz.prog tr.flat:=by unfold Tok;kernel_rfl
theorem tg {t:Nat}{i:TI}(h:tr.get t=some i):tr.flat[t]?=some (some i):=Tr.get_ok trw h
theorem mixed:Tryz.prog.follows .mixedOrders=true:=by kernel_rfl
section
variable {QP:Value→Prop}{ro:Option Nat}{n:Nat}{ops:Array Oper}{draw:Bool}{k k':Nat}{e:Nat→Option V}{h0:bY}{d0:List Nat}{st':St}{pre pre':REs}{tr':Tr}{ob:List Prop}{kf:List Nat}{id:Nat}
theorem ag {Q:Exit→St→Prop}(hs:List (Nat×Hn)) (h:rQ Tryz.prog tr true false n ops.toList hs 1000 0 ops.toList e h0 d0 [] []=some (st',k',pre',ob)) (hq:Q .normal st')
  (hc:gE ob:=by repeat (first | exact trivial | refine⟨by first | omega | assumption | exact⟨by kernel_rfl,by assumption⟩ | rfl | (simp only[Bm,List.length_nil];omega) | (simp;done) | (simp;omega),?_⟩)) (h1:Nat.beq k' ops.size=true:=by rfl) (h2:(!draw || (cM (preds ops) pre'.reverse []&&dQ ops))=true:=by kernel_rfl):AWp ro Tryz.prog n kf (.region id ops draw) ⟨e,h0,d0⟩ Q:=
 aNi mixed trw tok h hc h1 h2 hq
theorem agN {Q:Exit→St→Prop}(hs:List (Nat×Hn)) (h:rQ Tryz.prog tr true true n ops.toList hs 1000 0 ops.toList e h0 d0 [] []=some (st',k',pre',ob)) (hq:Q .normal st')
  (hc:gE ob:=by repeat (first | exact trivial | refine⟨by first | omega | assumption | exact⟨by kernel_rfl,by assumption⟩ | rfl | (simp only[Bm,List.length_nil];omega) | (simp;done) | (simp;omega),?_⟩)) (h1:Nat.beq k' ops.size=true:=by rfl) (h2:(!draw || (cM (preds ops) pre'.reverse []&&dQ ops))=true:=by kernel_rfl):AWp ro Tryz.prog n kf (.region id ops draw) ⟨e,h0,d0⟩ Q:=
 aNi mixed trw tok h hc h1 h2 hq
theorem ak {Q:St→Prop}(m:Nat) (hs:List (Nat×Hn)) (h:rQ Tryz.prog tr true false n ops.toList hs m k (ops.toList.drop k) e h0 d0 pre []=some (st',k',pre',ob)) (g:iC QP Tryz.prog n ops draw k' st' pre' Q)
  (hc:gE ob:=by repeat (first | exact trivial | refine⟨by first | omega | assumption | exact⟨by kernel_rfl,by assumption⟩ | rfl | (simp only[Bm,List.length_nil];omega) | (simp;done) | (simp;omega),?_⟩)):iC QP Tryz.prog n ops draw k ⟨e,h0,d0⟩ pre Q:=
 ax_ m trw tok h hc g
theorem akN {Q:St→Prop}(m:Nat) (hs:List (Nat×Hn)) (h:rQ Tryz.prog tr true true n ops.toList hs m k (ops.toList.drop k) e h0 d0 pre []=some (st',k',pre',ob)) (g:iC QP Tryz.prog n ops draw k' st' pre' Q)
  (hc:gE ob:=by repeat (first | exact trivial | refine⟨by first | omega | assumption | exact⟨by kernel_rfl,by assumption⟩ | rfl | (simp only[Bm,List.length_nil];omega) | (simp;done) | (simp;omega),?_⟩)):iC QP Tryz.prog n ops draw k ⟨e,h0,d0⟩ pre Q:=
 ax_ m trw tok h hc g
theorem agF {Q:Exit→St→Prop}{u:Nat→Option V}{g:bY}{d1:List Nat}{q:List Prop}{res:Res}{L:List (Nat×Option V)}(m:Nat) (hs:List (Nat×Hn)) (y:rQ Tryz.prog tr true false n ops.toList hs m 0 ops.toList e h0 d0 [] []=some (⟨u,g,d1⟩,k',pre',q))
  (A:mW Tryz.prog tr true false n ops.toList hs (aRe (ops.toList.drop k')) 1000 k' (ops.toList.drop k') u g d1 [] pre' q=some res) (B:pK res (aRe (ops.toList.drop k'))=some L) (hq:Q .normal ⟨l9 u L,g,d1⟩)
  (ho:res.obs:=by repeat (first | exact trivial | refine⟨fun _=>?_,fun _=>?_⟩ | refine⟨by first | omega | assumption | exact⟨by kernel_rfl,by assumption⟩ | rfl | (simp only[Bm,List.length_nil];omega) | (simp;done) | (simp;omega),?_⟩)) (E:res.good ops draw=true:=by kernel_rfl):AWp ro Tryz.prog n kf (.region id ops draw) ⟨e,h0,d0⟩ Q:=
 aQv m mixed trw tok y A B ho E hq
theorem az {Q:St→Prop}(hq:Q ⟨e,h0,d0⟩) (h1:Nat.beq k ops.size=true:=by rfl) (h2:(!draw || (cM (preds ops) pre.reverse []&&dQ ops))=true:=by kernel_rfl):iC QP Tryz.prog n ops draw k ⟨e,h0,d0⟩ pre Q:=z_ h1 h2 hq
theorem sgh {Q:Exit→St→Prop}{y:Code}(hs:List (Nat×Hn)) (h:rQ Tryz.prog tr true false n ops.toList hs 1000 0 ops.toList e h0 d0 [] []=some (st',k',pre',ob)) (hq:AWp ro Tryz.prog n kf y st' Q)
  (hc:gE ob:=by repeat (first | exact trivial | refine⟨by first | omega | assumption | exact⟨by kernel_rfl,by assumption⟩ | rfl | (simp only[Bm,List.length_nil];omega) | (simp;done) | (simp;omega),?_⟩)) (h1:Nat.beq k' ops.size=true:=by rfl) (h2:(!draw || (cM (preds ops) pre'.reverse []&&dQ ops))=true:=by kernel_rfl):AWp ro Tryz.prog n kf (.seq (.region id ops draw) y) ⟨e,h0,d0⟩ Q:=
 aA (ag hs h hq hc h1 h2)
theorem sg {Q:Exit→St→Prop}{y:Code}(h:rQ Tryz.prog tr true false n ops.toList [] 1000 0 ops.toList e h0 d0 [] []=some (st',k',pre',ob)) (hq:AWp ro Tryz.prog n kf y st' Q)
  (hc:gE ob:=by repeat (first | exact trivial | refine⟨by first | omega | assumption | exact⟨by kernel_rfl,by assumption⟩ | rfl | (simp only[Bm,List.length_nil];omega) | (simp;done) | (simp;omega),?_⟩)) (h1:Nat.beq k' ops.size=true:=by rfl) (h2:(!draw || (cM (preds ops) pre'.reverse []&&dQ ops))=true:=by kernel_rfl):AWp ro Tryz.prog n kf (.seq (.region id ops draw) y) ⟨e,h0,d0⟩ Q:=
 sgh [] h hq hc h1 h2
theorem skh {Q:Exit→St→Prop}{y:Code}(m:Nat) (hs:List (Nat×Hn)) (h:rQ Tryz.prog tr true false n ops.toList hs m 0 (ops.toList.drop 0) e h0 d0 [] []=some (st',k',pre',ob)) (g:iC (fun v=>∀e' q,Q (pan v) ⟨e',q,d0⟩) Tryz.prog n ops draw k' st' pre' (fun st'=>AWp ro Tryz.prog n kf y st' Q))
  (hc:gE ob:=by repeat (first | exact trivial | refine⟨by first | omega | assumption | exact⟨by kernel_rfl,by assumption⟩ | rfl | (simp only[Bm,List.length_nil];omega) | (simp;done) | (simp;omega),?_⟩)):AWp ro Tryz.prog n kf (.seq (.region id ops draw) y) ⟨e,h0,d0⟩ Q:=
 aA (aC mixed (ak m hs h g hc))
theorem sk {Q:Exit→St→Prop}{y:Code}(m:Nat) (h:rQ Tryz.prog tr true false n ops.toList [] m 0 (ops.toList.drop 0) e h0 d0 [] []=some (st',k',pre',ob)) (g:iC (fun v=>∀e' q,Q (pan v) ⟨e',q,d0⟩) Tryz.prog n ops draw k' st' pre' (fun st'=>AWp ro Tryz.prog n kf y st' Q))
  (hc:gE ob:=by repeat (first | exact trivial | refine⟨by first | omega | assumption | exact⟨by kernel_rfl,by assumption⟩ | rfl | (simp only[Bm,List.length_nil];omega) | (simp;done) | (simp;omega),?_⟩)):AWp ro Tryz.prog n kf (.seq (.region id ops draw) y) ⟨e,h0,d0⟩ Q:=
 skh m [] h g hc
theorem kz {Q:St→Prop}(m:Nat) (h:rQ Tryz.prog tr true false n ops.toList [] m k (ops.toList.drop k) e h0 d0 pre []=some (st',k',pre',ob)) (hq:Q st')
  (hc:gE ob:=by repeat (first | exact trivial | refine⟨by first | omega | assumption | exact⟨by kernel_rfl,by assumption⟩ | rfl | (simp only[Bm,List.length_nil];omega) | (simp;done) | (simp;omega),?_⟩)) (h1:Nat.beq k' ops.size=true:=by rfl) (h2:(!draw || (cM (preds ops) pre'.reverse []&&dQ ops))=true:=by kernel_rfl):iC QP Tryz.prog n ops draw k ⟨e,h0,d0⟩ pre Q:=
 ak m [] h (z_ h1 h2 hq) hc
end
set_option maxRecDepth 20000
abbrev Str:=List UInt8
def aR (s:Str):List C:=[.str s]
inductive Ty where
 | mk (form n:Int) (name:Str) (args:List Ty)
def Ty.form:Ty→Int | .mk f _ _ _=>f
def Ty.n:Ty→Int | .mk _ n _ _=>n
def Ty.name:Ty→Str | .mk _ _ s _=>s
def Ty.args:Ty→List Ty | .mk _ _ _ l=>l
mutual
def dG:Ty→List (List C)
 | .mk _ _ _ a=>dA a
def dA:List Ty→List (List C)
 | []=>[]
 | t::l=>[.int .i64 t.form,.int .i64 t.n,.str t.name,.sl 4 (dG t)]::dA l
end
def cF (t:Ty):List C:=[.int .i64 t.form,.int .i64 t.n,.str t.name,.sl 4 (dG t)]
theorem b9 {α:Type}{l:List α}{k:Nat}{x:α}(f:α→List C) (h:l[k]?=some x):(l.map f)[k]?=some (f x):=by rw[List.getElem?_map,h];rfl
theorem aM {α:Type}{l:List α}{k:Nat}(h:k<l.length):∃x,l[k]?=some x:=⟨l[k],by simp[h]⟩
theorem eY:∀l:List Ty,dA l=l.map cF
 | []=>by simp[dA]
 | c::l=>by rw[dA,eY l];rfl
def Fits {α:Type}(l:List α):Prop:=l.length≤1152921504606846976
theorem aHc (l:List Str) (s:Str) (hl:Fits l):aU Tryz.prog 18 [.one (.c (.sl 1 (l.map aR))),Go.AM.T s] [] (B (decide (s∈l))) []:=by
 unfold Fits at hl;refine bC (n:=18) tok Tryz.func18 rfl rfl rfl ?_;refine sg rfl (aA (sg rfl (aE (aL (fun k:Nat=>mk [(0,.one (.c (.sl 1 (l.map aR)))),(1,Go.AM.T s),(5,I .i64 k)] []) (fun k=>k≤l.length∧s∉l.take k) (fun k=>l.length-k) 0 ⟨Ac _,by simp⟩ (.list (fun i=>i) ⟨rfl,rfl,rfl,trivial⟩ trivial rfl) ?_))));intro k ⟨E,hm⟩;refine aA (sg rfl (aB rfl (fun hb=>?_) (fun hb=>?_)))
 ·refine aD ?_;have q:k<l.length:=by simpa using hb
  obtain⟨x,hx⟩:=aM q;have A:=b9 aR hx;refine aA (aE (sgh [(2,.row k (aR x))] rfl (aB rfl (fun hb=>?_) (fun hb=>?_))))
  ·refine sg rfl (aF ?_);have g:x=s:=by simpa using hb
   have:s∈l:=by rw[←g];exact Af hx
   exact⟨.inr rfl,⟨_,_,.tmp rfl .nil,.cons .refl .nil,by simp[aI1,this]⟩,trivial,rfl⟩
  ·refine aD (ag [] rfl ⟨k+1,⟨q,?_⟩,by dsimp only;omega,.list (fun i=>i) ⟨rfl,rfl,rfl,trivial⟩ trivial rfl⟩);rw[Be,hx];have g:¬x=s:=by simpa using hb
   have u:¬s=x:=fun e=>g e.symm
   simp[hm,u]
 ·refine aG ?_;have y:k=l.length:=by
   have:¬k<l.length:=by simpa using hb
   omega
  refine sg rfl (aF ?_);rw[y,Ao] at hm;exact⟨.inr rfl,⟨_,_,.tmp rfl .nil,.cons .refl .nil,by simp[aI1,hm]⟩,trivial,rfl⟩
def qF (n k:Int):Int:=(if n<0 then -(n+1) else n)%k
def i64 (n:Int):Prop:= -9223372036854775808≤n∧n≤9223372036854775807
theorem aIc (n:Int) {k:Int}(g:0<k):0≤qF n k∧qF n k<k:=⟨Int.emod_nonneg _ (by omega),Int.emod_lt_of_pos _ g⟩
theorem aLg (n k:Int) (hn:i64 n) (g:1≤k):aU Tryz.prog 17 [I .i64 n,I .i64 k] [] (I .i64 (qF n k)) []:=by
 unfold i64 at hn;refine bC (n:=13) tok Tryz.func17 rfl rfl rfl ?_;refine sg rfl (aA (sg rfl (aB rfl (fun hb=>?_) (fun hb=>?_))))
 ·have h0:n<0:=by simpa using hb
  exact ag [] rfl (sg rfl (aF ⟨.inr rfl,⟨_,_,.tmp rfl .nil,.cons .refl .nil,by simp[aI1,qF,h0]⟩,trivial,rfl⟩))
 ·have h0:¬n<0:=by simpa using hb
  exact aD (sg rfl (aF ⟨.inr rfl,⟨_,_,.tmp rfl .nil,.cons .refl .nil,by simp[aI1,qF,h0]⟩,trivial,rfl⟩))
set_option maxRecDepth 100000
set_option maxHeartbeats 4000000
def plB (c:Nat):Bool:=decide ((97≤c∧c≤122)∨(65≤c∧c≤90)∨(48≤c∧c≤57))
theorem xT (c:Nat) (w:World) (h:c<256):Calls Tryz.prog 222 #[.int .u8 (c:Int)] w fun e w'=>e=.returned (.bool (plB c))∧w=w':=by
 go_enter Tryz.func222,Tryz.ntmps222
 go_wp2
 all_goals go_ret
 all_goals refine⟨congrArg Ending.returned (congrArg Value.bool (a₂:=plB c) ?_),rfl⟩
 all_goals (unfold plB;rw[Bp];simp;omega)
def fiB (r lo hi:Int):Bool:=decide (lo≤r∧r≤hi)
theorem yA (r lo hi:Int) (a b:Nat) (w:World) (ha:w.cell? ⟨a,0,none⟩=some (.int .i32 lo)) (hb:w.cell? ⟨b,0,none⟩=some (.int .i32 hi)):
  Calls Tryz.prog 221 #[.int .i64 0,.int .i32 r,.pointer (some ⟨a,0,none⟩),.pointer (some ⟨b,0,none⟩)] w fun e w'=>e=.returned (.bool (fiB r lo hi))∧w=w':=by
 go_enter Tryz.func221,Tryz.ntmps221
 go_wp2
 all_goals go_ret
 all_goals refine⟨congrArg Ending.returned (congrArg Value.bool (a₂:=fiB r lo hi) ?_),rfl⟩
 all_goals (unfold fiB;rw[Bp];simp;omega)
def nmQ (c:Nat) (lo hi:Int):Bool:=fiB c lo hi&&(plB c || decide (c=39∨c=95))
def aUs (c:Nat) (lo hi:Int) (w:World) (e:Ending) (w':World):Prop:=e=.returned (.bool (nmQ c lo hi))∧∃os:Array Obj,w'={ w with heap:=w.heap++os }
def aWs (c:Nat) (lo hi:Int) (pos:Nat):Prop:=pos=0∨(pos=1∧nmQ c lo hi=true)
def NmW (c:UInt8) (lo hi:Int) (w:World) (pos:Nat):World:=((w.alloc (.cells #[.int .i32 lo] 21)).alloc (.cells #[.int .i32 hi] 21)).iter ⟨#[c]⟩ pos
theorem aIm (c:UInt8) (lo hi:Int) (w:World) (pos:Nat):∃os:Array Obj,NmW c lo hi w pos={ w with heap:=w.heap++os }:=⟨#[.cells #[.int .i32 lo] 21,.cells #[.int .i32 hi] 21,.stringIter ⟨#[c]⟩ pos],by
 simp only[NmW,World.iter,World.alloc]
 congr 1⟩
theorem aUq (c:UInt8) (lo hi:Int) (w:World) (pos:Nat):(NmW c lo hi w pos).cell? ⟨w.heap.size,0,none⟩=some (.int .i32 lo):=by
 have h:(NmW c lo hi w pos).heap[w.heap.size]?=some (.cells #[.int .i32 lo] 21):=by
  show(((w.heap.push _).push _).push _)[w.heap.size]?=_;rw[Array.getElem?_push_lt (by rw[Bk,Bk];omega),Array.getElem_push_lt (by rw[Bk];omega),Array.getElem_push_eq]
 unfold World.cell?;rw[h];rfl
theorem aUr (c:UInt8) (lo hi:Int) (w:World) (pos:Nat):(NmW c lo hi w pos).cell? ⟨w.heap.size+1,0,none⟩=some (.int .i32 hi):=by
 have h:(NmW c lo hi w pos).heap[w.heap.size+1]?=some (.cells #[.int .i32 hi] 21):=by
  show(((w.heap.push _).push _).push _)[w.heap.size+1]?=_;rw[Array.getElem?_push_lt (by rw[Bk,Bk];omega),Array.getElem_push];rw[dif_neg (by rw[Bk];omega)]
 unfold World.cell?;rw[h];rfl
theorem tY (c:UInt8) (lo hi:Int) (w:World) (pos:Nat):(NmW c lo hi w pos).iterPos (w.heap.size+2)=pos:=by
 have h:(NmW c lo hi w pos).heap[w.heap.size+2]?=some (.stringIter ⟨#[c]⟩ pos):=by
  show(((w.heap.push _).push _).push _)[w.heap.size+2]?=_;rw[Array.getElem?_push,θ (by rw[Bk,Bk])]
 unfold World.iterPos;rw[h]
theorem aMs {c:Nat}{lo hi:Int}(h1:fiB c lo hi=true) (h2:plB c=true∨c=39∨c=95):nmQ c lo hi=true:=by
 unfold nmQ;rw[h1];rcases h2 with h | h
 ·rw[h];rfl
 ·rw[φ h,Bool.or_true];rfl
theorem aJx {c:Nat}{lo hi:Int}(h:¬fiB c lo hi=true∨(¬plB c=true∧¬c=39∧¬c=95)):nmQ c lo hi=false:=by
 unfold nmQ;rcases h with h | ⟨h1,h2,g⟩
 ·rw[Ck _ |>.mp h];rfl
 ·rw[Ck _ |>.mp h1,ψ (by omega),Bool.or_self,Bool.and_false]
theorem r9 (c:UInt8) (lo hi:Int) (w:World) (hc:c.toNat<128):Calls Tryz.prog 206 #[.string ⟨#[c]⟩,.int .i32 lo,.int .i32 hi] w (aUs c.toNat lo hi w):=by
 go_enter Tryz.func206,Tryz.ntmps206
 go_wp2
 go_loopw [] (fun wr=>∃pos:Nat,aWs c.toNat lo hi pos∧wr=NmW c lo hi w pos) (fun wr=>1-wr.iterPos (w.heap.size+2))
 case atStart=>exact⟨0,.inl rfl,rfl⟩
 case round=>
  obtain⟨pos,y,rfl⟩:=hrel;have hsz:((w.alloc (.cells #[.int .i32 lo] 21)).alloc (.cells #[.int .i32 hi] 21)).heap.size=w.heap.size+1+1:=by
   show((w.heap.push _).push _).size=_;rw[Bk,Bk]
  rcases y with rfl | ⟨rfl,g⟩
  ·have hn:∀ty,(Instr.next (.pointer (some ⟨w.heap.size+1+1,0,none⟩)) true ty).run Tryz.prog (NmW c lo hi w 0)=.ok (.tuple #[.bool true,.int .i64 0,.int .i32 (c.toNat:Int)]) (NmW c lo hi w 1):=fun ty=>by
    have:=run_next_ascii (P:=Tryz.prog) ((w.alloc (.cells #[.int .i32 lo] 21)).alloc (.cells #[.int .i32 hi] 21)) ⟨#[c]⟩ 0 ty (show 0<1 by decide) hc;rw[hsz] at this;exact this
   clear hsz;have q:=aUq c lo hi w 1;have u:=aUr c lo hi w 1;have A:(c.toNat:Int)≤127:=by omega
   have B:0≤(c.toNat:Int):=by omega
   go_wp2_with (first | (go_at_call 221;(with_reducible refine(yA _ _ _ _ _ _ q u).mono ?_);rintro e w' ⟨rfl,rfl⟩) | (go_at_call 222;(with_reducible refine(xT _ _ (by omega)).mono ?_);rintro e w' ⟨rfl,rfl⟩))
   all_goals first
    | exact⟨⟨1,.inr ⟨rfl,aMs (by assumption) (.inl (by assumption))⟩,rfl⟩,by rw[tY,tY];decide⟩
    | exact⟨⟨1,.inr ⟨rfl,aMs (by assumption) (.inr (by simp at *;omega))⟩,rfl⟩,by rw[tY,tY];decide⟩
    | (go_ret;exact⟨by rw[aJx (.inl (by assumption))];rfl,aIm c lo hi w 1⟩)
    | (go_ret;exact⟨by rw[aJx (.inr ⟨by assumption,by simp at *;omega,by simp at *;omega⟩)];rfl,aIm c lo hi w 1⟩)
  ·have hn:∀ty,(Instr.next (.pointer (some ⟨w.heap.size+1+1,0,none⟩)) true ty).run Tryz.prog (NmW c lo hi w 1)=.ok (.tuple #[.bool false]) (NmW c lo hi w 1):=fun ty=>by
    have:=run_next_end (P:=Tryz.prog) ((w.alloc (.cells #[.int .i32 lo] 21)).alloc (.cells #[.int .i32 hi] 21)) ⟨#[c]⟩ 1 ty (show ¬1<1 by decide);rw[hsz] at this;exact this
   clear hsz
   go_wp2
   go_ret
   exact⟨by rw[g];rfl,aIm c lo hi w 1⟩
def kN (b:Bool) (w:World) (e:Ending) (w':World):Prop:=e=.returned (.bool b)∧∃os:Array Obj,w'={ w with heap:=w.heap++os }
def aUp (s:ByteArray) (lo hi:Int) (w:World) (pos:Nat):World:=((w.alloc (.cells #[.int .i32 lo] 21)).alloc (.cells #[.int .i32 hi] 21)).iter s pos
theorem aIl (s:ByteArray) (lo hi:Int) (w:World) (pos:Nat):∃os:Array Obj,aUp s lo hi w pos={ w with heap:=w.heap++os }:=⟨#[.cells #[.int .i32 lo] 21,.cells #[.int .i32 hi] 21,.stringIter s pos],by
 simp only[aUp,World.iter,World.alloc]
 congr 1⟩
theorem uF {P:Program}(w:World) (s:ByteArray) (pos:Nat) (ty:TypeId) (r k:Nat) (h:pos<s.size) (g:Utf8.decode s pos=(r,k)):
  (Instr.next (.pointer (some ⟨w.heap.size,0,none⟩)) true ty).run P (w.iter s pos)=.ok (.tuple #[.bool true,.int .i64 pos,.int .i32 r]) (w.iter s (pos+k)):=by
 simp only[Instr.next,getObj,setObj,ε,Sem.run,World.iter_heap,Result.andThen,h,Cd,g,World.iter_set];simp[goInt]
theorem aAh (s:ByteArray) (lo hi:Int) (w:World) (r k:Nat) (h:0<s.size) (g:Utf8.decode s 0=(r,k)) (u:127<r):Calls Tryz.prog 206 #[.string s,.int .i32 lo,.int .i32 hi] w (kN false w):=by
 go_enter Tryz.func206,Tryz.ntmps206
 go_wp2
 go_loopw [] (fun wr=>wr=aUp s lo hi w 0) (fun _=>1)
 case atStart=>rfl
 case round=>
  have hsz:((w.alloc (.cells #[.int .i32 lo] 21)).alloc (.cells #[.int .i32 hi] 21)).heap.size=w.heap.size+1+1:=by
   show((w.heap.push _).push _).size=_;rw[Bk,Bk]
  subst hrel;have hn:∀ty,(Instr.next (.pointer (some ⟨w.heap.size+1+1,0,none⟩)) true ty).run Tryz.prog (aUp s lo hi w 0)=.ok (.tuple #[.bool true,.int .i64 0,.int .i32 (r:Int)]) (aUp s lo hi w (0+k)):=fun ty=>by
   have:=uF (P:=Tryz.prog) ((w.alloc (.cells #[.int .i32 lo] 21)).alloc (.cells #[.int .i32 hi] 21)) s 0 ty r k h g;rw[hsz] at this;exact this
  clear hsz;have q:127<(r:Int):=by omega
  go_wp2
  all_goals (go_ret;exact⟨rfl,by first | exact aIl s lo hi w k | exact aIl s lo hi w (0+k)⟩)
end Go.Proofs.YtkhgpgihmphfdaaGreat
namespace Go.AM
open Go Go.Proofs Go.Shelf
theorem aH8 {ro:Option Nat}{P:Program}{n:Nat}{kf:List Nat}{c:Code}{st:St}{Q:Exit→St→Prop}(t:Nat) {es:Nat}{l:List (List C)}(h:st.e t=some (.one (.c (.sl es l)))) (h1:l=[]→AWp ro P n kf c ⟨upd st.e t (some (.one (.c .nl))),st.h,st.d⟩ Q)
  (h2:AWp ro P n kf c ⟨upd st.e t (some (.one (.c (.sn es l)))),st.h,st.d⟩ Q):AWp ro P n kf c st Q:=by
 intro G S μ a w Q' y hs A;have B:=hs.env t _ h
 have key:∀x:V,aN S μ st.h x (a.tmps.getD t undef)→Sim G n S μ ⟨upd st.e t (some x),st.h,st.d⟩ a w:=fun x hx=>⟨hs.inv,hs.size,hs.defers,fun s u e=>by
  by_cases g:s=t
  ·subst g;have:some x=some u:=by rw[←e];exact(aH _ _ _).symm
   cases this;exact hx
  ·exact hs.env s u (by rw[←e];exact(aY _ _ _ g).symm)⟩
 simp only[aN,aX,Rep] at B;obtain⟨q,len,cap,E,U,Y,e4,e5,e6,b,o,e7,e8⟩:=B;cases q with
 | none=>
  obtain⟨e9,I⟩:=e5 rfl;have hl:l=[]:=Ap (by omega);exact h1 hl G S μ a w Q' y (key _ (by simp only[aN,aX,Rep];rw[E,e9,I])) A
 | some q=>
  obtain⟨b',o',sp⟩:=q;have J:=e6 _ rfl;obtain⟨M,O⟩:=e7 _ rfl;dsimp only at J M O;subst M O;exact h2 G S μ a w Q' y (key _ (by simp only[aN,aX,Rep];exact⟨b',o',sp,len,cap,E,U,Y,e4,J,e8⟩)) A
end Go.AM
namespace Go.AM
open Go
def AObj.ren (σ:Nat→Nat):AObj→AObj
 | .var t cells=>.var t (R.renL σ cells)
 | .lp st j i e=>.lp st j i (aDv σ e)
 | .rarr te es l=>.rarr te es (uP σ l)
 | .tok r k=>.tok (r.ren σ) k
 | o=>o
def renH (σ:Nat→Nat) (hl:List (Nat×AObj)):List (Nat×AObj):=hl.map fun p=>(σ p.1,p.2.ren σ)
section
mutual
theorem R.ren_ren {σ:Nat→Nat}(hσ:∀i,σ (σ i)=i):∀r:R,(r.ren σ).ren σ=r
 | .c _=>rfl
 | .hs ..=>by simp[R.ren,hσ]
 | .tl ..=>by simp[R.ren,hσ]
 | .vp ..=>by simp[R.ren,hσ]
 | .ep ..=>by simp[R.ren,hσ]
 | .mr _=>by simp[R.ren,hσ]
 | .clo f caps=>by simp[R.ren,R.renL_renL hσ caps]
 | .mth f r=>by simp[R.ren,R.ren_ren hσ r]
 | .yl _=>by simp[R.ren,hσ]
 | .ra ..=>by simp[R.ren,hσ]
 | .rp ..=>by simp[R.ren,hσ]
 | .ras n es l=>by simp[R.ren,R.renL_renL hσ l]
 | .pas l=>by simp[R.ren,R.renL_renL hσ l]
theorem R.renL_renL {σ:Nat→Nat}(hσ:∀i,σ (σ i)=i):∀l:List R,R.renL σ (R.renL σ l)=l
 | []=>rfl
 | r::l=>by simp[R.renL,R.ren_ren hσ r,R.renL_renL hσ l]
end
mutual
theorem V.ren_ren {σ:Nat→Nat}(hσ:∀i,σ (σ i)=i):∀r:V,(r.ren σ).ren σ=r
 | .one r=>by simp[V.ren,R.ren_ren hσ r]
 | .pa _=>rfl
 | .ma l=>by simp[V.ren,R.renL_renL hσ l]
 | .tup l=>by simp[V.ren,V.renL_renL hσ l]
theorem V.renL_renL {σ:Nat→Nat}(hσ:∀i,σ (σ i)=i):∀l:List V,V.renL σ (V.renL σ l)=l
 | []=>rfl
 | r::l=>by simp[V.renL,V.ren_ren hσ r,V.renL_renL hσ l]
end
variable {σ:Nat→Nat}(hσ:∀i,σ (σ i)=i)
include hσ
theorem uQ:∀l:List (Nat×V),aDv σ (aDv σ l)=l
 | []=>rfl
 | (t,v)::l=>by simp[aDv,V.ren_ren hσ v,uQ l]
theorem uN:∀l:List (List R),uP σ (uP σ l)=l
 | []=>rfl
 | r::l=>by simp[uP,R.renL_renL hσ r,uN l]
theorem Ole.to_ren (o:AObj):Ole σ o (o.ren σ):=by
 cases o with
 | var t cells=>exact .var (R.renL_renL hσ cells).symm
 | lp st j i e=>exact .lp (uQ hσ e).symm
 | rarr te es l=>exact .rarr (uN hσ l).symm
 | tok r k=>exact .tok (R.ren_ren hσ r).symm
 | arr=>exact .arr
 | map=>exact .map
 | dead=>exact .dead
 | dfr=>exact .dfr
end
theorem Ole.of_ren {σ:Nat→Nat}(o:AObj):Ole σ (o.ren σ) o:=by
 cases o with
 | var t cells=>exact .var rfl
 | lp st j i e=>exact .lp rfl
 | rarr te es l=>exact .rarr rfl
 | tok r k=>exact .tok rfl
 | arr=>exact .arr
 | map=>exact .map
 | dead=>exact .dead
 | dfr=>exact .dfr
mutual
theorem R.refs_ren {σ:Nat→Nat}:∀r:R,(r.ren σ).refs=r.refs.map σ
 | .c _=>rfl
 | .hs ..=>rfl
 | .tl ..=>rfl
 | .vp ..=>rfl
 | .ep ..=>rfl
 | .mr _=>rfl
 | .clo f caps=>by simp[R.ren,R.refs,R.refsL_ren caps]
 | .mth f r=>by simp[R.ren,R.refs,R.refs_ren r]
 | .yl _=>rfl
 | .ra ..=>rfl
 | .rp ..=>rfl
 | .ras n es l=>by simp[R.ren,R.refs,R.refsL_ren l]
 | .pas l=>by simp[R.ren,R.refs,R.refsL_ren l]
theorem R.refsL_ren {σ:Nat→Nat}:∀l:List R,R.refsL (R.renL σ l)=(R.refsL l).map σ
 | []=>rfl
 | r::l=>by simp[R.renL,R.refsL,R.refs_ren r,R.refsL_ren l]
end
mutual
theorem V.refs_ren {σ:Nat→Nat}:∀r:V,(r.ren σ).refs=r.refs.map σ
 | .one r=>by simp[V.ren,V.refs,R.refs_ren r]
 | .pa _=>rfl
 | .ma l=>by simp[V.ren,V.refs,R.refsL_ren l]
 | .tup l=>by simp[V.ren,V.refs,V.refsL_ren l]
theorem V.refsL_ren {σ:Nat→Nat}:∀l:List V,V.refsL (V.renL σ l)=(V.refsL l).map σ
 | []=>rfl
 | r::l=>by simp[V.renL,V.refsL,V.refs_ren r,V.refsL_ren l]
end
theorem uT {σ:Nat→Nat}:∀l:List (Nat×V),uU (aDv σ l)=(uU l).map σ
 | []=>rfl
 | (t,v)::l=>by simp[aDv,uU,V.refs_ren v,uT l]
theorem uS {σ:Nat→Nat}:∀l:List (List R),xM (uP σ l)=(xM l).map σ
 | []=>rfl
 | r::l=>by simp[uP,xM,R.refsL_ren r,uS l]
theorem AObj.refs_ren {σ:Nat→Nat}(o:AObj):(o.ren σ).refs=o.refs.map σ:=by
 cases o with
 | var t cells=>exact R.refsL_ren cells
 | lp st j i e=>exact uT e
 | rarr te es l=>exact uS l
 | tok r k=>exact R.refs_ren r
 | _=>rfl
structure RenH (σ:Nat→Nat) (H H':bY):Prop where
 to:∀i o,H (σ i)=some o→∃o',H' i=some o'∧Ole σ o o'
 of:∀i o',H' i=some o'→∃o,H (σ i)=some o∧Ole σ o o'
 cl:∀i o',H' i=some o'→∀j∈o'.refs,∃x,H' j=some x
theorem RenH.good {σ:Nat→Nat}{H H':bY}(h:RenH σ H H') {i:Nat}(hi:∃x,H' i=some x):Good H H' σ i:=by
 obtain⟨x,hx⟩:=hi;obtain⟨o,h1,h2⟩:=h.of i x hx;exact⟨o,x,h1,hx,h2⟩
theorem aI6 {σ:Nat→Nat}{P:Prop}{a b c d:AObj}(h1:Ole σ a b) (h2:Ole σ c d) (h:a.succ P c):b.succ P d:=by
 cases h1<;>cases h2<;>simp only[AObj.succ] at h ⊢<;>try exact h
 ·rename_i g _ _ _ _ q;subst g q;simpa [dL] using h
theorem Inv.renH {σ:Nat→Nat}(hσ:∀i,σ (σ i)=i) {G:Ctx}{q H H':bY}{S:Sto}{μ:Mu}{w:World}(h:Inv G S μ H w) (h0:RenH σ G.h0 q) (g:RenH σ H H'):
  Inv { G with μ0:=fun i=>G.μ0 (σ i),h0:=q } S (fun i=>μ (σ i)) H' w:=by
 refine⟨h.holds,fun id o ho=>?_,fun i j o o' b c c' hi u hm A=>?_,fun i o b c hi hm=>?_,h.frame,h.sle,h.sto,⟨h.evo.le,fun id o ho=>?_⟩,h.fre⟩
 ·obtain⟨x,h1,h2⟩:=g.of id o ho;exact(h.obj _ _ h1).ren h2 fun j u=>g.good (g.cl id o ho j u)
 ·obtain⟨x,h1,_⟩:=g.of i o hi;obtain⟨y,h2,_⟩:=g.of j o' u;have:=h.inj _ _ _ _ b c c' h1 h2 hm A;rw[←hσ i,←hσ j,this]
 ·obtain⟨x,h1,_⟩:=g.of i o hi;exact h.own _ _ b c h1 hm
 ·obtain⟨x,h1,h2⟩:=h0.of id o ho;obtain⟨y,B,E⟩:=h.evo.obj _ _ h1;obtain⟨z,I,J⟩:=g.to id y B;exact⟨z,I,aI6 h2 J E⟩
section
variable {σ:Nat→Nat}(hσ:∀i,σ (σ i)=i)
include hσ
theorem aQp (i k:Nat):Nat.beq (σ i) (σ k)=Nat.beq i k:=by
 cases h:Nat.beq i k with
 | true=>rw[δ h];exact beq_refl _
 | false=>
  cases g:Nat.beq (σ i) (σ k) with
  | false=>rfl
  | true=>
   have:=δ g;have e:i=k:=by rw[←hσ i,←hσ k,this]
   rw[e,beq_refl] at h;cases h
theorem kC (i:Nat):∀hl:List (Nat×AObj),look (Go.AM.renH σ hl) (σ i)=(look hl i).map (AObj.ren σ)
 | []=>rfl
 | (k,o)::hl=>by
  have g:=kC i hl;simp only[Go.AM.renH,Bh,look,aQp hσ] at g ⊢;split
  ·rfl
  ·exact g
theorem RenH.a {hl:List (Nat×AObj)}(hc:subset (eH hl) (keys hl)=true):RenH σ (look (Go.AM.renH σ hl)) (look hl):=by
 refine⟨fun i o h=>?_,fun i o h=>?_,fun i o h j g=>?_⟩
 ·rw[kC hσ] at h;cases hx:look hl i with
  | none=>rw[hx] at h;cases h
  | some x=>rw[hx] at h;cases h;exact⟨x,rfl,.of_ren x⟩
 ·exact⟨o.ren σ,by rw[kC hσ,h];rfl,.of_ren o⟩
 ·exact i4 (bN hc j (gH (b7 h) j g))
theorem RenH.b {hl:List (Nat×AObj)}(hc:subset (eH hl) (keys hl)=true):RenH σ (look hl) (look (Go.AM.renH σ hl)):=by
 have key:∀i,look (Go.AM.renH σ hl) i=(look hl (σ i)).map (AObj.ren σ):=fun i=>by
  have:=kC hσ (σ i) hl;rwa [hσ] at this
 refine⟨fun i o h=>⟨o.ren σ,by rw[key,h];rfl,.to_ren hσ o⟩,fun i o h=>?_,fun i o h j g=>?_⟩
 ·rw[key] at h;cases hx:look hl (σ i) with
  | none=>rw[hx] at h;cases h
  | some x=>rw[hx] at h;cases h;exact⟨x,rfl,.to_ren hσ x⟩
 ·rw[key] at h;cases hx:look hl (σ i) with
  | none=>rw[hx] at h;cases h
  | some x=>
   rw[hx] at h;cases h;rw[AObj.refs_ren] at g;obtain⟨k,q,rfl⟩:=mem_map.1 g;obtain⟨y,hy⟩:=i4 (bN hc k (gH (b7 hx) k q));exact⟨y.ren σ,by rw[key,hσ,hy];rfl⟩
theorem aU.ren {P:Program}{f:FuncId}{args:List V}{hin hout:List (Nat×AObj)}{res:V}(h:aU P f args hin res hout) (h1:subset (eH hin) (keys hin)=true) (h2:subset (V.refsL args) (keys hin)=true) (B:subset (eH hout) (keys hout)=true) (J:subset res.refs (keys hout)=true):
  aU P f (V.renL σ args) (Go.AM.renH σ hin) (res.ren σ) (Go.AM.renH σ hout):=by
 intro S μ w vals M O;have ra:=RenH.a hσ h1;have A:=M.renH hσ ra ra;have E:i9 μ (look (Go.AM.renH σ hin))=i9 (fun i=>μ (σ i)) (look hin):=by
  funext b;refine propext ⟨?_,?_⟩
  ·rintro⟨j,o,c,g,q⟩;obtain⟨o',u,_⟩:=ra.to (σ j) o (by rw[hσ];exact g);exact⟨σ j,o',c,u,by show μ (σ (σ j))=_;rw[hσ];exact q⟩
  ·rintro⟨j,o,c,g,q⟩;obtain⟨o',u,_⟩:=ra.of j o g;exact⟨σ j,o',c,u,q⟩
 rw[E] at A;have I:aV S (fun i=>μ (σ i)) (look hin) args vals:=aV.ren args vals (fun i hi=>ra.good (i4 (bN h2 i hi))) O;refine Calls.mono (h S (fun i=>μ (σ i)) w vals A I) ?_;rintro e w' ⟨S',μ',v,g,q,u⟩;refine⟨S',fun i=>μ' (σ i),v,g,?_,?_⟩
 ·have:=q.renH hσ (RenH.b hσ h1) (RenH.b hσ B);dsimp only at this;rw[E];simpa only[hσ] using this
 ·refine aN.ren (res.ren σ) v (fun i hi=>(RenH.b hσ B).good ?_) (by rw[V.ren_ren hσ];exact u);rw[V.refs_ren] at hi;obtain⟨k,U,rfl⟩:=mem_map.1 hi;obtain⟨y,hy⟩:=i4 (bN J k U);exact⟨y.ren σ,by rw[kC hσ,hy];rfl⟩
end
def swp (a b i:Nat):Nat:=bif Nat.beq i a then b else bif Nat.beq i b then a else i
theorem aN2 (a b i:Nat):swp a b (swp a b i)=i:=by
 have hb:∀x y:Nat,(Nat.beq x y=true)↔x=y:=fun x y=>⟨δ,fun h=>by subst h;exact beq_refl _⟩
 unfold swp;cases h1:Nat.beq i a<;>cases h2:Nat.beq i b<;>simp only[Bi,Bf]
 ·rw[h1,h2];rfl
 ·cases g:Nat.beq a a with
  | true=>simp only[Bi];exact((hb _ _).1 h2).symm
  | false=>rw[beq_refl] at g;cases g
 ·cases g:Nat.beq b a with
  | true=>simp only[Bi];rw[(hb _ _).1 g,(hb _ _).1 h1]
  | false=>rw[beq_refl];simp only[Bi,Bf];exact((hb _ _).1 h1).symm
 ·have q:=(hb _ _).1 h1;have u:=(hb _ _).1 h2;have A:b=a:=by rw[←u,q]
  rw[A,beq_refl];simp only[Bi];exact q.symm
theorem aU.swap (a b:Nat) {P:Program}{f:FuncId}{args:List V}{hin hout:List (Nat×AObj)}{res:V}(h:aU P f args hin res hout) (h1:subset (eH hin) (keys hin)=true:=by rfl) (h2:subset (V.refsL args) (keys hin)=true:=by rfl) (g:subset (eH hout) (keys hout)=true:=by rfl) (q:subset res.refs (keys hout)=true:=by rfl):
  aU P f (V.renL (swp a b) args) (renH (swp a b) hin) (res.ren (swp a b)) (renH (swp a b) hout):=h.ren (aN2 a b) h1 h2 g q
end Go.AM
namespace Go.AM
open Go Go.Proofs
section
variable {QP:Value→Prop}{P:Program}{n:Nat}{ops:Array Oper}{draw:Bool}{k d:Nat}{st:St}{pre:REs}{Q:St→Prop}{o:Oper}{f:FuncId}{xs:Array Operand}{ts:Array TypeId}{ids:List Nat}{args:List V}{res:V}{hin hout:List (Nat×AObj)}
theorem kcG {j t:Nat}{want b:Bool}(B:aU P f args hin res hout)
  (E:iC QP P n ops draw (k+1) ⟨upd st.e d (some res),fE st.h (outs hout),st.d⟩ ((⟨t::bV xs.toList,ids++keys hin++keys hout⟩,⟨some (d,some res),outs hout⟩)::pre) Q)
  (hb:fI P f:=by exact aDe (by kernel_rfl)) (ho:ops[k]?=some o:=by rfl) (I:o.guard=some (j,want):=by rfl) (J:(ops[j]?).bind (·.dst)=some t:=by rfl) (u:st.e t=some (.one (.c (.bool b))):=by rfl) (hw:b=want:=by first | rfl | assumption) (y:o.op=.call { callee:=.value (.func f),args:=xs,argTypes:=ts }:=by rfl) (M:o.dst=some d:=by rfl) (A:Nat.blt d n=true:=by rfl)
  (ha:ArgsV st ids xs.toList args:=by repeat (first | exact .nil | (apply Go.AM.ArgsV.cons rfl;(first | exact .refl | exact .one (.c .nl .nil) | exact .one (.c .sn .nil) | exact .one (.hs rfl (by first | rfl | simp) (by first | rfl | (simp;done) | (simp[Go.AM.take_map];done) | exact Go.AM.take_map.symm) .nil) | exact Go.AM.hs_all rfl rfl (by first | rfl | assumption | (simp;done) | (simp;omega)) (by first | rfl | assumption | (simp;done)) | ((first | apply Go.AM.Conv.pa | apply Go.AM.Conv.agg);repeat (first | exact .nil | apply Go.AM.PureL.c .refl | apply Go.AM.PureL.c .nl | apply Go.AM.PureL.c .sn | (apply Go.AM.PureL.hs;rfl;(first | rfl | simp);(first | rfl | (simp;done) | (simp[Go.AM.take_map];done) | exact Go.AM.take_map.symm))))))))
  (q:eG (fun p=>st.h p.1=some p.2) hin:=by repeat (first | exact trivial | refine⟨rfl,?_⟩)) (g:eG (fun p=>p.1∈keys hin∨st.h p.1=none) hout:=by repeat (first | exact trivial | refine⟨.inr rfl,?_⟩ | refine⟨.inl (by decide),?_⟩ | refine⟨.inl (by repeat (first | exact List.Mem.head _ | apply List.Mem.tail)),?_⟩)) (hok:dW args hin=true:=by rfl):iC QP P n ops draw k st pre Q:=
 k_ (GStep.yes ho I J u hw (aE7 hin hout hb y M (eD A) B ha q g hok)) E
end
end Go.AM
namespace Go.AM
open Go
theorem lA {S:Sto}{c:C}{v:Value}(h:Rep S c v):∀m:Nat,bU S (List.replicate m c) (List.replicate m v)
 | 0=>by simp[bU]
 | m+1=>by
  rw[replicate_succ,replicate_succ];simp only[bU];exact⟨v,_,rfl,h,lA h m⟩
theorem sN (v:Value) (m:Nat):(madeCells #[v] m).toList=List.replicate m v:=by
 refine List.eq_replicate_iff.2 ⟨by simp[madeCells],fun x hx=>?_⟩;simp only[madeCells,Array.toList_map,mem_map] at hx;obtain⟨i,_,rfl⟩:=hx;simp[Nat.mod_one]
section
variable {P:Program}{n:Nat}
theorem jZ {o:Oper}{st:St}{d:Nat}{T:TT}{t e:TypeId}{i g:TI}{x y:Operand}{m:Nat}{c:C}{J M:IntKind}(id:Nat) (O:Tok P T) (ho:o.op=.makeSlice t x y) (hd:o.dst=some d) (U:d<n)
  (hi:T[t]?=some (some i)) (hk:i.k=.sl e) (Y:T[e]?=some (some g)) (A:g.size=1) (hz:g.zero=[c]) (hx:opv st x=some (I J m)) (hy:opv st y=some (I M m)) (hm:m≤1000000) (hb:g.bytes*m≤281474976710656) (aa:st.h id=none):
  Step P n o st ⟨opr x++opr y,[id]⟩ ⟨some (d,some (.one (.hs id 0 m m))),[(id,some (.arr e g.size (List.replicate m [c]) 0))]⟩:=by
 refine Step.new hd U aa (by simp) fun st' ha hid' G S μ a w hs=>?_
 obtain⟨inf,dd,z,g1,g2,g3,g4,g5,g6,g7,g8,g9⟩:=(O.get Y).ex;have vx:=aK hs hx fun t E=>ha.1 t (by simp[E])
 have vy:=aK hs hy fun t E=>ha.1 t (by simp[E])
 simp only[aN,aX,Rep] at vx vy;have q:bU S g.zero z.cells.toList:=gF (S:=S) g7;rw[hz] at q;simp only[bU] at q;obtain⟨v,us,hzv,hv,hus⟩:=q;subst hus;have hzc:z.cells= #[v]:=by rw[←Array.toList_inj,hzv]
 have hb':(inf.bytes:Int)*(m:Int)≤281474976710656:=by
  rw[g4];have h:((g.bytes*m:Nat):Int)≤281474976710656:=by omega
  rwa [Int.natCast_mul] at h
 have u:=run_make (P:=P) w t e inf z ((O.get hi).slice hk) g1 g6 J M (m:Int) (m:Int) (by omega) (Int.le_refl _) hb' (by omega);rw[g3,A,mul_one,Int.toNat_natCast,hzc] at u;have B:=sN v m;generalize madeCells #[v] m=out at u B;refine⟨_,_,.slice (some ⟨w.heap.size,0,none⟩) m m,(0,m),?_,WChg.alloc w (.cells out e),?_,?_⟩
 ·simp only[execOp,ho,vx,vy,ε,u,η,τ]
 ·refine⟨fun r hr=>by rw[(List.mem_replicate.1 hr).2,A];rfl,.inr ⟨w.heap.size,0,m,out.toList,aH _ _ _,Br w _,by simp[B,A],by simp,?_,?_,fun _ o _=>eK hs.inv o,fun o _=>eK hs.inv o,fun e=>by cases e⟩⟩
  ·have:(1000000:Nat)≤maxLen:=by decide
   exact⟨by omega,nU hs.inv⟩
  ·rw[B,A];simp only[Bv,Cm,mul_one];rw[Av (by simp),List.flatten_replicate_singleton];exact lA hv m
 ·simp only[aN,aX];exact⟨⟨_,_,_,rfl⟩,.inr ⟨e,g.size,_,0,aH _ _ _,by simp,fun _=>⟨by simp,.inr ⟨w.heap.size,0,m,aH _ _ _,by simp⟩⟩⟩⟩
end
theorem Inv.grownR {G:Ctx}{S:Sto}{μ:Mu}{H:bY}{w:World}(h:Inv G S μ H w) (k:Nat) (os:Array Obj):Inv G S μ H ({ w with heap:=w.heap++os,drawn:=w.drawn+k }):=by
 have hold:∀b:Nat,b<w.heap.size→({ w with heap:=w.heap++os,drawn:=w.drawn+k }:World).heap[b]?=w.heap[b]?:=fun b hb=>by
  show(w.heap++os)[b]?=w.heap[b]?;exact B9 hb
 have hsz:w.heap.size≤({ w with heap:=w.heap++os,drawn:=w.drawn+k }:World).heap.size:=by
  show w.heap.size≤(w.heap++os).size;rw[Array.size_append];omega
 obtain⟨h1,h2,y,A,B,E,I,J,M⟩:=h;refine⟨⟨fun b o v e=>?_,fun b mk e=>?_⟩,fun id o e=>(h2 id o e).evolve (Evolve.refl _ _ _) rfl fun b c hm=>⟨hold b ((h2 id o e).lt hm),fun _=>rfl,rfl⟩,y,A,?_,E,I,J,M⟩
 ·obtain⟨vs,t,O,u,q⟩:=h1.1 b o v e;exact⟨vs,t,O,by rw[hold b (cA u)];exact u,q⟩
 ·have g:=h1.2 b mk e;obtain⟨_,q⟩:=MK.holds_some g;rw[hold b (cA q)];exact g
 ·obtain⟨f1,f2,f3,f4,f5,f6⟩:=B;exact⟨f1,f2,f3,le_trans f4 hsz,fun b hb U=>by rw[hold b (A6 hb f4)];exact f5 b hb U,f6⟩
end Go.AM
namespace Go.Proofs.YtkhgpgihmphfdaaGreat
open Go Go.AM
set_option maxRecDepth 100000
set_option maxHeartbeats 4000000
def dgB (c:Nat):Bool:=decide (48≤c∧c≤57)
def sgB (c:Nat):Bool:=plB c || decide (c=39∨c=95)
def wiB (c lo hi:Int):Bool:=decide (lo≤c∧c≤hi)
theorem hD (c lo hi:Int) (w:World):Calls Tryz.prog 203 #[.int .u8 c,.int .u8 lo,.int .u8 hi] w fun e w'=>e=.returned (.bool (wiB c lo hi))∧w=w':=by
 go_enter Tryz.func203,Tryz.ntmps203
 go_wp2
 all_goals go_ret
 all_goals refine⟨congrArg Ending.returned (congrArg Value.bool (a₂:=wiB c lo hi) ?_),rfl⟩
 all_goals (unfold wiB;rw[Bp];simp;omega)
theorem pX (c:Nat) (w:World):Calls Tryz.prog 116 #[.int .u8 (c:Int)] w fun e w'=>e=.returned (.bool (dgB c))∧w=w':=by
 go_enter Tryz.func116,Tryz.ntmps116
 go_wp2
 all_goals go_ret
 all_goals refine⟨congrArg Ending.returned (congrArg Value.bool (a₂:=dgB c) ?_),rfl⟩
 all_goals (unfold dgB;rw[Bp];simp;omega)
theorem aB7 (c:Nat) (w:World):Calls Tryz.prog 119 #[.int .u8 (c:Int)] w fun e w'=>e=.returned (.bool (sgB c))∧w=w':=by
 go_enter Tryz.func119,Tryz.ntmps119
 go_wp2_with (go_at_call 116;(with_reducible refine(pX _ _).mono ?_);rintro e w' ⟨rfl,rfl⟩)
 all_goals go_ret
 all_goals refine⟨congrArg Ending.returned (congrArg Value.bool (a₂:=sgB c) ?_),rfl⟩
 all_goals (rw[Bp];unfold sgB plB;unfold dgB at *;simp at *;omega)
theorem v5 (c:Nat) (w:World):Calls Tryz.prog 202 #[.int .u8 (c:Int)] w fun e w'=>e=.returned (.bool (plB c))∧w=w':=by
 go_enter Tryz.func202,Tryz.ntmps202
 go_wp2_with (go_at_call 203;first | ((with_reducible refine(hD c 97 122 _).mono ?_);rintro e w' ⟨rfl,rfl⟩) | ((with_reducible refine(hD c 65 90 _).mono ?_);rintro e w' ⟨rfl,rfl⟩) | ((with_reducible refine(hD c 48 57 _).mono ?_);rintro e w' ⟨rfl,rfl⟩))
 all_goals go_ret
 all_goals refine⟨congrArg Ending.returned (congrArg Value.bool (a₂:=plB c) ?_),rfl⟩
 all_goals (rw[Bp];unfold plB;unfold wiB at *;simp at *;omega)
theorem y4 (s:ByteArray) (c:Int) (w:World):Calls Tryz.prog 178 #[.string s,.int .u8 c] w fun e w'=>e=.returned (.int .i64 (Lib.indexByte s.data.toList c.toNat.toUInt8))∧w=w':=by
 go_enter Tryz.func178,Tryz.ntmps178
 go_wp2
 rw[run_callFunc_extern Tryz.func205 (by kernel_rfl) (by kernel_rfl) (by kernel_rfl) (e:=Extern.BytealgIndexByte.indexByte) (by kernel_rfl),Lib.run_indexByteString];simp only[Result.andThen];rw[Oper.upon_value]
 go_wp2
 go_ret
 exact⟨rfl,rfl⟩
theorem jT (s:ByteArray) (c:Int) (w:World):Calls Tryz.prog 129 #[.string s,.int .u8 c] w fun e w'=>e=.returned (.int .i64 (Lib.indexByte s.data.toList c.toNat.toUInt8))∧w=w':=by
 go_enter Tryz.func129,Tryz.ntmps129
 go_wp2_with (go_at_call 178;(with_reducible refine(y4 _ _ _).mono ?_);rintro e w' ⟨rfl,rfl⟩)
 go_ret
 exact⟨rfl,rfl⟩
theorem pL (c:UInt8) (w:World) (hc:c.toNat<128):Calls Tryz.prog 182 #[.string ⟨#[c]⟩] w (kN (nmQ c.toNat 97 122) w):=by
 go_enter Tryz.func182,Tryz.ntmps182
 go_wp2_with (go_at_call 206;(with_reducible refine(r9 c 97 122 _ hc).mono ?_);rintro e w' ⟨rfl,os,rfl⟩)
 go_ret
 exact⟨rfl,os,rfl⟩
theorem oW (c:UInt8) (w:World) (hc:c.toNat<128):Calls Tryz.prog 183 #[.string ⟨#[c]⟩] w (kN (nmQ c.toNat 65 90) w):=by
 go_enter Tryz.func183,Tryz.ntmps183
 go_wp2_with (go_at_call 206;(with_reducible refine(r9 c 65 90 _ hc).mono ?_);rintro e w' ⟨rfl,os,rfl⟩)
 go_ret
 exact⟨rfl,os,rfl⟩
theorem aGd (c:UInt8) (hc:c.toNat<128):Utf8.encode (c.toNat:Int)=⟨#[c]⟩:=by
 have h:(c.toNat:Int).toNat=c.toNat:=by omega
 have g:Utf8.valid (c.toNat:Int)=true:=by unfold Utf8.valid;simp;omega
 unfold Utf8.encode;rw[g];simp[h,hc]
theorem vC (s:ByteArray) (w:World) (r k:Nat) (h:0<s.size) (g:Utf8.decode s 0=(r,k)) (q:127<r):Calls Tryz.prog 182 #[.string s] w (kN false w):=by
 go_enter Tryz.func182,Tryz.ntmps182
 go_wp2_with (go_at_call 206;(with_reducible refine(aAh s 97 122 _ r k h g q).mono ?_);rintro e w' ⟨rfl,os,rfl⟩)
 go_ret
 exact⟨rfl,os,rfl⟩
theorem uA (s:ByteArray) (w:World) (r k:Nat) (h:0<s.size) (g:Utf8.decode s 0=(r,k)) (q:127<r):Calls Tryz.prog 183 #[.string s] w (kN false w):=by
 go_enter Tryz.func183,Tryz.ntmps183
 go_wp2_with (go_at_call 206;(with_reducible refine(aAh s 65 90 _ r k h g q).mono ?_);rintro e w' ⟨rfl,os,rfl⟩)
 go_ret
 exact⟨rfl,os,rfl⟩
def aU0:List UInt8:=[48,49,50,51,52,53,54,55,56,57]
def sgS:List UInt8:=[48,49,50,51,52,53,54,55,56,57,39,95]
def ixB (l:List UInt8) (c:UInt8):Bool:=decide (0≤Lib.indexByte l c)
theorem j7 {p:UInt8→Prop}(h:∀n:_root_.Fin 256,p (UInt8.ofNat n.val)) (c:UInt8):p c:=by
 have:=h ⟨c.toNat,c.toNat_lt⟩;rwa [show UInt8.ofNat c.toNat=c by simp] at this
theorem aJc (c:UInt8):(nmQ c.toNat 97 122 || (nmQ c.toNat 65 90 || ixB sgS c))=sgB c.toNat:=j7 (p:=fun c=>(nmQ c.toNat 97 122 || (nmQ c.toNat 65 90 || ixB sgS c))=sgB c.toNat) (by decide+kernel) c
theorem aV8 (c:UInt8):ixB aU0 c=dgB c.toNat:=j7 (p:=fun c=>ixB aU0 c=dgB c.toNat) (by decide+kernel) c
theorem vJ (c:UInt8) (w:World) (hc:c.toNat<128):Calls Tryz.prog 184 #[.int .u8 (c.toNat:Int)] w (kN (sgB c.toNat) w):=by
 rw[←aJc]
 go_enter Tryz.func184,Tryz.ntmps184
 go_wp2_with (first | (go_at_call 182;rw[aGd c hc];(with_reducible refine(pL c _ hc).mono ?_);rintro e w' ⟨rfl,os,rfl⟩) | (go_at_call 183;rw[aGd c hc];(with_reducible refine(oW c _ hc).mono ?_);rintro e w' ⟨rfl,os,rfl⟩) | (go_at_call 129;(with_reducible refine(jT _ _ _).mono ?_);rintro e w' ⟨rfl,rfl⟩))
 all_goals go_ret
 ·exact⟨congrArg Ending.returned (congrArg Value.bool (a₂:=_) (by rename_i h;rw[h];rfl)),_,rfl⟩
 ·exact⟨congrArg Ending.returned (congrArg Value.bool (a₂:=_) (by simp[*])),_,rfl⟩
 ·exact⟨congrArg Ending.returned (congrArg Value.bool (a₂:=_) (by simp[*];rfl)),_,rfl⟩
theorem aGj (c:UInt8):128≤c.toNat→Utf8.decode ⟨#[c]⟩ 0=(65533,1):=j7 (p:=fun c=>128≤c.toNat→Utf8.decode ⟨#[c]⟩ 0=(65533,1)) (by decide+kernel) c
theorem aPh (c:UInt8):128≤c.toNat→0<(Utf8.encode (c.toNat:Int)).size∧Utf8.decode (Utf8.encode (c.toNat:Int)) 0=(c.toNat,2):=j7 (p:=fun c=>128≤c.toNat→0<(Utf8.encode (c.toNat:Int)).size∧Utf8.decode (Utf8.encode (c.toNat:Int)) 0=(c.toNat,2)) (by decide+kernel) c
theorem aFs (c:UInt8) (w:World):Calls Tryz.prog 182 #[.string ⟨#[c]⟩] w (kN (nmQ c.toNat 97 122) w):=by
 by_cases hc:c.toNat<128
 ·exact pL c w hc
 ·rw[aJx (.inl (by unfold fiB;simp;omega))];exact vC _ w _ _ (by show 0<1;decide) (aGj c (by omega)) (by decide)
theorem aD5 (c:UInt8) (w:World):Calls Tryz.prog 183 #[.string ⟨#[c]⟩] w (kN (nmQ c.toNat 65 90) w):=by
 by_cases hc:c.toNat<128
 ·exact oW c w hc
 ·rw[aJx (.inl (by unfold fiB;simp;omega))];exact uA _ w _ _ (by show 0<1;decide) (aGj c (by omega)) (by decide)
theorem aVb (c:UInt8):128≤c.toNat→ixB sgS c=sgB c.toNat:=j7 (p:=fun c=>128≤c.toNat→ixB sgS c=sgB c.toNat) (by decide+kernel) c
theorem aCv (c:UInt8) (w:World):Calls Tryz.prog 184 #[.int .u8 (c.toNat:Int)] w (kN (sgB c.toNat) w):=by
 by_cases hc:c.toNat<128
 ·exact vJ c w hc
 have g:128≤c.toNat:=by omega
 obtain⟨h1,h2⟩:=aPh c g;rw[←aVb c g]
 go_enter Tryz.func184,Tryz.ntmps184
 go_wp2_with (first | (go_at_call 182;(with_reducible refine(vC _ _ _ _ h1 h2 (by omega)).mono ?_);rintro e w' ⟨rfl,os,rfl⟩) | (go_at_call 183;(with_reducible refine(uA _ _ _ _ h1 h2 (by omega)).mono ?_);rintro e w' ⟨rfl,os,rfl⟩) | (go_at_call 129;(with_reducible refine(jT _ _ _).mono ?_);rintro e w' ⟨rfl,rfl⟩))
 all_goals go_ret
 all_goals exact⟨congrArg Ending.returned (congrArg Value.bool (a₂:=_) (by first | rfl | (simp[*];rfl) | simp[*])),_,rfl⟩
theorem aFz {f:FuncId}(c:Nat) (b:Bool) (h:∀w,Calls Tryz.prog f #[.int .u8 (c:Int)] w (fun e w'=>e=.returned (.bool b)∧w=w')):aU Tryz.prog f [I .u8 c] [] (B b) []:=by
 intro S μ w vals q g;simp only[aV,aN,aX,Rep] at g;obtain⟨v1,u,rfl,rfl,rfl⟩:=g;refine Calls.mono (h w) ?_;rintro e w' ⟨rfl,rfl⟩;refine⟨S,μ,_,rfl,q,?_⟩;simp only[aN,aX,Rep]
theorem aO9 {f:FuncId}(c:Nat) (b:Bool) (h:∀w,Calls Tryz.prog f #[.int .u8 (c:Int)] w (kN b w)):aU Tryz.prog f [I .u8 c] [] (B b) []:=by
 intro S μ w vals q g;simp only[aV,aN,aX,Rep] at g;obtain⟨v1,u,rfl,rfl,rfl⟩:=g;refine Calls.mono (h w) ?_;rintro e w' ⟨rfl,os,rfl⟩;refine⟨S,μ,_,rfl,q.grownR 0 os,?_⟩;simp only[aN,aX,Rep]
theorem aAp {f:FuncId}(s:Str) (b:Bool) (h:∀w,Calls Tryz.prog f #[.string ⟨⟨s⟩⟩] w (kN b w)):aU Tryz.prog f [Go.AM.T s] [] (B b) []:=by
 intro S μ w vals q g;simp only[aV,aN,aX,Rep] at g;obtain⟨v1,u,rfl,rfl,rfl⟩:=g;refine Calls.mono (h w) ?_;rintro e w' ⟨rfl,os,rfl⟩;refine⟨S,μ,_,rfl,q.grownR 0 os,?_⟩;simp only[aN,aX,Rep]
theorem aHe (c:Nat):aU Tryz.prog 116 [I .u8 c] [] (B (dgB c)) []:=aFz c _ (pX c)
theorem aTi (c:Nat):aU Tryz.prog 119 [I .u8 c] [] (B (sgB c)) []:=aFz c _ (aB7 c)
theorem aKx (c:Nat):aU Tryz.prog 202 [I .u8 c] [] (B (plB c)) []:=aFz c _ (v5 c)
theorem aK5 (c:UInt8):aU Tryz.prog 184 [I .u8 c.toNat] [] (B (sgB c.toNat)) []:=aO9 _ _ fun w=>aCv c w
theorem aLm (c:UInt8):aU Tryz.prog 182 [Go.AM.T [c]] [] (B (nmQ c.toNat 97 122)) []:=aAp [c] _ fun w=>aFs c w
theorem aLi (c:UInt8):aU Tryz.prog 183 [Go.AM.T [c]] [] (B (nmQ c.toNat 65 90)) []:=aAp [c] _ fun w=>aD5 c w
theorem qC (s:Str) (c:UInt8):aU Tryz.prog 129 [Go.AM.T s,I .u8 c.toNat] [] (I .i64 (Lib.indexByte s c)) []:=by
 intro S μ w vals q g;simp only[aV,aN,aX,Rep] at g;obtain⟨v1,u,rfl,rfl,v2,y,rfl,rfl,rfl⟩:=g;refine Calls.mono (jT _ _ w) ?_;rintro e w' ⟨rfl,rfl⟩;refine⟨S,μ,_,rfl,q,?_⟩;rw[show(c.toNat:Int).toNat.toUInt8=c by simp];simp only[aN,aX,Rep]
theorem aGt (c lo hi:Nat):aU Tryz.prog 203 [I .u8 c,I .u8 lo,I .u8 hi] [] (B (wiB c lo hi)) []:=by
 intro S μ w vals q g;simp only[aV,aN,aX,Rep] at g;obtain⟨v1,u,rfl,rfl,v2,y,rfl,rfl,v3,A,rfl,rfl,rfl⟩:=g;refine Calls.mono (hD _ _ _ w) ?_;rintro e w' ⟨rfl,rfl⟩;refine⟨S,μ,_,rfl,q,?_⟩;simp only[aN,aX,Rep]
structure Tk where
 kind:Int
 text:Str
 n:Int
 pl:Int
def aI (t:Tk):List C:=[.int .i64 t.kind,.str t.text,.int .i64 t.n,.int .i64 t.pl]
def aDt:List C:=[.int .i64 0,.str [],.int .i64 0,.int .i64 0]
def cD (p:Nat→Bool):Str→Nat
 | []=>0
 | c::s=>if p c.toNat=true then cD p s+1 else 0
theorem fO (p:Nat→Bool):∀s:Str,cD p s≤s.length
 | []=>le_refl _
 | c::s=>by
  rw[cD,Aa];have:=fO p s;split<;>omega
theorem lL (p:Nat→Bool):∀(s:Str) (i:Nat),i≤cD p s→∀c,s[i]?=some c→(p c.toNat=true↔i<cD p s)
 | [],i,_,c,h=>by cases h
 | a::s,0,_,c,h=>by
  have e:a=c:=by simpa using h
  subst e;rw[cD];by_cases hp:p a.toNat=true
  ·rw[θ hp];exact⟨fun _=>by omega,fun _=>hp⟩
  ·rw[ξ hp];exact⟨fun h=>absurd h hp,fun h=>by omega⟩
 | a::s,i+1,hi,c,h=>by
  rw[cD] at hi ⊢;by_cases hp:p a.toNat=true
  ·rw[θ hp] at hi ⊢;rw[lL p s i (by omega) c (by simpa using h)];omega
  ·rw[ξ hp] at hi;omega
def neB (c:Nat):Bool:=!decide (c=10)
def preB (x s:Str):Bool:=decide (x.length≤s.length)&&decide (s.take x.length=x)
def blB (c:Nat):Bool:=decide (c=32∨c=9∨c=10)
def eM (s:Str):Nat:=match s with
 | []=>0
 | c::_=>if blB c.toNat=true then 1 else if preB [45,45] s=true then 2+cD neB (s.drop 2) else 0
def kR:Str→Int→Int
 | [],k=>k
 | c::s,k=>if k<3000000000 then kR s (k*10+((c.toNat:Int)-48)) else k
def qJ:List Str:=[[45,62],[61,62],[92],[61],[124],[40],[41],[123],[125],[59],[58],[44],[95]]
def n6 (s:Str):Str:=match qJ.find? fun x=>preB x s with | some x=>x | none=>[]
def pO:List Str:=[[99,97,115,101],[99,108,97,115,115],[100,97,116,97],[105,110],[105,110,115,116,97,110,99,101],[108,101,116],[111,102]]
abbrev TE:=Except Int (Int×Str×Int)
def mC (s:Str) (up:Bool):TE:=
 if 32<cD sgB s then .error 2
 else if up=true then .ok (2,s.take (cD sgB s),0)
 else if s.take (cD sgB s)∈pO then .ok (5,s.take (cD sgB s),0)
 else .ok (1,s.take (cD sgB s),0)
def gJ:Str→TE
 | []=>.error 10
 | c::s=>
  if dgB c.toNat=true then
   (if 2147483647<kR ((c::s).take (cD dgB (c::s))) 0 then .error 11 else .ok (3,(c::s).take (cD dgB (c::s)),kR ((c::s).take (cD dgB (c::s))) 0))
  else if wiB c.toNat 97 122=true∨wiB c.toNat 65 90=true then mC (c::s) (wiB c.toNat 65 90)
  else if n6 (c::s)=[] then .error 10 else .ok (4,n6 (c::s),0)
def aW7:TE→V
 | .ok (k,t,v)=>.tup [.pa [.int .i64 k,.str t,.int .i64 v,.int .i64 0],I .i64 0]
 | .error e=>.tup [.pa aDt,I .i64 e]
theorem aBg (c:UInt8) (lo hi:Nat):aU Tryz.prog 171 [Go.AM.T [c],I .u8 lo,I .u8 hi] [] (B (sgB c.toNat&&wiB c.toNat lo hi)) []:=by
 have hp:=aKx c.toNat;have hw:=aGt c.toNat lo hi;refine bC (n:=46) tok Tryz.func171 rfl rfl rfl ?_;refine sg rfl (aA (sgh [(3,.bv false),(7,.bv false)] rfl (aB rfl (fun hb=>by simp at hb) (fun _=>aD (aA (sg rfl (aE (aL (fun i:Nat=>mk [(0,Go.AM.T [c]),(1,I .u8 lo),(2,I .u8 hi),(7,I .i64 i)] []) (fun i=>i=0∨(i=1∧sgB c.toNat=true)) (fun i=>1-i) 0 (.inl rfl) sl ?_))))))));rintro i (rfl | ⟨rfl,hs⟩)
 ·refine aA (sg rfl (aB rfl (fun _=>aD (aA (aE (skh 3 [(2,.byte 0 c)] rfl (kc hp ?_))))) (fun hb=>by simp at hb)));refine kz 1 rfl ?_;by_cases h1:plB c.toNat=true
  ·rw[h1];have hs:sgB c.toNat=true:=by unfold sgB;rw[h1];rfl
   exact sgh [(2,.bv false),(7,.bv false),(8,.bv false),(13,.bv false)] rfl (aB rfl (fun hb=>absurd hb (by decide)) (fun _=>aD (ag [] rfl ⟨1,.inr ⟨rfl,hs⟩,by decide,sl⟩)))
  ·have h1:=Ck _ |>.mp h1;rw[h1];by_cases h2:(c.toNat:Int)=39
   ·have d2:(!decide ((c.toNat:Int)=39))=false:=by rw[φ h2];rfl
    have hs:sgB c.toNat=true:=by unfold sgB;rw[φ (by omega),Bool.or_true]
    exact sgh [(2,.bv true),(5,.byte 0 c),(7,.bv true),(8,.bv false),(13,.bv false)] rfl (aB rfl (fun hb=>absurd hb (by decide)) (fun _=>aD (ag [] rfl ⟨1,.inr ⟨rfl,hs⟩,by decide,sl⟩)))
   have d2:(!decide ((c.toNat:Int)=39))=true:=by rw[ψ h2];rfl
   by_cases g:(c.toNat:Int)=95
   ·have d3:(!decide ((c.toNat:Int)=95))=false:=by rw[φ g];rfl
    have hs:sgB c.toNat=true:=by unfold sgB;rw[φ (by omega),Bool.or_true]
    exact sgh [(2,.bv true),(5,.byte 0 c),(7,.bv true),(8,.bv true),(11,.byte 0 c),(13,.bv true)] rfl (aB rfl (fun hb=>absurd (hb.symm.trans d3) (by decide)) (fun _=>aD (ag [] rfl ⟨1,.inr ⟨rfl,hs⟩,by decide,sl⟩)))
   ·have d3:(!decide ((c.toNat:Int)=95))=true:=by rw[ψ g];rfl
    have hs:sgB c.toNat=false:=by unfold sgB;rw[h1,ψ (by omega)];rfl
    refine sgh [(2,.bv true),(5,.byte 0 c),(7,.bv true),(8,.bv true),(11,.byte 0 c),(13,.bv true)] rfl (aB rfl (fun _=>sg rfl ?_) (fun hb=>absurd (hb.symm.trans d3) (by decide)));rw[hs];exact aF rtT
 ·rw[hs];refine aA (sg rfl (aB rfl (fun hb=>by simp at hb) (fun _=>aG (skh 4 [(1,.byte 0 c)] rfl (kc hw ?_)))));exact kz 1 rfl (aF rtT)
theorem aEj (c:Nat):(sgB c&&wiB c 97 122)=wiB c 97 122:=by
 unfold sgB plB wiB;rw[Bp];simp;omega
theorem aEi (c:Nat):(sgB c&&wiB c 65 90)=wiB c 65 90:=by
 unfold sgB plB wiB;rw[Bp];simp;omega
theorem aLl (c:UInt8):aU Tryz.prog 117 [Go.AM.T [c]] [] (B (wiB c.toNat 97 122)) []:=by
 have h:=aBg c 97 122;rw[show((97:Nat):Int)=97 from rfl,show((122:Nat):Int)=122 from rfl,aEj] at h;refine bC (n:=5) tok Tryz.func117 rfl rfl rfl ?_;refine sg rfl (sk 1 rfl (kc h ?_));exact kz 1 rfl (aF rtT)
theorem aLh (c:UInt8):aU Tryz.prog 118 [Go.AM.T [c]] [] (B (wiB c.toNat 65 90)) []:=by
 have h:=aBg c 65 90;rw[show((65:Nat):Int)=65 from rfl,show((90:Nat):Int)=90 from rfl,aEi] at h;refine bC (n:=5) tok Tryz.func118 rfl rfl rfl ?_;refine sg rfl (sk 1 rfl (kc h ?_));exact kz 1 rfl (aF rtT)
theorem lE {p:Str→Bool}{l:List Str}{i:Nat}{x:Str}(h:(l.take i).find? p=none) (hx:l[i]?=some x) (hp:p x=false):(l.take (i+1)).find? p=none:=by
 rw[Be,hx,List.find?_append,h];show [x].find? p=none;rw[List.find?_cons,hp];rfl
theorem lD {p:Str→Bool}{l:List Str}{i:Nat}{x:Str}(h:(l.take i).find? p=none) (hx:l[i]?=some x) (hp:p x=true):l.find? p=some x:=by
 have e:l=l.take i++x::l.drop (i+1):=by
  obtain⟨h1,h2⟩:=Ag.1 hx;have:=A5 h1;rw[h2] at this;rw[←this];exact(take_append_drop i l).symm
 rw[e,List.find?_append,h,List.find?_cons,hp];rfl
theorem aKs (s:Str):aU Tryz.prog 121 [Go.AM.T s] [] (Go.AM.T (n6 s)) []:=by
 have q:(qJ.map aR).length=qJ.length:=κ _;refine bC (n:=38) tok Tryz.func121 rfl rfl rfl ?_;refine sg rfl (sgh [(0,.all)] rfl (aA (sg rfl (aE (aL (fun i:Nat=>mk [(0,Go.AM.T s),(3,.one (.c (.sl 1 (qJ.map aR)))),(4,I .i64 i)] []) (fun i=>i≤qJ.length∧(qJ.take i).find? (fun x=>preB x s)=none) (fun i=>qJ.length-i) 0 ⟨Ac _,rfl⟩ sl ?_)))));rintro i ⟨hi,hn⟩;refine aA (sg rfl (aB rfl (fun hb=>?_) (fun hb=>?_)))
 ·have g:=ltD hb q;obtain⟨x,hx⟩:=aM g;have E:=b9 aR hx;have u:n6 s=(match qJ.find? (fun x=>preB x s) with | some x=>x | none=>[]):=rfl;have A:preB x s=true→n6 s=x:=fun hp=>by rw[u,lD hn hx hp]
  have y:preB x s=false→(qJ.take (i+1)).find? (fun x=>preB x s)=none:=fun hp=>lE hn hx hp
  have J:qJ.length≤13:=by decide
  clear u hn;generalize qJ=L at *;refine aD (aA (aE (aA ?_)));by_cases h1:x.length≤s.length
  ·have d1:decide ((x.length:Int)≤(s.length:Int))=true:=φ (by omega);refine agN [(4,.row i (aR x)),(8,.bv true),(12,.row i (aR x)),(18,.row i (aR x)),(21,.bv true)] rfl ?_;by_cases h2:s.take x.length=x
   ·have hp:preB x s=true:=by unfold preB;rw[φ h1,φ h2];rfl
    have d2:decide (s.take x.length=x)=true:=φ h2;refine aB rfl (fun _=>sgh [(2,.row i (aR x))] rfl ?_) (fun hb=>absurd (hb.symm.trans d2) (by decide));rw[A hp];exact aF rtT
   ·have hp:preB x s=false:=by unfold preB;rw[ψ h2,Bool.and_false]
    have d2:decide (s.take x.length=x)=false:=ψ h2;exact aB rfl (fun hb=>absurd (hb.symm.trans d2) (by decide)) (fun _=>aD (ag [] rfl ⟨i+1,⟨g,y hp⟩,by dsimp only;omega,sl⟩))
  ·have d1:decide ((x.length:Int)≤(s.length:Int))=false:=ψ (by omega);have hp:preB x s=false:=by unfold preB;rw[ψ h1,Co]
   exact agN [(4,.row i (aR x)),(8,.bv false),(21,.bv false)] rfl (aB rfl (fun hb=>absurd hb (by decide)) (fun _=>aD (ag [] rfl ⟨i+1,⟨g,y hp⟩,by dsimp only;omega,sl⟩)))
 ·have B:=geD hb q hi;rw[B,Ao] at hn;have e:n6 s=[]:=by unfold n6;rw[hn]
  rw[e];exact aG (sg rfl (aF rtT))
theorem aQb (c:UInt8) (r:Str) (hl:r.length≤4000):aU Tryz.prog 74 [Go.AM.T (c::r)] [] (I .i64 (eM (c::r))) []:=by
 refine bC (n:=40) tok Tryz.func74 rfl rfl rfl ?_;refine sg rfl ?_;have key:∀b:Bool,blB c.toNat=b→eM (c::r)=if b=true then 1 else if preB [45,45] (c::r)=true then 2+cD neB (r.drop 1) else 0:=fun b hb=>by rw[←hb];rfl
 by_cases h1:(c.toNat:Int)=32
 ·have d1:decide ((c.toNat:Int)=32)=true:=φ h1;refine aA (sgh [(1,.byte 0 c),(3,.bv true),(7,.bv true),(8,.bv true),(12,.bv true)] rfl (aB rfl (fun _=>?_) (fun hb=>absurd hb (by decide))));rw[key true (φ (by omega)),θ rfl];exact sg rfl (aF rtT)
 have d1:decide ((c.toNat:Int)=32)=false:=ψ h1;by_cases h2:(c.toNat:Int)=9
 ·have d2:decide ((c.toNat:Int)=9)=true:=φ h2;refine aA (sgh [(1,.byte 0 c),(3,.bv false),(5,.byte 0 c),(7,.bv false),(8,.bv true),(12,.bv true)] rfl (aB rfl (fun _=>?_) (fun hb=>absurd hb (by decide))));rw[key true (φ (by omega)),θ rfl];exact sg rfl (aF rtT)
 have d2:decide ((c.toNat:Int)=9)=false:=ψ h2;refine aA (sgh [(1,.byte 0 c),(3,.bv false),(5,.byte 0 c),(7,.bv false),(8,.bv false),(10,.byte 0 c),(12,.bv false)] rfl (aB rfl (fun hb=>?_) (fun hb=>?_)))
 ·have M:=χ hb;rw[key true (φ (by omega)),θ rfl];exact sg rfl (aF rtT)
 have M:=Ad hb;rw[key false (ψ (by omega)),ξ ω];clear key;refine aD ?_;have g:r.drop 1=(c::r).drop 2:=rfl;rw[g];have y:(c::r).length≤4001:=by rw[Aa];omega
 generalize c::r=S at y ⊢;clear g hl;by_cases A:2≤S.length
 ·have dl:decide ((1:Int)<(S.length:Int))=true:=φ (by omega);refine aA (sgh [(3,.bv true),(7,.bv true)] rfl (aB rfl (fun hb=>?_) (fun hb=>?_)))
  ·have hp:preB [45,45] S=true:=by unfold preB;rw[φ (show([45,45]:Str).length≤S.length from A)];exact hb
   rw[θ hp];refine sg rfl ?_;have O:=fO neB (S.drop 2);rw[Bc] at O;refine aA (aE (aL (fun j:Nat=>mk [(0,Go.AM.T S),(3,I .i64 ((2+j:Nat):Int))] []) (fun j=>j≤cD neB (S.drop 2)) (fun j=>cD neB (S.drop 2)-j) 0 (Ac _) sl ?_));intro j U;by_cases B:2+j<S.length
   ·obtain⟨d,E⟩:=aM B;have u:(S.take (2+j+1)).drop (2+j)=[d]:=by
     rw[Be,E,drop_append,drop_eq_nil_of_le (by rw[Aj];omega),Aj,Cr (by omega),B8];rfl
    have q:=lL neB (S.drop 2) j U d (by rw[Al];exact E);have Y:decide (((2+j:Nat):Int)<(S.length:Int))=true:=φ (by omega);refine aA (aA (agN [(4,.bv true),(11,.bv true)] rfl ?_));rw[u];refine aB rfl (fun hb=>?_) (fun hb=>?_)
    ·have J:j<cD neB (S.drop 2):=q.1 (by
      unfold neB;simp at hb ⊢
      exact fun e=>hb (UInt8.toNat_inj.1 e))
     exact aD (aE (agN [] rfl ⟨j+1,J,by dsimp only;omega,sl⟩))
    ·have e:j=cD neB (S.drop 2):=by
      have:¬j<cD neB (S.drop 2):=fun h=>by
       have:=q.2 h;unfold neB at this;simp at hb this;exact this (by rw[hb];rfl)
      omega
     rw[←e];exact aG (sg rfl (aF rtT))
   ·have Y:decide (((2+j:Nat):Int)<(S.length:Int))=false:=ψ (by omega);have e:j=cD neB (S.drop 2):=by omega
    refine aA (aA (agN [(4,.bv false),(11,.bv false)] rfl (aB rfl (fun hb=>absurd hb (by decide)) (fun _=>?_))));rw[←e];exact aG (sg rfl (aF rtT))
  ·have hp:¬preB [45,45] S=true:=by
    unfold preB;have hb:decide (S.take 2=[45,45])=false:=hb;rw[show([45,45]:Str).length=2 from rfl,hb,Bool.and_false];exact ω
   rw[ξ hp];exact aD (sg rfl (aF rtT))
 ·have dl:decide ((1:Int)<(S.length:Int))=false:=ψ (by omega);have hp:¬preB [45,45] S=true:=by
   unfold preB;rw[ψ (show ¬([45,45]:Str).length≤S.length from A),Co];exact ω
  rw[ξ hp];exact aA (sgh [(3,.bv false),(7,.bv false)] rfl (aB rfl (fun hb=>absurd hb (by decide)) (fun _=>aD (sg rfl (aF rtT)))))
end Go.Proofs.YtkhgpgihmphfdaaGreat
namespace Go.AM
open Go
section
variable {fn:Func}{st:St}{hin hout:List (Nat×AObj)}{res res2 res3:V}
theorem zQ {tr:Tr}{a t u:Nat}{i:TI}{id off tv:Nat}{cells:List R}{v v2:V}{ids g:List Nat}(hw:tr.wf=true) (y:fn.results.toList=[.cell a t,.tmp u]:=by rfl) (hi:tr.get t=some i:=by rfl) (ha:st.e a=some (.one (.vp id off)):=by rfl) (hh:st.h id=some (.var tv cells):=by rfl) (hb:Nat.ble (off+i.size) cells.length=true:=by rfl) (A:iW i ((cells.drop off).take i.size)=some v:=by rfl) (hu:st.e u=some v2:=by rfl)
  (hc:Conv st.h ids v res:=by first | exact .refl | exact .one (.c .nl .nil) | ((first | apply Go.AM.Conv.pa | apply Go.AM.Conv.agg);repeat (first | exact .nil | apply Go.AM.PureL.c .refl | apply Go.AM.PureL.c .nl | (apply Go.AM.PureL.hs;rfl;(first | rfl | assumption | simp);(first | rfl | exact Go.AM.take_all (by first | assumption | rfl | (simp;done)) | exact Go.AM.take_map.symm)))))
  (q:Conv st.h g v2 res2:=by exact .refl)
  (ho:eG (fun p=>∃o,st.h p.1=some o∧Ole (fun i=>i) o p.2) hout:=by repeat (first | exact trivial | refine⟨⟨_,rfl,by first | exact Go.AM.Ole.arr | exact Go.AM.Ole.var rfl | exact Go.AM.Ole.varS rfl⟩,?_⟩))
  (hok:(subset (V.tup [res,res2]).refs (keys hout)&&subset (eH hout) (keys hout)&&distinct (keys hout)&&subset (keys hin) (keys hout)&&(hin.all fun p=>p.2.plain)&&(hout.all fun p=>p.2.plain))=true:=by rfl):(Exit.ret=.normal∨Exit.ret=.ret)∧Fin tr.flat fn st hin (.tup [res,res2]) hout:=
 ⟨.inr rfl,⟨[v,v2],[res,res2],by rw[y];exact .cell ha (Tr.get_ok hw hi) hh hb A (.tmp hu .nil),.cons hc (.cons q .nil),rfl⟩,ho,hok⟩
end
end Go.AM
namespace Go.Proofs.YtkhgpgihmphfdaaGreat
open Go Go.AM
set_option maxRecDepth 20000
set_option maxHeartbeats 4000000
theorem kY {ro:Option Nat}{P:Program}{n:Nat}{kf:List Nat}{x y:Code}{st:St}{Q:Exit→St→Prop}(σ:St) (h:AWp ro P n kf x st (fun ex st'=>(ex=.normal∧Sub kf σ st')∨(¬ex=.normal∧Q ex st'))) (k:AWp ro P n kf y σ Q):AWp ro P n kf (.seq x y) st Q:=
 aA (h.post fun ex st' q=>by
  rcases q with⟨rfl,q⟩ | ⟨g,q⟩
  ·exact⟨σ,q,k⟩
  ·refine⟨st',fun G n S μ a w u hs=>⟨S,μ,hs⟩,?_⟩;cases ex with
   | normal=>exact absurd rfl g
   | _=>exact q)
theorem aSt {k:Int}(h:¬k<3000000000):∀l:Str,kR l k=k
 | []=>rfl
 | _::_=>by rw[kR,ξ h]
theorem aQh:aU Tryz.prog 120 [] [] (.one (.c (.sl 1 (pO.map aR)))) []:=by
 refine bC (n:=2) tok Tryz.func120 rfl rfl rfl ?_;exact sg rfl (sgh [(0,.all)] rfl (aF rtT))
theorem aTm (c:UInt8) (r:Str) (hl:r.length≤4000):aU Tryz.prog 75 [Go.AM.T (c::r)] [] (aW7 (gJ (c::r))) []:=by
 have ab:=aHe c.toNat;refine bC (n:=108) tok Tryz.func75 rfl rfl rfl ?_;refine sg rfl (sg rfl (aA (skh 2 [(1,.byte 0 c)] rfl (kc ab ?_))));refine az ?_;have h0:(c::r)[0]?=some c:=rfl;have hSl:(c::r).length≤4001:=by rw[Aa];omega
 have hS1:1≤(c::r).length:=by rw[Aa];omega
 refine aB rfl (fun hb=>?_) (fun hb=>?_)
 ·have q:gJ (c::r)=if 2147483647<kR ((c::r).take (cD dgB (c::r))) 0 then .error 11 else .ok (3,(c::r).take (cD dgB (c::r)),kR ((c::r).take (cD dgB (c::r))) 0):=by
   rw[gJ,θ hb]
  rw[q];clear q;generalize c::r=S at *;have hW:=fO dgB S;refine kY (mk [(0,Go.AM.T S),(2,.one (.vp 2 0)),(4,I .i64 (cD dgB S:Nat))] [(2,.var 85 (aDt.map .c))]) ?_ ?_
  ·refine aE (aL (fun j:Nat=>mk [(0,Go.AM.T S),(2,.one (.vp 2 0)),(4,I .i64 j)] [(2,.var 85 (aDt.map .c))]) (fun j=>j≤cD dgB S) (fun j=>cD dgB S-j) 0 (Ac _) sl ?_);intro j M;by_cases O:j<S.length
   ·obtain⟨d,u⟩:=aM O;have A:=lL dgB S j M d u;have U:=aHe d.toNat;have g:decide ((j:Int)<(S.length:Int))=true:=φ (by omega);have E:(if(S.length:Int)-1<(j:Int) then(S.length:Int)-1 else(j:Int))=(j:Int):=ξ (by omega);refine aA (skh 12 [(4,.bv true),(11,.byte j d)] rfl (kcG U ?_) (hc:=⟨⟨E,u⟩,g,g,⟨by omega,by omega⟩,g,g,g,g,g,trivial⟩));refine ak 1 [(4,.bv true),(13,.bv true)] rfl (az (aB rfl (fun hb=>?_) (fun hb=>?_)))
    ·exact aD (aE (ag [] rfl ⟨j+1,A.1 hb,by dsimp only;have:=A.1 hb;omega,sl⟩))
    ·have e:j=cD dgB S:=by
      have:¬j<cD dgB S:=fun h=>by rw[A.2 h] at hb;cases hb
      omega
     refine aG ?_;rw[←e];exact .inl ⟨rfl,sl⟩
   ·have e:j=cD dgB S:=by omega
    have g:decide ((j:Int)<(S.length:Int))=false:=ψ (by omega);refine aA (sgh [(4,.bv false),(13,.bv false)] rfl (aB rfl (fun hb=>absurd hb (by decide)) (fun _=>aG ?_)));rw[←e];exact .inl ⟨rfl,sl⟩
  ·have ah:∀(j:Nat) (d:UInt8),j<cD dgB S→S[j]?=some d→48≤d.toNat∧d.toNat≤57:=fun j d M u=>χ ((lL dgB S j (by omega) d u).2 M)
   have ai:(S.take (cD dgB S)).length=cD dgB S:=by rw[Aj];omega
   generalize cD dgB S=N at *;refine sg rfl (kY (mk [(0,Go.AM.T S),(2,.one (.vp 2 0)),(4,I .i64 (N:Nat)),(5,I .i64 (kR (S.take N) 0))] [(2,.var 85 (aDt.map .c))]) ?_ ?_)
   ·refine sg rfl (aE (aL (fun p:Nat×Int=>mk [(0,Go.AM.T S),(2,.one (.vp 2 0)),(4,I .i64 (N:Nat)),(5,I .i64 p.2),(6,I .i64 p.1)] [(2,.var 85 (aDt.map .c))]) (fun p=>p.1≤N∧0≤p.2∧p.2≤30000000300∧kR ((S.take N).drop p.1) p.2=kR (S.take N) 0) (fun p=>N-p.1) (0,0) ⟨Ac _,by decide,by decide,rfl⟩ sl ?_));rintro⟨i,k⟩ ⟨hi,aj,al,J⟩;dsimp only at hi aj al J ⊢;by_cases Y:i<N
    ·have d1:decide ((i:Int)<(N:Int))=true:=φ (by omega);refine aA (sgh [(3,.bv true),(6,.bv true)] rfl (aB rfl (fun hb=>?_) (fun hb=>?_)))
     ·have aa:=χ hb;obtain⟨d,u⟩:=aM (l:=S) (k:=i) (by omega);obtain⟨g1,g2⟩:=ah i d Y u;have hw:IntKind.wrap .i64 (d.toNat:Int)=(d.toNat:Int):=Bu _ (by omega);have am:(S.take N).drop i=d::(S.take N).drop (i+1):=by
       obtain⟨q1,q2⟩:=Ag.1 (show(S.take N)[i]?=some d by rw[Ak,θ Y];exact u);rw[A5 q1,q2]
      rw[am,kR,θ aa,show k*10+((d.toNat:Int)-48)=k*10+(d.toNat:Int)-48 by omega] at J;refine aD (aA (aE (ag [(4,.byte i d)] rfl ?_ (hc:=⟨⟨by rw[hw];omega,by rw[hw];omega⟩,⟨by rw[hw];omega,by rw[hw];omega⟩,⟨rfl,u⟩,⟨by omega,by omega⟩,trivial⟩))));rw[hw];exact ag [] rfl ⟨(i+1,k*10+(d.toNat:Int)-48),⟨Y,by dsimp only;omega,by dsimp only;omega,J⟩,by dsimp only;omega,sl⟩
     ·have aa:=Ad hb;rw[aSt aa] at J;refine aG ?_;rw[←J];exact .inl ⟨rfl,sl⟩
    ·have e:i=N:=by omega
     have d1:decide ((i:Int)<(N:Int))=false:=ψ (by omega);rw[e,drop_eq_nil_of_le (by rw[ai];exact le_refl _),kR] at J;refine aA (sgh [(3,.bv false),(6,.bv false)] rfl (aB rfl (fun hb=>absurd hb (by decide)) (fun _=>aG ?_)));rw[←J];exact .inl ⟨rfl,sl⟩
   ·generalize kR (S.take N) 0=K;refine aA (sg rfl (aB rfl (fun hb=>?_) (fun hb=>?_)))
    ·rw[θ (χ hb)];exact sg rfl (aF (zQ trw))
    ·rw[ξ (Ad hb)];exact aD (sg rfl (aF (zQ trw)))
 ·have q:gJ (c::r)=if wiB c.toNat 97 122=true∨wiB c.toNat 65 90=true then mC (c::r) (wiB c.toNat 65 90) else if n6 (c::r)=[] then .error 10 else .ok (4,n6 (c::r),0):=by
   rw[gJ,ξ (by rw[hb];exact ω)]
  rw[q];clear q;have ac:=aLl c;have ad:=aLh c;have an:=aKs (c::r);have ae:(c::r).take 1=[c]:=rfl;generalize c::r=S at *;refine aD (sk 2 rfl ?_);rw[ae];refine kc ac ?_;refine kz 1 rfl (sk 2 rfl ?_);rw[ae];refine kc ad ?_;refine kz 1 rfl ?_;generalize wiB c.toNat 65 90=up at *;generalize wiB c.toNat 97 122=lo at *;by_cases hn:lo=true∨up=true
  ·rw[θ hn];have ap:=aQh;have aq:=aHc pO (S.take (cD sgB S)) (by unfold Fits;decide);have af:(bif lo then true else up)=true:=by
    rcases hn with h | h
    ·rw[h];rfl
    ·rw[h];cases lo<;>rfl
   refine aA (aA (agF 2 [] rfl rfl rfl (aB rfl (fun _=>AWp.sub (st2:=mk [(0,Go.AM.T S),(2,.one (.vp 2 0)),(4,I .i64 0),(8,B up)] [(2,.var 85 (aDt.map .c))]) sl ?_) (fun hb=>absurd (hb.symm.trans af) (by decide)))));clear af hn ac ad ab;have hW:=fO sgB S;refine kY (mk [(0,Go.AM.T S),(2,.one (.vp 2 0)),(4,I .i64 (cD sgB S:Nat)),(8,B up)] [(2,.var 85 (aDt.map .c))]) ?_ ?_
   ·refine aE (aL (fun j:Nat=>mk [(0,Go.AM.T S),(2,.one (.vp 2 0)),(4,I .i64 j),(8,B up)] [(2,.var 85 (aDt.map .c))]) (fun j=>j≤cD sgB S) (fun j=>cD sgB S-j) 0 (Ac _) sl ?_);intro j M;by_cases O:j<S.length
    ·obtain⟨d,u⟩:=aM O;have A:=lL sgB S j M d u;have U:=aTi d.toNat;have g:decide ((j:Int)<(S.length:Int))=true:=φ (by omega);have E:(if(S.length:Int)-1<(j:Int) then(S.length:Int)-1 else(j:Int))=(j:Int):=ξ (by omega);refine aA (skh 12 [(4,.bv true),(11,.byte j d)] rfl (kcG U ?_) (hc:=⟨⟨E,u⟩,g,g,⟨by omega,by omega⟩,g,g,g,g,g,trivial⟩));refine ak 1 [(4,.bv true),(13,.bv true)] rfl (az (aB rfl (fun hb=>?_) (fun hb=>?_)))
     ·exact aD (aE (ag [] rfl ⟨j+1,A.1 hb,by dsimp only;have:=A.1 hb;omega,sl⟩))
     ·have e:j=cD sgB S:=by
       have:¬j<cD sgB S:=fun h=>by rw[A.2 h] at hb;cases hb
       omega
      refine aG ?_;rw[←e];exact .inl ⟨rfl,sl⟩
    ·have e:j=cD sgB S:=by omega
     have g:decide ((j:Int)<(S.length:Int))=false:=ψ (by omega);refine aA (sgh [(4,.bv false),(13,.bv false)] rfl (aB rfl (fun hb=>absurd hb (by decide)) (fun _=>aG ?_)));rw[←e];exact .inl ⟨rfl,sl⟩
   ·unfold mC;generalize cD sgB S=N at *;refine aA (sg rfl (aB rfl (fun hb=>?_) (fun hb=>?_)))
    ·rw[θ (by have:=χ hb;omega)];exact sg rfl (aF (zQ trw))
    rw[ξ (by have:=Ad hb;omega)];refine aD (aA (sg rfl (aB rfl (fun hb=>?_) (fun hb=>?_))))
    ·rw[θ hb];exact sg rfl (aF (zQ trw))
    rw[ξ (by rw[hb];exact ω)];refine aD ?_;generalize pO=L at *;refine aA (aA (aC mixed (kc ap ?_)));refine akN 3 [] rfl (kc aq ?_);refine az (aB rfl (fun hb=>?_) (fun hb=>?_))
    ·rw[θ (χ hb)];exact sg rfl (aF (zQ trw))
    ·rw[ξ (Ad hb)];exact aD (sg rfl (aF (zQ trw)))
  ·rw[ξ hn];have h1:lo=false:=by cases lo<;>simp at hn ⊢
   have h2:up=false:=by cases up<;>simp at hn ⊢
   subst h1 h2;refine aA (sgh [(1,.bv false),(3,.bv false)] rfl (aB rfl (fun hb=>absurd hb (by decide)) (fun _=>aD (sk 1 rfl (kc an ?_)))));refine kz 1 rfl ?_;generalize n6 S=y at *;refine aA (sg rfl (aB rfl (fun hb=>?_) (fun hb=>?_)))
   ·rw[θ (χ hb)];exact sg rfl (aF (zQ trw))
   ·rw[ξ (Ad hb)];exact aD (sg rfl (aF (zQ trw)))
end Go.Proofs.YtkhgpgihmphfdaaGreat
namespace Go.AM
open Go
section
variable {fn:Func}{st:St}{hin hout:List (Nat×AObj)}{res res2 res3:V}
theorem aRa {tr:Tr}{a t u:Nat}{i:TI}{id off tv:Nat}{cells:List R}{v v2:V}{ids g:List Nat}(hw:tr.wf=true) (y:fn.results.toList=[.tmp u,.cell a t]:=by rfl) (hi:tr.get t=some i:=by rfl) (ha:st.e a=some (.one (.vp id off)):=by rfl) (hh:st.h id=some (.var tv cells):=by rfl) (hb:Nat.ble (off+i.size) cells.length=true:=by rfl) (A:iW i ((cells.drop off).take i.size)=some v:=by rfl) (hu:st.e u=some v2:=by rfl)
  (hc:Conv st.h ids v res2:=by first | exact .refl | exact .one (.c .nl .nil) | ((first | apply Go.AM.Conv.pa | apply Go.AM.Conv.agg);repeat (first | exact .nil | apply Go.AM.PureL.c .refl | apply Go.AM.PureL.c .nl | (apply Go.AM.PureL.hs;rfl;(first | rfl | assumption | simp);(first | rfl | exact Go.AM.take_all (by first | assumption | rfl | (simp;done)) | exact Go.AM.take_map.symm)))))
  (q:Conv st.h g v2 res:=by exact .refl)
  (ho:eG (fun p=>∃o,st.h p.1=some o∧Ole (fun i=>i) o p.2) hout:=by repeat (first | exact trivial | refine⟨⟨_,rfl,by first | exact Go.AM.Ole.arr | exact Go.AM.Ole.var rfl | exact Go.AM.Ole.varS rfl⟩,?_⟩))
  (hok:(subset (V.tup [res,res2]).refs (keys hout)&&subset (eH hout) (keys hout)&&distinct (keys hout)&&subset (keys hin) (keys hout)&&(hin.all fun p=>p.2.plain)&&(hout.all fun p=>p.2.plain))=true:=by rfl):(Exit.ret=.normal∨Exit.ret=.ret)∧Fin tr.flat fn st hin (.tup [res,res2]) hout:=
 ⟨.inr rfl,⟨[v2,v],[res,res2],by rw[y];exact .tmp hu (.cell ha (Tr.get_ok hw hi) hh hb A .nil),.cons q (.cons hc .nil),rfl⟩,ho,hok⟩
end
end Go.AM
namespace Go.Proofs.YtkhgpgihmphfdaaGreat
open Go Go.AM
set_option maxRecDepth 20000
set_option maxHeartbeats 4000000
abbrev LE:=Except (Int×Int) (List Tk)
def tF (t:Tk):LE→LE
 | .ok l=>.ok (t::l)
 | .error e=>.error e
def jO:Nat→Nat→Str→LE
 | 0,at',_=>.ok [⟨6,[],0,at'⟩]
 | _+1,at',[]=>.ok [⟨6,[],0,at'⟩]
 | f+1,at',c::r=>
  if 0<eM (c::r) then jO f (at'+eM (c::r)) ((c::r).drop (eM (c::r)))
  else match gJ (c::r) with
   | .error e=>.error (e,at')
   | .ok (k,t,v)=>tF ⟨k,t,v,at'⟩ (jO f (at'+t.length) ((c::r).drop t.length))
def nE (s:Str):LE:=if 4000<s.length then .error (2,0) else jO s.length 0 s
def aRc (out:List Tk):LE→LE
 | .ok l=>.ok (out++l)
 | .error e=>.error e
theorem uY (out:List Tk) (t:Tk) (r:LE):aRc out (tF t r)=aRc (out++[t]) r:=by
 cases r with
 | ok l=>show Except.ok _=Except.ok _;simp
 | error e=>rfl
def atV (e p:Int):V:=.pa [.int .i64 e,.int .i64 p]
def aDx:LE→V
 | .ok l=>.tup [.one (.c (.sl 4 (l.map aI))),atV 0 0]
 | .error (e,p)=>.tup [.one (.c .nl),atV e p]
theorem wM (s:Str):eM s≤s.length:=by
 unfold eM;cases s with
 | nil=>exact le_refl _
 | cons c r=>
  dsimp only;split
  ·rw[Aa];omega
  ·split
   ·rename_i h;have hp:2≤(c::r).length:=by
     unfold preB at h;rw[π] at h;exact χ h.1
    have:=fO neB ((c::r).drop 2);rw[Bc] at this;omega
   ·exact Ac _
theorem aN1 (s:Str) (h:¬n6 s=[]):1≤(n6 s).length∧(n6 s).length≤s.length:=by
 refine⟨length_pos_iff.2 h,?_⟩;unfold n6 at h ⊢;cases g:qJ.find? fun x=>preB x s with
 | none=>rw[g] at h;exact absurd rfl h
 | some x=>
  have:=List.find?_some g;unfold preB at this;rw[π] at this;exact χ this.1
theorem kQ {c:UInt8}{r:Str}{k:Int}{t:Str}{v:Int}(h:gJ (c::r)=.ok (k,t,v)):1≤t.length∧t.length≤(c::r).length:=by
 have h1:∀p:Nat→Bool,p c.toNat=true→1≤((c::r).take (cD p (c::r))).length∧((c::r).take (cD p (c::r))).length≤(c::r).length:=fun p hp=>by
  have:=fO p (c::r);rw[Aj];rw[cD,θ hp] at this ⊢;rw[Aa] at this ⊢;omega
 rw[gJ] at h;by_cases g:dgB c.toNat=true
 ·rw[θ g] at h;split at h
  ·cases h
  ·cases h;exact h1 _ g
 rw[ξ g] at h;by_cases hn:wiB c.toNat 97 122=true∨wiB c.toNat 65 90=true
 ·rw[θ hn] at h;have hs:sgB c.toNat=true:=by
   rcases hn with h | h
   ·have:=aEj c.toNat;rw[h] at this;simpa using this
   ·have:=aEi c.toNat;rw[h] at this;simpa using this
  unfold mC at h;split at h
  ·cases h
  split at h
  ·cases h;exact h1 _ hs
  split at h
  ·cases h;exact h1 _ hs
  ·cases h;exact h1 _ hs
 rw[ξ hn] at h;split at h
 ·cases h
 ·rename_i hy;cases h;exact aN1 _ hy
theorem sK {c:UInt8}{r:Str}{e:Int}(h:gJ (c::r)=.error e):¬e=0:=by
 rw[gJ] at h;split at h
 ·split at h
  ·cases h;decide
  ·cases h
 split at h
 ·unfold mC at h;split at h
  ·cases h;decide
  split at h
  ·cases h
  split at h<;>cases h
 split at h
 ·cases h;decide
 ·cases h
theorem aUc (S:Str):aU Tryz.prog 35 [Go.AM.T S] [] (aDx (nE S)) []:=by
 refine bC (n:=56) tok Tryz.func35 rfl rfl rfl ?_;refine sg rfl (aA (sg rfl (aB rfl (fun hb=>?_) (fun hb=>?_))))
 ·unfold nE;rw[θ (by have:=χ hb;omega)];exact sg rfl (aF (aRa trw))
 have hl:S.length≤4000:=by have:=Ad hb;omega
 have hA:nE S=aRc [] (jO S.length 0 (S.drop 0)):=by
  unfold nE;rw[ξ (by omega),Bv];cases jO S.length 0 S<;>rfl
 refine aD (sg rfl (sg rfl (AWp.sub (Sub.own (t:=4) (id:=500) 85 4 rfl rfl) ?_)));refine aA (aE (aL (fun p:Nat×Nat×List Tk=>mk [(0,Go.AM.T S),(3,.one (.vp 3 0)),(4,.one (.hs 500 0 p.2.2.length p.2.2.length)),(5,I .i64 p.1)] [(3,.var 38 [.c (.int .i64 0),.c (.int .i64 0)]),(500,.arr 85 4 (p.2.2.map aI) 0)]) (fun p=>p.1≤S.length∧S.length-p.1≤p.2.1∧p.2.2.length+(S.length-p.1)≤S.length∧nE S=aRc p.2.2 (jO p.2.1 p.1 (S.drop p.1))) (fun p=>p.2.1) (0,S.length,[]) ⟨Ac _,by dsimp only;omega,by dsimp only;simp,hA⟩ sl ?_));rintro⟨i,f,out⟩ ⟨hi,hf,E,q⟩;dsimp only at hi hf E q ⊢;have hout:(out.map aI).length=out.length:=κ _;refine aA (sg rfl (aB rfl (fun hb=>?_) (fun hb=>?_)))
 ·have hlt:i<S.length:=by have:=χ hb;omega
  obtain⟨g,rfl⟩:∃g,f=g+1:=⟨f-1,by omega⟩
  obtain⟨c,r,y⟩:∃c r,S.drop i=c::r:=by
   cases h:S.drop i with
   | nil=>
    have:=congrArg List.length h;rw[Bc,length_nil] at this;omega
   | cons c r=>exact⟨c,r,rfl⟩
  have J:(c::r).length=S.length-i:=by rw[←y,Bc]
  rw[Aa] at J;have M:=aQb c r (by omega);have O:=aTm c r (by omega);have U:=wM (c::r);have Y:= @kQ c r;have aa:= @sK c r;rw[y,jO] at q;refine aD (aE (sk 3 rfl ?_));rw[y];refine kc M ?_;refine kz 1 rfl ?_;have B:∀m:Nat,(c::r).drop m=S.drop (i+m):=fun m=>by rw[←y,Ci]
  rw[Aa] at U;refine aA (sg rfl (aB rfl (fun hb=>?_) (fun hb=>?_)))
  ·have A:0<eM (c::r):=by have:=χ hb;omega
   rw[θ A,B] at q;generalize eM (c::r)=m at *;exact aA (agN [] rfl (aG ⟨(i+m,g,out),⟨by dsimp only;omega,by dsimp only;omega,by dsimp only;omega,q⟩,by dsimp only;omega,sl⟩))
  ·have A:¬0<eM (c::r):=by have:=Ad hb;omega
   rw[ξ A] at q;refine aD (sk 3 rfl ?_);rw[y];refine kc O ?_;generalize gJ (c::r)=o at *;cases o with
   | error e=>
    dsimp only at q;have he:=aa rfl;rw[q];exact kz 6 rfl (aA (sg rfl (aB rfl (fun _=>sg rfl (aF (aRa trw))) (fun hb=>absurd hb (by simp[he])))))
   | ok p=>
    obtain⟨k,t,v⟩:=p;dsimp only at q;obtain⟨ht1,ab⟩:=Y rfl;rw[Aa] at ab;rw[uY,B] at q;refine kz 6 rfl (aA (sg rfl (aB rfl (fun hb=>absurd hb (by decide)) (fun _=>aD (sg rfl (sgh [(1,.all),(2,.all)] rfl (agN [] rfl ?_)))))));have u:out.map aI++[[.int .i64 k,.str t,.int .i64 v,.int .i64 (i:Int)]]=(out++[(⟨k,t,v,i⟩:Tk)]).map aI:=by simp[aI]
    exact⟨(i+t.length,g,out++[⟨k,t,v,i⟩]),⟨by dsimp only;omega,by dsimp only;omega,by dsimp only;rw[ζ,Bg];omega,q⟩,by dsimp only;omega,sl (he:=⟨rfl,rfl,Go.AM.hs_ren (by simp) (by simp),rfl,trivial⟩) (hh:=⟨⟨_,rfl,.var rfl⟩,⟨_,rfl,.arrS u⟩,trivial⟩)⟩
 ·have e:i=S.length:=by have:=Ad hb;omega
  have hE:jO f i (S.drop i)=.ok [⟨6,[],0,i⟩]:=by
   rw[e,Cp];cases f<;>rfl
  rw[hE] at q;rw[q];have u:out.map aI++[[.int .i64 6,.str [],.int .i64 0,.int .i64 (i:Int)]]=(out++[(⟨6,[],0,i⟩:Tk)]).map aI:=by simp[aI]
  refine aG (sgh [(4,.all)] rfl ?_);subst e;show AWp _ _ _ _ _ _ (fun ex st=>(ex=.normal∨ex=.ret)∧Fin _ _ st _ (aDx (.ok (out++[⟨6,[],0,(S.length:Int)⟩]))) _);unfold aDx;dsimp only;rw[←u];refine AWp.sub (Sub.freeze (id:=500) rfl) (AWp.sub (cv 2 (out.map aI++[[.int .i64 6,.str [],.int .i64 0,.int .i64 (S.length:Int)]])) ?_);exact aF (aRa trw)
end Go.Proofs.YtkhgpgihmphfdaaGreat
namespace Go.Proofs.YtkhgpgihmphfdaaGreat
open Go Go.AM
set_option maxRecDepth 20000
def xB (n:Int):List C:=[.int .i64 n]
def qI (a b:Ty):Ty:=.mk 4 0 [] [a,b]
def arrow:Str:=[45,62]
def aIp (a b:Ty):Ty:=qI (qI (.mk 3 0 arrow []) a) b
theorem aT9 (a b:Ty):aU Tryz.prog 204 [.pa (cF a),.pa (cF b)] [] (.pa (cF (qI a b))) []:=by
 obtain⟨f,n,s,l⟩:=a;obtain⟨g,q,u,y⟩:=b;refine bC (n:=9) tok Tryz.func204 rfl rfl rfl ?_;refine sg rfl (sg rfl (AWp.sub (Sub.freeze (id:=7) rfl) (aF ?_)));exact⟨.inr rfl,⟨_,_,.cell rfl (tg rfl) rfl rfl rfl .nil,.cons (.agg (.c .refl (.c .refl (.c .refl (.hs rfl rfl rfl .nil))))) .nil,rfl⟩,trivial,rfl⟩
theorem aWg (a b:Ty):aU Tryz.prog 176 [.pa (cF a),.pa (cF b)] [] (.pa (cF (aIp a b))) []:=by
 obtain⟨f,n,s,l⟩:=a;obtain⟨g,q,u,y⟩:=b;refine bC (n:=10) tok Tryz.func176 rfl rfl rfl ?_;refine sg rfl (sk 2 rfl (kc (aT9 (.mk 3 0 arrow []) (.mk f n s l)) ?_));refine ak 1 [] rfl (kc (aT9 (qI (.mk 3 0 arrow []) (.mk f n s l)) (.mk g q u y)) ?_);exact kz 1 rfl (aF ⟨.inr rfl,⟨_,_,.cell rfl (tg rfl) rfl rfl rfl .nil,.cons .refl .nil,rfl⟩,trivial,rfl⟩)
def aNp (l:List Int):Prop:=∀x∈l,i64 x
def tyV (t:Ty):V:=.pa (cF t)
end Go.Proofs.YtkhgpgihmphfdaaGreat
