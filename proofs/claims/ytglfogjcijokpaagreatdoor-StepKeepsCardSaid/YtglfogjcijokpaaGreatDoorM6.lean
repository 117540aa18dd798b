/-
  Texts Am27 to Ls8 in one.
-/
import Derived.Test.YtglfogjcijokpaaGreatDoorM5
import Derived.Test.YtglfogjcijokpaaGreatDoorProg
import Derived.KernelRfl
import Derived.Shelf.Spec.SlicesGrow
import Derived.Laws.Runes
open List (cons_append drop_eq_getElem_cons drop_length drop_zero eq_nil_of_length_eq_zero filter_cons flatMap_append flatten_cons foldl_append length_append length_cons length_eq_one_iff length_filter_le length_map length_nil length_range length_take map_append map_cons mem_append mem_cons mem_cons_of_mem mem_cons_self mem_map mem_of_mem_take mem_range nil_append nodup_cons nodup_range sum_cons take_add_one take_length take_of_length_le take_succ_cons take_zero)
open Nat (add_mul beq_refl eq_of_beq_eq_true le_max_left le_max_right le_of_ble_eq_true le_of_eq le_refl le_trans min_eq_left mul_le_mul_right sub_zero zero_add zero_le)
namespace Go.AM
open Go
theorem Ole.arrS {σ:Nat→Nat}{te es fz:Nat}{l l':List (List C)}(h:l=l'):Ole σ (.arr te es l fz) (.arr te es l' fz):=by subst h;exact .arr
theorem hs_ren {id off a b q I:Nat}(h:a=q) (k:b=I):some (V.one (.hs id off a b))=some (V.ren (fun i=>i) (V.one (.hs id off q I))):=by subst h;subst k;rfl
theorem sl {kf:List Nat}{q:St}{el:List (Nat×V)}{hl:List (Nat×AObj)}
  (he:dM (fun p=>q.e p.1=some (p.2.ren (fun i=>i))) el:=by repeat (first | exact trivial | refine⟨by first | rfl | exact Go.AM.hs_ren (by first | (simp;done) | (simp;omega)) (by first | (simp;done) | (simp;omega)),?_⟩))
  (hh:dM (fun p=>∃o,q.h p.1=some o∧Ole (fun i=>i) o p.2) hl:=by repeat (first | exact trivial | refine⟨⟨_,rfl,by first | exact Go.AM.Ole.arr | exact Go.AM.Ole.var rfl | exact Go.AM.Ole.map | exact Go.AM.Ole.rarr rfl | exact Go.AM.Ole.arr1 | exact Go.AM.Ole.arrS (by first | assumption | (simp;done) | (simp;rfl) | (simp;omega)) | exact Go.AM.Ole.arrE (by first | assumption | (simp;done) | (simp;rfl) | (simp;omega)) | exact Go.AM.Ole.var (by first | (simp[Go.AM.R.renL,Go.AM.R.ren];done) | (simp[Go.AM.R.renL,Go.AM.R.ren];omega)) | exact Go.AM.Ole.mapE (by first | assumption | (simp;done) | (simp;rfl) | (simp;omega))⟩,?_⟩))
  (hok:(aU4 kf (fun i=>i) el hl&&eqL [] q.d)=true:=by rfl):Sub kf (mk el hl) q:=Sub.list (fun i=>i) he hh hok
theorem take_all {α:Type}{l:List α}{n:Nat}(h:n=l.length):l=(l.drop 0).take n:=by rw[h,Cc,As]
theorem ltD {i n:Nat}{l:List (List C)}(h:decide ((i:Int)<(l.length:Int))=true) (e:l.length=n):i<n:=by
 have:(i:Int)<(l.length:Int):=by simpa using h
 omega
theorem geD {i n:Nat}{l:List (List C)}(h:decide ((i:Int)<(l.length:Int))=false) (e:l.length=n) (hi:i≤n):i=n:=by
 have:¬(i:Int)<(l.length:Int):=by simpa using h
 omega
theorem Ole.rarrS {te es:Nat}{l l':List (List R)}(h:l=l'):Ole (fun i=>i) (.rarr te es l) (.rarr te es l'):=by subst h;exact .rarr (aCp _).symm
section
variable {T:TT}{fn:Func}{st:St}{hin hout:List (Nat×AObj)}{res:V}
theorem rtT {t:Nat}{v:V}{ids:List Nat}(q:fn.results.toList=[.tmp t]:=by rfl) (hv:st.e t=some v:=by rfl)
  (hc:Conv st.h ids v res:=by first | exact .refl | exact .one (.c .nl .nil) | ((first | apply Go.AM.Conv.pa | apply Go.AM.Conv.agg);repeat (first | exact .nil | apply Go.AM.PureL.c .refl | apply Go.AM.PureL.c .nl | (apply Go.AM.PureL.hs;rfl;(first | rfl | assumption | simp);(first | rfl | exact Go.AM.take_all (by first | assumption | rfl | (simp;done)) | exact Go.AM.take_map.symm)))))
  (ho:dM (fun p=>∃o,st.h p.1=some o∧Ole (fun i=>i) o p.2) hout:=by repeat (first | exact trivial | refine⟨⟨_,rfl,by first | exact Go.AM.Ole.arr | exact Go.AM.Ole.var rfl | exact Go.AM.Ole.map | exact Go.AM.Ole.rarr rfl | exact Go.AM.Ole.arr1 | exact Go.AM.Ole.arrS (by first | assumption | (simp;done) | (simp;rfl) | (simp;omega)) | exact Go.AM.Ole.arrE (by first | assumption | (simp;done) | (simp;rfl) | (simp;omega)) | exact Go.AM.Ole.var (by first | (simp[Go.AM.R.renL,Go.AM.R.ren];done) | (simp[Go.AM.R.renL,Go.AM.R.ren];omega)) | exact Go.AM.Ole.mapE (by first | assumption | (simp;done) | (simp;rfl) | (simp;omega))⟩,?_⟩))
  (hok:(subset res.refs (keys hout)&&subset (cO hout) (keys hout)&&distinct (keys hout)&&subset (keys hin) (keys hout)&&(hin.all fun p=>p.2.plain)&&(hout.all fun p=>p.2.plain))=true:=by rfl):(Exit.ret=.normal∨Exit.ret=.ret)∧Fin T fn st hin res hout:=
 ⟨.inr rfl,⟨[v],[res],by rw[q];exact .tmp hv .nil,.cons hc .nil,rfl⟩,ho,hok⟩
theorem rtC {tr:Tr}{a t:Nat}{i:TI}{id off tv:Nat}{cells:List R}{v:V}{ids:List Nat}(hw:tr.wf=true) (q:fn.results.toList=[.cell a t]:=by rfl) (hi:tr.get t=some i:=by rfl) (ha:st.e a=some (.one (.vp id off)):=by rfl) (hh:st.h id=some (.var tv cells):=by rfl) (hb:Nat.ble (off+i.size) cells.length=true:=by rfl) (hv:qS i ((cells.drop off).take i.size)=some v:=by rfl)
  (hc:Conv st.h ids v res:=by first | exact .refl | exact .one (.c .nl .nil) | ((first | apply Go.AM.Conv.pa | apply Go.AM.Conv.agg);repeat (first | exact .nil | apply Go.AM.PureL.c .refl | apply Go.AM.PureL.c .nl | (apply Go.AM.PureL.hs;rfl;(first | rfl | assumption | simp);(first | rfl | exact Go.AM.take_all (by first | assumption | rfl | (simp;done)) | exact Go.AM.take_map.symm)))))
  (ho:dM (fun p=>∃o,st.h p.1=some o∧Ole (fun i=>i) o p.2) hout:=by repeat (first | exact trivial | refine⟨⟨_,rfl,by first | exact Go.AM.Ole.arr | exact Go.AM.Ole.var rfl | exact Go.AM.Ole.map | exact Go.AM.Ole.rarr rfl | exact Go.AM.Ole.arr1 | exact Go.AM.Ole.arrS (by first | assumption | (simp;done) | (simp;rfl) | (simp;omega)) | exact Go.AM.Ole.arrE (by first | assumption | (simp;done) | (simp;rfl) | (simp;omega)) | exact Go.AM.Ole.var (by first | (simp[Go.AM.R.renL,Go.AM.R.ren];done) | (simp[Go.AM.R.renL,Go.AM.R.ren];omega)) | exact Go.AM.Ole.mapE (by first | assumption | (simp;done) | (simp;rfl) | (simp;omega))⟩,?_⟩))
  (hok:(subset res.refs (keys hout)&&subset (cO hout) (keys hout)&&distinct (keys hout)&&subset (keys hin) (keys hout)&&(hin.all fun p=>p.2.plain)&&(hout.all fun p=>p.2.plain))=true:=by rfl):(Exit.ret=.normal∨Exit.ret=.ret)∧Fin tr.flat fn st hin res hout:=
 ⟨.inr rfl,⟨[v],[res],by rw[q];exact .cell ha (Tr.get_ok hw hi) hh hb hv .nil,.cons hc .nil,rfl⟩,ho,hok⟩
end
end Go.AM
namespace Go.AM
open Go
theorem j9 {id:Nat}{o:AObj}{hin:List (Nat×AObj)}:look ((id,o)::hin)=upd (look hin) id (some o):=by
 funext i;by_cases h:i=id
 ·subst h;rw[aI,bD]
 ·rw[aS _ _ _ h,bN h]
theorem Inv.emptyZ {G:Ctx}{S:Sto}{μ:Mu}{H:c7}{w:World}{id:Nat}(te es z:Nat) (h:Inv G S μ H w) (hid:H id=none):Inv G S (upd μ id none) (upd H id (some (.arr te es [] z))) w∧Evolve S μ H S (upd μ id none) (upd H id (some (.arr te es [] z))):=by
 have N:Evolve S μ H S (upd μ id none) (upd H id (some (.arr te es [] z))):=eI hid _ _;refine⟨⟨h.holds,fun j x q=>?_,fun i j x x' b c c' hi q hm I=>?_,fun i x b c hi hm=>?_,h.frame,h.sle,h.sto,h.evo.trans N,h.fre⟩,N⟩
 ·by_cases J:j=id
  ·subst J;rw[aI] at q;cases q;exact⟨by simp,.inl ⟨aI _ _ _,rfl⟩⟩
  ·rw[aS _ _ _ J] at q;exact(h.obj j x q).evolve N (aS _ _ _ J) fun _ _ _=>⟨rfl,fun _=>rfl,rfl⟩
 ·have h1:i≠id:=fun e=>by subst e;rw[aI] at hm;cases hm
  have h2:j≠id:=fun e=>by subst e;rw[aI] at I;cases I
  rw[aS _ _ _ h1] at hi hm;rw[aS _ _ _ h2] at q I;exact h.inj i j x x' b c c' hi q hm I
 ·have h1:i≠id:=fun e=>by subst e;rw[aI] at hm;cases hm
  rw[aS _ _ _ h1] at hi hm;exact h.own i x b c hi hm
theorem aQ.nilArg {P:Program}{f:FuncId}{pre post:List V}{hin hout:List (Nat×AObj)}{res:V}{id te es z:Nat}(h:aQ P f (pre++ .one (.hs id 0 0 0)::post) ((id,.arr te es [] z)::hin) res hout) (hid:look hin id=none):aQ P f (pre++ .one (.c .nl)::post) hin res hout:=by
 intro S μ w vals Y hv;obtain⟨hi,J⟩:=Y.emptyZ te es z hid;have N:mL (upd μ id none) (look ((id,.arr te es [] z)::hin))=mL μ (look hin):=by
  funext b;rw[j9];refine propext ⟨?_,?_⟩
  ·rintro⟨j,o,c,h1,h2⟩;by_cases I:j=id
   ·subst I;rw[aI] at h2;cases h2
   ·rw[aS _ _ _ I] at h1 h2;exact⟨j,o,c,h1,h2⟩
  ·rintro⟨j,o,c,h1,h2⟩;have I:j≠id:=fun e=>by subst e;rw[hid] at h1;cases h1
   exact⟨j,o,c,by rw[aS _ _ _ I];exact h1,by rw[aS _ _ _ I];exact h2⟩
 have O:Inv ⟨w,S,mL (upd μ id none) (look ((id,.arr te es [] z)::hin)),upd μ id none,look ((id,.arr te es [] z)::hin)⟩ S (upd μ id none) (look ((id,.arr te es [] z)::hin)) w:=by
  rw[N,j9];exact⟨hi.holds,hi.obj,hi.inj,hi.own,hi.frame,hi.sle,hi.sto,Evolve.refl _ _ _,hi.fre⟩
 have W:bG S (upd μ id none) (look ((id,.arr te es [] z)::hin)) (pre++ .one (.hs id 0 0 0)::post) vals:=by
  rw[j9];have key:∀(l:List V) (us:List Value),bG S μ (look hin) (l++ .one (.c .nl)::post) us→bG S (upd μ id none) (upd (look hin) id (some (.arr te es [] z))) (l++ .one (.hs id 0 0 0)::post) us:=by
   intro l
   induction l with
   | nil=>
    intro us hu;simp only[Bd,bG] at hu ⊢;obtain⟨u,q,h1,h2,h3⟩:=hu;refine⟨u,q,h1,?_,bG.evolve J _ _ h3⟩;simp only[aT,b6,Rep] at h2 ⊢;exact⟨⟨_,_,_,h2⟩,.inr ⟨te,es,[],z,aI _ _ _,le_refl _,fun _=>⟨le_refl _,.inl ⟨aI _ _ _,rfl,h2⟩⟩⟩⟩
   | cons x l Z=>
    intro us hu;simp only[Bc,bG] at hu ⊢;obtain⟨u,q,h1,h2,h3⟩:=hu;exact⟨u,q,h1,aT.evolve J _ _ h2,Z q h3⟩
  exact key pre vals hv
 refine Calls.mono (h S (upd μ id none) w vals O W) ?_;rintro e w' ⟨S',μ',v,h1,h2,h3⟩;refine⟨S',μ',v,h1,?_,h3⟩;rw[N] at h2;refine⟨h2.holds,h2.obj,h2.inj,h2.own,h2.frame,h2.sle,h2.sto,J.trans ?_,h2.fre⟩;have:=h2.evo;rwa [j9] at this
theorem aQ.sub {P:Program}{f:FuncId}{args:List V}{hin hout hout':List (Nat×AObj)}{res q:V}(h:aQ P f args hin res hout) (hs:Sub (keys hin) (mk [(0,q)] hout') (mk [(0,res)] hout)):aQ P f args hin q hout':=by
 intro S μ w vals J hv;refine Calls.mono (h S μ w vals J hv) ?_;rintro e w' ⟨S',μ',v,h1,h2,h3⟩;have I:Ctx.keeps ⟨w,S,mL μ (look hin),μ,look hin⟩ (keys hin):=o9
 obtain⟨S2,N,g⟩:=hs _ 1 S' μ' ⟨#[v],[]⟩ w' I ⟨h2,rfl,rfl,fun t y e=>by
  simp only[mk,look] at e;split at e
  ·rename_i hb;cases e;rw[ε hb];exact h3
  ·cases e⟩
 exact⟨S2,N,v,h1,g.inv,g.env 0 q rfl⟩
theorem aQ.plain {P:Program}{f:FuncId}{args:List V}{id te es n:Nat}{rows:List (List C)}{fz:Nat}(h:aQ P f args [] (.one (.hs id 0 n n)) [(id,.arr te es rows fz)]) (hn:n=rows.length):aQ P f args [] (.one (.c (.sl es rows))) []:=by
 refine h.sub ?_;have h1:Sub [] ⟨look [(0,V.one (.hs id 0 n n))],upd (look [(id,AObj.arr te es rows fz)]) id (some (.arr te es rows 2)),[]⟩ (mk [(0,.one (.hs id 0 n n))] [(id,.arr te es rows fz)]):=Sub.freeze (st:=mk [(0,.one (.hs id 0 n n))] [(id,.arr te es rows fz)]) bD;refine Sub.trans (Sub.trans ?_ (Sub.conv (t:=0) (v:=.one (.hs id 0 n n)) rfl (hs_all (aI _ _ _) rfl hn rfl))) h1;exact Sub.list (fun i=>i) ⟨rfl,trivial⟩ trivial rfl
theorem Sub.varPure {kf:List Nat}{st:St}{x tv:Nat}{cells:List R}{ids:List Nat}{cs:List C}(h:st.h x=some (.var tv cells)) (hp:PureL st.h ids cells cs):Sub kf ⟨st.e,upd st.h x (some (.var tv (cs.map R.c))),st.d⟩ st:=by
 intro G n S μ a w _ hs;have hi:=hs.inv;obtain⟨b,vs,g1,g2,g3,g4⟩:=hi.obj x _ h
 have J:Evolve S μ st.h S μ (upd st.h x (some (.var tv (cs.map R.c)))):=⟨S.le_refl,fun j y I=>by
  by_cases q:j=x
  ·subst q;rw[h] at I;cases I;exact⟨_,aI _ _ _,by simp[AObj.succ]⟩
  ·exact⟨y,by rw[aS _ _ _ q];exact I,y.succ_refl rfl⟩⟩
 have hold:∀j y,upd st.h x (some (.var tv (cs.map R.c))) j=some y→∃y',st.h j=some y':=fun j y I=>by
  by_cases q:j=x
  ·subst q;exact⟨_,h⟩
  ·rw[aS _ _ _ q] at I;exact⟨_,I⟩
 refine⟨S,μ,⟨⟨hi.holds,fun j y I=>?_,fun i j y y' b c c' N I hm W=>?_,fun i y b c N hm=>?_,hi.frame,hi.sle,hi.sto,hi.evo.trans J,hi.fre⟩,hs.size,hs.defers.evolve J,fun s v e=>aT.evolve J v _ (hs.env s v e)⟩⟩
 ·by_cases q:j=x
  ·subst q;have O:some (AObj.var tv (cs.map R.c))=some y:=by rw[←I];exact(aI _ _ _).symm
   cases O;exact⟨b,vs,g1,g2,(hp.rel (fun _ _=>rfl) hi.obj g3).toR,g4⟩
  ·have O:st.h j=some y:=by rw[←I];exact(aS _ _ _ q).symm
   exact(hi.obj j y O).evolve J rfl fun _ _ _=>⟨rfl,fun _=>rfl,rfl⟩
 ·obtain⟨_,h1⟩:=hold _ _ N;obtain⟨_,h2⟩:=hold _ _ I;exact hi.inj i j _ _ b c c' h1 h2 hm W
 ·obtain⟨_,h1⟩:=hold _ _ N;exact hi.own i _ b c h1 hm
theorem vp {kf:List Nat}{st:St}(x:Nat) {tv:Nat}{cells:List R}(cs:List C) {ids:List Nat}(h:st.h x=some (.var tv cells):=by rfl)
  (hp:PureL st.h ids cells cs:=by repeat (first | exact .nil | apply Go.AM.PureL.c .refl | apply Go.AM.PureL.c .nl | apply Go.AM.PureL.c .sn | (apply Go.AM.PureL.hs;rfl;(first | rfl | assumption | (simp;done) | (simp;omega));(first | rfl | exact Go.AM.take_all (by first | assumption | rfl | (simp;done) | (simp;omega)) | exact Go.AM.take_map.symm)))):Sub kf ⟨st.e,upd st.h x (some (.var tv (cs.map R.c))),st.d⟩ st:=Sub.varPure h hp
theorem cv {kf:List Nat}{st:St}(t:Nat) {id te es n sz:Nat}{l:List (List C)}(l':List (List C)) (h:st.e t=some (.one (.hs id 0 n sz)):=by rfl) (hh:st.h id=some (.arr te es l 2):=by rfl) (h1:n=l.length:=by first | rfl | assumption | (simp;done) | (simp;omega)) (h2:sz=l.length:=by first | rfl | assumption | (simp;done) | (simp;omega)) (h3:l=l':=by first | rfl | assumption | (simp;done)):Sub kf ⟨upd st.e t (some (.one (.c (.sl es l')))),st.h,st.d⟩ st:=by
 subst h3;exact Sub.conv h (.one (.hs hh h2 (by rw[h1,Cc,As]) .nil))
end Go.AM
namespace Go.Proofs.YtglfogjcijokpaaGreatDoor
open Go Go.AM
def zl_:Tr:=.leaf none
def zl0:Tr:=.leaf (some ⟨.fn,1,8,[.zv 1]⟩)
def zl1:Tr:=.leaf (some ⟨.int .u8,1,1,[.int .u8 0]⟩)
def zl2:Tr:=.leaf (some ⟨.int .i64,1,8,[.int .i64 0]⟩)
def zl3:Tr:=.leaf (some ⟨.str,1,16,[.str []]⟩)
def zl4:Tr:=.leaf (some ⟨.int .u64,1,8,[.int .u64 0]⟩)
def zl5:Tr:=.leaf (some ⟨.int .i32,1,4,[.int .i32 0]⟩)
def zl6:Tr:=.leaf (some ⟨.st [(0,9),(1,30)],5,72,[.str [],.int .i64 0,.int .i64 0,.str [],.nl]⟩)
def tr:Tr:=
 .node 117 (.node 58 (.node 29 (.node 14 (.node 7 (.node 3 (.node 1 zl_ (.node 1 zl0 zl2)) (.node 2 (.node 1 zl2 (.leaf (some ⟨.bool,1,1,[.bool false]⟩))) (.node 1 zl1 zl1))) (.node 3 (.node 1 (.leaf (some ⟨.st [(0,2),(1,3),(2,4),(3,6)],4,24,[.int .i64 0,.int .i64 0,.bool false,.int .u8 0]⟩)) (.node 1 (.leaf (some ⟨.st [(0,2),(1,3),(2,4),(3,6)],4,24,[.int .i64 0,.int .i64 0,.bool false,.int .u8 0]⟩)) zl3)) (.node 2 (.node 1 zl3 zl3) (.node 1 zl4 (.leaf (some ⟨.st [(0,9),(1,12)],2,24,[.str [],.int .u64 0]⟩)))))) (.node 7 (.node 3 (.node 1 (.leaf (some ⟨.st [(0,9),(1,12)],2,24,[.str [],.int .u64 0]⟩)) (.node 1 (.leaf (some ⟨.pt 221,1,8,[.np]⟩)) (.leaf (some ⟨.pt 224,1,8,[.np]⟩)))) (.node 2 (.node 1 (.leaf (some ⟨.pt 233,1,8,[.np]⟩)) (.leaf (some ⟨.st [(0,17)],1,8,[.np]⟩))) (.node 1 (.leaf (some ⟨.st [(0,17)],1,8,[.np]⟩)) zl_))) (.node 4 (.node 2 (.node 1 zl5 (.leaf (some ⟨.sl 3,1,24,[.nl]⟩))) (.node 1 (.leaf (some ⟨.sl 56,1,24,[.nl]⟩)) zl0)) (.node 2 (.node 1 (.leaf (some ⟨.sl 69,1,24,[.nl]⟩)) (.leaf (some ⟨.st [(0,23),(1,25)],2,48,[.nl,.nl]⟩))) (.node 1 (.leaf (some ⟨.st [(0,23),(1,25)],2,48,[.nl,.nl]⟩)) (.leaf (some ⟨.sl 30,1,24,[.nl]⟩))))))) (.node 14 (.node 7 (.node 3 (.node 1 (.leaf (some ⟨.st [(0,3),(1,3),(2,9),(3,28)],4,56,[.int .i64 0,.int .i64 0,.str [],.nl]⟩)) (.node 1 (.leaf (some ⟨.st [(0,3),(1,3),(2,9),(3,28)],4,56,[.int .i64 0,.int .i64 0,.str [],.nl]⟩)) (.leaf (some ⟨.sl 34,1,24,[.nl]⟩)))) (.node 2 (.node 1 (.leaf (some ⟨.sl 71,1,24,[.nl]⟩)) (.leaf (some ⟨.st [(0,3),(1,3),(2,9),(3,30),(7,31),(8,25),(9,32)],10,160,[.int .i64 0,.int .i64 0,.str [],.int .i64 0,.int .i64 0,.str [],.nl,.nl,.nl,.nl]⟩))) (.node 1 (.leaf (some ⟨.st [(0,3),(1,3),(2,9),(3,30),(7,31),(8,25),(9,32)],10,160,[.int .i64 0,.int .i64 0,.str [],.int .i64 0,.int .i64 0,.str [],.nl,.nl,.nl,.nl]⟩)) zl_))) (.node 3 (.node 1 zl0 (.node 1 zl0 zl2)) (.node 2 (.node 1 zl_ zl0) (.node 1 zl0 zl_)))) (.node 7 (.node 3 (.node 1 zl0 (.node 1 zl0 zl0)) (.node 2 (.node 1 zl0 zl_) (.node 1 zl0 zl0))) (.node 4 (.node 2 (.node 1 zl0 zl0) (.node 1 zl0 zl0)) (.node 2 (.node 1 zl0 (.leaf (some ⟨.st [(0,9),(1,3),(2,3),(3,3),(4,30)],8,96,[.str [],.int .i64 0,.int .i64 0,.int .i64 0,.int .i64 0,.int .i64 0,.str [],.nl]⟩))) (.node 1 (.leaf (some ⟨.st [(0,9),(1,3),(2,3),(3,3),(4,30)],8,96,[.str [],.int .i64 0,.int .i64 0,.int .i64 0,.int .i64 0,.int .i64 0,.str [],.nl]⟩)) (.leaf (some ⟨.pt 60,1,8,[.np]⟩)))))))) (.node 29 (.node 14 (.node 7 (.node 3 (.node 1 zl0 (.node 1 (.leaf (some ⟨.st [(0,22),(1,3)],2,32,[.nl,.int .i64 0]⟩)) (.leaf (some ⟨.st [(0,22),(1,3)],2,32,[.nl,.int .i64 0]⟩)))) (.node 2 (.node 1 zl0 zl0) (.node 1 zl0 (.leaf (some ⟨.sl 9,1,24,[.nl]⟩))))) (.node 3 (.node 1 (.leaf (some ⟨.sl 154,1,24,[.nl]⟩)) (.node 1 (.leaf (some ⟨.st [(0,65),(1,64),(2,3)],3,56,[.nl,.nl,.int .i64 0]⟩)) (.leaf (some ⟨.st [(0,65),(1,64),(2,3)],3,56,[.nl,.nl,.int .i64 0]⟩)))) (.node 2 (.node 1 (.leaf (some ⟨.st [(0,9),(1,30),(5,34)],15,232,[.str [],.int .i64 0,.int .i64 0,.str [],.nl,.int .i64 0,.int .i64 0,.str [],.int .i64 0,.int .i64 0,.str [],.nl,.nl,.nl,.nl]⟩)) (.leaf (some ⟨.st [(0,9),(1,30),(5,34)],15,232,[.str [],.int .i64 0,.int .i64 0,.str [],.nl,.int .i64 0,.int .i64 0,.str [],.int .i64 0,.int .i64 0,.str [],.nl,.nl,.nl,.nl]⟩))) (.node 1 (.leaf (some ⟨.st [(0,3),(1,3),(2,9),(3,64),(4,34)],14,216,[.int .i64 0,.int .i64 0,.str [],.nl,.int .i64 0,.int .i64 0,.str [],.int .i64 0,.int .i64 0,.str [],.nl,.nl,.nl,.nl]⟩)) (.leaf (some ⟨.st [(0,3),(1,3),(2,9),(3,64),(4,34)],14,216,[.int .i64 0,.int .i64 0,.str [],.nl,.int .i64 0,.int .i64 0,.str [],.int .i64 0,.int .i64 0,.str [],.nl,.nl,.nl,.nl]⟩)))))) (.node 7 (.node 3 (.node 1 (.leaf (some ⟨.sl 176,1,24,[.nl]⟩)) (.node 1 zl0 (.leaf (some ⟨.st [(0,23),(1,72),(2,64),(3,28),(4,3)],5,104,[.nl,.nl,.nl,.nl,.int .i64 0]⟩)))) (.node 2 (.node 1 (.leaf (some ⟨.st [(0,23),(1,72),(2,64),(3,28),(4,3)],5,104,[.nl,.nl,.nl,.nl,.int .i64 0]⟩)) zl0) (.node 1 zl0 zl0))) (.node 4 (.node 2 (.node 1 zl0 (.leaf (some ⟨.st [(0,27)],2,48,[.nl,.nl]⟩))) (.node 1 (.leaf (some ⟨.st [(0,27)],2,48,[.nl,.nl]⟩)) zl0)) (.node 2 (.node 1 zl0 zl0) (.node 1 zl0 zl0))))) (.node 15 (.node 7 (.node 3 (.node 1 zl0 (.node 1 zl0 (.leaf (some ⟨.sl 95,1,24,[.nl]⟩)))) (.node 2 (.node 1 zl0 (.leaf (some ⟨.pt 34,1,8,[.np]⟩))) (.node 1 (.leaf (some ⟨.sl 133,1,24,[.nl]⟩)) (.leaf (some ⟨.sl 91,1,24,[.nl]⟩))))) (.node 4 (.node 2 (.node 1 (.leaf (some ⟨.st [(0,92),(1,93)],2,48,[.nl,.nl]⟩)) (.leaf (some ⟨.st [(0,92),(1,93)],2,48,[.nl,.nl]⟩))) (.node 1 (.leaf (some ⟨.mp 9 139,1,8,[.zv 0]⟩)) zl0)) (.node 2 (.node 1 (.leaf (some ⟨.st [(0,25),(1,96)],2,32,[.nl,.zv 0]⟩)) (.leaf (some ⟨.st [(0,25),(1,96)],2,32,[.nl,.zv 0]⟩))) (.node 1 zl0 zl0)))) (.node 7 (.node 3 (.node 1 zl0 (.node 1 (.leaf (some ⟨.st [(0,64),(1,64)],2,48,[.nl,.nl]⟩)) (.leaf (some ⟨.st [(0,64),(1,64)],2,48,[.nl,.nl]⟩)))) (.node 2 (.node 1 zl0 zl0) (.node 1 zl0 zl0))) (.node 4 (.node 2 (.node 1 zl0 zl0) (.node 1 zl_ zl0)) (.node 2 (.node 1 zl0 zl0) (.node 1 (.leaf (some ⟨.st [],0,0,[]⟩)) (.leaf (some ⟨.st [],0,0,[]⟩))))))))) (.node 59 (.node 29 (.node 14 (.node 7 (.node 3 (.node 1 zl_ (.node 1 zl0 (.leaf (some ⟨.st [(0,3),(1,118)],2,16,[.int .i64 0,.zv 1]⟩)))) (.node 2 (.node 1 zl_ (.leaf (some ⟨.mp 3 119,1,8,[.zv 0]⟩))) (.node 1 zl0 zl0))) (.node 3 (.node 1 zl0 (.node 1 zl0 zl0)) (.node 2 (.node 1 zl_ zl0) (.node 1 zl0 zl0)))) (.node 7 (.node 3 (.node 1 zl0 (.node 1 zl0 (.leaf (some ⟨.pt 9,1,8,[.np]⟩)))) (.node 2 (.node 1 (.leaf (some ⟨.pt 69,1,8,[.np]⟩)) (.leaf (some ⟨.pt 71,1,8,[.np]⟩))) (.node 1 zl0 zl0))) (.node 4 (.node 2 (.node 1 (.leaf (some ⟨.st [(0,136),(1,137)],2,16,[.zv 1,.zv 1]⟩)) (.leaf (some ⟨.st [(0,136),(1,137)],2,16,[.zv 1,.zv 1]⟩))) (.node 1 zl0 zl0)) (.node 2 (.node 1 zl0 zl_) (.node 1 zl0 zl0))))) (.node 15 (.node 7 (.node 3 (.node 1 zl0 (.node 1 zl0 zl0)) (.node 2 (.node 1 zl0 zl0) (.node 1 zl0 zl0))) (.node 4 (.node 2 (.node 1 zl6 zl6) (.node 1 zl0 zl0)) (.node 2 (.node 1 (.leaf (some ⟨.sl 5,1,24,[.nl]⟩)) zl0) (.node 1 zl0 zl0)))) (.node 7 (.node 3 (.node 1 zl_ (.node 1 zl0 zl_)) (.node 2 (.node 1 (.leaf (some ⟨.mp 9 136,1,8,[.zv 0]⟩)) zl0) (.node 1 zl0 zl0))) (.node 4 (.node 2 (.node 1 zl0 zl0) (.node 1 zl_ zl0)) (.node 2 (.node 1 zl0 zl0) (.node 1 zl0 zl0)))))) (.node 29 (.node 14 (.node 7 (.node 3 (.node 1 zl6 (.node 1 zl0 zl_)) (.node 2 (.node 1 zl0 zl0) (.node 1 zl0 zl0))) (.node 3 (.node 1 zl0 (.node 1 zl0 zl0)) (.node 2 (.node 1 zl0 zl0) (.node 1 zl0 (.leaf (some ⟨.sl 64,1,24,[.nl]⟩)))))) (.node 7 (.node 3 (.node 1 zl0 (.node 1 zl0 zl0)) (.node 2 (.node 1 zl0 zl0) (.node 1 (.leaf (some ⟨.mp 9 115,1,8,[.zv 0]⟩)) zl_))) (.node 4 (.node 2 (.node 1 zl_ zl0) (.node 1 zl0 (.leaf (some ⟨.sl 72,1,24,[.nl]⟩)))) (.node 2 (.node 1 zl0 zl0) (.node 1 zl0 zl_))))) (.node 15 (.node 7 (.node 3 (.node 1 zl4 (.node 1 zl0 zl0)) (.node 2 (.node 1 zl_ zl0) (.node 1 zl0 zl_))) (.node 4 (.node 2 (.node 1 (.leaf (some ⟨.int .u32,1,4,[.int .u32 0]⟩)) zl_) (.node 1 zl4 zl0)) (.node 2 (.node 1 zl0 zl_) (.node 1 zl_ zl0)))) (.node 7 (.node 3 (.node 1 (.leaf (some ⟨.st [(0,17),(1,17),(2,17),(3,9)],4,40,[.np,.np,.np,.str []]⟩)) (.node 1 (.leaf (some ⟨.st [(0,17),(1,17),(2,17),(3,9)],4,40,[.np,.np,.np,.str []]⟩)) (.leaf (some ⟨.ar 0 16,0,0,[]⟩)))) (.node 2 (.node 1 (.leaf (some ⟨.st [(0,222)],0,0,[]⟩)) (.leaf (some ⟨.st [(0,222)],0,0,[]⟩))) (.node 1 zl0 zl1))) (.node 4 (.node 2 (.node 1 zl1 zl0) (.node 1 (.leaf (some ⟨.pt 5,1,8,[.np]⟩)) zl5)) (.node 2 (.node 1 zl5 (.leaf (some ⟨.st [(0,12),(1,12),(2,212),(3,226),(4,5),(5,5),(6,227),(7,228),(8,229),(9,230),(10,231)],11,48,[.int .u64 0,.int .u64 0,.int .u32 0,.int .u8 0,.int .u8 0,.int .u8 0,.int .u8 0,.zv 1,.np,.int .i32 0,.int .i32 0]⟩))) (.node 1 (.leaf (some ⟨.st [(0,12),(1,12),(2,212),(3,226),(4,5),(5,5),(6,227),(7,228),(8,229),(9,230),(10,231)],11,48,[.int .u64 0,.int .u64 0,.int .u32 0,.int .u8 0,.int .u8 0,.int .u8 0,.int .u8 0,.zv 1,.np,.int .i32 0,.int .i32 0]⟩)) zl_)))))))
theorem trw:tr.wf=true:=by kernel_rfl
theorem tok:Tok Tryz.prog tr.flat:=by unfold Tok;kernel_rfl
theorem tg {t:Nat}{i:TI}(h:tr.get t=some i):tr.flat[t]?=some (some i):=Tr.get_ok trw h
theorem mixed:Tryz.prog.follows .mixedOrders=true:=by kernel_rfl
section
variable {ro:Option Nat}{n:Nat}{ops:Array Oper}{draw:Bool}{k k':Nat}{e:Nat→Option V}{h0:c7}{d0:List Nat}{st':St}{pre pre':REs}{tr':Tr}{ob:List Prop}{kf:List Nat}{id:Nat}
theorem ag {Q:Exit→St→Prop}(hs:List (Nat×Hn)) (h:vQ Tryz.prog tr true false n ops.toList hs 1000 0 ops.toList e h0 d0 [] []=some (st',k',pre',ob)) (q:Q .normal st')
  (hc:iL ob:=by repeat (first | exact trivial | refine⟨by first | omega | assumption | exact⟨by kernel_rfl,by assumption⟩ | rfl | (simp only[Be,List.length_nil];omega) | (simp;done) | (simp;omega),?_⟩)) (h1:Nat.beq k' ops.size=true:=by rfl) (h2:(!draw || (fG (pC ops) pre'.reverse []&&i7 ops))=true:=by kernel_rfl):AWp ro Tryz.prog n kf (.region id ops draw) ⟨e,h0,d0⟩ Q:=
 aTu mixed trw tok h hc h1 h2 q
theorem agN {Q:Exit→St→Prop}(hs:List (Nat×Hn)) (h:vQ Tryz.prog tr true true n ops.toList hs 1000 0 ops.toList e h0 d0 [] []=some (st',k',pre',ob)) (q:Q .normal st')
  (hc:iL ob:=by repeat (first | exact trivial | refine⟨by first | omega | assumption | exact⟨by kernel_rfl,by assumption⟩ | rfl | (simp only[Be,List.length_nil];omega) | (simp;done) | (simp;omega),?_⟩)) (h1:Nat.beq k' ops.size=true:=by rfl) (h2:(!draw || (fG (pC ops) pre'.reverse []&&i7 ops))=true:=by kernel_rfl):AWp ro Tryz.prog n kf (.region id ops draw) ⟨e,h0,d0⟩ Q:=
 aTu mixed trw tok h hc h1 h2 q
theorem ak {Q:St→Prop}(m:Nat) (hs:List (Nat×Hn)) (h:vQ Tryz.prog tr true false n ops.toList hs m k (ops.toList.drop k) e h0 d0 pre []=some (st',k',pre',ob)) (hk:kE Tryz.prog n ops draw k' st' pre' Q)
  (hc:iL ob:=by repeat (first | exact trivial | refine⟨by first | omega | assumption | exact⟨by kernel_rfl,by assumption⟩ | rfl | (simp only[Be,List.length_nil];omega) | (simp;done) | (simp;omega),?_⟩)):kE Tryz.prog n ops draw k ⟨e,h0,d0⟩ pre Q:=
 ax_ m trw tok h hc hk
theorem akN {Q:St→Prop}(m:Nat) (hs:List (Nat×Hn)) (h:vQ Tryz.prog tr true true n ops.toList hs m k (ops.toList.drop k) e h0 d0 pre []=some (st',k',pre',ob)) (hk:kE Tryz.prog n ops draw k' st' pre' Q)
  (hc:iL ob:=by repeat (first | exact trivial | refine⟨by first | omega | assumption | exact⟨by kernel_rfl,by assumption⟩ | rfl | (simp only[Be,List.length_nil];omega) | (simp;done) | (simp;omega),?_⟩)):kE Tryz.prog n ops draw k ⟨e,h0,d0⟩ pre Q:=
 ax_ m trw tok h hc hk
theorem agF {Q:Exit→St→Prop}{J:Nat→Option V}{q:c7}{d1:List Nat}{I:List Prop}{res:Res}{L:List (Nat×Option V)}(m:Nat) (hs:List (Nat×Hn)) (g1:vQ Tryz.prog tr true false n ops.toList hs m 0 ops.toList e h0 d0 [] []=some (⟨J,q,d1⟩,k',pre',I))
  (g2:oT Tryz.prog tr true false n ops.toList hs (aW7 (ops.toList.drop k')) 1000 k' (ops.toList.drop k') J q d1 [] pre' I=some res) (g3:sJ res (aW7 (ops.toList.drop k'))=some L) (N:Q .normal ⟨mP J L,q,d1⟩)
  (ho:res.obs:=by repeat (first | exact trivial | refine⟨fun _=>?_,fun _=>?_⟩ | refine⟨by first | omega | assumption | exact⟨by kernel_rfl,by assumption⟩ | rfl | (simp only[Be,List.length_nil];omega) | (simp;done) | (simp;omega),?_⟩)) (O:res.good ops draw=true:=by kernel_rfl):AWp ro Tryz.prog n kf (.region id ops draw) ⟨e,h0,d0⟩ Q:=
 aWu m mixed trw tok g1 g2 g3 ho O N
theorem az {Q:St→Prop}(q:Q ⟨e,h0,d0⟩) (h1:Nat.beq k ops.size=true:=by rfl) (h2:(!draw || (fG (pC ops) pre.reverse []&&i7 ops))=true:=by kernel_rfl):kE Tryz.prog n ops draw k ⟨e,h0,d0⟩ pre Q:=z_ h1 h2 q
theorem sgh {Q:Exit→St→Prop}{y:Code}(hs:List (Nat×Hn)) (h:vQ Tryz.prog tr true false n ops.toList hs 1000 0 ops.toList e h0 d0 [] []=some (st',k',pre',ob)) (q:AWp ro Tryz.prog n kf y st' Q)
  (hc:iL ob:=by repeat (first | exact trivial | refine⟨by first | omega | assumption | exact⟨by kernel_rfl,by assumption⟩ | rfl | (simp only[Be,List.length_nil];omega) | (simp;done) | (simp;omega),?_⟩)) (h1:Nat.beq k' ops.size=true:=by rfl) (h2:(!draw || (fG (pC ops) pre'.reverse []&&i7 ops))=true:=by kernel_rfl):AWp ro Tryz.prog n kf (.seq (.region id ops draw) y) ⟨e,h0,d0⟩ Q:=
 a8 (ag hs h q hc h1 h2)
theorem sg {Q:Exit→St→Prop}{y:Code}(h:vQ Tryz.prog tr true false n ops.toList [] 1000 0 ops.toList e h0 d0 [] []=some (st',k',pre',ob)) (q:AWp ro Tryz.prog n kf y st' Q)
  (hc:iL ob:=by repeat (first | exact trivial | refine⟨by first | omega | assumption | exact⟨by kernel_rfl,by assumption⟩ | rfl | (simp only[Be,List.length_nil];omega) | (simp;done) | (simp;omega),?_⟩)) (h1:Nat.beq k' ops.size=true:=by rfl) (h2:(!draw || (fG (pC ops) pre'.reverse []&&i7 ops))=true:=by kernel_rfl):AWp ro Tryz.prog n kf (.seq (.region id ops draw) y) ⟨e,h0,d0⟩ Q:=
 sgh [] h q hc h1 h2
theorem skh {Q:Exit→St→Prop}{y:Code}(m:Nat) (hs:List (Nat×Hn)) (h:vQ Tryz.prog tr true false n ops.toList hs m 0 (ops.toList.drop 0) e h0 d0 [] []=some (st',k',pre',ob)) (hk:kE Tryz.prog n ops draw k' st' pre' (fun st'=>AWp ro Tryz.prog n kf y st' Q))
  (hc:iL ob:=by repeat (first | exact trivial | refine⟨by first | omega | assumption | exact⟨by kernel_rfl,by assumption⟩ | rfl | (simp only[Be,List.length_nil];omega) | (simp;done) | (simp;omega),?_⟩)):AWp ro Tryz.prog n kf (.seq (.region id ops draw) y) ⟨e,h0,d0⟩ Q:=
 a8 (aE mixed (ak m hs h hk hc))
theorem sk {Q:Exit→St→Prop}{y:Code}(m:Nat) (h:vQ Tryz.prog tr true false n ops.toList [] m 0 (ops.toList.drop 0) e h0 d0 [] []=some (st',k',pre',ob)) (hk:kE Tryz.prog n ops draw k' st' pre' (fun st'=>AWp ro Tryz.prog n kf y st' Q))
  (hc:iL ob:=by repeat (first | exact trivial | refine⟨by first | omega | assumption | exact⟨by kernel_rfl,by assumption⟩ | rfl | (simp only[Be,List.length_nil];omega) | (simp;done) | (simp;omega),?_⟩)):AWp ro Tryz.prog n kf (.seq (.region id ops draw) y) ⟨e,h0,d0⟩ Q:=
 skh m [] h hk hc
theorem kz {Q:St→Prop}(m:Nat) (h:vQ Tryz.prog tr true false n ops.toList [] m k (ops.toList.drop k) e h0 d0 pre []=some (st',k',pre',ob)) (q:Q st')
  (hc:iL ob:=by repeat (first | exact trivial | refine⟨by first | omega | assumption | exact⟨by kernel_rfl,by assumption⟩ | rfl | (simp only[Be,List.length_nil];omega) | (simp;done) | (simp;omega),?_⟩)) (h1:Nat.beq k' ops.size=true:=by rfl) (h2:(!draw || (fG (pC ops) pre'.reverse []&&i7 ops))=true:=by kernel_rfl):kE Tryz.prog n ops draw k ⟨e,h0,d0⟩ pre Q:=
 ak m [] h (z_ h1 h2 q) hc
end
set_option maxRecDepth 20000
abbrev Str:=List UInt8
def bL (s:Str):List C:=[.str s]
inductive Ty where
 | mk (form n:Int) (name:Str) (args:List Ty)
mutual
inductive Core where
 | mk (form n:Int) (name:Str) (ty:Ty) (kids:List Core) (binds:List Bind) (alts:List Alt)
inductive Bind where
 | mk (name:Str) (ty:Ty) (body:Core)
inductive Alt where
 | mk (form n:Int) (name:Str) (vars:List Str) (body:Core)
end
def Ty.form:Ty→Int | .mk f _ _ _=>f
def Ty.n:Ty→Int | .mk _ n _ _=>n
def Ty.name:Ty→Str | .mk _ _ s _=>s
def Ty.args:Ty→List Ty | .mk _ _ _ l=>l
def Core.form:Core→Int | .mk f _ _ _ _ _ _=>f
def Core.n:Core→Int | .mk _ n _ _ _ _ _=>n
def Core.name:Core→Str | .mk _ _ s _ _ _ _=>s
def Core.ty:Core→Ty | .mk _ _ _ t _ _ _=>t
def Core.kids:Core→List Core | .mk _ _ _ _ l _ _=>l
def Core.binds:Core→List Bind | .mk _ _ _ _ _ l _=>l
def Core.alts:Core→List Alt | .mk _ _ _ _ _ _ l=>l
def Bind.name:Bind→Str | .mk s _ _=>s
def Bind.ty:Bind→Ty | .mk _ t _=>t
def Bind.body:Bind→Core | .mk _ _ c=>c
def Alt.form:Alt→Int | .mk f _ _ _ _=>f
def Alt.n:Alt→Int | .mk _ n _ _ _=>n
def Alt.name:Alt→Str | .mk _ _ s _ _=>s
def Alt.vars:Alt→List Str | .mk _ _ _ l _=>l
def Alt.body:Alt→Core | .mk _ _ _ _ c=>c
mutual
def gD:Ty→List (List C)
 | .mk _ _ _ a=>dQ a
def dQ:List Ty→List (List C)
 | []=>[]
 | t::l=>[.int .i64 t.form,.int .i64 t.n,.str t.name,.sl 4 (gD t)]::dQ l
end
def aO (t:Ty):List C:=[.int .i64 t.form,.int .i64 t.n,.str t.name,.sl 4 (gD t)]
mutual
def xW:Core→List (List C)
 | .mk _ _ _ _ l _ _=>aR l
def nD:Core→List (List C)
 | .mk _ _ _ _ _ l _=>aU l
def iJ:Core→List (List C)
 | .mk _ _ _ _ _ _ l=>c9 l
def aR:List Core→List (List C)
 | []=>[]
 | c::l=>[.int .i64 c.form,.int .i64 c.n,.str c.name,.int .i64 c.ty.form,.int .i64 c.ty.n,.str c.ty.name,.sl 4 (gD c.ty),.sl 10 (xW c),.sl 15 (nD c),.sl 14 (iJ c)]::aR l
def aVu:Bind→List C
 | .mk _ _ c=>[.int .i64 c.form,.int .i64 c.n,.str c.name,.int .i64 c.ty.form,.int .i64 c.ty.n,.str c.ty.name,.sl 4 (gD c.ty),.sl 10 (xW c),.sl 15 (nD c),.sl 14 (iJ c)]
def aU:List Bind→List (List C)
 | []=>[]
 | b::l=>([.str b.name,.int .i64 b.ty.form,.int .i64 b.ty.n,.str b.ty.name,.sl 4 (gD b.ty)]++aVu b)::aU l
def aVt:Alt→List C
 | .mk _ _ _ _ c=>[.int .i64 c.form,.int .i64 c.n,.str c.name,.int .i64 c.ty.form,.int .i64 c.ty.n,.str c.ty.name,.sl 4 (gD c.ty),.sl 10 (xW c),.sl 15 (nD c),.sl 14 (iJ c)]
def c9:List Alt→List (List C)
 | []=>[]
 | a::l=>([.int .i64 a.form,.int .i64 a.n,.str a.name,.sl 1 (a.vars.map bL)]++aVt a)::c9 l
end
def aC (c:Core):List C:=[.int .i64 c.form,.int .i64 c.n,.str c.name,.int .i64 c.ty.form,.int .i64 c.ty.n,.str c.ty.name,.sl 4 (gD c.ty),.sl 10 (xW c),.sl 15 (nD c),.sl 14 (iJ c)]
def bJ (b:Bind):List C:=[.str b.name,.int .i64 b.ty.form,.int .i64 b.ty.n,.str b.ty.name,.sl 4 (gD b.ty)]++aC b.body
def c6 (a:Alt):List C:=[.int .i64 a.form,.int .i64 a.n,.str a.name,.sl 1 (a.vars.map bL)]++aC a.body
theorem bO {α:Type}{l:List α}{k:Nat}{x:α}(f:α→List C) (h:l[k]?=some x):(l.map f)[k]?=some (f x):=by rw[Bg,h];rfl
theorem aJ {α:Type}{l:List α}{k:Nat}(h:k<l.length):∃x,l[k]?=some x:=⟨l[k],by simp[h]⟩
theorem bA:∀l:List Core,aR l=l.map aC
 | []=>by simp[aR]
 | c::l=>by rw[aR,bA l];rfl
theorem bX:∀l:List Bind,aU l=l.map bJ
 | []=>by simp[aU]
 | .mk s t c::l=>by rw[aU,bX l];rfl
theorem c8:∀l:List Alt,c9 l=l.map c6
 | []=>by simp[c9]
 | .mk f n s v c::l=>by rw[c9,c8 l];rfl
theorem gQ:∀l:List Ty,dQ l=l.map aO
 | []=>by simp[dQ]
 | c::l=>by rw[dQ,gQ l];rfl
theorem aDe (c:Core):iJ c=c.alts.map c6:=by cases c;rw[iJ,c8];rfl
def Fits {α:Type}(l:List α):Prop:=l.length≤1152921504606846976
theorem a2y (l:List Str) (s:Str) (hl:Fits l):aQ Tryz.prog 56 [.one (.c (.sl 1 (l.map bL))),Go.AM.T s] [] (B (decide (s∈l))) []:=by
 unfold Fits at hl;refine bM (n:=18) tok Tryz.func56 rfl rfl rfl ?_;refine sg rfl (a8 (sg rfl (aB (aK (fun k:Nat=>mk [(0,.one (.c (.sl 1 (l.map bL)))),(1,Go.AM.T s),(5,I .i64 k)] []) (fun k=>k≤l.length∧s∉l.take k) (fun k=>l.length-k) 0 ⟨Aj _,by simp⟩ (.list (fun i=>i) ⟨rfl,rfl,rfl,trivial⟩ trivial rfl) ?_))));intro k ⟨hk,hm⟩;refine a8 (sg rfl (aA rfl (fun hb=>?_) (fun hb=>?_)))
 ·refine aD ?_;have J:k<l.length:=by simpa using hb
  obtain⟨x,hx⟩:=aJ J;have W:=bO bL hx;refine a8 (aB (sgh [(2,.row k (bL x))] rfl (aA rfl (fun hb=>?_) (fun hb=>?_))))
  ·refine sg rfl (aF ?_);have q:x=s:=by simpa using hb
   have:s∈l:=by rw[←q];exact Ab hx
   exact⟨.inr rfl,⟨_,_,.tmp rfl .nil,.cons .refl .nil,by simp[aIq,this]⟩,trivial,rfl⟩
  ·refine aD (ag [] rfl ⟨k+1,⟨J,?_⟩,by dsimp only;omega,.list (fun i=>i) ⟨rfl,rfl,rfl,trivial⟩ trivial rfl⟩);rw[Bi,hx];have q:¬x=s:=by simpa using hb
   have N:¬s=x:=fun e=>q e.symm
   simp[hm,N]
 ·refine aL ?_;have O:k=l.length:=by
   have:¬k<l.length:=by simpa using hb
   omega
  refine sg rfl (aF ?_);rw[O,As] at hm;exact⟨.inr rfl,⟨_,_,.tmp rfl .nil,.cons .refl .nil,by simp[aIq,hm]⟩,trivial,rfl⟩
def vW (n k:Int):Int:=(if n<0 then -(n+1) else n)%k
def i64 (n:Int):Prop:= -9223372036854775808≤n∧n≤9223372036854775807
theorem aOe (n:Int) {k:Int}(hk:0<k):0≤vW n k∧vW n k<k:=⟨Int.emod_nonneg _ (by omega),Int.emod_lt_of_pos _ hk⟩
theorem aRq (n k:Int) (hn:i64 n) (hk:1≤k):aQ Tryz.prog 12 [I .i64 n,I .i64 k] [] (I .i64 (vW n k)) []:=by
 unfold i64 at hn;refine bM (n:=13) tok Tryz.func12 rfl rfl rfl ?_;refine sg rfl (a8 (sg rfl (aA rfl (fun hb=>?_) (fun hb=>?_))))
 ·have h0:n<0:=by simpa using hb
  exact ag [] rfl (sg rfl (aF ⟨.inr rfl,⟨_,_,.tmp rfl .nil,.cons .refl .nil,by simp[aIq,vW,h0]⟩,trivial,rfl⟩))
 ·have h0:¬n<0:=by simpa using hb
  exact aD (sg rfl (aF ⟨.inr rfl,⟨_,_,.tmp rfl .nil,.cons .refl .nil,by simp[aIq,vW,h0]⟩,trivial,rfl⟩))
def aO3 (n:Int):List C:=[.int .i64 n]
def nmL:List Str:=[[120],[121],[97],[98],[122,64,49]]
def aP6:List Str:=[[97,100,100],[115,117,98],[109,117,108],[100,105,118],[101,113],[108,116]]
def a3k:List Str:=[[97],[98],[99],[120]]
def tapp (a b:Ty):Ty:=.mk 4 0 [] [a,b]
def arrow:Str:=[45,62]
def bT (a b:Ty):Ty:=tapp (tapp (.mk 3 0 arrow []) a) b
theorem a0q (a b:Ty):aQ Tryz.prog 50 [.pa (aO a),.pa (aO b)] [] (.pa (aO (tapp a b))) []:=by
 obtain⟨f,n,s,l⟩:=a;obtain⟨f',q,s',l'⟩:=b;refine bM (n:=9) tok Tryz.func50 rfl rfl rfl ?_;refine sg rfl (sg rfl (AWp.sub (Sub.freeze (id:=7) rfl) (aF ?_)));exact⟨.inr rfl,⟨_,_,.cell rfl (tg rfl) rfl rfl rfl .nil,.cons (.agg (.c .refl (.c .refl (.c .refl (.hs rfl rfl rfl .nil))))) .nil,rfl⟩,trivial,rfl⟩
theorem tZ (a b:Ty):aQ Tryz.prog 19 [.pa (aO a),.pa (aO b)] [] (.pa (aO (bT a b))) []:=by
 obtain⟨f,n,s,l⟩:=a;obtain⟨f',q,s',l'⟩:=b;refine bM (n:=10) tok Tryz.func19 rfl rfl rfl ?_;refine sg rfl (sk 2 rfl (kc (a0q (.mk 3 0 arrow []) (.mk f n s l)) ?_));refine ak 1 [] rfl (kc (a0q (tapp (.mk 3 0 arrow []) (.mk f n s l)) (.mk f' q s' l')) ?_);exact kz 1 rfl (aF ⟨.inr rfl,⟨_,_,.cell rfl (tg rfl) rfl rfl rfl .nil,.cons .refl .nil,rfl⟩,trivial,rfl⟩)
def aW0 (l:List Int):Prop:=∀x∈l,i64 x
theorem aW0.suf {l l':List Int}(h:aW0 l) (hs:l'<:+l):aW0 l':=fun x hx=>h x (hs.subset hx)
theorem Fits.suf {l l':List Int}(h:Fits l) (hs:l'<:+l):Fits l':=by
 have:=hs.length_le;unfold Fits at *;omega
def fM:Ty:=.mk 3 0 [73,110,116] []
def tyV (t:Ty):V:=.pa (aO t)
def zTy:Ty:=.mk 0 0 [] []
theorem a0k (l:List Int) (k:Nat) (hf:Fits l) (hk:k≤1000):aQ Tryz.prog 21 [.one (.c (.sl 1 (l.map aO3))),I .i64 k] [] (.one (.c (.sl 1 ((l.take k).map aO3)))) []:=by
 unfold Fits at hf;refine bM (n:=14) tok Tryz.func21 rfl rfl rfl ?_;refine sg rfl (sg rfl (sk 6 rfl ?_));have hm:(if(k:Int)<(((l.map aO3).length:Nat):Int) then(k:Int) else(((l.map aO3).length:Nat):Int))=((min l.length k:Nat):Int):=by
  rw[θ];split<;>omega
 rw[hm];have ht:(l.map aO3).take (min l.length k)=(l.take k).map aO3:=by
  rw[←List.map_take];congr 1;by_cases h:k≤l.length
  ·rw[Nat.min_eq_right h]
  ·rw[B9 (by omega),A3 (le_refl _),A3 (by omega)]
 have hl:((l.map aO3).take (min l.length k)).length≤1000:=by rw[Aq];omega
 refine akN 3 [] rfl (az (AWp.sub (Sub.freeze (id:=13) rfl) (aF ?_))) (hc:=⟨by omega,by rw[θ];omega,by omega,trivial⟩);rw[←ht];exact⟨.inr rfl,⟨_,_,.tmp rfl .nil,.cons (.one (.hs rfl rfl (by rw[Cc,As]) .nil)) .nil,rfl⟩,trivial,rfl⟩
def aXc:Core:=.mk 0 0 [] zTy [] [] []
mutual
def bE:Core→Nat
 | .mk _ _ s _ ks bs al=>1+s.length+dS ks+iD bs+iF al
def dS:List Core→Nat
 | []=>0
 | c::l=>bE c+dS l
def bsize:Bind→Nat
 | .mk s _ c=>1+s.length+bE c
def iD:List Bind→Nat
 | []=>0
 | b::l=>bsize b+iD l
def yE:Alt→Nat
 | .mk _ _ s vs c=>1+s.length+(vs.map (fun v=>1+v.length)).sum+bE c
def iF:List Alt→Nat
 | []=>0
 | a::l=>yE a+iF l
end
theorem cD (c:Core):1≤bE c:=by cases c;rw[bE];omega
theorem pO:∀l:List Core,l.length≤dS l
 | []=>Aj _
 | c::l=>by rw[dS,Ak];have:=pO l;have:=cD c;omega
theorem mI:∀{l:List Core}{c:Core},c∈l→bE c≤dS l
 | d::l,c,h=>by
  rw[dS];rcases Ai.1 h with rfl | h
  ·omega
  ·have:=mI h;omega
theorem pT:∀l:List Bind,l.length≤iD l
 | []=>Aj _
 | .mk s t c::l=>by rw[iD,bsize,Ak];have:=pT l;omega
theorem vN:∀{l:List Bind}{c:Bind},c∈l→bsize c≤iD l
 | d::l,c,h=>by
  rw[iD];rcases Ai.1 h with rfl | h
  ·omega
  ·have:=vN h;omega
theorem pU:∀l:List Alt,l.length≤iF l
 | []=>Aj _
 | .mk f n s vs c::l=>by rw[iF,yE,Ak];have:=pU l;omega
theorem mJ:∀{l:List Alt}{c:Alt},c∈l→yE c≤iF l
 | d::l,c,h=>by
  rw[iF];rcases Ai.1 h with rfl | h
  ·omega
  ·have:=mJ h;omega
theorem dC {l:List Bind}{k:Nat}{x:Bind}(h:l[k]?=some x):(aU l)[k]?=some (bJ x):=by rw[bX];exact bO bJ h
theorem j0 {l:List Core}{k:Nat}{x:Core}(h:l[k]?=some x):(aR l)[k]?=some (aC x):=by rw[bA];exact bO aC h
theorem pL {l:List Alt}{k:Nat}{x:Alt}(h:l[k]?=some x):(c9 l)[k]?=some (c6 x):=by rw[c8];exact bO c6 h
theorem dY {α:Type}{l:List α}{k:Nat}{x:α}(h:l[k]?=some x):l.take (k+1)=l.take k++[x]:=by rw[Bi,h];rfl
def bR:List R:=[.c (.int .i64 0),.c (.int .i64 0),.c (.str []),.c (.int .i64 0),.c (.int .i64 0),.c (.str []),.c .nl,.c .nl,.c .nl,.c .nl]
def b8 (c:Core):List R:=(aC c).map R.c
theorem fN {f n:Int}{s:Str}{t:Ty}{ks:List Core}{bs:List Bind}{al:List Alt}:(∀x∈ks,bE x<bE (.mk f n s t ks bs al))∧(∀x∈bs,bE x.body<bE (.mk f n s t ks bs al))∧(∀x∈al,bE x.body<bE (.mk f n s t ks bs al))∧
  ks.length<bE (.mk f n s t ks bs al)∧bs.length<bE (.mk f n s t ks bs al)∧al.length<bE (.mk f n s t ks bs al):=by
 rw[bE];have q:=pO ks;have I:=pT bs;have J:=pU al;refine⟨fun x hx=>?_,fun x hx=>?_,fun x hx=>?_,by omega,by omega,by omega⟩
 ·have:=mI hx;omega
 ·have:=vN hx;obtain⟨s',t',c'⟩:=x;rw[bsize] at this;show bE c'<_;omega
 ·have:=mJ hx;obtain⟨f',N,s',v',c'⟩:=x;rw[yE] at this;show bE c'<_;omega
theorem yZ {α β:Type}(f:α→β) {l:List α}{i:Nat}{x:α}(h:l[i]?=some x):(l.take i).map f++[f x]=(l.take (i+1)).map f:=by rw[dY h,A4];rfl
end Go.Proofs.YtglfogjcijokpaaGreatDoor
namespace Go.AM
open Go Go.Proofs Go.Shelf
theorem aG5 {ro:Option Nat}{P:Program}{n:Nat}{kf:List Nat}{c:Code}{st:St}{Q:Exit→St→Prop}(t:Nat) {es:Nat}{l:List (List C)}(h:st.e t=some (.one (.c (.sl es l)))) (h1:l=[]→AWp ro P n kf c ⟨upd st.e t (some (.one (.c .nl))),st.h,st.d⟩ Q)
  (h2:AWp ro P n kf c ⟨upd st.e t (some (.one (.c (.sn es l)))),st.h,st.d⟩ Q):AWp ro P n kf c st Q:=by
 intro G S μ a w Q' J hs N;have hv:=hs.env t _ h
 have key:∀x:V,aT S μ st.h x (a.tmps.getD t undef)→Sim G n S μ ⟨upd st.e t (some x),st.h,st.d⟩ a w:=fun x hx=>⟨hs.inv,hs.size,hs.defers,fun s u e=>by
  by_cases q:s=t
  ·subst q;have:some x=some u:=by rw[←e];exact(aI _ _ _).symm
   cases this;exact hx
  ·exact hs.env s u (by rw[←e];exact(aS _ _ _ q).symm)⟩
 simp only[aT,b6,Rep] at hv;obtain⟨I,len,cap,O,e2,e3,e4,e5,e6,b,o,e7,e8⟩:=hv;cases I with
 | none=>
  obtain⟨e9,W⟩:=e5 rfl;have hl:l=[]:=A7 (by omega);exact h1 hl G S μ a w Q' J (key _ (by simp only[aT,b6,Rep];rw[O,e9,W])) N
 | some I=>
  obtain⟨b',o',sp⟩:=I;have Y:=e6 _ rfl;obtain⟨h7,Z⟩:=e7 _ rfl;dsimp only at Y h7 Z;subst h7 Z;exact h2 G S μ a w Q' J (key _ (by simp only[aT,b6,Rep];exact⟨b',o',sp,len,cap,O,e2,e3,e4,Y,e8⟩)) N
theorem aQu {P:Program}{ρ:Ren}{T:TT}{ei:TI}(L:Lays8.n4 P ρ) (O:Tok P T) (J:T[ρ.t 25]?=some (some ei)) (W:Nat.ble 1 ei.size=true) (k:Nat) (hk:k*ei.bytes≤140737488355328) (hk2:k≤140737488355328):
  aQ P (ρ.f 4) [.one (.c .nl),I .i64 (k:Int)] [] (.one (.hs 720 0 0 0)) [(720,.arr (ρ.t 25) ei.size [] 0)]:=by
 intro S μ w vals q hv;simp only[bG,aT,b6,Rep] at hv;obtain⟨v1,vs1,rfl,rfl,v2,vs2,rfl,rfl,rfl⟩:=hv;obtain⟨inf,dd,z,g1,g2,g3,g4,g5,g6,g7,g8⟩:=(O.get J).ex;have Y:z.cells.size=ei.size:=by
  have h1:=(iM (S:=S) g7).length;rw[(O.get J).len] at h1;simpa using h1
 have hid:look ([]:List (Nat×AObj)) 720=none:=rfl;by_cases h0:k=0
 ·subst h0;refine Calls.mono (Any8.slices_Grow_room L none 0 0 0 w (by omega) (by omega) (by omega) (by omega)) ?_;rintro e w' ⟨rfl,rfl⟩;obtain⟨hi,Z⟩:=q.empty (ρ.t 25) ei.size hid;refine⟨S,upd μ 720 none,_,rfl,?_,?_⟩
  ·rw[j9];exact hi
  ·rw[j9];simp only[aT,b6];exact⟨⟨_,_,_,rfl⟩,.inr ⟨_,_,[],0,aI _ _ _,le_refl _,fun _=>⟨le_refl _,.inl ⟨aI _ _ _,rfl,by first | rfl | trivial⟩⟩⟩⟩
 ·refine Calls.mono (Any8.slices_Grow_grow L inf z g1 g6 (by rw[g3];exact Ap W) none 0 0 k [] w (by omega) (by omega) (by rw[g4,A6];exact hk) (by omega) (by simp) (fun _=>rfl) (fun a h=>by cases h)) ?_;rintro e w' ⟨rfl,rfl⟩;simp only[A6,sub_zero];have aa:=grownCap_ge w k 0 (ρ.t 25);have N:=grownCap_le_maxLen w k 0 (ρ.t 25) (by unfold maxLen;omega);generalize grownCap w k 0 (ρ.t 25)=G at aa N ⊢;have hO:lW S (upd μ 720 (some (w.heap.size,0,G))) (upd (look []) 720 (some (.arr (ρ.t 25) ei.size [] 0))) (w.drew.alloc (.cells ((([]:List Value).toArray)++Builtin.zeroCells z.cells k++Builtin.zeroCells z.cells (G-k)) (ρ.t 25))) 720 (.arr (ρ.t 25) ei.size [] 0):=by
   refine⟨by simp,.inr ⟨w.heap.size,0,G,(([]:List Value).toArray++Builtin.zeroCells z.cells k++Builtin.zeroCells z.cells (G-k)).toList,aI _ _ _,B4 w.drew _,?_,Aj _,⟨N,qD q⟩,?_,fun _ o _=>fO q o,fun o _=>fO q o,fun e=>by cases e⟩⟩
   ·simp only[Ct,τ,A9,size_zeroCells,Y,A6,length_nil];rw[←Ay];exact Av _ (by omega)
   ·simp[cZ]
  have Z:Evolve S μ (look []) S (upd μ 720 (some (w.heap.size,0,G))) (upd (look []) 720 (some (.arr (ρ.t 25) ei.size [] 0))):=eI hid _ _;have hi:=q.chg (id:=720) (cap:=(0,G)) (WChg.alloc_drew w _) (.inl (le_refl _)) Z hO (fun o v e=>by rw[fO q] at e;cases e) (fun m e=>le_refl _);refine⟨S,upd μ 720 (some (w.heap.size,0,G)),_,rfl,?_,?_⟩
  ·rw[j9];exact hi
  ·rw[j9];simp only[aT,b6];exact⟨⟨_,_,_,rfl⟩,.inr ⟨_,_,[],0,aI _ _ _,le_refl _,fun _=>⟨le_refl _,.inr ⟨w.heap.size,0,G,aI _ _ _,by simp⟩⟩⟩⟩
end Go.AM
namespace Go.AM
open Go
def AObj.ren (σ:Nat→Nat):AObj→AObj
 | .var t cells=>.var t (R.renL σ cells)
 | .lp st j i e=>.lp st j i (aIr σ e)
 | .rarr te es l=>.rarr te es (mM σ l)
 | .tok r k=>.tok (r.ren σ) k
 | o=>o
def renH (σ:Nat→Nat) (hl:List (Nat×AObj)):List (Nat×AObj):=hl.map fun p=>(σ p.1,p.2.ren σ)
section
mutual
theorem R.ren_ren {σ:Nat→Nat}(hσ:∀i,σ (σ i)=i):∀r:R,(r.ren σ).ren σ=r
 | .c _=>rfl
 | .hs ..=>by simp[R.ren,hσ]
 | .tl ..=>by simp[R.ren,hσ]
 | .vp ..=>by simp[R.ren,hσ]
 | .ep ..=>by simp[R.ren,hσ]
 | .mr _=>by simp[R.ren,hσ]
 | .clo f caps=>by simp[R.ren,R.renL_renL hσ caps]
 | .mth f r=>by simp[R.ren,R.ren_ren hσ r]
 | .yl _=>by simp[R.ren,hσ]
 | .ra ..=>by simp[R.ren,hσ]
 | .rp ..=>by simp[R.ren,hσ]
 | .ras n es l=>by simp[R.ren,R.renL_renL hσ l]
 | .pas l=>by simp[R.ren,R.renL_renL hσ l]
theorem R.renL_renL {σ:Nat→Nat}(hσ:∀i,σ (σ i)=i):∀l:List R,R.renL σ (R.renL σ l)=l
 | []=>rfl
 | r::l=>by simp[R.renL,R.ren_ren hσ r,R.renL_renL hσ l]
end
mutual
theorem V.ren_ren {σ:Nat→Nat}(hσ:∀i,σ (σ i)=i):∀r:V,(r.ren σ).ren σ=r
 | .one r=>by simp[V.ren,R.ren_ren hσ r]
 | .pa _=>rfl
 | .ma l=>by simp[V.ren,R.renL_renL hσ l]
 | .tup l=>by simp[V.ren,V.renL_renL hσ l]
theorem V.renL_renL {σ:Nat→Nat}(hσ:∀i,σ (σ i)=i):∀l:List V,V.renL σ (V.renL σ l)=l
 | []=>rfl
 | r::l=>by simp[V.renL,V.ren_ren hσ r,V.renL_renL hσ l]
end
variable {σ:Nat→Nat}(hσ:∀i,σ (σ i)=i)
include hσ
theorem zI:∀l:List (Nat×V),aIr σ (aIr σ l)=l
 | []=>rfl
 | (t,v)::l=>by simp[aIr,V.ren_ren hσ v,zI l]
theorem zG:∀l:List (List R),mM σ (mM σ l)=l
 | []=>rfl
 | r::l=>by simp[mM,R.renL_renL hσ r,zG l]
theorem Ole.to_ren (o:AObj):Ole σ o (o.ren σ):=by
 cases o with
 | var t cells=>exact .var (R.renL_renL hσ cells).symm
 | lp st j i e=>exact .lp (zI hσ e).symm
 | rarr te es l=>exact .rarr (zG hσ l).symm
 | tok r k=>exact .tok (R.ren_ren hσ r).symm
 | arr=>exact .arr
 | map=>exact .map
 | dead=>exact .dead
 | dfr=>exact .dfr
end
theorem Ole.of_ren {σ:Nat→Nat}(o:AObj):Ole σ (o.ren σ) o:=by
 cases o with
 | var t cells=>exact .var rfl
 | lp st j i e=>exact .lp rfl
 | rarr te es l=>exact .rarr rfl
 | tok r k=>exact .tok rfl
 | arr=>exact .arr
 | map=>exact .map
 | dead=>exact .dead
 | dfr=>exact .dfr
mutual
theorem R.refs_ren {σ:Nat→Nat}:∀r:R,(r.ren σ).refs=r.refs.map σ
 | .c _=>rfl
 | .hs ..=>rfl
 | .tl ..=>rfl
 | .vp ..=>rfl
 | .ep ..=>rfl
 | .mr _=>rfl
 | .clo f caps=>by simp[R.ren,R.refs,R.refsL_ren caps]
 | .mth f r=>by simp[R.ren,R.refs,R.refs_ren r]
 | .yl _=>rfl
 | .ra ..=>rfl
 | .rp ..=>rfl
 | .ras n es l=>by simp[R.ren,R.refs,R.refsL_ren l]
 | .pas l=>by simp[R.ren,R.refs,R.refsL_ren l]
theorem R.refsL_ren {σ:Nat→Nat}:∀l:List R,R.refsL (R.renL σ l)=(R.refsL l).map σ
 | []=>rfl
 | r::l=>by simp[R.renL,R.refsL,R.refs_ren r,R.refsL_ren l]
end
mutual
theorem V.refs_ren {σ:Nat→Nat}:∀r:V,(r.ren σ).refs=r.refs.map σ
 | .one r=>by simp[V.ren,V.refs,R.refs_ren r]
 | .pa _=>rfl
 | .ma l=>by simp[V.ren,V.refs,R.refsL_ren l]
 | .tup l=>by simp[V.ren,V.refs,V.refsL_ren l]
theorem V.refsL_ren {σ:Nat→Nat}:∀l:List V,V.refsL (V.renL σ l)=(V.refsL l).map σ
 | []=>rfl
 | r::l=>by simp[V.renL,V.refsL,V.refs_ren r,V.refsL_ren l]
end
theorem zM {σ:Nat→Nat}:∀l:List (Nat×V),kL (aIr σ l)=(kL l).map σ
 | []=>rfl
 | (t,v)::l=>by simp[aIr,kL,V.refs_ren v,zM l]
theorem zK {σ:Nat→Nat}:∀l:List (List R),bY (mM σ l)=(bY l).map σ
 | []=>rfl
 | r::l=>by simp[mM,bY,R.refsL_ren r,zK l]
theorem AObj.refs_ren {σ:Nat→Nat}(o:AObj):(o.ren σ).refs=o.refs.map σ:=by
 cases o with
 | var t cells=>exact R.refsL_ren cells
 | lp st j i e=>exact zM e
 | rarr te es l=>exact zK l
 | tok r k=>exact R.refs_ren r
 | _=>rfl
structure RenH (σ:Nat→Nat) (H H':c7):Prop where
 to:∀i o,H (σ i)=some o→∃o',H' i=some o'∧Ole σ o o'
 of:∀i o',H' i=some o'→∃o,H (σ i)=some o∧Ole σ o o'
 cl:∀i o',H' i=some o'→∀j∈o'.refs,∃x,H' j=some x
theorem RenH.good {σ:Nat→Nat}{H H':c7}(h:RenH σ H H') {i:Nat}(hi:∃x,H' i=some x):Good H H' σ i:=by
 obtain⟨x,hx⟩:=hi;obtain⟨o,h1,h2⟩:=h.of i x hx;exact⟨o,x,h1,hx,h2⟩
theorem aPj {σ:Nat→Nat}{P:Prop}{a b c d:AObj}(h1:Ole σ a b) (h2:Ole σ c d) (h:a.succ P c):b.succ P d:=by
 cases h1<;>cases h2<;>simp only[AObj.succ] at h ⊢<;>try exact h
 ·rename_i q _ _ _ _ I;subst q I;simpa [eV] using h
theorem Inv.renH {σ:Nat→Nat}(hσ:∀i,σ (σ i)=i) {G:Ctx}{I H H':c7}{S:Sto}{μ:Mu}{w:World}(h:Inv G S μ H w) (h0:RenH σ G.h0 I) (q:RenH σ H H'):
  Inv { G with μ0:=fun i=>G.μ0 (σ i),h0:=I } S (fun i=>μ (σ i)) H' w:=by
 refine⟨h.holds,fun id o ho=>?_,fun i j o o' b c c' hi J hm N=>?_,fun i o b c hi hm=>?_,h.frame,h.sle,h.sto,⟨h.evo.le,fun id o ho=>?_⟩,h.fre⟩
 ·obtain⟨x,h1,h2⟩:=q.of id o ho;exact(h.obj _ _ h1).ren h2 fun j J=>q.good (q.cl id o ho j J)
 ·obtain⟨x,h1,_⟩:=q.of i o hi;obtain⟨y,h2,_⟩:=q.of j o' J;have:=h.inj _ _ _ _ b c c' h1 h2 hm N;rw[←hσ i,←hσ j,this]
 ·obtain⟨x,h1,_⟩:=q.of i o hi;exact h.own _ _ b c h1 hm
 ·obtain⟨x,h1,h2⟩:=h0.of id o ho;obtain⟨y,h3,h4⟩:=h.evo.obj _ _ h1;obtain⟨z,h5,O⟩:=q.to id y h3;exact⟨z,h5,aPj h2 O h4⟩
section
variable {σ:Nat→Nat}(hσ:∀i,σ (σ i)=i)
include hσ
theorem aWm (i k:Nat):Nat.beq (σ i) (σ k)=Nat.beq i k:=by
 cases h:Nat.beq i k with
 | true=>rw[ε h];exact B6 _
 | false=>
  cases q:Nat.beq (σ i) (σ k) with
  | false=>rfl
  | true=>
   have:=ε q;have e:i=k:=by rw[←hσ i,←hσ k,this]
   rw[e,B6] at h;cases h
theorem lC (i:Nat):∀hl:List (Nat×AObj),look (Go.AM.renH σ hl) (σ i)=(look hl i).map (AObj.ren σ)
 | []=>rfl
 | (k,o)::hl=>by
  have q:=lC i hl;simp only[Go.AM.renH,Al,look,aWm hσ] at q ⊢;split
  ·rfl
  ·exact q
theorem RenH.a {hl:List (Nat×AObj)}(hc:subset (cO hl) (keys hl)=true):RenH σ (look (Go.AM.renH σ hl)) (look hl):=by
 refine⟨fun i o h=>?_,fun i o h=>?_,fun i o h j q=>?_⟩
 ·rw[lC hσ] at h;cases hx:look hl i with
  | none=>rw[hx] at h;cases h
  | some x=>rw[hx] at h;cases h;exact⟨x,rfl,.of_ren x⟩
 ·exact⟨o.ren σ,by rw[lC hσ,h];rfl,.of_ren o⟩
 ·exact jA (bB hc j (iP (bH h) j q))
theorem RenH.b {hl:List (Nat×AObj)}(hc:subset (cO hl) (keys hl)=true):RenH σ (look hl) (look (Go.AM.renH σ hl)):=by
 have key:∀i,look (Go.AM.renH σ hl) i=(look hl (σ i)).map (AObj.ren σ):=fun i=>by
  have:=lC hσ (σ i) hl;rwa [hσ] at this
 refine⟨fun i o h=>⟨o.ren σ,by rw[key,h];rfl,.to_ren hσ o⟩,fun i o h=>?_,fun i o h j q=>?_⟩
 ·rw[key] at h;cases hx:look hl (σ i) with
  | none=>rw[hx] at h;cases h
  | some x=>rw[hx] at h;cases h;exact⟨x,rfl,.to_ren hσ x⟩
 ·rw[key] at h;cases hx:look hl (σ i) with
  | none=>rw[hx] at h;cases h
  | some x=>
   rw[hx] at h;cases h;rw[AObj.refs_ren] at q;obtain⟨k,hk,rfl⟩:=Af.1 q;obtain⟨y,I⟩:=jA (bB hc k (iP (bH hx) k hk));exact⟨y.ren σ,by rw[key,hσ,I];rfl⟩
theorem aQ.ren {P:Program}{f:FuncId}{args:List V}{hin hout:List (Nat×AObj)}{res:V}(h:aQ P f args hin res hout) (h1:subset (cO hin) (keys hin)=true) (h2:subset (V.refsL args) (keys hin)=true) (h3:subset (cO hout) (keys hout)=true) (h4:subset res.refs (keys hout)=true):
  aQ P f (V.renL σ args) (Go.AM.renH σ hin) (res.ren σ) (Go.AM.renH σ hout):=by
 intro S μ w vals N hv;have ra:=RenH.a hσ h1;have q:=N.renH hσ ra ra;have I:mL μ (look (Go.AM.renH σ hin))=mL (fun i=>μ (σ i)) (look hin):=by
  funext b;refine propext ⟨?_,?_⟩
  ·rintro⟨j,o,c,g1,g2⟩;obtain⟨o',g3,_⟩:=ra.to (σ j) o (by rw[hσ];exact g1);exact⟨σ j,o',c,g3,by show μ (σ (σ j))=_;rw[hσ];exact g2⟩
  ·rintro⟨j,o,c,g1,g2⟩;obtain⟨o',g3,_⟩:=ra.of j o g1;exact⟨σ j,o',c,g3,g2⟩
 rw[I] at q;have J:bG S (fun i=>μ (σ i)) (look hin) args vals:=bG.ren args vals (fun i hi=>ra.good (jA (bB h2 i hi))) hv;refine Calls.mono (h S (fun i=>μ (σ i)) w vals q J) ?_;rintro e w' ⟨S',μ',v,g1,g2,g3⟩;refine⟨S',fun i=>μ' (σ i),v,g1,?_,?_⟩
 ·have:=g2.renH hσ (RenH.b hσ h1) (RenH.b hσ h3);dsimp only at this;rw[I];simpa only[hσ] using this
 ·refine aT.ren (res.ren σ) v (fun i hi=>(RenH.b hσ h3).good ?_) (by rw[V.ren_ren hσ];exact g3);rw[V.refs_ren] at hi;obtain⟨k,hk,rfl⟩:=Af.1 hi;obtain⟨y,O⟩:=jA (bB h4 k hk);exact⟨y.ren σ,by rw[lC hσ,O];rfl⟩
end
def swp (a b i:Nat):Nat:=bif Nat.beq i a then b else bif Nat.beq i b then a else i
theorem aT6 (a b i:Nat):swp a b (swp a b i)=i:=by
 have hb:∀x y:Nat,(Nat.beq x y=true)↔x=y:=fun x y=>⟨ε,fun h=>by subst h;exact B6 _⟩
 unfold swp;cases h1:Nat.beq i a<;>cases h2:Nat.beq i b<;>simp only[Bo,Bs]
 ·rw[h1,h2];rfl
 ·cases h3:Nat.beq a a with
  | true=>simp only[Bo];exact((hb _ _).1 h2).symm
  | false=>rw[B6] at h3;cases h3
 ·cases h3:Nat.beq b a with
  | true=>simp only[Bo];rw[(hb _ _).1 h3,(hb _ _).1 h1]
  | false=>rw[B6];simp only[Bo,Bs];exact((hb _ _).1 h1).symm
 ·have q:=(hb _ _).1 h1;have I:=(hb _ _).1 h2;have J:b=a:=by rw[←I,q]
  rw[J,B6];simp only[Bo];exact q.symm
theorem aQ.swap (a b:Nat) {P:Program}{f:FuncId}{args:List V}{hin hout:List (Nat×AObj)}{res:V}(h:aQ P f args hin res hout) (h1:subset (cO hin) (keys hin)=true:=by rfl) (h2:subset (V.refsL args) (keys hin)=true:=by rfl) (h3:subset (cO hout) (keys hout)=true:=by rfl) (h4:subset res.refs (keys hout)=true:=by rfl):
  aQ P f (V.renL (swp a b) args) (renH (swp a b) hin) (res.ren (swp a b)) (renH (swp a b) hout):=h.ren (aT6 a b) h1 h2 h3 h4
end Go.AM
namespace Go.AM
open Go Go.Proofs
section
variable {P:Program}{n:Nat}{ops:Array Oper}{draw:Bool}{k d:Nat}{st:St}{pre:REs}{Q:St→Prop}{o:Oper}{f:FuncId}{xs:Array Operand}{ts:Array TypeId}{ids:List Nat}{args:List V}{res:V}{hin hout:List (Nat×AObj)}
theorem kcG {j t:Nat}{want b:Bool}(hf:aQ P f args hin res hout)
  (hk:kE P n ops draw (k+1) ⟨upd st.e d (some res),updL st.h (outs hout),st.d⟩ ((⟨t::dH xs.toList,ids++keys hin++keys hout⟩,⟨some (d,some res),outs hout⟩)::pre) Q)
  (hb:eG P f:=by exact rH (by kernel_rfl)) (ho:ops[k]?=some o:=by rfl) (N:o.guard=some (j,want):=by rfl) (O:(ops[j]?).bind (·.dst)=some t:=by rfl) (q:st.e t=some (.one (.c (.bool b))):=by rfl) (hw:b=want:=by first | rfl | assumption) (I:o.op=.call { callee:=.value (.func f),args:=xs,argTypes:=ts }:=by rfl) (hd:o.dst=some d:=by rfl) (J:Nat.blt d n=true:=by rfl)
  (ha:ArgsV st ids xs.toList args:=by repeat (first | exact .nil | (apply Go.AM.ArgsV.cons rfl;(first | exact .refl | exact .one (.c .nl .nil) | exact .one (.c .sn .nil) | exact .one (.hs rfl (by first | rfl | simp) (by first | rfl | (simp;done) | (simp[Go.AM.take_map];done) | exact Go.AM.take_map.symm) .nil) | exact Go.AM.hs_all rfl rfl (by first | rfl | assumption | (simp;done) | (simp;omega)) (by first | rfl | assumption | (simp;done)) | ((first | apply Go.AM.Conv.pa | apply Go.AM.Conv.agg);repeat (first | exact .nil | apply Go.AM.PureL.c .refl | apply Go.AM.PureL.c .nl | apply Go.AM.PureL.c .sn | (apply Go.AM.PureL.hs;rfl;(first | rfl | simp);(first | rfl | (simp;done) | (simp[Go.AM.take_map];done) | exact Go.AM.take_map.symm))))))))
  (hin':dM (fun p=>st.h p.1=some p.2) hin:=by repeat (first | exact trivial | refine⟨rfl,?_⟩)) (hout':dM (fun p=>p.1∈keys hin∨st.h p.1=none) hout:=by repeat (first | exact trivial | refine⟨.inr rfl,?_⟩ | refine⟨.inl (by decide),?_⟩ | refine⟨.inl (by repeat (first | exact List.Mem.head _ | apply List.Mem.tail)),?_⟩)) (hok:callOk args hin=true:=by rfl):kE P n ops draw k st pre Q:=
 k_ (GStep.yes ho N O q hw (aKq hin hout hb I hd (iE J) hf ha hin' hout' hok)) hk
end
end Go.AM
namespace Go.Proofs.YtglfogjcijokpaaGreatDoor
open Go Go.AM
set_option maxRecDepth 20000
def bI (l:List Str):V:=.one (.c (.sl 1 (l.map bL)))
theorem mV (l:List (List C)) (h:l.length≤600000000000):aQ Tryz.prog 45 [.one (.c (.sl 1 l))] [] (.one (.hs 710 0 l.length l.length)) [(710,.arr 9 1 l 0)]:=by
 refine bM (n:=8) tok Tryz.func45 rfl rfl rfl ?_;refine sg rfl (aG5 0 rfl (fun hl=>?_) ?_)
 ·subst hl;refine a8 (sg rfl (aA rfl (fun _=>sg rfl (AWp.sub (Sub.own (t:=2) (id:=710) 9 1 rfl rfl) ?_)) nofun));exact aF rtT
 ·refine a8 (sg rfl (aA rfl nofun (fun _=>aD (sgh [(0,.id 710)] rfl (AWp.sub (st2:=mk [(2,.one (.hs 710 0 l.length l.length))] [(710,.arr 9 1 l 0)]) sl ?_)))));exact aF rtT
theorem yA (l:List (List C)) (h:l.length≤600000000000):aQ Tryz.prog 128 [.one (.c (.sl 15 l))] [] (.one (.hs 701 0 l.length l.length)) [(701,.arr 69 15 l 0)]:=by
 refine bM (n:=8) tok Tryz.func128 rfl rfl rfl ?_;refine sg rfl (aG5 0 rfl (fun hl=>?_) ?_)
 ·subst hl;refine a8 (sg rfl (aA rfl (fun _=>sg rfl (AWp.sub (Sub.own (t:=2) (id:=701) 69 15 rfl rfl) ?_)) nofun));exact aF rtT
 ·refine a8 (sg rfl (aA rfl nofun (fun _=>aD (sgh [(0,.id 701)] rfl (AWp.sub (st2:=mk [(2,.one (.hs 701 0 l.length l.length))] [(701,.arr 69 15 l 0)]) sl ?_)))));exact aF rtT
theorem oR (l:List (List C)) (h:l.length≤600000000000):aQ Tryz.prog 96 [.one (.c (.sl 10 l))] [] (.one (.hs 702 0 l.length l.length)) [(702,.arr 34 10 l 0)]:=by
 refine bM (n:=8) tok Tryz.func96 rfl rfl rfl ?_;refine sg rfl (aG5 0 rfl (fun hl=>?_) ?_)
 ·subst hl;refine a8 (sg rfl (aA rfl (fun _=>sg rfl (AWp.sub (Sub.own (t:=2) (id:=702) 34 10 rfl rfl) ?_)) nofun));exact aF rtT
 ·refine a8 (sg rfl (aA rfl nofun (fun _=>aD (sgh [(0,.id 702)] rfl (AWp.sub (st2:=mk [(2,.one (.hs 702 0 l.length l.length))] [(702,.arr 34 10 l 0)]) sl ?_)))));exact aF rtT
theorem aAz (l:List (List C)) (h:l.length≤600000000000):aQ Tryz.prog 129 [.one (.c (.sl 14 l))] [] (.one (.hs 703 0 l.length l.length)) [(703,.arr 71 14 l 0)]:=by
 refine bM (n:=8) tok Tryz.func129 rfl rfl rfl ?_;refine sg rfl (aG5 0 rfl (fun hl=>?_) ?_)
 ·subst hl;refine a8 (sg rfl (aA rfl (fun _=>sg rfl (AWp.sub (Sub.own (t:=2) (id:=703) 71 14 rfl rfl) ?_)) nofun));exact aF rtT
 ·refine a8 (sg rfl (aA rfl nofun (fun _=>aD (sgh [(0,.id 703)] rfl (AWp.sub (st2:=mk [(2,.one (.hs 703 0 l.length l.length))] [(703,.arr 71 14 l 0)]) sl ?_)))));exact aF rtT
def yN (s:Str):List Str→Int→Int
 | [],_=> -1
 | x::l,k=>if s=x then k else yN s l (k+1)
theorem xQ (s:Str):∀(l:List Str) (k:Int),0≤k→(decide (0≤yN s l k)=decide (s∈l))
 | [],k,_=>by simp[yN]
 | x::l,k,hk=>by
  rw[yN];split
  ·rename_i h;subst h;simp[hk]
  ·rename_i h;rw[xQ s l (k+1) (by omega)];simp[h]
theorem aNn (l:List Str) (s:Str) (h:l.length≤600000000000):aQ Tryz.prog 63 [bI l,Go.AM.T s] [] (I .i64 (yN s l 0)) []:=by
 refine bM (n:=19) tok Tryz.func63 rfl rfl rfl ?_;refine sg rfl (a8 (sg rfl ?_));have J:(l.map bL).length=l.length:=θ _;refine aB (aK (fun i:Nat=>mk [(0,bI l),(1,Go.AM.T s),(7,I .i64 ((l.map bL).length:Int)),(8,I .i64 i)] []) (fun i=>i≤l.length∧yN s l 0=yN s (l.drop i) i) (fun i=>l.length-i) 0 ⟨Aj _,rfl⟩ sl ?_);intro i ⟨hi,he⟩;refine sg rfl (a8 (aA rfl (fun hb=>?_) (fun hb=>?_)))
 ·have q:=ltD hb J;obtain⟨x,hx⟩:=aJ q;have O:=bO bL hx;have hd:l.drop i=x::l.drop (i+1):=by rw[Bp q,(Aa.1 hx).2]
  rw[hd,yN] at he;refine aD (a8 (aB (sg rfl (sgh [(3,.row i (bL x))] rfl (aA rfl (fun hb=>?_) (fun hb=>?_))))))
  ·have hs:s=x:=ψ hb;rw[ξ hs] at he;rw[he];exact sg rfl (aF rtT)
  ·have hs:¬s=x:=χ hb;rw[φ hs] at he;exact aD (ag [] rfl ⟨i+1,⟨q,he⟩,by dsimp only;omega,sl⟩)
 ·have N:=geD hb J hi;subst N;rw[Cy,yN] at he;rw[he];exact aL (sg rfl (aF rtT))
theorem bS (l:List Str) (s:Str) (h:l.length≤600000000000):aQ Tryz.prog 75 [bI l,Go.AM.T s] [] (B (decide (s∈l))) []:=by
 have hi:=aNn l s h;refine bM (n:=9) tok Tryz.func75 rfl rfl rfl ?_;refine sg rfl (sgh [(2,.pc (I .i64 (yN s l 0)))] rfl ?_);rw[←xQ s l 0 (by omega)];exact aF rtT
def aS7 {α:Type}(p:α→Bool):List α→Nat→Int
 | [],_=> -1
 | x::l,i=>if p x then(i:Int) else aS7 p l (i+1)
theorem aL9 {α:Type}(p:α→Bool):∀(l:List α) (i:Nat),decide (aS7 p l i≥0)=l.any p
 | [],_=>rfl
 | x::l,i=>by
  rw[aS7,List.any_cons];cases h:p x
  ·rw[φ (by simp),aL9 p l];rfl
  ·rw[ξ rfl,Bool.true_or];simp
theorem aIy (a:Alt):a.vars.length≤yE a:=by
 obtain⟨f,n,s,v,c⟩:=a;rw[yE];have:∀l:List Str,l.length≤(l.map fun v=>1+v.length).sum:=by
  intro l
  induction l with
  | nil=>simp
  | cons x l q=>rw[Al,Ce,Ak];omega
 have:=this v;show v.length≤_;omega
def a2f (l:List Int):V:=.one (.c (.sl 1 (l.map aO3)))
end Go.Proofs.YtglfogjcijokpaaGreatDoor
namespace Go.AM
open Go
inductive CsLe:List C→List C→Prop
 | nil:CsLe [] []
 | cons {c c':C} {l l':List C} (h0:Cle c c') (h:CsLe l l'):CsLe (c::l) (c'::l')
inductive RowsLe:List (List C)→List (List C)→Prop
 | nil:RowsLe [] []
 | cons {r r':List C} {l l':List (List C)} (h:CsLe r r') (k:RowsLe l l'):RowsLe (r::l) (r'::l')
theorem CsLe.refl:∀l:List C,CsLe l l
 | []=>.nil
 | _::l=>.cons .refl (CsLe.refl l)
theorem CsLe.length {l l':List C}(h:CsLe l l'):l'.length=l.length:=by
 induction h with
 | nil=>rfl
 | cons h0 h q=>simp[q]
theorem CsLe.rep {S:Sto}{l l':List C}(h:CsLe l l'):∀{vs:List Value},cZ S l vs→cZ S l' vs:=by
 induction h with
 | nil=>exact fun k=>k
 | cons h0 h q=>
  intro vs k;simp only[cZ] at k ⊢;obtain⟨v,vs',rfl,h1,h2⟩:=k;exact⟨v,vs',rfl,h0.rep h1,q h2⟩
theorem CsLe.app {a q b I:List C}(h:CsLe a q) (k:CsLe b I):CsLe (a++b) (q++I):=by
 induction h with
 | nil=>exact k
 | cons h0 h J=>exact .cons h0 J
theorem RowsLe.flat {l l':List (List C)}(h:RowsLe l l'):CsLe l.flatten l'.flatten:=by
 induction h with
 | nil=>exact .nil
 | cons h k q=>simp only[Bf];exact h.app q
theorem RowsLe.length {l l':List (List C)}(h:RowsLe l l'):l'.length=l.length:=by
 induction h with
 | nil=>rfl
 | cons h k q=>simp[q]
theorem RowsLe.rows {l l':List (List C)}(h:RowsLe l l') {n:Nat}:(∀r∈l,r.length=n)→∀r∈l',r.length=n:=by
 induction h with
 | nil=>exact fun h=>h
 | cons h k I=>
  intro hl r q;rcases Ai.1 q with rfl | q
  ·rw[h.length];exact hl _ η
  ·exact I (fun x hx=>hl x (ω _ hx)) r q
theorem Sub.arrWeak {kf:List Nat}{st:St}{x te es fz:Nat}{rows q:List (List C)}(h:st.h x=some (.arr te es rows fz)) (hp:RowsLe rows q):Sub kf ⟨st.e,upd st.h x (some (.arr te es q fz)),st.d⟩ st:=by
 intro G n S μ a w _ hs;have hi:=hs.inv;have ho:=hi.obj x _ h
 have N:Evolve S μ st.h S μ (upd st.h x (some (.arr te es q fz))):=⟨S.le_refl,fun j y J=>by
  by_cases I:j=x
  ·subst I;rw[h] at J;cases J;exact⟨_,aI _ _ _,by simp[AObj.succ,hp.length]⟩
  ·exact⟨y,by rw[aS _ _ _ I];exact J,y.succ_refl rfl⟩⟩
 have hold:∀j y,upd st.h x (some (.arr te es q fz)) j=some y→∃y',st.h j=some y':=fun j y J=>by
  by_cases I:j=x
  ·subst I;exact⟨_,h⟩
  ·rw[aS _ _ _ I] at J;exact⟨_,J⟩
 refine⟨S,μ,⟨⟨hi.holds,fun j y J=>?_,fun i j y y' b c c' O J hm Y=>?_,fun i y b c O hm=>?_,hi.frame,hi.sle,hi.sto,hi.evo.trans N,hi.fre⟩,hs.size,hs.defers.evolve N,fun s v e=>aT.evolve N v _ (hs.env s v e)⟩⟩
 ·by_cases I:j=x
  ·subst I;have W:some (AObj.arr te es q fz)=some y:=by rw[←J];exact(aI _ _ _).symm
   cases W;obtain⟨g0,g⟩:=ho;refine⟨hp.rows g0,?_⟩;rcases g with⟨g1,g2⟩ | ⟨b,base,cap,vs,g1,g2,g3,g4,g5,g6,g7,g8,g9⟩
   ·subst g2;cases hp;exact .inl ⟨g1,rfl⟩
   ·refine .inr ⟨b,base,cap,vs,g1,g2,g3,by rw[hp.length];exact g4,g5,?_,g7,?_,?_⟩
    ·rw[hp.length];exact hp.flat.rep g6
    ·rw[hp.length];exact g8
    ·rw[hp.length];exact g9
  ·have W:st.h j=some y:=by rw[←J];exact(aS _ _ _ I).symm
   exact(hi.obj j y W).evolve N rfl fun _ _ _=>⟨rfl,fun _=>rfl,rfl⟩
 ·obtain⟨_,h1⟩:=hold _ _ O;obtain⟨_,h2⟩:=hold _ _ J;exact hi.inj i j _ _ b c c' h1 h2 hm Y
 ·obtain⟨_,h1⟩:=hold _ _ O;exact hi.own i _ b c h1 hm
theorem aw {kf:List Nat}{st:St}(x:Nat) {te es fz:Nat}{rows:List (List C)}(q:List (List C)) (h:st.h x=some (.arr te es rows fz):=by rfl)
  (hp:RowsLe rows q:=by repeat (first | exact .nil | apply Go.AM.RowsLe.cons | apply Go.AM.CsLe.cons .refl | apply Go.AM.CsLe.cons .nl)):Sub kf ⟨st.e,upd st.h x (some (.arr te es q fz)),st.d⟩ st:=Sub.arrWeak h hp
end Go.AM
namespace Go.Proofs.YtglfogjcijokpaaGreatDoor
open Go Go.AM
set_option maxRecDepth 20000
mutual
def tn:Ty→Nat
 | .mk _ _ s a=>1+s.length+tns a
def tns:List Ty→Nat
 | []=>0
 | t::l=>tn t+tns l
end
theorem kF (t:Ty):1≤tn t:=by cases t;rw[tn];omega
theorem aJh:∀l:List Ty,l.length≤tns l
 | []=>Aj _
 | t::l=>by rw[tns,Ak];have:=aJh l;have:=kF t;omega
theorem kQ:∀{l:List Ty}{t:Ty},t∈l→tn t≤tns l
 | u::l,t,h=>by
  rw[tns];rcases Ai.1 h with rfl | h
  ·omega
  ·have:=kQ h;omega
theorem aAr (t:Ty) (ht:t.args.length≤1000000) (N:∀u∈t.args,aQ Tryz.prog 64 [tyV u] [] (tyV u) []):aQ Tryz.prog 64 [tyV t] [] (tyV t) []:=by
 obtain⟨f,n,s,a⟩:=t;have N:∀u∈a,aQ Tryz.prog 64 [tyV u] [] (tyV u) []:=N;have Z:a.length≤1000000:=ht;have q:(dQ a).length=a.length:=by rw[gQ,θ]
 refine bM (n:=22) tok Tryz.func64 rfl rfl rfl ?_;refine sg rfl (sg rfl (AWp.sub (Sub.own (t:=3) (id:=600) 30 4 rfl rfl) ?_));refine a8 (sg rfl (aB (aK (fun i:Nat=>mk [(1,.one (.vp 1 0)),(2,.one (.vp 2 0)),(3,.one (.hs 600 0 ((dQ a).take i).length ((dQ a).take i).length)),(7,.one (.c (.sl 4 (dQ a)))),(8,I .i64 ((dQ a).length:Int)),(9,I .i64 i)] [(600,.arr 30 4 ((dQ a).take i) 0),(1,.var 30 ((aO (.mk f n s a)).map R.c)),(2,.var 30 [.c (.int .i64 0),.c (.int .i64 0),.c (.str []),.c .nl])]) (fun i=>i≤a.length) (fun i=>a.length-i) 0 (Aj _) sl ?_)));intro i hi;have aa:((dQ a).take i).length=i:=by rw[Aq];omega
 refine sg rfl (a8 (aA rfl (fun hb=>?_) (fun hb=>?_)))
 ·have J:=ltD hb q;obtain⟨u,hu⟩:=aJ J;have O:(dQ a)[i]?=some (aO u):=by rw[gQ];exact bO aO hu
  have hc:=N u (Ab hu);have W:(dQ a).take (i+1)=(dQ a).take i++[aO u]:=by rw[Bi,O];rfl
  refine aD (a8 (aB (sgh [(0,.row i (aO u))] rfl (aE mixed (ak 2 [] rfl (kc hc ?_))))));refine ak 3 [(3,.all)] rfl (az (ag [] rfl ⟨i+1,J,by dsimp only;omega,?_⟩));dsimp only;rw[W];exact sl
 have Y:=geD hb q hi;subst Y;rw[show(dQ a).take a.length=dQ a by rw[←q,As]];refine aL (AWp.sub (Sub.freeze (id:=600) rfl) ?_);refine sg rfl (AWp.sub (vp 1 (aO (.mk f n s a))) ?_);exact sg rfl (aF (rtC trw))
mutual
def wfS:Ty→Bool
 | .mk f n s a=>(if f=4 then decide (n=0∧s=[]∧a.length=2) else if f=5 then decide (n=0∧a.length=1) else a.isEmpty)&&wC a
def wC:List Ty→Bool
 | []=>true
 | t::l=>wfS t&&wC l
end
theorem aD2:∀{l:List Ty}{t:Ty},wC l=true→t∈l→wfS t=true
 | u::l,t,h,ht=>by
  rw[wC,Ac] at h;rcases Ai.1 ht with rfl | ht
  ·exact h.1
  ·exact aD2 h.2 ht
theorem nH {f n:Int}{s:Str}{a:List Ty}(h:wfS (.mk f n s a)=true):a.length≤2∧(∀u∈a,wfS u=true)∧(f=4→n=0∧s=[]∧∃u v,a=[u,v])∧(f=5→n=0∧∃u,a=[u])∧(¬f=4→¬f=5→a=[]):=by
 rw[wfS,Ac] at h;obtain⟨h1,h2⟩:=h;refine⟨?_,fun u hu=>aD2 h2 hu,fun h4=>?_,fun h5=>?_,fun h4 h5=>?_⟩
 ·split at h1
  ·exact le_of_eq (ψ h1).2.2
  ·split at h1
   ·rw[(ψ h1).2];omega
   ·rw[List.isEmpty_iff.1 h1];simp
 ·rw[ξ h4] at h1;obtain⟨q,a2,a3⟩:=ψ h1
  match a,a3 with
  | [u,v],_=>exact⟨q,a2,u,v,rfl⟩
 ·rw[φ (by omega),ξ h5] at h1;obtain⟨q,a2⟩:=ψ h1;exact⟨q,Bt.1 a2⟩
 ·rw[φ h4,φ h5] at h1;exact List.isEmpty_iff.1 h1
theorem kC:∀(k:Nat) (t:Ty),tn t≤k→wfS t=true→aQ Tryz.prog 64 [tyV t] [] (tyV t) []
 | 0,t,h,_=>by have:=kF t;omega
 | k+1,t,h,hw=>by
  obtain⟨f,n,s,a⟩:=t;obtain⟨h1,h2,_⟩:=nH hw;exact aAr (.mk f n s a) (show a.length≤_ by omega) fun u hu=>kC k u (by have hu:u∈a:=hu;have:=kQ hu;rw[tn] at h;omega) (h2 u hu)
theorem y1 (a b:Ty):aQ Tryz.prog 65 [tyV a,tyV b] [] (tyV (tapp a b)) []:=by
 refine bM (n:=9) tok Tryz.func65 rfl rfl rfl ?_;exact sg rfl (sgh [(2,.all)] rfl (aF (rtC trw)))
theorem aM7 (s:Str):aQ Tryz.prog 48 [Go.AM.T s] [] (tyV (.mk 2 0 s [])) []:=by
 refine bM (n:=5) tok Tryz.func48 rfl rfl rfl ?_;exact sg rfl (sg rfl (aF (rtC trw)))
def hJ (f:Int) (s:Str) (o:List Str) (x:Str):List Str:=if ¬x∈o∧(¬f=5∨¬x=s) then o++[x] else o
def uG (f:Int) (s:Str) (o:List Str) (l:List Str):List Str:=l.foldl (hJ f s) o
mutual
def tfR:Ty→List Str
 | .mk f _ s a=>if f=2 then [s] else oY f s a []
def oY (f:Int) (s:Str):List Ty→List Str→List Str
 | [],o=>o
 | t::l,o=>oY f s l (uG f s o (tfR t))
end
def tfL (f:Int) (s:Str) (l:List Ty) (o:List Str):List Str:=l.foldl (fun o t=>uG f s o (tfR t)) o
theorem aB6 (f:Int) (s:Str):∀(l:List Ty) (o:List Str),oY f s l o=tfL f s l o
 | [],o=>by rw[oY];rfl
 | t::l,o=>by rw[oY,aB6 f s l];rfl
theorem aJl (f:Int) (s:Str) (o:List Str) (x:Str):(hJ f s o x).length≤o.length+1:=by
 unfold hJ;split
 ·simp
 ·omega
theorem r3 (f:Int) (s:Str):∀(l o:List Str),(uG f s o l).length≤o.length+l.length
 | [],o=>le_refl _
 | x::l,o=>by
  have h1:=r3 f s l (hJ f s o x);have h2:=aJl f s o x;show(uG f s (hJ f s o x) l).length≤_;rw[Ak];omega
mutual
theorem aJi:∀t:Ty,(tfR t).length≤tn t
 | .mk f n s a=>by
  rw[tfR,tn];split
  ·simp;omega
  ·have:=aB5 f s a [];simp only[length_nil] at this;omega
theorem aB5 (f:Int) (s:Str):∀(l:List Ty) (o:List Str),(oY f s l o).length≤o.length+tns l
 | [],o=>by rw[oY,tns];exact le_refl _
 | t::l,o=>by
  rw[oY,tns];have h1:=aB5 f s l (uG f s o (tfR t));have h2:=r3 f s (tfR t) o;have h3:=aJi t;omega
end
theorem aJo {f:Int}{s:Str}{o l:List Str}{j:Nat}{x:Str}(h:l[j]?=some x):uG f s o (l.take (j+1))=hJ f s (uG f s o (l.take j)) x:=by
 unfold uG;rw[Bi,h,Bu];rfl
theorem aPf {f:Int}{s:Str}{o:List Str}{l:List Ty}{j:Nat}{x:Ty}(h:l[j]?=some x):tfL f s (l.take (j+1)) o=uG f s (tfL f s (l.take j) o) (tfR x):=by
 unfold tfL;rw[Bi,h,Bu];rfl
theorem aEr:∀(l:List Ty) (i:Nat),tns (l.take i)≤tns l
 | [],i=>by simp
 | t::l,0=>by rw[Cb,tns];omega
 | t::l,i+1=>by rw[Ar,tns,tns];have:=aEr l i;omega
theorem oK (t:Ty) (ht:t.args.length≤1000000000) (hL:∀i,(tfL t.form t.name (t.args.take i) []).length≤1000000000) (hU:∀u∈t.args,(tfR u).length≤1000000000) (ih:∀u∈t.args,aQ Tryz.prog 78 [tyV u] [] (bI (tfR u)) []):aQ Tryz.prog 78 [tyV t] [] (bI (tfR t)) []:=by
 obtain⟨f,n,s,a⟩:=t;have hal:a.length≤1000000000:=ht;have hL:∀i,(tfL f s (a.take i) []).length≤1000000000:=hL;have hU:∀u∈a,(tfR u).length≤1000000000:=hU;have ih:∀u∈a,aQ Tryz.prog 78 [tyV u] [] (bI (tfR u)) []:=ih;have ad:(dQ a).length=a.length:=by rw[gQ,θ]
 rw[tfR];refine bM (n:=50) tok Tryz.func78 rfl rfl rfl ?_;refine sg rfl (a8 (sg rfl (aA rfl (fun hb=>?_) (fun hb=>?_))))
 ·have h2:f=2:=ψ hb;rw[ξ h2];exact sgh [(2,.all)] rfl (aF rtT)
 ·have h2:¬f=2:=χ hb;rw[φ h2,aB6] at *;refine aD (sg rfl (AWp.sub (Sub.own (t:=3) (id:=600) 9 1 rfl rfl) (AWp.sub (Sub.freeze (id:=600) rfl) ?_)));refine a8 (sg rfl (aB (aK (fun i:Nat=>mk [(1,.one (.vp 1 0)),(3,.one (.hs 600 0 (tfL f s (a.take i) []).length (tfL f s (a.take i) []).length)),(15,.one (.c (.sl 4 (dQ a)))),(16,I .i64 ((dQ a).length:Int)),(17,I .i64 i)] [(600,.arr 9 1 ((tfL f s (a.take i) []).map bL) 2),(1,.var 30 ((aO (.mk f n s a)).map R.c))]) (fun i=>i≤a.length) (fun i=>a.length-i) 0 (Aj _) sl ?_)));intro i hi;refine sg rfl (a8 (aA rfl (fun hb=>?_) (fun hb=>?_)))
  ·have ae:=ltD hb ad;obtain⟨u,hu⟩:=aJ ae;have hu':(dQ a)[i]?=some (aO u):=by rw[gQ];exact bO aO hu
   have hm:=Ab hu;have hc:=ih u hm;have hul:=hU u hm;have Z:=aPf (f:=f) (s:=s) (o:=[]) hu;have hol:=hL i;generalize tfL f s (a.take i) []=o at Z hol ⊢;have aa:((tfR u).map bL).length=(tfR u).length:=θ _;generalize tfR u=J at hc hul Z aa;refine aD (a8 (aB (sgh [(0,.row i (aO u))] rfl (sk 1 rfl (kc hc ?_)))));refine kz 2 rfl (aB (aK (fun j:Nat=>mk [(1,.one (.vp 1 0)),(3,.one (.hs 600 0 (uG f s o (J.take j)).length (uG f s o (J.take j)).length)),(15,.one (.c (.sl 4 (dQ a)))),(16,I .i64 ((dQ a).length:Int)),(17,I .i64 i),(22,bI J),(23,I .i64 ((J.map bL).length:Int)),(24,I .i64 j)] [(600,.arr 9 1 ((uG f s o (J.take j)).map bL) 2),(1,.var 30 ((aO (.mk f n s a)).map R.c))]) (fun j=>j≤J.length) (fun j=>J.length-j) 0 (Aj _) sl ?_));intro j hj;refine sg rfl (a8 (aA rfl (fun hb=>?_) (fun hb=>?_)))
   ·have N:=ltD hb aa;obtain⟨x,hx⟩:=aJ N;have hx':=bO bL hx;have O:=aJo (f:=f) (s:=s) (o:=o) hx;have hpl:(uG f s o (J.take j)).length≤2000000000:=by
     have:=r3 f s (J.take j) o;rw[Aq] at this;omega
    generalize uG f s o (J.take j)=q at O hpl ⊢;have W:=bS q x (by omega);have hkq:(q.map bL).length=q.length:=θ _;refine aD (a8 (aB (sgh [(0,.row j (bL x))] rfl ?_)));by_cases Y:x∈q
    ·rw[Ah Y] at W;have he:hJ f s q x=q:=by unfold hJ;rw[φ (fun h=>h.1 Y)]
     refine sk 2 rfl (kc W ?_);refine kz 12 rfl (aA rfl nofun (fun _=>aD (ag [] rfl ⟨j+1,N,by dsimp only;omega,?_⟩)));dsimp only;rw[O,he];exact sl
    rw[Am Y] at W;by_cases h5:f=5
    ·have d5:decide (f=5)=true:=Ah h5;have d5':(!decide (f=5))=false:=by rw[d5];rfl
     refine sk 2 rfl (kc W ?_);refine ak 12 [(8,.bv false),(13,.bv false)] rfl (az (aA rfl (fun hb=>?_) (fun hb=>?_)))
     ·have ab:¬x=s:=by simp at hb;exact hb
      have he:hJ f s q x=q++[x]:=by unfold hJ;rw[ξ ⟨Y,.inr ab⟩]
      refine ag [(2,.all)] rfl (AWp.sub (Sub.freeze (id:=600) rfl) ?_);refine ag [] rfl ⟨j+1,N,by dsimp only;omega,?_⟩;dsimp only;rw[O,he];exact sl (hh:=⟨⟨_,rfl,.arrS (by rw[A4];rfl)⟩,⟨_,rfl,.var rfl⟩,trivial⟩)
     ·have ab:x=s:=by simp at hb;exact hb
      have he:hJ f s q x=q:=by unfold hJ;rw[φ (fun h=>h.2.elim (fun h=>h h5) (fun h=>h ab))]
      refine aD (ag [] rfl ⟨j+1,N,by dsimp only;omega,?_⟩);dsimp only;rw[O,he];exact sl
    ·have d5:decide (f=5)=false:=Am h5;have d5':(!decide (f=5))=true:=by rw[d5];rfl
     have he:hJ f s q x=q++[x]:=by unfold hJ;rw[ξ ⟨Y,.inl h5⟩]
     refine sk 2 rfl (kc W ?_);refine ak 12 [(8,.bv true),(13,.bv true)] rfl (az (aA rfl (fun _=>ag [(2,.all)] rfl (AWp.sub (Sub.freeze (id:=600) rfl) ?_)) nofun));refine ag [] rfl ⟨j+1,N,by dsimp only;omega,?_⟩;dsimp only;rw[O,he];exact sl (hh:=⟨⟨_,rfl,.arrS (by rw[A4];rfl)⟩,⟨_,rfl,.var rfl⟩,trivial⟩)
   have ac:=geD hb aa hj;subst ac;rw[As];refine aL (ag [] rfl ⟨i+1,ae,by dsimp only;omega,?_⟩);dsimp only;rw[Z];exact sl
  have ac:=geD hb ad hi;subst ac;rw[As];exact aL (sg rfl (aF (rtT (hc:=hs_all rfl rfl (by simp) rfl))))
theorem aAs (t:Ty) (ht:tn t≤1000000000) (q:∀u,tn u<tn t→aQ Tryz.prog 78 [tyV u] [] (bI (tfR u)) []):aQ Tryz.prog 78 [tyV t] [] (bI (tfR t)) []:=by
 obtain⟨f,n,s,a⟩:=t;rw[tn] at ht q;have I:=aJh a;refine oK (.mk f n s a) (show a.length≤_ by omega) (fun i=>?_) (fun u hu=>?_) fun u hu=>q u ?_
 ·have h1:=aB5 f s (a.take i) [];rw[aB6] at h1;have h2:=aEr a i;simp only[length_nil] at h1;show(tfL f s (a.take i) []).length≤_;omega
 ·have h1:=kQ (show u∈a from hu);have h2:=aJi u;omega
 ·have h1:=kQ (show u∈a from hu);omega
theorem aGr:∀(k:Nat) (t:Ty),tn t≤k→tn t≤1000000000→aQ Tryz.prog 78 [tyV t] [] (bI (tfR t)) []
 | 0,t,h,_=>by have:=kF t;omega
 | k+1,t,h,hm=>aAs t hm fun u hu=>aGr k u (by omega) (by omega)
mutual
def fvm:Ty→Nat
 | .mk f n s a=>max (tfR (.mk f n s a)).length (yM a)
def yM:List Ty→Nat
 | []=>0
 | t::l=>max (fvm t) (yM l)
end
theorem oB (t:Ty):(tfR t).length≤fvm t:=by cases t;rw[fvm];exact le_max_left ..
theorem aGf:∀{l:List Ty}{t:Ty},t∈l→fvm t≤yM l
 | u::l,t,h=>by
  rw[yM];rcases Ai.1 h with rfl | h
  ·exact le_max_left ..
  ·exact le_trans (aGf h) (le_max_right ..)
theorem xL {f n:Int}{s:Str}{a:List Ty}{u:Ty}(h:u∈a):fvm u≤fvm (.mk f n s a):=by
 rw[fvm];exact le_trans (aGf h) (le_max_right ..)
theorem aJn {f:Int}{s:Str}{L:Nat}:∀{l:List Ty}{o:List Str},(∀u∈l,(tfR u).length≤L)→(tfL f s l o).length≤o.length+l.length*L
 | [],o,_=>by simp[tfL]
 | t::l,o,h=>by
  have h1:=aJn (f:=f) (s:=s) (l:=l) (o:=uG f s o (tfR t)) fun u hu=>h u (ω _ hu)
  have h2:=r3 f s (tfR t) o;have h3:=h t η;show(tfL f s l (uG f s o (tfR t))).length≤_;rw[Ak,Nat.succ_mul];omega
theorem oL:∀(k:Nat) (t:Ty),tn t≤k→wfS t=true→fvm t≤400000000→aQ Tryz.prog 78 [tyV t] [] (bI (tfR t)) []
 | 0,t,h,_,_=>by have:=kF t;omega
 | k+1,t,h,hw,hf=>by
  obtain⟨f,n,s,a⟩:=t;obtain⟨h1,h2,_⟩:=nH hw;have hu:∀u∈a,(tfR u).length≤400000000:=fun u hu=>le_trans (oB u) (le_trans (xL hu) hf)
  refine oK (.mk f n s a) (show a.length≤_ by omega) (fun i=>?_) (fun u q=>le_trans (hu u q) (by decide)) fun u q=>?_
  ·have h3:=aJn (f:=f) (s:=s) (l:=a.take i) (o:=[]) fun u q=>hu u (Bx q)
   rw[Aq,length_nil] at h3;have h4:min i a.length*400000000≤2*400000000:=Av _ (by omega);show(tfL f s (a.take i) []).length≤_;omega
  ·have q:u∈a:=q;exact oL k u (by have:=kQ q;rw[tn] at h;omega) (h2 u q) (le_trans (xL q) hf)
def fw (t:Ty):Nat:=if wfS t=true∧fvm t≤tn t then fvm t else tn t
theorem aZr (t:Ty):(tfR t).length≤fw t:=by
 unfold fw;split
 ·exact oB t
 ·exact aJi t
theorem aTc {t:Ty}(h:wfS t=true):fw t≤fvm t:=by
 unfold fw;split
 ·exact le_refl _
 ·rename_i q;have:¬fvm t≤tn t:=fun hh=>q ⟨h,hh⟩
  omega
theorem aGs (t:Ty) (h:fw t≤400000000):aQ Tryz.prog 78 [tyV t] [] (bI (tfR t)) []:=by
 unfold fw at h;split at h
 ·rename_i q;exact oL (tn t) t (le_refl _) q.1 h
 ·exact aGr (tn t) t (le_refl _) (by omega)
end Go.Proofs.YtglfogjcijokpaaGreatDoor
namespace Go.AM
open Go
theorem aZv:∀m:_root_.Fin 128,Utf8.encode ((m.val:Nat):Int)=⟨⟨[UInt8.ofNat m.val]⟩⟩:=by decide+kernel
section
variable {P:Program}{T:TT}{n:Nat}{o:Oper}{st:St}{d:Nat}
theorem aUj {src dst:TypeId}{i j:TI}{x:Operand}{k:IntKind}{m:Nat}(hm:m<128) (q:Tok P T) (ho:o.op=.convert src dst x) (hd:o.dst=some d) (J:d<n) (hi:T[src]?=some (some i)) (N:i.k=.int k) (W:T[dst]?=some (some j)) (O:j.k=.str)
  (hx:opv st x=some (I k (m:Int))):Step P n o st ⟨opr x,[]⟩ ⟨some (d,some (Go.AM.T [UInt8.ofNat m])),[]⟩:=by
 refine Step.value hd J fun st' ha G S μ a w hs=>?_
 have hv:=eJ (aM hs hx ha.1);refine⟨.string ⟨⟨[UInt8.ofNat m]⟩⟩,?_,by simp[aT,b6,Rep]⟩;have h1:=(q.get hi).int N;have h2:=(q.get W).str O;have h3:=run_convert_int_string (P:=P) w src dst k (m:Int) (by rw[h1];rfl) h2;rw[aZv ⟨m,hm⟩] at h3;simp only[execOp,ho,hv,Ad,h3,κ,Ae]
end
section
variable {P:Program}{n:Nat}{ops:Array Oper}{draw:Bool}{k d:Nat}{st:St}{pre:REs}{Q:St→Prop}{o:Oper}
theorem kr {tr:Tr}{src dst:TypeId}{i j:TI}{x:Operand}{kk:IntKind}(m:Nat) (hm:m<128) (W:Tok P tr.flat)
  (hk:kE P n ops draw (k+1) ⟨upd st.e d (some (Go.AM.T [UInt8.ofNat m])),st.h,st.d⟩ ((⟨opr x,[]⟩,⟨some (d,some (Go.AM.T [UInt8.ofNat m])),[]⟩)::pre) Q) (hw:tr.wf=true)
  (ho:ops[k]?=some o:=by rfl) (Y:o.guard=none:=by rfl) (q:o.op=.convert src dst x:=by rfl) (hd:o.dst=some d:=by rfl) (J:Nat.blt d n=true:=by rfl) (hi:tr.get src=some i:=by rfl) (N:i.k=.int kk:=by rfl) (Z:tr.get dst=some j:=by rfl) (O:j.k=.str:=by rfl) (hx:opv st x=some (I kk (m:Int)):=by first | rfl | assumption):kE P n ops draw k st pre Q:=
 k_ (g_ ho Y (aUj hm W q hd (iE J) (Tr.get_ok hw hi) N (Tr.get_ok hw Z) O hx)) hk
end
end Go.AM
namespace Go.Proofs.YtglfogjcijokpaaGreatDoor
open Go Go.AM
set_option maxRecDepth 20000
def bQ (n:Nat):Str:=if n<26 then [UInt8.ofNat (97+n%26)] else [UInt8.ofNat (97+n%26)]++Lib.decDigits (n/26)
theorem wrap_small (m:Nat) (h:m<128):IntKind.i32.wrap (m:Int)=(m:Int):=by
 have:∀m:_root_.Fin 128,IntKind.i32.wrap ((m.val:Nat):Int)=((m.val:Nat):Int):=by decide+kernel
 exact this ⟨m,h⟩
theorem xY (n:Nat) (h:n≤600000000000):(Lib.decDigits n).length≤20:=by
 rw[Lib.decDigits_length];by_cases h0:n=0
 ·subst h0;decide+kernel
 ·have:=Lib.numDigits_eq n (by omega) (by omega);split at this<;>omega
theorem aAw (n:Nat) (hn:n≤600000000000) (q:26≤n→aQ Tryz.prog 144 [I .i64 ((n/26:Nat):Int)] [] (Go.AM.T (Lib.decDigits (n/26))) []):aQ Tryz.prog 148 [I .i64 n] [] (Go.AM.T (bQ n)) []:=by
 have J:(97:Int)+(n:Int)%26=((97+n%26:Nat):Int):=by omega
 refine bM (n:=17) tok Tryz.func148 rfl rfl rfl ?_;refine sg rfl (sk 4 rfl ?_ (hc:=by repeat (first | exact trivial | refine⟨by first | rfl | omega,?_⟩)))
 refine kr (97+n%26) (by omega) tok ?_ trw (hx:=by
  show some (I .i32 (IntKind.i32.wrap (97+(n:Int)%26)))=some (I .i32 ((97+n%26:Nat):Int))
  rw[J,wrap_small _ (by omega)])
 refine kz 1 rfl (a8 (sg rfl (aA rfl (fun hb=>?_) (fun hb=>?_))))
 ·have h:n<26:=by have:=ψ hb;omega
  unfold bQ;rw[ξ h];exact sg rfl (aF rtT)
 ·have h:¬n<26:=by have:=χ hb;omega
  have q:=q (by omega);have O:600000000000≤maxLen:=by decide
  have N:=xY (n/26) (by omega);have hd:(n:Int)/26=((n/26:Nat):Int):=by omega
  unfold bQ;rw[φ h];refine aD (sk 3 rfl ?_ (hc:=by repeat (first | exact trivial | refine⟨by first | rfl | omega | decide,?_⟩)));rw[←hd] at q;refine kc q ?_;refine ak 2 [] rfl ?_ (hc:=by repeat (first | exact trivial | refine⟨by first | rfl | omega | (simp;omega),?_⟩));exact az (aF rtT)
theorem rG {a b:Nat}(ha:a<256) (hb:b<256) (h:UInt8.ofNat a=UInt8.ofNat b):a=b:=by
 have:=congrArg UInt8.toNat h;simp only[UInt8.toNat_ofNat'] at this;omega
theorem aGo (n:Nat):1≤(Lib.decDigits n).length:=by
 rw[Lib.decDigits];split<;>simp
theorem aMy:∀(n m:Nat),Lib.decDigits n=Lib.decDigits m→n=m:=by
 intro n
 induction n using Nat.strongRecOn with
 | _ n q=>
  intro m h;rw[Lib.decDigits,Lib.decDigits.eq_1 m] at h;split at h<;>split at h
  ·simp only[List.cons.injEq,and_true] at h;have:=rG (by omega) (by omega) h;omega
  ·have:=congrArg List.length h;have hp:=aGo (m/10);simp only[τ,Ak,length_nil] at this;omega
  ·have:=congrArg List.length h;have hp:=aGo (n/10);simp only[τ,Ak,length_nil] at this;omega
  ·have h1:=List.append_inj' h rfl;have h2:=q (n/10) (by omega) (m/10) h1.1;have h3:=h1.2;simp only[List.cons.injEq,and_true] at h3;have:=rG (by omega) (by omega) h3;omega
theorem aC2 (n m:Nat) (h:bQ n=bQ m):n=m:=by
 unfold bQ at h;split at h<;>split at h
 ·simp only[List.cons.injEq,and_true] at h;have:=rG (by omega) (by omega) h;omega
 ·have:=congrArg List.length h;have hp:=aGo (m/26);simp only[τ,Ak,length_nil] at this;omega
 ·have:=congrArg List.length h;have hp:=aGo (n/26);simp only[τ,Ak,length_nil] at this;omega
 ·simp only[Bc,Bd,List.cons.injEq] at h;have h1:=rG (by omega) (by omega) h.1;have h2:=aMy _ _ h.2;omega
theorem aQy (l:List Str):∃n,n≤l.length∧¬bQ n∈l:=by
 refine Classical.byContradiction fun J=>?_
 have q:∀n,n≤l.length→bQ n∈l:=fun n hn=>Classical.byContradiction fun h=>J ⟨n,hn,h⟩
 have N:((List.range (l.length+1)).map bQ).Nodup:=by
  rw[List.Nodup,List.pairwise_map];exact List.Pairwise.imp (fun h e=>h (aC2 _ _ e)) nodup_range
 have I:∀x∈(List.range (l.length+1)).map bQ,x∈l:=fun x hx=>by
  obtain⟨i,hi,rfl⟩:=Af.1 hx;exact q i (by have:=mem_range.1 hi;omega)
 have key:∀(a b:List Str),a.Nodup→(∀x∈a,x∈b)→a.length≤b.length:=by
  intro a
  induction a with
  | nil=>intro b _ _;simp
  | cons x a W=>
   intro b hn hs;rw[Bv] at hn;have h1:=W (b.erase x) hn.2 fun y O=>(List.mem_erase_of_ne (by rintro rfl;exact hn.1 O)).2 (hs y (ω _ O))
   have hx:=hs x η;rw[List.length_erase_of_mem hx] at h1;have:=List.length_pos_of_mem hx;rw[Ak];omega
 have:=key _ _ N I;rw[θ,length_range] at this;omega
theorem kA (l:List Str):∃n,n≤l.length∧¬bQ n∈l∧∀m,m<n→bQ m∈l:=by
 have key:∀k:Nat,(∃n,n≤k∧¬bQ n∈l)→∃n,n≤k∧¬bQ n∈l∧∀m,m<n→bQ m∈l:=by
  intro k
  induction k with
  | zero=>
   rintro⟨n,hn,h⟩;exact⟨n,hn,h,fun m hm=>by omega⟩
  | succ k I=>
   rintro⟨n,hn,h⟩;by_cases hk:∃n,n≤k∧¬bQ n∈l
   ·obtain⟨m,h1,h2,h3⟩:=I hk;exact⟨m,by omega,h2,h3⟩
   ·have J:n=k+1:=by
     by_cases h1:n≤k
     ·exact absurd ⟨n,h1,h⟩ hk
     ·omega
    exact⟨n,hn,h,fun m hm=>Classical.byContradiction fun q=>hk ⟨m,by omega,q⟩⟩
 exact key l.length (aQy l)
noncomputable def jC (l:List Str):Nat:=Classical.choose (kA l)
noncomputable def b9 (l:List Str):Str:=bQ (jC l)
theorem sP (l:List Str):jC l≤l.length:=(B8 (kA l)).1
theorem pJ (l:List Str):¬bQ (jC l)∈l:=(B8 (kA l)).2.1
theorem aAh (l:List Str) {m:Nat}(h:m<jC l):bQ m∈l:=(B8 (kA l)).2.2 m h
theorem y8 (l:List Str) (hl:l.length≤570000000000) (N:∀k,k≤l.length→aQ Tryz.prog 144 [I .i64 (k:Int)] [] (Go.AM.T (Lib.decDigits k)) []):aQ Tryz.prog 131 [bI l] [] (Go.AM.T (b9 l)) []:=by
 have hf:=sP l;refine bM (n:=12) tok Tryz.func131 rfl rfl rfl ?_;refine sg rfl (sg rfl (a8 (aB (aK (fun n:Nat=>mk [(0,bI l),(3,I .i64 n)] []) (fun n=>n≤jC l) (fun n=>jC l-n) 0 (Aj _) sl ?_))));intro n hn;have q:=aAw n (by omega) fun h=>N (n/26) (by omega)
 have J:=bS l (bQ n) (by omega);refine a8 (sk 2 rfl (kc q ?_));refine kc J ?_;refine az (aA rfl (fun hb=>?_) (fun hb=>?_))
 ·have hm:bQ n∈l:=ψ hb;have O:n≠jC l:=by rintro rfl;exact pJ l hm
  refine aD (aB (ag [] rfl ?_ (hc:=by repeat (first | exact trivial | refine⟨by omega,?_⟩))));exact⟨n+1,by omega,by dsimp only;omega,sl⟩
 ·have hm:¬bQ n∈l:=χ hb;have he:n=jC l:=by
   by_cases h:n<jC l
   ·exact absurd (aAh l h) hm
   ·omega
  refine aL (sk 1 rfl (kc q ?_));refine kz 1 rfl ?_;unfold b9;rw[←he];exact aF rtT
abbrev dA (m:Nat):Prop:=∀k,k≤m→aQ Tryz.prog 144 [I .i64 (k:Int)] [] (Go.AM.T (Lib.decDigits k)) []
theorem aRj (l:List Str) (hl:l.length≤570000000000) (N:dA l.length):aQ Tryz.prog 120 [bI l] [] (Go.AM.T (b9 l)) []:=by
 have hf:=sP l;have O:(l.map bL).length=l.length:=θ _;refine bM (n:=19) tok Tryz.func120 rfl rfl rfl ?_;refine sg rfl (a8 (a8 (agN [] rfl (aB (aK (fun n:Nat=>mk [(0,bI l),(7,I .i64 (((l.map bL).length+1:Nat):Int)),(8,I .i64 n)] []) (fun n=>n≤jC l) (fun n=>jC l-n) 0 (Aj _) sl ?_)) (hc:=⟨by show(l.map bL).length+1≤9223372036854775807;omega,trivial⟩))));intro n hn;have q:=aAw n (by omega) fun h=>N (n/26) (by omega)
 have J:=bS l (bQ n) (by omega);refine sg rfl (a8 (aA rfl (fun hb=>?_) (fun hb=>?_)))
 ·refine aD (a8 (aB (sg rfl (sk 1 rfl (kc q ?_)))));refine kz 1 rfl (sk 2 rfl (kc J ?_));refine kz 1 rfl (aA rfl (fun hb=>?_) (fun hb=>?_))
  ·have hm:¬bQ n∈l:=by simpa using hb
   have he:n=jC l:=by
    by_cases h:n<jC l
    ·exact absurd (aAh l h) hm
    ·omega
   refine sg rfl ?_;unfold b9;rw[←he];exact aF rtT
  ·have hm:bQ n∈l:=by simpa using hb
   have W:n≠jC l:=by rintro rfl;exact pJ l hm
   refine aD (ag [] rfl ?_ (hc:=by repeat (first | exact trivial | refine⟨by omega,?_⟩)));exact⟨n+1,by omega,by dsimp only;omega,sl⟩
 ·exfalso;have:=χ hb;omega
theorem aNb (s:Str) (t:Ty) (ho:aQ Tryz.prog 64 [tyV t] [] (tyV t) []):aQ Tryz.prog 121 [Go.AM.T s,tyV t] [] (tyV (.mk 5 0 s [t])) []:=by
 refine bM (n:=10) tok Tryz.func121 rfl rfl rfl ?_;refine sg rfl (sk 2 rfl (kc ho ?_));exact ak 3 [(3,.all)] rfl (az (aF (rtC trw)))
set_option maxHeartbeats 4000000
def aR9 (l:List Ty):V:=.one (.c (.sl 4 (l.map aO)))
def unF (nm:Str) (body:Ty) (l:List (Str×Ty)):List (Str×Ty):=l.filter fun p=>!decide (p.1=nm)&&decide (p.1∈tfR body)
def unC (l:List (Str×Ty)):List Str:=l.flatMap fun p=>tfR p.2
noncomputable def unN (nm:Str) (body:Ty) (l:List (Str×Ty)):Str:=if nm∈unC (unF nm body l) then b9 (unC (unF nm body l)++tfR body) else nm
noncomputable def unP (nm:Str) (body:Ty) (l:List (Str×Ty)):List (Str×Ty):=if nm∈unC (unF nm body l) then unF nm body l++[(nm,.mk 2 0 (unN nm body l) [])] else unF nm body l
theorem aPa {nm:Str}{body:Ty}{l:List (Str×Ty)}{i:Nat}{p:Str×Ty}(h:l[i]?=some p):unF nm body (l.take (i+1))=if(!decide (p.1=nm)&&decide (p.1∈tfR body))=true then unF nm body (l.take i)++[p] else unF nm body (l.take i):=by
 unfold unF;rw[Bi,h,List.filter_append];show _++List.filter _ [p]=_;rw[Ck];split<;>simp
theorem aRb (nm:Str) (body b':Ty) (ps:List (Str×Ty)) (hl:ps.length≤1000000000) (hfr:aQ Tryz.prog 78 [tyV body] [] (bI (tfR body)) []) (hfl:(tfR body).length≤400000000) (Z:aQ Tryz.prog 121 [Go.AM.T (unN nm body ps),tyV b'] [] (tyV (.mk 5 0 (unN nm body ps) [b'])) [])
  (hps:∀p∈ps,aQ Tryz.prog 78 [tyV p.2] [] (bI (tfR p.2)) []∧(tfR p.2).length≤400000000) (hc:(unC (unF nm body ps)).length≤540000000000∧∀i,(unC (unF nm body (ps.take i))).length≤540000000000) (hI:dA ((unC (unF nm body ps)).length+(tfR body).length))
  (hS:aQ Tryz.prog 28 [tyV body,bI ((unP nm body ps).map (·.1)),aR9 ((unP nm body ps).map (·.2))] [] (tyV b') []):
  aQ Tryz.prog 66 [tyV (.mk 5 0 nm [body]),bI (ps.map (·.1)),aR9 (ps.map (·.2))] [] (tyV (.mk 5 0 (unN nm body ps) [b'])) []:=by
 have hk1:((ps.map (·.1)).map bL).length=ps.length:=by rw[θ,θ]
 refine bM (n:=81) tok Tryz.func66 rfl rfl rfl ?_;refine sg rfl (sgh [(2,.row 0 (aO body))] rfl (sk 1 rfl (kc hfr ?_)));refine kz 1 rfl (sg rfl (sg rfl (sg rfl (AWp.sub (Sub.own (t:=9) (id:=600) 9 1 rfl rfl) (AWp.sub (Sub.freeze (id:=600) rfl) ?_)))));refine AWp.sub (Sub.own (t:=10) (id:=601) 30 4 rfl rfl) (AWp.sub (Sub.freeze (id:=601) rfl) ?_);refine AWp.sub (Sub.own (t:=11) (id:=602) 9 1 rfl rfl) (AWp.sub (Sub.freeze (id:=602) rfl) ?_);refine a8 (sg rfl (aB ?_))
 refine aK (fun i:Nat=>mk [(2,aR9 (ps.map (·.2))),(3,.one (.vp 3 0)),(6,.one (.vp 6 0)),(7,.one (.vp 7 0)),(8,bI (tfR body)),(9,.one (.hs 600 0 (unF nm body (ps.take i)).length (unF nm body (ps.take i)).length)),(10,.one (.hs 601 0 (unF nm body (ps.take i)).length (unF nm body (ps.take i)).length)),(11,.one (.hs 602 0 (unC (unF nm body (ps.take i))).length (unC (unF nm body (ps.take i))).length)),(21,bI (ps.map (·.1))),(22,I .i64 (((ps.map (·.1)).map bL).length:Int)),(23,I .i64 i)]
  [(600,.arr 9 1 (((unF nm body (ps.take i)).map (·.1)).map bL) 2),(601,.arr 30 4 (((unF nm body (ps.take i)).map (·.2)).map aO) 2),(602,.arr 9 1 ((unC (unF nm body (ps.take i))).map bL) 2),(3,.var 30 ((aO (.mk 5 0 nm [body])).map R.c)),(6,.var 30 [.c (.int .i64 0),.c (.int .i64 0),.c (.str []),.c .nl]),(7,.var 30 ((aO body).map R.c))]) (fun i=>i≤ps.length) (fun i=>ps.length-i) 0 (Aj _) sl ?_
 intro i hi;refine sg rfl (a8 (aA rfl (fun hb=>?_) (fun hb=>?_)))
 ·have W:=ltD hb hk1;obtain⟨⟨s,u⟩,hu⟩:=aJ W;have hs':((ps.map (·.1)).map bL)[i]?=some (bL s):=bO bL (by rw[Bg,hu];rfl);have hu':((ps.map (·.2)).map aO)[i]?=some (aO u):=bO aO (by rw[Bg,hu];rfl);obtain⟨hfu,hul⟩:=hps _ (Ab hu);have hul:(tfR u).length≤400000000:=hul;have hfu:aQ Tryz.prog 78 [tyV u] [] (bI (tfR u)) []:=hfu;have J:=aPa (nm:=nm) (body:=body) hu;have O:=bS (tfR body) s (by omega);have hql:=hc.2 i;have hpl:(unF nm body (ps.take i)).length≤1000000000:=by
   have h1:(unF nm body (ps.take i)).length≤(ps.take i).length:=length_filter_le _ _;rw[Aq] at h1;omega
  generalize unF nm body (ps.take i)=q at J hql hpl ⊢;generalize tfR body=fb at O J ⊢;refine aD (a8 (aB (sgh [(1,.row i (bL s))] rfl ?_)));by_cases h1:s=nm
  ·have Y:(!decide (s=nm))=false:=by rw[Ah h1];rfl
   dsimp only at J;rw[Y,Bool.false_and,φ (by decide)] at J;refine sgh [(4,.bv false),(8,.bv false)] rfl (aA rfl nofun (fun _=>aD (ag [] rfl ⟨i+1,W,by dsimp only;omega,?_⟩)));dsimp only;rw[J];exact sl
  have Y:(!decide (s=nm))=true:=by rw[Am h1];rfl
  dsimp only at J;rw[Y,Bool.true_and] at J;by_cases h2:s∈fb
  ·rw[Ah h2] at O;rw[ξ (Ah h2)] at J;have hql2:=hc.2 (i+1);rw[J] at hql2;have hcq:unC (q++[(s,u)])=unC q++tfR u:=by unfold unC;rw[flatMap_append];simp
   rw[hcq,τ] at hql2;refine skh 7 [(4,.bv true)] rfl (kcG O ?_ (hw:=Y));refine ak 1 [(8,.bv true)] rfl (az (aA rfl (fun _=>?_) nofun));have hq1:((q.map (·.1)).map bL).length=q.length:=by rw[θ,θ]
   have hq2:((q.map (·.2)).map aO).length=q.length:=by rw[θ,θ]
   have hq3:((unC q).map bL).length=(unC q).length:=θ _;have hq4:((tfR u).map bL).length=(tfR u).length:=θ _;refine sgh [(2,.all),(7,.row i (aO u)),(9,.all)] rfl (AWp.sub (Sub.freeze (id:=600) rfl) (AWp.sub (Sub.freeze (id:=601) rfl) ?_));refine aE mixed (ak 5 [(3,.row i (aO u))] rfl (kc hfu ?_));refine kz 2 rfl (AWp.sub (Sub.freeze (id:=602) rfl) ?_);refine ag [] rfl ⟨i+1,W,by dsimp only;omega,?_⟩;dsimp only;rw[J,hcq];refine sl (he:=⟨rfl,rfl,rfl,rfl,rfl,Go.AM.hs_ren (by simp) (by simp),Go.AM.hs_ren (by simp) (by simp),Go.AM.hs_ren (by simp) (by simp),rfl,rfl,rfl,trivial⟩) (hh:=⟨⟨_,rfl,.arrS (by simp[bL])⟩,⟨_,rfl,.arrS (by simp;rfl)⟩,⟨_,rfl,.arrS (by simp)⟩,⟨_,rfl,.var rfl⟩,⟨_,rfl,.var rfl⟩,⟨_,rfl,.var rfl⟩,trivial⟩)
  ·rw[Am h2] at O;rw[φ (by rw[Am h2];decide)] at J;refine skh 7 [(4,.bv true)] rfl (kcG O ?_ (hw:=Y));refine ak 1 [(8,.bv true)] rfl (az (aA rfl nofun (fun _=>aD (ag [] rfl ⟨i+1,W,by dsimp only;omega,?_⟩))));dsimp only;rw[J];exact sl
 ·have hge:=geD hb hk1 hi;subst hge;rw[As];have hpl:(unF nm body ps).length≤1000000000:=by
   have h1:(unF nm body ps).length≤ps.length:=length_filter_le _ _;omega
  have O:=bS (unC (unF nm body ps)) nm (by omega);refine aL (sg rfl ?_);by_cases h1:nm∈unC (unF nm body ps)
  ·have eN:unN nm body ps=b9 (unC (unF nm body ps)++tfR body):=by unfold unN;rw[ξ h1]
   have eP:unP nm body ps=unF nm body ps++[(nm,.mk 2 0 (unN nm body ps) [])]:=by unfold unP;rw[ξ h1]
   have W:=aRj (unC (unF nm body ps)++tfR body) (by rw[τ];have:=hc.1;omega) (fun k hk=>hI k (by rw[τ] at hk;exact hk));rw[←eN] at W;rw[eP] at hS;have hv:=aM7 (unN nm body ps);rw[Ah h1] at O;generalize unN nm body ps=N at *;have hcl:=hc.1;generalize unF nm body ps=q at *;have hS2:aQ Tryz.prog 28 [tyV body,.one (.c (.sl 1 ((q.map (·.1)).map bL++[bL nm]))),.one (.c (.sl 4 ((q.map (·.2)).map aO++[aO (.mk 2 0 N [])])))] [] (tyV b') []:=by
    have Y:bI ((q++[(nm,Ty.mk 2 0 N [])]).map (·.1))=.one (.c (.sl 1 ((q.map (·.1)).map bL++[bL nm]))):=by unfold bI;rw[A4,A4];rfl
    have e2:aR9 ((q++[(nm,Ty.mk 2 0 N [])]).map (·.2))=.one (.c (.sl 4 ((q.map (·.2)).map aO++[aO (.mk 2 0 N [])]))):=by unfold aR9;rw[A4,A4];rfl
    rw[Y,e2] at hS;exact hS
   have hq1:((q.map (·.1)).map bL).length=q.length:=by rw[θ,θ]
   have hq2:((q.map (·.2)).map aO).length=q.length:=by rw[θ,θ]
   have hq3:((unC q).map bL).length=(unC q).length:=θ _;have hq4:((tfR body).map bL).length=(tfR body).length:=θ _;have hlt2:aQ Tryz.prog 120 [.one (.c (.sl 1 ((unC q).map bL++(tfR body).map bL)))] [] (Go.AM.T N) []:=by
    have Y:bI (unC q++tfR body)=.one (.c (.sl 1 ((unC q).map bL++(tfR body).map bL))):=by unfold bI;rw[A4]
    rw[Y] at W;exact W
   refine a8 (sk 2 rfl (kc O ?_));refine az (aA rfl (fun _=>skh 3 [(2,.fz)] rfl (kc hlt2 ?_)) nofun);refine kz 1 rfl (aE mixed (ak 7 [(3,.all)] rfl (kc hv ?_)));refine ak 4 [(8,.all)] rfl (az (AWp.sub (Sub.freeze (id:=600) rfl) (AWp.sub (Sub.freeze (id:=601) rfl) ?_)));refine sk 4 rfl (kc hS2 ?_);refine kc Z ?_;exact kz 1 rfl (aF (rtC trw))
  ·have eN:unN nm body ps=nm:=by unfold unN;rw[φ h1]
   have eP:unP nm body ps=unF nm body ps:=by unfold unP;rw[φ h1]
   rw[eP] at hS;rw[eN] at Z ⊢;rw[Am h1] at O;have hcl:=hc.1;generalize unF nm body ps=q at *;have hq1:((q.map (·.1)).map bL).length=q.length:=by rw[θ,θ]
   have hq2:((q.map (·.2)).map aO).length=q.length:=by rw[θ,θ]
   refine a8 (sk 2 rfl (kc O ?_));refine az (aA rfl nofun (fun _=>aD (sk 4 rfl (kc hS ?_))));refine kc Z ?_;exact kz 1 rfl (aF (rtC trw))
theorem vH (s:Str):∀(l:List Str) (k:Int),(∃i:Nat,yN s l k=k+i∧l[i]?=some s)∨(¬s∈l∧yN s l k= -1)
 | [],k=>.inr ⟨by simp,rfl⟩
 | x::l,k=>by
  rw[yN];split
  ·rename_i h;subst h;exact .inl ⟨0,by simp,rfl⟩
  ·rename_i h;rcases vH s l (k+1) with⟨i,h1,h2⟩ | ⟨h1,h2⟩
   ·exact .inl ⟨i+1,by rw[h1];omega,by simpa using h2⟩
   ·exact .inr ⟨by simp[h,h1],h2⟩
theorem aJk {f:Int}{s:Str}{o:List Str}{x y:Str}(h:y∈o):y∈hJ f s o x:=by
 unfold hJ;split
 ·exact δ.2 (.inl h)
 ·exact h
theorem qZ {f:Int}{s:Str}:∀{l o:List Str}{y:Str},y∈o→y∈uG f s o l
 | [],_,_,h=>h
 | x::l,o,_,h=>qZ (l:=l) (o:=hJ f s o x) (aJk h)
theorem nK {f:Int}{s:Str}:∀{l o:List Str}{y:Str},y∈l→(¬f=5∨¬y=s)→y∈uG f s o l
 | x::l,o,y,h,hf=>by
  rcases Ai.1 h with rfl | h
  ·refine qZ (l:=l) (o:=hJ f s o y) ?_;unfold hJ;by_cases q:y∈o
   ·rw[φ (fun h=>h.1 q)];exact q
   ·rw[ξ ⟨q,hf⟩];simp
  ·exact nK (l:=l) (o:=hJ f s o x) h hf
theorem aXq {n:Int}{nm:Str}{body:Ty}{x:Str}(h:x∈tfR body) (hx:¬x=nm):x∈tfR (.mk 5 n nm [body]):=by
 rw[tfR,φ (by decide),oY,oY];exact nK h (.inr hx)
theorem aT5 {n:Int}{s:Str}{a b:Ty}{x:Str}(h:x∈tfR a):x∈tfR (.mk 4 n s [a,b]):=by
 rw[tfR,φ (by decide),oY,oY,oY];exact qZ (nK h (.inl (by decide)))
theorem aT4 {n:Int}{s:Str}{a b:Ty}{x:Str}(h:x∈tfR b):x∈tfR (.mk 4 n s [a,b]):=by
 rw[tfR,φ (by decide),oY,oY,oY];exact nK h (.inl (by decide))
theorem aC1 (n:Nat) (h:n≤540000000000):(bQ n).length≤21:=by
 unfold bQ;have:=xY (n/26) (by omega);split
 ·simp
 ·simp;omega
theorem jP (l:List Str) (h:l.length≤540000000000):(b9 l).length≤21:=aC1 _ (le_trans (sP l) h)
end Go.Proofs.YtglfogjcijokpaaGreatDoor
