/-
  Texts Am27 to Am28 in one.
-/
import Derived.Test.YtockgoadliilhaaGreatDoorM5
import Derived.Test.YtockgoadliilhaaGreatDoorProg
import Derived.KernelRfl
import Derived.Shelf.Spec.SlicesGrow
open List (all_eq_true cons_append drop_zero eq_nil_of_length_eq_zero length_cons length_map length_nil length_take map_append map_cons map_nil map_take mem_append mem_cons mem_cons_of_mem mem_cons_self mem_of_mem_take mem_singleton nil_append suffix_refl sum_cons sum_nil take_add_one take_length take_of_length_le)
open Nat (add_assoc eq_of_beq_eq_true le_refl le_trans min_eq_left zero_add zero_le)
namespace Go.AM
open Go
theorem Ole.arrS {σ:Nat→Nat}{te es fz:Nat}{l l':List (List C)}(h:l=l'):Ole σ (.arr te es l fz) (.arr te es l' fz):=by subst h;exact .arr
theorem hs_ren {id off a b u I:Nat}(h:a=u) (k:b=I):some (V.one (.hs id off a b))=some (V.ren (fun i=>i) (V.one (.hs id off u I))):=by subst h;subst k;rfl
theorem sl {kf:List Nat}{u:St}{el:List (Nat×V)}{hl:List (Nat×AObj)}
  (he:fL (fun p=>u.e p.1=some (p.2.ren (fun i=>i))) el:=by repeat (first | exact trivial | refine⟨by first | rfl | exact Go.AM.hs_ren (by first | (simp;done) | (simp;omega)) (by first | (simp;done) | (simp;omega)),?_⟩))
  (hh:fL (fun p=>∃o,u.h p.1=some o∧Ole (fun i=>i) o p.2) hl:=by repeat (first | exact trivial | refine⟨⟨_,rfl,by first | exact Go.AM.Ole.arr | exact Go.AM.Ole.var rfl | exact Go.AM.Ole.map | exact Go.AM.Ole.rarr rfl | exact Go.AM.Ole.arr1 | exact Go.AM.Ole.arrS (by first | assumption | (simp;done) | (simp;rfl) | (simp;omega)) | exact Go.AM.Ole.arrE (by first | assumption | (simp;done) | (simp;rfl) | (simp;omega)) | exact Go.AM.Ole.var (by first | (simp[Go.AM.R.renL,Go.AM.R.ren];done) | (simp[Go.AM.R.renL,Go.AM.R.ren];omega)) | exact Go.AM.Ole.mapE (by first | assumption | (simp;done) | (simp;rfl) | (simp;omega))⟩,?_⟩))
  (hok:(a0j kf (fun i=>i) el hl&&eqL [] u.d)=true:=by rfl):Sub kf (mk el hl) u:=Sub.list (fun i=>i) he hh hok
theorem take_all {α:Type}{l:List α}{n:Nat}(h:n=l.length):l=(l.drop 0).take n:=by rw[h,Cc,Al]
theorem ltD {i n:Nat}{l:List (List C)}(h:decide ((i:Int)<(l.length:Int))=true) (e:l.length=n):i<n:=by
 have:(i:Int)<(l.length:Int):=by simpa using h
 omega
theorem geD {i n:Nat}{l:List (List C)}(h:decide ((i:Int)<(l.length:Int))=false) (e:l.length=n) (hi:i≤n):i=n:=by
 have:¬(i:Int)<(l.length:Int):=by simpa using h
 omega
theorem Ole.rarrS {te es:Nat}{l l':List (List R)}(h:l=l'):Ole (fun i=>i) (.rarr te es l) (.rarr te es l'):=by subst h;exact .rarr (aEr _).symm
section
variable {T:TT}{fn:Func}{st:St}{hin hout:List (Nat×AObj)}{res:V}
theorem rtT {t:Nat}{v:V}{ids:List Nat}(u:fn.results.toList=[.tmp t]:=by rfl) (hv:st.e t=some v:=by rfl)
  (hc:Conv st.h ids v res:=by first | exact .refl | exact .one (.c .nl .nil) | ((first | apply Go.AM.Conv.pa | apply Go.AM.Conv.agg);repeat (first | exact .nil | apply Go.AM.PureL.c .refl | apply Go.AM.PureL.c .nl | (apply Go.AM.PureL.hs;rfl;(first | rfl | assumption | simp);(first | rfl | exact Go.AM.take_all (by first | assumption | rfl | (simp;done)) | exact Go.AM.take_map.symm)))))
  (I:fL (fun p=>∃o,st.h p.1=some o∧Ole (fun i=>i) o p.2) hout:=by repeat (first | exact trivial | refine⟨⟨_,rfl,by first | exact Go.AM.Ole.arr | exact Go.AM.Ole.var rfl | exact Go.AM.Ole.map | exact Go.AM.Ole.rarr rfl | exact Go.AM.Ole.arr1 | exact Go.AM.Ole.arrS (by first | assumption | (simp;done) | (simp;rfl) | (simp;omega)) | exact Go.AM.Ole.arrE (by first | assumption | (simp;done) | (simp;rfl) | (simp;omega)) | exact Go.AM.Ole.var (by first | (simp[Go.AM.R.renL,Go.AM.R.ren];done) | (simp[Go.AM.R.renL,Go.AM.R.ren];omega)) | exact Go.AM.Ole.mapE (by first | assumption | (simp;done) | (simp;rfl) | (simp;omega))⟩,?_⟩))
  (hok:(subset res.refs (keys hout)&&subset (dU hout) (keys hout)&&distinct (keys hout)&&subset (keys hin) (keys hout)&&(hin.all fun p=>p.2.plain)&&(hout.all fun p=>p.2.plain))=true:=by rfl):(Exit.ret=.normal∨Exit.ret=.ret)∧Fin T fn st hin res hout:=
 ⟨.inr rfl,⟨[v],[res],by rw[u];exact .tmp hv .nil,.cons hc .nil,rfl⟩,I,hok⟩
theorem rtC {tr:Tr}{a t:Nat}{i:TI}{id off tv:Nat}{cells:List R}{v:V}{ids:List Nat}(hw:tr.wf=true) (u:fn.results.toList=[.cell a t]:=by rfl) (hi:tr.get t=some i:=by rfl) (ha:st.e a=some (.one (.vp id off)):=by rfl) (hh:st.h id=some (.var tv cells):=by rfl) (hb:Nat.ble (off+i.size) cells.length=true:=by rfl) (hv:pQ i ((cells.drop off).take i.size)=some v:=by rfl)
  (hc:Conv st.h ids v res:=by first | exact .refl | exact .one (.c .nl .nil) | ((first | apply Go.AM.Conv.pa | apply Go.AM.Conv.agg);repeat (first | exact .nil | apply Go.AM.PureL.c .refl | apply Go.AM.PureL.c .nl | (apply Go.AM.PureL.hs;rfl;(first | rfl | assumption | simp);(first | rfl | exact Go.AM.take_all (by first | assumption | rfl | (simp;done)) | exact Go.AM.take_map.symm)))))
  (I:fL (fun p=>∃o,st.h p.1=some o∧Ole (fun i=>i) o p.2) hout:=by repeat (first | exact trivial | refine⟨⟨_,rfl,by first | exact Go.AM.Ole.arr | exact Go.AM.Ole.var rfl | exact Go.AM.Ole.map | exact Go.AM.Ole.rarr rfl | exact Go.AM.Ole.arr1 | exact Go.AM.Ole.arrS (by first | assumption | (simp;done) | (simp;rfl) | (simp;omega)) | exact Go.AM.Ole.arrE (by first | assumption | (simp;done) | (simp;rfl) | (simp;omega)) | exact Go.AM.Ole.var (by first | (simp[Go.AM.R.renL,Go.AM.R.ren];done) | (simp[Go.AM.R.renL,Go.AM.R.ren];omega)) | exact Go.AM.Ole.mapE (by first | assumption | (simp;done) | (simp;rfl) | (simp;omega))⟩,?_⟩))
  (hok:(subset res.refs (keys hout)&&subset (dU hout) (keys hout)&&distinct (keys hout)&&subset (keys hin) (keys hout)&&(hin.all fun p=>p.2.plain)&&(hout.all fun p=>p.2.plain))=true:=by rfl):(Exit.ret=.normal∨Exit.ret=.ret)∧Fin tr.flat fn st hin res hout:=
 ⟨.inr rfl,⟨[v],[res],by rw[u];exact .cell ha (Tr.get_ok hw hi) hh hb hv .nil,.cons hc .nil,rfl⟩,I,hok⟩
end
end Go.AM
namespace Go.AM
open Go
theorem sR {id:Nat}{o:AObj}{hin:List (Nat×AObj)}:look ((id,o)::hin)=upd (look hin) id (some o):=by
 funext i;by_cases h:i=id
 ·subst h;rw[aM,dP]
 ·rw[bJ _ _ _ h,eQ h]
theorem Inv.emptyZ {G:Ctx}{S:Sto}{μ:Mu}{H:dC}{w:World}{id:Nat}(te es z:Nat) (h:Inv G S μ H w) (hid:H id=none):Inv G S (upd μ id none) (upd H id (some (.arr te es [] z))) w∧Evolve S μ H S (upd μ id none) (upd H id (some (.arr te es [] z))):=by
 have J:Evolve S μ H S (upd μ id none) (upd H id (some (.arr te es [] z))):=iJ hid _ _;refine⟨⟨h.holds,fun j x hj=>?_,fun i j x x' b c c' hi hj hm u=>?_,fun i x b c hi hm=>?_,h.frame,h.sle,h.sto,h.evo.trans J,h.fre⟩,J⟩
 ·by_cases I:j=id
  ·subst I;rw[aM] at hj;cases hj;exact⟨by simp,.inl ⟨aM _ _ _,rfl⟩⟩
  ·rw[bJ _ _ _ I] at hj;exact(h.obj j x hj).evolve J (bJ _ _ _ I) fun _ _ _=>⟨rfl,fun _=>rfl,rfl⟩
 ·have h1:i≠id:=fun e=>by subst e;rw[aM] at hm;cases hm
  have h2:j≠id:=fun e=>by subst e;rw[aM] at u;cases u
  rw[bJ _ _ _ h1] at hi hm;rw[bJ _ _ _ h2] at hj u;exact h.inj i j x x' b c c' hi hj hm u
 ·have h1:i≠id:=fun e=>by subst e;rw[aM] at hm;cases hm
  rw[bJ _ _ _ h1] at hi hm;exact h.own i x b c hi hm
theorem aU.nilArg {P:Program}{f:FuncId}{pre post:List V}{hin hout:List (Nat×AObj)}{res:V}{id te es z:Nat}(h:aU P f (pre++ .one (.hs id 0 0 0)::post) ((id,.arr te es [] z)::hin) res hout) (hid:look hin id=none):aU P f (pre++ .one (.c .nl)::post) hin res hout:=by
 intro S μ w vals Z hv;obtain⟨hi,J⟩:=Z.emptyZ te es z hid;have N:wA (upd μ id none) (look ((id,.arr te es [] z)::hin))=wA μ (look hin):=by
  funext b;rw[sR];refine propext ⟨?_,?_⟩
  ·rintro⟨j,o,c,h1,h2⟩;by_cases hj:j=id
   ·subst hj;rw[aM] at h2;cases h2
   ·rw[bJ _ _ _ hj] at h1 h2;exact⟨j,o,c,h1,h2⟩
  ·rintro⟨j,o,c,h1,h2⟩;have hj:j≠id:=fun e=>by subst e;rw[hid] at h1;cases h1
   exact⟨j,o,c,by rw[bJ _ _ _ hj];exact h1,by rw[bJ _ _ _ hj];exact h2⟩
 have O:Inv ⟨w,S,wA (upd μ id none) (look ((id,.arr te es [] z)::hin)),upd μ id none,look ((id,.arr te es [] z)::hin)⟩ S (upd μ id none) (look ((id,.arr te es [] z)::hin)) w:=by
  rw[N,sR];exact⟨hi.holds,hi.obj,hi.inj,hi.own,hi.frame,hi.sle,hi.sto,Evolve.refl _ _ _,hi.fre⟩
 have Y:c6 S (upd μ id none) (look ((id,.arr te es [] z)::hin)) (pre++ .one (.hs id 0 0 0)::post) vals:=by
  rw[sR];have key:∀(l:List V) (us:List Value),c6 S μ (look hin) (l++ .one (.c .nl)::post) us→c6 S (upd μ id none) (upd (look hin) id (some (.arr te es [] z))) (l++ .one (.hs id 0 0 0)::post) us:=by
   intro l
   induction l with
   | nil=>
    intro us hu;simp only[A0,c6] at hu ⊢;obtain⟨u,I,h1,h2,h3⟩:=hu;refine⟨u,I,h1,?_,c6.evolve J _ _ h3⟩;simp only[bE,bL,Rep] at h2 ⊢;exact⟨⟨_,_,_,h2⟩,.inr ⟨te,es,[],z,aM _ _ _,le_refl _,fun _=>⟨le_refl _,.inl ⟨aM _ _ _,rfl,h2⟩⟩⟩⟩
   | cons x l ih=>
    intro us hu;simp only[A3,c6] at hu ⊢;obtain⟨u,I,h1,h2,h3⟩:=hu;exact⟨u,I,h1,bE.evolve J _ _ h2,ih I h3⟩
  exact key pre vals hv
 refine Calls.mono (h S (upd μ id none) w vals O Y) ?_;rintro e w' ⟨S',μ',v,h1,h2,h3⟩;refine⟨S',μ',v,h1,?_,h3⟩;rw[N] at h2;refine⟨h2.holds,h2.obj,h2.inj,h2.own,h2.frame,h2.sle,h2.sto,J.trans ?_,h2.fre⟩;have:=h2.evo;rwa [sR] at this
theorem aU.sub {P:Program}{f:FuncId}{args:List V}{hin hout hout':List (Nat×AObj)}{res u:V}(h:aU P f args hin res hout) (hs:Sub (keys hin) (mk [(0,u)] hout') (mk [(0,res)] hout)):aU P f args hin u hout':=by
 intro S μ w vals J hv;refine Calls.mono (h S μ w vals J hv) ?_;rintro e w' ⟨S',μ',v,h1,h2,h3⟩;have I:Ctx.keeps ⟨w,S,wA μ (look hin),μ,look hin⟩ (keys hin):=aCc
 obtain⟨S2,N,g⟩:=hs _ 1 S' μ' ⟨#[v],[]⟩ w' I ⟨h2,rfl,rfl,fun t y e=>by
  simp only[mk,look] at e;split at e
  ·rename_i hb;cases e;rw[Ab hb];exact h3
  ·cases e⟩
 exact⟨S2,N,v,h1,g.inv,g.env 0 u rfl⟩
theorem aU.plain {P:Program}{f:FuncId}{args:List V}{id te es n:Nat}{rows:List (List C)}{fz:Nat}(h:aU P f args [] (.one (.hs id 0 n n)) [(id,.arr te es rows fz)]) (hn:n=rows.length):aU P f args [] (.one (.c (.sl es rows))) []:=by
 refine h.sub ?_;have h1:Sub [] ⟨look [(0,V.one (.hs id 0 n n))],upd (look [(id,AObj.arr te es rows fz)]) id (some (.arr te es rows 2)),[]⟩ (mk [(0,.one (.hs id 0 n n))] [(id,.arr te es rows fz)]):=Sub.freeze (st:=mk [(0,.one (.hs id 0 n n))] [(id,.arr te es rows fz)]) dP;refine Sub.trans (Sub.trans ?_ (Sub.conv (t:=0) (v:=.one (.hs id 0 n n)) rfl (hs_all (aM _ _ _) rfl hn rfl))) h1;exact Sub.list (fun i=>i) ⟨rfl,trivial⟩ trivial rfl
theorem Sub.varPure {kf:List Nat}{st:St}{x tv:Nat}{cells:List R}{ids:List Nat}{cs:List C}(h:st.h x=some (.var tv cells)) (hp:PureL st.h ids cells cs):Sub kf ⟨st.e,upd st.h x (some (.var tv (cs.map R.c))),st.d⟩ st:=by
 intro G n S μ a w _ hs;have hi:=hs.inv;obtain⟨b,vs,g1,g2,g3,g4⟩:=hi.obj x _ h
 have I:Evolve S μ st.h S μ (upd st.h x (some (.var tv (cs.map R.c)))):=⟨S.le_refl,fun j y hj=>by
  by_cases u:j=x
  ·subst u;rw[h] at hj;cases hj;exact⟨_,aM _ _ _,by simp[AObj.succ]⟩
  ·exact⟨y,by rw[bJ _ _ _ u];exact hj,y.succ_refl rfl⟩⟩
 have hold:∀j y,upd st.h x (some (.var tv (cs.map R.c))) j=some y→∃y',st.h j=some y':=fun j y hj=>by
  by_cases u:j=x
  ·subst u;exact⟨_,h⟩
  ·rw[bJ _ _ _ u] at hj;exact⟨_,hj⟩
 refine⟨S,μ,⟨⟨hi.holds,fun j y hj=>?_,fun i j y y' b c c' J hj hm O=>?_,fun i y b c J hm=>?_,hi.frame,hi.sle,hi.sto,hi.evo.trans I,hi.fre⟩,hs.size,hs.defers.evolve I,fun s v e=>bE.evolve I v _ (hs.env s v e)⟩⟩
 ·by_cases u:j=x
  ·subst u;have N:some (AObj.var tv (cs.map R.c))=some y:=by rw[←hj];exact(aM _ _ _).symm
   cases N;exact⟨b,vs,g1,g2,(hp.rel (fun _ _=>rfl) hi.obj g3).toR,g4⟩
  ·have N:st.h j=some y:=by rw[←hj];exact(bJ _ _ _ u).symm
   exact(hi.obj j y N).evolve I rfl fun _ _ _=>⟨rfl,fun _=>rfl,rfl⟩
 ·obtain⟨_,h1⟩:=hold _ _ J;obtain⟨_,h2⟩:=hold _ _ hj;exact hi.inj i j _ _ b c c' h1 h2 hm O
 ·obtain⟨_,h1⟩:=hold _ _ J;exact hi.own i _ b c h1 hm
theorem vp {kf:List Nat}{st:St}(x:Nat) {tv:Nat}{cells:List R}(cs:List C) {ids:List Nat}(h:st.h x=some (.var tv cells):=by rfl)
  (hp:PureL st.h ids cells cs:=by repeat (first | exact .nil | apply Go.AM.PureL.c .refl | apply Go.AM.PureL.c .nl | apply Go.AM.PureL.c .sn | (apply Go.AM.PureL.hs;rfl;(first | rfl | assumption | (simp;done) | (simp;omega));(first | rfl | exact Go.AM.take_all (by first | assumption | rfl | (simp;done) | (simp;omega)) | exact Go.AM.take_map.symm)))):Sub kf ⟨st.e,upd st.h x (some (.var tv (cs.map R.c))),st.d⟩ st:=Sub.varPure h hp
theorem cv {kf:List Nat}{st:St}(t:Nat) {id te es n sz:Nat}{l:List (List C)}(l':List (List C)) (h:st.e t=some (.one (.hs id 0 n sz)):=by rfl) (hh:st.h id=some (.arr te es l 2):=by rfl) (h1:n=l.length:=by first | rfl | assumption | (simp;done) | (simp;omega)) (h2:sz=l.length:=by first | rfl | assumption | (simp;done) | (simp;omega)) (h3:l=l':=by first | rfl | assumption | (simp;done)):Sub kf ⟨upd st.e t (some (.one (.c (.sl es l')))),st.h,st.d⟩ st:=by
 subst h3;exact Sub.conv h (.one (.hs hh h2 (by rw[h1,Cc,Al]) .nil))
end Go.AM
namespace Go.Proofs.YtockgoadliilhaaGreatDoor
open Go Go.AM
def zl_:Tr:=.leaf none
def zl0:Tr:=.leaf (some ⟨.fn,1,8,[.zv 1]⟩)
def zl1:Tr:=.leaf (some ⟨.int .u8,1,1,[.int .u8 0]⟩)
def zl2:Tr:=.leaf (some ⟨.int .i64,1,8,[.int .i64 0]⟩)
def zl3:Tr:=.leaf (some ⟨.str,1,16,[.str []]⟩)
def zl4:Tr:=.leaf (some ⟨.int .u64,1,8,[.int .u64 0]⟩)
def zl5:Tr:=.leaf (some ⟨.int .i32,1,4,[.int .i32 0]⟩)
def zl6:Tr:=.leaf (some ⟨.st [(0,24),(1,25)],2,48,[.nl,.nl]⟩)
def zl7:Tr:=.leaf (some ⟨.st [(0,22),(1,3)],2,32,[.nl,.int .i64 0]⟩)
def tr:Tr:=
 .node 101 (.node 50 (.node 25 (.node 12 (.node 6 (.node 3 (.node 1 zl_ (.node 1 zl0 zl2)) (.node 1 zl2 (.node 1 (.leaf (some ⟨.bool,1,1,[.bool false]⟩)) zl1))) (.node 3 (.node 1 zl1 (.node 1 (.leaf (some ⟨.st [(0,2),(1,3),(2,4),(3,6)],4,24,[.int .i64 0,.int .i64 0,.bool false,.int .u8 0]⟩)) (.leaf (some ⟨.st [(0,2),(1,3),(2,4),(3,6)],4,24,[.int .i64 0,.int .i64 0,.bool false,.int .u8 0]⟩)))) (.node 1 zl3 (.node 1 zl3 zl3)))) (.node 6 (.node 3 (.node 1 zl4 (.node 1 (.leaf (some ⟨.st [(0,9),(1,12)],2,24,[.str [],.int .u64 0]⟩)) (.leaf (some ⟨.st [(0,9),(1,12)],2,24,[.str [],.int .u64 0]⟩)))) (.node 1 (.leaf (some ⟨.pt 189,1,8,[.np]⟩)) (.node 1 (.leaf (some ⟨.pt 192,1,8,[.np]⟩)) (.leaf (some ⟨.pt 200,1,8,[.np]⟩))))) (.node 3 (.node 1 (.leaf (some ⟨.st [(0,17)],1,8,[.np]⟩)) (.node 1 (.leaf (some ⟨.st [(0,17)],1,8,[.np]⟩)) zl_)) (.node 2 (.node 1 zl5 (.leaf (some ⟨.sl 3,1,24,[.nl]⟩))) (.node 1 (.leaf (some ⟨.sl 22,1,24,[.nl]⟩)) (.leaf (some ⟨.sl 95,1,24,[.nl]⟩))))))) (.node 12 (.node 6 (.node 3 (.node 1 (.leaf (some ⟨.sl 58,1,24,[.nl]⟩)) (.node 1 zl6 zl6)) (.node 1 zl6 (.node 1 zl_ zl0))) (.node 3 (.node 1 (.leaf (some ⟨.sl 33,1,24,[.nl]⟩)) (.node 1 (.leaf (some ⟨.st [(0,3),(1,3),(2,9),(3,31)],4,56,[.int .i64 0,.int .i64 0,.str [],.nl]⟩)) (.leaf (some ⟨.st [(0,3),(1,3),(2,9),(3,31)],4,56,[.int .i64 0,.int .i64 0,.str [],.nl]⟩)))) (.node 1 (.leaf (some ⟨.sl 37,1,24,[.nl]⟩)) (.node 1 (.leaf (some ⟨.sl 88,1,24,[.nl]⟩)) (.leaf (some ⟨.st [(0,3),(1,3),(2,9),(3,33),(7,34),(8,25),(9,35)],10,160,[.int .i64 0,.int .i64 0,.str [],.int .i64 0,.int .i64 0,.str [],.nl,.nl,.nl,.nl]⟩)))))) (.node 6 (.node 3 (.node 1 (.leaf (some ⟨.st [(0,3),(1,3),(2,9),(3,33),(7,34),(8,25),(9,35)],10,160,[.int .i64 0,.int .i64 0,.str [],.int .i64 0,.int .i64 0,.str [],.nl,.nl,.nl,.nl]⟩)) (.node 1 zl0 zl_)) (.node 1 zl0 (.node 1 zl2 zl_))) (.node 3 (.node 1 zl0 (.node 1 zl0 zl0)) (.node 2 (.node 1 zl0 zl0) (.node 1 zl0 zl0)))))) (.node 25 (.node 12 (.node 6 (.node 3 (.node 1 zl0 (.node 1 zl0 (.leaf (some ⟨.sl 54,1,24,[.nl]⟩)))) (.node 1 (.leaf (some ⟨.st [(0,3),(1,3),(2,9),(3,52)],4,56,[.int .i64 0,.int .i64 0,.str [],.nl]⟩)) (.node 1 (.leaf (some ⟨.st [(0,3),(1,3),(2,9),(3,52)],4,56,[.int .i64 0,.int .i64 0,.str [],.nl]⟩)) zl_))) (.node 3 (.node 1 zl0 (.node 1 (.leaf (some ⟨.st [(0,9),(1,33),(5,37)],15,232,[.str [],.int .i64 0,.int .i64 0,.str [],.nl,.int .i64 0,.int .i64 0,.str [],.int .i64 0,.int .i64 0,.str [],.nl,.nl,.nl,.nl]⟩)) (.leaf (some ⟨.st [(0,9),(1,33),(5,37)],15,232,[.str [],.int .i64 0,.int .i64 0,.str [],.nl,.int .i64 0,.int .i64 0,.str [],.int .i64 0,.int .i64 0,.str [],.nl,.nl,.nl,.nl]⟩)))) (.node 1 zl0 (.node 1 zl0 zl0)))) (.node 6 (.node 3 (.node 1 zl0 (.node 1 zl0 (.leaf (some ⟨.sl 9,1,24,[.nl]⟩)))) (.node 1 (.leaf (some ⟨.pt 68,1,8,[.np]⟩)) (.node 1 zl0 zl7))) (.node 3 (.node 1 zl7 (.node 1 zl0 (.leaf (some ⟨.pt 71,1,8,[.np]⟩)))) (.node 2 (.node 1 zl7 zl0) (.node 1 zl0 zl0))))) (.node 13 (.node 6 (.node 3 (.node 1 zl0 (.node 1 (.leaf (some ⟨.sl 146,1,24,[.nl]⟩)) (.leaf (some ⟨.st [(0,76),(1,64),(2,3)],3,56,[.nl,.nl,.int .i64 0]⟩)))) (.node 1 (.leaf (some ⟨.st [(0,76),(1,64),(2,3)],3,56,[.nl,.nl,.int .i64 0]⟩)) (.node 1 zl0 zl0))) (.node 3 (.node 1 (.leaf (some ⟨.st [(0,27)],2,48,[.nl,.nl]⟩)) (.node 1 (.leaf (some ⟨.st [(0,27)],2,48,[.nl,.nl]⟩)) zl0)) (.node 2 (.node 1 zl0 zl0) (.node 1 zl0 (.leaf (some ⟨.st [(0,3),(1,3),(2,9),(3,64),(4,37)],14,216,[.int .i64 0,.int .i64 0,.str [],.nl,.int .i64 0,.int .i64 0,.str [],.int .i64 0,.int .i64 0,.str [],.nl,.nl,.nl,.nl]⟩)))))) (.node 6 (.node 3 (.node 1 (.leaf (some ⟨.st [(0,3),(1,3),(2,9),(3,64),(4,37)],14,216,[.int .i64 0,.int .i64 0,.str [],.nl,.int .i64 0,.int .i64 0,.str [],.int .i64 0,.int .i64 0,.str [],.nl,.nl,.nl,.nl]⟩)) (.node 1 zl0 zl0)) (.node 1 zl0 (.node 1 zl_ zl0))) (.node 3 (.node 1 (.leaf (some ⟨.st [(0,9),(1,3),(2,3),(3,3),(4,33)],8,96,[.str [],.int .i64 0,.int .i64 0,.int .i64 0,.int .i64 0,.int .i64 0,.str [],.nl]⟩)) (.node 1 (.leaf (some ⟨.st [(0,9),(1,3),(2,3),(3,3),(4,33)],8,96,[.str [],.int .i64 0,.int .i64 0,.int .i64 0,.int .i64 0,.int .i64 0,.str [],.nl]⟩)) zl0)) (.node 2 (.node 1 (.leaf (some ⟨.pt 99,1,8,[.np]⟩)) (.leaf (some ⟨.st [(0,27),(2,3)],3,56,[.nl,.nl,.int .i64 0]⟩))) (.node 1 (.leaf (some ⟨.st [(0,27),(2,3)],3,56,[.nl,.nl,.int .i64 0]⟩)) zl0))))))) (.node 50 (.node 25 (.node 12 (.node 6 (.node 3 (.node 1 zl0 (.node 1 zl0 zl0)) (.node 1 zl0 (.node 1 zl0 zl0))) (.node 3 (.node 1 zl0 (.node 1 zl0 zl0)) (.node 1 zl_ (.node 1 zl0 zl0)))) (.node 6 (.node 3 (.node 1 zl0 (.node 1 zl_ zl0)) (.node 1 zl0 (.node 1 zl0 (.leaf (some ⟨.pt 37,1,8,[.np]⟩))))) (.node 3 (.node 1 zl0 (.node 1 zl0 (.leaf (some ⟨.sl 126,1,24,[.nl]⟩)))) (.node 2 (.node 1 zl0 (.leaf (some ⟨.sl 158,1,24,[.nl]⟩))) (.node 1 (.leaf (some ⟨.sl 118,1,24,[.nl]⟩)) (.leaf (some ⟨.st [(0,123),(1,124)],2,48,[.nl,.nl]⟩))))))) (.node 12 (.node 6 (.node 3 (.node 1 (.leaf (some ⟨.st [(0,123),(1,124)],2,48,[.nl,.nl]⟩)) (.node 1 zl_ zl0)) (.node 1 zl0 (.node 1 zl0 zl_))) (.node 3 (.node 1 zl0 (.node 1 zl0 zl0)) (.node 1 zl0 (.node 1 (.leaf (some ⟨.sl 5,1,24,[.nl]⟩)) zl0)))) (.node 6 (.node 3 (.node 1 zl0 (.node 1 zl0 zl0)) (.node 1 zl0 (.node 1 zl0 zl0))) (.node 3 (.node 1 zl0 (.node 1 (.leaf (some ⟨.st [(0,9),(1,33)],5,72,[.str [],.int .i64 0,.int .i64 0,.str [],.nl]⟩)) (.leaf (some ⟨.st [(0,9),(1,33)],5,72,[.str [],.int .i64 0,.int .i64 0,.str [],.nl]⟩)))) (.node 2 (.node 1 zl0 zl0) (.node 1 zl0 zl0)))))) (.node 25 (.node 12 (.node 6 (.node 3 (.node 1 zl0 (.node 1 zl0 zl_)) (.node 1 (.leaf (some ⟨.mp 9 152,1,8,[.zv 0]⟩)) (.node 1 zl0 zl0))) (.node 3 (.node 1 zl0 (.node 1 (.leaf (some ⟨.pt 9,1,8,[.np]⟩)) (.leaf (some ⟨.pt 58,1,8,[.np]⟩)))) (.node 1 (.leaf (some ⟨.pt 88,1,8,[.np]⟩)) (.node 1 zl0 zl0)))) (.node 6 (.node 3 (.node 1 zl0 (.node 1 zl0 zl0)) (.node 1 zl0 (.node 1 zl0 zl0))) (.node 3 (.node 1 zl0 (.node 1 zl0 zl_)) (.node 2 (.node 1 zl4 zl0) (.node 1 zl0 zl_))))) (.node 13 (.node 6 (.node 3 (.node 1 zl0 (.node 1 zl0 zl_)) (.node 1 (.leaf (some ⟨.int .u32,1,4,[.int .u32 0]⟩)) (.node 1 zl_ zl0))) (.node 3 (.node 1 zl4 (.node 1 zl0 zl0)) (.node 2 (.node 1 zl_ zl_) (.node 1 zl0 (.leaf (some ⟨.st [(0,17),(1,17),(2,17),(3,9)],4,40,[.np,.np,.np,.str []]⟩)))))) (.node 6 (.node 3 (.node 1 (.leaf (some ⟨.st [(0,17),(1,17),(2,17),(3,9)],4,40,[.np,.np,.np,.str []]⟩)) (.node 1 (.leaf (some ⟨.ar 0 16,0,0,[]⟩)) (.leaf (some ⟨.st [(0,190)],0,0,[]⟩)))) (.node 1 (.leaf (some ⟨.st [(0,190)],0,0,[]⟩)) (.node 1 zl1 zl1))) (.node 3 (.node 1 zl0 (.node 1 (.leaf (some ⟨.pt 5,1,8,[.np]⟩)) zl5)) (.node 2 (.node 1 zl5 (.leaf (some ⟨.st [(0,12),(1,12),(2,179),(3,193),(4,5),(5,5),(6,194),(7,195),(8,196),(9,197),(10,198)],11,48,[.int .u64 0,.int .u64 0,.int .u32 0,.int .u8 0,.int .u8 0,.int .u8 0,.int .u8 0,.zv 1,.np,.int .i32 0,.int .i32 0]⟩))) (.node 1 (.leaf (some ⟨.st [(0,12),(1,12),(2,179),(3,193),(4,5),(5,5),(6,194),(7,195),(8,196),(9,197),(10,198)],11,48,[.int .u64 0,.int .u64 0,.int .u32 0,.int .u8 0,.int .u8 0,.int .u8 0,.int .u8 0,.zv 1,.np,.int .i32 0,.int .i32 0]⟩)) zl_)))))))
theorem trw:tr.wf=true:=by kernel_rfl
theorem tok:Tok Tryz.prog tr.flat:=by unfold Tok;kernel_rfl
theorem tg {t:Nat}{i:TI}(h:tr.get t=some i):tr.flat[t]?=some (some i):=Tr.get_ok trw h
theorem mixed:Tryz.prog.follows .mixedOrders=true:=by kernel_rfl
section
variable {ro:Option Nat}{n:Nat}{ops:Array Oper}{draw:Bool}{k k':Nat}{e:Nat→Option V}{h0:dC}{d0:List Nat}{st':St}{pre pre':REs}{tr':Tr}{ob:List Prop}{kf:List Nat}{id:Nat}
theorem ag {Q:Exit→St→Prop}(hs:List (Nat×Hn)) (h:xR Tryz.prog tr true false n ops.toList hs 1000 0 ops.toList e h0 d0 [] []=some (st',k',pre',ob)) (u:Q .normal st')
  (hc:jC ob:=by repeat (first | exact trivial | refine⟨by first | omega | assumption | exact⟨by kernel_rfl,by assumption⟩ | rfl | (simp only[Bl,List.length_nil];omega) | (simp;done) | (simp;omega),?_⟩)) (h1:Nat.beq k' ops.size=true:=by rfl) (h2:(!draw || (gG (qX ops) pre'.reverse []&&iY ops))=true:=by kernel_rfl):AWp ro Tryz.prog n kf (.region id ops draw) ⟨e,h0,d0⟩ Q:=
 aXc mixed trw tok h hc h1 h2 u
theorem agN {Q:Exit→St→Prop}(hs:List (Nat×Hn)) (h:xR Tryz.prog tr true true n ops.toList hs 1000 0 ops.toList e h0 d0 [] []=some (st',k',pre',ob)) (u:Q .normal st')
  (hc:jC ob:=by repeat (first | exact trivial | refine⟨by first | omega | assumption | exact⟨by kernel_rfl,by assumption⟩ | rfl | (simp only[Bl,List.length_nil];omega) | (simp;done) | (simp;omega),?_⟩)) (h1:Nat.beq k' ops.size=true:=by rfl) (h2:(!draw || (gG (qX ops) pre'.reverse []&&iY ops))=true:=by kernel_rfl):AWp ro Tryz.prog n kf (.region id ops draw) ⟨e,h0,d0⟩ Q:=
 aXc mixed trw tok h hc h1 h2 u
theorem ak {Q:St→Prop}(m:Nat) (hs:List (Nat×Hn)) (h:xR Tryz.prog tr true false n ops.toList hs m k (ops.toList.drop k) e h0 d0 pre []=some (st',k',pre',ob)) (hk:lW Tryz.prog n ops draw k' st' pre' Q)
  (hc:jC ob:=by repeat (first | exact trivial | refine⟨by first | omega | assumption | exact⟨by kernel_rfl,by assumption⟩ | rfl | (simp only[Bl,List.length_nil];omega) | (simp;done) | (simp;omega),?_⟩)):lW Tryz.prog n ops draw k ⟨e,h0,d0⟩ pre Q:=
 ax_ m trw tok h hc hk
theorem akN {Q:St→Prop}(m:Nat) (hs:List (Nat×Hn)) (h:xR Tryz.prog tr true true n ops.toList hs m k (ops.toList.drop k) e h0 d0 pre []=some (st',k',pre',ob)) (hk:lW Tryz.prog n ops draw k' st' pre' Q)
  (hc:jC ob:=by repeat (first | exact trivial | refine⟨by first | omega | assumption | exact⟨by kernel_rfl,by assumption⟩ | rfl | (simp only[Bl,List.length_nil];omega) | (simp;done) | (simp;omega),?_⟩)):lW Tryz.prog n ops draw k ⟨e,h0,d0⟩ pre Q:=
 ax_ m trw tok h hc hk
theorem agF {Q:Exit→St→Prop}{J:Nat→Option V}{u:dC}{d1:List Nat}{I:List Prop}{res:Res}{L:List (Nat×Option V)}(m:Nat) (hs:List (Nat×Hn)) (g1:xR Tryz.prog tr true false n ops.toList hs m 0 ops.toList e h0 d0 [] []=some (⟨J,u,d1⟩,k',pre',I))
  (g2:qK Tryz.prog tr true false n ops.toList hs (a0l (ops.toList.drop k')) 1000 k' (ops.toList.drop k') J u d1 [] pre' I=some res) (g3:uJ res (a0l (ops.toList.drop k'))=some L) (N:Q .normal ⟨oG J L,u,d1⟩)
  (O:res.obs:=by repeat (first | exact trivial | refine⟨fun _=>?_,fun _=>?_⟩ | refine⟨by first | omega | assumption | exact⟨by kernel_rfl,by assumption⟩ | rfl | (simp only[Bl,List.length_nil];omega) | (simp;done) | (simp;omega),?_⟩)) (Y:res.good ops draw=true:=by kernel_rfl):AWp ro Tryz.prog n kf (.region id ops draw) ⟨e,h0,d0⟩ Q:=
 aZ3 m mixed trw tok g1 g2 g3 O Y N
theorem az {Q:St→Prop}(u:Q ⟨e,h0,d0⟩) (h1:Nat.beq k ops.size=true:=by rfl) (h2:(!draw || (gG (qX ops) pre.reverse []&&iY ops))=true:=by kernel_rfl):lW Tryz.prog n ops draw k ⟨e,h0,d0⟩ pre Q:=z_ h1 h2 u
theorem sgh {Q:Exit→St→Prop}{y:Code}(hs:List (Nat×Hn)) (h:xR Tryz.prog tr true false n ops.toList hs 1000 0 ops.toList e h0 d0 [] []=some (st',k',pre',ob)) (u:AWp ro Tryz.prog n kf y st' Q)
  (hc:jC ob:=by repeat (first | exact trivial | refine⟨by first | omega | assumption | exact⟨by kernel_rfl,by assumption⟩ | rfl | (simp only[Bl,List.length_nil];omega) | (simp;done) | (simp;omega),?_⟩)) (h1:Nat.beq k' ops.size=true:=by rfl) (h2:(!draw || (gG (qX ops) pre'.reverse []&&iY ops))=true:=by kernel_rfl):AWp ro Tryz.prog n kf (.seq (.region id ops draw) y) ⟨e,h0,d0⟩ Q:=
 a8 (ag hs h u hc h1 h2)
theorem sg {Q:Exit→St→Prop}{y:Code}(h:xR Tryz.prog tr true false n ops.toList [] 1000 0 ops.toList e h0 d0 [] []=some (st',k',pre',ob)) (u:AWp ro Tryz.prog n kf y st' Q)
  (hc:jC ob:=by repeat (first | exact trivial | refine⟨by first | omega | assumption | exact⟨by kernel_rfl,by assumption⟩ | rfl | (simp only[Bl,List.length_nil];omega) | (simp;done) | (simp;omega),?_⟩)) (h1:Nat.beq k' ops.size=true:=by rfl) (h2:(!draw || (gG (qX ops) pre'.reverse []&&iY ops))=true:=by kernel_rfl):AWp ro Tryz.prog n kf (.seq (.region id ops draw) y) ⟨e,h0,d0⟩ Q:=
 sgh [] h u hc h1 h2
theorem skh {Q:Exit→St→Prop}{y:Code}(m:Nat) (hs:List (Nat×Hn)) (h:xR Tryz.prog tr true false n ops.toList hs m 0 (ops.toList.drop 0) e h0 d0 [] []=some (st',k',pre',ob)) (hk:lW Tryz.prog n ops draw k' st' pre' (fun st'=>AWp ro Tryz.prog n kf y st' Q))
  (hc:jC ob:=by repeat (first | exact trivial | refine⟨by first | omega | assumption | exact⟨by kernel_rfl,by assumption⟩ | rfl | (simp only[Bl,List.length_nil];omega) | (simp;done) | (simp;omega),?_⟩)):AWp ro Tryz.prog n kf (.seq (.region id ops draw) y) ⟨e,h0,d0⟩ Q:=
 a8 (aI mixed (ak m hs h hk hc))
theorem sk {Q:Exit→St→Prop}{y:Code}(m:Nat) (h:xR Tryz.prog tr true false n ops.toList [] m 0 (ops.toList.drop 0) e h0 d0 [] []=some (st',k',pre',ob)) (hk:lW Tryz.prog n ops draw k' st' pre' (fun st'=>AWp ro Tryz.prog n kf y st' Q))
  (hc:jC ob:=by repeat (first | exact trivial | refine⟨by first | omega | assumption | exact⟨by kernel_rfl,by assumption⟩ | rfl | (simp only[Bl,List.length_nil];omega) | (simp;done) | (simp;omega),?_⟩)):AWp ro Tryz.prog n kf (.seq (.region id ops draw) y) ⟨e,h0,d0⟩ Q:=
 skh m [] h hk hc
theorem kz {Q:St→Prop}(m:Nat) (h:xR Tryz.prog tr true false n ops.toList [] m k (ops.toList.drop k) e h0 d0 pre []=some (st',k',pre',ob)) (u:Q st')
  (hc:jC ob:=by repeat (first | exact trivial | refine⟨by first | omega | assumption | exact⟨by kernel_rfl,by assumption⟩ | rfl | (simp only[Bl,List.length_nil];omega) | (simp;done) | (simp;omega),?_⟩)) (h1:Nat.beq k' ops.size=true:=by rfl) (h2:(!draw || (gG (qX ops) pre'.reverse []&&iY ops))=true:=by kernel_rfl):lW Tryz.prog n ops draw k ⟨e,h0,d0⟩ pre Q:=
 ak m [] h (z_ h1 h2 u) hc
end
set_option maxRecDepth 20000
abbrev Str:=List UInt8
def b6 (s:Str):List C:=[.str s]
inductive Ty where
 | mk (form n:Int) (name:Str) (args:List Ty)
mutual
inductive Core where
 | mk (form n:Int) (name:Str) (ty:Ty) (kids:List Core) (binds:List Bind) (alts:List Alt)
inductive Bind where
 | mk (name:Str) (ty:Ty) (body:Core)
inductive Alt where
 | mk (form n:Int) (name:Str) (vars:List Str) (body:Core)
end
def Ty.form:Ty→Int | .mk f _ _ _=>f
def Ty.n:Ty→Int | .mk _ n _ _=>n
def Ty.name:Ty→Str | .mk _ _ s _=>s
def Ty.args:Ty→List Ty | .mk _ _ _ l=>l
def Core.form:Core→Int | .mk f _ _ _ _ _ _=>f
def Core.n:Core→Int | .mk _ n _ _ _ _ _=>n
def Core.name:Core→Str | .mk _ _ s _ _ _ _=>s
def Core.ty:Core→Ty | .mk _ _ _ t _ _ _=>t
def Core.kids:Core→List Core | .mk _ _ _ _ l _ _=>l
def Core.binds:Core→List Bind | .mk _ _ _ _ _ l _=>l
def Core.alts:Core→List Alt | .mk _ _ _ _ _ _ l=>l
def Bind.name:Bind→Str | .mk s _ _=>s
def Bind.ty:Bind→Ty | .mk _ t _=>t
def Bind.body:Bind→Core | .mk _ _ c=>c
def Alt.form:Alt→Int | .mk f _ _ _ _=>f
def Alt.n:Alt→Int | .mk _ n _ _ _=>n
def Alt.name:Alt→Str | .mk _ _ s _ _=>s
def Alt.vars:Alt→List Str | .mk _ _ _ l _=>l
def Alt.body:Alt→Core | .mk _ _ _ _ c=>c
mutual
def fV:Ty→List (List C)
 | .mk _ _ _ a=>eV a
def eV:List Ty→List (List C)
 | []=>[]
 | t::l=>[.int .i64 t.form,.int .i64 t.n,.str t.name,.sl 4 (fV t)]::eV l
end
def bD (t:Ty):List C:=[.int .i64 t.form,.int .i64 t.n,.str t.name,.sl 4 (fV t)]
mutual
def nB:Core→List (List C)
 | .mk _ _ _ _ l _ _=>aO l
def oY:Core→List (List C)
 | .mk _ _ _ _ _ l _=>aQ l
def j7:Core→List (List C)
 | .mk _ _ _ _ _ _ l=>bV l
def aO:List Core→List (List C)
 | []=>[]
 | c::l=>[.int .i64 c.form,.int .i64 c.n,.str c.name,.int .i64 c.ty.form,.int .i64 c.ty.n,.str c.ty.name,.sl 4 (fV c.ty),.sl 10 (nB c),.sl 15 (oY c),.sl 14 (j7 c)]::aO l
def aY1:Bind→List C
 | .mk _ _ c=>[.int .i64 c.form,.int .i64 c.n,.str c.name,.int .i64 c.ty.form,.int .i64 c.ty.n,.str c.ty.name,.sl 4 (fV c.ty),.sl 10 (nB c),.sl 15 (oY c),.sl 14 (j7 c)]
def aQ:List Bind→List (List C)
 | []=>[]
 | b::l=>([.str b.name,.int .i64 b.ty.form,.int .i64 b.ty.n,.str b.ty.name,.sl 4 (fV b.ty)]++aY1 b)::aQ l
def aY0:Alt→List C
 | .mk _ _ _ _ c=>[.int .i64 c.form,.int .i64 c.n,.str c.name,.int .i64 c.ty.form,.int .i64 c.ty.n,.str c.ty.name,.sl 4 (fV c.ty),.sl 10 (nB c),.sl 15 (oY c),.sl 14 (j7 c)]
def bV:List Alt→List (List C)
 | []=>[]
 | a::l=>([.int .i64 a.form,.int .i64 a.n,.str a.name,.sl 1 (a.vars.map b6)]++aY0 a)::bV l
end
def aB (c:Core):List C:=[.int .i64 c.form,.int .i64 c.n,.str c.name,.int .i64 c.ty.form,.int .i64 c.ty.n,.str c.ty.name,.sl 4 (fV c.ty),.sl 10 (nB c),.sl 15 (oY c),.sl 14 (j7 c)]
def b8 (b:Bind):List C:=[.str b.name,.int .i64 b.ty.form,.int .i64 b.ty.n,.str b.ty.name,.sl 4 (fV b.ty)]++aB b.body
def c7 (a:Alt):List C:=[.int .i64 a.form,.int .i64 a.n,.str a.name,.sl 1 (a.vars.map b6)]++aB a.body
theorem bW {α:Type}{l:List α}{k:Nat}{x:α}(f:α→List C) (h:l[k]?=some x):(l.map f)[k]?=some (f x):=by rw[A5,h];rfl
theorem aJ {α:Type}{l:List α}{k:Nat}(h:k<l.length):∃x,l[k]?=some x:=⟨l[k],by simp[h]⟩
theorem aR:∀l:List Core,aO l=l.map aB
 | []=>by simp[aO]
 | c::l=>by rw[aO,aR l];rfl
theorem bH:∀l:List Bind,aQ l=l.map b8
 | []=>by simp[aQ]
 | .mk s t c::l=>by rw[aQ,bH l];rfl
theorem bF:∀l:List Alt,bV l=l.map c7
 | []=>by simp[bV]
 | .mk f n s v c::l=>by rw[bV,bF l];rfl
theorem iK:∀l:List Ty,eV l=l.map bD
 | []=>by simp[eV]
 | c::l=>by rw[eV,iK l];rfl
theorem xG (c:Core):nB c=c.kids.map aB:=by cases c;rw[nB,aR];rfl
theorem aFd (c:Core):j7 c=c.alts.map c7:=by cases c;rw[j7,bF];rfl
def few (c:Core):Bool:=if c.form=4∨c.form=10 then decide ((c.kids.length:Int)<2) else decide (c.form=5∨c.form=6∨c.form=7∨c.form=8∨c.form=9)&&decide ((c.kids.length:Int)<1)
theorem a34 (c:Core):aU Tryz.prog 81 [.pa (aB c)] [] (B (few c)) []:=by
 refine bQ (n:=46) tok Tryz.func81 rfl rfl rfl ?_;refine sg rfl (sg rfl (a8 (a8 (agF 4 [] rfl rfl rfl (aA rfl (fun hb=>?_) (fun hb=>?_))))))
 ·refine sg rfl (aE ?_);have:c.form=4∨c.form=10:=by simpa using hb
  exact⟨.inr rfl,⟨_,_,.tmp rfl .nil,.cons .refl .nil,by simp[aLu,few,this,xG]⟩,trivial,rfl⟩
 ·refine aD ?_;have h1:¬(c.form=4∨c.form=10):=by simpa using hb
  exact a8 (agF 4 [] rfl rfl rfl (a8 (agF 2 [] rfl rfl rfl (aE ⟨.inr rfl,⟨_,_,.tmp rfl .nil,.cons .refl .nil,by simp[aLu,few,h1,xG]⟩,trivial,rfl⟩))))
def Fits {α:Type}(l:List α):Prop:=l.length≤1152921504606846976
theorem kX (l:List Str) (s:Str) (hl:Fits l):aU Tryz.prog 63 [.one (.c (.sl 1 (l.map b6))),Go.AM.T s] [] (B (decide (s∈l))) []:=by
 unfold Fits at hl;refine bQ (n:=18) tok Tryz.func63 rfl rfl rfl ?_;refine sg rfl (a8 (sg rfl (aC (aK (fun k:Nat=>mk [(0,.one (.c (.sl 1 (l.map b6)))),(1,Go.AM.T s),(5,I .i64 k)] []) (fun k=>k≤l.length∧s∉l.take k) (fun k=>l.length-k) 0 ⟨Ag _,by simp⟩ (.list (fun i=>i) ⟨rfl,rfl,rfl,trivial⟩ trivial rfl) ?_))));intro k ⟨hk,hm⟩;refine a8 (sg rfl (aA rfl (fun hb=>?_) (fun hb=>?_)))
 ·refine aD ?_;have J:k<l.length:=by simpa using hb
  obtain⟨x,hx⟩:=aJ J;have Y:=bW b6 hx;refine a8 (aC (sgh [(2,.row k (b6 x))] rfl (aA rfl (fun hb=>?_) (fun hb=>?_))))
  ·refine sg rfl (aE ?_);have u:x=s:=by simpa using hb
   have:s∈l:=by rw[←u];exact η hx
   exact⟨.inr rfl,⟨_,_,.tmp rfl .nil,.cons .refl .nil,by simp[aLu,this]⟩,trivial,rfl⟩
  ·refine aD (ag [] rfl ⟨k+1,⟨J,?_⟩,by dsimp only;omega,.list (fun i=>i) ⟨rfl,rfl,rfl,trivial⟩ trivial rfl⟩);rw[Bh,hx];have u:¬x=s:=by simpa using hb
   have N:¬s=x:=fun e=>u e.symm
   simp[hm,N]
 ·refine aL ?_;have O:k=l.length:=by
   have:¬k<l.length:=by simpa using hb
   omega
  refine sg rfl (aE ?_);rw[O,Al] at hm;exact⟨.inr rfl,⟨_,_,.tmp rfl .nil,.cons .refl .nil,by simp[aLu,hm]⟩,trivial,rfl⟩
def oM (n k:Int):Int:=(if n<0 then -(n+1) else n)%k
def i64 (n:Int):Prop:= -9223372036854775808≤n∧n≤9223372036854775807
theorem fD (n:Int) {k:Int}(hk:0<k):0≤oM n k∧oM n k<k:=⟨Int.emod_nonneg _ (by omega),Int.emod_lt_of_pos _ hk⟩
theorem o7 (n k:Int) (hn:i64 n) (hk:1≤k):aU Tryz.prog 16 [I .i64 n,I .i64 k] [] (I .i64 (oM n k)) []:=by
 unfold i64 at hn;refine bQ (n:=13) tok Tryz.func16 rfl rfl rfl ?_;refine sg rfl (a8 (sg rfl (aA rfl (fun hb=>?_) (fun hb=>?_))))
 ·have h0:n<0:=by simpa using hb
  exact ag [] rfl (sg rfl (aE ⟨.inr rfl,⟨_,_,.tmp rfl .nil,.cons .refl .nil,by simp[aLu,oM,h0]⟩,trivial,rfl⟩))
 ·have h0:¬n<0:=by simpa using hb
  exact aD (sg rfl (aE ⟨.inr rfl,⟨_,_,.tmp rfl .nil,.cons .refl .nil,by simp[aLu,oM,h0]⟩,trivial,rfl⟩))
def aKm (n:Int):List C:=[.int .i64 n]
def oneOf (l:List Str) (n:Int):Str:=(l[(oM n l.length).toNat]?).getD []
theorem sL {l:List Str}{n:Int}{k:Nat}(hl:0<l.length) (h:oM n l.length=k):(l.map b6)[k]?=some (b6 (oneOf l n)):=by
 have h1:=(fD n (k:=l.length) (by omega)).2
 have hk:k<l.length:=by omega
 unfold oneOf;rw[h];simp[hk]
def nmL:List Str:=[[120],[121],[97],[98],[122,64,49]]
def aQb:List Str:=[[78],[67],[84,114,117,101],[75,64]]
def u6:List Str:=[[97,100,100],[115,117,98],[109,117,108],[100,105,118],[101,113],[108,116]]
def lT:List Str:=[[97],[98],[99],[120]]
theorem aCv (n:Int) (hn:i64 n):aU Tryz.prog 51 [I .i64 n] [] (Go.AM.T (oneOf nmL n)) []:=by
 refine bQ (n:=8) tok Tryz.func51 rfl rfl rfl ?_;refine sg rfl ?_;obtain⟨k,hk⟩:=Int.eq_ofNat_of_zero_le (fD n (k:=5) (by omega)).1;have hx:=sL (l:=nmL) (n:=n) (by decide) hk;have u:=(fD n (k:=5) (by omega)).2
 refine sk 2 rfl (kc (o7 n 5 hn (by omega)) ?_);exact ak 3 [(3,.row k []),(4,.row k (b6 (oneOf nmL n)))] rfl (az (aE ⟨.inr rfl,⟨_,_,.tmp rfl .nil,.cons .refl .nil,rfl⟩,trivial,rfl⟩))
theorem aUk (n:Int) (hn:i64 n):aU Tryz.prog 52 [I .i64 n] [] (Go.AM.T (oneOf aQb n)) []:=by
 refine bQ (n:=8) tok Tryz.func52 rfl rfl rfl ?_;refine sg rfl ?_;obtain⟨k,hk⟩:=Int.eq_ofNat_of_zero_le (fD n (k:=4) (by omega)).1;have hx:=sL (l:=aQb) (n:=n) (by decide) hk;have u:=(fD n (k:=4) (by omega)).2
 refine sk 2 rfl (kc (o7 n 4 hn (by omega)) ?_);exact ak 3 [(3,.row k []),(4,.row k (b6 (oneOf aQb n)))] rfl (az (aE ⟨.inr rfl,⟨_,_,.tmp rfl .nil,.cons .refl .nil,rfl⟩,trivial,rfl⟩))
theorem a3x (n:Int) (hn:i64 n):aU Tryz.prog 56 [I .i64 n] [] (Go.AM.T (oneOf u6 n)) []:=by
 refine bQ (n:=8) tok Tryz.func56 rfl rfl rfl ?_;refine sg rfl ?_;obtain⟨k,hk⟩:=Int.eq_ofNat_of_zero_le (fD n (k:=6) (by omega)).1;have hx:=sL (l:=u6) (n:=n) (by decide) hk;have u:=(fD n (k:=6) (by omega)).2
 refine sk 2 rfl (kc (o7 n 6 hn (by omega)) ?_);exact ak 3 [(3,.row k []),(4,.row k (b6 (oneOf u6 n)))] rfl (az (aE ⟨.inr rfl,⟨_,_,.tmp rfl .nil,.cons .refl .nil,rfl⟩,trivial,rfl⟩))
theorem rH (n:Int) (hn:i64 n):aU Tryz.prog 54 [I .i64 n] [] (Go.AM.T (oneOf lT n)) []:=by
 refine bQ (n:=8) tok Tryz.func54 rfl rfl rfl ?_;refine sg rfl ?_;obtain⟨k,hk⟩:=Int.eq_ofNat_of_zero_le (fD n (k:=4) (by omega)).1;have hx:=sL (l:=lT) (n:=n) (by decide) hk;have u:=(fD n (k:=4) (by omega)).2
 refine sk 2 rfl (kc (o7 n 4 hn (by omega)) ?_);exact ak 3 [(3,.row k []),(4,.row k (b6 (oneOf lT n)))] rfl (az (aE ⟨.inr rfl,⟨_,_,.tmp rfl .nil,.cons .refl .nil,rfl⟩,trivial,rfl⟩))
def aA8 (a b:Ty):Ty:=.mk 4 0 [] [a,b]
def arrow:Str:=[45,62]
def iZ (a b:Ty):Ty:=aA8 (aA8 (.mk 3 0 arrow []) a) b
theorem aZv (a b:Ty):aU Tryz.prog 57 [.pa (bD a),.pa (bD b)] [] (.pa (bD (aA8 a b))) []:=by
 obtain⟨f,n,s,l⟩:=a;obtain⟨f',u,s',l'⟩:=b;refine bQ (n:=9) tok Tryz.func57 rfl rfl rfl ?_;refine sg rfl (sg rfl (AWp.sub (Sub.freeze (id:=7) rfl) (aE ?_)));exact⟨.inr rfl,⟨_,_,.cell rfl (tg rfl) rfl rfl rfl .nil,.cons (.agg (.c .refl (.c .refl (.c .refl (.hs rfl rfl rfl .nil))))) .nil,rfl⟩,trivial,rfl⟩
theorem uX (a b:Ty):aU Tryz.prog 26 [.pa (bD a),.pa (bD b)] [] (.pa (bD (iZ a b))) []:=by
 obtain⟨f,n,s,l⟩:=a;obtain⟨f',u,s',l'⟩:=b;refine bQ (n:=10) tok Tryz.func26 rfl rfl rfl ?_;refine sg rfl (sk 2 rfl (kc (aZv (.mk 3 0 arrow []) (.mk f n s l)) ?_));refine ak 1 [] rfl (kc (aZv (aA8 (.mk 3 0 arrow []) (.mk f n s l)) (.mk f' u s' l')) ?_);exact kz 1 rfl (aE ⟨.inr rfl,⟨_,_,.cell rfl (tg rfl) rfl rfl rfl .nil,.cons .refl .nil,rfl⟩,trivial,rfl⟩)
def b9:List Int→Int×List Int
 | []=>(0,[])
 | x::l=>(oM x 1000,l)
def mkO (l:List Int) (left:Int):List (Nat×AObj):=[(700,.var 68 [.c (.sl 1 (l.map aKm)),.c (.int .i64 left)])]
def aDx (l:List Int):Prop:=∀x∈l,i64 x
theorem aI0 (l:List Int) (left:Int) (hl:aDx l) (hf:Fits l):aU Tryz.prog 50 [.one (.vp 700 0)] (mkO l left) (I .i64 (b9 l).1) (mkO (b9 l).2 left):=by
 unfold Fits at hf;refine bQ (n:=26) tok Tryz.func50 rfl rfl rfl ?_;refine sg rfl (a8 (sg rfl ?_));cases l with
 | nil=>
  exact aA rfl (fun hb=>sg rfl (aE ⟨.inr rfl,⟨_,_,.tmp rfl .nil,.cons .refl .nil,rfl⟩,⟨⟨_,rfl,.var rfl⟩,trivial⟩,rfl⟩)) (fun hb=>by simp at hb)
 | cons x l=>
  refine aA rfl (fun hb=>by simp at hb;omega) (fun hb=>aD (sk 6 rfl (kc (o7 x 1000 (hl x (by simp)) (by omega)) ?_)));exact kz 1 rfl (sg rfl (sg rfl (aE ⟨.inr rfl,⟨_,_,.tmp rfl .nil,.cons .refl .nil,rfl⟩,⟨⟨_,rfl,.var rfl⟩,trivial⟩,rfl⟩)))
theorem fS (l:List Int):(b9 l).2<:+l:=by
 cases l with
 | nil=>exact suffix_refl _
 | cons x l=>exact⟨[x],rfl⟩
theorem nU (l:List Int):0≤(b9 l).1∧(b9 l).1<1000:=by
 cases l with
 | nil=>simp[b9]
 | cons x l=>exact fD x (by omega)
theorem aDx.suf {l l':List Int}(h:aDx l) (hs:l'<:+l):aDx l':=fun x hx=>h x (hs.subset hx)
theorem Fits.suf {l l':List Int}(h:Fits l) (hs:l'<:+l):Fits l':=by
 have:=hs.length_le;unfold Fits at *;omega
def vQ:Ty:=.mk 3 0 [73,110,116] []
def tL:Ty:=.mk 3 0 [76] []
def cR:Nat→List Int→Ty×List Int
 | 0,l=>if(b9 l).1%3<2 then(.mk 2 0 (oneOf lT ((b9 l).1/6)) [],(b9 l).2) else(vQ,(b9 l).2)
 | f+1,l=>
  if(b9 l).1%6<2 then(.mk 2 0 (oneOf lT ((b9 l).1/6)) [],(b9 l).2)
  else if(b9 l).1%6=2 then(vQ,(b9 l).2)
  else if(b9 l).1%6=3 then(iZ (cR f (b9 l).2).1 (cR f (cR f (b9 l).2).2).1,(cR f (cR f (b9 l).2).2).2)
  else if(b9 l).1%6=4 then(aA8 tL (cR f (b9 l).2).1,(cR f (b9 l).2).2)
  else(.mk 5 0 (oneOf lT ((b9 l).1/6)) [(cR f (b9 l).2).1],(cR f (b9 l).2).2)
theorem hJ:∀(f:Nat) (l:List Int),(cR f l).2<:+l
 | 0,l=>by
  unfold cR;split<;>exact fS l
 | f+1,l=>by
  have h1:=(hJ f (b9 l).2).trans (fS l);have h2:=(hJ f (cR f (b9 l).2).2).trans h1;unfold cR;split
  ·exact fS l
  ·split
   ·exact fS l
   ·split
    ·exact h2
    ·split<;>exact h1
def tyV (t:Ty):V:=.pa (bD t)
theorem aKp (left:Int):∀(f:Nat) (l:List Int) (Z:Int),aDx l→Fits l→Z+f=3→1≤Z→aU Tryz.prog 53 [.one (.vp 700 0),I .i64 Z] (mkO l left) (tyV (cR f l).1) (mkO (cR f l).2 left):=by
 intro f
 induction f with
 | zero=>
  intro l Z hl hf hd h1;have hn:=nU l;refine bQ (n:=57) tok Tryz.func53 rfl rfl rfl ?_;refine sg rfl (sk 1 rfl (kc (aI0 l left hl hf) ?_));refine kz 1 rfl (sg rfl (a8 (sg rfl (aA rfl (fun hb=>ag [] rfl (a8 (sg rfl (aC (a8 (sg rfl (aA rfl (fun hb=>?_) (fun hb=>?_)))))))) (fun hb=>by simp at hb;omega)))))
  ·have u:cR 0 l=(.mk 2 0 (oneOf lT ((b9 l).1/6)) [],(b9 l).2):=by
    unfold cR;rw[ξ (by simp at hb;omega)]
   refine aD (aA rfl (fun _=>sk 2 rfl (kc (rH ((b9 l).1/6) (by unfold i64;omega)) ?_)) (fun hb'=>by rw[hb] at hb';cases hb'));refine kz 2 rfl (aE ?_);rw[u];exact⟨.inr rfl,⟨_,_,.cell rfl (tg rfl) rfl rfl rfl .nil,.cons (.pa (.c .refl (.c .refl (.c .refl (.c .nl .nil))))) .nil,rfl⟩,⟨⟨_,rfl,.var rfl⟩,trivial⟩,rfl⟩
  ·refine ag [] rfl (aA rfl (fun J=>?_) (fun J=>?_))
   ·have u:cR 0 l=(.mk 2 0 (oneOf lT ((b9 l).1/6)) [],(b9 l).2):=by
     unfold cR;rw[ξ (by simp at J;omega)]
    refine sk 2 rfl (kc (rH ((b9 l).1/6) (by unfold i64;omega)) ?_);refine kz 2 rfl (aE ?_);rw[u];exact⟨.inr rfl,⟨_,_,.cell rfl (tg rfl) rfl rfl rfl .nil,.cons (.pa (.c .refl (.c .refl (.c .refl (.c .nl .nil))))) .nil,rfl⟩,⟨⟨_,rfl,.var rfl⟩,trivial⟩,rfl⟩
   ·have u:cR 0 l=(vQ,(b9 l).2):=by
     unfold cR;rw[φ (by simp at hb J;omega)]
    refine sg rfl (aA rfl (fun N=>sg rfl (aE ?_)) (fun N=>by simp at hb J N;omega));rw[u];exact⟨.inr rfl,⟨_,_,.cell rfl (tg rfl) rfl rfl rfl .nil,.cons (.pa (.c .refl (.c .refl (.c .refl (.c .nl .nil))))) .nil,rfl⟩,⟨⟨_,rfl,.var rfl⟩,trivial⟩,rfl⟩
 | succ f ih=>
  intro l Z hl hf hd h1;have hn:=nU l;have hl1:=hl.suf (fS l);have hf1:=hf.suf (fS l);have hl2:=hl1.suf (hJ f (b9 l).2);have hf2:=hf1.suf (hJ f (b9 l).2);refine bQ (n:=57) tok Tryz.func53 rfl rfl rfl ?_;refine sg rfl (sk 1 rfl (kc (aI0 l left hl hf) ?_));refine kz 1 rfl (sg rfl (a8 (sg rfl (aA rfl (fun hb=>by simp at hb;omega) (fun hb=>aD (a8 (sg rfl (aC (a8 (sg rfl (aA rfl (fun hb=>?_) (fun hb=>?_))))))))))))
  ·have u:cR (f+1) l=(.mk 2 0 (oneOf lT ((b9 l).1/6)) [],(b9 l).2):=by
    unfold cR;rw[ξ (by simp at hb;omega)]
   refine aD (aA rfl (fun _=>sk 2 rfl (kc (rH ((b9 l).1/6) (by unfold i64;omega)) ?_)) (fun hb'=>by rw[hb] at hb';cases hb'));refine kz 2 rfl (aE ?_);rw[u];exact⟨.inr rfl,⟨_,_,.cell rfl (tg rfl) rfl rfl rfl .nil,.cons (.pa (.c .refl (.c .refl (.c .refl (.c .nl .nil))))) .nil,rfl⟩,⟨⟨_,rfl,.var rfl⟩,trivial⟩,rfl⟩
  ·refine ag [] rfl (aA rfl (fun J=>?_) (fun J=>?_))
   ·have u:cR (f+1) l=(.mk 2 0 (oneOf lT ((b9 l).1/6)) [],(b9 l).2):=by
     unfold cR;rw[ξ (by simp at J;omega)]
    refine sk 2 rfl (kc (rH ((b9 l).1/6) (by unfold i64;omega)) ?_);refine kz 2 rfl (aE ?_);rw[u];exact⟨.inr rfl,⟨_,_,.cell rfl (tg rfl) rfl rfl rfl .nil,.cons (.pa (.c .refl (.c .refl (.c .refl (.c .nl .nil))))) .nil,rfl⟩,⟨⟨_,rfl,.var rfl⟩,trivial⟩,rfl⟩
   ·have aa:¬(b9 l).1%6<2:=by simp at hb J;omega
    refine sg rfl (aA rfl (fun N=>?_) (fun N=>?_))
    ·have u:cR (f+1) l=(vQ,(b9 l).2):=by
      have h2:(b9 l).1%6=2:=by simpa using N
      unfold cR;rw[φ aa,ξ h2]
     refine sg rfl (aE ?_);rw[u];exact⟨.inr rfl,⟨_,_,.cell rfl (tg rfl) rfl rfl rfl .nil,.cons (.pa (.c .refl (.c .refl (.c .refl (.c .nl .nil))))) .nil,rfl⟩,⟨⟨_,rfl,.var rfl⟩,trivial⟩,rfl⟩
    ·have h2:¬(b9 l).1%6=2:=by simpa using N
     have O:=ih (b9 l).2 (Z+1) hl1 hf1 (by omega) (by omega);have Y:=ih (cR f (b9 l).2).2 (Z+1) hl2 hf2 (by omega) (by omega);refine sg rfl (aA rfl (fun ab=>?_) (fun ab=>?_))
     ·have h3:(b9 l).1%6=3:=by simpa using ab
      have u:cR (f+1) l=(iZ (cR f (b9 l).2).1 (cR f (cR f (b9 l).2).2).1,(cR f (cR f (b9 l).2).2).2):=by
       rw[cR,φ aa,φ h2,ξ h3]
      rw[u];generalize cR f (cR f (b9 l).2).2=r2 at Y ⊢;generalize cR f (b9 l).2=r1 at O Y ⊢;obtain⟨⟨f1,n1,s1,a1⟩,l1⟩:=r1;obtain⟨⟨f2,n2,s2,a2⟩,l2⟩:=r2;refine sk 3 rfl (kc O ?_);refine kz 2 rfl (sk 4 rfl (kc Y ?_));refine kc (uX (.mk f1 n1 s1 a1) (.mk f2 n2 s2 a2)) ?_;exact kz 1 rfl (aE ⟨.inr rfl,⟨_,_,.cell rfl (tg rfl) rfl rfl rfl .nil,.cons .refl .nil,rfl⟩,⟨⟨_,rfl,.var rfl⟩,trivial⟩,rfl⟩)
     ·have h3:¬(b9 l).1%6=3:=by simpa using ab
      refine sg rfl (aA rfl (fun hb4=>?_) (fun hb4=>?_))
      ·have h4:(b9 l).1%6=4:=by simpa using hb4
       have u:cR (f+1) l=(aA8 tL (cR f (b9 l).2).1,(cR f (b9 l).2).2):=by
        rw[cR,φ aa,φ h2,φ h3,ξ h4]
       rw[u];clear Y;generalize cR f (b9 l).2=r1 at O ⊢;obtain⟨⟨f1,n1,s1,a1⟩,l1⟩:=r1;refine sk 4 rfl (kc O ?_);refine kz 3 rfl (AWp.sub (Sub.freeze (id:=46) rfl) (aE ?_));exact⟨.inr rfl,⟨_,_,.cell rfl (tg rfl) rfl rfl rfl .nil,.cons (.agg (.c .refl (.c .refl (.c .refl (.hs rfl rfl rfl .nil))))) .nil,rfl⟩,⟨⟨_,rfl,.var rfl⟩,trivial⟩,rfl⟩
      ·have h4:¬(b9 l).1%6=4:=by simpa using hb4
       have u:cR (f+1) l=(.mk 5 0 (oneOf lT ((b9 l).1/6)) [(cR f (b9 l).2).1],(cR f (b9 l).2).2):=by
        rw[cR,φ aa,φ h2,φ h3,φ h4]
       rw[u];clear Y;generalize cR f (b9 l).2=r1 at O ⊢;obtain⟨⟨f1,n1,s1,a1⟩,l1⟩:=r1;refine aD (sk 2 rfl (kc (rH ((b9 l).1/6) (by unfold i64;omega)) ?_));refine ak 3 [] rfl (kc O ?_);refine kz 3 rfl (AWp.sub (Sub.freeze (id:=55) rfl) (aE ?_));exact⟨.inr rfl,⟨_,_,.cell rfl (tg rfl) rfl rfl rfl .nil,.cons (.agg (.c .refl (.c .refl (.c .refl (.hs rfl rfl rfl .nil))))) .nil,rfl⟩,⟨⟨_,rfl,.var rfl⟩,trivial⟩,rfl⟩
def aZ8 (l:List Str) (s:Str):List Str:=if s∈l then l else l++[s]
def nameAt (n:Int) (i:Nat):Str:=oneOf nmL (n/4+(i:Int)*(1+n%2))
def eT (n:Int):Nat→List Str
 | 0=>[]
 | i+1=>aZ8 (eT n i) (nameAt n i)
def bG (l:List Int):List Str×List Int:=(eT (b9 l).1 ((b9 l).1%4).toNat,(b9 l).2)
theorem aUy (l:List Str) (s:Str):(aZ8 l s).length≤l.length+1:=by
 unfold aZ8;split<;>simp
theorem oS (n:Int):∀i:Nat,(eT n i).length≤i
 | 0=>le_refl _
 | i+1=>le_trans (aUy _ _) (Nat.succ_le_succ (oS n i))
theorem aQm (left:Int) (l:List Int) (hl:aDx l) (hf:Fits l):aU Tryz.prog 55 [.one (.vp 700 0)] (mkO l left) (.one (.c (.sl 1 ((bG l).1.map b6)))) (mkO (bG l).2 left):=by
 have hn:=nU l;refine bQ (n:=33) tok Tryz.func55 rfl rfl rfl ?_;refine sg rfl (sk 1 rfl (kc (aI0 l left hl hf) ?_));refine kz 1 rfl (sg rfl (a8 (sg rfl (AWp.sub (Sub.own (t:=4) (id:=500) 9 1 rfl rfl) (AWp.sub (Sub.freeze (id:=500) rfl) ?_)))));refine aC (aK (fun i:Nat=>mk [(3,I .i64 (b9 l).1),(4,.one (.hs 500 0 (eT (b9 l).1 i).length (eT (b9 l).1 i).length)),(5,I .i64 i)] ((500,.arr 9 1 ((eT (b9 l).1 i).map b6) 2)::mkO (b9 l).2 left)) (fun i=>(i:Int)≤(b9 l).1%4) (fun i=>4-i) 0 (by simp;omega) (.list (fun i=>i) ⟨rfl,rfl,rfl,trivial⟩ ⟨⟨_,rfl,.arr⟩,⟨_,rfl,.var rfl⟩,trivial⟩ rfl) ?_);intro i hi;have hlen:=oS (b9 l).1 i;refine a8 (sg rfl (aA rfl (fun hb=>?_) (fun hb=>?_)))
 ·refine aD ?_;have Y:(i:Int)<(b9 l).1%4:=by simpa using hb
  have u:i64 ((b9 l).1/4+(i:Int)*(1+(b9 l).1%2)):=by
   have h1:(i:Int)≤4:=by omega
   have h2:(i:Int)*(1+(b9 l).1%2)≤4*2:=Int.mul_le_mul h1 (by omega) (by omega) (by omega);have h3:0≤(i:Int)*(1+(b9 l).1%2):=Int.mul_nonneg (by omega) (by omega);unfold i64;omega
  have hm: -9223372036854775808≤(i:Int)*(1+(b9 l).1%2)∧(i:Int)*(1+(b9 l).1%2)≤9223372036854775807:=by
   have h1:(i:Int)≤4:=by omega
   have h2:(i:Int)*(1+(b9 l).1%2)≤4*2:=Int.mul_le_mul h1 (by omega) (by omega) (by omega);have h3:0≤(i:Int)*(1+(b9 l).1%2):=Int.mul_nonneg (by omega) (by omega);omega
  refine a8 (aC (a8 (aI mixed ?_)));unfold i64 at u;refine ak 8 [] rfl (kc (aCv _ u) ?_);refine kz 1 rfl (sk 2 rfl (kc (kX (eT (b9 l).1 i) (nameAt (b9 l).1 i) (by unfold Fits;omega)) ?_));refine kz 1 rfl (aA rfl (fun hb=>?_) (fun hb=>?_))
  ·have J:nameAt (b9 l).1 i∉eT (b9 l).1 i:=by simpa using hb
   refine ag [] rfl (AWp.sub (Sub.freeze (id:=500) rfl) ?_);refine ag [] rfl ?_;have he:eT (b9 l).1 (i+1)=eT (b9 l).1 i++[nameAt (b9 l).1 i]:=by rw[eT,aZ8,φ J]
   refine⟨i+1,by dsimp only;omega,by dsimp only;omega,.list (fun i=>i) ⟨rfl,?_,rfl,trivial⟩ ⟨⟨_,rfl,by rw[he,At];exact .arr⟩,⟨_,rfl,.var rfl⟩,trivial⟩ rfl⟩;show some (V.one (R.hs 500 0 _ _))=some (V.one (R.hs 500 0 _ _));rw[he];simp
  ·have J:nameAt (b9 l).1 i∈eT (b9 l).1 i:=by simpa using hb
   have he:eT (b9 l).1 (i+1)=eT (b9 l).1 i:=by rw[eT,aZ8,ξ J]
   refine aD (ag [] rfl ⟨i+1,by dsimp only;omega,by dsimp only;omega,?_⟩);dsimp only;rw[he];exact .list (fun i=>i) ⟨rfl,rfl,rfl,trivial⟩ ⟨⟨_,rfl,.arr⟩,⟨_,rfl,.var rfl⟩,trivial⟩ rfl
 ·have N:((b9 l).1%4).toNat=i:=by
   have:¬(i:Int)<(b9 l).1%4:=by simpa using hb
   omega
  have O:bG l=(eT (b9 l).1 i,(b9 l).2):=by unfold bG;rw[N]
  refine aL (sg rfl (aE ?_));rw[O];exact⟨.inr rfl,⟨_,_,.tmp rfl .nil,.cons (.one (.hs rfl (by simp) Go.AM.take_map.symm .nil)) .nil,rfl⟩,⟨⟨_,rfl,.var rfl⟩,trivial⟩,rfl⟩
def zTy:Ty:=.mk 0 0 [] []
abbrev Mk:=Core×List Int×Int
def bT (g:List Int→Int→Mk) (ns:List Str) (l:List Int) (left:Int):Nat→List Bind×List Int×Int
 | 0=>([],l,left)
 | i+1=>let r:=bT g ns l left i
  let c:=g (cR 2 r.2.1).2 r.2.2
  (r.1++[.mk (ns[i]?.getD []) (cR 2 r.2.1).1 c.1],c.2)
def cQ (g:List Int→Int→Mk) (n:Int) (l:List Int) (left:Int):Nat→List Alt×List Int×Int
 | 0=>([],l,left)
 | i+1=>let r:=cQ g n l left i
  let c:=g (bG r.2.1).2 r.2.2
  (r.1++[if i=1 then .mk 2 (n/14) [] [] c.1 else if i=2 then .mk 3 0 [] [] c.1 else .mk 1 0 (oneOf aQb (n/14+i)) (bG r.2.1).1 c.1],c.2)
def eL (g:List Int→Int→Mk) (n k:Int) (l:List Int) (left:Int):Mk:=
 if k<2 then(.mk 1 0 (oneOf nmL (n/14)) zTy [] [] [],l,left)
 else if k=2 then(.mk 2 0 (oneOf aQb (n/14)) zTy [] [] [],l,left)
 else if k=3 then(.mk 3 (n/14-3) [] zTy [] [] [],l,left)
 else if k<6 then(.mk 4 0 [] zTy [(g l left).1,(g (g l left).2.1 (g l left).2.2).1] [] [],(g (g l left).2.1 (g l left).2.2).2)
 else if k<8 then(.mk 5 0 (oneOf nmL (n/14)) (cR 2 l).1 [(g (cR 2 l).2 left).1] [] [],(g (cR 2 l).2 left).2)
 else if k=8 then(.mk 6 0 [] (cR 2 l).1 [(g (cR 2 l).2 left).1] [] [],(g (cR 2 l).2 left).2)
 else if k=9 then(.mk 7 0 (oneOf lT (n/14)) zTy [(g l left).1] [] [],(g l left).2)
 else if k=10 then
  let r:=bT g (bG l).1 (bG l).2 left (bG l).1.length
  (.mk 8 0 [] zTy [(g r.2.1 r.2.2).1] r.1 [],(g r.2.1 r.2.2).2)
 else if k=11 then
  let c:=g (cR 2 l).2 left
  let r:=cQ g n c.2.1 c.2.2 (n/14%4).toNat
  (.mk 9 0 [] (cR 2 l).1 [c.1] [] r.1,r.2)
 else if k=12 then(.mk 10 0 (oneOf u6 (n/14)) zTy [(g l left).1,(g (g l left).2.1 (g l left).2.2).1] [] [],(g (g l left).2.1 (g l left).2.2).2)
 else(.mk 11 0 [] (cR 2 l).1 [] [] [],(cR 2 l).2,left)
def oZ:Nat→List Int→Int→Mk
 | 0,l,left=>eL (fun l left=>(.mk 0 0 [] zTy [] [] [],l,left)) (b9 l).1 ((b9 l).1%4) (b9 l).2 (left-1)
 | f+1,l,left=>eL (oZ f) (b9 l).1 (if left-1<1 then(b9 l).1%4 else(b9 l).1%14) (b9 l).2 (left-1)
structure MkOk (g:List Int→Int→Mk) (N:Nat):Prop where
 suf:∀l left,(g l left).2.1<:+l
 le:∀l left,(g l left).2.2≤left
 ge:∀l left,left≤(g l left).2.2+N
theorem kR (l:List Int):(bG l).2<:+l:=fS l
theorem jA (l:List Int):(bG l).1.length≤3:=by
 have h1:=oS (b9 l).1 ((b9 l).1%4).toNat;have h2:((b9 l).1%4).toNat≤3:=by omega
 exact le_trans h1 h2
theorem rL {g:List Int→Int→Mk}{N:Nat}(h:MkOk g N) (ns:List Str) (l:List Int) (left:Int):∀i:Nat,(bT g ns l left i).2.1<:+l∧(bT g ns l left i).2.2≤left∧left≤(bT g ns l left i).2.2+(i:Int)*N∧(bT g ns l left i).1.length=i
 | 0=>by simp[bT]
 | i+1=>by
  obtain⟨h1,h2,h3,h4⟩:=rL h ns l left i;simp only[bT];refine⟨((h.suf _ _).trans (hJ 2 _)).trans h1,Int.le_trans (h.le _ _) h2,?_,by simp[h4]⟩;have:=h.ge (cR 2 (bT g ns l left i).2.1).2 (bT g ns l left i).2.2;rw[show((i+1:Nat):Int)*(N:Int)=(i:Int)*N+N by rw[Int.natCast_add,Int.add_mul];simp];omega
theorem vF {g:List Int→Int→Mk}{N:Nat}(h:MkOk g N) (n:Int) (l:List Int) (left:Int):∀i:Nat,(cQ g n l left i).2.1<:+l∧(cQ g n l left i).2.2≤left∧left≤(cQ g n l left i).2.2+(i:Int)*N∧(cQ g n l left i).1.length=i
 | 0=>by simp[cQ]
 | i+1=>by
  obtain⟨h1,h2,h3,h4⟩:=vF h n l left i;simp only[cQ];refine⟨((h.suf _ _).trans (kR _)).trans h1,Int.le_trans (h.le _ _) h2,?_,by simp[h4]⟩;have:=h.ge (bG (cQ g n l left i).2.1).2 (cQ g n l left i).2.2;rw[show((i+1:Nat):Int)*(N:Int)=(i:Int)*N+N by rw[Int.natCast_add,Int.add_mul];simp];omega
theorem aIt {g:List Int→Int→Mk}{N:Nat}(h:MkOk g N) (n k:Int) (l:List Int) (left:Int):(eL g n k l left).2.1<:+l∧(eL g n k l left).2.2≤left∧left≤(eL g n k l left).2.2+4*N:=by
 have ht:=hJ 2 l;have u:=h.suf l left;have hg2:=h.le l left;have hg3:=h.ge l left;have J:=h.suf (g l left).2.1 (g l left).2.2;have hh2:=h.le (g l left).2.1 (g l left).2.2;have hh3:=h.ge (g l left).2.1 (g l left).2.2;have I:=h.suf (cR 2 l).2 left;have hu2:=h.le (cR 2 l).2 left;have hu3:=h.ge (cR 2 l).2 left;unfold eL;split
 ·exact⟨suffix_refl _,Int.le_refl _,by dsimp only;omega⟩
 split
 ·exact⟨suffix_refl _,Int.le_refl _,by dsimp only;omega⟩
 split
 ·exact⟨suffix_refl _,Int.le_refl _,by dsimp only;omega⟩
 split
 ·exact⟨J.trans u,by dsimp only;omega,by dsimp only;omega⟩
 split
 ·exact⟨I.trans ht,by dsimp only;omega,by dsimp only;omega⟩
 split
 ·exact⟨I.trans ht,by dsimp only;omega,by dsimp only;omega⟩
 split
 ·exact⟨u,by dsimp only;omega,by dsimp only;omega⟩
 split
 ·have hl:=jA l;obtain⟨O,Y,Z,_⟩:=rL h (bG l).1 (bG l).2 left (bG l).1.length;have c1:=h.suf (bT g (bG l).1 (bG l).2 left (bG l).1.length).2.1 (bT g (bG l).1 (bG l).2 left (bG l).1.length).2.2;have c2:=h.le (bT g (bG l).1 (bG l).2 left (bG l).1.length).2.1 (bT g (bG l).1 (bG l).2 left (bG l).1.length).2.2;have c3:=h.ge (bT g (bG l).1 (bG l).2 left (bG l).1.length).2.1 (bT g (bG l).1 (bG l).2 left (bG l).1.length).2.2;have hm:(((bG l).1.length:Nat):Int)*(N:Int)≤3*(N:Int):=Bw (by omega) (by omega);exact⟨(c1.trans O).trans (kR l),by dsimp only;omega,by dsimp only;omega⟩
 split
 ·obtain⟨O,Y,Z,_⟩:=vF h n (g (cR 2 l).2 left).2.1 (g (cR 2 l).2 left).2.2 (n/14%4).toNat;have hm:(((n/14%4).toNat:Nat):Int)*(N:Int)≤3*(N:Int):=Bw (by omega) (by omega);exact⟨(O.trans I).trans ht,by dsimp only;omega,by dsimp only;omega⟩
 split
 ·exact⟨J.trans u,by dsimp only;omega,by dsimp only;omega⟩
 ·exact⟨ht,Int.le_refl _,by dsimp only;omega⟩
def use:Nat→Nat
 | 0=>1
 | f+1=>1+4*use f
theorem aIs:∀f:Nat,MkOk (oZ f) (use f)
 | 0=>by
  have h:MkOk (fun l left=>((.mk 0 0 [] zTy [] [] [],l,left):Mk)) 0:=⟨fun _ _=>suffix_refl _,fun _ _=>Int.le_refl _,fun _ _=>by simp⟩
  refine⟨fun l left=>?_,fun l left=>?_,fun l left=>?_⟩<;>obtain⟨h1,h2,h3⟩:=aIt h (b9 l).1 ((b9 l).1%4) (b9 l).2 (left-1)<;>simp only[oZ,use]
  ·exact h1.trans (fS l)
  ·omega
  ·simp only[Int.natCast_zero,Int.mul_zero,Int.add_zero] at h3;omega
 | f+1=>by
  have h:=aIs f;refine⟨fun l left=>?_,fun l left=>?_,fun l left=>?_⟩<;>obtain⟨h1,h2,h3⟩:=aIt h (b9 l).1 (if left-1<1 then(b9 l).1%4 else(b9 l).1%14) (b9 l).2 (left-1)<;>simp only[oZ,use]
  ·exact h1.trans (fS l)
  ·omega
  ·simp only[Int.natCast_add,Int.natCast_mul];omega
def gOf:Nat→List Int→Int→Mk
 | 0=>fun l left=>(.mk 0 0 [] zTy [] [] [],l,left)
 | f+1=>oZ f
theorem aT6 (f:Nat) (l:List Int) (left:Int):oZ f l left=eL (gOf f) (b9 l).1 (if f=0∨left-1<1 then(b9 l).1%4 else(b9 l).1%14) (b9 l).2 (left-1):=by
 cases f with
 | zero=>simp[oZ,gOf]
 | succ f=>simp[oZ,gOf]
def aRu (g:List Int→Int→Mk) (dp:Int) (N:Nat):Prop:=∀l left,aDx l→Fits l→ -9223372036854775808+(N:Int)≤left→left≤1000000→
 aU Tryz.prog 23 [.one (.vp 700 0),I .i64 dp] (mkO l left) (.pa (aB (g l left).1)) (mkO (g l left).2.1 (g l left).2.2)
theorem uZ (f:Nat) (dp:Int) (hd:dp+f=6) (h0:0≤dp) (ih:1≤f→aRu (gOf f) (dp+1) (use (f-1))) (hg:1≤f→MkOk (gOf f) (use (f-1))):aRu (oZ f) dp (use f):=by
 intro l left hl hf hlo hhi;have hn:=nU l;have N:=hl.suf (fS l);have O:=hf.suf (fS l);have huse:1≤use f:=by cases f<;>simp[use]
 refine bQ (n:=211) tok Tryz.func23 rfl rfl rfl ?_;refine sg rfl (sk 1 rfl (kc (aI0 l left hl hf) ?_));refine kz 1 rfl (sg rfl (sg rfl (a8 (AWp.cut (mk [(0,.one (.vp 700 0)),(1,I .i64 dp),(4,.one (.vp 4 0)),(5,I .i64 (b9 l).1),(6,I .i64 (if f=0∨left-1<1 then(b9 l).1%4 else(b9 l).1%14))] ((4,.var 37 [.c (.int .i64 0),.c (.int .i64 0),.c (.str []),.c (.int .i64 0),.c (.int .i64 0),.c (.str []),.c .nl,.c .nl,.c .nl,.c .nl])::mkO (b9 l).2 (left-1))) ?_ ?_))))
 ·refine a8 (agF 3 [] rfl rfl rfl (aA rfl (fun hb=>?_) (fun hb=>?_)))
  ·have hb':f=0∨left-1<1:=by
    simp at hb;omega
   refine ag [] rfl ?_;rw[ξ hb'];exact .list (fun i=>i) ⟨rfl,rfl,rfl,rfl,rfl,trivial⟩ ⟨⟨_,rfl,.var rfl⟩,⟨_,rfl,.var rfl⟩,trivial⟩ rfl
  ·have hb':¬(f=0∨left-1<1):=by
    simp at hb;omega
   refine aD ?_;rw[φ hb'];exact .list (fun i=>i) ⟨rfl,rfl,rfl,rfl,rfl,trivial⟩ ⟨⟨_,rfl,.var rfl⟩,⟨_,rfl,.var rfl⟩,trivial⟩ rfl
 have hr0:=aT6 f l left;have hk0:0≤(if f=0∨left-1<1 then(b9 l).1%4 else(b9 l).1%14):=by split<;>omega
 have ab:4≤(if f=0∨left-1<1 then(b9 l).1%4 else(b9 l).1%14)→1≤f∧1≤left-1:=by split<;>omega
 rw[hr0];clear hr0;generalize (if f=0∨left-1<1 then(b9 l).1%4 else(b9 l).1%14)=k at hk0 ab ⊢;generalize (b9 l).2=u at N O ⊢;generalize (b9 l).1=n at hn ⊢;have hlu: -9223372036854775808+(use f:Int)≤left:=hlo;refine a8 (sg rfl ?_)

 refine aC (a8 (sg rfl (aA rfl (fun hb=>?_) (fun hb=>?_))))
 ·have h0:k=0:=by simpa using hb
  refine aD (aA rfl (fun _=>?_) (fun hb'=>by rw[hb] at hb';cases hb'));have Y:eL (gOf f) n k u (left-1)=(.mk 1 0 (oneOf nmL (n/14)) zTy [] [] [],u,left-1):=by
   unfold eL;rw[ξ (by omega)]
  rw[Y];refine sk 2 rfl (kc (aCv (n/14) (by unfold i64;omega)) ?_);exact kz 2 rfl (aE (rtC trw))
 ·have h0:¬k=0:=by simpa using hb
  refine ag [] rfl (aA rfl (fun hb1=>?_) (fun hb1=>?_))
  ·have h1:k=1:=by simpa using hb1
   have Y:eL (gOf f) n k u (left-1)=(.mk 1 0 (oneOf nmL (n/14)) zTy [] [] [],u,left-1):=by
    unfold eL;rw[ξ (by omega)]
   rw[Y];refine sk 2 rfl (kc (aCv (n/14) (by unfold i64;omega)) ?_);exact kz 2 rfl (aE (rtC trw))
  ·have h1:¬k=1:=by simpa using hb1
   have c1:¬k<2:=by omega
   refine sg rfl (aA rfl (fun hb2=>?_) (fun hb2=>?_))
   ·have h2:k=2:=by simpa using hb2
    have Y:eL (gOf f) n k u (left-1)=(.mk 2 0 (oneOf aQb (n/14)) zTy [] [] [],u,left-1):=by
     unfold eL;rw[φ c1,ξ h2]
    rw[Y];refine sk 2 rfl (kc (aUk (n/14) (by unfold i64;omega)) ?_);exact kz 2 rfl (aE (rtC trw))
   ·have h2:¬k=2:=by simpa using hb2
    refine sg rfl (aA rfl (fun hb3=>?_) (fun hb3=>?_))
    ·have h3:k=3:=by simpa using hb3
     have Y:eL (gOf f) n k u (left-1)=(.mk 3 (n/14-3) [] zTy [] [] [],u,left-1):=by
      unfold eL;rw[φ c1,φ h2,ξ h3]
     rw[Y];exact sg rfl (aE (rtC trw))
    ·have h3:¬k=3:=by simpa using hb3
     refine a8 (sg rfl (aA rfl (fun hb4=>?_) (fun hb4=>?_)))
     ·have h4:k=4:=by simpa using hb4
      refine aD (aA rfl (fun _=>?_) (fun hb'=>by rw[hb4] at hb';cases hb'));obtain⟨J,hl0⟩:=ab (by omega);have Z:=hg J;have hu:use f=1+4*use (f-1):=by cases f with | zero=>omega | succ f=>rfl
      have g1:=Z.suf u (left-1);have g2:=Z.le u (left-1);have g3:=Z.ge u (left-1);have ih1:=ih J u (left-1) N O (by omega) (by omega);have ih2:=ih J (gOf f u (left-1)).2.1 (gOf f u (left-1)).2.2 (N.suf g1) (O.suf g1) (by omega) (by omega);have Y:eL (gOf f) n k u (left-1)=(.mk 4 0 [] zTy [(gOf f u (left-1)).1,(gOf f (gOf f u (left-1)).2.1 (gOf f u (left-1)).2.2).1] [] [],(gOf f (gOf f u (left-1)).2.1 (gOf f u (left-1)).2.2).2):=by
       unfold eL;rw[φ c1,φ h2,φ h3,ξ (by omega)]
      rw[Y];refine sk 3 rfl (kc ih1 ?_);refine kz 2 rfl (sk 4 rfl (kc ih2 ?_));refine kz 3 rfl (AWp.sub (Sub.freeze (id:=72) rfl) (aE (rtC trw)))
     ·have h4:¬k=4:=by simpa using hb4
      refine ag [] rfl (aA rfl (fun hb5=>?_) (fun hb5=>?_))
      ·have h5:k=5:=by simpa using hb5
       obtain⟨J,hl0⟩:=ab (by omega);have Z:=hg J;have hu:use f=1+4*use (f-1):=by cases f with | zero=>omega | succ f=>rfl
       have g1:=Z.suf u (left-1);have g2:=Z.le u (left-1);have g3:=Z.ge u (left-1);have ih1:=ih J u (left-1) N O (by omega) (by omega);have ih2:=ih J (gOf f u (left-1)).2.1 (gOf f u (left-1)).2.2 (N.suf g1) (O.suf g1) (by omega) (by omega);have Y:eL (gOf f) n k u (left-1)=(.mk 4 0 [] zTy [(gOf f u (left-1)).1,(gOf f (gOf f u (left-1)).2.1 (gOf f u (left-1)).2.2).1] [] [],(gOf f (gOf f u (left-1)).2.1 (gOf f u (left-1)).2.2).2):=by
        unfold eL;rw[φ c1,φ h2,φ h3,ξ (by omega)]
       rw[Y];refine sk 3 rfl (kc ih1 ?_);refine kz 2 rfl (sk 4 rfl (kc ih2 ?_));refine kz 3 rfl (AWp.sub (Sub.freeze (id:=72) rfl) (aE (rtC trw)))
      ·have h5:¬k=5:=by simpa using hb5
       have c2:¬k<6:=by omega
       refine a8 (sg rfl (aA rfl (fun hb6=>?_) (fun hb6=>?_)))
       ·have h6:k=6:=by simpa using hb6
        refine aD (aA rfl (fun _=>?_) (fun hb'=>by rw[hb6] at hb';cases hb'));obtain⟨J,hl0⟩:=ab (by omega);have Z:=hg J;have hu:use f=1+4*use (f-1):=by cases f with | zero=>omega | succ f=>rfl
        have ht:=hJ 2 u;have iht:=ih J (cR 2 u).2 (left-1) (N.suf ht) (O.suf ht) (by omega) (by omega);have aa:=aKp (left-1) 2 u 1 N O (by omega) (by omega);have Y:eL (gOf f) n k u (left-1)=(.mk 5 0 (oneOf nmL (n/14)) (cR 2 u).1 [(gOf f (cR 2 u).2 (left-1)).1] [] [],(gOf f (cR 2 u).2 (left-1)).2):=by
         unfold eL;rw[φ c1,φ h2,φ h3,φ c2,ξ (by omega)]
        rw[Y];refine sk 1 rfl (kc aa ?_);refine kz 2 rfl (sk 2 rfl (kc (aCv (n/14) (by unfold i64;omega)) ?_));refine ak 4 [] rfl (kc iht ?_);refine kz 3 rfl (AWp.sub (Sub.freeze (id:=87) rfl) (aE (rtC trw)))
       ·have h6:¬k=6:=by simpa using hb6
        refine ag [] rfl (aA rfl (fun hb7=>?_) (fun hb7=>?_))
        ·have h7:k=7:=by simpa using hb7
         obtain⟨J,hl0⟩:=ab (by omega);have Z:=hg J;have hu:use f=1+4*use (f-1):=by cases f with | zero=>omega | succ f=>rfl
         have ht:=hJ 2 u;have iht:=ih J (cR 2 u).2 (left-1) (N.suf ht) (O.suf ht) (by omega) (by omega);have aa:=aKp (left-1) 2 u 1 N O (by omega) (by omega);have Y:eL (gOf f) n k u (left-1)=(.mk 5 0 (oneOf nmL (n/14)) (cR 2 u).1 [(gOf f (cR 2 u).2 (left-1)).1] [] [],(gOf f (cR 2 u).2 (left-1)).2):=by
          unfold eL;rw[φ c1,φ h2,φ h3,φ c2,ξ (by omega)]
         rw[Y];refine sk 1 rfl (kc aa ?_);refine kz 2 rfl (sk 2 rfl (kc (aCv (n/14) (by unfold i64;omega)) ?_));refine ak 4 [] rfl (kc iht ?_);refine kz 3 rfl (AWp.sub (Sub.freeze (id:=87) rfl) (aE (rtC trw)))
        ·have h7:¬k=7:=by simpa using hb7
         have c3:¬k<8:=by omega
         refine sg rfl (aA rfl (fun hb8=>?_) (fun hb8=>?_))
         ·have h8:k=8:=by simpa using hb8
          obtain⟨J,hl0⟩:=ab (by omega);have Z:=hg J;have hu:use f=1+4*use (f-1):=by cases f with | zero=>omega | succ f=>rfl
          have ht:=hJ 2 u;have iht:=ih J (cR 2 u).2 (left-1) (N.suf ht) (O.suf ht) (by omega) (by omega);have aa:=aKp (left-1) 2 u 1 N O (by omega) (by omega);have Y:eL (gOf f) n k u (left-1)=(.mk 6 0 [] (cR 2 u).1 [(gOf f (cR 2 u).2 (left-1)).1] [] [],(gOf f (cR 2 u).2 (left-1)).2):=by
           unfold eL;rw[φ c1,φ h2,φ h3,φ c2,φ c3,ξ h8]
          rw[Y];refine sk 1 rfl (kc aa ?_);refine kz 2 rfl (sk 4 rfl (kc iht ?_));refine kz 3 rfl (AWp.sub (Sub.freeze (id:=98) rfl) (aE (rtC trw)))
         ·have h8:¬k=8:=by simpa using hb8
          refine sg rfl (aA rfl (fun hb9=>?_) (fun hb9=>?_))
          ·have h9:k=9:=by simpa using hb9
           obtain⟨J,hl0⟩:=ab (by omega);have Z:=hg J;have hu:use f=1+4*use (f-1):=by cases f with | zero=>omega | succ f=>rfl
           have g1:=Z.suf u (left-1);have g2:=Z.le u (left-1);have g3:=Z.ge u (left-1);have ih1:=ih J u (left-1) N O (by omega) (by omega);have ih2:=ih J (gOf f u (left-1)).2.1 (gOf f u (left-1)).2.2 (N.suf g1) (O.suf g1) (by omega) (by omega);have Y:eL (gOf f) n k u (left-1)=(.mk 7 0 (oneOf lT (n/14)) zTy [(gOf f u (left-1)).1] [] [],(gOf f u (left-1)).2):=by
            unfold eL;rw[φ c1,φ h2,φ h3,φ c2,φ c3,φ h8,ξ h9]
           rw[Y];refine sk 2 rfl (kc (rH (n/14) (by unfold i64;omega)) ?_);refine ak 3 [] rfl (kc ih1 ?_);refine kz 3 rfl (AWp.sub (Sub.freeze (id:=109) rfl) (aE (rtC trw)))
          ·have h9:¬k=9:=by simpa using hb9
           refine sg rfl (aA rfl (fun hb10=>?_) (fun hb10=>?_))
           ·have h10:k=10:=by simpa using hb10
            obtain⟨J,hl0⟩:=ab (by omega);have Z:=hg J;have hu:use f=1+4*use (f-1):=by cases f with | zero=>omega | succ f=>rfl
            have hnm:=jA u;have Y:eL (gOf f) n k u (left-1)=(.mk 8 0 [] zTy [(gOf f (bT (gOf f) (bG u).1 (bG u).2 (left-1) (bG u).1.length).2.1 (bT (gOf f) (bG u).1 (bG u).2 (left-1) (bG u).1.length).2.2).1] (bT (gOf f) (bG u).1 (bG u).2 (left-1) (bG u).1.length).1 [],(gOf f (bT (gOf f) (bG u).1 (bG u).2 (left-1) (bG u).1.length).2.1 (bT (gOf f) (bG u).1 (bG u).2 (left-1) (bG u).1.length).2.2).2):=by
             unfold eL;rw[φ c1,φ h2,φ h3,φ c2,φ c3,φ h8,φ h9,ξ h10]
            rw[Y];refine sk 1 rfl (kc (aQm (left-1) u N O) ?_);refine kz 1 rfl ?_;have hl2:=N.suf (kR u);have hf2:=O.suf (kR u);generalize (bG u).1=ns at hnm ⊢;generalize (bG u).2=l2 at hl2 hf2 ⊢;refine sg rfl (a8 (sg rfl (AWp.sub (Sub.ownCell (x:=11) (k:=8) (id:=800) 58 15 rfl rfl rfl) ?_)));have hB:=rL Z ns l2 (left-1);generalize hBd:bT (gOf f) ns l2 (left-1)=B at hB ⊢;refine aC (aK (fun i:Nat=>mk [(0,.one (.vp 700 0)),(1,I .i64 dp),(4,.one (.vp 4 0)),(10,.one (.c (.sl 1 (ns.map b6)))),(11,.one (.vp 11 0)),(12,I .i64 i)] ((4,.var 37 [.c (.int .i64 0),.c (.int .i64 0),.c (.str []),.c (.int .i64 0),.c (.int .i64 0),.c (.str []),.c .nl,.c .nl,.c .nl,.c .nl])::(11,.var 37 [.c (.int .i64 8),.c (.int .i64 0),.c (.str []),.c (.int .i64 0),.c (.int .i64 0),.c (.str []),.c .nl,.c .nl,.hs 800 0 (B i).1.length (B i).1.length,.c .nl])::(800,.arr 58 15 (aQ (B i).1) 0)::mkO (B i).2.1 (B i).2.2)) (fun i=>i≤ns.length) (fun i=>ns.length-i) 0 (Ag _) (by rw[←hBd];exact .list (fun i=>i) ⟨rfl,rfl,rfl,rfl,rfl,rfl,trivial⟩ ⟨⟨_,rfl,.var rfl⟩,⟨_,rfl,.var rfl⟩,⟨_,rfl,.arr⟩,⟨_,rfl,.var rfl⟩,trivial⟩ rfl) ?_);intro i hi;obtain⟨b1,b2,b3,b4⟩:=hB i;have hsz:(B i).1.length=(aQ (B i).1).length:=by rw[bH,θ]
            have hbl:(aQ (B i).1).length≤3:=by omega
            have hm:(i:Int)*(use (f-1):Int)≤3*(use (f-1):Int):=Bw (by omega) (by omega);have hlB:=hl2.suf b1;have hfB:=hf2.suf b1;refine a8 (sg rfl (aA rfl (fun hb=>?_) (fun hb=>?_)))
            ·refine aD ?_;have hlt:i<ns.length:=by simpa using hb
             obtain⟨s,hs⟩:=aJ hlt;have hs':=bW b6 hs;have aa:=aKp (B i).2.2 2 (B i).2.1 1 hlB hfB (by omega) (by omega);have htS:=hJ 2 (B i).2.1;have ihB:=ih J (cR 2 (B i).2.1).2 (B i).2.2 (hlB.suf htS) (hfB.suf htS) (by omega) (by omega);have he:B (i+1)=((B i).1++[.mk s (cR 2 (B i).2.1).1 (gOf f (cR 2 (B i).2.1).2 (B i).2.2).1],(gOf f (cR 2 (B i).2.1).2 (B i).2.2).2):=by
              rw[←hBd,bT,hs];rfl
             refine a8 (aC (sk 1 rfl (kc aa ?_)));refine kz 2 rfl (aI mixed (ak 10 [(4,.row i (b6 s))] rfl (kc ihB ?_)));refine kz 5 rfl (ag [] rfl ⟨i+1,hlt,by dsimp only;omega,?_⟩);dsimp only;rw[he];exact .list (fun i=>i) ⟨rfl,rfl,rfl,rfl,rfl,rfl,trivial⟩ ⟨⟨_,rfl,.var rfl⟩,⟨_,rfl,.var (by simp[R.renL,R.ren,bH])⟩,⟨_,rfl,by rw[bH ((B i).1++_),At,←bH];exact .arr⟩,⟨_,rfl,.var rfl⟩,trivial⟩ rfl
            ·have hie:i=ns.length:=by
              have:¬i<ns.length:=by simpa using hb
              omega
             rw[←hie];have ihB:=ih J (B i).2.1 (B i).2.2 hlB hfB (by omega) (by omega);have hE:aQ (B i).1=((aQ (B i).1).drop 0).take (B i).1.length:=by rw[Cc,hsz,Al]
             refine aL (sk 3 rfl (kc ihB ?_));refine kz 3 rfl (sg rfl (AWp.sub (Sub.freeze (id:=800) rfl) (AWp.sub (Sub.freeze (id:=143) rfl) (aE ?_))));exact⟨.inr rfl,⟨_,_,.cell rfl (tg rfl) rfl rfl rfl .nil,.cons (by(first | apply Go.AM.Conv.pa | apply Go.AM.Conv.agg);repeat (first | exact .nil | apply Go.AM.PureL.c .refl | apply Go.AM.PureL.c .nl | (apply Go.AM.PureL.hs;rfl;(first | rfl | assumption | simp);(first | exact hE | rfl)))) .nil,rfl⟩,⟨⟨_,rfl,.var rfl⟩,trivial⟩,rfl⟩
           ·have h10:¬k=10:=by simpa using hb10
            refine sg rfl (aA rfl (fun hb11=>?_) (fun hb11=>?_))
            ·have h11:k=11:=by simpa using hb11
             obtain⟨J,hl0⟩:=ab (by omega);have Z:=hg J;have hu:use f=1+4*use (f-1):=by cases f with | zero=>omega | succ f=>rfl
             have ht:=hJ 2 u;have iht:=ih J (cR 2 u).2 (left-1) (N.suf ht) (O.suf ht) (by omega) (by omega);have aa:=aKp (left-1) 2 u 1 N O (by omega) (by omega);have Y:eL (gOf f) n k u (left-1)=(.mk 9 0 [] (cR 2 u).1 [(gOf f (cR 2 u).2 (left-1)).1] [] (cQ (gOf f) n (gOf f (cR 2 u).2 (left-1)).2.1 (gOf f (cR 2 u).2 (left-1)).2.2 (n/14%4).toNat).1,(cQ (gOf f) n (gOf f (cR 2 u).2 (left-1)).2.1 (gOf f (cR 2 u).2 (left-1)).2.2 (n/14%4).toNat).2):=by
              unfold eL;rw[φ c1,φ h2,φ h3,φ c2,φ c3,φ h8,φ h9,φ h10,ξ h11]
             rw[Y];refine sk 1 rfl (kc aa ?_);refine kz 3 rfl (sk 3 rfl (kc iht ?_));refine kz 3 rfl ?_;have g1:=(Z.suf (cR 2 u).2 (left-1)).trans ht;have g2:=Z.le (cR 2 u).2 (left-1);have g3:=Z.ge (cR 2 u).2 (left-1);have hl2:=N.suf g1;have hf2:=O.suf g1;generalize gOf f (cR 2 u).2 (left-1)=c at g2 g3 hl2 hf2 ⊢;generalize (cR 2 u).1=t;refine a8 (sg rfl (AWp.sub (Sub.freeze (id:=155) rfl) (AWp.sub (Sub.ownCell (x:=14) (k:=9) (id:=900) 88 14 rfl rfl rfl) ?_)));have hA:=vF Z n c.2.1 c.2.2;generalize hAd:cQ (gOf f) n c.2.1 c.2.2=A at hA ⊢;refine aC (aK (fun i:Nat=>mk [(0,.one (.vp 700 0)),(1,I .i64 dp),(4,.one (.vp 4 0)),(5,I .i64 n),(14,.one (.vp 14 0)),(15,I .i64 i)] ((4,.var 37 [.c (.int .i64 0),.c (.int .i64 0),.c (.str []),.c (.int .i64 0),.c (.int .i64 0),.c (.str []),.c .nl,.c .nl,.c .nl,.c .nl])::(14,.var 37 [.c (.int .i64 9),.c (.int .i64 0),.c (.str []),.c (.int .i64 t.form),.c (.int .i64 t.n),.c (.str t.name),.c (.sl 4 (fV t)),.hs 155 0 1 1,.c .nl,.hs 900 0 (A i).1.length (A i).1.length])::(155,.arr 37 10 [aB c.1] 2)::(900,.arr 88 14 (bV (A i).1) 0)::mkO (A i).2.1 (A i).2.2)) (fun i=>(i:Int)≤n/14%4) (fun i=>4-i) 0 (by simp;omega) (by rw[←hAd];exact .list (fun i=>i) ⟨rfl,rfl,rfl,rfl,rfl,rfl,trivial⟩ ⟨⟨_,rfl,.var rfl⟩,⟨_,rfl,.var rfl⟩,⟨_,rfl,.arr⟩,⟨_,rfl,.arr⟩,⟨_,rfl,.var rfl⟩,trivial⟩ rfl) ?_);intro i hi;obtain⟨b1,b2,b3,b4⟩:=hA i;have hsz:(A i).1.length=(bV (A i).1).length:=by rw[bF,θ]
             have hbl:(bV (A i).1).length≤3:=by omega
             have hm:(i:Int)*(use (f-1):Int)≤3*(use (f-1):Int):=Bw (by omega) (by omega);have hlA:=hl2.suf b1;have hfA:=hf2.suf b1;refine a8 (sg rfl (aA rfl (fun hb=>?_) (fun hb=>?_)))
             ·refine aD ?_;have hlt:(i:Int)<n/14%4:=by simpa using hb
              have hm2:(i:Int)*(use (f-1):Int)≤2*(use (f-1):Int):=Bw (by omega) (by omega);have hnames:=aQm (A i).2.2 (A i).2.1 hlA hfA;have hnS:=kR (A i).2.1;have ihA:=ih J (bG (A i).2.1).2 (A i).2.2 (hlA.suf hnS) (hfA.suf hnS) (by omega) (by omega);have hi3:i=0∨i=1∨i=2:=by omega
              rcases hi3 with rfl | rfl | rfl
              ·--0
               have he:A (0+1)=((A 0).1++[.mk 1 0 (oneOf aQb (n/14+((0:Nat):Int))) (bG (A 0).2.1).1 (gOf f (bG (A 0).2.1).2 (A 0).2.2).1],(gOf f (bG (A 0).2.1).2 (A 0).2.2).2):=by
                rw[←hAd,cQ];rfl
               refine a8 (aC (sk 4 rfl (kc (aUk (n/14+((0:Nat):Int)) (by unfold i64;omega)) ?_)));refine ak 1 [] rfl (kc hnames ?_);refine kz 3 rfl (a8 (sg rfl (aA rfl (fun hb=>by simp at hb) (fun _=>aD (a8 (sg rfl (aA rfl (fun hb=>by simp at hb) (fun _=>aD (sk 3 rfl (kc ihA ?_))))))))));refine kz 2 rfl (ag [] rfl (ag [] rfl ⟨0+1,by omega,by dsimp only;omega,?_⟩));dsimp only;rw[he];exact .list (fun i=>i) ⟨rfl,rfl,rfl,rfl,rfl,rfl,trivial⟩ ⟨⟨_,rfl,.var rfl⟩,⟨_,rfl,.var (by simp[R.renL,R.ren,bF])⟩,⟨_,rfl,.arr⟩,⟨_,rfl,by rw[bF ((A 0).1++_),At,←bF];exact .arr⟩,⟨_,rfl,.var rfl⟩,trivial⟩ rfl
              ·--1
               have he:A (1+1)=((A 1).1++[.mk 2 (n/14) [] [] (gOf f (bG (A 1).2.1).2 (A 1).2.2).1],(gOf f (bG (A 1).2.1).2 (A 1).2.2).2):=by
                rw[←hAd,cQ];rfl
               refine a8 (aC (sk 4 rfl (kc (aUk (n/14+((1:Nat):Int)) (by unfold i64;omega)) ?_)));refine ak 1 [] rfl (kc hnames ?_);refine kz 3 rfl (a8 (sg rfl (aA rfl (fun _=>ag [] rfl (a8 (sg rfl (aA rfl (fun hb=>by simp at hb) (fun _=>aD (sk 3 rfl (kc ihA ?_))))))) (fun hb=>by simp at hb))));refine kz 2 rfl (ag [] rfl (ag [] rfl ⟨1+1,by omega,by dsimp only;omega,?_⟩));dsimp only;rw[he];exact .list (fun i=>i) ⟨rfl,rfl,rfl,rfl,rfl,rfl,trivial⟩ ⟨⟨_,rfl,.var rfl⟩,⟨_,rfl,.var (by simp[R.renL,R.ren,bF])⟩,⟨_,rfl,.arr⟩,⟨_,rfl,by rw[bF ((A 1).1++_),At,←bF];exact .arr⟩,⟨_,rfl,.var rfl⟩,trivial⟩ rfl
              ·--2
               have he:A (2+1)=((A 2).1++[.mk 3 0 [] [] (gOf f (bG (A 2).2.1).2 (A 2).2.2).1],(gOf f (bG (A 2).2.1).2 (A 2).2.2).2):=by
                rw[←hAd,cQ];rfl
               refine a8 (aC (sk 4 rfl (kc (aUk (n/14+((2:Nat):Int)) (by unfold i64;omega)) ?_)));refine ak 1 [] rfl (kc hnames ?_);refine kz 3 rfl (a8 (sg rfl (aA rfl (fun hb=>by simp at hb) (fun _=>aD (a8 (sg rfl (aA rfl (fun _=>ag [] rfl (sk 3 rfl (kc ihA ?_))) (fun hb=>by simp at hb))))))));refine kz 2 rfl (ag [] rfl (ag [] rfl ⟨2+1,by omega,by dsimp only;omega,?_⟩));dsimp only;rw[he];exact .list (fun i=>i) ⟨rfl,rfl,rfl,rfl,rfl,rfl,trivial⟩ ⟨⟨_,rfl,.var rfl⟩,⟨_,rfl,.var (by simp[R.renL,R.ren,bF])⟩,⟨_,rfl,.arr⟩,⟨_,rfl,by rw[bF ((A 2).1++_),At,←bF];exact .arr⟩,⟨_,rfl,.var rfl⟩,trivial⟩ rfl
             ·have hie:(n/14%4).toNat=i:=by
               have:¬(i:Int)<n/14%4:=by simpa using hb
               omega
              rw[hie];have hE:bV (A i).1=((bV (A i).1).drop 0).take (A i).1.length:=by rw[Cc,hsz,Al]
              refine aL (sg rfl (AWp.sub (Sub.freeze (id:=900) rfl) (aE ?_)));exact⟨.inr rfl,⟨_,_,.cell rfl (tg rfl) rfl rfl rfl .nil,.cons (by(first | apply Go.AM.Conv.pa | apply Go.AM.Conv.agg);repeat (first | exact .nil | apply Go.AM.PureL.c .refl | apply Go.AM.PureL.c .nl | (apply Go.AM.PureL.hs;rfl;(first | rfl | assumption | simp);(first | exact hE | rfl)))) .nil,rfl⟩,⟨⟨_,rfl,.var rfl⟩,trivial⟩,rfl⟩
            ·have h11:¬k=11:=by simpa using hb11
             refine sg rfl (aA rfl (fun hb12=>?_) (fun hb12=>?_))
             ·have h12:k=12:=by simpa using hb12
              obtain⟨J,hl0⟩:=ab (by omega);have Z:=hg J;have hu:use f=1+4*use (f-1):=by cases f with | zero=>omega | succ f=>rfl
              have g1:=Z.suf u (left-1);have g2:=Z.le u (left-1);have g3:=Z.ge u (left-1);have ih1:=ih J u (left-1) N O (by omega) (by omega);have ih2:=ih J (gOf f u (left-1)).2.1 (gOf f u (left-1)).2.2 (N.suf g1) (O.suf g1) (by omega) (by omega);have Y:eL (gOf f) n k u (left-1)=(.mk 10 0 (oneOf u6 (n/14)) zTy [(gOf f u (left-1)).1,(gOf f (gOf f u (left-1)).2.1 (gOf f u (left-1)).2.2).1] [] [],(gOf f (gOf f u (left-1)).2.1 (gOf f u (left-1)).2.2).2):=by
               unfold eL;rw[φ c1,φ h2,φ h3,φ c2,φ c3,φ h8,φ h9,φ h10,φ h11,ξ h12]
              rw[Y];refine sk 3 rfl (kc ih1 ?_);refine kz 2 rfl (sk 2 rfl (kc (a3x (n/14) (by unfold i64;omega)) ?_));refine ak 4 [] rfl (kc ih2 ?_);refine kz 3 rfl (AWp.sub (Sub.freeze (id:=206) rfl) (aE (rtC trw)))
             ·have h12:¬k=12:=by simpa using hb12
              have aa:=aKp (left-1) 2 u 1 N O (by omega) (by omega);have Y:eL (gOf f) n k u (left-1)=(.mk 11 0 [] (cR 2 u).1 [] [] [],(cR 2 u).2,left-1):=by
               unfold eL;rw[φ c1,φ h2,φ h3,φ c2,φ c3,φ h8,φ h9,φ h10,φ h11,φ h12]
              rw[Y];refine aD (sk 1 rfl (kc aa ?_));exact kz 2 rfl (aE (rtC trw))
theorem aW3:∀f:Nat,f≤6→aRu (oZ f) (6-(f:Int)) (use f)
 | 0,_=>uZ 0 _ (by omega) (by omega) (fun h=>by omega) (fun h=>by omega)
 | f+1,hf=>by
  refine uZ (f+1) _ (by omega) (by omega) (fun _=>?_) (fun _=>aIs f);have:=aW3 f (by omega);rwa [show(6:Int)-((f+1:Nat):Int)+1=6-(f:Int) by omega]
theorem aW1 (l:List Int) (k:Nat) (hf:Fits l) (hk:k≤1000):aU Tryz.prog 22 [.one (.c (.sl 1 (l.map aKm))),I .i64 k] [] (.one (.c (.sl 1 ((l.take k).map aKm)))) []:=by
 unfold Fits at hf;refine bQ (n:=14) tok Tryz.func22 rfl rfl rfl ?_;refine sg rfl (sg rfl (sk 6 rfl ?_));have hm:(if(k:Int)<(((l.map aKm).length:Nat):Int) then(k:Int) else(((l.map aKm).length:Nat):Int))=((min l.length k:Nat):Int):=by
  rw[θ];split<;>omega
 rw[hm];have ht:(l.map aKm).take (min l.length k)=(l.take k).map aKm:=by
  rw[←map_take];congr 1;by_cases h:k≤l.length
  ·rw[Nat.min_eq_right h]
  ·rw[Cd (by omega),Ba (le_refl _),Ba (by omega)]
 have hl:((l.map aKm).take (min l.length k)).length≤1000:=by rw[Ar];omega
 refine akN 3 [] rfl (az (AWp.sub (Sub.freeze (id:=13) rfl) (aE ?_))) (hc:=⟨by omega,by rw[θ];omega,by omega,trivial⟩);rw[←ht];exact⟨.inr rfl,⟨_,_,.tmp rfl .nil,.cons (.one (.hs rfl rfl (by rw[Cc,Al]) .nil)) .nil,rfl⟩,trivial,rfl⟩
def kF (l:List Int):Core:=(oZ 6 (l.take 60) 30).1
theorem aW0 (l:List Int) (hl:aDx l) (hf:Fits l):aU Tryz.prog 7 [.one (.c (.sl 1 (l.map aKm)))] [] (.pa (aB (kF l))) []:=by
 have u:aDx (l.take 60):=fun x hx=>hl x (Bb hx)
 have I:Fits (l.take 60):=by
  unfold Fits at *;rw[Ar];omega
 have hc:=aW3 6 (by omega) (l.take 60) 30 u I (by decide) (by decide);refine bQ (n:=10) tok Tryz.func7 rfl rfl rfl ?_;refine sg rfl (sk 1 rfl (kc (aW1 l 60 hf (by omega)) ?_));refine ak 3 [(3,.id 700)] rfl (az (sk 1 rfl (kc hc ?_)));exact kz 1 rfl (aE ⟨.inr rfl,⟨_,_,.cell rfl (tg rfl) rfl rfl rfl .nil,.cons .refl .nil,rfl⟩,trivial,rfl⟩)
def a0r:Core:=.mk 0 0 [] zTy [] [] []
mutual
def aY:Core→Nat
 | .mk _ _ s _ ks bs al=>1+s.length+bM ks+cB bs+bZ al
def bM:List Core→Nat
 | []=>0
 | c::l=>aY c+bM l
def bsize:Bind→Nat
 | .mk s _ c=>1+s.length+aY c
def cB:List Bind→Nat
 | []=>0
 | b::l=>bsize b+cB l
def lL:Alt→Nat
 | .mk _ _ s vs c=>1+s.length+(vs.map (fun v=>1+v.length)).sum+aY c
def bZ:List Alt→Nat
 | []=>0
 | a::l=>lL a+bZ l
end
theorem dX (c:Core):1≤aY c:=by cases c;rw[aY];omega
theorem iL:∀l:List Core,l.length≤bM l
 | []=>Ag _
 | c::l=>by rw[bM,Ac];have:=iL l;have:=dX c;omega
theorem o5:∀{l:List Core}{c:Core},c∈l→aY c≤bM l
 | d::l,c,h=>by
  rw[bM];rcases Ap.1 h with rfl | h
  ·omega
  ·have:=o5 h;omega
theorem gC:∀l:List Bind,l.length≤cB l
 | []=>Ag _
 | .mk s t c::l=>by rw[cB,bsize,Ac];have:=gC l;omega
theorem xN:∀{l:List Bind}{c:Bind},c∈l→bsize c≤cB l
 | d::l,c,h=>by
  rw[cB];rcases Ap.1 h with rfl | h
  ·omega
  ·have:=xN h;omega
theorem iN:∀l:List Alt,l.length≤bZ l
 | []=>Ag _
 | .mk f n s vs c::l=>by rw[bZ,lL,Ac];have:=iN l;omega
theorem gS:∀{l:List Alt}{c:Alt},c∈l→lL c≤bZ l
 | d::l,c,h=>by
  rw[bZ];rcases Ap.1 h with rfl | h
  ·omega
  ·have:=gS h;omega
theorem bX {l:List Bind}{k:Nat}{x:Bind}(h:l[k]?=some x):(aQ l)[k]?=some (b8 x):=by rw[bH];exact bW b8 h
theorem dB {l:List Core}{k:Nat}{x:Core}(h:l[k]?=some x):(aO l)[k]?=some (aB x):=by rw[aR];exact bW aB h
theorem fZ {l:List Alt}{k:Nat}{x:Alt}(h:l[k]?=some x):(bV l)[k]?=some (c7 x):=by rw[bF];exact bW c7 h
theorem eO {α:Type}{l:List α}{k:Nat}{x:α}(h:l[k]?=some x):l.take (k+1)=l.take k++[x]:=by rw[Bh,h];rfl
def bO:List R:=[.c (.int .i64 0),.c (.int .i64 0),.c (.str []),.c (.int .i64 0),.c (.int .i64 0),.c (.str []),.c .nl,.c .nl,.c .nl,.c .nl]
def aW (c:Core):List R:=(aB c).map R.c
theorem iW {f n:Int}{s:Str}{t:Ty}{ks:List Core}{bs:List Bind}{al:List Alt}:(∀x∈ks,aY x<aY (.mk f n s t ks bs al))∧(∀x∈bs,aY x.body<aY (.mk f n s t ks bs al))∧(∀x∈al,aY x.body<aY (.mk f n s t ks bs al))∧
  ks.length<aY (.mk f n s t ks bs al)∧bs.length<aY (.mk f n s t ks bs al)∧al.length<aY (.mk f n s t ks bs al):=by
 rw[aY];have u:=iL ks;have I:=gC bs;have J:=iN al;refine⟨fun x hx=>?_,fun x hx=>?_,fun x hx=>?_,by omega,by omega,by omega⟩
 ·have:=o5 hx;omega
 ·have:=xN hx;obtain⟨s',t',c'⟩:=x;rw[bsize] at this;show aY c'<_;omega
 ·have:=gS hx;obtain⟨f',N,s',v',c'⟩:=x;rw[lL] at this;show aY c'<_;omega
theorem eC {α β:Type}(f:α→β) {l:List α}{i:Nat}{x:α}(h:l[i]?=some x):(l.take i).map f++[f x]=(l.take (i+1)).map f:=by rw[eO h,At];rfl
mutual
def oD:Core→Nat
 | .mk f _ _ _ ks bs al=>(if f=5 then 1 else 0)+k8 ks+fU bs+fC al
def k8:List Core→Nat
 | []=>0
 | c::l=>oD c+k8 l
def fU:List Bind→Nat
 | []=>0
 | .mk _ _ c::l=>oD c+fU l
def fC:List Alt→Nat
 | []=>0
 | .mk _ _ _ _ c::l=>oD c+fC l
end
def nmB (s:Str):Bool:=decide (s∈nmL)
mutual
def aBo:Core→Bool
 | .mk f _ s _ ks bs al=>(if f=5 then nmB s&&(!ks.isEmpty&&bs.isEmpty) else if f=6∨f=7 then !ks.isEmpty else if f=1 then nmB s&&(ks.isEmpty&&(bs.isEmpty&&al.isEmpty)) else true)&&(pJ ks&&(jF bs&&iH al))
def pJ:List Core→Bool
 | []=>true
 | c::l=>aBo c&&pJ l
def jF:List Bind→Bool
 | []=>true
 | .mk s _ c::l=>(nmB s&&aBo c)&&jF l
def iH:List Alt→Bool
 | []=>true
 | .mk _ _ _ v c::l=>(v.all nmB&&aBo c)&&iH l
end
theorem aN7:∀s∈nmL,s.length≤3:=by decide
theorem fW {l:List Str}{n:Int}(hl:0<l.length):oneOf l n∈l:=by
 obtain⟨k,hk⟩:=Int.eq_ofNat_of_zero_le (fD n (k:=l.length) (by omega)).1;have u:=(fD n (k:=l.length) (by omega)).2
 have h1:k<l.length:=by omega
 have:oneOf l n=l[k]:=by
  unfold oneOf;rw[hk];simp[h1]
 rw[this];exact List.getElem_mem h1
theorem aYg (n:Int):oneOf nmL n∈nmL:=fW (by decide)
theorem aQa (n:Int):(oneOf aQb n).length≤4:=(by decide:∀s∈aQb,s.length≤4) _ (fW (by decide))
theorem aS3 (n:Int):(oneOf u6 n).length≤4:=(by decide:∀s∈u6,s.length≤4) _ (fW (by decide))
theorem aXl (n:Int):(oneOf lT n).length≤4:=(by decide:∀s∈lT,s.length≤4) _ (fW (by decide))
theorem a2b (n:Int):nmB (oneOf nmL n)=true:=Ad (aYg n)
theorem nV (n:Int):∀i:Nat,∀s∈eT n i,s∈nmL
 | 0,s,h=>by simp[eT] at h
 | i+1,s,h=>by
  rw[eT,aZ8] at h;split at h
  ·exact nV n i s h
  ·rcases τ.1 h with h | h
   ·exact nV n i s h
   ·rw[ε.1 h];exact aYg _
theorem aLd:∀l:List Str,(∀s∈l,s∈nmL)→(l.map fun v=>1+v.length).sum≤4*l.length
 | [],_=>by simp
 | s::l,h=>by
  have h1:=aLd l fun x hx=>h x (ω _ hx)
  have h2:=aN7 s (h s ζ);rw[Am,Bt,Ac];omega
def lf (left:Int):Nat:=(left-1).toNat
structure MkG (c:Core) (left left':Int):Prop where
 raw:aBo c=true
 lams:oD c+lf left'≤lf left
 size:aY c+100*lf left'≤100*lf left+7
def a4l (g:List Int→Int→Mk):Prop:=∀l left,MkG (g l left).1 left (g l left).2.2
theorem aBp:∀a b,jF (a++b)=(jF a&&jF b)
 | [],b=>by rw[A0,jF,Bool.true_and]
 | .mk s t c::a,b=>by rw[A3,jF,jF,aBp a b];simp only[Bool.and_assoc]
theorem aBq:∀a b,iH (a++b)=(iH a&&iH b)
 | [],b=>by rw[A0,iH,Bool.true_and]
 | .mk f n s v c::a,b=>by rw[A3,iH,iH,aBq a b];simp only[Bool.and_assoc]
theorem xP:∀a b,cB (a++b)=cB a+cB b
 | [],b=>by rw[A0,cB,Bc]
 | x::a,b=>by rw[A3,cB,cB,xP a b,Br]
theorem xV:∀a b,bZ (a++b)=bZ a+bZ b
 | [],b=>by rw[A0,bZ,Bc]
 | x::a,b=>by rw[A3,bZ,bZ,xV a b,Br]
theorem xB:∀a b,fU (a++b)=fU a+fU b
 | [],b=>by rw[A0,fU,Bc]
 | .mk s t c::a,b=>by rw[A3,fU,fU,xB a b,Br]
theorem xC:∀a b,fC (a++b)=fC a+fC b
 | [],b=>by rw[A0,fC,Bc]
 | .mk f n s v c::a,b=>by rw[A3,fC,fC,xC a b,Br]
theorem aC9 {g:List Int→Int→Mk}(h:a4l g) (ns:List Str) (u:∀s∈ns,s∈nmL) (l:List Int) (left:Int):∀i:Nat,i≤ns.length→jF (bT g ns l left i).1=true∧fU (bT g ns l left i).1+lf (bT g ns l left i).2.2≤lf left∧cB (bT g ns l left i).1+100*lf (bT g ns l left i).2.2≤100*lf left+11*i
 | 0,_=>by simp[bT,jF,fU,cB]
 | i+1,hi=>by
  obtain⟨h1,h2,h3⟩:=aC9 h ns u l left i (by omega);obtain⟨J,O,Y⟩:=h (cR 2 (bT g ns l left i).2.1).2 (bT g ns l left i).2.2;have hs:(ns[i]?.getD [])∈nmL:=by
   obtain⟨s,hs⟩:=aJ (l:=ns) (by omega:i<ns.length);rw[hs];exact u s (η hs)
  have N:=aN7 _ hs;have I:nmB (ns[i]?.getD [])=true:=Ad hs;simp only[bT];rw[aBp,xB,xP,jF,jF,fU,fU,cB,cB,bsize,h1,J,I];refine⟨rfl,by omega,by omega⟩
theorem aJf {g:List Int→Int→Mk}(h:a4l g) (n:Int) (l:List Int) (left:Int):∀i:Nat,iH (cQ g n l left i).1=true∧fC (cQ g n l left i).1+lf (cQ g n l left i).2.2≤lf left∧bZ (cQ g n l left i).1+100*lf (cQ g n l left i).2.2≤100*lf left+24*i
 | 0=>by simp[cQ,iH,fC,bZ]
 | i+1=>by
  obtain⟨h1,h2,h3⟩:=aJf h n l left i;obtain⟨I,Z,k3⟩:=h (bG (cQ g n l left i).2.1).2 (cQ g n l left i).2.2;have u:∀s∈(bG (cQ g n l left i).2.1).1,s∈nmL:=nV _ _;have N:=jA (cQ g n l left i).2.1;have O:=aLd _ u;have J:(bG (cQ g n l left i).2.1).1.all nmB=true:=A4.2 fun s hs=>Ad (u s hs)
  have Y:=aQa (n/14+i);simp only[cQ];rw[aBq,xC,xV,h1];split
  ·rw[iH,iH,fC,fC,bZ,bZ,lL,I];refine⟨rfl,by omega,?_⟩;simp only[length_nil,Bo,sum_nil];omega
  ·split
   ·rw[iH,iH,fC,fC,bZ,bZ,lL,I];refine⟨rfl,by omega,?_⟩;simp only[length_nil,Bo,sum_nil];omega
   ·rw[iH,iH,fC,fC,bZ,bZ,lL,I,J];exact⟨rfl,by omega,by omega⟩
theorem aP8 {g:List Int→Int→Mk}(h:a4l g) (n k:Int) (l:List Int) (left:Int) (hk:4≤k→1≤left):MkG (eL g n k l left).1 (left+1) (eL g n k l left).2.2:=by
 have Z:lf left≤lf (left+1):=by unfold lf;omega
 have O:4≤k→lf left+1=lf (left+1):=fun h=>by have:=hk h;unfold lf;omega
 have n1:=aN7 _ (aYg (n/14));have n2:=aQa (n/14);have n3:=aS3 (n/14);have n4:=aXl (n/14);have nb:=a2b (n/14);obtain⟨g1,g2,g3⟩:=h l left;obtain⟨h1,h2,h3⟩:=h (g l left).2.1 (g l left).2.2;obtain⟨I,u2,u3⟩:=h (cR 2 l).2 left;unfold eL;split
 ·refine⟨by simp[aBo,pJ,jF,iH,nb],?_,?_⟩<;>simp only[oD,k8,fU,fC,aY,bM,cB,bZ]<;>simp<;>omega
 split
 ·refine⟨by simp[aBo,pJ,jF,iH],?_,?_⟩<;>simp only[oD,k8,fU,fC,aY,bM,cB,bZ]<;>simp<;>omega
 split
 ·refine⟨by simp[aBo,pJ,jF,iH],?_,?_⟩<;>simp only[oD,k8,fU,fC,aY,bM,cB,bZ]<;>simp<;>omega
 have hl:=O (by omega);split
 ·refine⟨by simp[aBo,pJ,jF,iH,g1,h1],?_,?_⟩<;>simp only[oD,k8,fU,fC,aY,bM,cB,bZ]<;>simp<;>omega
 split
 ·refine⟨by simp[aBo,pJ,jF,iH,I,nb],?_,?_⟩<;>simp only[oD,k8,fU,fC,aY,bM,cB,bZ]<;>simp<;>omega
 split
 ·refine⟨by simp[aBo,pJ,jF,iH,I],?_,?_⟩<;>simp only[oD,k8,fU,fC,aY,bM,cB,bZ]<;>simp<;>omega
 split
 ·refine⟨by simp[aBo,pJ,jF,iH,g1],?_,?_⟩<;>simp only[oD,k8,fU,fC,aY,bM,cB,bZ]<;>simp<;>omega
 split
 ·have aa:=jA l;obtain⟨u,J,N⟩:=aC9 h (bG l).1 (nV _ _) (bG l).2 left (bG l).1.length (le_refl _);generalize bT g (bG l).1 (bG l).2 left (bG l).1.length=r at u J N ⊢;obtain⟨Y,c2,c3⟩:=h r.2.1 r.2.2;refine⟨by simp[aBo,pJ,iH,Y,u],?_,?_⟩<;>simp only[oD,k8,fC,aY,bM,bZ]<;>simp<;>omega
 split
 ·obtain⟨u,J,N⟩:=aJf h n (g (cR 2 l).2 left).2.1 (g (cR 2 l).2 left).2.2 (n/14%4).toNat;have hi:(n/14%4).toNat≤3:=by omega
  dsimp only;generalize cQ g n (g (cR 2 l).2 left).2.1 (g (cR 2 l).2 left).2.2 (n/14%4).toNat=r at u J N ⊢;refine⟨by simp[aBo,pJ,jF,I,u],?_,?_⟩<;>simp only[oD,k8,fU,aY,bM,cB]<;>simp<;>omega
 split
 ·refine⟨by simp[aBo,pJ,jF,iH,g1,h1],?_,?_⟩<;>simp only[oD,k8,fU,fC,aY,bM,cB,bZ]<;>simp<;>omega
 ·refine⟨by simp[aBo,pJ,jF,iH],?_,?_⟩<;>simp only[oD,k8,fU,fC,aY,bM,cB,bZ]<;>simp<;>omega
theorem aP4:∀f:Nat,a4l (oZ f)
 | 0=>fun l left=>by
  have h:a4l (fun l left=>((.mk 0 0 [] zTy [] [] [],l,left):Mk)):=fun l left=>⟨by simp[aBo,pJ,jF,iH],by simp[oD,k8,fU,fC],by simp[aY,bM,cB,bZ];omega⟩
  have:=aP8 h (b9 l).1 ((b9 l).1%4) (b9 l).2 (left-1) (fun h=>by omega);rw[Int.sub_add_cancel] at this;exact this
 | f+1=>fun l left=>by
  have:=aP8 (aP4 f) (b9 l).1 (if left-1<1 then(b9 l).1%4 else(b9 l).1%14) (b9 l).2 (left-1) (fun h=>by
   split at h
   ·omega
   ·omega)
  rw[Int.sub_add_cancel] at this;exact this
theorem aHz (l:List Int):aBo (kF l)=true∧aY (kF l)≤3000:=by
 obtain⟨h1,h2,h3⟩:=aP4 6 (l.take 60) 30;have:lf 30=29:=rfl;rw[this] at h2 h3;unfold kF;exact⟨h1,by omega⟩
end Go.Proofs.YtockgoadliilhaaGreatDoor
namespace Go.AM
open Go Go.Proofs Go.Shelf
theorem aJa {ro:Option Nat}{P:Program}{n:Nat}{kf:List Nat}{c:Code}{st:St}{Q:Exit→St→Prop}(t:Nat) {es:Nat}{l:List (List C)}(h:st.e t=some (.one (.c (.sl es l)))) (h1:l=[]→AWp ro P n kf c ⟨upd st.e t (some (.one (.c .nl))),st.h,st.d⟩ Q)
  (h2:AWp ro P n kf c ⟨upd st.e t (some (.one (.c (.sn es l)))),st.h,st.d⟩ Q):AWp ro P n kf c st Q:=by
 intro G S μ a w Q' N hs O;have hv:=hs.env t _ h
 have key:∀x:V,bE S μ st.h x (a.tmps.getD t undef)→Sim G n S μ ⟨upd st.e t (some x),st.h,st.d⟩ a w:=fun x hx=>⟨hs.inv,hs.size,hs.defers,fun s u e=>by
  by_cases I:s=t
  ·subst I;have:some x=some u:=by rw[←e];exact(aM _ _ _).symm
   cases this;exact hx
  ·exact hs.env s u (by rw[←e];exact(bJ _ _ _ I).symm)⟩
 simp only[bE,bL,Rep] at hv;obtain⟨J,len,cap,Y,e2,e3,e4,e5,e6,b,o,e7,e8⟩:=hv;cases J with
 | none=>
  obtain⟨e9,Z⟩:=e5 rfl;have hl:l=[]:=Az (by omega);exact h1 hl G S μ a w Q' N (key _ (by simp only[bE,bL,Rep];rw[Y,e9,Z])) O
 | some J=>
  obtain⟨b',o',sp⟩:=J;have h6:=e6 _ rfl;obtain⟨h7,h8⟩:=e7 _ rfl;dsimp only at h6 h7 h8;subst h7 h8;exact h2 G S μ a w Q' N (key _ (by simp only[bE,bL,Rep];exact⟨b',o',sp,len,cap,Y,e2,e3,e4,h6,e8⟩)) O
end Go.AM
