/-
  Texts Am27 to Ls5 in one.
-/
import Derived.Test.YtnjaiimffoninaaGreatDoorM5
import Derived.Test.YtnjaiimffoninaaGreatDoorProg
import Derived.KernelRfl
import Derived.Shelf.Spec.SlicesGrow
import Derived.Laws.Runes
open List (all_cons all_eq_true cons_append drop_eq_getElem_cons drop_length drop_zero eq_nil_of_length_eq_zero flatten_cons foldl_append length_append length_cons length_eq_one_iff length_erase_of_mem length_map length_nil length_pos_of_mem length_take map_append map_cons map_map mem_append mem_cons mem_cons_of_mem mem_cons_self mem_map mem_of_mem_take mem_range nil_append nodup_cons sum_cons take_add_one take_length take_of_length_le)
open Nat (add_mul beq_refl eq_of_beq_eq_true le_max_left le_max_right le_of_ble_eq_true le_refl le_trans min_eq_left mul_le_mul_right sub_zero succ_mul zero_add zero_le)
namespace Go.AM
open Go
theorem Ole.mapE {σ:Nat→Nat}{agg:Bool}{l l':List (List C)}(h:l=l'):Ole σ (.map agg l) (.map agg l'):=by subst h;exact .map
theorem Ole.arrS {σ:Nat→Nat}{te es fz:Nat}{l l':List (List C)}(h:l=l'):Ole σ (.arr te es l fz) (.arr te es l' fz):=by subst h;exact .arr
theorem hs_ren {id off a b q b':Nat}(h:a=q) (k:b=b'):some (V.one (.hs id off a b))=some (V.ren (fun i=>i) (V.one (.hs id off q b'))):=by subst h;subst k;rfl
theorem sl {kf:List Nat}{q:St}{el:List (Nat×V)}{hl:List (Nat×AObj)}
  (he:dU (fun p=>q.e p.1=some (p.2.ren (fun i=>i))) el:=by repeat (first | exact trivial | refine⟨by first | rfl | exact Go.AM.hs_ren (by first | (simp;done) | (simp;omega)) (by first | (simp;done) | (simp;omega)),?_⟩))
  (hh:dU (fun p=>∃o,q.h p.1=some o∧Ole (fun i=>i) o p.2) hl:=by repeat (first | exact trivial | refine⟨⟨_,rfl,by first | exact Go.AM.Ole.arr | exact Go.AM.Ole.var rfl | exact Go.AM.Ole.map | exact Go.AM.Ole.rarr rfl | exact Go.AM.Ole.arr1 | exact Go.AM.Ole.arrS (by first | assumption | (simp;done) | (simp;rfl) | (simp;omega)) | exact Go.AM.Ole.arrE (by first | assumption | (simp;done) | (simp;rfl) | (simp;omega)) | exact Go.AM.Ole.var (by first | (simp[Go.AM.R.renL,Go.AM.R.ren];done) | (simp[Go.AM.R.renL,Go.AM.R.ren];omega)) | exact Go.AM.Ole.mapE (by first | assumption | (simp;done) | (simp;rfl) | (simp;omega))⟩,?_⟩))
  (hok:(aJ5 kf (fun i=>i) el hl&&eqL [] q.d)=true:=by rfl):Sub kf (mk el hl) q:=Sub.list (fun i=>i) he hh hok
theorem take_all {α:Type}{l:List α}{n:Nat}(h:n=l.length):l=(l.drop 0).take n:=by rw[h,B3,As]
theorem ltD {i n:Nat}{l:List (List C)}(h:decide ((i:Int)<(l.length:Int))=true) (e:l.length=n):i<n:=by
 have:(i:Int)<(l.length:Int):=by simpa using h
 omega
theorem geD {i n:Nat}{l:List (List C)}(h:decide ((i:Int)<(l.length:Int))=false) (e:l.length=n) (hi:i≤n):i=n:=by
 have:¬(i:Int)<(l.length:Int):=by simpa using h
 omega
theorem aLu {k:Nat}{o:AObj}{l:List (Nat×AObj)}:dI ((k,o)::l)=o.refs++dI l:=rfl
theorem aNx {k:Nat}{o o':AObj}{post:List (Nat×AObj)}{K:List Nat}(q:∀x∈o.refs,x∈o'.refs) (h:subset (dI ((k,o')::post)) K=true):subset (dI ((k,o)::post)) K=true:=by
 rw[aLu] at h ⊢;simp only[subset,Au,ω] at h ⊢;intro x hx;rcases hx with hx | hx
 ·exact h x (.inl (q x hx))
 ·exact h x (.inr hx)
theorem aUu {kf:List Nat}{el:List (Nat×V)}{k:Nat}{o o':AObj}{post:List (Nat×AObj)}(q:∀x∈o.refs,x∈o'.refs) (h:aJ5 kf (fun i=>i) el ((k,o')::post)=true):aJ5 kf (fun i=>i) el ((k,o)::post)=true:=by
 simp only[aJ5,ζ] at h ⊢;obtain⟨⟨⟨⟨h1,h2⟩,h3⟩,h4⟩,h5⟩:=h;exact⟨⟨⟨⟨h1,aNx q h2⟩,h3⟩,h4⟩,h5⟩
theorem Ole.rarrS {te es:Nat}{l l':List (List R)}(h:l=l'):Ole (fun i=>i) (.rarr te es l) (.rarr te es l'):=by subst h;exact .rarr (aGp _).symm
theorem slR {k:Nat}{o:AObj}{kf:List Nat}{q:St}{el:List (Nat×V)}{hl:List (Nat×AObj)}(o':AObj) (I:∀x∈o.refs,x∈o'.refs) (h0:∃y,q.h k=some y∧Ole (fun i=>i) y o)
  (he:dU (fun p=>q.e p.1=some (p.2.ren (fun i=>i))) el:=by repeat (first | exact trivial | refine⟨by first | rfl | exact Go.AM.hs_ren (by first | (simp;done) | (simp;omega)) (by first | (simp;done) | (simp;omega)),?_⟩))
  (hh:dU (fun p=>∃o,q.h p.1=some o∧Ole (fun i=>i) o p.2) hl:=by repeat (first | exact trivial | refine⟨⟨_,rfl,by first | exact Go.AM.Ole.arr | exact Go.AM.Ole.var rfl | exact Go.AM.Ole.map | exact Go.AM.Ole.rarr rfl | exact Go.AM.Ole.arr1 | exact Go.AM.Ole.arrS (by first | assumption | (simp;done) | (simp;rfl) | (simp;omega)) | exact Go.AM.Ole.arrE (by first | assumption | (simp;done) | (simp;rfl) | (simp;omega)) | exact Go.AM.Ole.var (by first | (simp[Go.AM.R.renL,Go.AM.R.ren];done) | (simp[Go.AM.R.renL,Go.AM.R.ren];omega)) | exact Go.AM.Ole.mapE (by first | assumption | (simp;done) | (simp;rfl) | (simp;omega))⟩,?_⟩))
  (hok:(aJ5 kf (fun i=>i) el ((k,o')::hl)&&eqL [] q.d)=true:=by rfl):Sub kf (mk el ((k,o)::hl)) q:=by
 rw[ζ] at hok;exact Sub.list (fun i=>i) he ⟨h0,hh⟩ (by rw[ζ];exact⟨aUu I hok.1,hok.2⟩)
section
variable {T:TT}{fn:Func}{st:St}{hin hout:List (Nat×AObj)}{res:V}
theorem rtT {t:Nat}{v:V}{ids:List Nat}(q:fn.results.toList=[.tmp t]:=by rfl) (y:st.e t=some v:=by rfl)
  (hc:Conv st.h ids v res:=by first | exact .refl | exact .one (.c .nl .nil) | ((first | apply Go.AM.Conv.pa | apply Go.AM.Conv.agg);repeat (first | exact .nil | apply Go.AM.PureL.c .refl | apply Go.AM.PureL.c .nl | (apply Go.AM.PureL.hs;rfl;(first | rfl | assumption | simp);(first | rfl | exact Go.AM.take_all (by first | assumption | rfl | (simp;done)) | exact Go.AM.take_map.symm)))))
  (I:dU (fun p=>∃o,st.h p.1=some o∧Ole (fun i=>i) o p.2) hout:=by repeat (first | exact trivial | refine⟨⟨_,rfl,by first | exact Go.AM.Ole.arr | exact Go.AM.Ole.var rfl | exact Go.AM.Ole.map | exact Go.AM.Ole.rarr rfl | exact Go.AM.Ole.arr1 | exact Go.AM.Ole.arrS (by first | assumption | (simp;done) | (simp;rfl) | (simp;omega)) | exact Go.AM.Ole.arrE (by first | assumption | (simp;done) | (simp;rfl) | (simp;omega)) | exact Go.AM.Ole.var (by first | (simp[Go.AM.R.renL,Go.AM.R.ren];done) | (simp[Go.AM.R.renL,Go.AM.R.ren];omega)) | exact Go.AM.Ole.mapE (by first | assumption | (simp;done) | (simp;rfl) | (simp;omega))⟩,?_⟩))
  (hok:(subset res.refs (keys hout)&&subset (dI hout) (keys hout)&&distinct (keys hout)&&subset (keys hin) (keys hout)&&(hin.all fun p=>p.2.plain)&&(hout.all fun p=>p.2.plain))=true:=by rfl):(Exit.ret=.normal∨Exit.ret=.ret)∧Fin T fn st hin res hout:=
 ⟨.inr rfl,⟨[v],[res],by rw[q];exact .tmp y .nil,.cons hc .nil,rfl⟩,I,hok⟩
theorem rtC {tr:Tr}{a t:Nat}{i:TI}{id off tv:Nat}{cells:List R}{v:V}{ids:List Nat}(hw:tr.wf=true) (q:fn.results.toList=[.cell a t]:=by rfl) (hi:tr.get t=some i:=by rfl) (ha:st.e a=some (.one (.vp id off)):=by rfl) (hh:st.h id=some (.var tv cells):=by rfl) (hb:Nat.ble (off+i.size) cells.length=true:=by rfl) (y:sG i ((cells.drop off).take i.size)=some v:=by rfl)
  (hc:Conv st.h ids v res:=by first | exact .refl | exact .one (.c .nl .nil) | ((first | apply Go.AM.Conv.pa | apply Go.AM.Conv.agg);repeat (first | exact .nil | apply Go.AM.PureL.c .refl | apply Go.AM.PureL.c .nl | (apply Go.AM.PureL.hs;rfl;(first | rfl | assumption | simp);(first | rfl | exact Go.AM.take_all (by first | assumption | rfl | (simp;done)) | exact Go.AM.take_map.symm)))))
  (I:dU (fun p=>∃o,st.h p.1=some o∧Ole (fun i=>i) o p.2) hout:=by repeat (first | exact trivial | refine⟨⟨_,rfl,by first | exact Go.AM.Ole.arr | exact Go.AM.Ole.var rfl | exact Go.AM.Ole.map | exact Go.AM.Ole.rarr rfl | exact Go.AM.Ole.arr1 | exact Go.AM.Ole.arrS (by first | assumption | (simp;done) | (simp;rfl) | (simp;omega)) | exact Go.AM.Ole.arrE (by first | assumption | (simp;done) | (simp;rfl) | (simp;omega)) | exact Go.AM.Ole.var (by first | (simp[Go.AM.R.renL,Go.AM.R.ren];done) | (simp[Go.AM.R.renL,Go.AM.R.ren];omega)) | exact Go.AM.Ole.mapE (by first | assumption | (simp;done) | (simp;rfl) | (simp;omega))⟩,?_⟩))
  (hok:(subset res.refs (keys hout)&&subset (dI hout) (keys hout)&&distinct (keys hout)&&subset (keys hin) (keys hout)&&(hin.all fun p=>p.2.plain)&&(hout.all fun p=>p.2.plain))=true:=by rfl):(Exit.ret=.normal∨Exit.ret=.ret)∧Fin tr.flat fn st hin res hout:=
 ⟨.inr rfl,⟨[v],[res],by rw[q];exact .cell ha (Tr.get_ok hw hi) hh hb y .nil,.cons hc .nil,rfl⟩,I,hok⟩
end
end Go.AM
namespace Go.AM
open Go
theorem pN {id:Nat}{o:AObj}{hin:List (Nat×AObj)}:look ((id,o)::hin)=upd (look hin) id (some o):=by
 funext i;by_cases h:i=id
 ·subst h;rw[aI,bQ]
 ·rw[aV _ _ _ h,cQ h]
theorem aW.sub {P:Program}{f:FuncId}{args:List V}{hin hout hout':List (Nat×AObj)}{res q:V}(h:aW P f args hin res hout) (hs:Sub (keys hin) (mk [(0,q)] hout') (mk [(0,res)] hout)):aW P f args hin q hout':=by
 intro S μ w vals J O;refine Calls.mono (h S μ w vals J O) ?_;rintro e w' ⟨S',μ',v,h1,h2,h3⟩;have I:Ctx.keeps ⟨w,S,rQ μ (look hin),μ,look hin⟩ (keys hin):=uZ
 obtain⟨S2,Y,g⟩:=hs _ 1 S' μ' ⟨#[v],[]⟩ w' I ⟨h2,rfl,rfl,fun t y e=>by
  simp only[mk,look] at e;split at e
  ·rename_i hb;cases e;rw[Aa hb];exact h3
  ·cases e⟩
 exact⟨S2,Y,v,h1,g.inv,g.env 0 q rfl⟩
theorem aW.plain {P:Program}{f:FuncId}{args:List V}{id te es n:Nat}{rows:List (List C)}{fz:Nat}(h:aW P f args [] (.one (.hs id 0 n n)) [(id,.arr te es rows fz)]) (hn:n=rows.length):aW P f args [] (.one (.c (.sl es rows))) []:=by
 refine h.sub ?_;have h1:Sub [] ⟨look [(0,V.one (.hs id 0 n n))],upd (look [(id,AObj.arr te es rows fz)]) id (some (.arr te es rows 2)),[]⟩ (mk [(0,.one (.hs id 0 n n))] [(id,.arr te es rows fz)]):=Sub.freeze (st:=mk [(0,.one (.hs id 0 n n))] [(id,.arr te es rows fz)]) bQ;refine Sub.trans (Sub.trans ?_ (Sub.conv (t:=0) (v:=.one (.hs id 0 n n)) rfl (hs_all (aI _ _ _) rfl hn rfl))) h1;exact Sub.list (fun i=>i) ⟨rfl,trivial⟩ trivial rfl
theorem Sub.varPure {kf:List Nat}{st:St}{x tv:Nat}{cells:List R}{ids:List Nat}{cs:List C}(h:st.h x=some (.var tv cells)) (hp:PureL st.h ids cells cs):Sub kf ⟨st.e,upd st.h x (some (.var tv (cs.map R.c))),st.d⟩ st:=by
 intro G n S μ a w _ hs;have hi:=hs.inv;obtain⟨b,vs,g1,g2,g3,g4⟩:=hi.obj x _ h
 have I:Evolve S μ st.h S μ (upd st.h x (some (.var tv (cs.map R.c)))):=⟨S.le_refl,fun j y hj=>by
  by_cases q:j=x
  ·subst q;rw[h] at hj;cases hj;exact⟨_,aI _ _ _,by simp[AObj.succ]⟩
  ·exact⟨y,by rw[aV _ _ _ q];exact hj,y.succ_refl rfl⟩⟩
 have hold:∀j y,upd st.h x (some (.var tv (cs.map R.c))) j=some y→∃y',st.h j=some y':=fun j y hj=>by
  by_cases q:j=x
  ·subst q;exact⟨_,h⟩
  ·rw[aV _ _ _ q] at hj;exact⟨_,hj⟩
 refine⟨S,μ,⟨⟨hi.holds,fun j y hj=>?_,fun i j y y' b c c' J hj hm Y=>?_,fun i y b c J hm=>?_,hi.frame,hi.sle,hi.sto,hi.evo.trans I,hi.fre⟩,hs.size,hs.defers.evolve I,fun s v e=>aY.evolve I v _ (hs.env s v e)⟩⟩
 ·by_cases q:j=x
  ·subst q;have O:some (AObj.var tv (cs.map R.c))=some y:=by rw[←hj];exact(aI _ _ _).symm
   cases O;exact⟨b,vs,g1,g2,(hp.rel (fun _ _=>rfl) hi.obj g3).toR,g4⟩
  ·have O:st.h j=some y:=by rw[←hj];exact(aV _ _ _ q).symm
   exact(hi.obj j y O).evolve I rfl fun _ _ _=>⟨rfl,fun _=>rfl,rfl⟩
 ·obtain⟨_,h1⟩:=hold _ _ J;obtain⟨_,h2⟩:=hold _ _ hj;exact hi.inj i j _ _ b c c' h1 h2 hm Y
 ·obtain⟨_,h1⟩:=hold _ _ J;exact hi.own i _ b c h1 hm
theorem vp {kf:List Nat}{st:St}(x:Nat) {tv:Nat}{cells:List R}(cs:List C) {ids:List Nat}(h:st.h x=some (.var tv cells):=by rfl)
  (hp:PureL st.h ids cells cs:=by repeat (first | exact .nil | apply Go.AM.PureL.c .refl | apply Go.AM.PureL.c .nl | apply Go.AM.PureL.c .sn | (apply Go.AM.PureL.hs;rfl;(first | rfl | assumption | (simp;done) | (simp;omega));(first | rfl | exact Go.AM.take_all (by first | assumption | rfl | (simp;done) | (simp;omega)) | exact Go.AM.take_map.symm)))):Sub kf ⟨st.e,upd st.h x (some (.var tv (cs.map R.c))),st.d⟩ st:=Sub.varPure h hp
theorem cv {kf:List Nat}{st:St}(t:Nat) {id te es n sz:Nat}{l:List (List C)}(l':List (List C)) (h:st.e t=some (.one (.hs id 0 n sz)):=by rfl) (hh:st.h id=some (.arr te es l 2):=by rfl) (h1:n=l.length:=by first | rfl | assumption | (simp;done) | (simp;omega)) (h2:sz=l.length:=by first | rfl | assumption | (simp;done) | (simp;omega)) (h3:l=l':=by first | rfl | assumption | (simp;done)):Sub kf ⟨upd st.e t (some (.one (.c (.sl es l')))),st.h,st.d⟩ st:=by
 subst h3;exact Sub.conv h (.one (.hs hh h2 (by rw[h1,B3,As]) .nil))
theorem a9k {T:TT}{fn:Func}{st:St}{hin hout:List (Nat×AObj)}{k:Nat}{o:AObj}{res:V}(o':AObj) (y:∀x∈o.refs,x∈o'.refs) (hex:∃vs vs',ResV T st fn.results.toList vs∧Convs st.h vs vs'∧aLp vs'=res) (I:dU (fun p=>∃o,st.h p.1=some o∧Ole (fun i=>i) o p.2) ((k,o)::hout)) (hp:o.plain=true)
  (hok:(subset res.refs (keys ((k,o')::hout))&&subset (dI ((k,o')::hout)) (keys ((k,o')::hout))&&distinct (keys ((k,o')::hout))&&subset (keys hin) (keys ((k,o')::hout))&&(hin.all fun p=>p.2.plain)&&(((k,o')::hout).all fun p=>p.2.plain))=true):Fin T fn st hin res ((k,o)::hout):=by
 refine⟨hex,I,?_⟩;simp only[ζ] at hok ⊢;obtain⟨⟨⟨⟨⟨k1,k2⟩,J⟩,O⟩,Y⟩,q⟩:=hok;refine⟨⟨⟨⟨⟨k1,aNx y k2⟩,J⟩,O⟩,Y⟩,?_⟩;simp only[all_cons,ζ] at q ⊢;exact⟨hp,q.2⟩
end Go.AM
namespace Go.Proofs.YtnjaiimffoninaaGreatDoor
open Go Go.AM
def zl_:Tr:=.leaf none
def zl0:Tr:=.leaf (some ⟨.fn,1,8,[.zv 1]⟩)
def zl1:Tr:=.leaf (some ⟨.int .u8,1,1,[.int .u8 0]⟩)
def zl2:Tr:=.leaf (some ⟨.int .i64,1,8,[.int .i64 0]⟩)
def zl3:Tr:=.leaf (some ⟨.str,1,16,[.str []]⟩)
def zl4:Tr:=.leaf (some ⟨.int .u64,1,8,[.int .u64 0]⟩)
def zl5:Tr:=.leaf (some ⟨.int .i32,1,4,[.int .i32 0]⟩)
def tr:Tr:=
 .node 114 (.node 57 (.node 28 (.node 14 (.node 7 (.node 3 (.node 1 zl_ (.node 1 zl0 zl2)) (.node 2 (.node 1 zl2 (.leaf (some ⟨.bool,1,1,[.bool false]⟩))) (.node 1 zl1 zl1))) (.node 3 (.node 1 (.leaf (some ⟨.st [(0,2),(1,3),(2,4),(3,6)],4,24,[.int .i64 0,.int .i64 0,.bool false,.int .u8 0]⟩)) (.node 1 (.leaf (some ⟨.st [(0,2),(1,3),(2,4),(3,6)],4,24,[.int .i64 0,.int .i64 0,.bool false,.int .u8 0]⟩)) zl3)) (.node 2 (.node 1 zl3 zl3) (.node 1 zl4 (.leaf (some ⟨.st [(0,9),(1,12)],2,24,[.str [],.int .u64 0]⟩)))))) (.node 7 (.node 3 (.node 1 (.leaf (some ⟨.st [(0,9),(1,12)],2,24,[.str [],.int .u64 0]⟩)) (.node 1 (.leaf (some ⟨.pt 214,1,8,[.np]⟩)) (.leaf (some ⟨.pt 217,1,8,[.np]⟩)))) (.node 2 (.node 1 (.leaf (some ⟨.pt 226,1,8,[.np]⟩)) (.leaf (some ⟨.st [(0,17)],1,8,[.np]⟩))) (.node 1 (.leaf (some ⟨.st [(0,17)],1,8,[.np]⟩)) zl_))) (.node 3 (.node 1 zl5 (.node 1 (.leaf (some ⟨.sl 3,1,24,[.nl]⟩)) (.leaf (some ⟨.sl 25,1,24,[.nl]⟩)))) (.node 2 (.node 1 (.leaf (some ⟨.st [(0,3),(1,3),(2,9),(3,23)],4,56,[.int .i64 0,.int .i64 0,.str [],.nl]⟩)) (.leaf (some ⟨.st [(0,3),(1,3),(2,9),(3,23)],4,56,[.int .i64 0,.int .i64 0,.str [],.nl]⟩))) (.node 1 (.leaf (some ⟨.sl 30,1,24,[.nl]⟩)) (.leaf (some ⟨.sl 35,1,24,[.nl]⟩))))))) (.node 14 (.node 7 (.node 3 (.node 1 (.leaf (some ⟨.sl 73,1,24,[.nl]⟩)) (.node 1 (.leaf (some ⟨.st [(0,3),(1,3),(2,9),(3,25),(7,26),(8,27),(9,28)],10,160,[.int .i64 0,.int .i64 0,.str [],.int .i64 0,.int .i64 0,.str [],.nl,.nl,.nl,.nl]⟩)) (.leaf (some ⟨.st [(0,3),(1,3),(2,9),(3,25),(7,26),(8,27),(9,28)],10,160,[.int .i64 0,.int .i64 0,.str [],.int .i64 0,.int .i64 0,.str [],.nl,.nl,.nl,.nl]⟩)))) (.node 2 (.node 1 zl_ zl0) (.node 1 zl0 (.leaf (some ⟨.st [(0,9),(1,25),(5,30)],15,232,[.str [],.int .i64 0,.int .i64 0,.str [],.nl,.int .i64 0,.int .i64 0,.str [],.int .i64 0,.int .i64 0,.str [],.nl,.nl,.nl,.nl]⟩))))) (.node 3 (.node 1 (.leaf (some ⟨.st [(0,9),(1,25),(5,30)],15,232,[.str [],.int .i64 0,.int .i64 0,.str [],.nl,.int .i64 0,.int .i64 0,.str [],.int .i64 0,.int .i64 0,.str [],.nl,.nl,.nl,.nl]⟩)) (.node 1 (.leaf (some ⟨.sl 85,1,24,[.nl]⟩)) zl0)) (.node 2 (.node 1 zl0 zl2) (.node 1 zl_ zl0)))) (.node 7 (.node 3 (.node 1 zl0 (.node 1 zl0 zl0)) (.node 2 (.node 1 zl0 zl0) (.node 1 (.leaf (some ⟨.sl 102,1,24,[.nl]⟩)) zl0))) (.node 4 (.node 2 (.node 1 (.leaf (some ⟨.st [(0,47),(1,27)],2,48,[.nl,.nl]⟩)) (.leaf (some ⟨.st [(0,47),(1,27)],2,48,[.nl,.nl]⟩))) (.node 1 zl0 zl0)) (.node 2 (.node 1 zl_ zl0) (.node 1 zl0 zl0)))))) (.node 28 (.node 14 (.node 7 (.node 3 (.node 1 (.leaf (some ⟨.pt 60,1,8,[.np]⟩)) (.node 1 zl0 (.leaf (some ⟨.st [(0,22),(1,3)],2,32,[.nl,.int .i64 0]⟩)))) (.node 2 (.node 1 (.leaf (some ⟨.st [(0,22),(1,3)],2,32,[.nl,.int .i64 0]⟩)) zl0) (.node 1 zl0 zl0))) (.node 3 (.node 1 zl0 (.node 1 (.leaf (some ⟨.sl 9,1,24,[.nl]⟩)) (.leaf (some ⟨.sl 167,1,24,[.nl]⟩)))) (.node 2 (.node 1 (.leaf (some ⟨.st [(0,66),(1,65),(2,3)],3,56,[.nl,.nl,.int .i64 0]⟩)) (.leaf (some ⟨.st [(0,66),(1,65),(2,3)],3,56,[.nl,.nl,.int .i64 0]⟩))) (.node 1 zl0 zl0)))) (.node 7 (.node 3 (.node 1 zl0 (.node 1 (.leaf (some ⟨.st [(0,3),(1,3),(2,9),(3,65),(4,30)],14,216,[.int .i64 0,.int .i64 0,.str [],.nl,.int .i64 0,.int .i64 0,.str [],.int .i64 0,.int .i64 0,.str [],.nl,.nl,.nl,.nl]⟩)) (.leaf (some ⟨.st [(0,3),(1,3),(2,9),(3,65),(4,30)],14,216,[.int .i64 0,.int .i64 0,.str [],.nl,.int .i64 0,.int .i64 0,.str [],.int .i64 0,.int .i64 0,.str [],.nl,.nl,.nl,.nl]⟩)))) (.node 2 (.node 1 zl_ zl0) (.node 1 (.leaf (some ⟨.pt 78,1,8,[.np]⟩)) (.leaf (some ⟨.st [(0,9),(1,36)],2,40,[.str [],.nl]⟩))))) (.node 3 (.node 1 (.leaf (some ⟨.st [(0,9),(1,36)],2,40,[.str [],.nl]⟩)) (.node 1 (.leaf (some ⟨.mp 9 3,1,8,[.zv 0]⟩)) (.leaf (some ⟨.mp 9 3,1,8,[.zv 0]⟩)))) (.node 2 (.node 1 zl0 zl0) (.node 1 zl0 (.leaf (some ⟨.st [(0,9),(1,65),(2,30)],12,200,[.str [],.nl,.int .i64 0,.int .i64 0,.str [],.int .i64 0,.int .i64 0,.str [],.nl,.nl,.nl,.nl]⟩))))))) (.node 14 (.node 7 (.node 3 (.node 1 (.leaf (some ⟨.st [(0,9),(1,65),(2,30)],12,200,[.str [],.nl,.int .i64 0,.int .i64 0,.str [],.int .i64 0,.int .i64 0,.str [],.nl,.nl,.nl,.nl]⟩)) (.node 1 zl0 zl0)) (.node 2 (.node 1 zl0 (.leaf (some ⟨.mp 9 137,1,8,[.zv 0]⟩))) (.node 1 zl0 (.leaf (some ⟨.st [(0,27),(1,89)],2,32,[.nl,.zv 0]⟩))))) (.node 3 (.node 1 (.leaf (some ⟨.st [(0,27),(1,89)],2,32,[.nl,.zv 0]⟩)) (.node 1 zl0 zl0)) (.node 2 (.node 1 zl0 zl0) (.node 1 zl0 zl0)))) (.node 7 (.node 3 (.node 1 zl0 (.node 1 zl0 (.leaf (some ⟨.st [(0,9),(1,3),(2,3),(3,3),(4,25)],8,96,[.str [],.int .i64 0,.int .i64 0,.int .i64 0,.int .i64 0,.int .i64 0,.str [],.nl]⟩)))) (.node 2 (.node 1 (.leaf (some ⟨.st [(0,9),(1,3),(2,3),(3,3),(4,25)],8,96,[.str [],.int .i64 0,.int .i64 0,.int .i64 0,.int .i64 0,.int .i64 0,.str [],.nl]⟩)) (.leaf (some ⟨.sl 109,1,24,[.nl]⟩))) (.node 1 zl0 (.leaf (some ⟨.pt 30,1,8,[.np]⟩))))) (.node 4 (.node 2 (.node 1 (.leaf (some ⟨.sl 153,1,24,[.nl]⟩)) (.leaf (some ⟨.sl 105,1,24,[.nl]⟩))) (.node 1 (.leaf (some ⟨.st [(0,106),(1,107)],2,48,[.nl,.nl]⟩)) (.leaf (some ⟨.st [(0,106),(1,107)],2,48,[.nl,.nl]⟩)))) (.node 2 (.node 1 (.leaf (some ⟨.st [(0,50)],2,48,[.nl,.nl]⟩)) (.leaf (some ⟨.st [(0,50)],2,48,[.nl,.nl]⟩))) (.node 1 zl0 zl0))))))) (.node 57 (.node 28 (.node 14 (.node 7 (.node 3 (.node 1 (.leaf (some ⟨.st [(0,65),(1,65)],2,48,[.nl,.nl]⟩)) (.node 1 (.leaf (some ⟨.st [(0,65),(1,65)],2,48,[.nl,.nl]⟩)) zl0)) (.node 2 (.node 1 zl0 zl0) (.node 1 zl0 zl0))) (.node 3 (.node 1 zl0 (.node 1 zl0 zl_)) (.node 2 (.node 1 zl0 zl0) (.node 1 zl0 zl0)))) (.node 7 (.node 3 (.node 1 zl0 (.node 1 (.leaf (some ⟨.sl 132,1,24,[.nl]⟩)) zl0)) (.node 2 (.node 1 (.leaf (some ⟨.st [(0,105),(1,65)],2,32,[.np,.nl]⟩)) (.leaf (some ⟨.st [(0,105),(1,65)],2,32,[.np,.nl]⟩))) (.node 1 zl0 zl0))) (.node 3 (.node 1 zl0 (.node 1 (.leaf (some ⟨.st [(0,134),(1,135)],2,16,[.zv 1,.zv 1]⟩)) (.leaf (some ⟨.st [(0,134),(1,135)],2,16,[.zv 1,.zv 1]⟩)))) (.node 2 (.node 1 zl0 zl0) (.node 1 zl0 zl_))))) (.node 14 (.node 7 (.node 3 (.node 1 zl0 (.node 1 zl0 zl0)) (.node 2 (.node 1 zl0 zl0) (.node 1 zl0 zl0))) (.node 3 (.node 1 (.leaf (some ⟨.mp 9 150,1,8,[.zv 0]⟩)) (.node 1 (.leaf (some ⟨.st [],0,0,[]⟩)) zl0)) (.node 2 (.node 1 zl0 (.leaf (some ⟨.pt 9,1,8,[.np]⟩))) (.node 1 (.leaf (some ⟨.pt 35,1,8,[.np]⟩)) (.leaf (some ⟨.pt 73,1,8,[.np]⟩)))))) (.node 7 (.node 3 (.node 1 zl_ (.node 1 zl0 zl0)) (.node 2 (.node 1 zl0 zl0) (.node 1 zl0 zl0))) (.node 4 (.node 2 (.node 1 zl0 zl0) (.node 1 zl0 (.leaf (some ⟨.st [(0,9),(1,25)],5,72,[.str [],.int .i64 0,.int .i64 0,.str [],.nl]⟩)))) (.node 2 (.node 1 (.leaf (some ⟨.st [(0,9),(1,25)],5,72,[.str [],.int .i64 0,.int .i64 0,.str [],.nl]⟩)) zl0) (.node 1 zl0 (.leaf (some ⟨.pt 65,1,8,[.np]⟩)))))))) (.node 28 (.node 14 (.node 7 (.node 3 (.node 1 zl0 (.node 1 zl0 zl0)) (.node 2 (.node 1 zl0 zl0) (.node 1 zl0 zl_))) (.node 3 (.node 1 (.leaf (some ⟨.sl 5,1,24,[.nl]⟩)) (.node 1 zl0 zl_)) (.node 2 (.node 1 zl0 zl_) (.node 1 (.leaf (some ⟨.mp 9 134,1,8,[.zv 0]⟩)) zl0)))) (.node 7 (.node 3 (.node 1 zl0 (.node 1 zl0 zl0)) (.node 2 (.node 1 zl0 (.leaf (some ⟨.sl 65,1,24,[.nl]⟩))) (.node 1 zl0 zl0))) (.node 3 (.node 1 zl0 (.node 1 zl0 zl0)) (.node 2 (.node 1 zl0 zl_) (.node 1 zl4 zl0))))) (.node 14 (.node 7 (.node 3 (.node 1 zl0 (.node 1 zl_ zl0)) (.node 2 (.node 1 zl0 zl0) (.node 1 zl_ (.leaf (some ⟨.int .u32,1,4,[.int .u32 0]⟩))))) (.node 3 (.node 1 zl_ (.node 1 zl4 zl0)) (.node 2 (.node 1 zl0 zl_) (.node 1 zl_ zl0)))) (.node 7 (.node 3 (.node 1 (.leaf (some ⟨.st [(0,17),(1,17),(2,17),(3,9)],4,40,[.np,.np,.np,.str []]⟩)) (.node 1 (.leaf (some ⟨.st [(0,17),(1,17),(2,17),(3,9)],4,40,[.np,.np,.np,.str []]⟩)) (.leaf (some ⟨.ar 0 16,0,0,[]⟩)))) (.node 2 (.node 1 (.leaf (some ⟨.st [(0,215)],0,0,[]⟩)) (.leaf (some ⟨.st [(0,215)],0,0,[]⟩))) (.node 1 zl0 zl1))) (.node 4 (.node 2 (.node 1 zl1 zl0) (.node 1 (.leaf (some ⟨.pt 5,1,8,[.np]⟩)) zl5)) (.node 2 (.node 1 zl5 (.leaf (some ⟨.st [(0,12),(1,12),(2,205),(3,219),(4,5),(5,5),(6,220),(7,221),(8,222),(9,223),(10,224)],11,48,[.int .u64 0,.int .u64 0,.int .u32 0,.int .u8 0,.int .u8 0,.int .u8 0,.int .u8 0,.zv 1,.np,.int .i32 0,.int .i32 0]⟩))) (.node 1 (.leaf (some ⟨.st [(0,12),(1,12),(2,205),(3,219),(4,5),(5,5),(6,220),(7,221),(8,222),(9,223),(10,224)],11,48,[.int .u64 0,.int .u64 0,.int .u32 0,.int .u8 0,.int .u8 0,.int .u8 0,.int .u8 0,.zv 1,.np,.int .i32 0,.int .i32 0]⟩)) zl_)))))))
theorem trw:tr.wf=true:=by kernel_rfl
theorem tok:Tok Tryz.prog tr.flat:=by unfold Tok;kernel_rfl
theorem tg {t:Nat}{i:TI}(h:tr.get t=some i):tr.flat[t]?=some (some i):=Tr.get_ok trw h
theorem mixed:Tryz.prog.follows .mixedOrders=true:=by kernel_rfl
section
variable {ro:Option Nat}{n:Nat}{ops:Array Oper}{draw:Bool}{k k':Nat}{e:Nat→Option V}{h0:dD}{d0:List Nat}{st':St}{pre pre':REs}{tr':Tr}{ob:List Prop}{kf:List Nat}{id:Nat}
theorem ag {Q:Exit→St→Prop}(hs:List (Nat×Hn)) (h:yS Tryz.prog tr true false n ops.toList hs 1000 0 ops.toList e h0 d0 [] []=some (st',k',pre',ob)) (q:Q .normal st')
  (hc:jD ob:=by repeat (first | exact trivial | refine⟨by first | omega | assumption | exact⟨by kernel_rfl,by assumption⟩ | rfl | (simp only[Bs,List.length_nil];omega) | (simp;done) | (simp;omega),?_⟩)) (h1:Nat.beq k' ops.size=true:=by rfl) (h2:(!draw || (gJ (qU ops) pre'.reverse []&&j3 ops))=true:=by kernel_rfl):AWp ro Tryz.prog n kf (.region id ops draw) ⟨e,h0,d0⟩ Q:=
 aYj mixed trw tok h hc h1 h2 q
theorem agN {Q:Exit→St→Prop}(hs:List (Nat×Hn)) (h:yS Tryz.prog tr true true n ops.toList hs 1000 0 ops.toList e h0 d0 [] []=some (st',k',pre',ob)) (q:Q .normal st')
  (hc:jD ob:=by repeat (first | exact trivial | refine⟨by first | omega | assumption | exact⟨by kernel_rfl,by assumption⟩ | rfl | (simp only[Bs,List.length_nil];omega) | (simp;done) | (simp;omega),?_⟩)) (h1:Nat.beq k' ops.size=true:=by rfl) (h2:(!draw || (gJ (qU ops) pre'.reverse []&&j3 ops))=true:=by kernel_rfl):AWp ro Tryz.prog n kf (.region id ops draw) ⟨e,h0,d0⟩ Q:=
 aYj mixed trw tok h hc h1 h2 q
theorem ak {Q:St→Prop}(m:Nat) (hs:List (Nat×Hn)) (h:yS Tryz.prog tr true false n ops.toList hs m k (ops.toList.drop k) e h0 d0 pre []=some (st',k',pre',ob)) (hk:kD Tryz.prog n ops draw k' st' pre' Q)
  (hc:jD ob:=by repeat (first | exact trivial | refine⟨by first | omega | assumption | exact⟨by kernel_rfl,by assumption⟩ | rfl | (simp only[Bs,List.length_nil];omega) | (simp;done) | (simp;omega),?_⟩)):kD Tryz.prog n ops draw k ⟨e,h0,d0⟩ pre Q:=
 ax_ m trw tok h hc hk
theorem akN {Q:St→Prop}(m:Nat) (hs:List (Nat×Hn)) (h:yS Tryz.prog tr true true n ops.toList hs m k (ops.toList.drop k) e h0 d0 pre []=some (st',k',pre',ob)) (hk:kD Tryz.prog n ops draw k' st' pre' Q)
  (hc:jD ob:=by repeat (first | exact trivial | refine⟨by first | omega | assumption | exact⟨by kernel_rfl,by assumption⟩ | rfl | (simp only[Bs,List.length_nil];omega) | (simp;done) | (simp;omega),?_⟩)):kD Tryz.prog n ops draw k ⟨e,h0,d0⟩ pre Q:=
 ax_ m trw tok h hc hk
theorem agF {Q:Exit→St→Prop}{I:Nat→Option V}{q:dD}{d1:List Nat}{y:List Prop}{res:Res}{L:List (Nat×Option V)}(m:Nat) (hs:List (Nat×Hn)) (g1:yS Tryz.prog tr true false n ops.toList hs m 0 ops.toList e h0 d0 [] []=some (⟨I,q,d1⟩,k',pre',y))
  (g2:qK Tryz.prog tr true false n ops.toList hs (a1x (ops.toList.drop k')) 1000 k' (ops.toList.drop k') I q d1 [] pre' y=some res) (g3:uS res (a1x (ops.toList.drop k'))=some L) (J:Q .normal ⟨oB I L,q,d1⟩)
  (O:res.obs:=by repeat (first | exact trivial | refine⟨fun _=>?_,fun _=>?_⟩ | refine⟨by first | omega | assumption | exact⟨by kernel_rfl,by assumption⟩ | rfl | (simp only[Bs,List.length_nil];omega) | (simp;done) | (simp;omega),?_⟩)) (Y:res.good ops draw=true:=by kernel_rfl):AWp ro Tryz.prog n kf (.region id ops draw) ⟨e,h0,d0⟩ Q:=
 a09 m mixed trw tok g1 g2 g3 O Y J
theorem az {Q:St→Prop}(q:Q ⟨e,h0,d0⟩) (h1:Nat.beq k ops.size=true:=by rfl) (h2:(!draw || (gJ (qU ops) pre.reverse []&&j3 ops))=true:=by kernel_rfl):kD Tryz.prog n ops draw k ⟨e,h0,d0⟩ pre Q:=z_ h1 h2 q
theorem sgh {Q:Exit→St→Prop}{y:Code}(hs:List (Nat×Hn)) (h:yS Tryz.prog tr true false n ops.toList hs 1000 0 ops.toList e h0 d0 [] []=some (st',k',pre',ob)) (q:AWp ro Tryz.prog n kf y st' Q)
  (hc:jD ob:=by repeat (first | exact trivial | refine⟨by first | omega | assumption | exact⟨by kernel_rfl,by assumption⟩ | rfl | (simp only[Bs,List.length_nil];omega) | (simp;done) | (simp;omega),?_⟩)) (h1:Nat.beq k' ops.size=true:=by rfl) (h2:(!draw || (gJ (qU ops) pre'.reverse []&&j3 ops))=true:=by kernel_rfl):AWp ro Tryz.prog n kf (.seq (.region id ops draw) y) ⟨e,h0,d0⟩ Q:=
 a8 (ag hs h q hc h1 h2)
theorem sg {Q:Exit→St→Prop}{y:Code}(h:yS Tryz.prog tr true false n ops.toList [] 1000 0 ops.toList e h0 d0 [] []=some (st',k',pre',ob)) (q:AWp ro Tryz.prog n kf y st' Q)
  (hc:jD ob:=by repeat (first | exact trivial | refine⟨by first | omega | assumption | exact⟨by kernel_rfl,by assumption⟩ | rfl | (simp only[Bs,List.length_nil];omega) | (simp;done) | (simp;omega),?_⟩)) (h1:Nat.beq k' ops.size=true:=by rfl) (h2:(!draw || (gJ (qU ops) pre'.reverse []&&j3 ops))=true:=by kernel_rfl):AWp ro Tryz.prog n kf (.seq (.region id ops draw) y) ⟨e,h0,d0⟩ Q:=
 sgh [] h q hc h1 h2
theorem skh {Q:Exit→St→Prop}{y:Code}(m:Nat) (hs:List (Nat×Hn)) (h:yS Tryz.prog tr true false n ops.toList hs m 0 (ops.toList.drop 0) e h0 d0 [] []=some (st',k',pre',ob)) (hk:kD Tryz.prog n ops draw k' st' pre' (fun st'=>AWp ro Tryz.prog n kf y st' Q))
  (hc:jD ob:=by repeat (first | exact trivial | refine⟨by first | omega | assumption | exact⟨by kernel_rfl,by assumption⟩ | rfl | (simp only[Bs,List.length_nil];omega) | (simp;done) | (simp;omega),?_⟩)):AWp ro Tryz.prog n kf (.seq (.region id ops draw) y) ⟨e,h0,d0⟩ Q:=
 a8 (aE mixed (ak m hs h hk hc))
theorem sk {Q:Exit→St→Prop}{y:Code}(m:Nat) (h:yS Tryz.prog tr true false n ops.toList [] m 0 (ops.toList.drop 0) e h0 d0 [] []=some (st',k',pre',ob)) (hk:kD Tryz.prog n ops draw k' st' pre' (fun st'=>AWp ro Tryz.prog n kf y st' Q))
  (hc:jD ob:=by repeat (first | exact trivial | refine⟨by first | omega | assumption | exact⟨by kernel_rfl,by assumption⟩ | rfl | (simp only[Bs,List.length_nil];omega) | (simp;done) | (simp;omega),?_⟩)):AWp ro Tryz.prog n kf (.seq (.region id ops draw) y) ⟨e,h0,d0⟩ Q:=
 skh m [] h hk hc
theorem kz {Q:St→Prop}(m:Nat) (h:yS Tryz.prog tr true false n ops.toList [] m k (ops.toList.drop k) e h0 d0 pre []=some (st',k',pre',ob)) (q:Q st')
  (hc:jD ob:=by repeat (first | exact trivial | refine⟨by first | omega | assumption | exact⟨by kernel_rfl,by assumption⟩ | rfl | (simp only[Bs,List.length_nil];omega) | (simp;done) | (simp;omega),?_⟩)) (h1:Nat.beq k' ops.size=true:=by rfl) (h2:(!draw || (gJ (qU ops) pre'.reverse []&&j3 ops))=true:=by kernel_rfl):kD Tryz.prog n ops draw k ⟨e,h0,d0⟩ pre Q:=
 ak m [] h (z_ h1 h2 q) hc
end
set_option maxRecDepth 20000
abbrev Str:=List UInt8
def bA (s:Str):List C:=[.str s]
inductive Ty where
 | mk (form n:Int) (name:Str) (args:List Ty)
mutual
inductive Core where
 | mk (form n:Int) (name:Str) (ty:Ty) (kids:List Core) (binds:List Bind) (alts:List Alt)
inductive Bind where
 | mk (name:Str) (ty:Ty) (body:Core)
inductive Alt where
 | mk (form n:Int) (name:Str) (vars:List Str) (body:Core)
end
def Ty.form:Ty→Int | .mk f _ _ _=>f
def Ty.n:Ty→Int | .mk _ n _ _=>n
def Ty.name:Ty→Str | .mk _ _ s _=>s
def Ty.args:Ty→List Ty | .mk _ _ _ l=>l
def Core.form:Core→Int | .mk f _ _ _ _ _ _=>f
def Core.n:Core→Int | .mk _ n _ _ _ _ _=>n
def Core.name:Core→Str | .mk _ _ s _ _ _ _=>s
def Core.ty:Core→Ty | .mk _ _ _ t _ _ _=>t
def Core.kids:Core→List Core | .mk _ _ _ _ l _ _=>l
def Core.binds:Core→List Bind | .mk _ _ _ _ _ l _=>l
def Core.alts:Core→List Alt | .mk _ _ _ _ _ _ l=>l
def Bind.name:Bind→Str | .mk s _ _=>s
def Bind.ty:Bind→Ty | .mk _ t _=>t
def Bind.body:Bind→Core | .mk _ _ c=>c
def Alt.form:Alt→Int | .mk f _ _ _ _=>f
def Alt.n:Alt→Int | .mk _ n _ _ _=>n
def Alt.name:Alt→Str | .mk _ _ s _ _=>s
def Alt.vars:Alt→List Str | .mk _ _ _ l _=>l
def Alt.body:Alt→Core | .mk _ _ _ _ c=>c
mutual
def iK:Ty→List (List C)
 | .mk _ _ _ a=>fQ a
def fQ:List Ty→List (List C)
 | []=>[]
 | t::l=>[.int .i64 t.form,.int .i64 t.n,.str t.name,.sl 4 (iK t)]::fQ l
end
def c7 (t:Ty):List C:=[.int .i64 t.form,.int .i64 t.n,.str t.name,.sl 4 (iK t)]
mutual
def rD:Core→List (List C)
 | .mk _ _ _ _ l _ _=>aT l
def aBj:Core→List (List C)
 | .mk _ _ _ _ _ l _=>aR l
def nY:Core→List (List C)
 | .mk _ _ _ _ _ _ l=>bP l
def aT:List Core→List (List C)
 | []=>[]
 | c::l=>[.int .i64 c.form,.int .i64 c.n,.str c.name,.int .i64 c.ty.form,.int .i64 c.ty.n,.str c.ty.name,.sl 4 (iK c.ty),.sl 10 (rD c),.sl 15 (aBj c),.sl 14 (nY c)]::aT l
def a0d:Bind→List C
 | .mk _ _ c=>[.int .i64 c.form,.int .i64 c.n,.str c.name,.int .i64 c.ty.form,.int .i64 c.ty.n,.str c.ty.name,.sl 4 (iK c.ty),.sl 10 (rD c),.sl 15 (aBj c),.sl 14 (nY c)]
def aR:List Bind→List (List C)
 | []=>[]
 | b::l=>([.str b.name,.int .i64 b.ty.form,.int .i64 b.ty.n,.str b.ty.name,.sl 4 (iK b.ty)]++a0d b)::aR l
def a0c:Alt→List C
 | .mk _ _ _ _ c=>[.int .i64 c.form,.int .i64 c.n,.str c.name,.int .i64 c.ty.form,.int .i64 c.ty.n,.str c.ty.name,.sl 4 (iK c.ty),.sl 10 (rD c),.sl 15 (aBj c),.sl 14 (nY c)]
def bP:List Alt→List (List C)
 | []=>[]
 | a::l=>([.int .i64 a.form,.int .i64 a.n,.str a.name,.sl 1 (a.vars.map bA)]++a0c a)::bP l
end
def aB (c:Core):List C:=[.int .i64 c.form,.int .i64 c.n,.str c.name,.int .i64 c.ty.form,.int .i64 c.ty.n,.str c.ty.name,.sl 4 (iK c.ty),.sl 10 (rD c),.sl 15 (aBj c),.sl 14 (nY c)]
def aS (b:Bind):List C:=[.str b.name,.int .i64 b.ty.form,.int .i64 b.ty.n,.str b.ty.name,.sl 4 (iK b.ty)]++aB b.body
def cO (a:Alt):List C:=[.int .i64 a.form,.int .i64 a.n,.str a.name,.sl 1 (a.vars.map bA)]++aB a.body
theorem bT {α:Type}{l:List α}{k:Nat}{x:α}(f:α→List C) (h:l[k]?=some x):(l.map f)[k]?=some (f x):=by rw[Aq,h];rfl
theorem aJ {α:Type}{l:List α}{k:Nat}(h:k<l.length):∃x,l[k]?=some x:=⟨l[k],by simp[h]⟩
theorem b7:∀l:List Core,aT l=l.map aB
 | []=>by simp[aT]
 | c::l=>by rw[aT,b7 l];rfl
theorem bC:∀l:List Bind,aR l=l.map aS
 | []=>by simp[aR]
 | .mk s t c::l=>by rw[aR,bC l];rfl
theorem bN:∀l:List Alt,bP l=l.map cO
 | []=>by simp[bP]
 | .mk f n s v c::l=>by rw[bP,bN l];rfl
theorem kV:∀l:List Ty,fQ l=l.map c7
 | []=>by simp[fQ]
 | c::l=>by rw[fQ,kV l];rfl
theorem yH (c:Core):rD c=c.kids.map aB:=by cases c;rw[rD,b7];rfl
theorem aHi (c:Core):nY c=c.alts.map cO:=by cases c;rw[nY,bN];rfl
def few (c:Core):Bool:=if c.form=4∨c.form=10 then decide ((c.kids.length:Int)<2) else decide (c.form=5∨c.form=6∨c.form=7∨c.form=8∨c.form=9)&&decide ((c.kids.length:Int)<1)
theorem a8h (c:Core):aW Tryz.prog 27 [.pa (aB c)] [] (B (few c)) []:=by
 refine bZ (n:=46) tok Tryz.func27 rfl rfl rfl ?_;refine sg rfl (sg rfl (a8 (a8 (agF 4 [] rfl rfl rfl (aA rfl (fun hb=>?_) (fun hb=>?_))))))
 ·refine sg rfl (aF ?_);have:c.form=4∨c.form=10:=by simpa using hb
  exact⟨.inr rfl,⟨_,_,.tmp rfl .nil,.cons .refl .nil,by simp[aLp,few,this,yH]⟩,trivial,rfl⟩
 ·refine aD ?_;have h1:¬(c.form=4∨c.form=10):=by simpa using hb
  exact a8 (agF 4 [] rfl rfl rfl (a8 (agF 2 [] rfl rfl rfl (aF ⟨.inr rfl,⟨_,_,.tmp rfl .nil,.cons .refl .nil,by simp[aLp,few,h1,yH]⟩,trivial,rfl⟩))))
def Fits {α:Type}(l:List α):Prop:=l.length≤1152921504606846976
theorem a8g (l:List Str) (s:Str) (hl:Fits l):aW Tryz.prog 70 [.one (.c (.sl 1 (l.map bA))),Go.AM.T s] [] (B (decide (s∈l))) []:=by
 unfold Fits at hl;refine bZ (n:=18) tok Tryz.func70 rfl rfl rfl ?_;refine sg rfl (a8 (sg rfl (aC (aK (fun k:Nat=>mk [(0,.one (.c (.sl 1 (l.map bA)))),(1,Go.AM.T s),(5,I .i64 k)] []) (fun k=>k≤l.length∧s∉l.take k) (fun k=>l.length-k) 0 ⟨Al _,by simp⟩ (.list (fun i=>i) ⟨rfl,rfl,rfl,trivial⟩ trivial rfl) ?_))));intro k ⟨hk,hm⟩;refine a8 (sg rfl (aA rfl (fun hb=>?_) (fun hb=>?_)))
 ·refine aD ?_;have y:k<l.length:=by simpa using hb
  obtain⟨x,hx⟩:=aJ y;have Y:=bT bA hx;refine a8 (aC (sgh [(2,.row k (bA x))] rfl (aA rfl (fun hb=>?_) (fun hb=>?_))))
  ·refine sg rfl (aF ?_);have q:x=s:=by simpa using hb
   have:s∈l:=by rw[←q];exact δ hx
   exact⟨.inr rfl,⟨_,_,.tmp rfl .nil,.cons .refl .nil,by simp[aLp,this]⟩,trivial,rfl⟩
  ·refine aD (ag [] rfl ⟨k+1,⟨y,?_⟩,by dsimp only;omega,.list (fun i=>i) ⟨rfl,rfl,rfl,trivial⟩ trivial rfl⟩);rw[Bt,hx];have q:¬x=s:=by simpa using hb
   have J:¬s=x:=fun e=>q e.symm
   simp[hm,J]
 ·refine aL ?_;have O:k=l.length:=by
   have:¬k<l.length:=by simpa using hb
   omega
  refine sg rfl (aF ?_);rw[O,As] at hm;exact⟨.inr rfl,⟨_,_,.tmp rfl .nil,.cons .refl .nil,by simp[aLp,hm]⟩,trivial,rfl⟩
def yW (n k:Int):Int:=(if n<0 then -(n+1) else n)%k
def i64 (n:Int):Prop:= -9223372036854775808≤n∧n≤9223372036854775807
theorem aSq (n:Int) {k:Int}(hk:0<k):0≤yW n k∧yW n k<k:=⟨Int.emod_nonneg _ (by omega),Int.emod_lt_of_pos _ hk⟩
theorem aV7 (n k:Int) (hn:i64 n) (hk:1≤k):aW Tryz.prog 15 [I .i64 n,I .i64 k] [] (I .i64 (yW n k)) []:=by
 unfold i64 at hn;refine bZ (n:=13) tok Tryz.func15 rfl rfl rfl ?_;refine sg rfl (a8 (sg rfl (aA rfl (fun hb=>?_) (fun hb=>?_))))
 ·have h0:n<0:=by simpa using hb
  exact ag [] rfl (sg rfl (aF ⟨.inr rfl,⟨_,_,.tmp rfl .nil,.cons .refl .nil,by simp[aLp,yW,h0]⟩,trivial,rfl⟩))
 ·have h0:¬n<0:=by simpa using hb
  exact aD (sg rfl (aF ⟨.inr rfl,⟨_,_,.tmp rfl .nil,.cons .refl .nil,by simp[aLp,yW,h0]⟩,trivial,rfl⟩))
def aNc (n:Int):List C:=[.int .i64 n]
def nmL:List Str:=[[120],[121],[97],[98],[122,64,49]]
def aUk:List Str:=[[97,100,100],[115,117,98],[109,117,108],[100,105,118],[101,113],[108,116]]
def aTe (a b:Ty):Ty:=.mk 4 0 [] [a,b]
def arrow:Str:=[45,62]
def aTq (a b:Ty):Ty:=aTe (aTe (.mk 3 0 arrow []) a) b
theorem a5s (a b:Ty):aW Tryz.prog 64 [.pa (c7 a),.pa (c7 b)] [] (.pa (c7 (aTe a b))) []:=by
 obtain⟨f,n,s,l⟩:=a;obtain⟨f',n',s',l'⟩:=b;refine bZ (n:=9) tok Tryz.func64 rfl rfl rfl ?_;refine sg rfl (sg rfl (AWp.sub (Sub.freeze (id:=7) rfl) (aF ?_)));exact⟨.inr rfl,⟨_,_,.cell rfl (tg rfl) rfl rfl rfl .nil,.cons (.agg (.c .refl (.c .refl (.c .refl (.hs rfl rfl rfl .nil))))) .nil,rfl⟩,trivial,rfl⟩
theorem a0t (a b:Ty):aW Tryz.prog 24 [.pa (c7 a),.pa (c7 b)] [] (.pa (c7 (aTq a b))) []:=by
 obtain⟨f,n,s,l⟩:=a;obtain⟨f',n',s',l'⟩:=b;refine bZ (n:=10) tok Tryz.func24 rfl rfl rfl ?_;refine sg rfl (sk 2 rfl (kc (a5s (.mk 3 0 arrow []) (.mk f n s l)) ?_));refine ak 1 [] rfl (kc (a5s (aTe (.mk 3 0 arrow []) (.mk f n s l)) (.mk f' n' s' l')) ?_);exact kz 1 rfl (aF ⟨.inr rfl,⟨_,_,.cell rfl (tg rfl) rfl rfl rfl .nil,.cons .refl .nil,rfl⟩,trivial,rfl⟩)
def aWp (l:List Int):Prop:=∀x∈l,i64 x
theorem aWp.suf {l l':List Int}(h:aWp l) (hs:l'<:+l):aWp l':=fun x hx=>h x (hs.subset hx)
theorem Fits.suf {l l':List Int}(h:Fits l) (hs:l'<:+l):Fits l':=by
 have:=hs.length_le;unfold Fits at *;omega
def a1t:Ty:=.mk 3 0 [73,110,116] []
def tyV (t:Ty):V:=.pa (c7 t)
def zTy:Ty:=.mk 0 0 [] []
theorem a5j (l:List Int) (k:Nat) (q:Fits l) (hk:k≤1000):aW Tryz.prog 21 [.one (.c (.sl 1 (l.map aNc))),I .i64 k] [] (.one (.c (.sl 1 ((l.take k).map aNc)))) []:=by
 unfold Fits at q;refine bZ (n:=14) tok Tryz.func21 rfl rfl rfl ?_;refine sg rfl (sg rfl (sk 6 rfl ?_));have hm:(if(k:Int)<(((l.map aNc).length:Nat):Int) then(k:Int) else(((l.map aNc).length:Nat):Int))=((min l.length k:Nat):Int):=by
  rw[φ];split<;>omega
 rw[hm];have ht:(l.map aNc).take (min l.length k)=(l.take k).map aNc:=by
  rw[←List.map_take];congr 1;by_cases h:k≤l.length
  ·rw[Nat.min_eq_right h]
  ·rw[Ci (by omega),Az (le_refl _),Az (by omega)]
 have hl:((l.map aNc).take (min l.length k)).length≤1000:=by rw[Ap];omega
 refine akN 3 [] rfl (az (AWp.sub (Sub.freeze (id:=13) rfl) (aF ?_))) (hc:=⟨by omega,by rw[φ];omega,by omega,trivial⟩);rw[←ht];exact⟨.inr rfl,⟨_,_,.tmp rfl .nil,.cons (.one (.hs rfl rfl (by rw[B3,As]) .nil)) .nil,rfl⟩,trivial,rfl⟩
def gO:Core:=.mk 0 0 [] zTy [] [] []
mutual
def aZ:Core→Core
 | .mk f n s _ ks bs al=>if(f=6∨f=7)∧1≤ks.length then(dM ks).headD (.mk 0 0 [] zTy [] [] []) else .mk f n s zTy (dM ks) (eM bs) (eQ al)
def dM:List Core→List Core
 | []=>[]
 | c::l=>aZ c::dM l
def iC:Bind→Bind
 | .mk s _ c=>.mk s zTy (aZ c)
def eM:List Bind→List Bind
 | []=>[]
 | b::l=>iC b::eM l
def pZ:Alt→Alt
 | .mk f n s vs c=>.mk f n s vs (aZ c)
def eQ:List Alt→List Alt
 | []=>[]
 | a::l=>pZ a::eQ l
end
theorem lR:∀l:List Core,dM l=l.map aZ
 | []=>by simp[dM]
 | c::l=>by rw[dM,lR l];rfl
theorem oS:∀l:List Bind,eM l=l.map iC
 | []=>by simp[eM]
 | c::l=>by rw[eM,oS l];rfl
theorem lS:∀l:List Alt,eQ l=l.map pZ
 | []=>by simp[eQ]
 | c::l=>by rw[eQ,lS l];rfl
mutual
def aQ:Core→Nat
 | .mk _ _ s _ ks bs al=>1+s.length+bM ks+c9 bs+cK al
def bM:List Core→Nat
 | []=>0
 | c::l=>aQ c+bM l
def bsize:Bind→Nat
 | .mk s _ c=>1+s.length+aQ c
def c9:List Bind→Nat
 | []=>0
 | b::l=>bsize b+c9 l
def kZ:Alt→Nat
 | .mk _ _ s vs c=>1+s.length+(vs.map (fun v=>1+v.length)).sum+aQ c
def cK:List Alt→Nat
 | []=>0
 | a::l=>kZ a+cK l
end
theorem bH (c:Core):1≤aQ c:=by cases c;rw[aQ];omega
theorem rH:∀l:List Core,l.length≤bM l
 | []=>Al _
 | c::l=>by rw[bM,Ai];have:=rH l;have:=bH c;omega
theorem rG:∀{l:List Core}{c:Core},c∈l→aQ c≤bM l
 | d::l,c,h=>by
  rw[bM];rcases Ac.1 h with rfl | h
  ·omega
  ·have:=rG h;omega
theorem iO:∀l:List Bind,l.length≤c9 l
 | []=>Al _
 | .mk s t c::l=>by rw[c9,bsize,Ai];have:=iO l;omega
theorem yP:∀{l:List Bind}{c:Bind},c∈l→bsize c≤c9 l
 | d::l,c,h=>by
  rw[c9];rcases Ac.1 h with rfl | h
  ·omega
  ·have:=yP h;omega
theorem rL:∀l:List Alt,l.length≤cK l
 | []=>Al _
 | .mk f n s vs c::l=>by rw[cK,kZ,Ai];have:=rL l;omega
theorem jE:∀{l:List Alt}{c:Alt},c∈l→kZ c≤cK l
 | d::l,c,h=>by
  rw[cK];rcases Ac.1 h with rfl | h
  ·omega
  ·have:=jE h;omega
def qL (c:Core):Prop:=aW Tryz.prog 6 [.pa (aB c)] [] (.pa (aB (aZ c))) []
theorem cR {l:List Bind}{k:Nat}{x:Bind}(h:l[k]?=some x):(aR l)[k]?=some (aS x):=by rw[bC];exact bT aS h
theorem fA {l:List Core}{k:Nat}{x:Core}(h:l[k]?=some x):(aT l)[k]?=some (aB x):=by rw[b7];exact bT aB h
theorem gE {l:List Alt}{k:Nat}{x:Alt}(h:l[k]?=some x):(bP l)[k]?=some (cO x):=by rw[bN];exact bT cO h
theorem cB {α:Type}{l:List α}{k:Nat}{x:α}(h:l[k]?=some x):l.take (k+1)=l.take k++[x]:=by rw[Bt,h];rfl
theorem aV6 (l:List Bind) (hl:l.length≤1000000) (Y:∀b∈l,qL b.body):aW Tryz.prog 28 [.one (.c (.sl 15 (aR l)))] [] (.one (.c (.sl 15 (aR (eM l))))) []:=by
 refine bZ (n:=27) tok Tryz.func28 rfl rfl rfl ?_;refine sg rfl (sg rfl (a8 (sg rfl ?_)));have hle:(aR l).length=l.length:=by rw[bC,φ]
 refine AWp.sub (Sub.own (t:=3) (id:=500) 35 15 rfl rfl) ?_;refine aC (aK (fun i:Nat=>mk [(0,.one (.c (.sl 15 (aR l)))),(3,.one (.hs 500 0 ((l.take i).map iC).length ((l.take i).map iC).length)),(4,I .i64 i)] [(500,.arr 35 15 (aR ((l.take i).map iC)) 0)]) (fun i=>i≤l.length) (fun i=>l.length-i) 0 (Al _) (.list (fun i=>i) ⟨rfl,rfl,rfl,trivial⟩ ⟨⟨_,rfl,.arr⟩,trivial⟩ rfl) ?_);intro i hi;have q:((l.take i).map iC).length=(aR ((l.take i).map iC)).length:=by rw[bC];simp
 have hbl:(aR ((l.take i).map iC)).length≤1000000:=by rw[←q,φ,Ap];omega
 refine a8 (sg rfl (aA rfl (fun hb=>?_) (fun hb=>?_)))
 ·refine aD ?_;have J:i<l.length:=by rw[←hle];simpa using hb
  obtain⟨b,y⟩:=aJ J;have Z:=cR y;have he:(l.take (i+1)).map iC=(l.take i).map iC++[iC b]:=by rw[cB y,A6];rfl
  refine a8 (aC (aE mixed (ak 11 [(3,.row i (aS b)),(8,.row i (aS b))] rfl (kc (Y b (δ y)) ?_))));refine kz 4 rfl (ag [] rfl ⟨i+1,J,by dsimp only;omega,?_⟩);dsimp only;rw[he];obtain⟨s,t,c⟩:=b;refine .list (fun i=>i) ⟨rfl,?_,rfl,trivial⟩ ⟨⟨_,rfl,by rw[bC ((l.take i).map iC++_),A6,←bC];exact .arr⟩,trivial⟩ rfl;show some (V.one (R.hs 500 0 _ _))=some (V.one (R.hs 500 0 _ _));rw[ε,←q];rfl
 ·have O:i=l.length:=by
   have:¬i<l.length:=by rw[←hle];simpa using hb
   omega
  have hE:aR ((l.take i).map iC)=((aR ((l.take i).map iC)).drop 0).take ((l.take i).map iC).length:=by rw[B3,q,As]
  refine aL (sg rfl (AWp.sub (Sub.freeze (id:=500) rfl) (aF ?_)));have hr:eM l=(l.take i).map iC:=by rw[O,As,oS]
  rw[hr];exact⟨.inr rfl,⟨_,_,.tmp rfl .nil,.cons (.one (.hs rfl q hE .nil)) .nil,rfl⟩,trivial,rfl⟩
def dY:List R:=[.c (.int .i64 0),.c (.int .i64 0),.c (.str []),.c (.int .i64 0),.c (.int .i64 0),.c (.str []),.c .nl,.c .nl,.c .nl,.c .nl]
def bF (c:Core):List R:=(aB c).map R.c
theorem dL {f n:Int}{s:Str}{t:Ty}{ks:List Core}{bs:List Bind}{al:List Alt}:(∀x∈ks,aQ x<aQ (.mk f n s t ks bs al))∧(∀x∈bs,aQ x.body<aQ (.mk f n s t ks bs al))∧(∀x∈al,aQ x.body<aQ (.mk f n s t ks bs al))∧
  ks.length<aQ (.mk f n s t ks bs al)∧bs.length<aQ (.mk f n s t ks bs al)∧al.length<aQ (.mk f n s t ks bs al):=by
 rw[aQ];have q:=rH ks;have y:=iO bs;have I:=rL al;refine⟨fun x hx=>?_,fun x hx=>?_,fun x hx=>?_,by omega,by omega,by omega⟩
 ·have:=rG hx;omega
 ·have:=yP hx;obtain⟨s',t',c'⟩:=x;rw[bsize] at this;show aQ c'<_;omega
 ·have:=jE hx;obtain⟨f',n',s',v',c'⟩:=x;rw[kZ] at this;show aQ c'<_;omega
theorem oX {α β:Type}(f:α→β) {l:List α}{i:Nat}{x:α}(h:l[i]?=some x):(l.take i).map f++[f x]=(l.take (i+1)).map f:=by rw[cB h,A6];rfl
theorem aQ1 {c:Core}(h:c.form=6∨c.form=7):few c=decide (c.kids.length=0):=by
 unfold few;rw[θ (by omega)];have:decide (c.form=5∨c.form=6∨c.form=7∨c.form=8∨c.form=9)=true:=by
  rw[A4];omega
 rw[this,Db];congr 1;rw[eq_iff_iff];omega
theorem aFg (c:Core) (hc:aQ c≤1000000) (ih:∀x,aQ x<aQ c→qL x):qL c:=by
 have hfew:=a8h c;obtain⟨f,n,s,t,ks,bs,al⟩:=c;obtain⟨ihk,ihb,iha,hkl,hbl,hal⟩:= @dL f n s t ks bs al;have hB:=aV6 bs (by omega) fun b hb=>ih _ (ihb b hb)
 refine bZ (n:=77) tok Tryz.func6 rfl rfl rfl ?_;refine sg rfl (a8 (a8 (agF 4 [(10,.pc (B (few (.mk f n s t ks bs al))))] rfl rfl rfl (aA rfl (fun hb=>?_) (fun hb=>?_)))))
 ·have q:(f=6∨f=7)∧1≤ks.length:=by
   by_cases h6:f=6∨f=7
   ·refine⟨h6,?_⟩;rw[aQ1 (c:=.mk f n s t ks bs al) h6] at hb;rcases h6 with rfl | rfl<;>simp[Core.form,Core.kids] at hb<;>exact List.length_pos_iff.2 hb
   ·exfalso;have:¬f=6∧¬f=7:=by omega
    simp[Core.form,this.1,this.2] at hb
  cases ks with
  | nil=>simp at q
  | cons J ks=>
   have hk:=ih J (ihk J (by simp));have hr:aZ (.mk f n s t (J::ks) bs al)=aZ J:=by
    rw[aZ,κ q,dM];rfl
   rw[hr];exact sgh [(2,.row 0 (aB J)),(4,.pc (.pa (aB (aZ J))))] rfl (aF (rtC trw)) (hc:=⟨⟨by kernel_rfl,hk⟩,rfl,rfl,trivial⟩)
 ·have q:¬((f=6∨f=7)∧1≤ks.length):=by
   rintro⟨h6,h1⟩;rw[aQ1 (c:=.mk f n s t ks bs al) h6] at hb;rcases h6 with rfl | rfl<;>simp[Core.form,Core.kids] at hb<;>simp[hb] at h1
  rw[show aZ (.mk f n s t ks bs al)=.mk f n s zTy (dM ks) (eM bs) (eQ al) by rw[aZ,θ q]];refine aD (sg rfl (a8 (sg rfl (AWp.sub (Sub.ownCell (x:=3) (k:=7) (id:=500) 30 10 rfl rfl rfl) ?_))));have hkE:(aT ks).length=ks.length:=by rw[b7,φ]
  refine aC (aK (fun i:Nat=>mk [(1,.one (.vp 1 0)),(2,.one (.vp 2 0)),(3,.one (.vp 3 0)),(4,I .i64 i)] [(1,.var 30 (bF (.mk f n s t ks bs al))),(2,.var 30 dY),(3,.var 30 [.c (.int .i64 f),.c (.int .i64 n),.c (.str s),.c (.int .i64 0),.c (.int .i64 0),.c (.str []),.c .nl,.hs 500 0 i i,.c .nl,.c .nl]),(500,.arr 30 10 ((ks.take i).map fun x=>aB (aZ x)) 0)]) (fun i=>i≤ks.length) (fun i=>ks.length-i) 0 (Al _) sl ?_);intro i hi;refine a8 (sg rfl (aA rfl (fun hb=>?_) (fun hb=>?_)))
  ·have y:i<ks.length:=ltD hb hkE;obtain⟨k,O⟩:=aJ y;have hki':=fA O;have he:=ih k (ihk k (δ O));refine aD (a8 (aC (ag [(5,.row i (aB k)),(7,.pc (.pa (aB (aZ k))))] rfl (ag [] rfl ?_))));have hrows:=oX (fun x=>aB (aZ x)) O;exact⟨i+1,y,by dsimp only;omega,sl⟩
  ·have Y:i=ks.length:=geD hb hkE hi;subst Y;have hKs:(ks.take ks.length).map (fun x=>aB (aZ x))=aT (dM ks):=by rw[As,b7,lR,Bn];rfl
   rw[hKs];refine aL (AWp.sub (Sub.freeze (id:=500) rfl) ?_);refine sgh [(2,.pc (.one (.c (.sl 15 (aR (eM bs))))))] rfl (a8 (sg rfl (AWp.sub (Sub.ownCell (x:=3) (k:=9) (id:=501) 73 14 rfl rfl rfl) ?_)));have hkA:(bP al).length=al.length:=by rw[bN,φ]
   refine aC (aK (fun i:Nat=>mk [(1,.one (.vp 1 0)),(2,.one (.vp 2 0)),(3,.one (.vp 3 0)),(5,I .i64 i)] [(1,.var 30 (bF (.mk f n s t ks bs al))),(2,.var 30 dY),(3,.var 30 [.c (.int .i64 f),.c (.int .i64 n),.c (.str s),.c (.int .i64 0),.c (.int .i64 0),.c (.str []),.c .nl,.hs 500 0 ks.length ks.length,.c (.sl 15 (aR (eM bs))),.hs 501 0 i i]),(500,.arr 30 10 (aT (dM ks)) 2),(501,.arr 73 14 ((al.take i).map fun x=>cO (pZ x)) 0)]) (fun i=>i≤al.length) (fun i=>al.length-i) 0 (Al _) sl ?_);intro j hj;refine a8 (sg rfl (aA rfl (fun hb=>?_) (fun hb=>?_)))
   ·have y:j<al.length:=ltD hb hkA;obtain⟨a,Z⟩:=aJ y;have hai':=gE Z;have he:=ih a.body (iha a (δ Z));have hrows:=oX (fun x=>cO (pZ x)) Z;obtain⟨f',n',s',v',c'⟩:=a;exact aD (a8 (aC (sgh [(3,.row j (cO (.mk f' n' s' v' c')))] rfl (sgh [(2,.pc (.pa (aB (aZ c'))))] rfl (ag [] rfl (ag [] rfl ⟨j+1,y,by dsimp only;omega,sl⟩))))))
   ·have Y:=geD hb hkA hj;subst Y;have hAs:(al.take al.length).map (fun x=>cO (pZ x))=bP (eQ al):=by rw[As,bN,lS,Bn];rfl
    rw[hAs];refine aL (sg rfl (AWp.sub (Sub.freeze (id:=501) rfl) ?_));have h1:ks.length=(aT (dM ks)).length:=by rw[b7,lR,Bn,φ]
    have h2:al.length=(bP (eQ al)).length:=by rw[bN,lS,Bn,φ]
    exact aF (rtC trw)
theorem aHq:∀(n:Nat) (c:Core),aQ c≤n→aQ c≤1000000→qL c
 | 0,c,h,_=>by have:=bH c;omega
 | n+1,c,h,hm=>aFg c hm fun x hx=>aHq n x (by omega) (by omega)
end Go.Proofs.YtnjaiimffoninaaGreatDoor
namespace Go.AM
open Go Go.Proofs Go.Shelf
theorem s9 {ro:Option Nat}{P:Program}{n:Nat}{kf:List Nat}{c:Code}{st:St}{Q:Exit→St→Prop}(t:Nat) {es:Nat}{l:List (List C)}(h:st.e t=some (.one (.c (.sl es l)))) (h1:l=[]→AWp ro P n kf c ⟨upd st.e t (some (.one (.c .nl))),st.h,st.d⟩ Q)
  (h2:AWp ro P n kf c ⟨upd st.e t (some (.one (.c (.sn es l)))),st.h,st.d⟩ Q):AWp ro P n kf c st Q:=by
 intro G S μ a w Q' I hs J;have O:=hs.env t _ h
 have key:∀x:V,aY S μ st.h x (a.tmps.getD t undef)→Sim G n S μ ⟨upd st.e t (some x),st.h,st.d⟩ a w:=fun x hx=>⟨hs.inv,hs.size,hs.defers,fun s u e=>by
  by_cases q:s=t
  ·subst q;have:some x=some u:=by rw[←e];exact(aI _ _ _).symm
   cases this;exact hx
  ·exact hs.env s u (by rw[←e];exact(aV _ _ _ q).symm)⟩
 simp only[aY,b9,Rep] at O;obtain⟨y,len,cap,Y,e2,e3,e4,e5,e6,b,o,e7,e8⟩:=O;cases y with
 | none=>
  obtain⟨e9,Z⟩:=e5 rfl;have hl:l=[]:=Bb (by omega);exact h1 hl G S μ a w Q' I (key _ (by simp only[aY,b9,Rep];rw[Y,e9,Z])) J
 | some y=>
  obtain⟨b',o',sp⟩:=y;have h6:=e6 _ rfl;obtain⟨h7,h8⟩:=e7 _ rfl;dsimp only at h6 h7 h8;subst h7 h8;exact h2 G S μ a w Q' I (key _ (by simp only[aY,b9,Rep];exact⟨b',o',sp,len,cap,Y,e2,e3,e4,h6,e8⟩)) J
theorem aVb {P:Program}{ρ:Ren}{T:TT}{ei:TI}(L:Lays8.n4 P ρ) (O:Tok P T) (y:T[ρ.t 25]?=some (some ei)) (Y:Nat.ble 1 ei.size=true) (k:Nat) (hk:k*ei.bytes≤140737488355328) (hk2:k≤140737488355328):
  aW P (ρ.f 4) [.one (.c .nl),I .i64 (k:Int)] [] (.one (.hs 720 0 0 0)) [(720,.arr (ρ.t 25) ei.size [] 0)]:=by
 intro S μ w vals q Z;simp only[c6,aY,b9,Rep] at Z;obtain⟨v1,vs1,rfl,rfl,v2,vs2,rfl,rfl,rfl⟩:=Z;obtain⟨inf,dd,z,g1,g2,g3,g4,g5,g6,g7,g8⟩:=(O.get y).ex;have aa:z.cells.size=ei.size:=by
  have h1:=(iM (S:=S) g7).length;rw[(O.get y).len] at h1;simpa using h1
 have hid:look ([]:List (Nat×AObj)) 720=none:=rfl;by_cases h0:k=0
 ·subst h0;refine Calls.mono (Any8.slices_Grow_room L none 0 0 0 w (by omega) (by omega) (by omega) (by omega)) ?_;rintro e w' ⟨rfl,rfl⟩;obtain⟨hi,hE⟩:=q.empty (ρ.t 25) ei.size hid;refine⟨S,upd μ 720 none,_,rfl,?_,?_⟩
  ·rw[pN];exact hi
  ·rw[pN];simp only[aY,b9];exact⟨⟨_,_,_,rfl⟩,.inr ⟨_,_,[],0,aI _ _ _,le_refl _,fun _=>⟨le_refl _,.inl ⟨aI _ _ _,rfl,by first | rfl | trivial⟩⟩⟩⟩
 ·refine Calls.mono (Any8.slices_Grow_grow L inf z g1 g6 (by rw[g3];exact Ak Y) none 0 0 k [] w (by omega) (by omega) (by rw[g4,Be];exact hk) (by omega) (by simp) (fun _=>rfl) (fun a h=>by cases h)) ?_;rintro e w' ⟨rfl,rfl⟩;simp only[Be,sub_zero];have hG1:=grownCap_ge w k 0 (ρ.t 25);have J:=grownCap_le_maxLen w k 0 (ρ.t 25) (by unfold maxLen;omega);generalize grownCap w k 0 (ρ.t 25)=G at hG1 J ⊢;have hO:nI S (upd μ 720 (some (w.heap.size,0,G))) (upd (look []) 720 (some (.arr (ρ.t 25) ei.size [] 0))) (w.drew.alloc (.cells ((([]:List Value).toArray)++Builtin.zeroCells z.cells k++Builtin.zeroCells z.cells (G-k)) (ρ.t 25))) 720 (.arr (ρ.t 25) ei.size [] 0):=by
   refine⟨by simp,.inr ⟨w.heap.size,0,G,(([]:List Value).toArray++Builtin.zeroCells z.cells k++Builtin.zeroCells z.cells (G-k)).toList,aI _ _ _,B4 w.drew _,?_,Al _,⟨J,pK q⟩,?_,fun _ o _=>fX q o,fun o _=>fX q o,fun e=>by cases e⟩⟩
   ·simp only[C4,ε,Bd,size_zeroCells,aa,Be,length_nil];rw[←A7];exact A0 _ (by omega)
   ·simp[dH]
  have hE:Evolve S μ (look []) S (upd μ 720 (some (w.heap.size,0,G))) (upd (look []) 720 (some (.arr (ρ.t 25) ei.size [] 0))):=gD hid _ _;have hi:=q.chg (id:=720) (cap:=(0,G)) (WChg.alloc_drew w _) (.inl (le_refl _)) hE hO (fun o v e=>by rw[fX q] at e;cases e) (fun m e=>le_refl _);refine⟨S,upd μ 720 (some (w.heap.size,0,G)),_,rfl,?_,?_⟩
  ·rw[pN];exact hi
  ·rw[pN];simp only[aY,b9];exact⟨⟨_,_,_,rfl⟩,.inr ⟨_,_,[],0,aI _ _ _,le_refl _,fun _=>⟨le_refl _,.inr ⟨w.heap.size,0,G,aI _ _ _,by simp⟩⟩⟩⟩
end Go.AM
namespace Go.AM
open Go
def AObj.ren (σ:Nat→Nat):AObj→AObj
 | .var t cells=>.var t (R.renL σ cells)
 | .lp st j i e=>.lp st j i (aM9 σ e)
 | .rarr te es l=>.rarr te es (o9 σ l)
 | .tok r k=>.tok (r.ren σ) k
 | o=>o
def renH (σ:Nat→Nat) (hl:List (Nat×AObj)):List (Nat×AObj):=hl.map fun p=>(σ p.1,p.2.ren σ)
section
mutual
theorem R.ren_ren {σ:Nat→Nat}(hσ:∀i,σ (σ i)=i):∀r:R,(r.ren σ).ren σ=r
 | .c _=>rfl
 | .hs ..=>by simp[R.ren,hσ]
 | .tl ..=>by simp[R.ren,hσ]
 | .vp ..=>by simp[R.ren,hσ]
 | .ep ..=>by simp[R.ren,hσ]
 | .mr _=>by simp[R.ren,hσ]
 | .clo f caps=>by simp[R.ren,R.renL_renL hσ caps]
 | .mth f r=>by simp[R.ren,R.ren_ren hσ r]
 | .yl _=>by simp[R.ren,hσ]
 | .ra ..=>by simp[R.ren,hσ]
 | .rp ..=>by simp[R.ren,hσ]
 | .ras n es l=>by simp[R.ren,R.renL_renL hσ l]
 | .pas l=>by simp[R.ren,R.renL_renL hσ l]
theorem R.renL_renL {σ:Nat→Nat}(hσ:∀i,σ (σ i)=i):∀l:List R,R.renL σ (R.renL σ l)=l
 | []=>rfl
 | r::l=>by simp[R.renL,R.ren_ren hσ r,R.renL_renL hσ l]
end
mutual
theorem V.ren_ren {σ:Nat→Nat}(hσ:∀i,σ (σ i)=i):∀r:V,(r.ren σ).ren σ=r
 | .one r=>by simp[V.ren,R.ren_ren hσ r]
 | .pa _=>rfl
 | .ma l=>by simp[V.ren,R.renL_renL hσ l]
 | .tup l=>by simp[V.ren,V.renL_renL hσ l]
theorem V.renL_renL {σ:Nat→Nat}(hσ:∀i,σ (σ i)=i):∀l:List V,V.renL σ (V.renL σ l)=l
 | []=>rfl
 | r::l=>by simp[V.renL,V.ren_ren hσ r,V.renL_renL hσ l]
end
variable {σ:Nat→Nat}(hσ:∀i,σ (σ i)=i)
include hσ
theorem aCv:∀l:List (Nat×V),aM9 σ (aM9 σ l)=l
 | []=>rfl
 | (t,v)::l=>by simp[aM9,V.ren_ren hσ v,aCv l]
theorem aCt:∀l:List (List R),o9 σ (o9 σ l)=l
 | []=>rfl
 | r::l=>by simp[o9,R.renL_renL hσ r,aCt l]
theorem Ole.to_ren (o:AObj):Ole σ o (o.ren σ):=by
 cases o with
 | var t cells=>exact .var (R.renL_renL hσ cells).symm
 | lp st j i e=>exact .lp (aCv hσ e).symm
 | rarr te es l=>exact .rarr (aCt hσ l).symm
 | tok r k=>exact .tok (R.ren_ren hσ r).symm
 | arr=>exact .arr
 | map=>exact .map
 | dead=>exact .dead
 | dfr=>exact .dfr
end
theorem Ole.of_ren {σ:Nat→Nat}(o:AObj):Ole σ (o.ren σ) o:=by
 cases o with
 | var t cells=>exact .var rfl
 | lp st j i e=>exact .lp rfl
 | rarr te es l=>exact .rarr rfl
 | tok r k=>exact .tok rfl
 | arr=>exact .arr
 | map=>exact .map
 | dead=>exact .dead
 | dfr=>exact .dfr
mutual
theorem R.refs_ren {σ:Nat→Nat}:∀r:R,(r.ren σ).refs=r.refs.map σ
 | .c _=>rfl
 | .hs ..=>rfl
 | .tl ..=>rfl
 | .vp ..=>rfl
 | .ep ..=>rfl
 | .mr _=>rfl
 | .clo f caps=>by simp[R.ren,R.refs,R.refsL_ren caps]
 | .mth f r=>by simp[R.ren,R.refs,R.refs_ren r]
 | .yl _=>rfl
 | .ra ..=>rfl
 | .rp ..=>rfl
 | .ras n es l=>by simp[R.ren,R.refs,R.refsL_ren l]
 | .pas l=>by simp[R.ren,R.refs,R.refsL_ren l]
theorem R.refsL_ren {σ:Nat→Nat}:∀l:List R,R.refsL (R.renL σ l)=(R.refsL l).map σ
 | []=>rfl
 | r::l=>by simp[R.renL,R.refsL,R.refs_ren r,R.refsL_ren l]
end
mutual
theorem V.refs_ren {σ:Nat→Nat}:∀r:V,(r.ren σ).refs=r.refs.map σ
 | .one r=>by simp[V.ren,V.refs,R.refs_ren r]
 | .pa _=>rfl
 | .ma l=>by simp[V.ren,V.refs,R.refsL_ren l]
 | .tup l=>by simp[V.ren,V.refs,V.refsL_ren l]
theorem V.refsL_ren {σ:Nat→Nat}:∀l:List V,V.refsL (V.renL σ l)=(V.refsL l).map σ
 | []=>rfl
 | r::l=>by simp[V.renL,V.refsL,V.refs_ren r,V.refsL_ren l]
end
theorem aC0 {σ:Nat→Nat}:∀l:List (Nat×V),jU (aM9 σ l)=(jU l).map σ
 | []=>rfl
 | (t,v)::l=>by simp[aM9,jU,V.refs_ren v,aC0 l]
theorem aCx {σ:Nat→Nat}:∀l:List (List R),dB (o9 σ l)=(dB l).map σ
 | []=>rfl
 | r::l=>by simp[o9,dB,R.refsL_ren r,aCx l]
theorem AObj.refs_ren {σ:Nat→Nat}(o:AObj):(o.ren σ).refs=o.refs.map σ:=by
 cases o with
 | var t cells=>exact R.refsL_ren cells
 | lp st j i e=>exact aC0 e
 | rarr te es l=>exact aCx l
 | tok r k=>exact R.refs_ren r
 | _=>rfl
structure RenH (σ:Nat→Nat) (H H':dD):Prop where
 to:∀i o,H (σ i)=some o→∃o',H' i=some o'∧Ole σ o o'
 of:∀i o',H' i=some o'→∃o,H (σ i)=some o∧Ole σ o o'
 cl:∀i o',H' i=some o'→∀j∈o'.refs,∃x,H' j=some x
theorem RenH.good {σ:Nat→Nat}{H H':dD}(h:RenH σ H H') {i:Nat}(hi:∃x,H' i=some x):Good H H' σ i:=by
 obtain⟨x,hx⟩:=hi;obtain⟨o,h1,h2⟩:=h.of i x hx;exact⟨o,x,h1,hx,h2⟩
theorem aTu {σ:Nat→Nat}{P:Prop}{a b c d:AObj}(h1:Ole σ a b) (h2:Ole σ c d) (h:a.succ P c):b.succ P d:=by
 cases h1<;>cases h2<;>simp only[AObj.succ] at h ⊢<;>try exact h
 ·rename_i q _ _ _ _ y;subst q y;simpa [fV] using h
theorem Inv.renH {σ:Nat→Nat}(hσ:∀i,σ (σ i)=i) {G:Ctx}{J H H':dD}{S:Sto}{μ:Mu}{w:World}(h:Inv G S μ H w) (h0:RenH σ G.h0 J) (q:RenH σ H H'):
  Inv { G with μ0:=fun i=>G.μ0 (σ i),h0:=J } S (fun i=>μ (σ i)) H' w:=by
 refine⟨h.holds,fun id o I=>?_,fun i j o o' b c c' hi hj hm O=>?_,fun i o b c hi hm=>?_,h.frame,h.sle,h.sto,⟨h.evo.le,fun id o I=>?_⟩,h.fre⟩
 ·obtain⟨x,h1,h2⟩:=q.of id o I;exact(h.obj _ _ h1).ren h2 fun j hj=>q.good (q.cl id o I j hj)
 ·obtain⟨x,h1,_⟩:=q.of i o hi;obtain⟨y,h2,_⟩:=q.of j o' hj;have:=h.inj _ _ _ _ b c c' h1 h2 hm O;rw[←hσ i,←hσ j,this]
 ·obtain⟨x,h1,_⟩:=q.of i o hi;exact h.own _ _ b c h1 hm
 ·obtain⟨x,h1,h2⟩:=h0.of id o I;obtain⟨y,h3,h4⟩:=h.evo.obj _ _ h1;obtain⟨z,h5,h6⟩:=q.to id y h3;exact⟨z,h5,aTu h2 h6 h4⟩
section
variable {σ:Nat→Nat}(hσ:∀i,σ (σ i)=i)
include hσ
theorem a02 (i k:Nat):Nat.beq (σ i) (σ k)=Nat.beq i k:=by
 cases h:Nat.beq i k with
 | true=>rw[Aa h];exact Cg _
 | false=>
  cases q:Nat.beq (σ i) (σ k) with
  | false=>rfl
  | true=>
   have:=Aa q;have e:i=k:=by rw[←hσ i,←hσ k,this]
   rw[e,Cg] at h;cases h
theorem mY (i:Nat):∀hl:List (Nat×AObj),look (Go.AM.renH σ hl) (σ i)=(look hl i).map (AObj.ren σ)
 | []=>rfl
 | (k,o)::hl=>by
  have q:=mY i hl;simp only[Go.AM.renH,At,look,a02 hσ] at q ⊢;split
  ·rfl
  ·exact q
theorem RenH.a {hl:List (Nat×AObj)}(hc:subset (dI hl) (keys hl)=true):RenH σ (look (Go.AM.renH σ hl)) (look hl):=by
 refine⟨fun i o h=>?_,fun i o h=>?_,fun i o h j hj=>?_⟩
 ·rw[mY hσ] at h;cases hx:look hl i with
  | none=>rw[hx] at h;cases h
  | some x=>rw[hx] at h;cases h;exact⟨x,rfl,.of_ren x⟩
 ·exact⟨o.ren σ,by rw[mY hσ,h];rfl,.of_ren o⟩
 ·exact k8 (bJ hc j (jH (bI h) j hj))
theorem RenH.b {hl:List (Nat×AObj)}(hc:subset (dI hl) (keys hl)=true):RenH σ (look hl) (look (Go.AM.renH σ hl)):=by
 have key:∀i,look (Go.AM.renH σ hl) i=(look hl (σ i)).map (AObj.ren σ):=fun i=>by
  have:=mY hσ (σ i) hl;rwa [hσ] at this
 refine⟨fun i o h=>⟨o.ren σ,by rw[key,h];rfl,.to_ren hσ o⟩,fun i o h=>?_,fun i o h j hj=>?_⟩
 ·rw[key] at h;cases hx:look hl (σ i) with
  | none=>rw[hx] at h;cases h
  | some x=>rw[hx] at h;cases h;exact⟨x,rfl,.to_ren hσ x⟩
 ·rw[key] at h;cases hx:look hl (σ i) with
  | none=>rw[hx] at h;cases h
  | some x=>
   rw[hx] at h;cases h;rw[AObj.refs_ren] at hj;obtain⟨k,hk,rfl⟩:=Ah.1 hj;obtain⟨y,q⟩:=k8 (bJ hc k (jH (bI hx) k hk));exact⟨y.ren σ,by rw[key,hσ,q];rfl⟩
theorem aW.ren {P:Program}{f:FuncId}{args:List V}{hin hout:List (Nat×AObj)}{res:V}(h:aW P f args hin res hout) (h1:subset (dI hin) (keys hin)=true) (h2:subset (V.refsL args) (keys hin)=true) (h3:subset (dI hout) (keys hout)=true) (h4:subset res.refs (keys hout)=true):
  aW P f (V.renL σ args) (Go.AM.renH σ hin) (res.ren σ) (Go.AM.renH σ hout):=by
 intro S μ w vals O Y;have ra:=RenH.a hσ h1;have q:=O.renH hσ ra ra;have I:rQ μ (look (Go.AM.renH σ hin))=rQ (fun i=>μ (σ i)) (look hin):=by
  funext b;refine propext ⟨?_,?_⟩
  ·rintro⟨j,o,c,g1,g2⟩;obtain⟨o',g3,_⟩:=ra.to (σ j) o (by rw[hσ];exact g1);exact⟨σ j,o',c,g3,by show μ (σ (σ j))=_;rw[hσ];exact g2⟩
  ·rintro⟨j,o,c,g1,g2⟩;obtain⟨o',g3,_⟩:=ra.of j o g1;exact⟨σ j,o',c,g3,g2⟩
 rw[I] at q;have J:c6 S (fun i=>μ (σ i)) (look hin) args vals:=c6.ren args vals (fun i hi=>ra.good (k8 (bJ h2 i hi))) Y;refine Calls.mono (h S (fun i=>μ (σ i)) w vals q J) ?_;rintro e w' ⟨S',μ',v,g1,g2,g3⟩;refine⟨S',fun i=>μ' (σ i),v,g1,?_,?_⟩
 ·have:=g2.renH hσ (RenH.b hσ h1) (RenH.b hσ h3);dsimp only at this;rw[I];simpa only[hσ] using this
 ·refine aY.ren (res.ren σ) v (fun i hi=>(RenH.b hσ h3).good ?_) (by rw[V.ren_ren hσ];exact g3);rw[V.refs_ren] at hi;obtain⟨k,hk,rfl⟩:=Ah.1 hi;obtain⟨y,Z⟩:=k8 (bJ h4 k hk);exact⟨y.ren σ,by rw[mY hσ,Z];rfl⟩
end
def swp (a b i:Nat):Nat:=bif Nat.beq i a then b else bif Nat.beq i b then a else i
theorem aY1 (a b i:Nat):swp a b (swp a b i)=i:=by
 have hb:∀x y:Nat,(Nat.beq x y=true)↔x=y:=fun x y=>⟨Aa,fun h=>by subst h;exact Cg _⟩
 unfold swp;cases h1:Nat.beq i a<;>cases h2:Nat.beq i b<;>simp only[Bv,B0]
 ·rw[h1,h2];rfl
 ·cases h3:Nat.beq a a with
  | true=>simp only[Bv];exact((hb _ _).1 h2).symm
  | false=>rw[Cg] at h3;cases h3
 ·cases h3:Nat.beq b a with
  | true=>simp only[Bv];rw[(hb _ _).1 h3,(hb _ _).1 h1]
  | false=>rw[Cg];simp only[Bv,B0];exact((hb _ _).1 h1).symm
 ·have q:=(hb _ _).1 h1;have I:=(hb _ _).1 h2;have J:b=a:=by rw[←I,q]
  rw[J,Cg];simp only[Bv];exact q.symm
theorem aW.swap (a b:Nat) {P:Program}{f:FuncId}{args:List V}{hin hout:List (Nat×AObj)}{res:V}(h:aW P f args hin res hout) (h1:subset (dI hin) (keys hin)=true:=by rfl) (h2:subset (V.refsL args) (keys hin)=true:=by rfl) (h3:subset (dI hout) (keys hout)=true:=by rfl) (h4:subset res.refs (keys hout)=true:=by rfl):
  aW P f (V.renL (swp a b) args) (renH (swp a b) hin) (res.ren (swp a b)) (renH (swp a b) hout):=h.ren (aY1 a b) h1 h2 h3 h4
end Go.AM
namespace Go.AM
open Go Go.Proofs
section
variable {P:Program}{n:Nat}{ops:Array Oper}{draw:Bool}{k d:Nat}{st:St}{pre:REs}{Q:St→Prop}{o:Oper}{f:FuncId}{xs:Array Operand}{ts:Array TypeId}{ids:List Nat}{args:List V}{res:V}{hin hout:List (Nat×AObj)}
theorem kcG {j t:Nat}{want b:Bool}(J:aW P f args hin res hout)
  (hk:kD P n ops draw (k+1) ⟨upd st.e d (some res),updL st.h (outs hout),st.d⟩ ((⟨t::dF xs.toList,ids++keys hin++keys hout⟩,⟨some (d,some res),outs hout⟩)::pre) Q)
  (hb:iI P f:=by exact wP (by kernel_rfl)) (O:ops[k]?=some o:=by rfl) (Y:o.guard=some (j,want):=by rfl) (hj:(ops[j]?).bind (·.dst)=some t:=by rfl) (q:st.e t=some (.one (.c (.bool b))):=by rfl) (hw:b=want:=by first | rfl | assumption) (y:o.op=.call { callee:=.value (.func f),args:=xs,argTypes:=ts }:=by rfl) (hd:o.dst=some d:=by rfl) (I:Nat.blt d n=true:=by rfl)
  (ha:ArgsV st ids xs.toList args:=by repeat (first | exact .nil | (apply Go.AM.ArgsV.cons rfl;(first | exact .refl | exact .one (.c .nl .nil) | exact .one (.c .sn .nil) | exact .one (.hs rfl (by first | rfl | simp) (by first | rfl | (simp;done) | (simp[Go.AM.take_map];done) | exact Go.AM.take_map.symm) .nil) | exact Go.AM.hs_all rfl rfl (by first | rfl | assumption | (simp;done) | (simp;omega)) (by first | rfl | assumption | (simp;done)) | ((first | apply Go.AM.Conv.pa | apply Go.AM.Conv.agg);repeat (first | exact .nil | apply Go.AM.PureL.c .refl | apply Go.AM.PureL.c .nl | apply Go.AM.PureL.c .sn | (apply Go.AM.PureL.hs;rfl;(first | rfl | simp);(first | rfl | (simp;done) | (simp[Go.AM.take_map];done) | exact Go.AM.take_map.symm))))))))
  (hin':dU (fun p=>st.h p.1=some p.2) hin:=by repeat (first | exact trivial | refine⟨rfl,?_⟩)) (hout':dU (fun p=>p.1∈keys hin∨st.h p.1=none) hout:=by repeat (first | exact trivial | refine⟨.inr rfl,?_⟩ | refine⟨.inl (by decide),?_⟩ | refine⟨.inl (by repeat (first | exact List.Mem.head _ | apply List.Mem.tail)),?_⟩)) (hok:callOk args hin=true:=by rfl):kD P n ops draw k st pre Q:=
 k_ (GStep.yes O Y hj q hw (aOo hin hout hb y hd (gB I) J ha hin' hout' hok)) hk
end
end Go.AM
namespace Go.Proofs.YtnjaiimffoninaaGreatDoor
open Go Go.AM
set_option maxRecDepth 20000
def eE (l:List Str):V:=.one (.c (.sl 1 (l.map bA)))
theorem wN (l:List (List C)) (h:l.length≤600000000000):aW Tryz.prog 55 [.one (.c (.sl 1 l))] [] (.one (.hs 710 0 l.length l.length)) [(710,.arr 9 1 l 0)]:=by
 refine bZ (n:=8) tok Tryz.func55 rfl rfl rfl ?_;refine sg rfl (s9 0 rfl (fun hl=>?_) ?_)
 ·subst hl;refine a8 (sg rfl (aA rfl (fun _=>sg rfl (AWp.sub (Sub.own (t:=2) (id:=710) 9 1 rfl rfl) ?_)) nofun));exact aF rtT
 ·refine a8 (sg rfl (aA rfl nofun (fun _=>aD (sgh [(0,.id 710)] rfl (AWp.sub (st2:=mk [(2,.one (.hs 710 0 l.length l.length))] [(710,.arr 9 1 l 0)]) sl ?_)))));exact aF rtT
theorem aBy (l:List (List C)) (h:l.length≤600000000000):aW Tryz.prog 133 [.one (.c (.sl 15 l))] [] (.one (.hs 701 0 l.length l.length)) [(701,.arr 35 15 l 0)]:=by
 refine bZ (n:=8) tok Tryz.func133 rfl rfl rfl ?_;refine sg rfl (s9 0 rfl (fun hl=>?_) ?_)
 ·subst hl;refine a8 (sg rfl (aA rfl (fun _=>sg rfl (AWp.sub (Sub.own (t:=2) (id:=701) 35 15 rfl rfl) ?_)) nofun));exact aF rtT
 ·refine a8 (sg rfl (aA rfl nofun (fun _=>aD (sgh [(0,.id 701)] rfl (AWp.sub (st2:=mk [(2,.one (.hs 701 0 l.length l.length))] [(701,.arr 35 15 l 0)]) sl ?_)))));exact aF rtT
theorem qJ (l:List (List C)) (h:l.length≤600000000000):aW Tryz.prog 94 [.one (.c (.sl 10 l))] [] (.one (.hs 702 0 l.length l.length)) [(702,.arr 30 10 l 0)]:=by
 refine bZ (n:=8) tok Tryz.func94 rfl rfl rfl ?_;refine sg rfl (s9 0 rfl (fun hl=>?_) ?_)
 ·subst hl;refine a8 (sg rfl (aA rfl (fun _=>sg rfl (AWp.sub (Sub.own (t:=2) (id:=702) 30 10 rfl rfl) ?_)) nofun));exact aF rtT
 ·refine a8 (sg rfl (aA rfl nofun (fun _=>aD (sgh [(0,.id 702)] rfl (AWp.sub (st2:=mk [(2,.one (.hs 702 0 l.length l.length))] [(702,.arr 30 10 l 0)]) sl ?_)))));exact aF rtT
theorem aFh (l:List (List C)) (h:l.length≤600000000000):aW Tryz.prog 134 [.one (.c (.sl 14 l))] [] (.one (.hs 703 0 l.length l.length)) [(703,.arr 73 14 l 0)]:=by
 refine bZ (n:=8) tok Tryz.func134 rfl rfl rfl ?_;refine sg rfl (s9 0 rfl (fun hl=>?_) ?_)
 ·subst hl;refine a8 (sg rfl (aA rfl (fun _=>sg rfl (AWp.sub (Sub.own (t:=2) (id:=703) 73 14 rfl rfl) ?_)) nofun));exact aF rtT
 ·refine a8 (sg rfl (aA rfl nofun (fun _=>aD (sgh [(0,.id 703)] rfl (AWp.sub (st2:=mk [(2,.one (.hs 703 0 l.length l.length))] [(703,.arr 73 14 l 0)]) sl ?_)))));exact aF rtT
def aMp (s:Str):List Str→Int→Int
 | [],_=> -1
 | x::l,k=>if s=x then k else aMp s l (k+1)
theorem aKr (s:Str):∀(l:List Str) (k:Int),0≤k→(decide (0≤aMp s l k)=decide (s∈l))
 | [],k,_=>by simp[aMp]
 | x::l,k,hk=>by
  rw[aMp];split
  ·rename_i h;subst h;simp[hk]
  ·rename_i h;rw[aKr s l (k+1) (by omega)];simp[h]
theorem aRu (l:List Str) (s:Str) (h:l.length≤600000000000):aW Tryz.prog 131 [eE l,Go.AM.T s] [] (I .i64 (aMp s l 0)) []:=by
 refine bZ (n:=19) tok Tryz.func131 rfl rfl rfl ?_;refine sg rfl (a8 (sg rfl ?_));have y:(l.map bA).length=l.length:=φ _;refine aC (aK (fun i:Nat=>mk [(0,eE l),(1,Go.AM.T s),(7,I .i64 ((l.map bA).length:Int)),(8,I .i64 i)] []) (fun i=>i≤l.length∧aMp s l 0=aMp s (l.drop i) i) (fun i=>l.length-i) 0 ⟨Al _,rfl⟩ sl ?_);intro i ⟨hi,he⟩;refine sg rfl (a8 (aA rfl (fun hb=>?_) (fun hb=>?_)))
 ·have q:=ltD hb y;obtain⟨x,hx⟩:=aJ q;have O:=bT bA hx;have hd:l.drop i=x::l.drop (i+1):=by rw[Bl q,(ξ.1 hx).2]
  rw[hd,aMp] at he;refine aD (a8 (aC (sg rfl (sgh [(3,.row i (bA x))] rfl (aA rfl (fun hb=>?_) (fun hb=>?_))))))
  ·have hs:s=x:=ψ hb;rw[κ hs] at he;rw[he];exact sg rfl (aF rtT)
  ·have hs:¬s=x:=π hb;rw[θ hs] at he;exact aD (ag [] rfl ⟨i+1,⟨q,he⟩,by dsimp only;omega,sl⟩)
 ·have J:=geD hb y hi;subst J;rw[Cz,aMp] at he;rw[he];exact aL (sg rfl (aF rtT))
theorem dQ (l:List Str) (s:Str) (h:l.length≤600000000000):aW Tryz.prog 76 [eE l,Go.AM.T s] [] (B (decide (s∈l))) []:=by
 have hi:=aRu l s h;refine bZ (n:=9) tok Tryz.func76 rfl rfl rfl ?_;refine sg rfl (sgh [(2,.pc (I .i64 (aMp s l 0)))] rfl ?_);rw[←aKr s l 0 (by omega)];exact aF rtT
def aXt {α:Type}(p:α→Bool):List α→Nat→Int
 | [],_=> -1
 | x::l,i=>if p x then(i:Int) else aXt p l (i+1)
theorem aP7 {α:Type}(p:α→Bool):∀(l:List α) (i:Nat),decide (aXt p l i≥0)=l.any p
 | [],_=>rfl
 | x::l,i=>by
  rw[aXt,List.any_cons];cases h:p x
  ·rw[θ (by simp),aP7 p l];rfl
  ·rw[κ rfl,Bool.true_or];simp
theorem aYr (a:Alt):a.vars.length≤kZ a:=by
 obtain⟨f,n,s,v,c⟩:=a;rw[kZ];have:∀l:List Str,l.length≤(l.map fun v=>1+v.length).sum:=by
  intro l
  induction l with
  | nil=>simp
  | cons x l q=>rw[At,Da,Ai];omega
 have:=this v;show v.length≤_;omega
end Go.Proofs.YtnjaiimffoninaaGreatDoor
namespace Go.AM
open Go
inductive CsLe:List C→List C→Prop
 | nil:CsLe [] []
 | cons {c c':C} {l l':List C} (h0:Cle c c') (h:CsLe l l'):CsLe (c::l) (c'::l')
inductive RowsLe:List (List C)→List (List C)→Prop
 | nil:RowsLe [] []
 | cons {r r':List C} {l l':List (List C)} (h:CsLe r r') (k:RowsLe l l'):RowsLe (r::l) (r'::l')
theorem CsLe.refl:∀l:List C,CsLe l l
 | []=>.nil
 | _::l=>.cons .refl (CsLe.refl l)
theorem CsLe.length {l l':List C}(h:CsLe l l'):l'.length=l.length:=by
 induction h with
 | nil=>rfl
 | cons h0 h q=>simp[q]
theorem CsLe.rep {S:Sto}{l l':List C}(h:CsLe l l'):∀{vs:List Value},dH S l vs→dH S l' vs:=by
 induction h with
 | nil=>exact fun k=>k
 | cons h0 h q=>
  intro vs k;simp only[dH] at k ⊢;obtain⟨v,vs',rfl,h1,h2⟩:=k;exact⟨v,vs',rfl,h0.rep h1,q h2⟩
theorem CsLe.app {a q b b':List C}(h:CsLe a q) (k:CsLe b b'):CsLe (a++b) (q++b'):=by
 induction h with
 | nil=>exact k
 | cons h0 h y=>exact .cons h0 y
theorem RowsLe.flat {l l':List (List C)}(h:RowsLe l l'):CsLe l.flatten l'.flatten:=by
 induction h with
 | nil=>exact .nil
 | cons h k q=>simp only[Bm];exact h.app q
theorem RowsLe.length {l l':List (List C)}(h:RowsLe l l'):l'.length=l.length:=by
 induction h with
 | nil=>rfl
 | cons h k q=>simp[q]
theorem RowsLe.rows {l l':List (List C)}(h:RowsLe l l') {n:Nat}:(∀r∈l,r.length=n)→∀r∈l',r.length=n:=by
 induction h with
 | nil=>exact fun h=>h
 | cons h k y=>
  intro hl r q;rcases Ac.1 q with rfl | q
  ·rw[h.length];exact hl _ η
  ·exact y (fun x hx=>hl x (χ _ hx)) r q
theorem Sub.arrWeak {kf:List Nat}{st:St}{x te es fz:Nat}{rows q:List (List C)}(h:st.h x=some (.arr te es rows fz)) (hp:RowsLe rows q):Sub kf ⟨st.e,upd st.h x (some (.arr te es q fz)),st.d⟩ st:=by
 intro G n S μ a w _ hs;have hi:=hs.inv;have ho:=hi.obj x _ h
 have J:Evolve S μ st.h S μ (upd st.h x (some (.arr te es q fz))):=⟨S.le_refl,fun j y hj=>by
  by_cases I:j=x
  ·subst I;rw[h] at hj;cases hj;exact⟨_,aI _ _ _,by simp[AObj.succ,hp.length]⟩
  ·exact⟨y,by rw[aV _ _ _ I];exact hj,y.succ_refl rfl⟩⟩
 have hold:∀j y,upd st.h x (some (.arr te es q fz)) j=some y→∃y',st.h j=some y':=fun j y hj=>by
  by_cases I:j=x
  ·subst I;exact⟨_,h⟩
  ·rw[aV _ _ _ I] at hj;exact⟨_,hj⟩
 refine⟨S,μ,⟨⟨hi.holds,fun j y hj=>?_,fun i j y y' b c c' O hj hm Z=>?_,fun i y b c O hm=>?_,hi.frame,hi.sle,hi.sto,hi.evo.trans J,hi.fre⟩,hs.size,hs.defers.evolve J,fun s v e=>aY.evolve J v _ (hs.env s v e)⟩⟩
 ·by_cases I:j=x
  ·subst I;have Y:some (AObj.arr te es q fz)=some y:=by rw[←hj];exact(aI _ _ _).symm
   cases Y;obtain⟨g0,g⟩:=ho;refine⟨hp.rows g0,?_⟩;rcases g with⟨g1,g2⟩ | ⟨b,base,cap,vs,g1,g2,g3,g4,g5,g6,g7,g8,g9⟩
   ·subst g2;cases hp;exact .inl ⟨g1,rfl⟩
   ·refine .inr ⟨b,base,cap,vs,g1,g2,g3,by rw[hp.length];exact g4,g5,?_,g7,?_,?_⟩
    ·rw[hp.length];exact hp.flat.rep g6
    ·rw[hp.length];exact g8
    ·rw[hp.length];exact g9
  ·have Y:st.h j=some y:=by rw[←hj];exact(aV _ _ _ I).symm
   exact(hi.obj j y Y).evolve J rfl fun _ _ _=>⟨rfl,fun _=>rfl,rfl⟩
 ·obtain⟨_,h1⟩:=hold _ _ O;obtain⟨_,h2⟩:=hold _ _ hj;exact hi.inj i j _ _ b c c' h1 h2 hm Z
 ·obtain⟨_,h1⟩:=hold _ _ O;exact hi.own i _ b c h1 hm
theorem aw {kf:List Nat}{st:St}(x:Nat) {te es fz:Nat}{rows:List (List C)}(q:List (List C)) (h:st.h x=some (.arr te es rows fz):=by rfl)
  (hp:RowsLe rows q:=by repeat (first | exact .nil | apply Go.AM.RowsLe.cons | apply Go.AM.CsLe.cons .refl | apply Go.AM.CsLe.cons .nl)):Sub kf ⟨st.e,upd st.h x (some (.arr te es q fz)),st.d⟩ st:=Sub.arrWeak h hp
end Go.AM
namespace Go.Proofs.YtnjaiimffoninaaGreatDoor
open Go Go.AM
set_option maxRecDepth 20000
mutual
def tn:Ty→Nat
 | .mk _ _ s a=>1+s.length+tns a
def tns:List Ty→Nat
 | []=>0
 | t::l=>tn t+tns l
end
theorem aCj (t:Ty):1≤tn t:=by cases t;rw[tn];omega
theorem tQ:∀{l:List Ty}{t:Ty},t∈l→tn t≤tns l
 | u::l,t,h=>by
  rw[tns];rcases Ac.1 h with rfl | h
  ·omega
  ·have:=tQ h;omega
theorem aE8 (t:Ty) (ht:t.args.length≤1000000) (J:∀u∈t.args,aW Tryz.prog 147 [tyV u] [] (tyV u) []):aW Tryz.prog 147 [tyV t] [] (tyV t) []:=by
 obtain⟨f,n,s,a⟩:=t;have J:∀u∈a,aW Tryz.prog 147 [tyV u] [] (tyV u) []:=J;have aa:a.length≤1000000:=ht;have q:(fQ a).length=a.length:=by rw[kV,φ]
 refine bZ (n:=22) tok Tryz.func147 rfl rfl rfl ?_;refine sg rfl (sg rfl (AWp.sub (Sub.own (t:=3) (id:=600) 25 4 rfl rfl) ?_));refine a8 (sg rfl (aC (aK (fun i:Nat=>mk [(1,.one (.vp 1 0)),(2,.one (.vp 2 0)),(3,.one (.hs 600 0 ((fQ a).take i).length ((fQ a).take i).length)),(7,.one (.c (.sl 4 (fQ a)))),(8,I .i64 ((fQ a).length:Int)),(9,I .i64 i)] [(600,.arr 25 4 ((fQ a).take i) 0),(1,.var 25 ((c7 (.mk f n s a)).map R.c)),(2,.var 25 [.c (.int .i64 0),.c (.int .i64 0),.c (.str []),.c .nl])]) (fun i=>i≤a.length) (fun i=>a.length-i) 0 (Al _) sl ?_)));intro i hi;have ab:((fQ a).take i).length=i:=by rw[Ap];omega
 refine sg rfl (a8 (aA rfl (fun hb=>?_) (fun hb=>?_)))
 ·have y:=ltD hb q;obtain⟨u,hu⟩:=aJ y;have O:(fQ a)[i]?=some (c7 u):=by rw[kV];exact bT c7 hu
  have hc:=J u (δ hu);have Y:(fQ a).take (i+1)=(fQ a).take i++[c7 u]:=by rw[Bt,O];rfl
  refine aD (a8 (aC (sgh [(0,.row i (c7 u))] rfl (aE mixed (ak 2 [] rfl (kc hc ?_))))));refine ak 3 [(3,.all)] rfl (az (ag [] rfl ⟨i+1,y,by dsimp only;omega,?_⟩));dsimp only;rw[Y];exact sl
 have Z:=geD hb q hi;subst Z;rw[show(fQ a).take a.length=fQ a by rw[←q,As]];refine aL (AWp.sub (Sub.freeze (id:=600) rfl) ?_);refine sg rfl (AWp.sub (vp 1 (c7 (.mk f n s a))) ?_);exact sg rfl (aF (rtC trw))
mutual
def wfS:Ty→Bool
 | .mk f n s a=>(if f=4 then decide (n=0∧s=[]∧a.length=2) else if f=5 then decide (n=0∧a.length=1) else a.isEmpty)&&aTd a
def aTd:List Ty→Bool
 | []=>true
 | t::l=>wfS t&&aTd l
end
theorem aIb:∀{l:List Ty}{t:Ty},aTd l=true→t∈l→wfS t=true
 | u::l,t,h,ht=>by
  rw[aTd,ζ] at h;rcases Ac.1 ht with rfl | ht
  ·exact h.1
  ·exact aIb h.2 ht
theorem aIc {f n:Int}{s:Str}{a:List Ty}(h:wfS (.mk f n s a)=true):a.length≤2∧(∀u∈a,wfS u=true)∧(f=4→n=0∧s=[]∧∃u v,a=[u,v])∧(f=5→n=0∧∃u,a=[u])∧(¬f=4→¬f=5→a=[]):=by
 rw[wfS,ζ] at h;obtain⟨h1,h2⟩:=h;refine⟨?_,fun u hu=>aIb h2 hu,fun h4=>?_,fun h5=>?_,fun h4 h5=>?_⟩
 ·split at h1
  ·exact Nat.le_of_eq (ψ h1).2.2
  ·split at h1
   ·rw[(ψ h1).2];omega
   ·rw[List.isEmpty_iff.1 h1];simp
 ·rw[κ h4] at h1;obtain⟨a1,a2,a3⟩:=ψ h1
  match a,a3 with
  | [u,v],_=>exact⟨a1,a2,u,v,rfl⟩
 ·rw[θ (by omega),κ h5] at h1;obtain⟨a1,a2⟩:=ψ h1;exact⟨a1,B2.1 a2⟩
 ·rw[θ h4,θ h5] at h1;exact List.isEmpty_iff.1 h1
theorem aBq:∀(k:Nat) (t:Ty),tn t≤k→wfS t=true→aW Tryz.prog 147 [tyV t] [] (tyV t) []
 | 0,t,h,_=>by have:=aCj t;omega
 | k+1,t,h,hw=>by
  obtain⟨f,n,s,a⟩:=t;obtain⟨h1,h2,_⟩:=aIc hw;exact aE8 (.mk f n s a) (show a.length≤_ by omega) fun u hu=>aBq k u (by have hu:u∈a:=hu;have:=tQ hu;rw[tn] at h;omega) (h2 u hu)
theorem aVx (a b:Ty):aW Tryz.prog 148 [tyV a,tyV b] [] (tyV (aTe a b)) []:=by
 refine bZ (n:=9) tok Tryz.func148 rfl rfl rfl ?_;exact sg rfl (sgh [(2,.all)] rfl (aF (rtC trw)))
theorem a48 (s:Str):aW Tryz.prog 59 [Go.AM.T s] [] (tyV (.mk 2 0 s [])) []:=by
 refine bZ (n:=5) tok Tryz.func59 rfl rfl rfl ?_;exact sg rfl (sg rfl (aF (rtC trw)))
def kK (f:Int) (s:Str) (o:List Str) (x:Str):List Str:=if ¬x∈o∧(¬f=5∨¬x=s) then o++[x] else o
def aCk (f:Int) (s:Str) (o:List Str) (l:List Str):List Str:=l.foldl (kK f s) o
mutual
def tfR:Ty→List Str
 | .mk f _ s a=>if f=2 then [s] else aCd f s a []
def aCd (f:Int) (s:Str):List Ty→List Str→List Str
 | [],o=>o
 | t::l,o=>aCd f s l (aCk f s o (tfR t))
end
def tfL (f:Int) (s:Str) (l:List Ty) (o:List Str):List Str:=l.foldl (fun o t=>aCk f s o (tfR t)) o
theorem aNq (f:Int) (s:Str):∀(l:List Ty) (o:List Str),aCd f s l o=tfL f s l o
 | [],o=>by rw[aCd];rfl
 | t::l,o=>by rw[aCd,aNq f s l];rfl
theorem aNs (f:Int) (s:Str) (o:List Str) (x:Str):(kK f s o x).length≤o.length+1:=by
 unfold kK;split
 ·simp
 ·omega
theorem zI (f:Int) (s:Str):∀(l o:List Str),(aCk f s o l).length≤o.length+l.length
 | [],o=>le_refl _
 | x::l,o=>by
  have h1:=zI f s l (kK f s o x);have h2:=aNs f s o x;show(aCk f s (kK f s o x) l).length≤_;rw[Ai];omega
theorem aNu {f:Int}{s:Str}{o l:List Str}{j:Nat}{x:Str}(h:l[j]?=some x):aCk f s o (l.take (j+1))=kK f s (aCk f s o (l.take j)) x:=by
 unfold aCk;rw[Bt,h,Bu];rfl
theorem aTr {f:Int}{s:Str}{o:List Str}{l:List Ty}{j:Nat}{x:Ty}(h:l[j]?=some x):tfL f s (l.take (j+1)) o=aCk f s (tfL f s (l.take j) o) (tfR x):=by
 unfold tfL;rw[Bt,h,Bu];rfl
theorem aBr (t:Ty) (ht:t.args.length≤1000000000) (hL:∀i,(tfL t.form t.name (t.args.take i) []).length≤1000000000) (hU:∀u∈t.args,(tfR u).length≤1000000000) (ih:∀u∈t.args,aW Tryz.prog 116 [tyV u] [] (eE (tfR u)) []):aW Tryz.prog 116 [tyV t] [] (eE (tfR t)) []:=by
 obtain⟨f,n,s,a⟩:=t;have hal:a.length≤1000000000:=ht;have hL:∀i,(tfL f s (a.take i) []).length≤1000000000:=hL;have hU:∀u∈a,(tfR u).length≤1000000000:=hU;have ih:∀u∈a,aW Tryz.prog 116 [tyV u] [] (eE (tfR u)) []:=ih;have ae:(fQ a).length=a.length:=by rw[kV,φ]
 rw[tfR];refine bZ (n:=50) tok Tryz.func116 rfl rfl rfl ?_;refine sg rfl (a8 (sg rfl (aA rfl (fun hb=>?_) (fun hb=>?_))))
 ·have h2:f=2:=ψ hb;rw[κ h2];exact sgh [(2,.all)] rfl (aF rtT)
 ·have h2:¬f=2:=π hb;rw[θ h2,aNq] at *;refine aD (sg rfl (AWp.sub (Sub.own (t:=3) (id:=600) 9 1 rfl rfl) (AWp.sub (Sub.freeze (id:=600) rfl) ?_)));refine a8 (sg rfl (aC (aK (fun i:Nat=>mk [(1,.one (.vp 1 0)),(3,.one (.hs 600 0 (tfL f s (a.take i) []).length (tfL f s (a.take i) []).length)),(15,.one (.c (.sl 4 (fQ a)))),(16,I .i64 ((fQ a).length:Int)),(17,I .i64 i)] [(600,.arr 9 1 ((tfL f s (a.take i) []).map bA) 2),(1,.var 25 ((c7 (.mk f n s a)).map R.c))]) (fun i=>i≤a.length) (fun i=>a.length-i) 0 (Al _) sl ?_)));intro i hi;refine sg rfl (a8 (aA rfl (fun hb=>?_) (fun hb=>?_)))
  ·have ah:=ltD hb ae;obtain⟨u,hu⟩:=aJ ah;have hu':(fQ a)[i]?=some (c7 u):=by rw[kV];exact bT c7 hu
   have hm:=δ hu;have hc:=ih u hm;have hul:=hU u hm;have aa:=aTr (f:=f) (s:=s) (o:=[]) hu;have hol:=hL i;generalize tfL f s (a.take i) []=o at aa hol ⊢;have ab:((tfR u).map bA).length=(tfR u).length:=φ _;generalize tfR u=y at hc hul aa ab;refine aD (a8 (aC (sgh [(0,.row i (c7 u))] rfl (sk 1 rfl (kc hc ?_)))));refine kz 2 rfl (aC (aK (fun j:Nat=>mk [(1,.one (.vp 1 0)),(3,.one (.hs 600 0 (aCk f s o (y.take j)).length (aCk f s o (y.take j)).length)),(15,.one (.c (.sl 4 (fQ a)))),(16,I .i64 ((fQ a).length:Int)),(17,I .i64 i),(22,eE y),(23,I .i64 ((y.map bA).length:Int)),(24,I .i64 j)] [(600,.arr 9 1 ((aCk f s o (y.take j)).map bA) 2),(1,.var 25 ((c7 (.mk f n s a)).map R.c))]) (fun j=>j≤y.length) (fun j=>y.length-j) 0 (Al _) sl ?_));intro j hj;refine sg rfl (a8 (aA rfl (fun hb=>?_) (fun hb=>?_)))
   ·have J:=ltD hb ab;obtain⟨x,hx⟩:=aJ J;have hx':=bT bA hx;have O:=aNu (f:=f) (s:=s) (o:=o) hx;have hpl:(aCk f s o (y.take j)).length≤2000000000:=by
     have:=zI f s (y.take j) o;rw[Ap] at this;omega
    generalize aCk f s o (y.take j)=q at O hpl ⊢;have Y:=dQ q x (by omega);have hkq:(q.map bA).length=q.length:=φ _;refine aD (a8 (aC (sgh [(0,.row j (bA x))] rfl ?_)));by_cases Z:x∈q
    ·rw[Ae Z] at Y;have he:kK f s q x=q:=by unfold kK;rw[θ (fun h=>h.1 Z)]
     refine sk 2 rfl (kc Y ?_);refine kz 12 rfl (aA rfl nofun (fun _=>aD (ag [] rfl ⟨j+1,J,by dsimp only;omega,?_⟩)));dsimp only;rw[O,he];exact sl
    rw[Ag Z] at Y;by_cases h5:f=5
    ·have d5:decide (f=5)=true:=Ae h5;have d5':(!decide (f=5))=false:=by rw[d5];rfl
     refine sk 2 rfl (kc Y ?_);refine ak 12 [(8,.bv false),(13,.bv false)] rfl (az (aA rfl (fun hb=>?_) (fun hb=>?_)))
     ·have ac:¬x=s:=by simp at hb;exact hb
      have he:kK f s q x=q++[x]:=by unfold kK;rw[κ ⟨Z,.inr ac⟩]
      refine ag [(2,.all)] rfl (AWp.sub (Sub.freeze (id:=600) rfl) ?_);refine ag [] rfl ⟨j+1,J,by dsimp only;omega,?_⟩;dsimp only;rw[O,he];exact sl (hh:=⟨⟨_,rfl,.arrS (by rw[A6];rfl)⟩,⟨_,rfl,.var rfl⟩,trivial⟩)
     ·have ac:x=s:=by simp at hb;exact hb
      have he:kK f s q x=q:=by unfold kK;rw[θ (fun h=>h.2.elim (fun h=>h h5) (fun h=>h ac))]
      refine aD (ag [] rfl ⟨j+1,J,by dsimp only;omega,?_⟩);dsimp only;rw[O,he];exact sl
    ·have d5:decide (f=5)=false:=Ag h5;have d5':(!decide (f=5))=true:=by rw[d5];rfl
     have he:kK f s q x=q++[x]:=by unfold kK;rw[κ ⟨Z,.inl h5⟩]
     refine sk 2 rfl (kc Y ?_);refine ak 12 [(8,.bv true),(13,.bv true)] rfl (az (aA rfl (fun _=>ag [(2,.all)] rfl (AWp.sub (Sub.freeze (id:=600) rfl) ?_)) nofun));refine ag [] rfl ⟨j+1,J,by dsimp only;omega,?_⟩;dsimp only;rw[O,he];exact sl (hh:=⟨⟨_,rfl,.arrS (by rw[A6];rfl)⟩,⟨_,rfl,.var rfl⟩,trivial⟩)
   have ad:=geD hb ab hj;subst ad;rw[As];refine aL (ag [] rfl ⟨i+1,ah,by dsimp only;omega,?_⟩);dsimp only;rw[aa];exact sl
  have ad:=geD hb ae hi;subst ad;rw[As];exact aL (sg rfl (aF (rtT (hc:=hs_all rfl rfl (by simp) rfl))))
mutual
def fvm:Ty→Nat
 | .mk f n s a=>max (tfR (.mk f n s a)).length (a4m a)
def a4m:List Ty→Nat
 | []=>0
 | t::l=>max (fvm t) (a4m l)
end
theorem aEo (t:Ty):(tfR t).length≤fvm t:=by cases t;rw[fvm];exact le_max_left ..
theorem aKp:∀{l:List Ty}{t:Ty},t∈l→fvm t≤a4m l
 | u::l,t,h=>by
  rw[a4m];rcases Ac.1 h with rfl | h
  ·exact le_max_left ..
  ·exact le_trans (aKp h) (le_max_right ..)
theorem aG7 {f n:Int}{s:Str}{a:List Ty}{u:Ty}(h:u∈a):fvm u≤fvm (.mk f n s a):=by
 rw[fvm];exact le_trans (aKp h) (le_max_right ..)
theorem aNt {f:Int}{s:Str}{L:Nat}:∀{l:List Ty}{o:List Str},(∀u∈l,(tfR u).length≤L)→(tfL f s l o).length≤o.length+l.length*L
 | [],o,_=>by simp[tfL]
 | t::l,o,h=>by
  have h1:=aNt (f:=f) (s:=s) (l:=l) (o:=aCk f s o (tfR t)) fun u hu=>h u (χ _ hu)
  have h2:=zI f s (tfR t) o;have h3:=h t η;show(tfL f s l (aCk f s o (tfR t))).length≤_;rw[Ai,succ_mul];omega
theorem aBs:∀(k:Nat) (t:Ty),tn t≤k→wfS t=true→fvm t≤400000000→aW Tryz.prog 116 [tyV t] [] (eE (tfR t)) []
 | 0,t,h,_,_=>by have:=aCj t;omega
 | k+1,t,h,hw,y=>by
  obtain⟨f,n,s,a⟩:=t;obtain⟨h1,h2,_⟩:=aIc hw;have hu:∀u∈a,(tfR u).length≤400000000:=fun u hu=>le_trans (aEo u) (le_trans (aG7 hu) y)
  refine aBr (.mk f n s a) (show a.length≤_ by omega) (fun i=>?_) (fun u q=>le_trans (hu u q) (by decide)) fun u q=>?_
  ·have h3:=aNt (f:=f) (s:=s) (l:=a.take i) (o:=[]) fun u q=>hu u (Bz q)
   rw[Ap,length_nil] at h3;have h4:min i a.length*400000000≤2*400000000:=A0 _ (by omega);show(tfL f s (a.take i) []).length≤_;omega
  ·have q:u∈a:=q;exact aBs k u (by have:=tQ q;rw[tn] at h;omega) (h2 u q) (le_trans (aG7 q) y)
end Go.Proofs.YtnjaiimffoninaaGreatDoor
namespace Go.AM
open Go
theorem a4t:∀m:_root_.Fin 128,Utf8.encode ((m.val:Nat):Int)=⟨⟨[UInt8.ofNat m.val]⟩⟩:=by decide+kernel
section
variable {P:Program}{T:TT}{n:Nat}{o:Oper}{st:St}{d:Nat}
theorem aZf {src dst:TypeId}{i j:TI}{x:Operand}{k:IntKind}{m:Nat}(hm:m<128) (q:Tok P T) (Y:o.op=.convert src dst x) (hd:o.dst=some d) (y:d<n) (hi:T[src]?=some (some i)) (J:i.k=.int k) (hj:T[dst]?=some (some j)) (O:j.k=.str)
  (hx:opv st x=some (I k (m:Int))):Step P n o st ⟨opr x,[]⟩ ⟨some (d,some (Go.AM.T [UInt8.ofNat m])),[]⟩:=by
 refine Step.value hd y fun st' ha G S μ a w hs=>?_
 have Z:=gH (aO hs hx ha.1);refine⟨.string ⟨⟨[UInt8.ofNat m]⟩⟩,?_,by simp[aY,b9,Rep]⟩;have h1:=(q.get hi).int J;have h2:=(q.get hj).str O;have h3:=run_convert_int_string (P:=P) w src dst k (m:Int) (by rw[h1];rfl) h2;rw[a4t ⟨m,hm⟩] at h3;simp only[execOp,Y,Z,Ad,h3,τ,Af]
end
section
variable {P:Program}{n:Nat}{ops:Array Oper}{draw:Bool}{k d:Nat}{st:St}{pre:REs}{Q:St→Prop}{o:Oper}
theorem kr {tr:Tr}{src dst:TypeId}{i j:TI}{x:Operand}{kk:IntKind}(m:Nat) (hm:m<128) (Y:Tok P tr.flat)
  (hk:kD P n ops draw (k+1) ⟨upd st.e d (some (Go.AM.T [UInt8.ofNat m])),st.h,st.d⟩ ((⟨opr x,[]⟩,⟨some (d,some (Go.AM.T [UInt8.ofNat m])),[]⟩)::pre) Q) (hw:tr.wf=true)
  (Z:ops[k]?=some o:=by rfl) (hg:o.guard=none:=by rfl) (q:o.op=.convert src dst x:=by rfl) (hd:o.dst=some d:=by rfl) (y:Nat.blt d n=true:=by rfl) (hi:tr.get src=some i:=by rfl) (J:i.k=.int kk:=by rfl) (hj:tr.get dst=some j:=by rfl) (O:j.k=.str:=by rfl) (hx:opv st x=some (I kk (m:Int)):=by first | rfl | assumption):kD P n ops draw k st pre Q:=
 k_ (g_ Z hg (aZf hm Y q hd (gB y) (Tr.get_ok hw hi) J (Tr.get_ok hw hj) O hx)) hk
end
end Go.AM
namespace Go.Proofs.YtnjaiimffoninaaGreatDoor
open Go Go.AM
set_option maxRecDepth 20000
def cE (n:Nat):Str:=if n<26 then [UInt8.ofNat (97+n%26)] else [UInt8.ofNat (97+n%26)]++Lib.decDigits (n/26)
theorem wrap_small (m:Nat) (h:m<128):IntKind.i32.wrap (m:Int)=(m:Int):=by
 have:∀m:_root_.Fin 128,IntKind.i32.wrap ((m.val:Nat):Int)=((m.val:Nat):Int):=by decide+kernel
 exact this ⟨m,h⟩
theorem aHk (n:Nat) (h:n≤600000000000):(Lib.decDigits n).length≤20:=by
 rw[Lib.decDigits_length];by_cases h0:n=0
 ·subst h0;decide+kernel
 ·have:=Lib.numDigits_eq n (by omega) (by omega);split at this<;>omega
theorem aFd (n:Nat) (hn:n≤600000000000) (q:26≤n→aW Tryz.prog 77 [I .i64 ((n/26:Nat):Int)] [] (Go.AM.T (Lib.decDigits (n/26))) []):aW Tryz.prog 168 [I .i64 n] [] (Go.AM.T (cE n)) []:=by
 have y:(97:Int)+(n:Int)%26=((97+n%26:Nat):Int):=by omega
 refine bZ (n:=17) tok Tryz.func168 rfl rfl rfl ?_;refine sg rfl (sk 4 rfl ?_ (hc:=by repeat (first | exact trivial | refine⟨by first | rfl | omega,?_⟩)))
 refine kr (97+n%26) (by omega) tok ?_ trw (hx:=by
  show some (I .i32 (IntKind.i32.wrap (97+(n:Int)%26)))=some (I .i32 ((97+n%26:Nat):Int))
  rw[y,wrap_small _ (by omega)])
 refine kz 1 rfl (a8 (sg rfl (aA rfl (fun hb=>?_) (fun hb=>?_))))
 ·have h:n<26:=by have:=ψ hb;omega
  unfold cE;rw[κ h];exact sg rfl (aF rtT)
 ·have h:¬n<26:=by have:=π hb;omega
  have q:=q (by omega);have O:600000000000≤maxLen:=by decide
  have J:=aHk (n/26) (by omega);have hd:(n:Int)/26=((n/26:Nat):Int):=by omega
  unfold cE;rw[θ h];refine aD (sk 3 rfl ?_ (hc:=by repeat (first | exact trivial | refine⟨by first | rfl | omega | decide,?_⟩)));rw[←hd] at q;refine kc q ?_;refine ak 2 [] rfl ?_ (hc:=by repeat (first | exact trivial | refine⟨by first | rfl | omega | (simp;omega),?_⟩));exact az (aF rtT)
theorem tF {a b:Nat}(ha:a<256) (hb:b<256) (h:UInt8.ofNat a=UInt8.ofNat b):a=b:=by
 have:=congrArg UInt8.toNat h;simp only[Cv] at this;omega
theorem aKx (n:Nat):1≤(Lib.decDigits n).length:=by
 rw[Lib.decDigits];split<;>simp
theorem aX4:∀(n m:Nat),Lib.decDigits n=Lib.decDigits m→n=m:=by
 intro n
 induction n using Nat.strongRecOn with
 | _ n q=>
  intro m h;rw[Lib.decDigits,Lib.decDigits.eq_1 m] at h;split at h<;>split at h
  ·simp only[List.cons.injEq,and_true] at h;have:=tF (by omega) (by omega) h;omega
  ·have:=congrArg List.length h;have hp:=aKx (m/10);simp only[ε,Ai,length_nil] at this;omega
  ·have:=congrArg List.length h;have hp:=aKx (n/10);simp only[ε,Ai,length_nil] at this;omega
  ·have h1:=List.append_inj' h rfl;have h2:=q (n/10) (by omega) (m/10) h1.1;have h3:=h1.2;simp only[List.cons.injEq,and_true] at h3;have:=tF (by omega) (by omega) h3;omega
theorem aG3 (n m:Nat) (h:cE n=cE m):n=m:=by
 unfold cE at h;split at h<;>split at h
 ·simp only[List.cons.injEq,and_true] at h;have:=tF (by omega) (by omega) h;omega
 ·have:=congrArg List.length h;have hp:=aKx (m/26);simp only[ε,Ai,length_nil] at this;omega
 ·have:=congrArg List.length h;have hp:=aKx (n/26);simp only[ε,Ai,length_nil] at this;omega
 ·simp only[A1,A3,List.cons.injEq] at h;have h1:=tF (by omega) (by omega) h.1;have h2:=aX4 _ _ h.2;omega
theorem aVh (l:List Str):∃n,n≤l.length∧¬cE n∈l:=by
 refine Classical.byContradiction fun J=>?_
 have q:∀n,n≤l.length→cE n∈l:=fun n hn=>Classical.byContradiction fun h=>J ⟨n,hn,h⟩
 have O:((List.range (l.length+1)).map cE).Nodup:=by
  rw[List.Nodup,List.pairwise_map];exact List.Pairwise.imp (fun h e=>h (aG3 _ _ e)) List.nodup_range
 have I:∀x∈(List.range (l.length+1)).map cE,x∈l:=fun x hx=>by
  obtain⟨i,hi,rfl⟩:=Ah.1 hx;exact q i (by have:=mem_range.1 hi;omega)
 have key:∀(a b:List Str),a.Nodup→(∀x∈a,x∈b)→a.length≤b.length:=by
  intro a
  induction a with
  | nil=>intro b _ _;simp
  | cons x a Z=>
   intro b hn hs;rw[Bq] at hn;have h1:=Z (b.erase x) hn.2 fun y Y=>(List.mem_erase_of_ne (by rintro rfl;exact hn.1 Y)).2 (hs y (χ _ Y))
   have hx:=hs x η;rw[length_erase_of_mem hx] at h1;have:=length_pos_of_mem hx;rw[Ai];omega
 have:=key _ _ O I;rw[φ,List.length_range] at this;omega
theorem lO (l:List Str):∃n,n≤l.length∧¬cE n∈l∧∀m,m<n→cE m∈l:=by
 have key:∀k:Nat,(∃n,n≤k∧¬cE n∈l)→∃n,n≤k∧¬cE n∈l∧∀m,m<n→cE m∈l:=by
  intro k
  induction k with
  | zero=>
   rintro⟨n,hn,h⟩;exact⟨n,hn,h,fun m hm=>by omega⟩
  | succ k y=>
   rintro⟨n,hn,h⟩;by_cases hk:∃n,n≤k∧¬cE n∈l
   ·obtain⟨m,h1,h2,h3⟩:=y hk;exact⟨m,by omega,h2,h3⟩
   ·have I:n=k+1:=by
     by_cases h1:n≤k
     ·exact absurd ⟨n,h1,h⟩ hk
     ·omega
    exact⟨n,hn,h,fun m hm=>Classical.byContradiction fun q=>hk ⟨m,by omega,q⟩⟩
 exact key l.length (aVh l)
noncomputable def kA (l:List Str):Nat:=Classical.choose (lO l)
noncomputable def bE (l:List Str):Str:=cE (kA l)
theorem vF (l:List Str):kA l≤l.length:=(Ch (lO l)).1
theorem r9 (l:List Str):¬cE (kA l)∈l:=(Ch (lO l)).2.1
theorem aEp (l:List Str) {m:Nat}(h:m<kA l):cE m∈l:=(Ch (lO l)).2.2 m h
theorem aHp (l:List Str) (hl:l.length≤570000000000) (J:∀k,k≤l.length→aW Tryz.prog 77 [I .i64 (k:Int)] [] (Go.AM.T (Lib.decDigits k)) []):aW Tryz.prog 146 [eE l] [] (Go.AM.T (bE l)) []:=by
 have Y:=vF l;refine bZ (n:=12) tok Tryz.func146 rfl rfl rfl ?_;refine sg rfl (sg rfl (a8 (aC (aK (fun n:Nat=>mk [(0,eE l),(3,I .i64 n)] []) (fun n=>n≤kA l) (fun n=>kA l-n) 0 (Al _) sl ?_))));intro n hn;have q:=aFd n (by omega) fun h=>J (n/26) (by omega)
 have y:=dQ l (cE n) (by omega);refine a8 (sk 2 rfl (kc q ?_));refine kc y ?_;refine az (aA rfl (fun hb=>?_) (fun hb=>?_))
 ·have hm:cE n∈l:=ψ hb;have O:n≠kA l:=by rintro rfl;exact r9 l hm
  refine aD (aC (ag [] rfl ?_ (hc:=by repeat (first | exact trivial | refine⟨by omega,?_⟩))));exact⟨n+1,by omega,by dsimp only;omega,sl⟩
 ·have hm:¬cE n∈l:=π hb;have he:n=kA l:=by
   by_cases h:n<kA l
   ·exact absurd (aEp l h) hm
   ·omega
  refine aL (sk 1 rfl (kc q ?_));refine kz 1 rfl ?_;unfold bE;rw[←he];exact aF rtT
abbrev j2 (m:Nat):Prop:=∀k,k≤m→aW Tryz.prog 77 [I .i64 (k:Int)] [] (Go.AM.T (Lib.decDigits k)) []
theorem aV2 (l:List Str) (hl:l.length≤570000000000) (J:j2 l.length):aW Tryz.prog 169 [eE l] [] (Go.AM.T (bE l)) []:=by
 have Z:=vF l;have O:(l.map bA).length=l.length:=φ _;refine bZ (n:=19) tok Tryz.func169 rfl rfl rfl ?_;refine sg rfl (a8 (a8 (agN [] rfl (aC (aK (fun n:Nat=>mk [(0,eE l),(7,I .i64 (((l.map bA).length+1:Nat):Int)),(8,I .i64 n)] []) (fun n=>n≤kA l) (fun n=>kA l-n) 0 (Al _) sl ?_)) (hc:=⟨by show(l.map bA).length+1≤9223372036854775807;omega,trivial⟩))));intro n hn;have q:=aFd n (by omega) fun h=>J (n/26) (by omega)
 have y:=dQ l (cE n) (by omega);refine sg rfl (a8 (aA rfl (fun hb=>?_) (fun hb=>?_)))
 ·refine aD (a8 (aC (sg rfl (sk 1 rfl (kc q ?_)))));refine kz 1 rfl (sk 2 rfl (kc y ?_));refine kz 1 rfl (aA rfl (fun hb=>?_) (fun hb=>?_))
  ·have hm:¬cE n∈l:=by simpa using hb
   have he:n=kA l:=by
    by_cases h:n<kA l
    ·exact absurd (aEp l h) hm
    ·omega
   refine sg rfl ?_;unfold bE;rw[←he];exact aF rtT
  ·have hm:cE n∈l:=by simpa using hb
   have Y:n≠kA l:=by rintro rfl;exact r9 l hm
   refine aD (ag [] rfl ?_ (hc:=by repeat (first | exact trivial | refine⟨by omega,?_⟩)));exact⟨n+1,by omega,by dsimp only;omega,sl⟩
 ·exfalso;have:=π hb;omega
theorem a0n (s:Str) (t:Ty) (q:aW Tryz.prog 147 [tyV t] [] (tyV t) []):aW Tryz.prog 151 [Go.AM.T s,tyV t] [] (tyV (.mk 5 0 s [t])) []:=by
 refine bZ (n:=10) tok Tryz.func151 rfl rfl rfl ?_;refine sg rfl (sk 2 rfl (kc q ?_));exact ak 3 [(3,.all)] rfl (az (aF (rtC trw)))
end Go.Proofs.YtnjaiimffoninaaGreatDoor
