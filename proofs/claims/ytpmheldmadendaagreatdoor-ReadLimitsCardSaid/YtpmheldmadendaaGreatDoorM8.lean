/-
  Texts Rd19 to Rd24 in one.
-/
import Derived.Test.YtpmheldmadendaaGreatDoorM7
import Derived.Shelf.Strings.OnBuilder
import Derived.Shelf.Strconv.Itoa3
import Derived.Lib.LaidTab
open List (cons_append dropWhile_cons length_append length_cons length_map length_nil length_take map_append mem_append mem_of_mem_take mem_singleton nil_append take_add_one take_append_drop take_length)
open Nat (add_zero le_refl le_trans lt_of_lt_of_le mul_le_mul_right mul_one zero_le)
namespace Go.Proofs.YtpmheldmadendaaGreatDoor
open Go Go.AM
set_option maxRecDepth 20000
set_option maxHeartbeats 4000000
section
variable {fn:Func}{st:St}{hin hout:List (Nat×AObj)}
theorem iM {a0 t0 B r M:Nat}{i0:TI}{j:List AM.R}{v0 w0:V}{ids0:List Nat}{O:Nat}{v1 y:V}{I:List Nat}{a2 t2 E u U:Nat}{i2:TI}{q:List AM.R}{v2 A:V}{J:List Nat}(hr:fn.results.toList=[.cell a0 t0,.tmp O,.cell a2 t2]:=by rfl) (Y:tr.get t0=some i0:=by rfl) (aa:st.e a0=some (.one (.vp B r)):=by rfl) (ab:st.h B=some (.var M j):=by rfl) (ac:Nat.ble (r+i0.size) j.length=true:=by rfl) (ad:iS i0 ((j.drop r).take i0.size)=some v0:=by rfl) (ae:st.e O=some v1:=by rfl) (af:tr.get t2=some i2:=by rfl) (ag:st.e a2=some (.one (.vp E u)):=by rfl) (ah:st.h E=some (.var U q):=by rfl) (ai:Nat.ble (u+i2.size) q.length=true:=by rfl) (aj:iS i2 ((q.drop u).take i2.size)=some v2:=by rfl)
  (ak:Conv st.h ids0 v0 w0:=by first | exact .refl | exact .one (.c .nl .nil) | exact .one (.hs rfl (by first | rfl | assumption | simp) (by first | rfl | exact Go.AM.take_all (by first | assumption | rfl | (simp;done)) | exact Go.AM.take_map.symm) .nil) | ((first | apply Go.AM.Conv.pa | apply Go.AM.Conv.agg);repeat (first | exact .nil | apply Go.AM.PureL.c .refl | apply Go.AM.PureL.c .nl | (apply Go.AM.PureL.hs;rfl;(first | rfl | assumption | simp);(first | rfl | exact Go.AM.take_all (by first | assumption | rfl | (simp;done)) | exact Go.AM.take_map.symm))))) (al:Conv st.h I v1 y:=by first | exact .refl | exact .one (.c .nl .nil) | exact .one (.hs rfl (by first | rfl | assumption | simp) (by first | rfl | exact Go.AM.take_all (by first | assumption | rfl | (simp;done)) | exact Go.AM.take_map.symm) .nil) | ((first | apply Go.AM.Conv.pa | apply Go.AM.Conv.agg);repeat (first | exact .nil | apply Go.AM.PureL.c .refl | apply Go.AM.PureL.c .nl | (apply Go.AM.PureL.hs;rfl;(first | rfl | assumption | simp);(first | rfl | exact Go.AM.take_all (by first | assumption | rfl | (simp;done)) | exact Go.AM.take_map.symm))))) (am:Conv st.h J v2 A:=by first | exact .refl | exact .one (.c .nl .nil) | exact .one (.hs rfl (by first | rfl | assumption | simp) (by first | rfl | exact Go.AM.take_all (by first | assumption | rfl | (simp;done)) | exact Go.AM.take_map.symm) .nil) | ((first | apply Go.AM.Conv.pa | apply Go.AM.Conv.agg);repeat (first | exact .nil | apply Go.AM.PureL.c .refl | apply Go.AM.PureL.c .nl | (apply Go.AM.PureL.hs;rfl;(first | rfl | assumption | simp);(first | rfl | exact Go.AM.take_all (by first | assumption | rfl | (simp;done)) | exact Go.AM.take_map.symm)))))
  (ho:fH (fun p=>∃o,st.h p.1=some o∧Ole (fun i=>i) o p.2) hout:=by repeat (first | exact trivial | refine⟨⟨_,rfl,by first | exact Go.AM.Ole.arr | exact Go.AM.Ole.var rfl | exact Go.AM.Ole.varS rfl⟩,?_⟩))
  (hok:(subset (V.tup [w0,y,A]).refs (keys hout)&&subset (fI hout) (keys hout)&&Go.AM.distinct (keys hout)&&subset (keys hin) (keys hout)&&(hin.all fun p=>p.2.plain)&&(hout.all fun p=>p.2.plain))=true:=by rfl):(Exit.ret=.normal∨Exit.ret=.ret)∧Fin tr.flat fn st hin (.tup [w0,y,A]) hout:=
 ⟨.inr rfl,⟨[v0,v1,v2],[w0,y,A],by rw[hr];exact .cell aa (Tr.get_ok trw Y) ab ac ad (.tmp ae (.cell ag (Tr.get_ok trw af) ah ai aj (.nil))),.cons ak (.cons al (.cons am (.nil))),rfl⟩,ho,hok⟩
theorem aH0 {E:Nat}{v0 w0:V}{ids0:List Nat}{I:Nat}{v1 r:V}{A:List Nat}{a2 t2 y q J:Nat}{i2:TI}{j:List AM.R}{v2 u:V}{B:List Nat}(hr:fn.results.toList=[.tmp E,.tmp I,.cell a2 t2]:=by rfl) (M:st.e E=some v0:=by rfl) (O:st.e I=some v1:=by rfl) (U:tr.get t2=some i2:=by rfl) (Y:st.e a2=some (.one (.vp y q)):=by rfl) (aa:st.h y=some (.var J j):=by rfl) (ab:Nat.ble (q+i2.size) j.length=true:=by rfl) (ac:iS i2 ((j.drop q).take i2.size)=some v2:=by rfl)
  (ad:Conv st.h ids0 v0 w0:=by first | exact .refl | exact .one (.c .nl .nil) | exact .one (.hs rfl (by first | rfl | assumption | simp) (by first | rfl | exact Go.AM.take_all (by first | assumption | rfl | (simp;done)) | exact Go.AM.take_map.symm) .nil) | ((first | apply Go.AM.Conv.pa | apply Go.AM.Conv.agg);repeat (first | exact .nil | apply Go.AM.PureL.c .refl | apply Go.AM.PureL.c .nl | (apply Go.AM.PureL.hs;rfl;(first | rfl | assumption | simp);(first | rfl | exact Go.AM.take_all (by first | assumption | rfl | (simp;done)) | exact Go.AM.take_map.symm))))) (ae:Conv st.h A v1 r:=by first | exact .refl | exact .one (.c .nl .nil) | exact .one (.hs rfl (by first | rfl | assumption | simp) (by first | rfl | exact Go.AM.take_all (by first | assumption | rfl | (simp;done)) | exact Go.AM.take_map.symm) .nil) | ((first | apply Go.AM.Conv.pa | apply Go.AM.Conv.agg);repeat (first | exact .nil | apply Go.AM.PureL.c .refl | apply Go.AM.PureL.c .nl | (apply Go.AM.PureL.hs;rfl;(first | rfl | assumption | simp);(first | rfl | exact Go.AM.take_all (by first | assumption | rfl | (simp;done)) | exact Go.AM.take_map.symm))))) (af:Conv st.h B v2 u:=by first | exact .refl | exact .one (.c .nl .nil) | exact .one (.hs rfl (by first | rfl | assumption | simp) (by first | rfl | exact Go.AM.take_all (by first | assumption | rfl | (simp;done)) | exact Go.AM.take_map.symm) .nil) | ((first | apply Go.AM.Conv.pa | apply Go.AM.Conv.agg);repeat (first | exact .nil | apply Go.AM.PureL.c .refl | apply Go.AM.PureL.c .nl | (apply Go.AM.PureL.hs;rfl;(first | rfl | assumption | simp);(first | rfl | exact Go.AM.take_all (by first | assumption | rfl | (simp;done)) | exact Go.AM.take_map.symm)))))
  (ho:fH (fun p=>∃o,st.h p.1=some o∧Ole (fun i=>i) o p.2) hout:=by repeat (first | exact trivial | refine⟨⟨_,rfl,by first | exact Go.AM.Ole.arr | exact Go.AM.Ole.var rfl | exact Go.AM.Ole.varS rfl⟩,?_⟩))
  (hok:(subset (V.tup [w0,r,u]).refs (keys hout)&&subset (fI hout) (keys hout)&&Go.AM.distinct (keys hout)&&subset (keys hin) (keys hout)&&(hin.all fun p=>p.2.plain)&&(hout.all fun p=>p.2.plain))=true:=by rfl):(Exit.ret=.normal∨Exit.ret=.ret)∧Fin tr.flat fn st hin (.tup [w0,r,u]) hout:=
 ⟨.inr rfl,⟨[v0,v1,v2],[w0,r,u],by rw[hr];exact .tmp M (.tmp O (.cell Y (Tr.get_ok trw U) aa ab ac (.nil))),.cons ad (.cons ae (.cons af (.nil))),rfl⟩,ho,hok⟩
theorem aHz {y:Nat}{v0 w0:V}{ids0:List Nat}{A:Nat}{v1 j:V}{r:List Nat}{B:Nat}{v2 q:V}{u:List Nat}(Y:fn.results.toList=[.tmp y,.tmp A,.tmp B]:=by rfl) (E:st.e y=some v0:=by rfl) (I:st.e A=some v1:=by rfl) (J:st.e B=some v2:=by rfl)
  (M:Conv st.h ids0 v0 w0:=by first | exact .refl | exact .one (.c .nl .nil) | exact .one (.hs rfl (by first | rfl | assumption | simp) (by first | rfl | exact Go.AM.take_all (by first | assumption | rfl | (simp;done)) | exact Go.AM.take_map.symm) .nil) | ((first | apply Go.AM.Conv.pa | apply Go.AM.Conv.agg);repeat (first | exact .nil | apply Go.AM.PureL.c .refl | apply Go.AM.PureL.c .nl | (apply Go.AM.PureL.hs;rfl;(first | rfl | assumption | simp);(first | rfl | exact Go.AM.take_all (by first | assumption | rfl | (simp;done)) | exact Go.AM.take_map.symm))))) (O:Conv st.h r v1 j:=by first | exact .refl | exact .one (.c .nl .nil) | exact .one (.hs rfl (by first | rfl | assumption | simp) (by first | rfl | exact Go.AM.take_all (by first | assumption | rfl | (simp;done)) | exact Go.AM.take_map.symm) .nil) | ((first | apply Go.AM.Conv.pa | apply Go.AM.Conv.agg);repeat (first | exact .nil | apply Go.AM.PureL.c .refl | apply Go.AM.PureL.c .nl | (apply Go.AM.PureL.hs;rfl;(first | rfl | assumption | simp);(first | rfl | exact Go.AM.take_all (by first | assumption | rfl | (simp;done)) | exact Go.AM.take_map.symm))))) (U:Conv st.h u v2 q:=by first | exact .refl | exact .one (.c .nl .nil) | exact .one (.hs rfl (by first | rfl | assumption | simp) (by first | rfl | exact Go.AM.take_all (by first | assumption | rfl | (simp;done)) | exact Go.AM.take_map.symm) .nil) | ((first | apply Go.AM.Conv.pa | apply Go.AM.Conv.agg);repeat (first | exact .nil | apply Go.AM.PureL.c .refl | apply Go.AM.PureL.c .nl | (apply Go.AM.PureL.hs;rfl;(first | rfl | assumption | simp);(first | rfl | exact Go.AM.take_all (by first | assumption | rfl | (simp;done)) | exact Go.AM.take_map.symm)))))
  (ho:fH (fun p=>∃o,st.h p.1=some o∧Ole (fun i=>i) o p.2) hout:=by repeat (first | exact trivial | refine⟨⟨_,rfl,by first | exact Go.AM.Ole.arr | exact Go.AM.Ole.var rfl | exact Go.AM.Ole.varS rfl⟩,?_⟩))
  (hok:(subset (V.tup [w0,j,q]).refs (keys hout)&&subset (fI hout) (keys hout)&&Go.AM.distinct (keys hout)&&subset (keys hin) (keys hout)&&(hin.all fun p=>p.2.plain)&&(hout.all fun p=>p.2.plain))=true:=by rfl):(Exit.ret=.normal∨Exit.ret=.ret)∧Fin tr.flat fn st hin (.tup [w0,j,q]) hout:=
 ⟨.inr rfl,⟨[v0,v1,v2],[w0,j,q],by rw[Y];exact .tmp E (.tmp I (.tmp J (.nil))),.cons M (.cons O (.cons U (.nil))),rfl⟩,ho,hok⟩
theorem aLo {a0 t0 y q E:Nat}{i0:TI}{j:List AM.R}{v0 w0:V}{ids0:List Nat}{I:Nat}{v1 r:V}{A:List Nat}{J:Nat}{v2 u:V}{B:List Nat}(hr:fn.results.toList=[.cell a0 t0,.tmp I,.tmp J]:=by rfl) (M:tr.get t0=some i0:=by rfl) (O:st.e a0=some (.one (.vp y q)):=by rfl) (U:st.h y=some (.var E j):=by rfl) (Y:Nat.ble (q+i0.size) j.length=true:=by rfl) (aa:iS i0 ((j.drop q).take i0.size)=some v0:=by rfl) (ab:st.e I=some v1:=by rfl) (ac:st.e J=some v2:=by rfl)
  (ad:Conv st.h ids0 v0 w0:=by first | exact .refl | exact .one (.c .nl .nil) | exact .one (.hs rfl (by first | rfl | assumption | simp) (by first | rfl | exact Go.AM.take_all (by first | assumption | rfl | (simp;done)) | exact Go.AM.take_map.symm) .nil) | ((first | apply Go.AM.Conv.pa | apply Go.AM.Conv.agg);repeat (first | exact .nil | apply Go.AM.PureL.c .refl | apply Go.AM.PureL.c .nl | (apply Go.AM.PureL.hs;rfl;(first | rfl | assumption | simp);(first | rfl | exact Go.AM.take_all (by first | assumption | rfl | (simp;done)) | exact Go.AM.take_map.symm))))) (ae:Conv st.h A v1 r:=by first | exact .refl | exact .one (.c .nl .nil) | exact .one (.hs rfl (by first | rfl | assumption | simp) (by first | rfl | exact Go.AM.take_all (by first | assumption | rfl | (simp;done)) | exact Go.AM.take_map.symm) .nil) | ((first | apply Go.AM.Conv.pa | apply Go.AM.Conv.agg);repeat (first | exact .nil | apply Go.AM.PureL.c .refl | apply Go.AM.PureL.c .nl | (apply Go.AM.PureL.hs;rfl;(first | rfl | assumption | simp);(first | rfl | exact Go.AM.take_all (by first | assumption | rfl | (simp;done)) | exact Go.AM.take_map.symm))))) (af:Conv st.h B v2 u:=by first | exact .refl | exact .one (.c .nl .nil) | exact .one (.hs rfl (by first | rfl | assumption | simp) (by first | rfl | exact Go.AM.take_all (by first | assumption | rfl | (simp;done)) | exact Go.AM.take_map.symm) .nil) | ((first | apply Go.AM.Conv.pa | apply Go.AM.Conv.agg);repeat (first | exact .nil | apply Go.AM.PureL.c .refl | apply Go.AM.PureL.c .nl | (apply Go.AM.PureL.hs;rfl;(first | rfl | assumption | simp);(first | rfl | exact Go.AM.take_all (by first | assumption | rfl | (simp;done)) | exact Go.AM.take_map.symm)))))
  (ho:fH (fun p=>∃o,st.h p.1=some o∧Ole (fun i=>i) o p.2) hout:=by repeat (first | exact trivial | refine⟨⟨_,rfl,by first | exact Go.AM.Ole.arr | exact Go.AM.Ole.var rfl | exact Go.AM.Ole.varS rfl⟩,?_⟩))
  (hok:(subset (V.tup [w0,r,u]).refs (keys hout)&&subset (fI hout) (keys hout)&&Go.AM.distinct (keys hout)&&subset (keys hin) (keys hout)&&(hin.all fun p=>p.2.plain)&&(hout.all fun p=>p.2.plain))=true:=by rfl):(Exit.ret=.normal∨Exit.ret=.ret)∧Fin tr.flat fn st hin (.tup [w0,r,u]) hout:=
 ⟨.inr rfl,⟨[v0,v1,v2],[w0,r,u],by rw[hr];exact .cell O (Tr.get_ok trw M) U Y aa (.tmp ab (.tmp ac (.nil))),.cons ad (.cons ae (.cons af (.nil))),rfl⟩,ho,hok⟩
theorem aS3 {r:Nat}{v0 w0:V}{ids0:List Nat}{u:Nat}{v1 j:V}{q:List Nat}(I:fn.results.toList=[.tmp r,.tmp u]:=by rfl) (y:st.e r=some v0:=by rfl) (A:st.e u=some v1:=by rfl)
  (B:Conv st.h ids0 v0 w0:=by first | exact .refl | exact .one (.c .nl .nil) | exact .one (.hs rfl (by first | rfl | assumption | simp) (by first | rfl | exact Go.AM.take_all (by first | assumption | rfl | (simp;done)) | exact Go.AM.take_map.symm) .nil) | ((first | apply Go.AM.Conv.pa | apply Go.AM.Conv.agg);repeat (first | exact .nil | apply Go.AM.PureL.c .refl | apply Go.AM.PureL.c .nl | (apply Go.AM.PureL.hs;rfl;(first | rfl | assumption | simp);(first | rfl | exact Go.AM.take_all (by first | assumption | rfl | (simp;done)) | exact Go.AM.take_map.symm))))) (E:Conv st.h q v1 j:=by first | exact .refl | exact .one (.c .nl .nil) | exact .one (.hs rfl (by first | rfl | assumption | simp) (by first | rfl | exact Go.AM.take_all (by first | assumption | rfl | (simp;done)) | exact Go.AM.take_map.symm) .nil) | ((first | apply Go.AM.Conv.pa | apply Go.AM.Conv.agg);repeat (first | exact .nil | apply Go.AM.PureL.c .refl | apply Go.AM.PureL.c .nl | (apply Go.AM.PureL.hs;rfl;(first | rfl | assumption | simp);(first | rfl | exact Go.AM.take_all (by first | assumption | rfl | (simp;done)) | exact Go.AM.take_map.symm)))))
  (ho:fH (fun p=>∃o,st.h p.1=some o∧Ole (fun i=>i) o p.2) hout:=by repeat (first | exact trivial | refine⟨⟨_,rfl,by first | exact Go.AM.Ole.arr | exact Go.AM.Ole.var rfl | exact Go.AM.Ole.varS rfl⟩,?_⟩))
  (hok:(subset (V.tup [w0,j]).refs (keys hout)&&subset (fI hout) (keys hout)&&Go.AM.distinct (keys hout)&&subset (keys hin) (keys hout)&&(hin.all fun p=>p.2.plain)&&(hout.all fun p=>p.2.plain))=true:=by rfl):(Exit.ret=.normal∨Exit.ret=.ret)∧Fin tr.flat fn st hin (.tup [w0,j]) hout:=
 ⟨.inr rfl,⟨[v0,v1],[w0,j],by rw[I];exact .tmp y (.tmp A (.nil)),.cons B (.cons E (.nil)),rfl⟩,ho,hok⟩
theorem oH {a0 t0 u q A:Nat}{i0:TI}{j:List AM.R}{v0 w0:V}{ids0:List Nat}{B:Nat}{v1 r:V}{y:List Nat}(hr:fn.results.toList=[.cell a0 t0,.tmp B]:=by rfl) (E:tr.get t0=some i0:=by rfl) (I:st.e a0=some (.one (.vp u q)):=by rfl) (J:st.h u=some (.var A j):=by rfl) (M:Nat.ble (q+i0.size) j.length=true:=by rfl) (O:iS i0 ((j.drop q).take i0.size)=some v0:=by rfl) (U:st.e B=some v1:=by rfl)
  (Y:Conv st.h ids0 v0 w0:=by first | exact .refl | exact .one (.c .nl .nil) | exact .one (.hs rfl (by first | rfl | assumption | simp) (by first | rfl | exact Go.AM.take_all (by first | assumption | rfl | (simp;done)) | exact Go.AM.take_map.symm) .nil) | ((first | apply Go.AM.Conv.pa | apply Go.AM.Conv.agg);repeat (first | exact .nil | apply Go.AM.PureL.c .refl | apply Go.AM.PureL.c .nl | (apply Go.AM.PureL.hs;rfl;(first | rfl | assumption | simp);(first | rfl | exact Go.AM.take_all (by first | assumption | rfl | (simp;done)) | exact Go.AM.take_map.symm))))) (aa:Conv st.h y v1 r:=by first | exact .refl | exact .one (.c .nl .nil) | exact .one (.hs rfl (by first | rfl | assumption | simp) (by first | rfl | exact Go.AM.take_all (by first | assumption | rfl | (simp;done)) | exact Go.AM.take_map.symm) .nil) | ((first | apply Go.AM.Conv.pa | apply Go.AM.Conv.agg);repeat (first | exact .nil | apply Go.AM.PureL.c .refl | apply Go.AM.PureL.c .nl | (apply Go.AM.PureL.hs;rfl;(first | rfl | assumption | simp);(first | rfl | exact Go.AM.take_all (by first | assumption | rfl | (simp;done)) | exact Go.AM.take_map.symm)))))
  (ho:fH (fun p=>∃o,st.h p.1=some o∧Ole (fun i=>i) o p.2) hout:=by repeat (first | exact trivial | refine⟨⟨_,rfl,by first | exact Go.AM.Ole.arr | exact Go.AM.Ole.var rfl | exact Go.AM.Ole.varS rfl⟩,?_⟩))
  (hok:(subset (V.tup [w0,r]).refs (keys hout)&&subset (fI hout) (keys hout)&&Go.AM.distinct (keys hout)&&subset (keys hin) (keys hout)&&(hin.all fun p=>p.2.plain)&&(hout.all fun p=>p.2.plain))=true:=by rfl):(Exit.ret=.normal∨Exit.ret=.ret)∧Fin tr.flat fn st hin (.tup [w0,r]) hout:=
 ⟨.inr rfl,⟨[v0,v1],[w0,r],by rw[hr];exact .cell I (Tr.get_ok trw E) J M O (.tmp U (.nil)),.cons Y (.cons aa (.nil)),rfl⟩,ho,hok⟩
theorem aDo {a0 t0 B r J:Nat}{i0:TI}{j:List AM.R}{v0 w0:V}{ids0:List Nat}{M t1 E u O:Nat}{y:TI}{q:List AM.R}{v1 A:V}{I:List Nat}(hr:fn.results.toList=[.cell a0 t0,.cell M t1]:=by rfl) (U:tr.get t0=some i0:=by rfl) (Y:st.e a0=some (.one (.vp B r)):=by rfl) (aa:st.h B=some (.var J j):=by rfl) (ab:Nat.ble (r+i0.size) j.length=true:=by rfl) (ac:iS i0 ((j.drop r).take i0.size)=some v0:=by rfl) (ad:tr.get t1=some y:=by rfl) (ae:st.e M=some (.one (.vp E u)):=by rfl) (af:st.h E=some (.var O q):=by rfl) (ag:Nat.ble (u+y.size) q.length=true:=by rfl) (ah:iS y ((q.drop u).take y.size)=some v1:=by rfl)
  (ai:Conv st.h ids0 v0 w0:=by first | exact .refl | exact .one (.c .nl .nil) | exact .one (.hs rfl (by first | rfl | assumption | simp) (by first | rfl | exact Go.AM.take_all (by first | assumption | rfl | (simp;done)) | exact Go.AM.take_map.symm) .nil) | ((first | apply Go.AM.Conv.pa | apply Go.AM.Conv.agg);repeat (first | exact .nil | apply Go.AM.PureL.c .refl | apply Go.AM.PureL.c .nl | (apply Go.AM.PureL.hs;rfl;(first | rfl | assumption | simp);(first | rfl | exact Go.AM.take_all (by first | assumption | rfl | (simp;done)) | exact Go.AM.take_map.symm))))) (aj:Conv st.h I v1 A:=by first | exact .refl | exact .one (.c .nl .nil) | exact .one (.hs rfl (by first | rfl | assumption | simp) (by first | rfl | exact Go.AM.take_all (by first | assumption | rfl | (simp;done)) | exact Go.AM.take_map.symm) .nil) | ((first | apply Go.AM.Conv.pa | apply Go.AM.Conv.agg);repeat (first | exact .nil | apply Go.AM.PureL.c .refl | apply Go.AM.PureL.c .nl | (apply Go.AM.PureL.hs;rfl;(first | rfl | assumption | simp);(first | rfl | exact Go.AM.take_all (by first | assumption | rfl | (simp;done)) | exact Go.AM.take_map.symm)))))
  (ho:fH (fun p=>∃o,st.h p.1=some o∧Ole (fun i=>i) o p.2) hout:=by repeat (first | exact trivial | refine⟨⟨_,rfl,by first | exact Go.AM.Ole.arr | exact Go.AM.Ole.var rfl | exact Go.AM.Ole.varS rfl⟩,?_⟩))
  (hok:(subset (V.tup [w0,A]).refs (keys hout)&&subset (fI hout) (keys hout)&&Go.AM.distinct (keys hout)&&subset (keys hin) (keys hout)&&(hin.all fun p=>p.2.plain)&&(hout.all fun p=>p.2.plain))=true:=by rfl):(Exit.ret=.normal∨Exit.ret=.ret)∧Fin tr.flat fn st hin (.tup [w0,A]) hout:=
 ⟨.inr rfl,⟨[v0,v1],[w0,A],by rw[hr];exact .cell Y (Tr.get_ok trw U) aa ab ac (.cell ae (Tr.get_ok trw ad) af ag ah (.nil)),.cons ai (.cons aj (.nil)),rfl⟩,ho,hok⟩
end
def o5 (L:List Tk):Prop:=∀t∈L,t.kind=4→t.n=0
theorem vH (t:Tk) (s:Str) (h:t.kind=4→t.n=0):b8 Tryz.prog 217 [tkV t,Go.AM.T s] [] (B (isT t s)) []:=by
 have e:aC4 [.int .i64 t.kind,.str t.text,.int .i64 t.n,.int .i64 0] [.int .i64 4,.str s,.int .i64 0,.int .i64 0]=isT t s:=by
  unfold isT;simp only[aC4,ceq,decide_true,Bool.and_true];by_cases c:t.kind=4
  ·rw[h c];simp
  ·rw[ψ c];rfl
 rw[←e];refine bM (n:=10) tok Tryz.func217 rfl rfl rfl ?_;refine sg rfl (sg rfl (sk 3 rfl (k_ (g_ rfl rfl (aLs tok (by unfold aHb;kernel_rfl) rfl rfl (by decide) (tg rfl) rfl rfl rfl rfl)) ?_)));exact kz 1 rfl (aE rtT)
theorem mQ (t:Tk) (e:Int):b8 Tryz.prog 219 [tkV t,I .i64 e] [] (atV e t.pl) []:=by
 refine bM (n:=9) tok Tryz.func219 rfl rfl rfl ?_;exact sg rfl (sg rfl (aE (rtC trw)))
theorem y6 {t:Ty}(h:wfS t=true):b8 Tryz.prog 251 [tyV t] [] (tyV t) []:=aFt _ t (le_refl _) h
theorem aK1 (a b:Ty) (ha:wfS a=true) (hb:wfS b=true):b8 Tryz.prog 249 [tyV a,.one (.c (.sl 4 [bL b]))] [] (tyV (kZ a b)) []:=by
 have h1:=y6 ha;have h2:=y6 hb;have u:=sR a b;refine bM (n:=22) tok Tryz.func249 rfl rfl rfl ?_;refine sg rfl (sk 1 rfl (kc h1 ?_));refine kz 2 rfl (aA (sg rfl (aF (aK (fun i:Nat=>mk [(4,.one (.vp 4 0)),(5,.one (.vp 5 0)),(10,.one (.c (.sl 4 [bL b]))),(11,I .i64 1),(12,I .i64 i)] [(4,.var 47 [.c (.int .i64 0),.c (.int .i64 0),.c (.str []),.c .nl]),(5,.var 47 ((bL (if i=0 then a else kZ a b)).map .c))]) (fun i=>i≤1) (fun i=>1-i) 0 (Ac _) sl ?_))));intro i hi;refine sg rfl (aA (aB rfl (fun j=>?_) (fun j=>?_)))
 ·have q:i=0:=by
   have:(i:Int)<1:=χ j;omega
  subst q;rw[θ rfl];refine aD (aA (aF (sgh [(0,.row 0 (bL b))] rfl (aC mixed (ak 2 [] rfl (kc h2 ?_))))));refine kc u ?_;exact kz 1 rfl (ag [] rfl ⟨1,le_refl _,by dsimp only;omega,sl⟩)
 have r:i=1:=by
  have:¬(i:Int)<1:=Ad j;omega
 subst r;exact aH (sg rfl (aE (rtC trw)))
theorem aQt (a b:Ty) (ha:b8 Tryz.prog 251 [tyV a] [] (tyV a) []) (hb:b8 Tryz.prog 251 [tyV b] [] (tyV b) []):b8 Tryz.prog 250 [tyV b,.one (.c (.sl 4 [bL a]))] [] (tyV (aCz a b)) []:=by
 have h1:=aFq arrow;have h2:=sR (.mk 3 0 arrow []) a;have u:=sR (kZ (.mk 3 0 arrow []) a) b;refine bM (n:=29) tok Tryz.func250 rfl rfl rfl ?_;refine sg rfl (sgh [(1,.pc (tyV b))] rfl (aA (sg rfl (aF (aK (fun i:Nat=>mk [(1,.one (.c (.sl 4 [bL a]))),(4,.one (.vp 4 0)),(5,.one (.vp 5 0)),(10,I .i64 1),(11,I .i64 i)] [(4,.var 47 [.c (.int .i64 0),.c (.int .i64 0),.c (.str []),.c .nl]),(5,.var 47 ((bL (if i=0 then b else aCz a b)).map .c))]) (fun i=>i≤1) (fun i=>1-i) 0 (Ac _) sl ?_)))));intro i hi;refine sg rfl (aA (aB rfl (fun j=>?_) (fun j=>?_)))
 ·have q:i=0:=by
   have:(i:Int)<1:=χ j;omega
  subst q;rw[θ rfl];refine aD (aA (aF (sg rfl (aC mixed (kc h1 ?_)))));refine ak 8 [(7,.row 0 (bL a))] rfl (kc ha ?_);refine kc h2 ?_;refine ak 1 [] rfl (kc u ?_);exact kz 1 rfl (ag [] rfl ⟨1,le_refl _,by dsimp only;omega,sl⟩)
 have r:i=1:=by
  have:¬(i:Int)<1:=Ad j;omega
 subst r;rw[ξ (by omega)];exact aH (sg rfl (aE (rtC trw)))
def tpV (L:List Tk):TR→V
 | .ok (x,R)=>.tup [tyV x,I .i64 ((L.length-R.length:Nat):Int),atV 0 0]
 | .error (e,p)=>.tup [tyV zTy,I .i64 0,atV e p]
theorem iZ (L:List Tk) (x:Ty) (R:List Tk):tpV L (.ok (x,R))=.tup [tyV x,I .i64 ((L.length-R.length:Nat):Int),atV 0 0]:=rfl
def aHc (L:List Tk) (f:Nat):Prop:=∀(o:Nat) (R:List Tk) (i:Nat),At L i R→3*R.length≤f→o≤40→b8 Tryz.prog 215 [nB L,I .i64 (i:Nat),I .i64 (o:Nat)] [] (tpV L (cX f o R)) []
def aA6 (L:List Tk) (f:Nat):Prop:=∀(o:Nat) (R:List Tk) (i:Nat),At L i R→3*R.length+2≤f→o≤40→b8 Tryz.prog 241 [nB L,I .i64 (i:Nat),I .i64 (o:Nat)] [] (tpV L (cD f o R)) []
theorem At.mem {L:List Tk}{i:Nat}{t:Tk}{R:List Tk}(h:At L i (t::R)):t∈L:=Ag h.get
theorem aNg (L:List Tk) (hZ:o5 L) (f:Nat) (ih:aA6 L f):aHc L (f+1):=by
 intro o R i c hf ho;have hkl:(L.map aG).length=L.length:=η _;have hLl:=c.l;obtain⟨t,R,rfl⟩:=c.e.ne;have M:=c.lt;have O:=c.get;have hti':=aY aG O;rw[ε] at M hf;rw[cX];refine bM (n:=83) tok Tryz.func215 rfl rfl rfl ?_;refine sg rfl (aA (sgh [(2,.row i (aG t))] rfl ?_));have hz:t.kind=4→t.n=0:=hZ t c.mem;have U:=vH t c8 hz;have Y:=mQ t 12;have aa:=mQ t 13;have B:=aFq t.text;have E:=aMp t.text;refine aF (sg rfl (aB rfl (fun hb=>?_) (fun hb=>?_)))
 ·have h2:t.kind=2:=χ hb;rw[θ h2];obtain⟨_,hn⟩:=c.next (by omega)
  rw[iZ,hn];refine aA (aC mixed (akN 2 [] rfl (kc B ?_)));exact akN 6 [] rfl (az (aE iM))
 rw[ξ (Ad hb)];refine sg rfl (aB rfl (fun hb=>?_) (fun hb=>?_))
 ·have h1:t.kind=1:=χ hb;rw[θ h1];obtain⟨_,hn⟩:=c.next (by omega)
  rw[iZ,hn];refine aA (aC mixed (akN 2 [] rfl (kc E ?_)));exact akN 6 [] rfl (az (aE iM))
 rw[ξ (Ad hb)];refine sk 1 rfl (kc U ?_);refine kz 2 rfl ?_;cases hl:isT t c8 with
 | false=>
  rw[θ rfl];refine aB rfl (fun _=>sk 2 rfl (kc Y ?_)) (fun hb=>absurd hb (by decide));exact kz 3 rfl (aE iM)
 | true=>
 rw[ξ (by decide)];refine aB rfl (fun hb=>absurd hb (by decide)) (fun _=>sg rfl (aB rfl (fun hb=>?_) (fun hb=>?_)))
 ·rw[θ (by have:=χ hb;omega)];refine sk 2 rfl (kc aa ?_);exact kz 3 rfl (aE iM)
 have I:¬40≤o:=by have:=Ad hb;omega
 rw[ξ I];refine aD ?_;obtain⟨A,_⟩:=c.next (by rw[(bU hl).1];decide)
 have ab:=ih (o+1) R (i+1) A (by omega) (by omega);have hok:=eS f (o+1) R;have r:=dJ f (o+1) R;refine aA (aC mixed (akN 5 [] rfl (kc ab ?_)));generalize cD f (o+1) R=w at hok r ⊢;cases w with
 | error e=>
  obtain⟨e,p⟩:=e;have he:=r e p rfl;unfold tpV atV;refine akN 9 [] rfl (az ?_);rw[pC];exact aA (aF (sg rfl (aB rfl (fun _=>sg rfl (aE iM)) (fun hb=>absurd hb (by simp[he])))))
 | ok y=>
  obtain⟨x,R1⟩:=y;obtain⟨hT,_⟩:=hok x R1 rfl;obtain⟨q,hle⟩:=A.ok hT;obtain⟨u,R3,rfl⟩:=q.e.ne;rw[iZ];generalize L.length-(u::R3).length=j at *;have ac:=q.get;have huj':=aY aG ac;have hj:=q.lt;rw[ε] at hj;have J:=vH u nE (hZ u q.mem);have ad:=mQ u 12;refine kz 9 rfl (aA (aF (sg rfl (aB rfl (fun hb=>absurd hb (by decide)) (fun _=>skh 4 [(2,.row j (aG u))] rfl (kc J ?_))))));refine kz 2 rfl ?_;rw[pC];cases hr:isT u nE with
  | false=>
   rw[ξ (by decide)];refine aB rfl (fun _=>skh 5 [(3,.row j (aG u))] rfl (kc ad ?_)) (fun hb=>absurd hb (by decide));exact kz 3 rfl (aE iM)
  | true=>
   rw[θ rfl];obtain⟨_,hn⟩:=q.next (by rw[(bU hr).1];decide)
   rw[iZ,hn];exact aB rfl (fun hb=>absurd hb (by decide)) (fun _=>aD (aA (agN [] rfl (aE iM))))
theorem aQp (t:Tk) (c:t.kind=4→t.n=0):b8 Tryz.prog 248 [tkV t] [] (B (aHg t)) []:=by
 have hi:=vH t c8 c;unfold aHg;refine bM (n:=15) tok Tryz.func248 rfl rfl rfl ?_;refine sg rfl ?_;by_cases h2:t.kind=2
 ·have d1:decide (t.kind=1)=false:=ψ (by omega);have d2:decide (t.kind=2)=true:=φ h2;rw[d1,d2];exact sgh [(3,.bv true),(7,.bv true),(8,.bv true),(11,.bv true)] rfl (aE rtT)
 have d2:decide (t.kind=2)=false:=ψ h2;by_cases h1:t.kind=1
 ·have d1:decide (t.kind=1)=true:=φ h1;rw[d1];exact sgh [(3,.bv false),(7,.bv false),(8,.bv true),(11,.bv true)] rfl (aE rtT)
 ·have d1:decide (t.kind=1)=false:=ψ h1;rw[d1,d2,Az,Az];refine skh 10 [(3,.bv false),(7,.bv false),(8,.bv false)] rfl (kcG hi ?_);exact ak 2 [(8,.bv false),(11,.bv false)] rfl (az (aE rtT))
theorem aNb (L:List Tk) (hZ:o5 L) (f:Nat) (aa:∀g,g≤f→aHc L g) (ab:∀g,g≤f→aA6 L g):aA6 L (f+1):=by
 intro o R i U hf ho;have hkl:(L.map aG).length=L.length:=η _;have hLl:=U.l;have J:=aa f (le_refl _) o R i U (by omega) ho;have hok:=gN f o R;have A:=dP f o R;have ac:=U.lt;have key:∃W:TR,W=cD (f+1) o R:=⟨_,rfl⟩
 obtain⟨W,r⟩:=key;rw[←r];rw[cD] at r;refine bM (n:=80) tok Tryz.func241 rfl rfl rfl ?_;refine sg rfl (sg rfl (sk 3 rfl (kc J ?_)));have M:∀(x:Ty) (j e p:Int) (R1:List Tk) (g:Nat),((e=0∧p=0∧j=((L.length-R1.length:Nat):Int)∧At L (L.length-R1.length) R1∧WF x∧3*R1.length+1≤g∧g≤f∧W=kV g o x R1)∨(¬e=0∧W=.error (e,p)))→
   AWp none Tryz.prog 80 (keys ([]:List (Nat×AObj))) (hJ (hJ (hJ (Tryz.f241.body.getD .skip)))) (mk [(0,nB L),(1,I .i64 j),(2,I .i64 (o:Nat)),(6,.one (.vp 6 0)),(8,.one (.vp 8 0)),(9,.one (.clo 248 [])),(10,.one (.vp 10 0)),(11,.one (.vp 11 0))] [(6,.var 47 [.c (.int .i64 0),.c (.int .i64 0),.c (.str []),.c .nl]),(8,.var 32 [.c (.int .i64 0),.c (.int .i64 0)]),(10,.var 47 ((bL x).map .c)),(11,.var 32 [.c (.int .i64 e),.c (.int .i64 p)])]) (fun ex st=>(ex=.normal∨ex=.ret)∧Fin tr.flat Tryz.f241 st [] (tpV L W) []):=by
  clear J hok A r ac U hf;intro x j e p R1 g hinv;refine aA (aF (aK (fun q:Ty×Int×Int×Int×List Tk×Nat=>mk [(0,nB L),(1,I .i64 q.2.1),(2,I .i64 (o:Nat)),(6,.one (.vp 6 0)),(8,.one (.vp 8 0)),(9,.one (.clo 248 [])),(10,.one (.vp 10 0)),(11,.one (.vp 11 0))] [(6,.var 47 [.c (.int .i64 0),.c (.int .i64 0),.c (.str []),.c .nl]),(8,.var 32 [.c (.int .i64 0),.c (.int .i64 0)]),(10,.var 47 ((bL q.1).map .c)),(11,.var 32 [.c (.int .i64 q.2.2.1),.c (.int .i64 q.2.2.2.1)])]) (fun q=>(q.2.2.1=0∧q.2.2.2.1=0∧q.2.1=((L.length-q.2.2.2.2.1.length:Nat):Int)∧At L (L.length-q.2.2.2.2.1.length) q.2.2.2.2.1∧WF q.1∧3*q.2.2.2.2.1.length+1≤q.2.2.2.2.2∧q.2.2.2.2.2≤f∧W=kV q.2.2.2.2.2 o q.1 q.2.2.2.2.1)∨(¬q.2.2.1=0∧W=.error (q.2.2.1,q.2.2.2.1))) (fun q=>if q.2.2.1=0 then q.2.2.2.2.2 else 0) (x,j,e,p,R1,g) hinv sl ?_));clear hinv;rintro⟨x,j,e,p,R1,g⟩ hinv;dsimp only at hinv ⊢;rcases hinv with⟨he,hp,hj,B,O,hg,hgf,r⟩ | ⟨he,r⟩
  case inr=>
   have de:decide (e=0)=false:=ψ he;refine aA (sgh [(3,.bv false),(10,.bv false)] rfl (aB rfl (fun hb=>absurd hb (by decide)) (fun _=>aH ?_)));rw[r];unfold tpV atV;exact aA (sg rfl (aB rfl (fun _=>sg rfl (aE iM)) (fun hb=>absurd hb (by simp[he]))))
  subst he hp hj;obtain⟨u,R2,rfl⟩:=B.e.ne;obtain⟨g,rfl⟩:∃h,g=h+1:=⟨g-1,by omega⟩
  have ad:=B.get;have huj':=aY aG ad;have hlt:=B.lt;have hz:=hZ u B.mem;have hbu:=aQp u hz;rw[kV] at r;refine aA (skh 9 [(3,.bv true),(7,.row (L.length-(u::R2).length) (aG u))] rfl (kvG (caps:=[]) (args:=[tkV u]) (hin:=[]) (hout:=[]) hbu ?_));refine ak 1 [(3,.bv true),(10,.bv true)] rfl (az (aB rfl (fun hb=>?_) (fun hb=>?_)))
  ·have hb:aHg u=true:=hb;rw[θ hb] at r;have J:=aa g (by omega) o (u::R2) _ B (by omega) ho;have hok:=gN g o (u::R2);have A:=dP g o (u::R2);refine aD (aF (sg rfl (sk 3 rfl (kc J ?_))));generalize cX g o (u::R2)=w at hok A r ⊢;cases w with
   | error e=>
    obtain⟨e,p⟩:=e;have he:=A e p rfl;have Y:=aK1 x zTy O.1 rfl;dsimp only at r;unfold tpV atV;refine kz 7 rfl (aC mixed (ak 3 [(2,.all)] rfl (kc Y ?_)));exact kz 1 rfl ⟨(kZ x zTy,0,e,p,[],0),.inr ⟨he,r⟩,by dsimp only;rw[ξ he,θ rfl];omega,sl⟩
   | ok y=>
    obtain⟨a,R3⟩:=y;obtain⟨E,_⟩:=hok a R3 rfl;obtain⟨hA3,hle⟩:=B.ok E;have hlen:=E.len;have Y:=aK1 x a O.1 E.w.1;dsimp only at r;rw[iZ];unfold atV;refine kz 7 rfl (aC mixed (ak 3 [(2,.all)] rfl (kc Y ?_)));exact kz 1 rfl ⟨(kZ x a,((L.length-R3.length:Nat):Int),0,0,R3,g),.inl ⟨rfl,rfl,rfl,hA3,tN O E.w,by dsimp only;omega,by dsimp only;omega,r⟩,by dsimp only;rw[θ rfl,θ rfl];omega,sl⟩
  ·have hb:aHg u=false:=hb;rw[ξ (by rw[hb];decide)] at r;have hIs:=vH u arrow hz;refine aH (aA (sg rfl (aB rfl (fun hb=>absurd hb (by decide)) (fun _=>aD (aA (skh 4 [(2,.row (L.length-(u::R2).length) (aG u))] rfl (kc hIs ?_)))))));refine kz 1 rfl ?_;cases hl:isT u arrow with
   | false=>
    rw[hl,ξ (by decide)] at r;rw[r,iZ];exact aB rfl (fun _=>sg rfl (aE iM)) (fun hb=>absurd hb (by decide))
   | true=>
    rw[hl,θ rfl] at r;obtain⟨hA2,hn⟩:=B.next (by rw[(bU hl).1];decide)
    rw[ε] at hg;have hty:=ab g (by omega) o R2 _ hA2 (by omega) ho;have hok:=eS g o R2;have A:=dJ g o R2;refine aB rfl (fun hb=>absurd hb (by decide)) (fun _=>aD (aA (aC mixed (akN 4 [] rfl (kc hty ?_)))));generalize cD g o R2=w at hok A r ⊢;cases w with
    | error e=>
     obtain⟨e,p⟩:=e;have he:=A e p rfl;dsimp only at r;rw[r];unfold tpV atV;exact kz 8 rfl (aA (sg rfl (aB rfl (fun _=>sg rfl (aE iM)) (fun hb=>absurd hb (by simp[he])))))
    | ok y=>
     obtain⟨to,R3⟩:=y;obtain⟨E,_⟩:=hok to R3 rfl;dsimp only at r;rw[r,iZ,iZ];have hfu:=aQt x to (y6 O.1) (y6 E.w.1);unfold atV;refine kz 8 rfl (aA (sg rfl (aB rfl (fun hb=>absurd hb (by decide)) (fun _=>aD (skh 3 [(2,.all)] rfl (kc hfu ?_))))));exact kz 5 rfl (aE iM)
 generalize cX f o R=w at hok A r ⊢;cases w with
 | error e=>
  obtain⟨e,p⟩:=e;unfold tpV atV;exact kz 9 rfl (AWp.sub sl (M zTy 0 e p [] 0 (.inr ⟨A e p rfl,r⟩)))
 | ok y=>
  obtain⟨x,R1⟩:=y;obtain⟨E,_⟩:=hok x R1 rfl;obtain⟨B,hle⟩:=U.ok E;have hlen:=E.len;rw[iZ];unfold atV;exact kz 9 rfl (AWp.sub sl (M x _ 0 0 R1 f (.inl ⟨rfl,rfl,rfl,B,E.w,by omega,le_refl _,r⟩)))
theorem aDa (L:List Tk) (hZ:o5 L):∀f,(∀g,g≤f→aHc L g)∧∀g,g≤f→aA6 L g:=by
 intro f
 induction f with
 | zero=>
  refine⟨fun g j o R i q r=>?_,fun g j o R i q r=>?_⟩
  ·have:=q.lt;omega
  ·have:=q.lt;omega
 | succ f c=>
  refine⟨fun g j=>?_,fun g j=>?_⟩
  ·by_cases h:g≤f
   ·exact c.1 g h
   ·rw[show g=f+1 by omega];exact aNg L hZ f (c.2 f (le_refl _))
  ·by_cases h:g≤f
   ·exact c.2 g h
   ·rw[show g=f+1 by omega];exact aNb L hZ f c.1 c.2
def aRb (L:List Tk) (o:Nat):List Tk→V
 | []=>.tup [.pa (aM ⟨[],zTy⟩),I .i64 0,B false]
 | t::R=>if t.kind=2 then(match cX (3*R.length) o R with
   | .error _=>.tup [.pa (aM ⟨t.text,zTy⟩),I .i64 0,B false]
   | .ok (x,R2)=>.tup [.pa (aM ⟨t.text,x⟩),I .i64 ((L.length-R2.length:Nat):Int),B true])
  else .tup [.pa (aM ⟨[],zTy⟩),I .i64 0,B false]
theorem aFz (L:List Tk) (hZ:o5 L) (o:Nat) (ho:o≤40) (R:List Tk) (i:Nat) (c:At L i R):b8 Tryz.prog 216 [nB L,I .i64 (i:Nat),I .i64 (o:Nat)] [] (aRb L o R) []:=by
 have J:(L.map aG).length=L.length:=η _;have M:=c.l;obtain⟨t,R,rfl⟩:=c.e.ne;have q:=c.lt;have r:=c.get;have B:=aY aG r;rw[ε] at q;rw[aRb];refine bM (n:=39) tok Tryz.func216 rfl rfl rfl ?_;refine sg rfl (aA (sgh [(2,.row i (aG t))] rfl ?_));by_cases h2:t.kind=2
 case neg=>
  rw[ξ h2];have d2:(!decide (t.kind=2))=true:=by rw[ψ h2];rfl
  exact aB rfl (fun _=>sg rfl (aE aLo)) (fun hb=>absurd (hb.symm.trans d2) (by decide))
 rw[θ h2];have d2:(!decide (t.kind=2))=false:=by rw[φ h2];rfl
 refine aB rfl (fun hb=>absurd (hb.symm.trans d2) (by decide)) (fun _=>aD ?_);obtain⟨u,_⟩:=c.next (by omega)
 have A:=(aDa L hZ (3*R.length)).1 (3*R.length) (le_refl _) o R _ u (le_refl _) ho;have j:=dP (3*R.length) o R;refine aA (aC mixed (akN 4 [] rfl (kc A ?_)));generalize cX (3*R.length) o R=w at j ⊢;cases w with
 | error e=>
  obtain⟨e,p⟩:=e;have he:=j e p rfl;have E:decide (e=0)=false:=ψ he;unfold tpV atV;refine kz 9 rfl (sgh [(2,.row i (aG t))] rfl ?_);dsimp only;rw[←E];exact aE aLo
 | ok y=>
  obtain⟨x,R1⟩:=y;unfold tpV atV;exact kz 9 rfl (sgh [(2,.row i (aG t))] rfl (aE aLo))
def aPh (L:List Tk):Option (List Prd×List Tk)→V
 | some (out,u::R2)=>if isT u nE=true then .tup [.one (.c (.sl 5 (out.map aM))),I .i64 ((L.length-R2.length:Nat):Int),B true] else .tup [.one (.c .nl),I .i64 0,B false]
 | _=>.tup [.one (.c .nl),I .i64 0,B false]
theorem aMs (L:List Tk) (hZ:o5 L) (R:List Tk) (i:Nat) (E:At L i R) (F:Nat) (hF:R.length+1≤F):b8 Tryz.prog 218 [nB L,I .i64 (i:Nat)] [] (aPh L (jK F true R [])) []:=by
 have hkl:(L.map aG).length=L.length:=η _;have hLl:=E.l;have Y:=E.lt;have c:∃W,W=jK F true R []:=⟨_,rfl⟩
 obtain⟨W,c⟩:=c;rw[←c];refine bM (n:=42) tok Tryz.func218 rfl rfl rfl ?_;refine sg rfl (sg rfl (AWp.sub (Sub.own (t:=7) (id:=500) 113 5 rfl rfl) ?_));refine aF (aK (fun p:Nat×Nat×List Prd×List Tk=>mk [(0,nB L),(1,I .i64 (p.1:Nat)),(7,.one (.hs 500 0 p.2.2.1.length p.2.2.1.length))] [(500,.arr 113 5 (p.2.2.1.map aM) 0)]) (fun p=>At L p.1 p.2.2.2∧p.2.2.2.length+1≤p.2.1∧p.2.2.1.length+p.2.2.2.length≤4001∧W=jK p.2.1 true p.2.2.2 p.2.2.1) (fun p=>p.2.1) (i,F,[],R) ⟨E,hF,by dsimp only;rw[length_nil];omega,c⟩ sl ?_);clear c E Y hF;rintro⟨j,f,out,Q⟩ ⟨A,hf,M,c⟩;dsimp only at A hf M c ⊢;have hout:(out.map aM).length=out.length:=η _;obtain⟨f,rfl⟩:∃g,f=g+1:=⟨f-1,by omega⟩
 obtain⟨u,Q,rfl⟩:=A.e.ne;have hjl:=A.lt;rw[ε] at hf M hjl;have q:=aFz L hZ 1 (by decide) (u::Q) j A;rw[aRb] at q;rw[jK] at c;by_cases h2:u.kind=2
 case neg=>
  rw[ξ h2] at c q;rw[c];unfold aM at q;refine aF (sk 2 rfl (kc q ?_));exact kz 8 rfl (aA (sg rfl (aB rfl (fun _=>sg rfl (aE aHz)) (fun hb=>absurd hb (by decide)))))
 rw[θ h2] at c q;rw[θ rfl] at c;have hok:=gN (3*Q.length) 1 Q;obtain⟨hA1,_⟩:=A.next (by omega)
 generalize cX (3*Q.length) 1 Q=w at hok c q;cases w with
 | error e=>
  dsimp only at c q;rw[c];unfold aM at q;refine aF (sk 2 rfl (kc q ?_));exact kz 8 rfl (aA (sg rfl (aB rfl (fun _=>sg rfl (aE aHz)) (fun hb=>absurd hb (by decide)))))
 | ok y=>
 obtain⟨x,R1⟩:=y;obtain⟨hT,_⟩:=hok x R1 rfl;obtain⟨r,hle⟩:=hA1.ok hT;have hlen:=hT.len;obtain⟨v,R2,rfl⟩:=r.e.ne;dsimp only at c q;rw[Bz] at c;have hvj:=r.get;have hvj':=aY aG hvj;have hv2:=r.lt;rw[ε] at hlen hv2;have hcm:=vH v nV (hZ v r.mem);have hrp:=vH v nE (hZ v r.mem);unfold aM at q;have B:out.map aM++[[.str u.text,.int .i64 x.form,.int .i64 x.n,.str x.name,.sl 4 (cK x)]]=(out++[(⟨u.text,x⟩:Prd)]).map aM:=by rw[Ai];rfl
 generalize hO:out++[(⟨u.text,x⟩:Prd)]=O at c B;have U:O.length=out.length+1:=by rw[←hO,ζ];rfl
 generalize L.length-(v::R2).length=k at *;refine aF (sk 2 rfl (kc q ?_));refine kz 8 rfl (aA (sg rfl (aB rfl (fun hb=>absurd hb (by decide)) (fun _=>aD (sgh [(1,.all),(3,.all)] rfl (AWp.sub (st2:=mk [(0,nB L),(1,I .i64 (j:Nat)),(7,.one (.hs 500 0 O.length O.length)),(9,I .i64 (k:Nat))] [(500,.arr 113 5 (O.map aM) 0)]) (sl (he:=⟨rfl,rfl,Go.AM.hs_ren (by rw[U,←hout];rfl) (by rw[U,←hout];rfl),rfl,trivial⟩) (hh:=⟨⟨_,rfl,.arrS B⟩,trivial⟩)) ?_))))));refine aA (aF (skh 4 [(2,.row k (aG v))] rfl (kc hrp ?_)));refine kz 1 rfl ?_;have aa:isT v nE=true→isT v nV=false:=fun h=>by
  have h1:=(bU h).2
  unfold isT;rw[h1];cases decide (v.kind=4)<;>rfl
 cases J:isT v nE with
 | true=>
  rw[ξ (by rw[aa J];decide)] at c;rw[c,aPh,θ J];obtain⟨_,hn⟩:=r.next (by rw[(bU J).1];decide)
  rw[hn];refine aB rfl (fun _=>aA (agN [] rfl (AWp.sub (Sub.freeze (id:=500) rfl) ?_))) (fun hb=>absurd hb (by decide));exact aE aHz
 | false=>
  refine aB rfl (fun hb=>absurd hb (by decide)) (fun _=>skh 4 [(2,.row k (aG v))] rfl (kc hcm ?_));refine kz 2 rfl ?_;cases hc:isT v nV with
  | false=>
   rw[hc,ξ (by decide)] at c;rw[c,aPh,ξ (by rw[J];decide)];exact aB rfl (fun _=>sg rfl (aE aHz)) (fun hb=>absurd hb (by decide))
  | true=>
   rw[θ hc] at c;obtain⟨hA3,_⟩:=r.next (by rw[(bU hc).1];decide)
   exact aB rfl (fun hb=>absurd hb (by decide)) (fun _=>aD (agN [] rfl ⟨(k+1,f,O,R2),⟨hA3,by dsimp only;omega,by dsimp only;omega,c⟩,by dsimp only;omega,sl⟩))
def aN4 (L:List Tk):PR→V
 | .ok (ps,R)=>.tup [.one (.c (.sl 5 (ps.map aM))),I .i64 ((L.length-R.length:Nat):Int),atV 0 0]
 | .error (e,p)=>.tup [.one (.c .nl),I .i64 0,atV e p]
theorem nI (L:List Tk) (ps:List Prd) (R:List Tk):aN4 L (.ok (ps,R))=.tup [.one (.c (.sl 5 (ps.map aM))),I .i64 ((L.length-R.length:Nat):Int),atV 0 0]:=rfl
theorem sT (L:List Tk) (hZ:o5 L) (R:List Tk) (i:Nat) (A:At L i R):b8 Tryz.prog 183 [nB L,I .i64 (i:Nat)] [] (aN4 L (dA R)) []:=by
 have hkl:(L.map aG).length=L.length:=η _;have hLl:=A.l;have hlt:=A.lt;have aa:L.length-R.length=i:=by omega
 have q:=aFz L hZ 0 (by decide) R i A;obtain⟨t,R,rfl⟩:=A.e.ne;have hti:=A.get;have hti':=aY aG hti;have U:=vH t c8 (hZ t A.mem);have j:∃W,W=dA (t::R):=⟨_,rfl⟩
 obtain⟨W,j⟩:=j;rw[←j];rw[aRb] at q;rw[dA] at j;have r:∀st,Sub (keys ([]:List (Nat×AObj))) (mk [(0,nB L),(1,I .i64 (i:Nat)),(6,.one (.vp 6 0)),(9,B false)] [(6,.var 32 [.c (.int .i64 0),.c (.int .i64 0)])]) st→W=.ok ([],t::R)→
   AWp none Tryz.prog 59 (keys ([]:List (Nat×AObj))) (hJ (hJ (hJ (hJ (Tryz.f183.body.getD .skip))))) st (fun ex st=>(ex=.normal∨ex=.ret)∧Fin tr.flat Tryz.f183 st [] (aN4 L W) []):=fun st hs hw=>by
  refine AWp.sub hs ?_;rw[hw,nI,aa];exact aA (aF (sgh [(2,.bv true),(9,.bv true)] rfl (aB rfl (fun _=>sg rfl (aE aH0)) (fun hb=>absurd hb (by decide)))))
 have Y:∀(O:List Prd) (m:Nat) (Q:List Tk) (st:St),Sub (keys ([]:List (Nat×AObj))) (mk [(0,nB L),(1,I .i64 (i:Nat)),(6,.one (.vp 6 0)),(8,I .i64 (m:Nat)),(9,B true),(10,.one (.c (.sl 5 (O.map aM))))] [(6,.var 32 [.c (.int .i64 0),.c (.int .i64 0)])]) st→At L m Q→W=aC5 t.pl (t::R) O Q→
   AWp none Tryz.prog 59 (keys ([]:List (Nat×AObj))) (hJ (hJ (hJ (hJ (Tryz.f183.body.getD .skip))))) st (fun ex st=>(ex=.normal∨ex=.ret)∧Fin tr.flat Tryz.f183 st [] (aN4 L W) []):=fun O m Q st hs E hw=>by
  refine AWp.sub hs ?_;obtain⟨y,Q,rfl⟩:=E.e.ne;have hyj:=E.get;have hyj':=aY aG hyj;have hda:=vH y darrow (hZ y E.mem);have hB:=mQ t 2;have hml:=E.lt;have ab:(O.map aM).length=O.length:=η _;rw[aC5] at hw;refine aA (aF (skh 7 [(2,.bv false),(5,.row m (aG y))] rfl (kcG hda ?_)));refine ak 3 [(2,.bv false),(9,.bv false)] rfl (az ?_);cases hd:isT y darrow with
  | false=>
   rw[hd,ξ (by decide)] at hw;rw[hw,nI,aa];exact aB rfl (fun _=>sg rfl (aE aH0)) (fun hb=>absurd hb (by decide))
  | true=>
   rw[hd,θ rfl] at hw;obtain⟨_,hn⟩:=E.next (by rw[(bU hd).1];decide)
   refine aB rfl (fun hb=>absurd hb (by decide)) (fun _=>sg rfl (aB rfl (fun hb=>?_) (fun hb=>?_)))
   ·rw[θ (by have:=χ hb;rw[ab] at this;omega)] at hw;rw[hw];refine skh 4 [(2,.row i (aG t))] rfl (kc hB ?_);exact kz 3 rfl (aE aH0)
   ·rw[ξ (by have:=Ad hb;rw[ab] at this;omega)] at hw;rw[hw,nI,hn];exact aD (aA (agN [] rfl (aE aH0)))
 refine bM (n:=59) tok Tryz.func183 rfl rfl rfl ?_;refine sg rfl ?_;cases hb:isT t c8 with
 | true=>
  have h4:=bU hb;rw[ξ (by omega)] at q;unfold aM at q;rw[hb,θ rfl] at j;obtain⟨J,_⟩:=A.next (by omega)
  have hls:=aMs L hZ R (i+1) J ((t::R).length+1) (by rw[ε];omega);have hok:=fun out R' h=>rY ((t::R).length+1) true R [] out R' (wt R) R.length (le_refl _) (fun p hp=>by cases hp) (by rw[length_nil];omega) h
  refine sk 2 rfl (kc q ?_);refine kz 8 rfl (sgh [(1,.all)] rfl (aA (skh 4 [(2,.row i (aG t))] rfl (kc U ?_))));refine az ?_;rw[hb];refine aB rfl (fun _=>aC mixed (akN 3 [] rfl (kc hls ?_))) (fun hb=>absurd hb (by decide));generalize jK ((t::R).length+1) true R []=w at hok j ⊢;cases w with
  | none=>
   rw[lK] at j;rw[aPh]
   ·exact kz 7 rfl (r _ sl j)
   ·intro a b c h;cases h
  | some y=>
   obtain⟨out,R2⟩:=y;obtain⟨g1,⟨p,g2,_⟩,_,_⟩:=hok out R2 rfl;obtain⟨M,hn2⟩:=J.to g2 (g1 J.e);rw[lK] at j;obtain⟨u,R2,rfl⟩:=M.e.ne;rw[brP,θ rfl] at j;rw[aPh];by_cases hr:isT u nE=true
   ·rw[θ hr] at j ⊢;obtain⟨hA3,hn3⟩:=M.next (by rw[(bU hr).1];decide)
    rw[hn3];exact kz 7 rfl (Y out _ R2 _ sl hA3 j)
   ·rw[ξ hr] at j ⊢;exact kz 7 rfl (r _ sl j)
 | false=>
  rw[hb,ξ (by decide)] at j;rw[jK] at j;by_cases h2:t.kind=2
  case neg=>
   rw[ξ h2] at j q;unfold aM at q;rw[lK] at j;refine sk 2 rfl (kc q ?_);refine kz 8 rfl (sgh [(1,.all)] rfl (aA (skh 4 [(2,.row i (aG t))] rfl (kc U ?_))));refine az ?_;rw[hb];exact aB rfl (fun hb=>absurd hb (by decide)) (fun _=>aD (r _ sl j))
  rw[θ h2] at j q;rw[ξ (by decide)] at j;obtain⟨J,_⟩:=A.next (by omega)
  have hok:=gN (3*R.length) 0 R;generalize cX (3*R.length) 0 R=w at hok j q;cases w with
  | error e=>
   dsimp only at j q;unfold aM at q;rw[lK] at j;refine sk 2 rfl (kc q ?_);refine kz 8 rfl (sgh [(1,.all)] rfl (aA (skh 4 [(2,.row i (aG t))] rfl (kc U ?_))));refine az ?_;rw[hb];exact aB rfl (fun hb=>absurd hb (by decide)) (fun _=>aD (r _ sl j))
  | ok y=>
   obtain⟨x,R1⟩:=y;obtain⟨hT,_⟩:=hok x R1 rfl;obtain⟨M,hle⟩:=J.ok hT;obtain⟨u,R2,rfl⟩:=M.e.ne;dsimp only at j q;unfold aM at q;rw[Bw,ξ (by decide),lK,brP,ξ (by decide),Br] at j;refine sk 2 rfl (kc q ?_);refine kz 8 rfl (sgh [(1,.all)] rfl (aA (skh 4 [(2,.row i (aG t))] rfl (kc U ?_))));refine az ?_;rw[hb];exact aB rfl (fun hb=>absurd hb (by decide)) (fun _=>aD (Y [⟨t.text,x⟩] _ (u::R2) _ sl M j))
theorem aAe (L:List Tk) (hZ:o5 L) (R:List Tk) (i:Nat) (c:At L i R):b8 Tryz.prog 220 [nB L,I .i64 (i:Nat)] [] (tpV L (cD (3*R.length+2) 0 R)) []:=by
 have h:=(aDa L hZ (3*R.length+2)).2 (3*R.length+2) (le_refl _) 0 R i c (le_refl _) (by decide);refine bM (n:=13) tok Tryz.func220 rfl rfl rfl ?_;refine sg rfl (sk 2 rfl (kc h ?_));generalize cD (3*R.length+2) 0 R=w;cases w with
 | error e=>
  obtain⟨e,p⟩:=e;unfold tpV atV;exact kz 6 rfl (aE iM)
 | ok y=>
  obtain⟨x,R1⟩:=y;unfold tpV atV;exact kz 6 rfl (aE iM)
theorem aJn (L:List Tk) (hZ:o5 L) (R:List Tk) (i:Nat) (c:At L i R):b8 Tryz.prog 182 [nB L,I .i64 (i:Nat)] [] (tpV L (cX (3*R.length) 0 R)) []:=by
 have h:=(aDa L hZ (3*R.length)).1 (3*R.length) (le_refl _) 0 R i c (le_refl _) (by decide);refine bM (n:=13) tok Tryz.func182 rfl rfl rfl ?_;refine sg rfl (sk 2 rfl (kc h ?_));generalize cX (3*R.length) 0 R=w;cases w with
 | error e=>
  obtain⟨e,p⟩:=e;unfold tpV atV;exact kz 6 rfl (aE iM)
 | ok y=>
  obtain⟨x,R1⟩:=y;unfold tpV atV;exact kz 6 rfl (aE iM)
theorem mR (l:List (List C)) (h:l.length≤1000000):b8 Tryz.prog 221 [.one (.c (.sl 5 l))] [] (.one (.hs 720 0 l.length l.length)) [(720,.arr 113 5 l 0)]:=by
 refine bM (n:=8) tok Tryz.func221 rfl rfl rfl ?_;refine sg rfl (aQ1 0 rfl (fun hl=>?_) ?_)
 ·subst hl;refine aA (sg rfl (aB rfl (fun _=>sg rfl (AWp.sub (Sub.own (t:=2) (id:=720) 113 5 rfl rfl) ?_)) nofun));exact aE rtT
 ·refine aA (sg rfl (aB rfl nofun (fun _=>aD (sgh [(0,.id 720)] rfl (AWp.sub (st2:=mk [(2,.one (.hs 720 0 l.length l.length))] [(720,.arr 113 5 l 0)]) sl ?_)))));exact aE rtT
def eH (s:Sch):List C:=[.sl 1 (s.vars.map bE),.sl 1 [],.sl 5 (s.preds.map aM),.int .i64 s.ty.form,.int .i64 s.ty.n,.str s.ty.name,.sl 4 (cK s.ty)]
def nQ:Sch:=⟨[],[],zTy⟩
def spV (L:List Tk):SR→V
 | .ok (s,R)=>.tup [.pa (eH s),I .i64 ((L.length-R.length:Nat):Int),atV 0 0]
 | .error (e,p)=>.tup [.pa (eH nQ),I .i64 0,atV e p]
theorem aKf (L:List Tk) (s:Sch) (R:List Tk):spV L (.ok (s,R))=.tup [.pa (eH s),I .i64 ((L.length-R.length:Nat):Int),atV 0 0]:=rfl
def aHi:List AM.R:=[.c .nl,.c .nl,.c .nl,.c (.int .i64 0),.c (.int .i64 0),.c (.str []),.c .nl]
theorem aGc (L:List Tk) (hZ:o5 L) (R:List Tk) (i:Nat) (U:At L i R) (hwt:wt L≤30000):b8 Tryz.prog 185 [nB L,I .i64 (i:Nat)] [] (spV L (cW R)) []:=by
 have hp:=sT L hZ R i U;have ac:= @kG R;have ad:= @fV R;unfold cW;refine bM (n:=74) tok Tryz.func185 rfl rfl rfl ?_;refine sg rfl (sk 2 rfl (kc hp ?_));generalize dA R=w at ac ad ⊢;cases w with
 | error e=>
  obtain⟨e,p⟩:=e;have he:=ad rfl;rw[pF];unfold aN4 atV;exact kz 8 rfl (aA (sg rfl (aB rfl (fun _=>sg rfl (aE iM)) (fun hb=>absurd hb (by simp[he])))))
 | ok y=>
 obtain⟨ps,R1⟩:=y;obtain⟨k1,⟨q,k2,_⟩,k3,k4⟩:=ac rfl;obtain⟨ae,hn1⟩:=U.to k2 (k1 U.e);rw[nI,pF,hn1];generalize i+q.length=j at ae;have hty:=aAe L hZ R1 j ae;have af:=eS (3*R1.length+2) 0 R1;have ah:=dJ (3*R1.length+2) 0 R1;have Y:wt R≤30000:=by
  have:L=L.take i++R:=by rw[←U.d,take_append_drop]
  rw[this] at hwt;exact le_trans lX hwt
 have hwtR1:wt R1≤30000:=by rw[k2] at Y;exact le_trans lX Y
 have hRl:=U.lt;have hLl:=U.l;unfold atV;refine kz 8 rfl (aA (sg rfl (aB rfl (fun hb=>absurd hb (by decide)) (fun _=>aD (sk 2 rfl (kc hty ?_))))));generalize cD (3*R1.length+2) 0 R1=w at af ah ⊢;cases w with
 | error e=>
  obtain⟨e,p⟩:=e;have he:=ah e p rfl;rw[pE];unfold tpV atV;exact kz 8 rfl (aA (sg rfl (aB rfl (fun _=>sg rfl (aE iM)) (fun hb=>absurd hb (by simp[he])))))
 | ok y=>
 obtain⟨x,R2⟩:=y;obtain⟨hT,hTn⟩:=af x R2 rfl;rw[iZ,pE,aKf];unfold atV;dsimp only;generalize ((L.length-R2.length:Nat):Int)=m;refine kz 8 rfl (aA (sg rfl (aB rfl (fun hb=>absurd hb (by decide)) (fun _=>aD (sg rfl ?_)))));have hsv:aN0 ps x=gP [] (ps++[(⟨[],x⟩:Prd)]):=by rw[xC];rfl
 rw[hsv];have E:∀p∈ps++[(⟨[],x⟩:Prd)],WF p.ty∧tn p.ty≤30000:=fun p hp=>by
  rcases Bi.1 hp with hp | hp
  ·exact⟨(k3 p hp).1,by have:=(k3 p hp).2;omega⟩
  ·rw[A4.1 hp];exact⟨hT.w,by show tn x≤30000;omega⟩
 have hcl:=mR (ps.map aM) (by rw[η];omega);have hkl:(ps.map aM).length=ps.length:=η _;have O:ps.map aM++[[.str [],.int .i64 x.form,.int .i64 x.n,.str x.name,.sl 4 (cK x)]]=(ps++[(⟨[],x⟩:Prd)]).map aM:=by rw[Ai];rfl
 have ai:(ps++[(⟨[],x⟩:Prd)]).length=ps.length+1:=by rw[ζ];rfl
 generalize ps++[(⟨[],x⟩:Prd)]=u at E O ai ⊢;have hqe:(u.map aM).length=u.length:=η _;refine aA (sk 1 rfl (kc hcl ?_));refine ak 6 [(4,.all),(5,.fz)] rfl (az (AWp.sub (Sub.own (t:=10) (id:=710) 9 1 rfl rfl) ?_));have B:∀r:List C,(ps.map aM).length+[r].length=u.length:=fun r=>by rw[hkl,ai];rfl
 refine aF (aK (fun k:Nat=>mk [(1,I .i64 m),(4,.one (.vp 4 0)),(6,.one (.vp 6 0)),(7,.one (.c (.sl 5 (ps.map aM)))),(9,.one (.vp 9 0)),(10,oV (gP [] (u.take k))),(44,.one (.hs 720 0 u.length u.length)),(45,I .i64 (u.length:Nat)),(46,I .i64 (k:Nat))] [(4,.var 59 aHi),(6,.var 32 [.c (.int .i64 0),.c (.int .i64 0)]),(9,.var 47 ((bL x).map .c)),(710,oO (gP [] (u.take k))),(720,.arr 113 5 (u.map aM) 2)]) (fun k=>k≤u.length) (fun k=>u.length-k) 0 (Ac _) (sl (he:=⟨rfl,rfl,rfl,rfl,rfl,rfl,Go.AM.hs_ren (B _) (B _),Go.AM.int_eq (congrArg Int.ofNat (B _)),rfl,trivial⟩) (hh:=⟨⟨_,rfl,.var rfl⟩,⟨_,rfl,.var rfl⟩,⟨_,rfl,.var rfl⟩,⟨_,rfl,Go.AM.Ole.arrE rfl⟩,⟨_,rfl,.arrS O⟩,trivial⟩)) ?_);intro k hk;have hgl:(gP [] (u.take k)).length≤4002*30000:=by
  have h1:=uO (W:=30000) (u.take k) [] (fun p hp=>(E p (Cq hp)).2);rw[Am,length_nil] at h1;have:min k u.length*30000≤4002*30000:=Ar _ (by omega);omega
 refine sg rfl (aA (aB rfl (fun hb=>?_) (fun hb=>?_)))
 ·have aj:k<u.length:=by have:=χ hb;omega
  obtain⟨p,hp⟩:=aN aj;have hp':=aY aM hp;have hpm:=E p (Ag hp);have al:=aAj p.ty (by have:=aPr p.ty;omega);have htf:=lY p.ty;have aa:=xB hp;generalize gP [] (u.take k)=o at hgl aa ⊢;generalize tfR p.ty=l at al htf aa ⊢;have am:(l.map bE).length=l.length:=η _;refine aD (aA (aF (sgh [(1,.row k (aM p))] rfl (sk 2 rfl (kc al ?_)))));refine kz 2 rfl (aF (aK (fun j:Nat=>mk [(1,I .i64 m),(4,.one (.vp 4 0)),(6,.one (.vp 6 0)),(7,.one (.c (.sl 5 (ps.map aM)))),(9,.one (.vp 9 0)),(10,oV (eA o (l.take j))),(44,.one (.hs 720 0 u.length u.length)),(45,I .i64 (u.length:Nat)),(46,I .i64 (k:Nat)),(52,cM l),(53,I .i64 ((l.map bE).length:Nat)),(54,I .i64 (j:Nat))] [(4,.var 59 aHi),(6,.var 32 [.c (.int .i64 0),.c (.int .i64 0)]),(9,.var 47 ((bL x).map .c)),(710,oO (eA o (l.take j))),(720,.arr 113 5 (u.map aM) 2)]) (fun j=>j≤l.length) (fun j=>l.length-j) 0 (Ac _) sl ?_));intro j hj;refine sg rfl (aA (aB rfl (fun hb=>?_) (fun hb=>?_)))
  ·have J:=ltD hb am;obtain⟨s,hs⟩:=aN J;have hs':=aY bE hs;have A:eA o (l.take (j+1))=n5 (eA o (l.take j)) s:=by rw[A7,hs,oK];rfl
   have hml:(eA o (l.take j)).length≤1000000000:=by
    have:=iR (l.take j) o;rw[Am] at this;omega
   have an:=nN (eA o (l.take j)) s (by omega);generalize eA o (l.take j)=M at A hml an ⊢;have hml':(M.map bE).length=M.length:=η _;refine aD (AWp.sub (Sub.freeze (id:=710) rfl) ?_);refine aA (aF (sgh [(0,.row j (bE s))] rfl (sk 2 rfl (kc an ?_))));refine kz 1 rfl (aB rfl (fun hb=>?_) (fun hb=>?_))
   ·have hm:¬s∈M:=fun h=>by rw[φ h] at hb;cases hb
    unfold n5 at A;rw[ξ hm] at A;refine ag [(2,.all)] rfl (ag [] rfl ⟨j+1,J,by dsimp only;omega,?_⟩);dsimp only;rw[A];exact sl
   ·have hm:s∈M:=by
     by_cases h:s∈M
     ·exact h
     ·rw[ψ h] at hb;cases hb
    unfold n5 at A;rw[θ hm] at A;refine aD (ag [] rfl ⟨j+1,J,by dsimp only;omega,?_⟩);dsimp only;rw[A];exact sl
  ·have ab:=geD hb am hj;subst ab;rw[Aq];refine aH (ag [] rfl ⟨k+1,aj,by dsimp only;omega,?_⟩);dsimp only;rw[aa];exact sl
 ·have ab:k=u.length:=by have:=Ad hb;omega
  subst ab;rw[Aq];refine aH (AWp.sub (Sub.freeze (id:=710) rfl) ?_);exact sg rfl (aE iM)
end Go.Proofs.YtpmheldmadendaaGreatDoor
namespace Go.AM
open Go
section
variable {QP:Value→Prop}{P:Program}{n:Nat}{ops:Array Oper}{draw:Bool}{k:Nat}{st:St}{pre:REs}{Q:St→Prop}{o:Oper}{f:FuncId}{xs:Array Operand}{ts:Array TypeId}{ids:List Nat}{args:List V}{hin:List (Nat×AObj)}{v:Value}
theorem kp (r:aA8 P f args hin v) (hq:QP v:=by first | exact fun _ _=>⟨rfl,rfl⟩ | assumption)
  (hb:gL P f:=by exact aGe (by kernel_rfl)) (ho:ops[k]?=some o:=by rfl) (u:o.guard=none:=by rfl) (q:o.op=.call { callee:=.value (.func f),args:=xs,argTypes:=ts }:=by rfl)
  (ha:ArgsV st ids xs.toList args:=by repeat (first | exact .nil | (apply Go.AM.ArgsV.cons rfl;(first | exact .refl | exact .one (.c .nl .nil) | exact .one (.c .sn .nil) | exact .one (.hs rfl (by first | rfl | simp) (by first | rfl | (simp;done) | (simp[Go.AM.take_map];done) | exact Go.AM.take_map.symm) .nil) | exact Go.AM.hs_all rfl rfl (by first | rfl | assumption | (simp;done) | (simp;omega)) (by first | rfl | assumption | (simp;done)) | ((first | apply Go.AM.Conv.pa | apply Go.AM.Conv.agg);repeat (first | exact .nil | apply Go.AM.PureL.c .refl | apply Go.AM.PureL.c .nl | apply Go.AM.PureL.c .sn | (apply Go.AM.PureL.hs;rfl;(first | rfl | simp);(first | rfl | (simp;done) | (simp[Go.AM.take_map];done) | exact Go.AM.take_map.symm))))))))
  (j:fH (fun p=>st.h p.1=some p.2) hin:=by repeat (first | exact trivial | refine⟨rfl,?_⟩)) (hok:eI args hin=true:=by rfl) (y:draw=false:=by rfl) (hl:Nat.blt k ops.size=true:=by rfl):hY QP P n ops draw k st pre Q:=
 aPm (mY.plain ho u (aD9 hin hb q r ha j hok)) hq y hl
theorem kpD {d:Nat}(res:V) (hout:List (Nat×AObj)) (r:aA8 P f args hin v) (u:hY (fun _=>False) P n ops draw (k+1) ⟨upd st.e d (some res),gO st.h (outs hout),st.d⟩ ((⟨bT xs.toList,ids++keys hin⟩,⟨some (d,some res),outs hout⟩)::pre) fun _=>True) (hq:QP v:=by first | exact fun _ _=>⟨rfl,rfl⟩ | assumption)
  (hb:gL P f:=by exact aGe (by kernel_rfl)) (ho:ops[k]?=some o:=by rfl) (y:o.guard=none:=by rfl) (q:o.op=.call { callee:=.value (.func f),args:=xs,argTypes:=ts }:=by rfl) (A:o.dst=some d:=by rfl)
  (ha:ArgsV st ids xs.toList args:=by repeat (first | exact .nil | (apply Go.AM.ArgsV.cons rfl;(first | exact .refl | exact .one (.c .nl .nil) | exact .one (.c .sn .nil) | exact .one (.hs rfl (by first | rfl | simp) (by first | rfl | (simp;done) | (simp[Go.AM.take_map];done) | exact Go.AM.take_map.symm) .nil) | exact Go.AM.hs_all rfl rfl (by first | rfl | assumption | (simp;done) | (simp;omega)) (by first | rfl | assumption | (simp;done)) | ((first | apply Go.AM.Conv.pa | apply Go.AM.Conv.agg);repeat (first | exact .nil | apply Go.AM.PureL.c .refl | apply Go.AM.PureL.c .nl | apply Go.AM.PureL.c .sn | (apply Go.AM.PureL.hs;rfl;(first | rfl | simp);(first | rfl | (simp;done) | (simp[Go.AM.take_map];done) | exact Go.AM.take_map.symm))))))))
  (j:fH (fun p=>st.h p.1=some p.2) hin:=by repeat (first | exact trivial | refine⟨rfl,?_⟩)) (hok:eI args hin=true:=by rfl):hY QP P n ops draw k st pre Q:=
 aPl ⟨some (d,some res),outs hout⟩ (mY.plain ho y (aD9 hin hb q r ha j hok)) hq u
theorem kpv {x:Operand}{caps:List R}(r:aA8 P f (args++caps.map V.one) hin v) (hq:QP v:=by first | exact fun _ _=>⟨rfl,rfl⟩ | assumption)
  (hb:gL P f:=by exact aGe (by kernel_rfl)) (ho:ops[k]?=some o:=by rfl) (u:o.guard=none:=by rfl) (q:o.op=.call { callee:=.value x,args:=xs,argTypes:=ts }:=by rfl) (hx:opv st x=some (.one (.clo f caps)):=by rfl)
  (ha:ArgsV st ids xs.toList args:=by repeat (first | exact .nil | (apply Go.AM.ArgsV.cons rfl;(first | exact .refl | exact .one (.c .nl .nil) | exact .one (.c .sn .nil) | exact .one (.hs rfl (by first | rfl | simp) (by first | rfl | (simp;done) | (simp[Go.AM.take_map];done) | exact Go.AM.take_map.symm) .nil) | exact Go.AM.hs_all rfl rfl (by first | rfl | assumption | (simp;done) | (simp;omega)) (by first | rfl | assumption | (simp;done)) | ((first | apply Go.AM.Conv.pa | apply Go.AM.Conv.agg);repeat (first | exact .nil | apply Go.AM.PureL.c .refl | apply Go.AM.PureL.c .nl | apply Go.AM.PureL.c .sn | (apply Go.AM.PureL.hs;rfl;(first | rfl | simp);(first | rfl | (simp;done) | (simp[Go.AM.take_map];done) | exact Go.AM.take_map.symm))))))))
  (j:fH (fun p=>st.h p.1=some p.2) hin:=by repeat (first | exact trivial | refine⟨rfl,?_⟩)) (hok:eI (args++caps.map V.one) hin=true:=by rfl) (y:draw=false:=by rfl) (hl:Nat.blt k ops.size=true:=by rfl):hY QP P n ops draw k st pre Q:=
 aPm (mY.plain ho u (aIc hin hb q hx r ha j hok)) hq y hl
end
def bB (P:Program) (f:FuncId) (args:List V) (hin:List (Nat×AObj)):Except Value (V×List (Nat×AObj))→Prop
 | .ok (res,hout)=>b8 P f args hin res hout
 | .error v=>aA8 P f args hin v
def aTl (T:TT) (fn:Func) (hin:List (Nat×AObj)):Except Value (V×List (Nat×AObj))→Exit→St→Prop
 | .ok (res,hout),ex,st=>(ex=.normal∨ex=.ret)∧Fin T fn st hin res hout
 | .error v,ex,st=>ex=pan v∧st.d=[]
theorem mG {P:Program}{T:TT}{f:FuncId}{fn:Func}{c:Code}{n:Nat}{args:List V}{hin:List (Nat×AObj)}{o:Except Value (V×List (Nat×AObj))}(q:Tok P T) (j:P.funcs[f]?=some fn) (hb:fn.body=some c) (hn:fn.ntmps=n) (hle:Nat.ble args.length n=true) (hok:(hin.all fun p=>lI p.2)=true)
  (h:AWp none P n (keys hin) c (mk (wG 0 args) hin) (aTl T fn hin o)):bB P f args hin o:=by
 cases o with
 | ok x=>obtain⟨res,hout⟩:=x;exact bM q j hb hn hle h
 | error v=>exact aMe j hb hn hle hok h
end Go.AM
namespace Go.Proofs.YtpmheldmadendaaGreatDoor
open Go Go.AM
set_option maxRecDepth 20000
set_option maxHeartbeats 4000000
inductive PT:Ty→Prop where
 | leaf (f:Int) (s:Str) (h:f=0∨f=2∨f=3):PT (.mk f 0 s [])
 | app {a b:Ty} (ha:PT a) (hb:PT b):PT (kZ a b)
def fnP:Ty→Option (Ty×Ty)
 | .mk f _ _ [.mk g _ _ [.mk h _ s _,a],b]=>if f=4∧g=4∧h=3∧s=arrow then some (a,b) else none
 | _=>none
def brk (b:Bool) (s:Str):Str:=if b=true then [40]++s++[41] else s
def arrS:Str:=[32,45,62,32]
def pN:Nat→Int→Ty→Str
 | 0,_,_=>[]
 | k+1,how,t=>match fnP t with
  | some (a,b)=>brk (!decide (how=0)) (pN k 1 a++arrS++pN k 0 b)
  | none=>if t.form=3∧t.name=arrow then brk true t.name
   else match t with
    | .mk f _ s [a,b]=>if f=4 then brk (decide (how=3)) (pN k 2 a++[32]++pN k 3 b) else s
    | .mk _ _ s _=>s
mutual
def tyW:Ty→Nat
 | .mk _ _ s a=>s.length+8+aLi a
def aLi:List Ty→Nat
 | []=>0
 | t::l=>tyW t+aLi l
end
theorem nA (a b:Ty):tyW (kZ a b)=8+(tyW a+tyW b):=by unfold kZ;rw[tyW,aLi,aLi,aLi];simp
theorem dR (b:Bool) (s:Str):(brk b s).length≤s.length+2:=by
 unfold brk;split
 ·rw[ζ,ζ,ε,ε,length_nil];omega
 ·omega
theorem PT.cases {t:Ty}(h:PT t):(∃a b,t=aCz a b∧PT a∧PT b)∨(fnP t=none∧((∃f s,t=.mk f 0 s []∧(f=0∨f=2∨f=3))∨∃a b,t=kZ a b∧PT a∧PT b)):=by
 cases h with
 | leaf f s j=>exact .inr ⟨rfl,.inl ⟨f,s,rfl,j⟩⟩
 | @app a b ha hb=>
  cases ha with
  | leaf g s c=>exact .inr ⟨rfl,.inr ⟨_,_,rfl,.leaf g s c,hb⟩⟩
  | @app x y hx hy=>
   cases hx with
   | leaf g s c=>
    by_cases hc:g=3∧s=arrow
    ·obtain⟨rfl,rfl⟩:=hc;exact .inl ⟨y,b,rfl,hy,hb⟩
    ·refine .inr ⟨?_,.inr ⟨_,_,rfl,.app (.leaf g s c) hy,hb⟩⟩;show(if(4:Int)=4∧(4:Int)=4∧g=3∧s=arrow then some (y,b) else none)=none;rw[ξ (fun k=>hc ⟨k.2.2.1,k.2.2.2⟩)]
   | app hu q=>exact .inr ⟨rfl,.inr ⟨_,_,rfl,.app (.app hu q) hy,hb⟩⟩
theorem aEe (k:Nat) (c:Int) (a b:Ty):pN (k+1) c (aCz a b)=brk (!decide (c=0)) (pN k 1 a++arrS++pN k 0 b):=rfl
theorem yP (k:Nat) (c f:Int) (s:Str) (j:f=0∨f=2∨f=3):pN (k+1) c (.mk f 0 s [])=brk (decide (f=3)&&decide (s=arrow)) s:=by
 show(if f=3∧s=arrow then brk true s else s)=_;by_cases hc:f=3∧s=arrow
 ·rw[θ hc,φ hc.1,φ hc.2];rfl
 ·rw[ξ hc];have:(decide (f=3)&&decide (s=arrow))=false:=by
   rw[←B9,τ];exact fun k=>hc ⟨χ k.1,χ k.2⟩
  rw[this];rcases j with rfl | rfl | rfl<;>rfl
theorem aEf (k:Nat) (c:Int) {a b:Ty}(h:fnP (kZ a b)=none):pN (k+1) c (kZ a b)=brk (decide (c=3)) (pN k 2 a++[32]++pN k 3 b):=by
 rw[pN.eq_def];dsimp only;rw[h];rfl
theorem iO:∀(k:Nat) (c:Int) (t:Ty),PT t→(pN k c t).length≤tyW t
 | 0,_,_,_=>Ac _
 | k+1,c,t,h=>by
  rcases h.cases with⟨a,b,rfl,ha,hb⟩ | ⟨hn,⟨f,s,rfl,j⟩ | ⟨a,b,rfl,ha,hb⟩⟩
  ·rw[aEe];have h1:=dR (!decide (c=0)) (pN k 1 a++arrS++pN k 0 b);have h2:=iO k 1 a ha;have q:=iO k 0 b hb;unfold aCz;rw[nA,nA];rw[ζ,ζ,show arrS.length=4 from rfl] at h1;omega
  ·rw[yP k c f s j,tyW,aLi];have:=dR (decide (f=3)&&decide (s=arrow)) s;omega
  ·rw[aEf k c hn,nA];have h1:=dR (decide (c=3)) (pN k 2 a++[32]++pN k 3 b);have h2:=iO k 2 a ha;have q:=iO k 3 b hb;rw[ζ,ζ,ε,length_nil] at h1;omega
theorem aFs (a b:Ty):b8 Tryz.prog 210 [tyV (aCz a b)] [] (.tup [tyV a,tyV b,B true]) []:=by
 refine bM (n:=47) tok Tryz.func210 rfl rfl rfl ?_;exact sg rfl (aA (sgh [(3,.bv false),(6,.row 0 (bL (kZ (.mk 3 0 arrow []) a))),(10,.bv false)] rfl (aB rfl nofun (fun _=>aD (sgh [(2,.row 0 (bL (kZ (.mk 3 0 arrow []) a))),(5,.row 0 (bL (.mk 3 0 arrow [])))] rfl (aA (sgh [(3,.bv false),(7,.bv false)] rfl (aB rfl (fun hb=>absurd hb (by decide)) (fun _=>aD (sgh [(2,.row 0 (bL (kZ (.mk 3 0 arrow []) a))),(5,.row 1 (bL a)),(9,.row 1 (bL b))] rfl (aE ⟨.inr rfl,⟨_,_,.cell rfl (tg rfl) rfl rfl rfl (.cell rfl (tg rfl) rfl rfl rfl (.tmp rfl .nil)),.cons .refl (.cons .refl (.cons .refl .nil)),rfl⟩,trivial,rfl⟩)))))))))))
theorem zcv {h:bZ}:Conv h [] (.pa [.int .i64 0,.int .i64 0,.str [],.nl]) (tyV zTy):=by
 apply Go.AM.Conv.pa
 repeat (first | exact .nil | apply Go.AM.PureL.c .refl | apply Go.AM.PureL.c .nl)
theorem aFr {t:Ty}(h:PT t) (hn:fnP t=none):b8 Tryz.prog 210 [tyV t] [] (.tup [tyV zTy,tyV zTy,B false]) []:=by
 refine bM (n:=47) tok Tryz.func210 rfl rfl rfl ?_;refine sg rfl ?_;cases h with
 | leaf f s r=>
  have d:(!decide (f=4))=true:=by rw[ψ (by omega)];rfl
  exact aA (sgh [(3,.bv true),(10,.bv true)] rfl (aB rfl (fun _=>sg rfl (aE ⟨.inr rfl,⟨_,_,.cell rfl (tg rfl) rfl rfl rfl (.cell rfl (tg rfl) rfl rfl rfl (.tmp rfl .nil)),.cons zcv (.cons zcv (.cons .refl .nil)),rfl⟩,trivial,rfl⟩)) (fun hb=>Bool.noConfusion hb)))
 | @app a b ha hb=>
  cases ha with
  | leaf g s j=>
   have d:(!decide (g=4))=true:=by rw[ψ (by omega)];rfl
   exact aA (sgh [(3,.bv false),(6,.row 0 (bL (.mk g 0 s []))),(10,.bv false)] rfl (aB rfl (fun _=>sg rfl (aE ⟨.inr rfl,⟨_,_,.cell rfl (tg rfl) rfl rfl rfl (.cell rfl (tg rfl) rfl rfl rfl (.tmp rfl .nil)),.cons zcv (.cons zcv (.cons .refl .nil)),rfl⟩,trivial,rfl⟩)) (fun hb=>Bool.noConfusion (hb.symm.trans d))))
  | @app x y hx hy=>
   refine aA (sgh [(3,.bv false),(6,.row 0 (bL (kZ x y))),(10,.bv false)] rfl (aB rfl nofun (fun _=>aD (sgh [(2,.row 0 (bL (kZ x y))),(5,.row 0 (bL x))] rfl ?_))));by_cases c:x.form=3
   ·have d3:(!decide (x.form=3))=false:=by rw[φ c];rfl
    have hs:¬x.name=arrow:=fun e=>by
     cases hx with
     | leaf g s j=>
      have:fnP (kZ (kZ (.mk g 0 s []) y) b)=some (y,b):=by
       show(if(4:Int)=4∧(4:Int)=4∧g=3∧s=arrow then some (y,b) else none)=_;rw[θ ⟨rfl,rfl,c,e⟩]
      rw[this] at hn;cases hn
     | app=>exact absurd (show(4:Int)=3 from c) (by decide)
    have q:(!decide (x.name=arrow))=true:=by rw[ψ hs];rfl
    exact aA (sgh [(3,.bv false),(7,.bv false)] rfl (aB rfl (fun _=>sg rfl (aE ⟨.inr rfl,⟨_,_,.cell rfl (tg rfl) rfl rfl rfl (.cell rfl (tg rfl) rfl rfl rfl (.tmp rfl .nil)),.cons zcv (.cons zcv (.cons .refl .nil)),rfl⟩,trivial,rfl⟩)) (fun hb=>Bool.noConfusion (hb.symm.trans q))))
   ·have d3:(!decide (x.form=3))=true:=by rw[ψ c];rfl
    exact aA (sgh [(3,.bv true),(7,.bv true)] rfl (aB rfl (fun _=>sg rfl (aE ⟨.inr rfl,⟨_,_,.cell rfl (tg rfl) rfl rfl rfl (.cell rfl (tg rfl) rfl rfl rfl (.tmp rfl .nil)),.cons zcv (.cons zcv (.cons .refl .nil)),rfl⟩,trivial,rfl⟩)) (fun hb=>Bool.noConfusion hb)))
theorem aCj {b:Bool}(h:b=false):b8 Tryz.prog 211 [B b] [] (I .i64 0) []:=by
 subst h;refine bM (n:=4) tok Tryz.func211 rfl rfl rfl ?_;exact sg rfl (aA (sg rfl (aB rfl nofun (fun _=>aD (sg rfl (aE rtT))))))
theorem PT.form {t:Ty}(h:PT t):t.form=0∨t.form=2∨t.form=3∨t.form=4:=by
 cases h with
 | leaf f s c=>rcases c with h | h | h<;>simp[Ty.form,h]
 | app=>exact .inr (.inr (.inr rfl))
def aRv:Code→Code | .seq _ b=>b | c=>c
theorem mO:∀(k:Nat) (c:Int) (t:Ty),PT t→tn t≤k→tyW t≤1000000000→b8 Tryz.prog 171 [tyV t,I .i64 c] [] (Go.AM.T (pN k c t)) []
 | 0,_,t,_,h,_=>by have:=oZ t;omega
 | k+1,c,t,A,q,r=>by
  have hM:3000000000≤maxLen:=by decide
  have j:∀(s:Str) (b:Bool),s.length≤2000000000→AWp none Tryz.prog 89 (keys ([]:List (Nat×AObj))) (aRv (aRv (aRv (Tryz.f171.body.getD .skip)))) (mk [(5,Go.AM.T s),(6,B b)] []) (fun ex st=>(ex=.normal∨ex=.ret)∧Fin tr.flat Tryz.f171 st [] (Go.AM.T (brk b s)) []):=fun s b hs=>by
   refine aA (sg rfl ?_);cases b with
   | true=>
    exact aB rfl (fun _=>sg rfl (aE rtT)) nofun
   | false=>
    exact aB rfl nofun (fun _=>aD (sg rfl (aE rtT)))
  refine bM (n:=89) tok Tryz.func171 rfl rfl rfl ?_;refine sg rfl (sg rfl ?_);rcases A.cases with⟨a,b,rfl,ha,hb⟩ | ⟨hn,E⟩
  ·have hp:=aFs a b;have J:=iO k 1 a ha;have M:=iO k 0 b hb;unfold aCz at q r;rw[nA,nA] at r;unfold kZ at q;rw[tn,tns,tns,tns,tn,tns,tns,tns] at q;have u:=mO k 1 a ha (by omega) (by omega);have y:=mO k 0 b hb (by omega) (by omega);have O:=aCj (show decide (b.form=5)=false from ψ (by have:=hb.form;omega));rw[aEe];refine aA (AWp.cut (mk [(5,Go.AM.T (pN k 1 a++arrS++pN k 0 b)),(6,B (!decide (c=0)))] []) ?_ ?_)
   ·refine sk 1 rfl (kc hp ?_);refine kz 9 rfl (aF (sg rfl (aB rfl (fun _=>?_) nofun)));have h4:arrS.length=4:=rfl;refine aC mixed (ak 1 [] rfl (kc u ?_));refine ak 5 [] rfl (kc O ?_);refine ak 1 [] rfl (kc y ?_);exact kz 5 rfl sl
   ·exact j _ _ (by rw[ζ,ζ,show arrS.length=4 from rfl];omega)
  ·have hp:=aFr A hn;rcases E with⟨f,s,rfl,Y⟩ | ⟨a,b,rfl,ha,hb⟩
   ·have d1:decide (f=1)=false:=ψ (by omega);have d5:decide (f=5)=false:=ψ (by omega);have d4:decide (f=4)=false:=ψ (by omega);rw[tyW,aLi] at r;rw[yP k c f s Y];refine aA (AWp.cut (mk [(5,Go.AM.T s),(6,B (decide (f=3)&&decide (s=arrow)))] []) ?_ ?_)
    ·refine sk 1 rfl (kc hp ?_);refine kz 9 rfl (aF (sg rfl (aB rfl nofun (fun _=>sg rfl (aB rfl (fun hb=>absurd (hb.symm.trans d1) Bool.noConfusion) (fun _=>?_))))));by_cases U:f=3
     ·have d3:decide (f=3)=true:=φ U;rw[d3,Bz];refine sgh [(3,.bv true),(7,.bv true)] rfl (aB rfl (fun hb=>?_) (fun hb=>?_))
      ·refine ag [] rfl ?_;rw[show decide (s=arrow)=true from hb];exact sl
      ·refine sg rfl (aB rfl (fun hb=>absurd (hb.symm.trans d5) Bool.noConfusion) (fun _=>sg rfl (aB rfl (fun hb=>absurd (hb.symm.trans d4) Bool.noConfusion) (fun _=>aD ?_))));rw[show decide (s=arrow)=false from hb];exact sl
     ·have d3:decide (f=3)=false:=ψ U;rw[d3,Bw];exact sgh [(3,.bv false),(7,.bv false)] rfl (aB rfl nofun (fun _=>sg rfl (aB rfl (fun hb=>absurd (hb.symm.trans d5) Bool.noConfusion) (fun _=>sg rfl (aB rfl (fun hb=>absurd (hb.symm.trans d4) Bool.noConfusion) (fun _=>aD sl))))))
    ·exact j _ _ (by omega)
   ·have J:=iO k 2 a ha;have M:=iO k 3 b hb;rw[nA] at r;unfold kZ at q;rw[tn,tns,tns,tns] at q;have u:=mO k 2 a ha (by omega) (by omega);have y:=mO k 3 b hb (by omega) (by omega);rw[aEf k c hn];refine aA (AWp.cut (mk [(5,Go.AM.T (pN k 2 a++[32]++pN k 3 b)),(6,B (decide (c=3)))] []) ?_ ?_)
    ·refine sk 1 rfl (kc hp ?_);refine kz 9 rfl (aF (sg rfl (aB rfl nofun (fun _=>sg rfl (aB rfl nofun (fun _=>sgh [(3,.bv false),(7,.bv false)] rfl (aB rfl nofun (fun _=>sg rfl (aB rfl nofun (fun _=>sg rfl (aB rfl (fun _=>aC mixed (ak 4 [(2,.row 0 (bL a))] rfl (kc u ?_))) nofun)))))))))));refine ak 5 [(8,.row 1 (bL b))] rfl (kc y ?_);exact kz 5 rfl sl
    ·exact j _ _ (by rw[ζ,ζ,ε,length_nil];omega)
def prT (t:Ty):Str:=pN (tn t) 0 t
theorem aAm (t:Ty) (c:PT t) (j:tyW t≤1000000000):b8 Tryz.prog 124 [tyV t] [] (Go.AM.T (prT t)) []:=by
 have h:=mO (tn t) 0 t c (le_refl _) j;refine bM (n:=5) tok Tryz.func124 rfl rfl rfl ?_;refine sg rfl (sk 1 rfl (kc h ?_));exact kz 1 rfl (aE rtT)
end Go.Proofs.YtpmheldmadendaaGreatDoor
namespace Go.Proofs.YtpmheldmadendaaGreatDoor
open Go Go.AM Go.Shelf
set_option maxRecDepth 100000
def jr:Ren:=⟨fun f=>if f=156 then 58 else if f=165 then 113 else if f=166 then 114 else if f=169 then 115 else if f=240 then 166 else if f=241 then 167 else if f=276 then 202 else if f=277 then 203 else f,fun t=>if t=0 then 0 else if t=3 then 3 else if t=4 then 4 else if t=5 then 5 else if t=9 then 9 else if t=20 then 20 else if t=31 then 40 else if t=37 then 100 else if t=70 then 164 else if t=72 then 166 else if t=75 then 169 else if t=76 then 170 else if t=80 then 172 else if t=127 then 213 else if t=164 then 233 else t,fun g=>if g=1 then 0 else g⟩
theorem jl:Lays.n156 Tryz.prog jr where
 mixed:=mixed
 f156:=by kernel_rfl
 f165:=by kernel_rfl
 f166:=by kernel_rfl
 f169:=by kernel_rfl
 f240:=by kernel_rfl
 f241:=by kernel_rfl
 f276:=by kernel_rfl
 f277:=by kernel_rfl
 t0:=by kernel_rfl
 a0:=fun w=>by kernel_rfl
 z0:=fun w=>by kernel_rfl
 v0:=fun w=>by kernel_rfl
 t3:=by kernel_rfl
 a3:=fun w=>by kernel_rfl
 z3:=fun w=>by kernel_rfl
 v3:=fun w=>by kernel_rfl
 t4:=by kernel_rfl
 a4:=fun w=>by kernel_rfl
 z4:=fun w=>by kernel_rfl
 v4:=fun w=>by kernel_rfl
 t9:=by kernel_rfl
 a9:=fun w=>by kernel_rfl
 z9:=fun w=>by kernel_rfl
 v9:=fun w=>by kernel_rfl
 t20:=by kernel_rfl
 a20:=fun w=>by kernel_rfl
 z20:=fun w=>by kernel_rfl
 v20:=fun w=>by kernel_rfl
 t31:=by kernel_rfl
 a31:=fun w=>by kernel_rfl
 z31:=fun w=>by kernel_rfl
 v31:=fun w=>by kernel_rfl
 t37:=by kernel_rfl
 a37:=fun w=>by kernel_rfl
 z37:=fun w=>by kernel_rfl
 v37:=fun w=>by kernel_rfl
 t70:=by kernel_rfl
 a70:=fun w=>by kernel_rfl
 z70:=fun w=>by kernel_rfl
 v70:=fun w=>by kernel_rfl
 t72:=by kernel_rfl
 a72:=fun w=>by kernel_rfl
 z72:=fun w=>by kernel_rfl
 v72:=fun w=>by kernel_rfl
 t75:=by kernel_rfl
 a75:=fun w=>by kernel_rfl
 z75:=fun w=>by kernel_rfl
 v75:=fun w=>by kernel_rfl
 t76:=by kernel_rfl
 a76:=fun w=>by kernel_rfl
 z76:=fun w=>by kernel_rfl
 v76:=fun w=>by kernel_rfl
 t127:=by kernel_rfl
 a127:=fun w=>by kernel_rfl
 z127:=fun w=>by kernel_rfl
 v127:=fun w=>by kernel_rfl
 t164:=by kernel_rfl
 a164:=fun w=>by kernel_rfl
 z164:=fun w=>by kernel_rfl
 v164:=fun w=>by kernel_rfl
theorem jx:Builder.Extra Tryz.prog jr where
 sizeBuilder:=by kernel_rfl
 liesBuilder:=by kernel_rfl
 t5:=by kernel_rfl
 a5:=fun w=>by kernel_rfl
 z5:=fun w=>by kernel_rfl
 v5:=fun w=>by kernel_rfl
 infoByte:=by kernel_rfl
 cellsByte:=by kernel_rfl
 sizeByte:=by kernel_rfl
 neB5:=by decide
end Go.Proofs.YtpmheldmadendaaGreatDoor
namespace Go.AM
open Go
theorem Inv.below {G:Ctx}{S:Sto}{μ:Mu}{H:bZ}{w w':World}(h:Inv G S μ H w) (k:Go.RowKit.Below w.heap.size w w'):Inv G S μ H w':=by
 have hold:∀b:Nat,b<w.heap.size→w'.heap[b]?=w.heap[b]?:=k.block;obtain⟨h1,h2,j,q,r,u,y,A,B⟩:=h;refine⟨⟨fun b o v e=>?_,fun b mk e=>?_⟩,fun id o e=>(h2 id o e).evolve (Evolve.refl _ _ _) rfl fun b c hm=>⟨hold b ((h2 id o e).lt hm),fun _=>rfl,rfl⟩,j,q,?_,u,y,A,B⟩
 ·obtain⟨vs,t,E,g1,g2⟩:=h1.1 b o v e;exact⟨vs,t,E,by rw[hold b (bV g1)];exact g1,g2⟩
 ·have g:=h1.2 b mk e;obtain⟨_,g2⟩:=MK.holds_some g;rw[hold b (bV g2)];exact g
 ·obtain⟨f1,f2,f3,f4,f5,f6⟩:=r;exact⟨k.os.trans f1,k.tape.trans f2,k.output.trans f3,le_trans f4 k.size,fun b hb I=>by rw[hold b (Ay hb f4)];exact f5 b hb I,f6⟩
end Go.AM
namespace Go.Proofs.YtpmheldmadendaaGreatDoor
open Go Go.AM Go.Shelf
set_option maxRecDepth 20000
theorem uG (l:List Str):(l.map fun s=>(⟨⟨s⟩⟩:ByteArray)).map (·.data.toList)=l:=by
 rw[List.map_map];exact List.map_id l
theorem aF3 (l:List Str) (sep:Str) (hl:l.length≤140737488355328) (c:(Lib.join l sep).length≤140737488355328):b8 Tryz.prog 58 [cM l,Go.AM.T sep] [] (Go.AM.T (Lib.join l sep)) []:=by
 intro S μ w vals J U;simp only[cM,aU,aO,aT,Rep] at U;obtain⟨v1,vs1,rfl,⟨a,len,cap,rfl,hlen,hcap,hmax,E,I,b,o,hb,q⟩,v2,vs2,rfl,rfl,rfl⟩:=U;rw[η] at hlen;have u:∀(e:Ending) (w':World),(e=.returned (.string ⟨(Lib.join l sep).toArray⟩)∧Go.RowKit.Below w.heap.size w w')→∃S' μ' v,e=.returned v∧Inv ⟨w,S,hH μ (Go.AM.look []),μ,Go.AM.look []⟩ S' μ' (Go.AM.look []) w'∧aO S' μ' (Go.AM.look []) (Go.AM.T (Lib.join l sep)) v:=by
  rintro e w' ⟨rfl,Y⟩;refine⟨S,μ,_,rfl,J.below Y,?_⟩;simp only[aO,aT,Rep]
 cases l with
 | nil=>
  rw[length_nil] at hlen;subst hlen;refine Calls.mono (Any.strings_Join_none jl jx a cap ⟨⟨sep⟩⟩ w) ?_;rintro e w' ⟨rfl,rfl⟩;exact u _ _ ⟨rfl,Go.RowKit.Below.refl _ _⟩
 | cons x r=>
  have hl0:0<len:=by rw[hlen,ε];omega
  cases a with
  | none=>have:=(E rfl).1;omega
  | some M=>
   obtain⟨h1,h2⟩:=hb M rfl;have h3:=I M rfl (by omega);obtain⟨O,ao,asp⟩:=M;dsimp only at h1 h2 h3;subst h1 h2 h3;have A:∀(j:Nat) y,((x::r).map fun s=>(⟨⟨s⟩⟩:ByteArray))[j]?=some y→w.cell? ⟨O,ao+j,none⟩=some (.string y):=fun j y c=>by
    rw[List.getElem?_map] at c;cases hx:(x::r)[j]? with
    | none=>rw[hx] at c;cases c
    | some s=>
     rw[hx] at c;injection c with c;subst c;obtain⟨_,vs,B,hc⟩:=q.get j (bE s) (aY bE hx);simp only[bE,bW,Rep] at B;obtain⟨v,vs',rfl,rfl,rfl⟩:=B;have:=J.holds.cell (hc 0 _ rfl);rwa [mul_one,Cf] at this
   have hbk:O<w.heap.size:=by
    obtain⟨_,vs,B,hc⟩:=q.get 0 (bE x) rfl;simp only[bE,bW,Rep] at B;obtain⟨v,vs',rfl,rfl,rfl⟩:=B;obtain⟨_,_,_,g,_⟩:=J.holds.1 _ _ _ (hc 0 _ rfl);exact bV g
   have:=Any.strings_Join jl jx O ao cap ((x::r).map fun s=>(⟨⟨s⟩⟩:ByteArray)) ⟨⟨sep⟩⟩ w A hbk (by rw[η];exact hl) (by rw[η];omega) (by rw[uG];exact c);rw[uG,η] at this;rw[hlen];exact Calls.mono this fun e w' h=>u e w' h
end Go.Proofs.YtpmheldmadendaaGreatDoor
namespace Go.Proofs.YtpmheldmadendaaGreatDoor
open Go Go.AM Go.Shelf
set_option maxRecDepth 100000
def ir:Ren:=⟨fun f=>if f=129 then 234 else if f=171 then 68 else if f=243 then 123 else if f=246 then 170 else if f=283 then 206 else if f=284 then 207 else if f=285 then 208 else if f=286 then 209 else if f=317 then 233 else if f=318 then 235 else if f=319 then 236 else if f=320 then 237 else if f=337 then 246 else if f=338 then 247 else f,fun t=>if t=0 then 0 else if t=2 then 2 else if t=3 then 3 else if t=4 then 4 else if t=5 then 5 else if t=9 then 9 else if t=20 then 20 else if t=37 then 100 else if t=46 then 264 else if t=51 then 261 else if t=53 then 239 else if t=171 then 238 else if t=173 then 242 else if t=212 then 260 else if t=213 then 262 else if t=232 then 271 else if t=233 then 272 else t,fun g=>if g=17 then 1 else if g=18 then 2 else if g=19 then 3 else g⟩
theorem il:LaysM.n171 Tryz.prog ir where
 mixed:=mixed
 f129:=by kernel_rfl
 f171:=by kernel_rfl
 f243:=by kernel_rfl
 f246:=by kernel_rfl
 f283:=by kernel_rfl
 f284:=by kernel_rfl
 f285:=by kernel_rfl
 f286:=by kernel_rfl
 f317:=by kernel_rfl
 f318:=by kernel_rfl
 f319:=by kernel_rfl
 f320:=by kernel_rfl
 f337:=by kernel_rfl
 f338:=by kernel_rfl
 t0:=by kernel_rfl
 a0:=fun w=>by kernel_rfl
 z0:=fun w=>by kernel_rfl
 v0:=fun w=>by kernel_rfl
 t2:=by kernel_rfl
 a2:=fun w=>by kernel_rfl
 z2:=fun w=>by kernel_rfl
 v2:=fun w=>by kernel_rfl
 t3:=by kernel_rfl
 a3:=fun w=>by kernel_rfl
 z3:=fun w=>by kernel_rfl
 v3:=fun w=>by kernel_rfl
 t4:=by kernel_rfl
 a4:=fun w=>by kernel_rfl
 z4:=fun w=>by kernel_rfl
 v4:=fun w=>by kernel_rfl
 t5:=by kernel_rfl
 a5:=fun w=>by kernel_rfl
 z5:=fun w=>by kernel_rfl
 v5:=fun w=>by kernel_rfl
 t9:=by kernel_rfl
 a9:=fun w=>by kernel_rfl
 z9:=fun w=>by kernel_rfl
 v9:=fun w=>by kernel_rfl
 t20:=by kernel_rfl
 a20:=fun w=>by kernel_rfl
 z20:=fun w=>by kernel_rfl
 v20:=fun w=>by kernel_rfl
 t37:=by kernel_rfl
 a37:=fun w=>by kernel_rfl
 z37:=fun w=>by kernel_rfl
 v37:=fun w=>by kernel_rfl
 t46:=by kernel_rfl
 a46:=fun w=>by kernel_rfl
 z46:=fun w=>by kernel_rfl
 v46:=fun w=>by kernel_rfl
 t51:=by kernel_rfl
 a51:=fun w=>by kernel_rfl
 z51:=fun w=>by kernel_rfl
 v51:=fun w=>by kernel_rfl
 t53:=by kernel_rfl
 a53:=fun w=>by kernel_rfl
 z53:=fun w=>by kernel_rfl
 v53:=fun w=>by kernel_rfl
 t171:=by kernel_rfl
 a171:=fun w=>by kernel_rfl
 z171:=fun w=>by kernel_rfl
 v171:=fun w=>by kernel_rfl
 t173:=by kernel_rfl
 a173:=fun w=>by kernel_rfl
 z173:=fun w=>by kernel_rfl
 v173:=fun w=>by kernel_rfl
 t212:=by kernel_rfl
 a212:=fun w=>by kernel_rfl
 z212:=fun w=>by kernel_rfl
 v212:=fun w=>by kernel_rfl
 t213:=by kernel_rfl
 a213:=fun w=>by kernel_rfl
 z213:=fun w=>by kernel_rfl
 t232:=by kernel_rfl
 a232:=fun w=>by kernel_rfl
 z232:=fun w=>by kernel_rfl
 v232:=fun w=>by kernel_rfl
 t233:=by kernel_rfl
 a233:=fun w=>by kernel_rfl
 z233:=fun w=>by kernel_rfl
 v233:=fun w=>by kernel_rfl
 g17:=by kernel_rfl
 g18:=by kernel_rfl
 g19:=by kernel_rfl
 i0:=by kernel_rfl
 i2:=by kernel_rfl
 i3:=by kernel_rfl
 i4:=by kernel_rfl
 i5:=by kernel_rfl
 i9:=by kernel_rfl
 i20:=by kernel_rfl
 i37:=by kernel_rfl
 i46:=by kernel_rfl
 i51:=by kernel_rfl
 i53:=by kernel_rfl
 i171:=by kernel_rfl
 i173:=by kernel_rfl
 i212:=by kernel_rfl
 i232:=by kernel_rfl
 i233:=by kernel_rfl
 m17:=by kernel_rfl
 m18:=by kernel_rfl
 m19:=by kernel_rfl
end Go.Proofs.YtpmheldmadendaaGreatDoor
namespace Go.AM
open Go
theorem Inv.grown {G:Ctx}{S:Sto}{μ:Mu}{H:bZ}{w:World}(h:Inv G S μ H w) (k:Nat) (os:Array Obj):Inv G S μ H (Sort.grow (w.drewN k) os):=by
 have hold:∀b:Nat,b<w.heap.size→(Sort.grow (w.drewN k) os).heap[b]?=w.heap[b]?:=fun b hb=>by
  show(w.heap++os)[b]?=w.heap[b]?;exact Bu hb
 have hsz:w.heap.size≤(Sort.grow (w.drewN k) os).heap.size:=by
  show w.heap.size≤(w.heap++os).size;rw[Array.size_append];omega
 obtain⟨h1,h2,j,q,r,u,y,A,B⟩:=h;refine⟨⟨fun b o v e=>?_,fun b mk e=>?_⟩,fun id o e=>(h2 id o e).evolve (Evolve.refl _ _ _) rfl fun b c hm=>⟨hold b ((h2 id o e).lt hm),fun _=>rfl,rfl⟩,j,q,?_,u,y,A,B⟩
 ·obtain⟨vs,t,E,g1,g2⟩:=h1.1 b o v e;exact⟨vs,t,E,by rw[hold b (bV g1)];exact g1,g2⟩
 ·have g:=h1.2 b mk e;obtain⟨_,g2⟩:=MK.holds_some g;rw[hold b (bV g2)];exact g
 ·obtain⟨f1,f2,f3,f4,f5,f6⟩:=r;exact⟨f1,f2,f3,le_trans f4 hsz,fun b hb I=>by rw[hold b (Ay hb f4)];exact f5 b hb I,f6⟩
end Go.AM
namespace Go.Proofs.YtpmheldmadendaaGreatDoor
open Go Go.AM
set_option maxRecDepth 20000
theorem aMy (k:Nat) (h:k<1000000000000000000):b8 Tryz.prog 68 [I .i64 (k:Int)] [] (Go.AM.T (Lib.decDigits k)) []:=by
 intro S μ w vals q r;simp only [aU, aO, aT, Rep] at r;obtain ⟨v1, u, rfl, rfl, rfl⟩ := r;have c : Lib.TabIs Tryz.prog w "internal/strconv.uint64pow10" .u64 Lib.pow10Tab := by
  obtain ⟨h1, t, y, h2⟩ := q.frame.tabAt _ rfl;unfold Lib.TabIs World.var?;rw [show Tryz.prog.globalNamed "internal/strconv.uint64pow10" = aHt by kernel_rfl];simp only [aHt, B8, h2];rfl
 refine Calls.mono (Any.strconv_Itoa il (k:Int) (by omega) (by omega) w c) ?_;rintro e w' ⟨rfl,j,os,rfl⟩;refine⟨S,μ,_,rfl,q.grown j os,?_⟩;rw[Lib.itoa_nonneg];simp only[aO,aT,Rep]
end Go.Proofs.YtpmheldmadendaaGreatDoor
namespace Go.Proofs.YtpmheldmadendaaGreatDoor
open Go Go.AM
set_option maxRecDepth 20000
def kJ (n:Nat):Str:=if n<26 then [UInt8.ofNat (97+n%26)] else [UInt8.ofNat (97+n%26)]++Lib.decDigits (n/26)
theorem qE (n:Nat) (h:n≤600000000000):(Lib.decDigits n).length≤20:=by
 rw[Lib.decDigits_length];by_cases h0:n=0
 ·subst h0;decide+kernel
 ·have:=Lib.numDigits_eq n (by omega) (by omega);split at this<;>omega
set_option maxHeartbeats 4000000
theorem rtN {ex:Exit}{fn:Func}{st:St}{hin hout:List (Nat×AObj)}(hex:ex=.normal∨ex=.ret:=by first | exact .inl rfl | exact .inr rfl) (c:fn.results.toList=[]:=by rfl)
  (ho:fH (fun p=>∃o,st.h p.1=some o∧Ole (fun i=>i) o p.2) hout:=by repeat (first | exact trivial | refine⟨⟨_,rfl,by first | exact Go.AM.Ole.arr | exact Go.AM.Ole.var rfl | exact Go.AM.Ole.varS rfl⟩,?_⟩))
  (hok:(subset (V.tup []).refs (keys hout)&&subset (fI hout) (keys hout)&&Go.AM.distinct (keys hout)&&subset (keys hin) (keys hout)&&(hin.all fun p=>p.2.plain)&&(hout.all fun p=>p.2.plain))=true:=by rfl):(ex=.normal∨ex=.ret)∧Fin tr.flat fn st hin (.tup []) hout:=
 ⟨hex,⟨[],[],by rw[c];exact .nil,.nil,rfl⟩,ho,hok⟩
theorem rtH {fn:Func}{st:St}{hin hout:List (Nat×AObj)}{t id len sz te es:Nat}{elems:List (List C)}(j:fn.results.toList=[.tmp t]:=by rfl) (q:st.e t=some (.one (.hs id 0 len sz)):=by rfl) (hh:st.h id=some (.arr te es elems 2):=by rfl) (hsz:sz=elems.length:=by first | rfl | assumption | (simp;done))
  (hlen:len=elems.length:=by first | rfl | assumption | (simp;done))
  (ho:fH (fun p=>∃o,st.h p.1=some o∧Ole (fun i=>i) o p.2) hout:=by repeat (first | exact trivial | refine⟨⟨_,rfl,by first | exact Go.AM.Ole.arr | exact Go.AM.Ole.var rfl | exact Go.AM.Ole.varS rfl⟩,?_⟩))
  (hok:(subset (V.one (.c (.sl es elems))).refs (keys hout)&&subset (fI hout) (keys hout)&&Go.AM.distinct (keys hout)&&subset (keys hin) (keys hout)&&(hin.all fun p=>p.2.plain)&&(hout.all fun p=>p.2.plain))=true:=by rfl):(Exit.ret=.normal∨Exit.ret=.ret)∧Fin tr.flat fn st hin (.one (.c (.sl es elems))) hout:=
 rtT (hc:=.one (.hs hh hsz (Go.AM.take_all hlen) .nil)) j q (ho:=ho) (hok:=hok)
structure Z where
 R:List Tk
 e:Int
 p:Int
def zTk:Tk:=⟨0,[],0,0⟩
def aX (z:Z):Tk:=z.R.headD zTk
def bS (e p:Int) (z:Z):Z:=if z.e=0 then⟨z.R,e,p⟩ else z
def isK (s:Str) (t:Tk):Bool:=(decide (t.kind=4) || decide (t.kind=5))&&decide (t.text=s)
def isZ (s:Str) (z:Z):Bool:=isK s (aX z)
def bP (s:Str) (z:Z):Bool×Z:=if z.e=0∧isZ s z=true then(true,⟨z.R.tail,z.e,z.p⟩) else(false,z)
def aQ (s:Str) (z:Z):Z:=if(bP s z).1=true then(bP s z).2 else bS 12 (aX z).pl z
def aR (k:Int) (z:Z):Tk×Z:=if z.e=0∧(aX z).kind=k then(aX z,⟨z.R.tail,z.e,z.p⟩) else(⟨0,[],0,(aX z).pl⟩,bS 12 (aX z).pl z)
def wE (t:Tk):Bool:=decide (t.kind=1)
def aV (z:Z):List Tk×Z:=if z.e=0 then(z.R.takeWhile wE,⟨z.R.dropWhile wE,z.e,z.p⟩) else([],z)
def c7 (n most:Nat) (at':Int) (z:Z):Z:=if most<n then bS 2 at' z else z
def ZA (L:List Tk) (z:Z):Prop:=At L (L.length-z.R.length) z.R
def xP:V:=.one (.vp 700 0)
def zO (L:List Tk) (z:Z):AObj:=.var 78 [.c (.sl 4 (L.map aG)),.c (.int .i64 ((L.length-z.R.length:Nat):Int)),.c (.int .i64 z.e),.c (.int .i64 z.p)]
theorem xG (e p:Int) (z:Z):(bS e p z).R=z.R:=by unfold bS;split<;>rfl
theorem ZA.fail {L:List Tk}{z:Z}(h:ZA L z) (e p:Int):ZA L (bS e p z):=by unfold ZA;rw[xG];exact h
theorem ZA.tl {L:List Tk}{z:Z}(h:ZA L z) (c:¬(aX z).kind=6) (e p:Int):ZA L ⟨z.R.tail,e,p⟩∧L.length-z.R.tail.length=L.length-z.R.length+1:=by
 obtain⟨R,e',j⟩:=z;obtain⟨t,R,rfl⟩:=h.e.ne;have hn:¬t.kind=6:=c;obtain⟨h1,h2⟩:=At.next h hn
 unfold ZA;rw[show(Z.mk (t::R) e' j).R.tail=R from rfl,h2];exact⟨h1,rfl⟩
theorem iU {s:Str}{t:Tk}(h:isK s t=true):¬t.kind=6:=fun e=>by
 unfold isK at h;rw[e] at h;simp at h
theorem ZA.may {L:List Tk}{z:Z}(h:ZA L z) (s:Str):ZA L (bP s z).2:=by
 unfold bP;split
 ·rename_i hc;exact(h.tl (iU hc.2) _ _).1
 ·exact h
theorem ZA.need {L:List Tk}{z:Z}(h:ZA L z) (s:Str):ZA L (aQ s z):=by
 unfold aQ;split
 ·exact h.may s
 ·exact h.fail _ _
theorem ZA.word {L:List Tk}{z:Z}(h:ZA L z) {k:Int}(c:¬k=6):ZA L (aR k z).2:=by
 unfold aR;split
 ·rename_i hc;exact(h.tl (by rw[hc.2];exact c) _ _).1
 ·exact h.fail _ _
theorem uV:∀{R:List Tk},mZ R→mZ (R.dropWhile wE)∧∃p,R=p++R.dropWhile wE
 | [],h=>by obtain⟨t,R',e⟩:=h.ne;cases e
 | t::R,h=>by
  rw[B4];split
  ·rename_i hb;have j:t.kind=1:=χ hb;have c:=h.tail (by omega);obtain⟨h1,p,h2⟩:=uV c;exact⟨h1,t::p,by rw[Bl,←h2]⟩
  ·exact⟨h,[],rfl⟩
theorem ZA.suf {L:List Tk}{z:Z}(h:ZA L z) {R p:List Tk}(hs:z.R=p++R) (he:mZ R) (e q:Int):ZA L ⟨R,e,q⟩:=by
 obtain⟨h1,h2⟩:=At.to h hs he;show At L (L.length-R.length) R;rw[h2];exact h1
theorem ZA.words {L:List Tk}{z:Z}(h:ZA L z):ZA L (aV z).2:=by
 unfold aV;split
 ·obtain⟨h1,p,h2⟩:=uV h.e;exact h.suf h2 h1 _ _
 ·exact h
theorem ZA.long {L:List Tk}{z:Z}(h:ZA L z) (n c:Nat) (at':Int):ZA L (c7 n c at' z):=by
 unfold c7;split
 ·exact h.fail _ _
 ·exact h
theorem ZA.now {L:List Tk}{z:Z}(h:ZA L z):L[L.length-z.R.length]?=some (aX z):=by
 obtain⟨R,e',c⟩:=z;obtain⟨t,R,rfl⟩:=h.e.ne;exact At.get h
theorem fA {L:List Tk}{z:Z}(h:ZA L z):b8 Tryz.prog 100 [xP] [(700,zO L z)] (tkV (aX z)) [(700,zO L z)]:=by
 have hl:=aY aG h.now;have c:(L.map aG).length=L.length:=η _;have j:=h.lt;have q:=h.l;refine bM (n:=13) tok Tryz.func100 rfl rfl rfl ?_;exact sg rfl (sgh [(8,.row (L.length-z.R.length) (aG (aX z)))] rfl (aE (rtC trw)))
theorem dI (L:List Tk) (z:Z) (e p:Int):b8 Tryz.prog 101 [xP,I .i64 e,I .i64 p] [(700,zO L z)] (.tup []) [(700,zO L (bS e p z))]:=by
 refine bM (n:=18) tok Tryz.func101 rfl rfl rfl ?_;refine sg rfl ?_;unfold bS;refine aB rfl (fun hb=>?_) (fun hb=>?_)
 ·rw[θ (χ hb)];exact ag [] rfl rtN
 ·rw[ξ (Ad hb)];exact aD rtN
theorem eO (L:List Tk) (z:Z):b8 Tryz.prog 39 [xP] [(700,zO L z)] (B (decide (z.e=0))) [(700,zO L z)]:=by
 refine bM (n:=9) tok Tryz.func39 rfl rfl rfl ?_;exact sg rfl (sg rfl (aE rtT))
theorem aF5 {L:List Tk}{z:Z}(h:ZA L z) (s:Str):b8 Tryz.prog 153 [xP,Go.AM.T s] [(700,zO L z)] (B (isZ s z)) [(700,zO L z)]:=by
 have hn:=fA h;unfold isZ;generalize aX z=t at hn ⊢;unfold isK;refine bM (n:=22) tok Tryz.func153 rfl rfl rfl ?_;refine sg rfl (sk 1 rfl (kc hn ?_));refine kz 2 rfl ?_;by_cases c:t.kind=4
 ·have d4:decide (t.kind=4)=true:=φ c;rw[d4,Bx,Bz];exact sgh [(3,.bv true),(7,.bv true),(8,.bv true),(13,.bv true)] rfl (aE rtT)
 have d4:decide (t.kind=4)=false:=ψ c;rw[d4,Az];by_cases j:t.kind=5
 ·have d5:decide (t.kind=5)=true:=φ j;rw[d5,Bz];exact sgh [(3,.bv false),(7,.bv false),(8,.bv true),(13,.bv true)] rfl (aE rtT)
 ·have d5:decide (t.kind=5)=false:=ψ j;rw[d5,Bw];exact sgh [(3,.bv false),(7,.bv false),(8,.bv false),(13,.bv false)] rfl (aE rtT)
theorem gX {L:List Tk}{z:Z}(h:ZA L z) (s:Str):b8 Tryz.prog 94 [xP,Go.AM.T s] [(700,zO L z)] (B (bP s z).1) [(700,zO L (bP s z).2)]:=by
 have ho:=eO L z;have hi:=aF5 h s;have c:= @iU s (aX z);refine bM (n:=22) tok Tryz.func94 rfl rfl rfl ?_;refine sg rfl ?_;unfold bP;by_cases he:z.e=0
 case neg=>
  rw[ξ (fun h=>he h.1)];rw[ψ he] at ho;refine aA (sk 1 rfl (kc ho ?_));exact ak 7 [(3,.bv true),(8,.bv true)] rfl (az (aB rfl (fun _=>sg rfl (aE rtT)) (fun hb=>absurd hb (by decide))))
 rw[φ he] at ho;refine aA (sk 1 rfl (kc ho ?_));refine ak 4 [(3,.bv false)] rfl (kcG hi ?_);refine ak 2 [(3,.bv false),(8,.bv false)] rfl (az ?_);cases q:isZ s z with
 | false=>
  rw[ξ (fun h=>by cases h.2)];exact aB rfl (fun _=>sg rfl (aE rtT)) (fun hb=>absurd hb (by decide))
 | true=>
  rw[θ ⟨he,rfl⟩];have j:isK s (aX z)=true:=q;obtain⟨_,hn⟩:=h.tl (c j) z.e z.p;have r:=h.l;unfold zO;dsimp only;rw[hn];exact aB rfl (fun hb=>absurd hb (by decide)) (fun _=>aD (aA (agN [] rfl (sg rfl (aE rtT)))))
theorem cP {L:List Tk}{z:Z}(h:ZA L z) (s:Str):b8 Tryz.prog 159 [xP,Go.AM.T s] [(700,zO L z)] (.tup []) [(700,zO L (aQ s z))]:=by
 have hm:=gX h s;have c:=dI L z 12 (aX z).pl;have hn:=fA h;refine bM (n:=13) tok Tryz.func159 rfl rfl rfl ?_;refine sk 2 rfl (kc hm ?_);refine kz 1 rfl ?_;unfold aQ;cases hb:(bP s z).1 with
 | true=>
  rw[θ rfl];exact aB rfl (fun hb=>absurd hb (by decide)) (fun _=>aD rtN)
 | false=>
  have e:(bP s z).2=z:=by
   unfold bP at hb ⊢;split
   ·rename_i hc;rw[θ hc] at hb;cases hb
   ·rfl
  rw[ξ (by decide),e];refine aB rfl (fun _=>aC mixed (ak 2 [] rfl (kc hn ?_))) (fun hb=>absurd hb (by decide));refine ak 1 [] rfl (kc c ?_);exact az rtN
theorem gZ {L:List Tk}{z:Z}(h:ZA L z) (k:Int) (r:¬k=6):b8 Tryz.prog 156 [xP,I .i64 k] [(700,zO L z)] (tkV (aR k z).1) [(700,zO L (aR k z).2)]:=by
 have ho:=eO L z;have j:=dI L z 12 (aX z).pl;have hn:=fA h;have q:=h.tl;refine bM (n:=33) tok Tryz.func156 rfl rfl rfl ?_;refine sg rfl (sk 1 rfl (kc hn ?_));refine kz 2 rfl ?_;unfold aR;by_cases he:z.e=0
 case neg=>
  rw[ξ (fun h=>he h.1)];rw[ψ he] at ho;refine aA (sk 1 rfl (kc ho ?_));refine ak 7 [(3,.bv true),(8,.bv true)] rfl (az (aB rfl (fun _=>sk 3 rfl (kc j ?_)) (fun hb=>absurd hb (by decide))));exact az (sg rfl (aE (rtC trw)))
 rw[φ he] at ho;refine aA (sk 1 rfl (kc ho ?_));refine ak 7 [(3,.bv false),(8,.bv false)] rfl (az ?_);by_cases c:(aX z).kind=k
 ·have d:(!decide ((aX z).kind=k))=false:=by rw[φ c];rfl
  rw[θ ⟨he,c⟩];obtain⟨_,hn⟩:=q (by rw[c];exact r) z.e z.p;have u:=h.l;unfold zO;dsimp only;rw[hn];exact aB rfl (fun hb=>absurd (hb.symm.trans d) (by decide)) (fun _=>aD (aA (agN [] rfl (sg rfl (aE (rtC trw))))))
 ·have d:(!decide ((aX z).kind=k))=true:=by rw[ψ c];rfl
  rw[ξ (fun h=>c h.2)];refine aB rfl (fun _=>sk 3 rfl (kc j ?_)) (fun hb=>absurd (hb.symm.trans d) (by decide));exact az (sg rfl (aE (rtC trw)))
theorem jY (L:List Tk) (z:Z) (n c:Nat) (at':Int):b8 Tryz.prog 155 [xP,I .i64 (n:Nat),I .i64 (c:Nat),I .i64 at'] [(700,zO L z)] (.tup []) [(700,zO L (c7 n c at' z))]:=by
 have j:=dI L z 2 at';refine bM (n:=14) tok Tryz.func155 rfl rfl rfl ?_;refine sg rfl ?_;unfold c7;refine aB rfl (fun hb=>?_) (fun hb=>?_)
 ·rw[θ (by have:=χ hb;omega)];refine aC mixed (ak 2 [] rfl (kc j ?_));exact az rtN
 ·rw[ξ (by have:=Ad hb;omega)];exact aD rtN
end Go.Proofs.YtpmheldmadendaaGreatDoor
