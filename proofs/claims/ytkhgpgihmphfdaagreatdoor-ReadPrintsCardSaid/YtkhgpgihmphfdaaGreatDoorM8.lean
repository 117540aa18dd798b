/-
  Texts Rd19 to Rd27 in one.
-/
import Derived.Test.YtkhgpgihmphfdaaGreatDoorM7
open List (append_assoc append_nil cons_append dropWhile_cons length_append length_cons length_map length_nil length_singleton length_tail length_take map_append mem_append mem_of_mem_take mem_singleton nil_append takeWhile_cons take_add_one take_append_drop take_length)
open Nat (le_of_lt le_refl le_trans lt_succ_self mul_le_mul_right zero_le)
namespace Go.Proofs.YtkhgpgihmphfdaaGreatDoor
open Go Go.AM
set_option maxRecDepth 20000
set_option maxHeartbeats 4000000
section
variable {fn:Func}{st:St}{hin hout:List (Nat×AObj)}
theorem lF {a0 t0 I y U:Nat}{i0:TI}{q:List AM.R}{v0 w0:V}{ids0:List Nat}{Y:Nat}{v1 B:V}{M:List Nat}{a2 t2 J A aa:Nat}{i2:TI}{u:List AM.R}{v2 E:V}{O:List Nat}(hr:fn.results.toList=[.cell a0 t0,.tmp Y,.cell a2 t2]:=by rfl) (ab:tr.get t0=some i0:=by rfl) (ac:st.e a0=some (.one (.vp I y)):=by rfl) (ad:st.h I=some (.var U q):=by rfl) (ae:Nat.ble (y+i0.size) q.length=true:=by rfl) (af:lO i0 ((q.drop y).take i0.size)=some v0:=by rfl) (ag:st.e Y=some v1:=by rfl) (ah:tr.get t2=some i2:=by rfl) (ai:st.e a2=some (.one (.vp J A)):=by rfl) (aj:st.h J=some (.var aa u):=by rfl) (ak:Nat.ble (A+i2.size) u.length=true:=by rfl) (al:lO i2 ((u.drop A).take i2.size)=some v2:=by rfl)
  (am:Conv st.h ids0 v0 w0:=by first | exact .refl | exact .one (.c .nl .nil) | exact .one (.hs rfl (by first | rfl | assumption | simp) (by first | rfl | exact Go.AM.take_all (by first | assumption | rfl | (simp;done)) | exact Go.AM.take_map.symm) .nil) | ((first | apply Go.AM.Conv.pa | apply Go.AM.Conv.agg);repeat (first | exact .nil | apply Go.AM.PureL.c .refl | apply Go.AM.PureL.c .nl | (apply Go.AM.PureL.hs;rfl;(first | rfl | assumption | simp);(first | rfl | exact Go.AM.take_all (by first | assumption | rfl | (simp;done)) | exact Go.AM.take_map.symm))))) (an:Conv st.h M v1 B:=by first | exact .refl | exact .one (.c .nl .nil) | exact .one (.hs rfl (by first | rfl | assumption | simp) (by first | rfl | exact Go.AM.take_all (by first | assumption | rfl | (simp;done)) | exact Go.AM.take_map.symm) .nil) | ((first | apply Go.AM.Conv.pa | apply Go.AM.Conv.agg);repeat (first | exact .nil | apply Go.AM.PureL.c .refl | apply Go.AM.PureL.c .nl | (apply Go.AM.PureL.hs;rfl;(first | rfl | assumption | simp);(first | rfl | exact Go.AM.take_all (by first | assumption | rfl | (simp;done)) | exact Go.AM.take_map.symm))))) (ap:Conv st.h O v2 E:=by first | exact .refl | exact .one (.c .nl .nil) | exact .one (.hs rfl (by first | rfl | assumption | simp) (by first | rfl | exact Go.AM.take_all (by first | assumption | rfl | (simp;done)) | exact Go.AM.take_map.symm) .nil) | ((first | apply Go.AM.Conv.pa | apply Go.AM.Conv.agg);repeat (first | exact .nil | apply Go.AM.PureL.c .refl | apply Go.AM.PureL.c .nl | (apply Go.AM.PureL.hs;rfl;(first | rfl | assumption | simp);(first | rfl | exact Go.AM.take_all (by first | assumption | rfl | (simp;done)) | exact Go.AM.take_map.symm)))))
  (ho:iM (fun p=>∃o,st.h p.1=some o∧Ole (fun i=>i) o p.2) hout:=by repeat (first | exact trivial | refine⟨⟨_,rfl,by first | exact Go.AM.Ole.arr | exact Go.AM.Ole.var rfl | exact Go.AM.Ole.varS rfl⟩,?_⟩))
  (hok:(subset (V.tup [w0,B,E]).refs (keys hout)&&subset (iN hout) (keys hout)&&Go.AM.distinct (keys hout)&&subset (keys hin) (keys hout)&&(hin.all fun p=>p.2.plain)&&(hout.all fun p=>p.2.plain))=true:=by rfl):(Exit.ret=.normal∨Exit.ret=.ret)∧Fin tr.flat fn st hin (.tup [w0,B,E]) hout:=
 ⟨.inr rfl,⟨[v0,v1,v2],[w0,B,E],by rw[hr];exact .cell ac (Tr.get_ok trw ab) ad ae af (.tmp ag (.cell ai (Tr.get_ok trw ah) aj ak al (.nil))),.cons am (.cons an (.cons ap (.nil))),rfl⟩,ho,hok⟩
theorem aOe {J:Nat}{v0 w0:V}{ids0:List Nat}{M:Nat}{v1 y:V}{E:List Nat}{a2 t2 B u O:Nat}{i2:TI}{q:List AM.R}{v2 A:V}{I:List Nat}(hr:fn.results.toList=[.tmp J,.tmp M,.cell a2 t2]:=by rfl) (U:st.e J=some v0:=by rfl) (Y:st.e M=some v1:=by rfl) (aa:tr.get t2=some i2:=by rfl) (ab:st.e a2=some (.one (.vp B u)):=by rfl) (ac:st.h B=some (.var O q):=by rfl) (ad:Nat.ble (u+i2.size) q.length=true:=by rfl) (ae:lO i2 ((q.drop u).take i2.size)=some v2:=by rfl)
  (af:Conv st.h ids0 v0 w0:=by first | exact .refl | exact .one (.c .nl .nil) | exact .one (.hs rfl (by first | rfl | assumption | simp) (by first | rfl | exact Go.AM.take_all (by first | assumption | rfl | (simp;done)) | exact Go.AM.take_map.symm) .nil) | ((first | apply Go.AM.Conv.pa | apply Go.AM.Conv.agg);repeat (first | exact .nil | apply Go.AM.PureL.c .refl | apply Go.AM.PureL.c .nl | (apply Go.AM.PureL.hs;rfl;(first | rfl | assumption | simp);(first | rfl | exact Go.AM.take_all (by first | assumption | rfl | (simp;done)) | exact Go.AM.take_map.symm))))) (ag:Conv st.h E v1 y:=by first | exact .refl | exact .one (.c .nl .nil) | exact .one (.hs rfl (by first | rfl | assumption | simp) (by first | rfl | exact Go.AM.take_all (by first | assumption | rfl | (simp;done)) | exact Go.AM.take_map.symm) .nil) | ((first | apply Go.AM.Conv.pa | apply Go.AM.Conv.agg);repeat (first | exact .nil | apply Go.AM.PureL.c .refl | apply Go.AM.PureL.c .nl | (apply Go.AM.PureL.hs;rfl;(first | rfl | assumption | simp);(first | rfl | exact Go.AM.take_all (by first | assumption | rfl | (simp;done)) | exact Go.AM.take_map.symm))))) (ah:Conv st.h I v2 A:=by first | exact .refl | exact .one (.c .nl .nil) | exact .one (.hs rfl (by first | rfl | assumption | simp) (by first | rfl | exact Go.AM.take_all (by first | assumption | rfl | (simp;done)) | exact Go.AM.take_map.symm) .nil) | ((first | apply Go.AM.Conv.pa | apply Go.AM.Conv.agg);repeat (first | exact .nil | apply Go.AM.PureL.c .refl | apply Go.AM.PureL.c .nl | (apply Go.AM.PureL.hs;rfl;(first | rfl | assumption | simp);(first | rfl | exact Go.AM.take_all (by first | assumption | rfl | (simp;done)) | exact Go.AM.take_map.symm)))))
  (ho:iM (fun p=>∃o,st.h p.1=some o∧Ole (fun i=>i) o p.2) hout:=by repeat (first | exact trivial | refine⟨⟨_,rfl,by first | exact Go.AM.Ole.arr | exact Go.AM.Ole.var rfl | exact Go.AM.Ole.varS rfl⟩,?_⟩))
  (hok:(subset (V.tup [w0,y,A]).refs (keys hout)&&subset (iN hout) (keys hout)&&Go.AM.distinct (keys hout)&&subset (keys hin) (keys hout)&&(hin.all fun p=>p.2.plain)&&(hout.all fun p=>p.2.plain))=true:=by rfl):(Exit.ret=.normal∨Exit.ret=.ret)∧Fin tr.flat fn st hin (.tup [w0,y,A]) hout:=
 ⟨.inr rfl,⟨[v0,v1,v2],[w0,y,A],by rw[hr];exact .tmp U (.tmp Y (.cell ab (Tr.get_ok trw aa) ac ad ae (.nil))),.cons af (.cons ag (.cons ah (.nil))),rfl⟩,ho,hok⟩
theorem aOd {B:Nat}{v0 w0:V}{ids0:List Nat}{E:Nat}{v1 q:V}{y:List Nat}{I:Nat}{v2 u:V}{A:List Nat}(hr:fn.results.toList=[.tmp B,.tmp E,.tmp I]:=by rfl) (J:st.e B=some v0:=by rfl) (M:st.e E=some v1:=by rfl) (O:st.e I=some v2:=by rfl)
  (U:Conv st.h ids0 v0 w0:=by first | exact .refl | exact .one (.c .nl .nil) | exact .one (.hs rfl (by first | rfl | assumption | simp) (by first | rfl | exact Go.AM.take_all (by first | assumption | rfl | (simp;done)) | exact Go.AM.take_map.symm) .nil) | ((first | apply Go.AM.Conv.pa | apply Go.AM.Conv.agg);repeat (first | exact .nil | apply Go.AM.PureL.c .refl | apply Go.AM.PureL.c .nl | (apply Go.AM.PureL.hs;rfl;(first | rfl | assumption | simp);(first | rfl | exact Go.AM.take_all (by first | assumption | rfl | (simp;done)) | exact Go.AM.take_map.symm))))) (Y:Conv st.h y v1 q:=by first | exact .refl | exact .one (.c .nl .nil) | exact .one (.hs rfl (by first | rfl | assumption | simp) (by first | rfl | exact Go.AM.take_all (by first | assumption | rfl | (simp;done)) | exact Go.AM.take_map.symm) .nil) | ((first | apply Go.AM.Conv.pa | apply Go.AM.Conv.agg);repeat (first | exact .nil | apply Go.AM.PureL.c .refl | apply Go.AM.PureL.c .nl | (apply Go.AM.PureL.hs;rfl;(first | rfl | assumption | simp);(first | rfl | exact Go.AM.take_all (by first | assumption | rfl | (simp;done)) | exact Go.AM.take_map.symm))))) (aa:Conv st.h A v2 u:=by first | exact .refl | exact .one (.c .nl .nil) | exact .one (.hs rfl (by first | rfl | assumption | simp) (by first | rfl | exact Go.AM.take_all (by first | assumption | rfl | (simp;done)) | exact Go.AM.take_map.symm) .nil) | ((first | apply Go.AM.Conv.pa | apply Go.AM.Conv.agg);repeat (first | exact .nil | apply Go.AM.PureL.c .refl | apply Go.AM.PureL.c .nl | (apply Go.AM.PureL.hs;rfl;(first | rfl | assumption | simp);(first | rfl | exact Go.AM.take_all (by first | assumption | rfl | (simp;done)) | exact Go.AM.take_map.symm)))))
  (ho:iM (fun p=>∃o,st.h p.1=some o∧Ole (fun i=>i) o p.2) hout:=by repeat (first | exact trivial | refine⟨⟨_,rfl,by first | exact Go.AM.Ole.arr | exact Go.AM.Ole.var rfl | exact Go.AM.Ole.varS rfl⟩,?_⟩))
  (hok:(subset (V.tup [w0,q,u]).refs (keys hout)&&subset (iN hout) (keys hout)&&Go.AM.distinct (keys hout)&&subset (keys hin) (keys hout)&&(hin.all fun p=>p.2.plain)&&(hout.all fun p=>p.2.plain))=true:=by rfl):(Exit.ret=.normal∨Exit.ret=.ret)∧Fin tr.flat fn st hin (.tup [w0,q,u]) hout:=
 ⟨.inr rfl,⟨[v0,v1,v2],[w0,q,u],by rw[hr];exact .tmp J (.tmp M (.tmp O (.nil))),.cons U (.cons Y (.cons aa (.nil))),rfl⟩,ho,hok⟩
theorem aS3 {a0 t0 B u J:Nat}{i0:TI}{q:List AM.R}{v0 w0:V}{ids0:List Nat}{M:Nat}{v1 y:V}{E:List Nat}{O:Nat}{v2 A:V}{I:List Nat}(hr:fn.results.toList=[.cell a0 t0,.tmp M,.tmp O]:=by rfl) (U:tr.get t0=some i0:=by rfl) (Y:st.e a0=some (.one (.vp B u)):=by rfl) (aa:st.h B=some (.var J q):=by rfl) (ab:Nat.ble (u+i0.size) q.length=true:=by rfl) (ac:lO i0 ((q.drop u).take i0.size)=some v0:=by rfl) (ad:st.e M=some v1:=by rfl) (ae:st.e O=some v2:=by rfl)
  (af:Conv st.h ids0 v0 w0:=by first | exact .refl | exact .one (.c .nl .nil) | exact .one (.hs rfl (by first | rfl | assumption | simp) (by first | rfl | exact Go.AM.take_all (by first | assumption | rfl | (simp;done)) | exact Go.AM.take_map.symm) .nil) | ((first | apply Go.AM.Conv.pa | apply Go.AM.Conv.agg);repeat (first | exact .nil | apply Go.AM.PureL.c .refl | apply Go.AM.PureL.c .nl | (apply Go.AM.PureL.hs;rfl;(first | rfl | assumption | simp);(first | rfl | exact Go.AM.take_all (by first | assumption | rfl | (simp;done)) | exact Go.AM.take_map.symm))))) (ag:Conv st.h E v1 y:=by first | exact .refl | exact .one (.c .nl .nil) | exact .one (.hs rfl (by first | rfl | assumption | simp) (by first | rfl | exact Go.AM.take_all (by first | assumption | rfl | (simp;done)) | exact Go.AM.take_map.symm) .nil) | ((first | apply Go.AM.Conv.pa | apply Go.AM.Conv.agg);repeat (first | exact .nil | apply Go.AM.PureL.c .refl | apply Go.AM.PureL.c .nl | (apply Go.AM.PureL.hs;rfl;(first | rfl | assumption | simp);(first | rfl | exact Go.AM.take_all (by first | assumption | rfl | (simp;done)) | exact Go.AM.take_map.symm))))) (ah:Conv st.h I v2 A:=by first | exact .refl | exact .one (.c .nl .nil) | exact .one (.hs rfl (by first | rfl | assumption | simp) (by first | rfl | exact Go.AM.take_all (by first | assumption | rfl | (simp;done)) | exact Go.AM.take_map.symm) .nil) | ((first | apply Go.AM.Conv.pa | apply Go.AM.Conv.agg);repeat (first | exact .nil | apply Go.AM.PureL.c .refl | apply Go.AM.PureL.c .nl | (apply Go.AM.PureL.hs;rfl;(first | rfl | assumption | simp);(first | rfl | exact Go.AM.take_all (by first | assumption | rfl | (simp;done)) | exact Go.AM.take_map.symm)))))
  (ho:iM (fun p=>∃o,st.h p.1=some o∧Ole (fun i=>i) o p.2) hout:=by repeat (first | exact trivial | refine⟨⟨_,rfl,by first | exact Go.AM.Ole.arr | exact Go.AM.Ole.var rfl | exact Go.AM.Ole.varS rfl⟩,?_⟩))
  (hok:(subset (V.tup [w0,y,A]).refs (keys hout)&&subset (iN hout) (keys hout)&&Go.AM.distinct (keys hout)&&subset (keys hin) (keys hout)&&(hin.all fun p=>p.2.plain)&&(hout.all fun p=>p.2.plain))=true:=by rfl):(Exit.ret=.normal∨Exit.ret=.ret)∧Fin tr.flat fn st hin (.tup [w0,y,A]) hout:=
 ⟨.inr rfl,⟨[v0,v1,v2],[w0,y,A],by rw[hr];exact .cell Y (Tr.get_ok trw U) aa ab ac (.tmp ad (.tmp ae (.nil))),.cons af (.cons ag (.cons ah (.nil))),rfl⟩,ho,hok⟩
theorem a3m {y:Nat}{v0 w0:V}{ids0:List Nat}{A:Nat}{v1 q:V}{u:List Nat}(M:fn.results.toList=[.tmp y,.tmp A]:=by rfl) (B:st.e y=some v0:=by rfl) (E:st.e A=some v1:=by rfl)
  (I:Conv st.h ids0 v0 w0:=by first | exact .refl | exact .one (.c .nl .nil) | exact .one (.hs rfl (by first | rfl | assumption | simp) (by first | rfl | exact Go.AM.take_all (by first | assumption | rfl | (simp;done)) | exact Go.AM.take_map.symm) .nil) | ((first | apply Go.AM.Conv.pa | apply Go.AM.Conv.agg);repeat (first | exact .nil | apply Go.AM.PureL.c .refl | apply Go.AM.PureL.c .nl | (apply Go.AM.PureL.hs;rfl;(first | rfl | assumption | simp);(first | rfl | exact Go.AM.take_all (by first | assumption | rfl | (simp;done)) | exact Go.AM.take_map.symm))))) (J:Conv st.h u v1 q:=by first | exact .refl | exact .one (.c .nl .nil) | exact .one (.hs rfl (by first | rfl | assumption | simp) (by first | rfl | exact Go.AM.take_all (by first | assumption | rfl | (simp;done)) | exact Go.AM.take_map.symm) .nil) | ((first | apply Go.AM.Conv.pa | apply Go.AM.Conv.agg);repeat (first | exact .nil | apply Go.AM.PureL.c .refl | apply Go.AM.PureL.c .nl | (apply Go.AM.PureL.hs;rfl;(first | rfl | assumption | simp);(first | rfl | exact Go.AM.take_all (by first | assumption | rfl | (simp;done)) | exact Go.AM.take_map.symm)))))
  (ho:iM (fun p=>∃o,st.h p.1=some o∧Ole (fun i=>i) o p.2) hout:=by repeat (first | exact trivial | refine⟨⟨_,rfl,by first | exact Go.AM.Ole.arr | exact Go.AM.Ole.var rfl | exact Go.AM.Ole.varS rfl⟩,?_⟩))
  (hok:(subset (V.tup [w0,q]).refs (keys hout)&&subset (iN hout) (keys hout)&&Go.AM.distinct (keys hout)&&subset (keys hin) (keys hout)&&(hin.all fun p=>p.2.plain)&&(hout.all fun p=>p.2.plain))=true:=by rfl):(Exit.ret=.normal∨Exit.ret=.ret)∧Fin tr.flat fn st hin (.tup [w0,q]) hout:=
 ⟨.inr rfl,⟨[v0,v1],[w0,q],by rw[M];exact .tmp B (.tmp E (.nil)),.cons I (.cons J (.nil)),rfl⟩,ho,hok⟩
theorem sD {a0 t0 A u E:Nat}{i0:TI}{q:List AM.R}{v0 w0:V}{ids0:List Nat}{I:Nat}{v1 y:V}{B:List Nat}(hr:fn.results.toList=[.cell a0 t0,.tmp I]:=by rfl) (J:tr.get t0=some i0:=by rfl) (M:st.e a0=some (.one (.vp A u)):=by rfl) (O:st.h A=some (.var E q):=by rfl) (U:Nat.ble (u+i0.size) q.length=true:=by rfl) (Y:lO i0 ((q.drop u).take i0.size)=some v0:=by rfl) (aa:st.e I=some v1:=by rfl)
  (ab:Conv st.h ids0 v0 w0:=by first | exact .refl | exact .one (.c .nl .nil) | exact .one (.hs rfl (by first | rfl | assumption | simp) (by first | rfl | exact Go.AM.take_all (by first | assumption | rfl | (simp;done)) | exact Go.AM.take_map.symm) .nil) | ((first | apply Go.AM.Conv.pa | apply Go.AM.Conv.agg);repeat (first | exact .nil | apply Go.AM.PureL.c .refl | apply Go.AM.PureL.c .nl | (apply Go.AM.PureL.hs;rfl;(first | rfl | assumption | simp);(first | rfl | exact Go.AM.take_all (by first | assumption | rfl | (simp;done)) | exact Go.AM.take_map.symm))))) (ac:Conv st.h B v1 y:=by first | exact .refl | exact .one (.c .nl .nil) | exact .one (.hs rfl (by first | rfl | assumption | simp) (by first | rfl | exact Go.AM.take_all (by first | assumption | rfl | (simp;done)) | exact Go.AM.take_map.symm) .nil) | ((first | apply Go.AM.Conv.pa | apply Go.AM.Conv.agg);repeat (first | exact .nil | apply Go.AM.PureL.c .refl | apply Go.AM.PureL.c .nl | (apply Go.AM.PureL.hs;rfl;(first | rfl | assumption | simp);(first | rfl | exact Go.AM.take_all (by first | assumption | rfl | (simp;done)) | exact Go.AM.take_map.symm)))))
  (ho:iM (fun p=>∃o,st.h p.1=some o∧Ole (fun i=>i) o p.2) hout:=by repeat (first | exact trivial | refine⟨⟨_,rfl,by first | exact Go.AM.Ole.arr | exact Go.AM.Ole.var rfl | exact Go.AM.Ole.varS rfl⟩,?_⟩))
  (hok:(subset (V.tup [w0,y]).refs (keys hout)&&subset (iN hout) (keys hout)&&Go.AM.distinct (keys hout)&&subset (keys hin) (keys hout)&&(hin.all fun p=>p.2.plain)&&(hout.all fun p=>p.2.plain))=true:=by rfl):(Exit.ret=.normal∨Exit.ret=.ret)∧Fin tr.flat fn st hin (.tup [w0,y]) hout:=
 ⟨.inr rfl,⟨[v0,v1],[w0,y],by rw[hr];exact .cell M (Tr.get_ok trw J) O U Y (.tmp aa (.nil)),.cons ab (.cons ac (.nil)),rfl⟩,ho,hok⟩
theorem wI {a0 t0 I y O:Nat}{i0:TI}{q:List AM.R}{v0 w0:V}{ids0:List Nat}{U t1 J A Y:Nat}{B:TI}{u:List AM.R}{v1 E:V}{M:List Nat}(hr:fn.results.toList=[.cell a0 t0,.cell U t1]:=by rfl) (aa:tr.get t0=some i0:=by rfl) (ab:st.e a0=some (.one (.vp I y)):=by rfl) (ac:st.h I=some (.var O q):=by rfl) (ad:Nat.ble (y+i0.size) q.length=true:=by rfl) (ae:lO i0 ((q.drop y).take i0.size)=some v0:=by rfl) (af:tr.get t1=some B:=by rfl) (ag:st.e U=some (.one (.vp J A)):=by rfl) (ah:st.h J=some (.var Y u):=by rfl) (ai:Nat.ble (A+B.size) u.length=true:=by rfl) (aj:lO B ((u.drop A).take B.size)=some v1:=by rfl)
  (ak:Conv st.h ids0 v0 w0:=by first | exact .refl | exact .one (.c .nl .nil) | exact .one (.hs rfl (by first | rfl | assumption | simp) (by first | rfl | exact Go.AM.take_all (by first | assumption | rfl | (simp;done)) | exact Go.AM.take_map.symm) .nil) | ((first | apply Go.AM.Conv.pa | apply Go.AM.Conv.agg);repeat (first | exact .nil | apply Go.AM.PureL.c .refl | apply Go.AM.PureL.c .nl | (apply Go.AM.PureL.hs;rfl;(first | rfl | assumption | simp);(first | rfl | exact Go.AM.take_all (by first | assumption | rfl | (simp;done)) | exact Go.AM.take_map.symm))))) (al:Conv st.h M v1 E:=by first | exact .refl | exact .one (.c .nl .nil) | exact .one (.hs rfl (by first | rfl | assumption | simp) (by first | rfl | exact Go.AM.take_all (by first | assumption | rfl | (simp;done)) | exact Go.AM.take_map.symm) .nil) | ((first | apply Go.AM.Conv.pa | apply Go.AM.Conv.agg);repeat (first | exact .nil | apply Go.AM.PureL.c .refl | apply Go.AM.PureL.c .nl | (apply Go.AM.PureL.hs;rfl;(first | rfl | assumption | simp);(first | rfl | exact Go.AM.take_all (by first | assumption | rfl | (simp;done)) | exact Go.AM.take_map.symm)))))
  (ho:iM (fun p=>∃o,st.h p.1=some o∧Ole (fun i=>i) o p.2) hout:=by repeat (first | exact trivial | refine⟨⟨_,rfl,by first | exact Go.AM.Ole.arr | exact Go.AM.Ole.var rfl | exact Go.AM.Ole.varS rfl⟩,?_⟩))
  (hok:(subset (V.tup [w0,E]).refs (keys hout)&&subset (iN hout) (keys hout)&&Go.AM.distinct (keys hout)&&subset (keys hin) (keys hout)&&(hin.all fun p=>p.2.plain)&&(hout.all fun p=>p.2.plain))=true:=by rfl):(Exit.ret=.normal∨Exit.ret=.ret)∧Fin tr.flat fn st hin (.tup [w0,E]) hout:=
 ⟨.inr rfl,⟨[v0,v1],[w0,E],by rw[hr];exact .cell ab (Tr.get_ok trw aa) ac ad ae (.cell ag (Tr.get_ok trw af) ah ai aj (.nil)),.cons ak (.cons al (.nil)),rfl⟩,ho,hok⟩
end
def rN (L:List Tk):Prop:=∀t∈L,t.kind=4→t.n=0
theorem aBg (t:Tk) (s:Str) (h:t.kind=4→t.n=0):aW Tryz.prog 212 [tkV t,Go.AM.T s] [] (B (isT t s)) []:=by
 have e:aNm [.int .i64 t.kind,.str t.text,.int .i64 t.n,.int .i64 0] [.int .i64 4,.str s,.int .i64 0,.int .i64 0]=isT t s:=by
  unfold isT;simp only[aNm,ceq,decide_true,Bool.and_true];by_cases q:t.kind=4
  ·rw[h q];simp
  ·rw[φ q];rfl
 rw[←e];refine b9 (n:=10) tok Tryz.func212 rfl rfl rfl ?_;refine sg rfl (sg rfl (sk 3 rfl (k_ (g_ rfl rfl (aS9 tok (by unfold aNq;kernel_rfl) rfl rfl (by decide) (tg rfl) rfl rfl rfl rfl)) ?_)));exact kz 1 rfl (aE rtT)
theorem pT (t:Tk) (e:Int):aW Tryz.prog 214 [tkV t,I .i64 e] [] (atV e t.pl) []:=by
 refine b9 (n:=9) tok Tryz.func214 rfl rfl rfl ?_;exact sg rfl (sg rfl (aE (rtC trw)))
theorem aDt {t:Ty}(h:wfS t=true):aW Tryz.prog 235 [tyV t] [] (tyV t) []:=aL0 _ t (le_refl _) h
theorem aR8 (a b:Ty) (ha:wfS a=true) (hb:wfS b=true):aW Tryz.prog 232 [tyV a,.one (.c (.sl 4 [bF b]))] [] (tyV (dQ a b)) []:=by
 have h1:=aDt ha;have h2:=aDt hb;have A:=y3 a b;refine b9 (n:=22) tok Tryz.func232 rfl rfl rfl ?_;refine sg rfl (sk 1 rfl (kc h1 ?_));refine kz 2 rfl (aA (sg rfl (aF (aJ (fun i:Nat=>mk [(4,.one (.vp 4 0)),(5,.one (.vp 5 0)),(10,.one (.c (.sl 4 [bF b]))),(11,I .i64 1),(12,I .i64 i)] [(4,.var 43 [.c (.int .i64 0),.c (.int .i64 0),.c (.str []),.c .nl]),(5,.var 43 ((bF (if i=0 then a else dQ a b)).map .c))]) (fun i=>i≤1) (fun i=>1-i) 0 (Ab _) sl ?_))));intro i hi;refine sg rfl (aA (aB rfl (fun q=>?_) (fun q=>?_)))
 ·have u:i=0:=by
   have:(i:Int)<1:=κ q;omega
  subst u;rw[ζ rfl];refine aD (aA (aF (sgh [(0,.row 0 (bF b))] rfl (aC mixed (ak 2 [] rfl (kc h2 ?_))))));refine kc A ?_;exact kz 1 rfl (ag [] rfl ⟨1,le_refl _,by dsimp only;omega,sl⟩)
 have y:i=1:=by
  have:¬(i:Int)<1:=Ac q;omega
 subst y;exact aH (sg rfl (aE (rtC trw)))
theorem a0g (a b:Ty) (ha:aW Tryz.prog 235 [tyV a] [] (tyV a) []) (hb:aW Tryz.prog 235 [tyV b] [] (tyV b) []):aW Tryz.prog 233 [tyV b,.one (.c (.sl 4 [bF a]))] [] (tyV (nB a b)) []:=by
 have h1:=aLx arrow;have h2:=y3 (.mk 3 0 arrow []) a;have A:=y3 (dQ (.mk 3 0 arrow []) a) b;refine b9 (n:=29) tok Tryz.func233 rfl rfl rfl ?_;refine sg rfl (sgh [(1,.pc (tyV b))] rfl (aA (sg rfl (aF (aJ (fun i:Nat=>mk [(1,.one (.c (.sl 4 [bF a]))),(4,.one (.vp 4 0)),(5,.one (.vp 5 0)),(10,I .i64 1),(11,I .i64 i)] [(4,.var 43 [.c (.int .i64 0),.c (.int .i64 0),.c (.str []),.c .nl]),(5,.var 43 ((bF (if i=0 then b else nB a b)).map .c))]) (fun i=>i≤1) (fun i=>1-i) 0 (Ab _) sl ?_)))));intro i hi;refine sg rfl (aA (aB rfl (fun q=>?_) (fun q=>?_)))
 ·have u:i=0:=by
   have:(i:Int)<1:=κ q;omega
  subst u;rw[ζ rfl];refine aD (aA (aF (sg rfl (aC mixed (kc h1 ?_)))));refine ak 8 [(7,.row 0 (bF a))] rfl (kc ha ?_);refine kc h2 ?_;refine ak 1 [] rfl (kc A ?_);exact kz 1 rfl (ag [] rfl ⟨1,le_refl _,by dsimp only;omega,sl⟩)
 have y:i=1:=by
  have:¬(i:Int)<1:=Ac q;omega
 subst y;rw[η (by omega)];exact aH (sg rfl (aE (rtC trw)))
def tpV (L:List Tk):TR→V
 | .ok (x,R)=>.tup [tyV x,I .i64 ((L.length-R.length:Nat):Int),atV 0 0]
 | .error (e,p)=>.tup [tyV zTy,I .i64 0,atV e p]
theorem lU (L:List Tk) (x:Ty) (R:List Tk):tpV L (.ok (x,R))=.tup [tyV x,I .i64 ((L.length-R.length:Nat):Int),atV 0 0]:=rfl
def aNj (L:List Tk) (f:Nat):Prop:=∀(o:Nat) (R:List Tk) (i:Nat),At L i R→3*R.length≤f→o≤40→aW Tryz.prog 210 [qK L,I .i64 (i:Nat),I .i64 (o:Nat)] [] (tpV L (cU f o R)) []
def aGr (L:List Tk) (f:Nat):Prop:=∀(o:Nat) (R:List Tk) (i:Nat),At L i R→3*R.length+2≤f→o≤40→aW Tryz.prog 227 [qK L,I .i64 (i:Nat),I .i64 (o:Nat)] [] (tpV L (cI f o R)) []
theorem At.mem {L:List Tk}{i:Nat}{t:Tk}{R:List Tk}(h:At L i (t::R)):t∈L:=ε h.get
theorem aVz (L:List Tk) (hZ:rN L) (f:Nat) (ih:aGr L f):aNj L (f+1):=by
 intro o R i q hf ho;have hkl:(L.map aI).length=L.length:=ξ _;have hLl:=q.l;obtain⟨t,R,rfl⟩:=q.e.ne;have U:=q.lt;have Y:=q.get;have hti':=aP aI Y;rw[ω] at U hf;rw[cU];refine b9 (n:=83) tok Tryz.func210 rfl rfl rfl ?_;refine sg rfl (aA (sgh [(2,.row i (aI t))] rfl ?_));have hz:t.kind=4→t.n=0:=hZ t q.mem;have aa:=aBg t cG hz;have ab:=pT t 12;have ac:=pT t 13;have I:=aLx t.text;have J:=aU1 t.text;refine aF (sg rfl (aB rfl (fun hb=>?_) (fun hb=>?_)))
 ·have h2:t.kind=2:=κ hb;rw[ζ h2];obtain⟨_,hn⟩:=q.next (by omega)
  rw[lU,hn];refine aA (aC mixed (akN 2 [] rfl (kc I ?_)));exact akN 6 [] rfl (az (aE lF))
 rw[η (Ac hb)];refine sg rfl (aB rfl (fun hb=>?_) (fun hb=>?_))
 ·have h1:t.kind=1:=κ hb;rw[ζ h1];obtain⟨_,hn⟩:=q.next (by omega)
  rw[lU,hn];refine aA (aC mixed (akN 2 [] rfl (kc J ?_)));exact akN 6 [] rfl (az (aE lF))
 rw[η (Ac hb)];refine sk 1 rfl (kc aa ?_);refine kz 2 rfl ?_;cases hl:isT t cG with
 | false=>
  rw[ζ rfl];refine aB rfl (fun _=>sk 2 rfl (kc ab ?_)) (fun hb=>absurd hb (by decide));exact kz 3 rfl (aE lF)
 | true=>
 rw[η (by decide)];refine aB rfl (fun hb=>absurd hb (by decide)) (fun _=>sg rfl (aB rfl (fun hb=>?_) (fun hb=>?_)))
 ·rw[ζ (by have:=κ hb;omega)];refine sk 2 rfl (kc ac ?_);exact kz 3 rfl (aE lF)
 have M:¬40≤o:=by have:=Ac hb;omega
 rw[η M];refine aD ?_;obtain⟨E,_⟩:=q.next (by rw[(c8 hl).1];decide)
 have ad:=ih (o+1) R (i+1) E (by omega) (by omega);have hok:=gT f (o+1) R;have B:=eU f (o+1) R;refine aA (aC mixed (akN 5 [] rfl (kc ad ?_)));generalize cI f (o+1) R=w at hok B ⊢;cases w with
 | error e=>
  obtain⟨e,p⟩:=e;have he:=B e p rfl;unfold tpV atV;refine akN 9 [] rfl (az ?_);rw[p0];exact aA (aF (sg rfl (aB rfl (fun _=>sg rfl (aE lF)) (fun hb=>absurd hb (by simp[he])))))
 | ok y=>
  obtain⟨x,R1⟩:=y;obtain⟨hT,_⟩:=hok x R1 rfl;obtain⟨A,hle⟩:=E.ok hT;obtain⟨u,R3,rfl⟩:=A.e.ne;rw[lU];generalize L.length-(u::R3).length=j at *;have ae:=A.get;have huj':=aP aI ae;have hj:=A.lt;rw[ω] at hj;have O:=aBg u nY (hZ u A.mem);have af:=pT u 12;refine kz 9 rfl (aA (aF (sg rfl (aB rfl (fun hb=>absurd hb (by decide)) (fun _=>skh 4 [(2,.row j (aI u))] rfl (kc O ?_))))));refine kz 2 rfl ?_;rw[p0];cases hr:isT u nY with
  | false=>
   rw[η (by decide)];refine aB rfl (fun _=>skh 5 [(3,.row j (aI u))] rfl (kc af ?_)) (fun hb=>absurd hb (by decide));exact kz 3 rfl (aE lF)
  | true=>
   rw[ζ rfl];obtain⟨_,hn⟩:=A.next (by rw[(c8 hr).1];decide)
   rw[lU,hn];exact aB rfl (fun hb=>absurd hb (by decide)) (fun _=>aD (aA (agN [] rfl (aE lF))))
theorem a0a (t:Tk) (q:t.kind=4→t.n=0):aW Tryz.prog 231 [tkV t] [] (B (aNo t)) []:=by
 have hi:=aBg t cG q;unfold aNo;refine b9 (n:=15) tok Tryz.func231 rfl rfl rfl ?_;refine sg rfl ?_;by_cases h2:t.kind=2
 ·have d1:decide (t.kind=1)=false:=φ (by omega);have d2:decide (t.kind=2)=true:=θ h2;rw[d1,d2];exact sgh [(3,.bv true),(7,.bv true),(8,.bv true),(11,.bv true)] rfl (aE rtT)
 have d2:decide (t.kind=2)=false:=φ h2;by_cases h1:t.kind=1
 ·have d1:decide (t.kind=1)=true:=θ h1;rw[d1];exact sgh [(3,.bv false),(7,.bv false),(8,.bv true),(11,.bv true)] rfl (aE rtT)
 ·have d1:decide (t.kind=1)=false:=φ h1;rw[d1,d2,A9,A9];refine skh 10 [(3,.bv false),(7,.bv false),(8,.bv false)] rfl (kcG hi ?_);exact ak 2 [(8,.bv false),(11,.bv false)] rfl (az (aE rtT))
theorem aVs (L:List Tk) (hZ:rN L) (f:Nat) (ab:∀g,g≤f→aNj L g) (ac:∀g,g≤f→aGr L g):aGr L (f+1):=by
 intro o R i Y hf ho;have hkl:(L.map aI).length=L.length:=ξ _;have hLl:=Y.l;have M:=ab f (le_refl _) o R i Y (by omega) ho;have hok:=jQ f o R;have B:=eN f o R;have ad:=Y.lt;have key:∃W:TR,W=cI (f+1) o R:=⟨_,rfl⟩
 obtain⟨W,A⟩:=key;rw[←A];rw[cI] at A;refine b9 (n:=80) tok Tryz.func227 rfl rfl rfl ?_;refine sg rfl (sg rfl (sk 3 rfl (kc M ?_)));have O:∀(x:Ty) (j e p:Int) (R1:List Tk) (g:Nat),((e=0∧p=0∧j=((L.length-R1.length:Nat):Int)∧At L (L.length-R1.length) R1∧WF x∧3*R1.length+1≤g∧g≤f∧W=kY g o x R1)∨(¬e=0∧W=.error (e,p)))→
   AWp none Tryz.prog 80 (keys ([]:List (Nat×AObj))) (kJ (kJ (kJ (Tryz.f227.body.getD .skip)))) (mk [(0,qK L),(1,I .i64 j),(2,I .i64 (o:Nat)),(6,.one (.vp 6 0)),(8,.one (.vp 8 0)),(9,.one (.clo 231 [])),(10,.one (.vp 10 0)),(11,.one (.vp 11 0))] [(6,.var 43 [.c (.int .i64 0),.c (.int .i64 0),.c (.str []),.c .nl]),(8,.var 33 [.c (.int .i64 0),.c (.int .i64 0)]),(10,.var 43 ((bF x).map .c)),(11,.var 33 [.c (.int .i64 e),.c (.int .i64 p)])]) (fun ex st=>(ex=.normal∨ex=.ret)∧Fin tr.flat Tryz.f227 st [] (tpV L W) []):=by
  clear M hok B A ad Y hf;intro x j e p R1 g hinv;refine aA (aF (aJ (fun q:Ty×Int×Int×Int×List Tk×Nat=>mk [(0,qK L),(1,I .i64 q.2.1),(2,I .i64 (o:Nat)),(6,.one (.vp 6 0)),(8,.one (.vp 8 0)),(9,.one (.clo 231 [])),(10,.one (.vp 10 0)),(11,.one (.vp 11 0))] [(6,.var 43 [.c (.int .i64 0),.c (.int .i64 0),.c (.str []),.c .nl]),(8,.var 33 [.c (.int .i64 0),.c (.int .i64 0)]),(10,.var 43 ((bF q.1).map .c)),(11,.var 33 [.c (.int .i64 q.2.2.1),.c (.int .i64 q.2.2.2.1)])]) (fun q=>(q.2.2.1=0∧q.2.2.2.1=0∧q.2.1=((L.length-q.2.2.2.2.1.length:Nat):Int)∧At L (L.length-q.2.2.2.2.1.length) q.2.2.2.2.1∧WF q.1∧3*q.2.2.2.2.1.length+1≤q.2.2.2.2.2∧q.2.2.2.2.2≤f∧W=kY q.2.2.2.2.2 o q.1 q.2.2.2.2.1)∨(¬q.2.2.1=0∧W=.error (q.2.2.1,q.2.2.2.1))) (fun q=>if q.2.2.1=0 then q.2.2.2.2.2 else 0) (x,j,e,p,R1,g) hinv sl ?_));clear hinv;rintro⟨x,j,e,p,R1,g⟩ hinv;dsimp only at hinv ⊢;rcases hinv with⟨he,hp,hj,E,U,hg,hgf,A⟩ | ⟨he,A⟩
  case inr=>
   have de:decide (e=0)=false:=φ he;refine aA (sgh [(3,.bv false),(10,.bv false)] rfl (aB rfl (fun hb=>absurd hb (by decide)) (fun _=>aH ?_)));rw[A];unfold tpV atV;exact aA (sg rfl (aB rfl (fun _=>sg rfl (aE lF)) (fun hb=>absurd hb (by simp[he]))))
  subst he hp hj;obtain⟨u,R2,rfl⟩:=E.e.ne;obtain⟨g,rfl⟩:∃h,g=h+1:=⟨g-1,by omega⟩
  have ae:=E.get;have huj':=aP aI ae;have hlt:=E.lt;have hz:=hZ u E.mem;have hbu:=a0a u hz;rw[kY] at A;refine aA (skh 9 [(3,.bv true),(7,.row (L.length-(u::R2).length) (aI u))] rfl (kvG (caps:=[]) (args:=[tkV u]) (hin:=[]) (hout:=[]) hbu ?_));refine ak 1 [(3,.bv true),(10,.bv true)] rfl (az (aB rfl (fun hb=>?_) (fun hb=>?_)))
  ·have hb:aNo u=true:=hb;rw[ζ hb] at A;have M:=ab g (by omega) o (u::R2) _ E (by omega) ho;have hok:=jQ g o (u::R2);have B:=eN g o (u::R2);refine aD (aF (sg rfl (sk 3 rfl (kc M ?_))));generalize cU g o (u::R2)=w at hok B A ⊢;cases w with
   | error e=>
    obtain⟨e,p⟩:=e;have he:=B e p rfl;have aa:=aR8 x zTy U.1 rfl;dsimp only at A;unfold tpV atV;refine kz 7 rfl (aC mixed (ak 3 [(2,.all)] rfl (kc aa ?_)));exact kz 1 rfl ⟨(dQ x zTy,0,e,p,[],0),.inr ⟨he,A⟩,by dsimp only;rw[η he,ζ rfl];omega,sl⟩
   | ok y=>
    obtain⟨a,R3⟩:=y;obtain⟨J,_⟩:=hok a R3 rfl;obtain⟨hA3,hle⟩:=E.ok J;have hlen:=J.len;have aa:=aR8 x a U.1 J.w.1;dsimp only at A;rw[lU];unfold atV;refine kz 7 rfl (aC mixed (ak 3 [(2,.all)] rfl (kc aa ?_)));exact kz 1 rfl ⟨(dQ x a,((L.length-R3.length:Nat):Int),0,0,R3,g),.inl ⟨rfl,rfl,rfl,hA3,yU U J.w,by dsimp only;omega,by dsimp only;omega,A⟩,by dsimp only;rw[ζ rfl,ζ rfl];omega,sl⟩
  ·have hb:aNo u=false:=hb;rw[η (by rw[hb];decide)] at A;have hIs:=aBg u arrow hz;refine aH (aA (sg rfl (aB rfl (fun hb=>absurd hb (by decide)) (fun _=>aD (aA (skh 4 [(2,.row (L.length-(u::R2).length) (aI u))] rfl (kc hIs ?_)))))));refine kz 1 rfl ?_;cases hl:isT u arrow with
   | false=>
    rw[hl,η (by decide)] at A;rw[A,lU];exact aB rfl (fun _=>sg rfl (aE lF)) (fun hb=>absurd hb (by decide))
   | true=>
    rw[hl,ζ rfl] at A;obtain⟨hA2,hn⟩:=E.next (by rw[(c8 hl).1];decide)
    rw[ω] at hg;have hty:=ac g (by omega) o R2 _ hA2 (by omega) ho;have hok:=gT g o R2;have B:=eU g o R2;refine aB rfl (fun hb=>absurd hb (by decide)) (fun _=>aD (aA (aC mixed (akN 4 [] rfl (kc hty ?_)))));generalize cI g o R2=w at hok B A ⊢;cases w with
    | error e=>
     obtain⟨e,p⟩:=e;have he:=B e p rfl;dsimp only at A;rw[A];unfold tpV atV;exact kz 8 rfl (aA (sg rfl (aB rfl (fun _=>sg rfl (aE lF)) (fun hb=>absurd hb (by simp[he])))))
    | ok y=>
     obtain⟨to,R3⟩:=y;obtain⟨J,_⟩:=hok to R3 rfl;dsimp only at A;rw[A,lU,lU];have hfu:=a0g x to (aDt U.1) (aDt J.w.1);unfold atV;refine kz 8 rfl (aA (sg rfl (aB rfl (fun hb=>absurd hb (by decide)) (fun _=>aD (skh 3 [(2,.all)] rfl (kc hfu ?_))))));exact kz 5 rfl (aE lF)
 generalize cU f o R=w at hok B A ⊢;cases w with
 | error e=>
  obtain⟨e,p⟩:=e;unfold tpV atV;exact kz 9 rfl (AWp.sub sl (O zTy 0 e p [] 0 (.inr ⟨B e p rfl,A⟩)))
 | ok y=>
  obtain⟨x,R1⟩:=y;obtain⟨J,_⟩:=hok x R1 rfl;obtain⟨E,hle⟩:=Y.ok J;have hlen:=J.len;rw[lU];unfold atV;exact kz 9 rfl (AWp.sub sl (O x _ 0 0 R1 f (.inl ⟨rfl,rfl,rfl,E,J.w,by omega,le_refl _,A⟩)))
theorem aIx (L:List Tk) (hZ:rN L):∀f,(∀g,g≤f→aNj L g)∧∀g,g≤f→aGr L g:=by
 intro f
 induction f with
 | zero=>
  refine⟨fun g u o R i y A=>?_,fun g u o R i y A=>?_⟩
  ·have:=y.lt;omega
  ·have:=y.lt;omega
 | succ f q=>
  refine⟨fun g u=>?_,fun g u=>?_⟩
  ·by_cases h:g≤f
   ·exact q.1 g h
   ·rw[show g=f+1 by omega];exact aVz L hZ f (q.2 f (le_refl _))
  ·by_cases h:g≤f
   ·exact q.2 g h
   ·rw[show g=f+1 by omega];exact aVs L hZ f q.1 q.2
def a01 (L:List Tk) (o:Nat):List Tk→V
 | []=>.tup [.pa (aM ⟨[],zTy⟩),I .i64 0,B false]
 | t::R=>if t.kind=2 then(match cU (3*R.length) o R with
   | .error _=>.tup [.pa (aM ⟨t.text,zTy⟩),I .i64 0,B false]
   | .ok (x,R2)=>.tup [.pa (aM ⟨t.text,x⟩),I .i64 ((L.length-R2.length:Nat):Int),B true])
  else .tup [.pa (aM ⟨[],zTy⟩),I .i64 0,B false]
theorem aL6 (L:List Tk) (hZ:rN L) (o:Nat) (ho:o≤40) (R:List Tk) (i:Nat) (q:At L i R):aW Tryz.prog 211 [qK L,I .i64 (i:Nat),I .i64 (o:Nat)] [] (a01 L o R) []:=by
 have U:(L.map aI).length=L.length:=ξ _;have Y:=q.l;obtain⟨t,R,rfl⟩:=q.e.ne;have A:=q.lt;have B:=q.get;have M:=aP aI B;rw[ω] at A;rw[a01];refine b9 (n:=39) tok Tryz.func211 rfl rfl rfl ?_;refine sg rfl (aA (sgh [(2,.row i (aI t))] rfl ?_));by_cases h2:t.kind=2
 case neg=>
  rw[η h2];have d2:(!decide (t.kind=2))=true:=by rw[φ h2];rfl
  exact aB rfl (fun _=>sg rfl (aE aS3)) (fun hb=>absurd (hb.symm.trans d2) (by decide))
 rw[ζ h2];have d2:(!decide (t.kind=2))=false:=by rw[θ h2];rfl
 refine aB rfl (fun hb=>absurd (hb.symm.trans d2) (by decide)) (fun _=>aD ?_);obtain⟨E,_⟩:=q.next (by omega)
 have J:=(aIx L hZ (3*R.length)).1 (3*R.length) (le_refl _) o R _ E (le_refl _) ho;have u:=eN (3*R.length) o R;refine aA (aC mixed (akN 4 [] rfl (kc J ?_)));generalize cU (3*R.length) o R=w at u ⊢;cases w with
 | error e=>
  obtain⟨e,p⟩:=e;have he:=u e p rfl;have O:decide (e=0)=false:=φ he;unfold tpV atV;refine kz 9 rfl (sgh [(2,.row i (aI t))] rfl ?_);dsimp only;rw[←O];exact aE aS3
 | ok y=>
  obtain⟨x,R1⟩:=y;unfold tpV atV;exact kz 9 rfl (sgh [(2,.row i (aI t))] rfl (aE aS3))
def aYg (L:List Tk):Option (List Prd×List Tk)→V
 | some (out,u::R2)=>if isT u nY=true then .tup [.one (.c (.sl 5 (out.map aM))),I .i64 ((L.length-R2.length:Nat):Int),B true] else .tup [.one (.c .nl),I .i64 0,B false]
 | _=>.tup [.one (.c .nl),I .i64 0,B false]
theorem aU5 (L:List Tk) (hZ:rN L) (R:List Tk) (i:Nat) (M:At L i R) (F:Nat) (hF:R.length+1≤F):aW Tryz.prog 213 [qK L,I .i64 (i:Nat)] [] (aYg L (jV F true R [])) []:=by
 have hkl:(L.map aI).length=L.length:=ξ _;have hLl:=M.l;have ab:=M.lt;have q:∃W,W=jV F true R []:=⟨_,rfl⟩
 obtain⟨W,q⟩:=q;rw[←q];refine b9 (n:=42) tok Tryz.func213 rfl rfl rfl ?_;refine sg rfl (sg rfl (AWp.sub (Sub.own (t:=7) (id:=500) 98 5 rfl rfl) ?_));refine aF (aJ (fun p:Nat×Nat×List Prd×List Tk=>mk [(0,qK L),(1,I .i64 (p.1:Nat)),(7,.one (.hs 500 0 p.2.2.1.length p.2.2.1.length))] [(500,.arr 98 5 (p.2.2.1.map aM) 0)]) (fun p=>At L p.1 p.2.2.2∧p.2.2.2.length+1≤p.2.1∧p.2.2.1.length+p.2.2.2.length≤4001∧W=jV p.2.1 true p.2.2.2 p.2.2.1) (fun p=>p.2.1) (i,F,[],R) ⟨M,hF,by dsimp only;rw[length_nil];omega,q⟩ sl ?_);clear q M ab hF;rintro⟨j,f,out,Q⟩ ⟨E,hf,Y,q⟩;dsimp only at E hf Y q ⊢;have hout:(out.map aM).length=out.length:=ξ _;obtain⟨f,rfl⟩:∃g,f=g+1:=⟨f-1,by omega⟩
 obtain⟨u,Q,rfl⟩:=E.e.ne;have hjl:=E.lt;rw[ω] at hf Y hjl;have A:=aL6 L hZ 1 (by decide) (u::Q) j E;rw[a01] at A;rw[jV] at q;by_cases h2:u.kind=2
 case neg=>
  rw[η h2] at q A;rw[q];unfold aM at A;refine aF (sk 2 rfl (kc A ?_));exact kz 8 rfl (aA (sg rfl (aB rfl (fun _=>sg rfl (aE aOd)) (fun hb=>absurd hb (by decide)))))
 rw[ζ h2] at q A;rw[ζ rfl] at q;have hok:=jQ (3*Q.length) 1 Q;obtain⟨hA1,_⟩:=E.next (by omega)
 generalize cU (3*Q.length) 1 Q=w at hok q A;cases w with
 | error e=>
  dsimp only at q A;rw[q];unfold aM at A;refine aF (sk 2 rfl (kc A ?_));exact kz 8 rfl (aA (sg rfl (aB rfl (fun _=>sg rfl (aE aOd)) (fun hb=>absurd hb (by decide)))))
 | ok y=>
 obtain⟨x,R1⟩:=y;obtain⟨hT,_⟩:=hok x R1 rfl;obtain⟨B,hle⟩:=hA1.ok hT;have hlen:=hT.len;obtain⟨v,R2,rfl⟩:=B.e.ne;dsimp only at q A;rw[Cd] at q;have hvj:=B.get;have hvj':=aP aI hvj;have hv2:=B.lt;rw[ω] at hlen hv2;have hcm:=aBg v rK (hZ v B.mem);have hrp:=aBg v nY (hZ v B.mem);unfold aM at A;have J:out.map aM++[[.str u.text,.int .i64 x.form,.int .i64 x.n,.str x.name,.sl 4 (dK x)]]=(out++[(⟨u.text,x⟩:Prd)]).map aM:=by rw[Af];rfl
 generalize hO:out++[(⟨u.text,x⟩:Prd)]=O at q J;have aa:O.length=out.length+1:=by rw[←hO,ψ];rfl
 generalize L.length-(v::R2).length=k at *;refine aF (sk 2 rfl (kc A ?_));refine kz 8 rfl (aA (sg rfl (aB rfl (fun hb=>absurd hb (by decide)) (fun _=>aD (sgh [(1,.all),(3,.all)] rfl (AWp.sub (st2:=mk [(0,qK L),(1,I .i64 (j:Nat)),(7,.one (.hs 500 0 O.length O.length)),(9,I .i64 (k:Nat))] [(500,.arr 98 5 (O.map aM) 0)]) (sl (he:=⟨rfl,rfl,Go.AM.hs_ren (by rw[aa,←hout];rfl) (by rw[aa,←hout];rfl),rfl,trivial⟩) (hh:=⟨⟨_,rfl,.arrS J⟩,trivial⟩)) ?_))))));refine aA (aF (skh 4 [(2,.row k (aI v))] rfl (kc hrp ?_)));refine kz 1 rfl ?_;have ac:isT v nY=true→isT v rK=false:=fun h=>by
  have h1:=(c8 h).2
  unfold isT;rw[h1];cases decide (v.kind=4)<;>rfl
 cases U:isT v nY with
 | true=>
  rw[η (by rw[ac U];decide)] at q;rw[q,aYg,ζ U];obtain⟨_,hn⟩:=B.next (by rw[(c8 U).1];decide)
  rw[hn];refine aB rfl (fun _=>aA (agN [] rfl (AWp.sub (Sub.freeze (id:=500) rfl) ?_))) (fun hb=>absurd hb (by decide));exact aE aOd
 | false=>
  refine aB rfl (fun hb=>absurd hb (by decide)) (fun _=>skh 4 [(2,.row k (aI v))] rfl (kc hcm ?_));refine kz 2 rfl ?_;cases hc:isT v rK with
  | false=>
   rw[hc,η (by decide)] at q;rw[q,aYg,η (by rw[U];decide)];exact aB rfl (fun _=>sg rfl (aE aOd)) (fun hb=>absurd hb (by decide))
  | true=>
   rw[ζ hc] at q;obtain⟨hA3,_⟩:=B.next (by rw[(c8 hc).1];decide)
   exact aB rfl (fun hb=>absurd hb (by decide)) (fun _=>aD (agN [] rfl ⟨(k+1,f,O,R2),⟨hA3,by dsimp only;omega,by dsimp only;omega,q⟩,by dsimp only;omega,sl⟩))
def aWq (L:List Tk):PR→V
 | .ok (ps,R)=>.tup [.one (.c (.sl 5 (ps.map aM))),I .i64 ((L.length-R.length:Nat):Int),atV 0 0]
 | .error (e,p)=>.tup [.one (.c .nl),I .i64 0,atV e p]
theorem qT (L:List Tk) (ps:List Prd) (R:List Tk):aWq L (.ok (ps,R))=.tup [.one (.c (.sl 5 (ps.map aM))),I .i64 ((L.length-R.length:Nat):Int),atV 0 0]:=rfl
theorem y6 (L:List Tk) (hZ:rN L) (R:List Tk) (i:Nat) (J:At L i R):aW Tryz.prog 193 [qK L,I .i64 (i:Nat)] [] (aWq L (cV R)) []:=by
 have hkl:(L.map aI).length=L.length:=ξ _;have hLl:=J.l;have hlt:=J.lt;have ac:L.length-R.length=i:=by omega
 have A:=aL6 L hZ 0 (by decide) R i J;obtain⟨t,R,rfl⟩:=J.e.ne;have hti:=J.get;have hti':=aP aI hti;have aa:=aBg t cG (hZ t J.mem);have q:∃W,W=cV (t::R):=⟨_,rfl⟩
 obtain⟨W,q⟩:=q;rw[←q];rw[a01] at A;rw[cV] at q;have E:∀st,Sub (keys ([]:List (Nat×AObj))) (mk [(0,qK L),(1,I .i64 (i:Nat)),(6,.one (.vp 6 0)),(9,B false)] [(6,.var 33 [.c (.int .i64 0),.c (.int .i64 0)])]) st→W=.ok ([],t::R)→
   AWp none Tryz.prog 59 (keys ([]:List (Nat×AObj))) (kJ (kJ (kJ (kJ (Tryz.f193.body.getD .skip))))) st (fun ex st=>(ex=.normal∨ex=.ret)∧Fin tr.flat Tryz.f193 st [] (aWq L W) []):=fun st hs hw=>by
  refine AWp.sub hs ?_;rw[hw,qT,ac];exact aA (aF (sgh [(2,.bv true),(9,.bv true)] rfl (aB rfl (fun _=>sg rfl (aE aOe)) (fun hb=>absurd hb (by decide)))))
 have ab:∀(O:List Prd) (m:Nat) (Q:List Tk) (st:St),Sub (keys ([]:List (Nat×AObj))) (mk [(0,qK L),(1,I .i64 (i:Nat)),(6,.one (.vp 6 0)),(8,I .i64 (m:Nat)),(9,B true),(10,.one (.c (.sl 5 (O.map aM))))] [(6,.var 33 [.c (.int .i64 0),.c (.int .i64 0)])]) st→At L m Q→W=aDo t.pl (t::R) O Q→
   AWp none Tryz.prog 59 (keys ([]:List (Nat×AObj))) (kJ (kJ (kJ (kJ (Tryz.f193.body.getD .skip))))) st (fun ex st=>(ex=.normal∨ex=.ret)∧Fin tr.flat Tryz.f193 st [] (aWq L W) []):=fun O m Q st hs M hw=>by
  refine AWp.sub hs ?_;obtain⟨y,Q,rfl⟩:=M.e.ne;have hyj:=M.get;have hyj':=aP aI hyj;have hda:=aBg y darrow (hZ y M.mem);have hB:=pT t 2;have hml:=M.lt;have ad:(O.map aM).length=O.length:=ξ _;rw[aDo] at hw;refine aA (aF (skh 7 [(2,.bv false),(5,.row m (aI y))] rfl (kcG hda ?_)));refine ak 3 [(2,.bv false),(9,.bv false)] rfl (az ?_);cases hd:isT y darrow with
  | false=>
   rw[hd,η (by decide)] at hw;rw[hw,qT,ac];exact aB rfl (fun _=>sg rfl (aE aOe)) (fun hb=>absurd hb (by decide))
  | true=>
   rw[hd,ζ rfl] at hw;obtain⟨_,hn⟩:=M.next (by rw[(c8 hd).1];decide)
   refine aB rfl (fun hb=>absurd hb (by decide)) (fun _=>sg rfl (aB rfl (fun hb=>?_) (fun hb=>?_)))
   ·rw[ζ (by have:=κ hb;rw[ad] at this;omega)] at hw;rw[hw];refine skh 4 [(2,.row i (aI t))] rfl (kc hB ?_);exact kz 3 rfl (aE aOe)
   ·rw[η (by have:=Ac hb;rw[ad] at this;omega)] at hw;rw[hw,qT,hn];exact aD (aA (agN [] rfl (aE aOe)))
 refine b9 (n:=59) tok Tryz.func193 rfl rfl rfl ?_;refine sg rfl ?_;cases hb:isT t cG with
 | true=>
  have h4:=c8 hb;rw[η (by omega)] at A;unfold aM at A;rw[hb,ζ rfl] at q;obtain⟨U,_⟩:=J.next (by omega)
  have hls:=aU5 L hZ R (i+1) U ((t::R).length+1) (by rw[ω];omega);have hok:=fun out R' h=>wU ((t::R).length+1) true R [] out R' (wt R) R.length (le_refl _) (fun p hp=>by cases hp) (by rw[length_nil];omega) h
  refine sk 2 rfl (kc A ?_);refine kz 8 rfl (sgh [(1,.all)] rfl (aA (skh 4 [(2,.row i (aI t))] rfl (kc aa ?_))));refine az ?_;rw[hb];refine aB rfl (fun _=>aC mixed (akN 3 [] rfl (kc hls ?_))) (fun hb=>absurd hb (by decide));generalize jV ((t::R).length+1) true R []=w at hok q ⊢;cases w with
  | none=>
   rw[mE] at q;rw[aYg]
   ·exact kz 7 rfl (E _ sl q)
   ·intro a b c h;cases h
  | some y=>
   obtain⟨out,R2⟩:=y;obtain⟨g1,⟨p,g2,_⟩,_,_⟩:=hok out R2 rfl;obtain⟨Y,hn2⟩:=U.to g2 (g1 U.e);rw[mE] at q;obtain⟨u,R2,rfl⟩:=Y.e.ne;rw[brP,ζ rfl] at q;rw[aYg];by_cases hr:isT u nY=true
   ·rw[ζ hr] at q ⊢;obtain⟨hA3,hn3⟩:=Y.next (by rw[(c8 hr).1];decide)
    rw[hn3];exact kz 7 rfl (ab out _ R2 _ sl hA3 q)
   ·rw[η hr] at q ⊢;exact kz 7 rfl (E _ sl q)
 | false=>
  rw[hb,η (by decide)] at q;rw[jV] at q;by_cases h2:t.kind=2
  case neg=>
   rw[η h2] at q A;unfold aM at A;rw[mE] at q;refine sk 2 rfl (kc A ?_);refine kz 8 rfl (sgh [(1,.all)] rfl (aA (skh 4 [(2,.row i (aI t))] rfl (kc aa ?_))));refine az ?_;rw[hb];exact aB rfl (fun hb=>absurd hb (by decide)) (fun _=>aD (E _ sl q))
  rw[ζ h2] at q A;rw[η (by decide)] at q;obtain⟨U,_⟩:=J.next (by omega)
  have hok:=jQ (3*R.length) 0 R;generalize cU (3*R.length) 0 R=w at hok q A;cases w with
  | error e=>
   dsimp only at q A;unfold aM at A;rw[mE] at q;refine sk 2 rfl (kc A ?_);refine kz 8 rfl (sgh [(1,.all)] rfl (aA (skh 4 [(2,.row i (aI t))] rfl (kc aa ?_))));refine az ?_;rw[hb];exact aB rfl (fun hb=>absurd hb (by decide)) (fun _=>aD (E _ sl q))
  | ok y=>
   obtain⟨x,R1⟩:=y;obtain⟨hT,_⟩:=hok x R1 rfl;obtain⟨Y,hle⟩:=U.ok hT;obtain⟨u,R2,rfl⟩:=Y.e.ne;dsimp only at q A;unfold aM at A;rw[B6,η (by decide),mE,brP,η (by decide),Av] at q;refine sk 2 rfl (kc A ?_);refine kz 8 rfl (sgh [(1,.all)] rfl (aA (skh 4 [(2,.row i (aI t))] rfl (kc aa ?_))));refine az ?_;rw[hb];exact aB rfl (fun hb=>absurd hb (by decide)) (fun _=>aD (ab [⟨t.text,x⟩] _ (u::R2) _ sl Y q))
theorem aFy (L:List Tk) (hZ:rN L) (R:List Tk) (i:Nat) (q:At L i R):aW Tryz.prog 215 [qK L,I .i64 (i:Nat)] [] (tpV L (cI (3*R.length+2) 0 R)) []:=by
 have h:=(aIx L hZ (3*R.length+2)).2 (3*R.length+2) (le_refl _) 0 R i q (le_refl _) (by decide);refine b9 (n:=13) tok Tryz.func215 rfl rfl rfl ?_;refine sg rfl (sk 2 rfl (kc h ?_));generalize cI (3*R.length+2) 0 R=w;cases w with
 | error e=>
  obtain⟨e,p⟩:=e;unfold tpV atV;exact kz 6 rfl (aE lF)
 | ok y=>
  obtain⟨x,R1⟩:=y;unfold tpV atV;exact kz 6 rfl (aE lF)
theorem aQc (L:List Tk) (hZ:rN L) (R:List Tk) (i:Nat) (q:At L i R):aW Tryz.prog 192 [qK L,I .i64 (i:Nat)] [] (tpV L (cU (3*R.length) 0 R)) []:=by
 have h:=(aIx L hZ (3*R.length)).1 (3*R.length) (le_refl _) 0 R i q (le_refl _) (by decide);refine b9 (n:=13) tok Tryz.func192 rfl rfl rfl ?_;refine sg rfl (sk 2 rfl (kc h ?_));generalize cU (3*R.length) 0 R=w;cases w with
 | error e=>
  obtain⟨e,p⟩:=e;unfold tpV atV;exact kz 6 rfl (aE lF)
 | ok y=>
  obtain⟨x,R1⟩:=y;unfold tpV atV;exact kz 6 rfl (aE lF)
theorem pV (l:List (List C)) (h:l.length≤1000000):aW Tryz.prog 216 [.one (.c (.sl 5 l))] [] (.one (.hs 720 0 l.length l.length)) [(720,.arr 98 5 l 0)]:=by
 refine b9 (n:=8) tok Tryz.func216 rfl rfl rfl ?_;refine sg rfl (a0n 0 rfl (fun hl=>?_) ?_)
 ·subst hl;refine aA (sg rfl (aB rfl (fun _=>sg rfl (AWp.sub (Sub.own (t:=2) (id:=720) 98 5 rfl rfl) ?_)) nofun));exact aE rtT
 ·refine aA (sg rfl (aB rfl nofun (fun _=>aD (sgh [(0,.id 720)] rfl (AWp.sub (st2:=mk [(2,.one (.hs 720 0 l.length l.length))] [(720,.arr 98 5 l 0)]) sl ?_)))));exact aE rtT
def kU (s:Sch):List C:=[.sl 1 (s.vars.map aK),.sl 1 [],.sl 5 (s.preds.map aM),.int .i64 s.ty.form,.int .i64 s.ty.n,.str s.ty.name,.sl 4 (dK s.ty)]
def oW:Sch:=⟨[],[],zTy⟩
def spV (L:List Tk):SR→V
 | .ok (s,R)=>.tup [.pa (kU s),I .i64 ((L.length-R.length:Nat):Int),atV 0 0]
 | .error (e,p)=>.tup [.pa (kU oW),I .i64 0,atV e p]
theorem aQ9 (L:List Tk) (s:Sch) (R:List Tk):spV L (.ok (s,R))=.tup [.pa (kU s),I .i64 ((L.length-R.length:Nat):Int),atV 0 0]:=rfl
def aNr:List AM.R:=[.c .nl,.c .nl,.c .nl,.c (.int .i64 0),.c (.int .i64 0),.c (.str []),.c .nl]
theorem aMj (L:List Tk) (hZ:rN L) (R:List Tk) (i:Nat) (U:At L i R) (hwt:wt L≤30000):aW Tryz.prog 195 [qK L,I .i64 (i:Nat)] [] (spV L (cT R)) []:=by
 have hp:=y6 L hZ R i U;have ac:= @nH R;have ad:= @hD R;unfold cT;refine b9 (n:=74) tok Tryz.func195 rfl rfl rfl ?_;refine sg rfl (sk 2 rfl (kc hp ?_));generalize cV R=w at ac ad ⊢;cases w with
 | error e=>
  obtain⟨e,p⟩:=e;have he:=ad rfl;rw[qP];unfold aWq atV;exact kz 8 rfl (aA (sg rfl (aB rfl (fun _=>sg rfl (aE lF)) (fun hb=>absurd hb (by simp[he])))))
 | ok y=>
 obtain⟨ps,R1⟩:=y;obtain⟨k1,⟨q,k2,_⟩,k3,k4⟩:=ac rfl;obtain⟨ae,hn1⟩:=U.to k2 (k1 U.e);rw[qT,qP,hn1];generalize i+q.length=j at ae;have hty:=aFy L hZ R1 j ae;have af:=gT (3*R1.length+2) 0 R1;have ah:=eU (3*R1.length+2) 0 R1;have Y:wt R≤30000:=by
  have:L=L.take i++R:=by rw[←U.d,C2]
  rw[this] at hwt;exact le_trans oX hwt
 have hwtR1:wt R1≤30000:=by rw[k2] at Y;exact le_trans oX Y
 have hRl:=U.lt;have hLl:=U.l;unfold atV;refine kz 8 rfl (aA (sg rfl (aB rfl (fun hb=>absurd hb (by decide)) (fun _=>aD (sk 2 rfl (kc hty ?_))))));generalize cI (3*R1.length+2) 0 R1=w at af ah ⊢;cases w with
 | error e=>
  obtain⟨e,p⟩:=e;have he:=ah e p rfl;rw[qO];unfold tpV atV;exact kz 8 rfl (aA (sg rfl (aB rfl (fun _=>sg rfl (aE lF)) (fun hb=>absurd hb (by simp[he])))))
 | ok y=>
 obtain⟨x,R2⟩:=y;obtain⟨hT,hTn⟩:=af x R2 rfl;rw[lU,qO,aQ9];unfold atV;dsimp only;generalize ((L.length-R2.length:Nat):Int)=m;refine kz 8 rfl (aA (sg rfl (aB rfl (fun hb=>absurd hb (by decide)) (fun _=>aD (sg rfl ?_)))));have hsv:aWm ps x=gP [] (ps++[(⟨[],x⟩:Prd)]):=by rw[aCy];rfl
 rw[hsv];have E:∀p∈ps++[(⟨[],x⟩:Prd)],WF p.ty∧tn p.ty≤30000:=fun p hp=>by
  rcases A4.1 hp with hp | hp
  ·exact⟨(k3 p hp).1,by have:=(k3 p hp).2;omega⟩
  ·rw[Am.1 hp];exact⟨hT.w,by show tn x≤30000;omega⟩
 have hcl:=pV (ps.map aM) (by rw[ξ];omega);have hkl:(ps.map aM).length=ps.length:=ξ _;have O:ps.map aM++[[.str [],.int .i64 x.form,.int .i64 x.n,.str x.name,.sl 4 (dK x)]]=(ps++[(⟨[],x⟩:Prd)]).map aM:=by rw[Af];rfl
 have ai:(ps++[(⟨[],x⟩:Prd)]).length=ps.length+1:=by rw[ψ];rfl
 generalize ps++[(⟨[],x⟩:Prd)]=u at E O ai ⊢;have hqe:(u.map aM).length=u.length:=ξ _;refine aA (sk 1 rfl (kc hcl ?_));refine ak 6 [(4,.all),(5,.fz)] rfl (az (AWp.sub (Sub.own (t:=10) (id:=710) 9 1 rfl rfl) ?_));have B:∀r:List C,(ps.map aM).length+[r].length=u.length:=fun r=>by rw[hkl,ai];rfl
 refine aF (aJ (fun k:Nat=>mk [(1,I .i64 m),(4,.one (.vp 4 0)),(6,.one (.vp 6 0)),(7,.one (.c (.sl 5 (ps.map aM)))),(9,.one (.vp 9 0)),(10,oV (gP [] (u.take k))),(44,.one (.hs 720 0 u.length u.length)),(45,I .i64 (u.length:Nat)),(46,I .i64 (k:Nat))] [(4,.var 45 aNr),(6,.var 33 [.c (.int .i64 0),.c (.int .i64 0)]),(9,.var 43 ((bF x).map .c)),(710,oO (gP [] (u.take k))),(720,.arr 98 5 (u.map aM) 2)]) (fun k=>k≤u.length) (fun k=>u.length-k) 0 (Ab _) (sl (he:=⟨rfl,rfl,rfl,rfl,rfl,rfl,Go.AM.hs_ren (B _) (B _),Go.AM.int_eq (congrArg Int.ofNat (B _)),rfl,trivial⟩) (hh:=⟨⟨_,rfl,.var rfl⟩,⟨_,rfl,.var rfl⟩,⟨_,rfl,.var rfl⟩,⟨_,rfl,Go.AM.Ole.arrE rfl⟩,⟨_,rfl,.arrS O⟩,trivial⟩)) ?_);intro k hk;have hgl:(gP [] (u.take k)).length≤4002*30000:=by
  have h1:=aAp (W:=30000) (u.take k) [] (fun p hp=>(E p (Bb hp)).2);rw[Ai,length_nil] at h1;have:min k u.length*30000≤4002*30000:=A2 _ (by omega);omega
 refine sg rfl (aA (aB rfl (fun hb=>?_) (fun hb=>?_)))
 ·have aj:k<u.length:=by have:=κ hb;omega
  obtain⟨p,hp⟩:=aG aj;have hp':=aP aM hp;have hpm:=E p (ε hp);have al:=aF3 p.ty (by have:=aYx p.ty;omega);have htf:=oY p.ty;have aa:=aCx hp;generalize gP [] (u.take k)=o at hgl aa ⊢;generalize tfR p.ty=l at al htf aa ⊢;have am:(l.map aK).length=l.length:=ξ _;refine aD (aA (aF (sgh [(1,.row k (aM p))] rfl (sk 2 rfl (kc al ?_)))));refine kz 2 rfl (aF (aJ (fun j:Nat=>mk [(1,I .i64 m),(4,.one (.vp 4 0)),(6,.one (.vp 6 0)),(7,.one (.c (.sl 5 (ps.map aM)))),(9,.one (.vp 9 0)),(10,oV (fR o (l.take j))),(44,.one (.hs 720 0 u.length u.length)),(45,I .i64 (u.length:Nat)),(46,I .i64 (k:Nat)),(52,bU l),(53,I .i64 ((l.map aK).length:Nat)),(54,I .i64 (j:Nat))] [(4,.var 45 aNr),(6,.var 33 [.c (.int .i64 0),.c (.int .i64 0)]),(9,.var 43 ((bF x).map .c)),(710,oO (fR o (l.take j))),(720,.arr 98 5 (u.map aM) 2)]) (fun j=>j≤l.length) (fun j=>l.length-j) 0 (Ab _) sl ?_));intro j hj;refine sg rfl (aA (aB rfl (fun hb=>?_) (fun hb=>?_)))
  ·have J:=ltD hb am;obtain⟨s,hs⟩:=aG J;have hs':=aP aK hs;have A:fR o (l.take (j+1))=qF (fR o (l.take j)) s:=by rw[Bh,hs,sH];rfl
   have hml:(fR o (l.take j)).length≤1000000000:=by
    have:=lN (l.take j) o;rw[Ai] at this;omega
   have an:=r4 (fR o (l.take j)) s (by omega);generalize fR o (l.take j)=M at A hml an ⊢;have hml':(M.map aK).length=M.length:=ξ _;refine aD (AWp.sub (Sub.freeze (id:=710) rfl) ?_);refine aA (aF (sgh [(0,.row j (aK s))] rfl (sk 2 rfl (kc an ?_))));refine kz 1 rfl (aB rfl (fun hb=>?_) (fun hb=>?_))
   ·have hm:¬s∈M:=fun h=>by rw[θ h] at hb;cases hb
    unfold qF at A;rw[η hm] at A;refine ag [(2,.all)] rfl (ag [] rfl ⟨j+1,J,by dsimp only;omega,?_⟩);dsimp only;rw[A];exact sl
   ·have hm:s∈M:=by
     by_cases h:s∈M
     ·exact h
     ·rw[φ h] at hb;cases hb
    unfold qF at A;rw[ζ hm] at A;refine aD (ag [] rfl ⟨j+1,J,by dsimp only;omega,?_⟩);dsimp only;rw[A];exact sl
  ·have ab:=geD hb am hj;subst ab;rw[Al];refine aH (ag [] rfl ⟨k+1,aj,by dsimp only;omega,?_⟩);dsimp only;rw[aa];exact sl
 ·have ab:k=u.length:=by have:=Ac hb;omega
  subst ab;rw[Al];refine aH (AWp.sub (Sub.freeze (id:=710) rfl) ?_);exact sg rfl (aE lF)
end Go.Proofs.YtkhgpgihmphfdaaGreatDoor
namespace Go.AM
open Go
section
variable {QP:Value→Prop}{P:Program}{n:Nat}{ops:Array Oper}{draw:Bool}{k:Nat}{st:St}{pre:REs}{Q:St→Prop}{o:Oper}{f:FuncId}{xs:Array Operand}{ts:Array TypeId}{ids:List Nat}{args:List V}{hin:List (Nat×AObj)}{v:Value}
theorem kp (y:aGs P f args hin v) (hq:QP v:=by first | exact fun _ _=>⟨rfl,rfl⟩ | assumption)
  (hb:jO P f:=by exact aMm (by kernel_rfl)) (ho:ops[k]?=some o:=by rfl) (A:o.guard=none:=by rfl) (u:o.op=.call { callee:=.value (.func f),args:=xs,argTypes:=ts }:=by rfl)
  (ha:ArgsV st ids xs.toList args:=by repeat (first | exact .nil | (apply Go.AM.ArgsV.cons rfl;(first | exact .refl | exact .one (.c .nl .nil) | exact .one (.c .sn .nil) | exact .one (.hs rfl (by first | rfl | simp) (by first | rfl | (simp;done) | (simp[Go.AM.take_map];done) | exact Go.AM.take_map.symm) .nil) | exact Go.AM.hs_all rfl rfl (by first | rfl | assumption | (simp;done) | (simp;omega)) (by first | rfl | assumption | (simp;done)) | ((first | apply Go.AM.Conv.pa | apply Go.AM.Conv.agg);repeat (first | exact .nil | apply Go.AM.PureL.c .refl | apply Go.AM.PureL.c .nl | apply Go.AM.PureL.c .sn | (apply Go.AM.PureL.hs;rfl;(first | rfl | simp);(first | rfl | (simp;done) | (simp[Go.AM.take_map];done) | exact Go.AM.take_map.symm))))))))
  (q:iM (fun p=>st.h p.1=some p.2) hin:=by repeat (first | exact trivial | refine⟨rfl,?_⟩)) (hok:gG args hin=true:=by rfl) (B:draw=false:=by rfl) (hl:Nat.blt k ops.size=true:=by rfl):kK QP P n ops draw k st pre Q:=
 aYm (qD.plain ho A (aJz hin hb u y ha q hok)) hq B hl
theorem kpD {d:Nat}(res:V) (hout:List (Nat×AObj)) (y:aGs P f args hin v) (A:kK (fun _=>False) P n ops draw (k+1) ⟨upd st.e d (some res),jT st.h (outs hout),st.d⟩ ((⟨c7 xs.toList,ids++keys hin⟩,⟨some (d,some res),outs hout⟩)::pre) fun _=>True) (hq:QP v:=by first | exact fun _ _=>⟨rfl,rfl⟩ | assumption)
  (hb:jO P f:=by exact aMm (by kernel_rfl)) (ho:ops[k]?=some o:=by rfl) (B:o.guard=none:=by rfl) (u:o.op=.call { callee:=.value (.func f),args:=xs,argTypes:=ts }:=by rfl) (_:o.dst=some d:=by rfl)
  (ha:ArgsV st ids xs.toList args:=by repeat (first | exact .nil | (apply Go.AM.ArgsV.cons rfl;(first | exact .refl | exact .one (.c .nl .nil) | exact .one (.c .sn .nil) | exact .one (.hs rfl (by first | rfl | simp) (by first | rfl | (simp;done) | (simp[Go.AM.take_map];done) | exact Go.AM.take_map.symm) .nil) | exact Go.AM.hs_all rfl rfl (by first | rfl | assumption | (simp;done) | (simp;omega)) (by first | rfl | assumption | (simp;done)) | ((first | apply Go.AM.Conv.pa | apply Go.AM.Conv.agg);repeat (first | exact .nil | apply Go.AM.PureL.c .refl | apply Go.AM.PureL.c .nl | apply Go.AM.PureL.c .sn | (apply Go.AM.PureL.hs;rfl;(first | rfl | simp);(first | rfl | (simp;done) | (simp[Go.AM.take_map];done) | exact Go.AM.take_map.symm))))))))
  (q:iM (fun p=>st.h p.1=some p.2) hin:=by repeat (first | exact trivial | refine⟨rfl,?_⟩)) (hok:gG args hin=true:=by rfl):kK QP P n ops draw k st pre Q:=
 aYl ⟨some (d,some res),outs hout⟩ (qD.plain ho B (aJz hin hb u y ha q hok)) hq A
theorem kpv {x:Operand}{caps:List R}(y:aGs P f (args++caps.map V.one) hin v) (hq:QP v:=by first | exact fun _ _=>⟨rfl,rfl⟩ | assumption)
  (hb:jO P f:=by exact aMm (by kernel_rfl)) (ho:ops[k]?=some o:=by rfl) (A:o.guard=none:=by rfl) (u:o.op=.call { callee:=.value x,args:=xs,argTypes:=ts }:=by rfl) (hx:opv st x=some (.one (.clo f caps)):=by rfl)
  (ha:ArgsV st ids xs.toList args:=by repeat (first | exact .nil | (apply Go.AM.ArgsV.cons rfl;(first | exact .refl | exact .one (.c .nl .nil) | exact .one (.c .sn .nil) | exact .one (.hs rfl (by first | rfl | simp) (by first | rfl | (simp;done) | (simp[Go.AM.take_map];done) | exact Go.AM.take_map.symm) .nil) | exact Go.AM.hs_all rfl rfl (by first | rfl | assumption | (simp;done) | (simp;omega)) (by first | rfl | assumption | (simp;done)) | ((first | apply Go.AM.Conv.pa | apply Go.AM.Conv.agg);repeat (first | exact .nil | apply Go.AM.PureL.c .refl | apply Go.AM.PureL.c .nl | apply Go.AM.PureL.c .sn | (apply Go.AM.PureL.hs;rfl;(first | rfl | simp);(first | rfl | (simp;done) | (simp[Go.AM.take_map];done) | exact Go.AM.take_map.symm))))))))
  (q:iM (fun p=>st.h p.1=some p.2) hin:=by repeat (first | exact trivial | refine⟨rfl,?_⟩)) (hok:gG (args++caps.map V.one) hin=true:=by rfl) (B:draw=false:=by rfl) (hl:Nat.blt k ops.size=true:=by rfl):kK QP P n ops draw k st pre Q:=
 aYm (qD.plain ho A (aOr hin hb u hx y ha q hok)) hq B hl
end
def bH (P:Program) (f:FuncId) (args:List V) (hin:List (Nat×AObj)):Except Value (V×List (Nat×AObj))→Prop
 | .ok (res,hout)=>aW P f args hin res hout
 | .error v=>aGs P f args hin v
def a4f (T:TT) (fn:Func) (hin:List (Nat×AObj)):Except Value (V×List (Nat×AObj))→Exit→St→Prop
 | .ok (res,hout),ex,st=>(ex=.normal∨ex=.ret)∧Fin T fn st hin res hout
 | .error v,ex,st=>ex=pan v∧st.d=[]
theorem pI {P:Program}{T:TT}{f:FuncId}{fn:Func}{c:Code}{n:Nat}{args:List V}{hin:List (Nat×AObj)}{o:Except Value (V×List (Nat×AObj))}(u:Tok P T) (q:P.funcs[f]?=some fn) (hb:fn.body=some c) (hn:fn.ntmps=n) (hle:Nat.ble args.length n=true) (hok:(hin.all fun p=>oC p.2)=true)
  (h:AWp none P n (keys hin) c (mk (aB7 0 args) hin) (a4f T fn hin o)):bH P f args hin o:=by
 cases o with
 | ok x=>obtain⟨res,hout⟩:=x;exact b9 u q hb hn hle h
 | error v=>exact aUc q hb hn hle hok h
end Go.AM
namespace Go.Proofs.YtkhgpgihmphfdaaGreatDoor
open Go Go.AM
set_option maxRecDepth 20000
set_option maxHeartbeats 4000000
theorem rtN {ex:Exit}{fn:Func}{st:St}{hin hout:List (Nat×AObj)}(hex:ex=.normal∨ex=.ret:=by first | exact .inl rfl | exact .inr rfl) (q:fn.results.toList=[]:=by rfl)
  (ho:iM (fun p=>∃o,st.h p.1=some o∧Ole (fun i=>i) o p.2) hout:=by repeat (first | exact trivial | refine⟨⟨_,rfl,by first | exact Go.AM.Ole.arr | exact Go.AM.Ole.var rfl | exact Go.AM.Ole.varS rfl⟩,?_⟩))
  (hok:(subset (V.tup []).refs (keys hout)&&subset (iN hout) (keys hout)&&Go.AM.distinct (keys hout)&&subset (keys hin) (keys hout)&&(hin.all fun p=>p.2.plain)&&(hout.all fun p=>p.2.plain))=true:=by rfl):(ex=.normal∨ex=.ret)∧Fin tr.flat fn st hin (.tup []) hout:=
 ⟨hex,⟨[],[],by rw[q];exact .nil,.nil,rfl⟩,ho,hok⟩
theorem rtH {fn:Func}{st:St}{hin hout:List (Nat×AObj)}{t id len sz te es:Nat}{elems:List (List C)}(q:fn.results.toList=[.tmp t]:=by rfl) (hv:st.e t=some (.one (.hs id 0 len sz)):=by rfl) (hh:st.h id=some (.arr te es elems 2):=by rfl) (hsz:sz=elems.length:=by first | rfl | assumption | (simp;done))
  (hlen:len=elems.length:=by first | rfl | assumption | (simp;done))
  (ho:iM (fun p=>∃o,st.h p.1=some o∧Ole (fun i=>i) o p.2) hout:=by repeat (first | exact trivial | refine⟨⟨_,rfl,by first | exact Go.AM.Ole.arr | exact Go.AM.Ole.var rfl | exact Go.AM.Ole.varS rfl⟩,?_⟩))
  (hok:(subset (V.one (.c (.sl es elems))).refs (keys hout)&&subset (iN hout) (keys hout)&&Go.AM.distinct (keys hout)&&subset (keys hin) (keys hout)&&(hin.all fun p=>p.2.plain)&&(hout.all fun p=>p.2.plain))=true:=by rfl):(Exit.ret=.normal∨Exit.ret=.ret)∧Fin tr.flat fn st hin (.one (.c (.sl es elems))) hout:=
 rtT (hc:=.one (.hs hh hsz (Go.AM.take_all hlen) .nil)) q hv (ho:=ho) (hok:=hok)
structure Z where
 R:List Tk
 e:Int
 p:Int
def zTk:Tk:=⟨0,[],0,0⟩
def b8 (z:Z):Tk:=z.R.headD zTk
def bV (e p:Int) (z:Z):Z:=if z.e=0 then⟨z.R,e,p⟩ else z
def isK (s:Str) (t:Tk):Bool:=(decide (t.kind=4) || decide (t.kind=5))&&decide (t.text=s)
def isZ (s:Str) (z:Z):Bool:=isK s (b8 z)
def bT (s:Str) (z:Z):Bool×Z:=if z.e=0∧isZ s z=true then(true,⟨z.R.tail,z.e,z.p⟩) else(false,z)
def aQ (s:Str) (z:Z):Z:=if(bT s z).1=true then(bT s z).2 else bV 12 (b8 z).pl z
def aR (k:Int) (z:Z):Tk×Z:=if z.e=0∧(b8 z).kind=k then(b8 z,⟨z.R.tail,z.e,z.p⟩) else(⟨0,[],0,(b8 z).pl⟩,bV 12 (b8 z).pl z)
def qU (t:Tk):Bool:=decide (t.kind=1)
def aU (z:Z):List Tk×Z:=if z.e=0 then(z.R.takeWhile qU,⟨z.R.dropWhile qU,z.e,z.p⟩) else([],z)
def c0 (n most:Nat) (at':Int) (z:Z):Z:=if most<n then bV 2 at' z else z
def ZA (L:List Tk) (z:Z):Prop:=At L (L.length-z.R.length) z.R
def xP:V:=.one (.vp 700 0)
def zO (L:List Tk) (z:Z):AObj:=.var 78 [.c (.sl 4 (L.map aI)),.c (.int .i64 ((L.length-z.R.length:Nat):Int)),.c (.int .i64 z.e),.c (.int .i64 z.p)]
theorem qY (e p:Int) (z:Z):(bV e p z).R=z.R:=by unfold bV;split<;>rfl
theorem ZA.fail {L:List Tk}{z:Z}(h:ZA L z) (e p:Int):ZA L (bV e p z):=by unfold ZA;rw[qY];exact h
theorem ZA.tl {L:List Tk}{z:Z}(h:ZA L z) (q:¬(b8 z).kind=6) (e p:Int):ZA L ⟨z.R.tail,e,p⟩∧L.length-z.R.tail.length=L.length-z.R.length+1:=by
 obtain⟨R,e',u⟩:=z;obtain⟨t,R,rfl⟩:=h.e.ne;have hn:¬t.kind=6:=q;obtain⟨h1,h2⟩:=At.next h hn
 unfold ZA;rw[show(Z.mk (t::R) e' u).R.tail=R from rfl,h2];exact⟨h1,rfl⟩
theorem lP {s:Str}{t:Tk}(h:isK s t=true):¬t.kind=6:=fun e=>by
 unfold isK at h;rw[e] at h;simp at h
theorem ZA.may {L:List Tk}{z:Z}(h:ZA L z) (s:Str):ZA L (bT s z).2:=by
 unfold bT;split
 ·rename_i hc;exact(h.tl (lP hc.2) _ _).1
 ·exact h
theorem ZA.need {L:List Tk}{z:Z}(h:ZA L z) (s:Str):ZA L (aQ s z):=by
 unfold aQ;split
 ·exact h.may s
 ·exact h.fail _ _
theorem ZA.word {L:List Tk}{z:Z}(h:ZA L z) {k:Int}(q:¬k=6):ZA L (aR k z).2:=by
 unfold aR;split
 ·rename_i hc;exact(h.tl (by rw[hc.2];exact q) _ _).1
 ·exact h.fail _ _
theorem aAz:∀{R:List Tk},qE R→qE (R.dropWhile qU)∧∃p,R=p++R.dropWhile qU
 | [],h=>by obtain⟨t,R',e⟩:=h.ne;cases e
 | t::R,h=>by
  rw[Ci];split
  ·rename_i hb;have q:t.kind=1:=κ hb;have h':=h.tail (by omega);obtain⟨h1,p,h2⟩:=aAz h';exact⟨h1,t::p,by rw[As,←h2]⟩
  ·exact⟨h,[],rfl⟩
theorem ZA.suf {L:List Tk}{z:Z}(h:ZA L z) {R p:List Tk}(hs:z.R=p++R) (he:qE R) (e q:Int):ZA L ⟨R,e,q⟩:=by
 obtain⟨h1,h2⟩:=At.to h hs he;show At L (L.length-R.length) R;rw[h2];exact h1
theorem ZA.words {L:List Tk}{z:Z}(h:ZA L z):ZA L (aU z).2:=by
 unfold aU;split
 ·obtain⟨h1,p,h2⟩:=aAz h.e;exact h.suf h2 h1 _ _
 ·exact h
theorem ZA.long {L:List Tk}{z:Z}(h:ZA L z) (n q:Nat) (at':Int):ZA L (c0 n q at' z):=by
 unfold c0;split
 ·exact h.fail _ _
 ·exact h
theorem ZA.now {L:List Tk}{z:Z}(h:ZA L z):L[L.length-z.R.length]?=some (b8 z):=by
 obtain⟨R,e',q⟩:=z;obtain⟨t,R,rfl⟩:=h.e.ne;exact At.get h
theorem iA {L:List Tk}{z:Z}(h:ZA L z):aW Tryz.prog 82 [xP] [(700,zO L z)] (tkV (b8 z)) [(700,zO L z)]:=by
 have hl:=aP aI h.now;have q:(L.map aI).length=L.length:=ξ _;have u:=h.lt;have y:=h.l;refine b9 (n:=13) tok Tryz.func82 rfl rfl rfl ?_;exact sg rfl (sgh [(8,.row (L.length-z.R.length) (aI (b8 z)))] rfl (aE (rtC trw)))
theorem eR (L:List Tk) (z:Z) (e p:Int):aW Tryz.prog 83 [xP,I .i64 e,I .i64 p] [(700,zO L z)] (.tup []) [(700,zO L (bV e p z))]:=by
 refine b9 (n:=18) tok Tryz.func83 rfl rfl rfl ?_;refine sg rfl ?_;unfold bV;refine aB rfl (fun hb=>?_) (fun hb=>?_)
 ·rw[ζ (κ hb)];exact ag [] rfl rtN
 ·rw[η (Ac hb)];exact aD rtN
theorem fP (L:List Tk) (z:Z):aW Tryz.prog 31 [xP] [(700,zO L z)] (B (decide (z.e=0))) [(700,zO L z)]:=by
 refine b9 (n:=9) tok Tryz.func31 rfl rfl rfl ?_;exact sg rfl (sg rfl (aE rtT))
theorem aMb {L:List Tk}{z:Z}(h:ZA L z) (s:Str):aW Tryz.prog 129 [xP,Go.AM.T s] [(700,zO L z)] (B (isZ s z)) [(700,zO L z)]:=by
 have hn:=iA h;unfold isZ;generalize b8 z=t at hn ⊢;unfold isK;refine b9 (n:=22) tok Tryz.func129 rfl rfl rfl ?_;refine sg rfl (sk 1 rfl (kc hn ?_));refine kz 2 rfl ?_;by_cases q:t.kind=4
 ·have d4:decide (t.kind=4)=true:=θ q;rw[d4,B7,Cd];exact sgh [(3,.bv true),(7,.bv true),(8,.bv true),(13,.bv true)] rfl (aE rtT)
 have d4:decide (t.kind=4)=false:=φ q;rw[d4,A9];by_cases u:t.kind=5
 ·have d5:decide (t.kind=5)=true:=θ u;rw[d5,Cd];exact sgh [(3,.bv false),(7,.bv false),(8,.bv true),(13,.bv true)] rfl (aE rtT)
 ·have d5:decide (t.kind=5)=false:=φ u;rw[d5,B6];exact sgh [(3,.bv false),(7,.bv false),(8,.bv false),(13,.bv false)] rfl (aE rtT)
theorem kD {L:List Tk}{z:Z}(h:ZA L z) (s:Str):aW Tryz.prog 76 [xP,Go.AM.T s] [(700,zO L z)] (B (bT s z).1) [(700,zO L (bT s z).2)]:=by
 have ho:=fP L z;have hi:=aMb h s;have q:= @lP s (b8 z);refine b9 (n:=22) tok Tryz.func76 rfl rfl rfl ?_;refine sg rfl ?_;unfold bT;by_cases he:z.e=0
 case neg=>
  rw[η (fun h=>he h.1)];rw[φ he] at ho;refine aA (sk 1 rfl (kc ho ?_));exact ak 7 [(3,.bv true),(8,.bv true)] rfl (az (aB rfl (fun _=>sg rfl (aE rtT)) (fun hb=>absurd hb (by decide))))
 rw[θ he] at ho;refine aA (sk 1 rfl (kc ho ?_));refine ak 4 [(3,.bv false)] rfl (kcG hi ?_);refine ak 2 [(3,.bv false),(8,.bv false)] rfl (az ?_);cases y:isZ s z with
 | false=>
  rw[η (fun h=>by cases h.2)];exact aB rfl (fun _=>sg rfl (aE rtT)) (fun hb=>absurd hb (by decide))
 | true=>
  rw[ζ ⟨he,rfl⟩];have u:isK s (b8 z)=true:=y;obtain⟨_,hn⟩:=h.tl (q u) z.e z.p;have A:=h.l;unfold zO;dsimp only;rw[hn];exact aB rfl (fun hb=>absurd hb (by decide)) (fun _=>aD (aA (agN [] rfl (sg rfl (aE rtT)))))
theorem dL {L:List Tk}{z:Z}(h:ZA L z) (s:Str):aW Tryz.prog 135 [xP,Go.AM.T s] [(700,zO L z)] (.tup []) [(700,zO L (aQ s z))]:=by
 have hm:=kD h s;have q:=eR L z 12 (b8 z).pl;have hn:=iA h;refine b9 (n:=13) tok Tryz.func135 rfl rfl rfl ?_;refine sk 2 rfl (kc hm ?_);refine kz 1 rfl ?_;unfold aQ;cases hb:(bT s z).1 with
 | true=>
  rw[ζ rfl];exact aB rfl (fun hb=>absurd hb (by decide)) (fun _=>aD rtN)
 | false=>
  have e:(bT s z).2=z:=by
   unfold bT at hb ⊢;split
   ·rename_i hc;rw[ζ hc] at hb;cases hb
   ·rfl
  rw[η (by decide),e];refine aB rfl (fun _=>aC mixed (ak 2 [] rfl (kc hn ?_))) (fun hb=>absurd hb (by decide));refine ak 1 [] rfl (kc q ?_);exact az rtN
theorem kH {L:List Tk}{z:Z}(h:ZA L z) (k:Int) (A:¬k=6):aW Tryz.prog 132 [xP,I .i64 k] [(700,zO L z)] (tkV (aR k z).1) [(700,zO L (aR k z).2)]:=by
 have ho:=fP L z;have u:=eR L z 12 (b8 z).pl;have hn:=iA h;have y:=h.tl;refine b9 (n:=33) tok Tryz.func132 rfl rfl rfl ?_;refine sg rfl (sk 1 rfl (kc hn ?_));refine kz 2 rfl ?_;unfold aR;by_cases he:z.e=0
 case neg=>
  rw[η (fun h=>he h.1)];rw[φ he] at ho;refine aA (sk 1 rfl (kc ho ?_));refine ak 7 [(3,.bv true),(8,.bv true)] rfl (az (aB rfl (fun _=>sk 3 rfl (kc u ?_)) (fun hb=>absurd hb (by decide))));exact az (sg rfl (aE (rtC trw)))
 rw[θ he] at ho;refine aA (sk 1 rfl (kc ho ?_));refine ak 7 [(3,.bv false),(8,.bv false)] rfl (az ?_);by_cases q:(b8 z).kind=k
 ·have d:(!decide ((b8 z).kind=k))=false:=by rw[θ q];rfl
  rw[ζ ⟨he,q⟩];obtain⟨_,hn⟩:=y (by rw[q];exact A) z.e z.p;have B:=h.l;unfold zO;dsimp only;rw[hn];exact aB rfl (fun hb=>absurd (hb.symm.trans d) (by decide)) (fun _=>aD (aA (agN [] rfl (sg rfl (aE (rtC trw))))))
 ·have d:(!decide ((b8 z).kind=k))=true:=by rw[φ q];rfl
  rw[η (fun h=>q h.2)];refine aB rfl (fun _=>sk 3 rfl (kc u ?_)) (fun hb=>absurd (hb.symm.trans d) (by decide));exact az (sg rfl (aE (rtC trw)))
theorem n5 (L:List Tk) (z:Z) (n q:Nat) (at':Int):aW Tryz.prog 131 [xP,I .i64 (n:Nat),I .i64 (q:Nat),I .i64 at'] [(700,zO L z)] (.tup []) [(700,zO L (c0 n q at' z))]:=by
 have u:=eR L z 2 at';refine b9 (n:=14) tok Tryz.func131 rfl rfl rfl ?_;refine sg rfl ?_;unfold c0;refine aB rfl (fun hb=>?_) (fun hb=>?_)
 ·rw[ζ (by have:=κ hb;omega)];refine aC mixed (ak 2 [] rfl (kc u ?_));exact az rtN
 ·rw[η (by have:=Ac hb;omega)];exact aD rtN
def cM:Str:=[59]
def eD (s:Str) (z:Z):Bool:=if s=[] then decide ((b8 z).kind=6) else isZ s z
def moreA (shut:Str) (n:Nat) (z:Z):Z:=if 0<n∧z.e=0∧isZ cM z=false∧eD shut z=false then bV 12 (b8 z).pl z else z
def dC (z:Z):Z:=if z.e=0 then⟨z.R.dropWhile (isK cM),z.e,z.p⟩ else z
def b6 (shut:Str) (n:Nat) (z:Z):Bool×Z:=
 if ¬(dC (moreA shut n z)).e=0∨eD shut (dC (moreA shut n z))=true then(false,dC (moreA shut n z))
 else(decide ((c0 (n+1) 60 (b8 (dC (moreA shut n z))).pl (dC (moreA shut n z))).e=0),c0 (n+1) 60 (b8 (dC (moreA shut n z))).pl (dC (moreA shut n z)))
def aXg (z:Z):SR→Sch×Z
 | .ok (s,R')=>(s,⟨R',z.e,z.p⟩)
 | .error (e,p)=>(oW,⟨z.R,e,p⟩)
def bM (z:Z):Sch×Z:=if z.e=0 then aXg z (cT z.R) else(oW,z)
def a18 (z:Z):PR→List Prd×Z
 | .ok (s,R')=>(s,⟨R',z.e,z.p⟩)
 | .error (e,p)=>([],⟨z.R,e,p⟩)
def bD (z:Z):List Prd×Z:=if z.e=0 then a18 z (cV z.R) else([],z)
theorem aRa {R:List Tk}{s:Sch}{R':List Tk}(h:cT R=.ok (s,R')):(qE R→qE R')∧(∃p,R=p++R'∧1≤p.length)∧WF s.ty∧tn s.ty≤wt R∧(∀p∈s.preds,WF p.ty∧tn p.ty≤wt R)∧s.preds.length≤R.length∧s.vars=aWm s.preds s.ty:=by
 unfold cT at h;cases hp:cV R with
 | error e=>obtain⟨e,p⟩:=e;rw[hp,qP] at h;cases h
 | ok y=>
  obtain⟨ps,R1⟩:=y;rw[hp,qP] at h;obtain⟨A,⟨q,u,_⟩,B,E⟩:=nH hp;cases hw:cI (3*R1.length+2) 0 R1 with
  | error e=>obtain⟨e,p⟩:=e;rw[hw,qO] at h;cases h
  | ok y=>
   obtain⟨x,R2⟩:=y;rw[hw,qO] at h;obtain⟨⟨g1,⟨I,g2,g3⟩,g4⟩,g5⟩:=gT _ _ _ _ _ hw;cases h;have:wt R1≤wt R:=by rw[u];exact oX
   exact⟨fun he=>g1 (A he),⟨q++I,by rw[u,g2,Aj],by rw[ψ];omega⟩,g4,by show tn x≤_;omega,B,E,rfl⟩
theorem ZA.scheme {L:List Tk}{z:Z}(h:ZA L z):ZA L (bM z).2:=by
 unfold bM;split
 ·cases hs:cT z.R with
  | error e=>obtain⟨e,p⟩:=e;exact h
  | ok y=>
   obtain⟨s,R'⟩:=y;obtain⟨h1,⟨p,h2,_⟩,_⟩:=aRa hs;exact h.suf h2 (h1 h.e) _ _
 ·exact h
theorem ZA.preds {L:List Tk}{z:Z}(h:ZA L z):ZA L (bD z).2:=by
 unfold bD;split
 ·cases hs:cV z.R with
  | error e=>obtain⟨e,p⟩:=e;exact h
  | ok y=>
   obtain⟨s,R'⟩:=y;obtain⟨h1,⟨p,h2,_⟩,_⟩:=nH hs;exact h.suf h2 (h1 h.e) _ _
 ·exact h
theorem vK (s:Str):∀{R:List Tk},qE R→qE (R.dropWhile (isK s))∧∃p,R=p++R.dropWhile (isK s)
 | [],h=>by obtain⟨t,R',e⟩:=h.ne;cases e
 | t::R,h=>by
  rw[Ci];split
  ·rename_i hb;have h':=h.tail (lP hb);obtain⟨h1,p,h2⟩:=vK s h';exact⟨h1,t::p,by rw[As,←h2]⟩
  ·exact⟨h,[],rfl⟩
theorem ZA.semi {L:List Tk}{z:Z}(h:ZA L z):ZA L (dC z):=by
 unfold dC;split
 ·obtain⟨h1,p,h2⟩:=vK cM h.e;exact h.suf h2 h1 _ _
 ·exact h
theorem ZA.moreA {L:List Tk}{z:Z}(h:ZA L z) (s:Str) (n:Nat):ZA L (moreA s n z):=by
 unfold Proofs.YtkhgpgihmphfdaaGreatDoor.moreA;split
 ·exact h.fail _ _
 ·exact h
theorem ZA.more {L:List Tk}{z:Z}(h:ZA L z) (s:Str) (n:Nat):ZA L (b6 s n z).2:=by
 unfold b6;split
 ·exact(h.moreA s n).semi
 ·exact(h.moreA s n).semi.long _ _ _
theorem y1 {L:List Tk}{z:Z}(he:z.e=0) (x:Ty) (ps vs:C) (R':List Tk):aW Tryz.prog 136 [xP,.pa (aA0 x ps vs ((L.length-R'.length:Nat):Int) 0 0)] [(700,zO L z)] (.pa (aA0 x ps vs ((L.length-R'.length:Nat):Int) 0 0)) [(700,zO L ⟨R',z.e,z.p⟩)]:=by
 have ho:=fP L z;rw[θ he] at ho;refine b9 (n:=25) tok Tryz.func136 rfl rfl rfl ?_;refine sg rfl (aA (sk 1 rfl (kc ho ?_)));exact kz 1 rfl (aB rfl (fun hb=>absurd hb (by decide)) (fun _=>aD (aA (sg rfl (aB rfl (fun hb=>absurd hb (by decide)) (fun _=>aD (sg rfl (sg rfl (aE (rtC trw))))))))))
theorem u5 {L:List Tk}{z:Z}(he:z.e=0) (e p:Int) (q:¬e=0):aW Tryz.prog 136 [xP,.pa (aA0 zTy .nl .nl 0 e p)] [(700,zO L z)] (.pa (aA0 zTy .nl .nl 0 0 0)) [(700,zO L ⟨z.R,e,p⟩)]:=by
 have ho:=fP L z;rw[θ he] at ho;have d:(!decide (e=0))=true:=by rw[φ q];rfl
 refine b9 (n:=25) tok Tryz.func136 rfl rfl rfl ?_;refine sg rfl (aA (sk 1 rfl (kc ho ?_)));exact kz 1 rfl (aB rfl (fun hb=>absurd hb (by decide)) (fun _=>aD (aA (sg rfl (aB rfl (fun _=>sg rfl (sg rfl (aE (rtC trw)))) (fun hb=>absurd (hb.symm.trans d) (by decide)))))))
theorem u6 {L:List Tk}{z:Z}(h:ZA L z) (hwt:wt L≤30000):aW Tryz.prog 96 [xP] [(700,zO L z)] (.pa (kU (bM z).1)) [(700,zO L (bM z).2)]:=by
 have ho:=fP L z;refine b9 (n:=26) tok Tryz.func96 rfl rfl rfl ?_;refine sg rfl (aA (sk 1 rfl (kc ho ?_)));refine kz 1 rfl ?_;unfold bM;by_cases he:z.e=0
 case neg=>
  rw[η he];exact aB rfl (fun _=>sg rfl (aE (rtC trw))) (fun hb=>absurd hb (by simp[he]))
 rw[ζ he];have u:=aMi L z.R _ h hwt;have q:= @qN z.R;refine aB rfl (fun hb=>absurd hb (by simp[he])) (fun _=>aD (sk 9 rfl (kc u ?_)));generalize cT z.R=w at q ⊢;cases w with
 | error e=>
  obtain⟨e,p⟩:=e;have ht:=u5 (L:=L) he e p (q rfl);refine kc ht ?_;exact kz 2 rfl (sg rfl (aE (rtC trw)))
 | ok y=>
  obtain⟨s,R'⟩:=y;have ht:=y1 (L:=L) he s.ty (.sl 5 (s.preds.map aM)) (.sl 1 (s.vars.map aK)) R';rw[aRc];refine kc ht ?_;exact kz 2 rfl (sg rfl (aE (rtC trw)))
theorem aF9 {L:List Tk}{z:Z}(h:ZA L z):aW Tryz.prog 138 [xP] [(700,zO L z)] (.one (.c (.sl 5 ((bD z).1.map aM)))) [(700,zO L (bD z).2)]:=by
 have ho:=fP L z;refine b9 (n:=18) tok Tryz.func138 rfl rfl rfl ?_;refine sg rfl (aA (sk 1 rfl (kc ho ?_)));refine kz 1 rfl ?_;unfold bD;by_cases he:z.e=0
 case neg=>
  rw[η he];exact aB rfl (fun _=>sg rfl (aE rtT)) (fun hb=>absurd hb (by simp[he]))
 rw[ζ he];have u:=aGd L z.R _ h;have q:= @hD z.R;refine aB rfl (fun hb=>absurd hb (by simp[he])) (fun _=>aD (sk 9 rfl (kc u ?_)));generalize cV z.R=w at q ⊢;cases w with
 | error e=>
  obtain⟨e,p⟩:=e;have ht:=u5 (L:=L) he e p (q rfl);refine kc ht ?_;exact kz 2 rfl (aE rtT)
 | ok y=>
  obtain⟨s,R'⟩:=y;have ht:=y1 (L:=L) he zTy (.sl 5 (s.map aM)) .nl R';rw[tG];refine kc ht ?_;exact kz 2 rfl (aE rtT)
theorem aL4 {L:List Tk}{z:Z}(h:ZA L z) (s:Str):aW Tryz.prog 130 [xP,Go.AM.T s] [(700,zO L z)] (B (eD s z)) [(700,zO L z)]:=by
 have hn:=iA h;have hi:=aMb h s;refine b9 (n:=14) tok Tryz.func130 rfl rfl rfl ?_;refine sg rfl (aA (sg rfl ?_));unfold eD;refine aB rfl (fun hb=>?_) (fun hb=>?_)
 ·rw[ζ (κ hb)];refine sk 1 rfl (kc hn ?_);exact kz 3 rfl (aE rtT)
 ·rw[η (Ac hb)];refine aD (sk 2 rfl (kc hi ?_));exact kz 1 rfl (aE rtT)
theorem nK {L:List Tk}{z:Z}(h:ZA L z):dC (bT cM z).2=dC z∧((bT cM z).1=false→(bT cM z).2=z∧dC z=z)∧((bT cM z).1=true→(bT cM z).2.R.length<z.R.length):=by
 obtain⟨R,e,p⟩:=z;obtain⟨t,R,rfl⟩:=h.e.ne;unfold bT;split
 ·rename_i hc;have q:isK cM t=true:=hc.2;refine⟨?_,fun e=>Bool.noConfusion e,fun _=>by show R.length<(t::R).length;rw[ω];omega⟩;unfold dC;have he:e=0:=hc.1;rw[ζ he,ζ he];show Z.mk (R.dropWhile _) _ _=Z.mk ((t::R).dropWhile _) _ _;rw[Ci,ζ q]
 ·rename_i hc;refine⟨rfl,fun _=>⟨rfl,?_⟩,fun e=>Bool.noConfusion e⟩;unfold dC;split
  ·rename_i he;have q:¬isK cM t=true:=fun q=>hc ⟨he,q⟩
   rw[show(Z.mk (t::R) e p).R.dropWhile (isK cM)=t::R from by show(t::R).dropWhile _=_;rw[Ci,η q]]
  ·rfl
theorem u7 {L:List Tk}{z:Z}(h:ZA L z) (s:Str) (n:Nat) (hnl:n≤4001):aW Tryz.prog 75 [xP,Go.AM.T s,I .i64 (n:Nat)] [(700,zO L z)] (B (b6 s n z).1) [(700,zO L (b6 s n z).2)]:=by
 have ho:=fP L z;have hi:=aMb h cM;have hs:=aL4 h s;have hn:=iA h;have hf:=eR L z 12 (b8 z).pl;have M:=h.moreA s n;have q:∀y st,ZA L y→Sub (keys [(700,zO L z)]) (mk [(0,xP),(1,Go.AM.T s),(2,I .i64 (n:Nat))] [(700,zO L y)]) st→moreA s n z=y→
   AWp none Tryz.prog 48 (keys [(700,zO L z)]) (kJ (kJ (Tryz.f75.body.getD .skip))) st (fun ex st=>(ex=.normal∨ex=.ret)∧Fin tr.flat Tryz.f75 st [(700,zO L z)] (B (b6 s n z).1) [(700,zO L (b6 s n z).2)]):=fun y st h1 U Y=>by
  refine AWp.sub U ?_;unfold b6;rw[Y];refine aA (aF (aJ (fun z2:Z=>mk [(0,xP),(1,Go.AM.T s),(2,I .i64 (n:Nat))] [(700,zO L z2)]) (fun z2=>ZA L z2∧dC y=dC z2) (fun z2=>z2.R.length) y ⟨h1,rfl⟩ sl ?_));rintro z2 ⟨h2,e2⟩;have hm:=kD h2 cM;obtain⟨m1,m2,m3⟩:=nK h2;refine aA (sk 1 rfl (kc hm ?_));refine az ?_;have O:=h2.may cM;generalize bT cM z2=m at m1 m2 m3 O ⊢;obtain⟨b,z3⟩:=m;refine aB rfl (fun hb=>?_) (fun hb=>?_)
  ·have hb:b=true:=hb;exact aD (aF (aD ⟨z3,⟨O,e2.trans m1.symm⟩,m3 hb,sl⟩))
  ·have hb:b=false:=hb;have e3:dC y=z3:=by
    dsimp only at m2;obtain⟨g1,g2⟩:=m2 hb;rw[e2,g2,g1]
   rw[e3];have h3:ZA L z3:=O;have A:=fP L z3;have hs3:=aL4 h3 s;have hn3:=iA h3;have hl3:=n5 L z3 (n+1) 60 (b8 z3).pl;refine aH ?_;by_cases E:z3.e=0
   case neg=>
    rw[ζ (.inl E)];rw[φ E] at A;refine aA (sk 1 rfl (kc A ?_));exact ak 6 [(3,.bv true),(7,.bv true)] rfl (az (aB rfl (fun _=>sg rfl (aE rtT)) (fun hb=>absurd hb (by decide))))
   rw[θ E] at A;refine aA (sk 1 rfl (kc A ?_));refine ak 4 [(3,.bv false)] rfl (kcG hs3 ?_);refine ak 1 [(3,.bv false),(7,.bv false)] rfl (az ?_);cases u:eD s z3 with
   | true=>
    rw[ζ (.inr rfl)];exact aB rfl (fun _=>sg rfl (aE rtT)) (fun hb=>absurd hb (by decide))
   | false=>
    rw[η (by rintro(h | h);exact h E;cases h)];refine aB rfl (fun hb=>absurd hb (by decide)) (fun _=>aD (aA (aC mixed (akN 4 [] rfl (kc hn3 ?_)))));refine ak 1 [] rfl (kc hl3 ?_);refine az ?_;have ho4:=fP L (c0 (n+1) 60 (b8 z3).pl z3);refine sk 1 rfl (kc ho4 ?_);exact kz 1 rfl (aE rtT)
 have hfz:=h.fail 12 (b8 z).pl;refine b9 (n:=48) tok Tryz.func75 rfl rfl rfl ?_;refine sg rfl ?_;unfold moreA at M q;by_cases h0:0<n
 case neg=>
  have d0:decide ((0:Int)<(n:Int))=false:=φ (by omega);rw[η (fun h=>h0 h.1)] at M q;exact aA (sgh [(2,.bv false),(5,.bv false),(6,.bv false),(10,.bv false),(11,.bv false),(16,.bv false)] rfl (aB rfl (fun hb=>absurd hb (by decide)) (fun _=>aD (q z _ h sl rfl))))
 have d0:decide ((0:Int)<(n:Int))=true:=θ (by omega);by_cases he:z.e=0
 case neg=>
  rw[η (fun h=>he h.2.1)] at M q;rw[φ he] at ho;refine aA (skh 4 [(2,.bv true)] rfl (kcG ho ?_));exact ak 12 [(2,.bv true),(5,.bv true),(6,.bv false),(10,.bv false),(11,.bv false),(16,.bv false)] rfl (az (aB rfl (fun hb=>absurd hb (by decide)) (fun _=>aD (q z _ h sl rfl))))
 rw[θ he] at ho;cases J:isZ cM z with
 | true=>
  rw[η (fun h=>by rw[J] at h;cases h.2.2.1)] at M q;rw[J] at hi;refine aA (skh 4 [(2,.bv true)] rfl (kcG ho ?_));refine ak 3 [(2,.bv true),(5,.bv true),(6,.bv true)] rfl (kcG hi ?_);exact ak 9 [(6,.bv true),(10,.bv true),(11,.bv false),(16,.bv false)] rfl (az (aB rfl (fun hb=>absurd hb (by decide)) (fun _=>aD (q z _ h sl rfl))))
 | false=>
 rw[J] at hi;cases u:eD s z with
 | true=>
  rw[η (fun h=>by rw[u] at h;cases h.2.2.2)] at M q;rw[u] at hs;refine aA (skh 4 [(2,.bv true)] rfl (kcG ho ?_));refine ak 3 [(2,.bv true),(5,.bv true),(6,.bv true)] rfl (kcG hi ?_);refine ak 5 [(6,.bv true),(10,.bv true),(11,.bv true)] rfl (kcG hs ?_);exact ak 2 [(11,.bv true),(16,.bv true)] rfl (az (aB rfl (fun hb=>absurd hb (by decide)) (fun _=>aD (q z _ h sl rfl))))
 | false=>
  rw[ζ ⟨h0,he,J,u⟩] at M q;rw[u] at hs;refine aA (skh 4 [(2,.bv true)] rfl (kcG ho ?_));refine ak 3 [(2,.bv true),(5,.bv true),(6,.bv true)] rfl (kcG hi ?_);refine ak 5 [(6,.bv true),(10,.bv true),(11,.bv true)] rfl (kcG hs ?_);refine ak 2 [(11,.bv true),(16,.bv true)] rfl (az (aB rfl (fun _=>aC mixed (ak 2 [] rfl (kc hn ?_))) (fun hb=>absurd hb (by decide))));refine ak 1 [] rfl (kc hf ?_);exact az (q _ _ hfz sl rfl)
theorem ZA.len {L:List Tk}{z:Z}(h:ZA L z):z.R.length≤4001:=by
 have h1:=h.lt;have h2:=h.l;omega
theorem sM {L:List Tk}{z:Z}(h:ZA L z):aW Tryz.prog 133 [xP] [(700,zO L z)] (.one (.c (.sl 4 ((aU z).1.map aI)))) [(700,zO L (aU z).2)]:=by
 refine b9 (n:=18) tok Tryz.func133 rfl rfl rfl ?_;refine sg rfl (sg rfl (AWp.sub (Sub.own (t:=3) (id:=500) 131 4 rfl rfl) ?_));refine aA (aF (aJ (fun q:List Tk×Z=>mk [(0,xP),(3,.one (.hs 500 0 q.1.length q.1.length))] [(700,zO L q.2),(500,.arr 131 4 (q.1.map aI) 0)]) (fun q=>ZA L q.2∧q.1.length+q.2.R.length≤4001∧q.1++(aU q.2).1=(aU z).1∧(aU q.2).2=(aU z).2) (fun q=>q.2.R.length) ([],z) ⟨h,by dsimp only;have:=h.len;rw[length_nil];omega,rfl,rfl⟩ sl ?_));rintro⟨out,J⟩ ⟨h',hlen,E,I⟩;dsimp only at h' hlen E I ⊢;rw[←E,←I];clear E I;have hout:(out.map aI).length=out.length:=ξ _;have ho:=fP L J;have hn:=iA h';have hw:=kH h' 1 (by decide);obtain⟨R,e,p⟩:=J;obtain⟨t,R,rfl⟩:=h'.e.ne;by_cases he:e=0
 case neg=>
  rw[show decide ((Z.mk (t::R) e p).e=0)=false from φ he] at ho;refine aA (sk 1 rfl (kc ho ?_));refine ak 6 [(2,.bv false),(7,.bv false)] rfl (az (aB rfl (fun hb=>absurd hb (by decide)) (fun _=>aH (AWp.sub (Sub.freeze (id:=500) rfl) ?_))));refine sg rfl ?_;unfold aU;rw[η he,Ay];exact aE (rtH (hsz:=hout.symm) (hlen:=hout.symm))
 rw[show decide ((Z.mk (t::R) e p).e=0)=true from θ he] at ho;have B:b8 (Z.mk (t::R) e p)=t:=rfl;rw[B] at hn;refine aA (sk 1 rfl (kc ho ?_));refine ak 2 [(2,.bv true)] rfl (kcG hn ?_);refine ak 3 [(2,.bv true),(7,.bv true)] rfl (az (aB rfl (fun hb=>?_) (fun hb=>?_)))
 ·have u:t.kind=1:=κ hb;have hl:qU t=true:=hb;have U:aR 1 (Z.mk (t::R) e p)=(t,⟨R,e,p⟩):=by unfold aR;rw[ζ ⟨he,u⟩];rfl
  rw[U] at hw;have h2:ZA L ⟨R,e,p⟩:=(h'.tl (by rw[B,u];decide) e p).1
  have M:aU ⟨t::R,e,p⟩=(t::(aU ⟨R,e,p⟩).1,(aU ⟨R,e,p⟩).2):=by
   unfold aU;rw[ζ he,ζ he];show((t::R).takeWhile qU,Z.mk ((t::R).dropWhile qU) _ _)=_;rw[takeWhile_cons,ζ hl,Ci,ζ hl]
  have O:out.length+(R.length+1)≤4001:=hlen;refine aD (aF (aC mixed (ak 2 [] rfl (kc hw ?_))));refine ak 3 [(3,.all)] rfl (az ?_);have A:out.map aI++[aI t]=(out++[t]).map aI:=by rw[Af];rfl
  have y:(out++[t]).length=out.length+1:=by rw[ψ];rfl
  refine⟨(out++[t],⟨R,e,p⟩),⟨h2,by dsimp only;rw[y];omega,by rw[M];simp,by rw[M]⟩,Bv _,?_⟩;exact sl (he:=⟨rfl,Go.AM.hs_ren (by rw[y,←hout];rfl) (by rw[y,←hout];rfl),trivial⟩) (hh:=⟨⟨_,rfl,.var rfl⟩,⟨_,rfl,.arrS A⟩,trivial⟩)
 ·have u:¬qU t=true:=fun h=>by rw[show qU t=false from hb] at h;cases h
  refine aH (AWp.sub (Sub.freeze (id:=500) rfl) ?_);refine sg rfl ?_;unfold aU;rw[ζ he];dsimp only;rw[takeWhile_cons,η u,Ay,Ci,η u];exact aE (rtH (hsz:=hout.symm) (hlen:=hout.symm))
theorem aF4 (l:List Tk) (hl:l.length≤4001):aW Tryz.prog 134 [.one (.c (.sl 4 (l.map aI)))] [] (bU (l.map (·.text))) []:=by
 have u:(l.map aI).length=l.length:=ξ _;refine b9 (n:=20) tok Tryz.func134 rfl rfl rfl ?_;refine sg rfl (sg rfl (AWp.sub (Sub.own (t:=3) (id:=500) 9 1 rfl rfl) ?_));refine aA (sg rfl (aF (aJ (fun i:Nat=>mk [(0,.one (.c (.sl 4 (l.map aI)))),(3,.one (.hs 500 0 i i)),(4,I .i64 (i:Nat))] [(500,.arr 9 1 (((l.take i).map (·.text)).map aK) 0)]) (fun i=>i≤l.length) (fun i=>l.length-i) 0 (Ab _) sl ?_)));intro i hi;have q:(((l.take i).map (·.text)).map aK).length=i:=by rw[ξ,ξ,Ai];omega
 refine aA (sg rfl (aB rfl (fun hb=>?_) (fun hb=>?_)))
 ·have y:=ltD hb u;obtain⟨t,ht⟩:=aG y;have E:=aP aI ht;have A:((l.take (i+1)).map (·.text)).map aK=((l.take i).map (·.text)).map aK++[[.str t.text]]:=by rw[Bh,ht,Af,Af];rfl
  exact aD (aA (aF (ag [(3,.row i (aI t)),(6,.all)] rfl (agN [] rfl ⟨i+1,y,by dsimp only;omega,sl (he:=⟨rfl,Go.AM.hs_ren (congrArg (· +1) q) (congrArg (· +1) q),rfl,trivial⟩) (hh:=⟨⟨_,rfl,.arrS A.symm⟩,trivial⟩)⟩))))
 ·have B:=geD hb u hi;subst B;rw[Al] at q ⊢;refine aH (AWp.sub (Sub.freeze (id:=500) rfl) ?_);exact sg rfl (aE (rtH (hsz:=q.symm) (hlen:=q.symm)))
structure Cn where
 name:Str
 pl:Int
 fields:List Ty
structure Dt where
 name:Str
 pl:Int
 vars:List Str
 cons:List Cn
def hY (c:Cn):List C:=[.str c.name,.int .i64 c.pl,.sl 4 (c.fields.map bF)]
def cQ (d:Dt):List C:=[.str d.name,.int .i64 d.pl,.sl 1 (d.vars.map aK),.sl 1 [],.sl 3 (d.cons.map hY)]
def eqS:Str:=[61]
def uF:Str:=[124]
def aSb (z:Z):Bool:=decide ((b8 z).kind=1) || (decide ((b8 z).kind=2) || isZ cG z)
def atZ (z:Z):TR→Ty×Z
 | .ok (x,R')=>(x,⟨R',z.e,z.p⟩)
 | .error (e,p)=>(zTy,⟨z.R,e,p⟩)
def eM (z:Z):Ty×Z:=atZ z (cU (3*z.R.length) 0 z.R)
def cD:Nat→List Ty→Z→List Ty×Z
 | 0,out,z=>(out,z)
 | f+1,out,z=>if z.e=0∧aSb z=true then cD f (out++[(eM z).1]) (eM z).2 else(out,z)
def mC (z:Z):Cn×Z:=
 (⟨(aR 2 z).1.text,(aR 2 z).1.pl,(cD ((aR 2 z).2.R.length+1) [] (aR 2 z).2).1⟩,
  c0 (cD ((aR 2 z).2.R.length+1) [] (aR 2 z).2).1.length 8 (aR 2 z).1.pl (cD ((aR 2 z).2.R.length+1) [] (aR 2 z).2).2)
def iT:Nat→Int→List Cn→Z→List Cn×Z
 | 0,_,out,z=>(out,z)
 | f+1,a,out,z=>
  if(bT uF (c0 (out++[(mC z).1]).length 16 a (mC z).2)).1=true then iT f a (out++[(mC z).1]) (bT uF (c0 (out++[(mC z).1]).length 16 a (mC z).2)).2
  else(out++[(mC z).1],(bT uF (c0 (out++[(mC z).1]).length 16 a (mC z).2)).2)
def fO (z:Z):Tk×List Tk×Z:=((aR 2 z).1,(aU (aR 2 z).2).1,aQ eqS (c0 (aU (aR 2 z).2).1.length 8 (aR 2 z).1.pl (aU (aR 2 z).2).2))
def gO (h:Tk×List Tk×Z):List Cn×Z:=if h.2.2.e=0 then iT (h.2.2.R.length+1) h.1.pl [] h.2.2 else([],h.2.2)
def jZ (z:Z):Dt×Z:=(⟨(fO z).1.text,(fO z).1.pl,(fO z).2.1.map (·.text),(gO (fO z)).1⟩,(gO (fO z)).2)
def Ze (z z':Z):Prop:=z'.R.length≤z.R.length
theorem Ze.refl (z:Z):Ze z z:=le_refl _
theorem Ze.trans {a b c:Z}(h:Ze a b) (k:Ze b c):Ze a c:=le_trans k h
theorem Ze.fail (e p:Int) (z:Z):Ze z (bV e p z):=by unfold Ze;rw[qY];exact le_refl _
theorem Ze.may (s:Str) (z:Z):Ze z (bT s z).2:=by
 unfold Ze bT;split
 ·show z.R.tail.length≤_;rw[length_tail];omega
 ·exact le_refl _
theorem Ze.need (s:Str) (z:Z):Ze z (aQ s z):=by
 unfold aQ;split
 ·exact Ze.may s z
 ·exact Ze.fail _ _ z
theorem Ze.word (k:Int) (z:Z):Ze z (aR k z).2:=by
 unfold aR;split
 ·show z.R.tail.length≤_;rw[length_tail];omega
 ·exact Ze.fail _ _ z
theorem Ze.long (n q:Nat) (a:Int) (z:Z):Ze z (c0 n q a z):=by
 unfold c0;split
 ·exact Ze.fail _ _ z
 ·exact Ze.refl z
theorem mZ {α:Type}(p:α→Bool):∀l:List α,(l.dropWhile p).length≤l.length
 | []=>le_refl _
 | a::l=>by
  rw[Ci];split
  ·have:=mZ p l;rw[ω];omega
  ·exact le_refl _
theorem mG {α:Type}(p:α→Bool):∀l:List α,(l.takeWhile p).length≤l.length
 | []=>le_refl _
 | a::l=>by
  rw[takeWhile_cons];split
  ·have:=mG p l;rw[ω,ω];omega
  ·exact Ab _
theorem Ze.words (z:Z):Ze z (aU z).2:=by
 unfold aU;split
 ·exact mZ _ _
 ·exact Ze.refl z
theorem ZA.wt {L:List Tk}{z:Z}(h:ZA L z):wt z.R≤wt L:=by
 have e:L.take (L.length-z.R.length)++z.R=L:=by
  have:=C2 (L.length-z.R.length) L;rwa [h.d] at this
 have:=oX (p:=L.take (L.length-z.R.length)) (R:=z.R);rwa [e] at this
theorem ZA.lp {L:List Tk}{z:Z}(h:ZA L z):1≤z.R.length:=h.lt.2
theorem yF {L:List Tk}{z:Z}(h:ZA L z):ZA L (eM z).2∧WF (eM z).1∧tn (eM z).1≤wt z.R∧((eM z).2.e=0→(eM z).2.R.length<z.R.length)∧Ze z (eM z).2:=by
 unfold eM;have hok:=jQ (3*z.R.length) 0 z.R;have q:=eN (3*z.R.length) 0 z.R;generalize cU (3*z.R.length) 0 z.R=w at hok q ⊢;cases w with
 | error e=>
  obtain⟨e,p⟩:=e;have:=q e p rfl;refine⟨h,⟨rfl,rfl⟩,?_,fun h0=>absurd h0 this,Ze.refl z⟩;show tn zTy≤_;obtain⟨t,R',u⟩:=h.e.ne;rw[u,cK];have:tn zTy=1:=by unfold zTy;rw[tn,tns];rfl
  omega
 | ok y=>
  obtain⟨x,R'⟩:=y;obtain⟨⟨h1,⟨p,h2,B⟩,A⟩,E⟩:=hok x R' rfl;have hl:R'.length<z.R.length:=by rw[h2,ψ];omega
  exact⟨h.suf h2 (h1 h.e) _ _,A,by show tn x≤_;omega,fun _=>hl,C6 hl⟩
theorem aVp {L:List Tk}{z:Z}(h:ZA L z) (he:z.e=0):∃(y:List C) (ps vs:C) (i e p:Int),aW Tryz.prog 137 [qK L,I .i64 ((L.length-z.R.length:Nat):Int),I .i64 0] [] (.pa y) []∧aW Tryz.prog 136 [xP,.pa y] [(700,zO L z)] (.pa (aA0 (eM z).1 ps vs i e p)) [(700,zO L (eM z).2)]:=by
 have q:=(aIw L (3*z.R.length)).1 (3*z.R.length) (le_refl _) 0 z.R _ h (le_refl _) (by decide);have u:=eN (3*z.R.length) 0 z.R;unfold eM;generalize cU (3*z.R.length) 0 z.R=w at q u ⊢;cases w with
 | error e=>
  obtain⟨e,p⟩:=e;exact⟨_,.nl,.nl,0,0,0,q,u5 he e p (u e p rfl)⟩
 | ok y=>
  obtain⟨x,R'⟩:=y;exact⟨_,.nl,.nl,_,0,0,q,y1 he x .nl .nl R'⟩
theorem qX {L:List Tk}:∀(f:Nat) (out:List Ty) (z:Z),ZA L z→(∀x∈out,WF x∧tn x≤wt L)→out.length+z.R.length≤4001→
  ZA L (cD f out z).2∧(∀x∈(cD f out z).1,WF x∧tn x≤wt L)∧Ze z (cD f out z).2∧(cD f out z).1.length≤4002
 | 0,out,z,h,ho,hl=>⟨h,ho,Ze.refl z,by rw[cD];dsimp only;omega⟩
 | f+1,out,z,h,ho,hl=>by
  rw[cD];split
  ·rename_i hc;obtain⟨g1,g2,g3,g4,g5⟩:=yF h;have I:=h.wt;have q:∀x∈out++[(eM z).1],WF x∧tn x≤wt L:=fun x hx=>by
    rcases A4.1 hx with hx | hx
    ·exact ho x hx
    ·rw[Am.1 hx];exact⟨g2,by omega⟩
   by_cases he:(eM z).2.e=0
   ·have J:=g4 he;obtain⟨u,y,A,B⟩:=qX f (out++[(eM z).1]) (eM z).2 g1 q (by rw[ψ,Bm];omega);exact⟨u,y,g5.trans A,B⟩
   ·have E:cD f (out++[(eM z).1]) (eM z).2=(out++[(eM z).1],(eM z).2):=by
     cases f with
     | zero=>rfl
     | succ f=>rw[cD,η (fun h=>he h.1)]
    rw[E];exact⟨g1,q,g5,by rw[ψ,Bm];have:=h.lp;omega⟩
  ·exact⟨h,ho,Ze.refl z,by dsimp only;omega⟩
theorem mX {f:Nat}{out:List Ty}{z:Z}(h:¬(z.e=0∧aSb z=true)):cD f out z=(out,z):=by
 cases f with
 | zero=>rfl
 | succ f=>rw[cD,η h]
end Go.Proofs.YtkhgpgihmphfdaaGreatDoor
