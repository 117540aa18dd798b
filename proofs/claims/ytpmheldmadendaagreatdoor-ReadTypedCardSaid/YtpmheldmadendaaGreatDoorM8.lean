/-
  Texts Rd19 to Rd27 in one.
-/
import Derived.Test.YtpmheldmadendaaGreatDoorM7
open List (append_assoc append_nil cons_append dropWhile_cons length_append length_cons length_map length_nil length_singleton length_tail length_take map_append mem_append mem_of_mem_take mem_singleton nil_append takeWhile_cons take_add_one take_append_drop take_length)
open Nat (le_of_lt le_refl le_trans lt_succ_self mul_le_mul_right zero_le)
namespace Go.Proofs.YtpmheldmadendaaGreatDoor
open Go Go.AM
set_option maxRecDepth 20000
set_option maxHeartbeats 4000000
section
variable {fn:Func}{st:St}{hin hout:List (Nat×AObj)}
theorem jT {a0 t0 I u U:Nat}{i0:TI}{q:List AM.R}{v0 w0:V}{ids0:List Nat}{Y:Nat}{v1 B:V}{M:List Nat}{a2 t2 J y aa:Nat}{i2:TI}{r:List AM.R}{v2 E:V}{O:List Nat}(hr:fn.results.toList=[.cell a0 t0,.tmp Y,.cell a2 t2]:=by rfl) (ab:tr.get t0=some i0:=by rfl) (ac:st.e a0=some (.one (.vp I u)):=by rfl) (ad:st.h I=some (.var U q):=by rfl) (ae:Nat.ble (u+i0.size) q.length=true:=by rfl) (af:k8 i0 ((q.drop u).take i0.size)=some v0:=by rfl) (ag:st.e Y=some v1:=by rfl) (ah:tr.get t2=some i2:=by rfl) (ai:st.e a2=some (.one (.vp J y)):=by rfl) (aj:st.h J=some (.var aa r):=by rfl) (ak:Nat.ble (y+i2.size) r.length=true:=by rfl) (al:k8 i2 ((r.drop y).take i2.size)=some v2:=by rfl)
  (am:Conv st.h ids0 v0 w0:=by first | exact .refl | exact .one (.c .nl .nil) | exact .one (.hs rfl (by first | rfl | assumption | simp) (by first | rfl | exact Go.AM.take_all (by first | assumption | rfl | (simp;done)) | exact Go.AM.take_map.symm) .nil) | ((first | apply Go.AM.Conv.pa | apply Go.AM.Conv.agg);repeat (first | exact .nil | apply Go.AM.PureL.c .refl | apply Go.AM.PureL.c .nl | (apply Go.AM.PureL.hs;rfl;(first | rfl | assumption | simp);(first | rfl | exact Go.AM.take_all (by first | assumption | rfl | (simp;done)) | exact Go.AM.take_map.symm))))) (an:Conv st.h M v1 B:=by first | exact .refl | exact .one (.c .nl .nil) | exact .one (.hs rfl (by first | rfl | assumption | simp) (by first | rfl | exact Go.AM.take_all (by first | assumption | rfl | (simp;done)) | exact Go.AM.take_map.symm) .nil) | ((first | apply Go.AM.Conv.pa | apply Go.AM.Conv.agg);repeat (first | exact .nil | apply Go.AM.PureL.c .refl | apply Go.AM.PureL.c .nl | (apply Go.AM.PureL.hs;rfl;(first | rfl | assumption | simp);(first | rfl | exact Go.AM.take_all (by first | assumption | rfl | (simp;done)) | exact Go.AM.take_map.symm))))) (ap:Conv st.h O v2 E:=by first | exact .refl | exact .one (.c .nl .nil) | exact .one (.hs rfl (by first | rfl | assumption | simp) (by first | rfl | exact Go.AM.take_all (by first | assumption | rfl | (simp;done)) | exact Go.AM.take_map.symm) .nil) | ((first | apply Go.AM.Conv.pa | apply Go.AM.Conv.agg);repeat (first | exact .nil | apply Go.AM.PureL.c .refl | apply Go.AM.PureL.c .nl | (apply Go.AM.PureL.hs;rfl;(first | rfl | assumption | simp);(first | rfl | exact Go.AM.take_all (by first | assumption | rfl | (simp;done)) | exact Go.AM.take_map.symm)))))
  (ho:gN (fun p=>∃o,st.h p.1=some o∧Ole (fun i=>i) o p.2) hout:=by repeat (first | exact trivial | refine⟨⟨_,rfl,by first | exact Go.AM.Ole.arr | exact Go.AM.Ole.var rfl | exact Go.AM.Ole.varS rfl⟩,?_⟩))
  (hok:(subset (V.tup [w0,B,E]).refs (keys hout)&&subset (gO hout) (keys hout)&&Go.AM.distinct (keys hout)&&subset (keys hin) (keys hout)&&(hin.all fun p=>p.2.plain)&&(hout.all fun p=>p.2.plain))=true:=by rfl):(Exit.ret=.normal∨Exit.ret=.ret)∧Fin tr.flat fn st hin (.tup [w0,B,E]) hout:=
 ⟨.inr rfl,⟨[v0,v1,v2],[w0,B,E],by rw[hr];exact .cell ac (Tr.get_ok trw ab) ad ae af (.tmp ag (.cell ai (Tr.get_ok trw ah) aj ak al (.nil))),.cons am (.cons an (.cons ap (.nil))),rfl⟩,ho,hok⟩
theorem aLq {J:Nat}{v0 w0:V}{ids0:List Nat}{M:Nat}{v1 u:V}{E:List Nat}{a2 t2 B r O:Nat}{i2:TI}{q:List AM.R}{v2 y:V}{I:List Nat}(hr:fn.results.toList=[.tmp J,.tmp M,.cell a2 t2]:=by rfl) (U:st.e J=some v0:=by rfl) (Y:st.e M=some v1:=by rfl) (aa:tr.get t2=some i2:=by rfl) (ab:st.e a2=some (.one (.vp B r)):=by rfl) (ac:st.h B=some (.var O q):=by rfl) (ad:Nat.ble (r+i2.size) q.length=true:=by rfl) (ae:k8 i2 ((q.drop r).take i2.size)=some v2:=by rfl)
  (af:Conv st.h ids0 v0 w0:=by first | exact .refl | exact .one (.c .nl .nil) | exact .one (.hs rfl (by first | rfl | assumption | simp) (by first | rfl | exact Go.AM.take_all (by first | assumption | rfl | (simp;done)) | exact Go.AM.take_map.symm) .nil) | ((first | apply Go.AM.Conv.pa | apply Go.AM.Conv.agg);repeat (first | exact .nil | apply Go.AM.PureL.c .refl | apply Go.AM.PureL.c .nl | (apply Go.AM.PureL.hs;rfl;(first | rfl | assumption | simp);(first | rfl | exact Go.AM.take_all (by first | assumption | rfl | (simp;done)) | exact Go.AM.take_map.symm))))) (ag:Conv st.h E v1 u:=by first | exact .refl | exact .one (.c .nl .nil) | exact .one (.hs rfl (by first | rfl | assumption | simp) (by first | rfl | exact Go.AM.take_all (by first | assumption | rfl | (simp;done)) | exact Go.AM.take_map.symm) .nil) | ((first | apply Go.AM.Conv.pa | apply Go.AM.Conv.agg);repeat (first | exact .nil | apply Go.AM.PureL.c .refl | apply Go.AM.PureL.c .nl | (apply Go.AM.PureL.hs;rfl;(first | rfl | assumption | simp);(first | rfl | exact Go.AM.take_all (by first | assumption | rfl | (simp;done)) | exact Go.AM.take_map.symm))))) (ah:Conv st.h I v2 y:=by first | exact .refl | exact .one (.c .nl .nil) | exact .one (.hs rfl (by first | rfl | assumption | simp) (by first | rfl | exact Go.AM.take_all (by first | assumption | rfl | (simp;done)) | exact Go.AM.take_map.symm) .nil) | ((first | apply Go.AM.Conv.pa | apply Go.AM.Conv.agg);repeat (first | exact .nil | apply Go.AM.PureL.c .refl | apply Go.AM.PureL.c .nl | (apply Go.AM.PureL.hs;rfl;(first | rfl | assumption | simp);(first | rfl | exact Go.AM.take_all (by first | assumption | rfl | (simp;done)) | exact Go.AM.take_map.symm)))))
  (ho:gN (fun p=>∃o,st.h p.1=some o∧Ole (fun i=>i) o p.2) hout:=by repeat (first | exact trivial | refine⟨⟨_,rfl,by first | exact Go.AM.Ole.arr | exact Go.AM.Ole.var rfl | exact Go.AM.Ole.varS rfl⟩,?_⟩))
  (hok:(subset (V.tup [w0,u,y]).refs (keys hout)&&subset (gO hout) (keys hout)&&Go.AM.distinct (keys hout)&&subset (keys hin) (keys hout)&&(hin.all fun p=>p.2.plain)&&(hout.all fun p=>p.2.plain))=true:=by rfl):(Exit.ret=.normal∨Exit.ret=.ret)∧Fin tr.flat fn st hin (.tup [w0,u,y]) hout:=
 ⟨.inr rfl,⟨[v0,v1,v2],[w0,u,y],by rw[hr];exact .tmp U (.tmp Y (.cell ab (Tr.get_ok trw aa) ac ad ae (.nil))),.cons af (.cons ag (.cons ah (.nil))),rfl⟩,ho,hok⟩
theorem aLp {B:Nat}{v0 w0:V}{ids0:List Nat}{E:Nat}{v1 q:V}{u:List Nat}{I:Nat}{v2 r:V}{y:List Nat}(hr:fn.results.toList=[.tmp B,.tmp E,.tmp I]:=by rfl) (J:st.e B=some v0:=by rfl) (M:st.e E=some v1:=by rfl) (O:st.e I=some v2:=by rfl)
  (U:Conv st.h ids0 v0 w0:=by first | exact .refl | exact .one (.c .nl .nil) | exact .one (.hs rfl (by first | rfl | assumption | simp) (by first | rfl | exact Go.AM.take_all (by first | assumption | rfl | (simp;done)) | exact Go.AM.take_map.symm) .nil) | ((first | apply Go.AM.Conv.pa | apply Go.AM.Conv.agg);repeat (first | exact .nil | apply Go.AM.PureL.c .refl | apply Go.AM.PureL.c .nl | (apply Go.AM.PureL.hs;rfl;(first | rfl | assumption | simp);(first | rfl | exact Go.AM.take_all (by first | assumption | rfl | (simp;done)) | exact Go.AM.take_map.symm))))) (Y:Conv st.h u v1 q:=by first | exact .refl | exact .one (.c .nl .nil) | exact .one (.hs rfl (by first | rfl | assumption | simp) (by first | rfl | exact Go.AM.take_all (by first | assumption | rfl | (simp;done)) | exact Go.AM.take_map.symm) .nil) | ((first | apply Go.AM.Conv.pa | apply Go.AM.Conv.agg);repeat (first | exact .nil | apply Go.AM.PureL.c .refl | apply Go.AM.PureL.c .nl | (apply Go.AM.PureL.hs;rfl;(first | rfl | assumption | simp);(first | rfl | exact Go.AM.take_all (by first | assumption | rfl | (simp;done)) | exact Go.AM.take_map.symm))))) (aa:Conv st.h y v2 r:=by first | exact .refl | exact .one (.c .nl .nil) | exact .one (.hs rfl (by first | rfl | assumption | simp) (by first | rfl | exact Go.AM.take_all (by first | assumption | rfl | (simp;done)) | exact Go.AM.take_map.symm) .nil) | ((first | apply Go.AM.Conv.pa | apply Go.AM.Conv.agg);repeat (first | exact .nil | apply Go.AM.PureL.c .refl | apply Go.AM.PureL.c .nl | (apply Go.AM.PureL.hs;rfl;(first | rfl | assumption | simp);(first | rfl | exact Go.AM.take_all (by first | assumption | rfl | (simp;done)) | exact Go.AM.take_map.symm)))))
  (ho:gN (fun p=>∃o,st.h p.1=some o∧Ole (fun i=>i) o p.2) hout:=by repeat (first | exact trivial | refine⟨⟨_,rfl,by first | exact Go.AM.Ole.arr | exact Go.AM.Ole.var rfl | exact Go.AM.Ole.varS rfl⟩,?_⟩))
  (hok:(subset (V.tup [w0,q,r]).refs (keys hout)&&subset (gO hout) (keys hout)&&Go.AM.distinct (keys hout)&&subset (keys hin) (keys hout)&&(hin.all fun p=>p.2.plain)&&(hout.all fun p=>p.2.plain))=true:=by rfl):(Exit.ret=.normal∨Exit.ret=.ret)∧Fin tr.flat fn st hin (.tup [w0,q,r]) hout:=
 ⟨.inr rfl,⟨[v0,v1,v2],[w0,q,r],by rw[hr];exact .tmp J (.tmp M (.tmp O (.nil))),.cons U (.cons Y (.cons aa (.nil))),rfl⟩,ho,hok⟩
theorem aQo {a0 t0 B r J:Nat}{i0:TI}{q:List AM.R}{v0 w0:V}{ids0:List Nat}{M:Nat}{v1 u:V}{E:List Nat}{O:Nat}{v2 y:V}{I:List Nat}(hr:fn.results.toList=[.cell a0 t0,.tmp M,.tmp O]:=by rfl) (U:tr.get t0=some i0:=by rfl) (Y:st.e a0=some (.one (.vp B r)):=by rfl) (aa:st.h B=some (.var J q):=by rfl) (ab:Nat.ble (r+i0.size) q.length=true:=by rfl) (ac:k8 i0 ((q.drop r).take i0.size)=some v0:=by rfl) (ad:st.e M=some v1:=by rfl) (ae:st.e O=some v2:=by rfl)
  (af:Conv st.h ids0 v0 w0:=by first | exact .refl | exact .one (.c .nl .nil) | exact .one (.hs rfl (by first | rfl | assumption | simp) (by first | rfl | exact Go.AM.take_all (by first | assumption | rfl | (simp;done)) | exact Go.AM.take_map.symm) .nil) | ((first | apply Go.AM.Conv.pa | apply Go.AM.Conv.agg);repeat (first | exact .nil | apply Go.AM.PureL.c .refl | apply Go.AM.PureL.c .nl | (apply Go.AM.PureL.hs;rfl;(first | rfl | assumption | simp);(first | rfl | exact Go.AM.take_all (by first | assumption | rfl | (simp;done)) | exact Go.AM.take_map.symm))))) (ag:Conv st.h E v1 u:=by first | exact .refl | exact .one (.c .nl .nil) | exact .one (.hs rfl (by first | rfl | assumption | simp) (by first | rfl | exact Go.AM.take_all (by first | assumption | rfl | (simp;done)) | exact Go.AM.take_map.symm) .nil) | ((first | apply Go.AM.Conv.pa | apply Go.AM.Conv.agg);repeat (first | exact .nil | apply Go.AM.PureL.c .refl | apply Go.AM.PureL.c .nl | (apply Go.AM.PureL.hs;rfl;(first | rfl | assumption | simp);(first | rfl | exact Go.AM.take_all (by first | assumption | rfl | (simp;done)) | exact Go.AM.take_map.symm))))) (ah:Conv st.h I v2 y:=by first | exact .refl | exact .one (.c .nl .nil) | exact .one (.hs rfl (by first | rfl | assumption | simp) (by first | rfl | exact Go.AM.take_all (by first | assumption | rfl | (simp;done)) | exact Go.AM.take_map.symm) .nil) | ((first | apply Go.AM.Conv.pa | apply Go.AM.Conv.agg);repeat (first | exact .nil | apply Go.AM.PureL.c .refl | apply Go.AM.PureL.c .nl | (apply Go.AM.PureL.hs;rfl;(first | rfl | assumption | simp);(first | rfl | exact Go.AM.take_all (by first | assumption | rfl | (simp;done)) | exact Go.AM.take_map.symm)))))
  (ho:gN (fun p=>∃o,st.h p.1=some o∧Ole (fun i=>i) o p.2) hout:=by repeat (first | exact trivial | refine⟨⟨_,rfl,by first | exact Go.AM.Ole.arr | exact Go.AM.Ole.var rfl | exact Go.AM.Ole.varS rfl⟩,?_⟩))
  (hok:(subset (V.tup [w0,u,y]).refs (keys hout)&&subset (gO hout) (keys hout)&&Go.AM.distinct (keys hout)&&subset (keys hin) (keys hout)&&(hin.all fun p=>p.2.plain)&&(hout.all fun p=>p.2.plain))=true:=by rfl):(Exit.ret=.normal∨Exit.ret=.ret)∧Fin tr.flat fn st hin (.tup [w0,u,y]) hout:=
 ⟨.inr rfl,⟨[v0,v1,v2],[w0,u,y],by rw[hr];exact .cell Y (Tr.get_ok trw U) aa ab ac (.tmp ad (.tmp ae (.nil))),.cons af (.cons ag (.cons ah (.nil))),rfl⟩,ho,hok⟩
theorem aZ9 {u:Nat}{v0 w0:V}{ids0:List Nat}{y:Nat}{v1 q:V}{r:List Nat}(M:fn.results.toList=[.tmp u,.tmp y]:=by rfl) (B:st.e u=some v0:=by rfl) (E:st.e y=some v1:=by rfl)
  (I:Conv st.h ids0 v0 w0:=by first | exact .refl | exact .one (.c .nl .nil) | exact .one (.hs rfl (by first | rfl | assumption | simp) (by first | rfl | exact Go.AM.take_all (by first | assumption | rfl | (simp;done)) | exact Go.AM.take_map.symm) .nil) | ((first | apply Go.AM.Conv.pa | apply Go.AM.Conv.agg);repeat (first | exact .nil | apply Go.AM.PureL.c .refl | apply Go.AM.PureL.c .nl | (apply Go.AM.PureL.hs;rfl;(first | rfl | assumption | simp);(first | rfl | exact Go.AM.take_all (by first | assumption | rfl | (simp;done)) | exact Go.AM.take_map.symm))))) (J:Conv st.h r v1 q:=by first | exact .refl | exact .one (.c .nl .nil) | exact .one (.hs rfl (by first | rfl | assumption | simp) (by first | rfl | exact Go.AM.take_all (by first | assumption | rfl | (simp;done)) | exact Go.AM.take_map.symm) .nil) | ((first | apply Go.AM.Conv.pa | apply Go.AM.Conv.agg);repeat (first | exact .nil | apply Go.AM.PureL.c .refl | apply Go.AM.PureL.c .nl | (apply Go.AM.PureL.hs;rfl;(first | rfl | assumption | simp);(first | rfl | exact Go.AM.take_all (by first | assumption | rfl | (simp;done)) | exact Go.AM.take_map.symm)))))
  (ho:gN (fun p=>∃o,st.h p.1=some o∧Ole (fun i=>i) o p.2) hout:=by repeat (first | exact trivial | refine⟨⟨_,rfl,by first | exact Go.AM.Ole.arr | exact Go.AM.Ole.var rfl | exact Go.AM.Ole.varS rfl⟩,?_⟩))
  (hok:(subset (V.tup [w0,q]).refs (keys hout)&&subset (gO hout) (keys hout)&&Go.AM.distinct (keys hout)&&subset (keys hin) (keys hout)&&(hin.all fun p=>p.2.plain)&&(hout.all fun p=>p.2.plain))=true:=by rfl):(Exit.ret=.normal∨Exit.ret=.ret)∧Fin tr.flat fn st hin (.tup [w0,q]) hout:=
 ⟨.inr rfl,⟨[v0,v1],[w0,q],by rw[M];exact .tmp B (.tmp E (.nil)),.cons I (.cons J (.nil)),rfl⟩,ho,hok⟩
theorem q9 {a0 t0 y r E:Nat}{i0:TI}{q:List AM.R}{v0 w0:V}{ids0:List Nat}{I:Nat}{v1 u:V}{B:List Nat}(hr:fn.results.toList=[.cell a0 t0,.tmp I]:=by rfl) (J:tr.get t0=some i0:=by rfl) (M:st.e a0=some (.one (.vp y r)):=by rfl) (O:st.h y=some (.var E q):=by rfl) (U:Nat.ble (r+i0.size) q.length=true:=by rfl) (Y:k8 i0 ((q.drop r).take i0.size)=some v0:=by rfl) (aa:st.e I=some v1:=by rfl)
  (ab:Conv st.h ids0 v0 w0:=by first | exact .refl | exact .one (.c .nl .nil) | exact .one (.hs rfl (by first | rfl | assumption | simp) (by first | rfl | exact Go.AM.take_all (by first | assumption | rfl | (simp;done)) | exact Go.AM.take_map.symm) .nil) | ((first | apply Go.AM.Conv.pa | apply Go.AM.Conv.agg);repeat (first | exact .nil | apply Go.AM.PureL.c .refl | apply Go.AM.PureL.c .nl | (apply Go.AM.PureL.hs;rfl;(first | rfl | assumption | simp);(first | rfl | exact Go.AM.take_all (by first | assumption | rfl | (simp;done)) | exact Go.AM.take_map.symm))))) (ac:Conv st.h B v1 u:=by first | exact .refl | exact .one (.c .nl .nil) | exact .one (.hs rfl (by first | rfl | assumption | simp) (by first | rfl | exact Go.AM.take_all (by first | assumption | rfl | (simp;done)) | exact Go.AM.take_map.symm) .nil) | ((first | apply Go.AM.Conv.pa | apply Go.AM.Conv.agg);repeat (first | exact .nil | apply Go.AM.PureL.c .refl | apply Go.AM.PureL.c .nl | (apply Go.AM.PureL.hs;rfl;(first | rfl | assumption | simp);(first | rfl | exact Go.AM.take_all (by first | assumption | rfl | (simp;done)) | exact Go.AM.take_map.symm)))))
  (ho:gN (fun p=>∃o,st.h p.1=some o∧Ole (fun i=>i) o p.2) hout:=by repeat (first | exact trivial | refine⟨⟨_,rfl,by first | exact Go.AM.Ole.arr | exact Go.AM.Ole.var rfl | exact Go.AM.Ole.varS rfl⟩,?_⟩))
  (hok:(subset (V.tup [w0,u]).refs (keys hout)&&subset (gO hout) (keys hout)&&Go.AM.distinct (keys hout)&&subset (keys hin) (keys hout)&&(hin.all fun p=>p.2.plain)&&(hout.all fun p=>p.2.plain))=true:=by rfl):(Exit.ret=.normal∨Exit.ret=.ret)∧Fin tr.flat fn st hin (.tup [w0,u]) hout:=
 ⟨.inr rfl,⟨[v0,v1],[w0,u],by rw[hr];exact .cell M (Tr.get_ok trw J) O U Y (.tmp aa (.nil)),.cons ab (.cons ac (.nil)),rfl⟩,ho,hok⟩
theorem aGr {a0 t0 I u O:Nat}{i0:TI}{q:List AM.R}{v0 w0:V}{ids0:List Nat}{U t1 J y Y:Nat}{B:TI}{r:List AM.R}{v1 E:V}{M:List Nat}(hr:fn.results.toList=[.cell a0 t0,.cell U t1]:=by rfl) (aa:tr.get t0=some i0:=by rfl) (ab:st.e a0=some (.one (.vp I u)):=by rfl) (ac:st.h I=some (.var O q):=by rfl) (ad:Nat.ble (u+i0.size) q.length=true:=by rfl) (ae:k8 i0 ((q.drop u).take i0.size)=some v0:=by rfl) (af:tr.get t1=some B:=by rfl) (ag:st.e U=some (.one (.vp J y)):=by rfl) (ah:st.h J=some (.var Y r):=by rfl) (ai:Nat.ble (y+B.size) r.length=true:=by rfl) (aj:k8 B ((r.drop y).take B.size)=some v1:=by rfl)
  (ak:Conv st.h ids0 v0 w0:=by first | exact .refl | exact .one (.c .nl .nil) | exact .one (.hs rfl (by first | rfl | assumption | simp) (by first | rfl | exact Go.AM.take_all (by first | assumption | rfl | (simp;done)) | exact Go.AM.take_map.symm) .nil) | ((first | apply Go.AM.Conv.pa | apply Go.AM.Conv.agg);repeat (first | exact .nil | apply Go.AM.PureL.c .refl | apply Go.AM.PureL.c .nl | (apply Go.AM.PureL.hs;rfl;(first | rfl | assumption | simp);(first | rfl | exact Go.AM.take_all (by first | assumption | rfl | (simp;done)) | exact Go.AM.take_map.symm))))) (al:Conv st.h M v1 E:=by first | exact .refl | exact .one (.c .nl .nil) | exact .one (.hs rfl (by first | rfl | assumption | simp) (by first | rfl | exact Go.AM.take_all (by first | assumption | rfl | (simp;done)) | exact Go.AM.take_map.symm) .nil) | ((first | apply Go.AM.Conv.pa | apply Go.AM.Conv.agg);repeat (first | exact .nil | apply Go.AM.PureL.c .refl | apply Go.AM.PureL.c .nl | (apply Go.AM.PureL.hs;rfl;(first | rfl | assumption | simp);(first | rfl | exact Go.AM.take_all (by first | assumption | rfl | (simp;done)) | exact Go.AM.take_map.symm)))))
  (ho:gN (fun p=>∃o,st.h p.1=some o∧Ole (fun i=>i) o p.2) hout:=by repeat (first | exact trivial | refine⟨⟨_,rfl,by first | exact Go.AM.Ole.arr | exact Go.AM.Ole.var rfl | exact Go.AM.Ole.varS rfl⟩,?_⟩))
  (hok:(subset (V.tup [w0,E]).refs (keys hout)&&subset (gO hout) (keys hout)&&Go.AM.distinct (keys hout)&&subset (keys hin) (keys hout)&&(hin.all fun p=>p.2.plain)&&(hout.all fun p=>p.2.plain))=true:=by rfl):(Exit.ret=.normal∨Exit.ret=.ret)∧Fin tr.flat fn st hin (.tup [w0,E]) hout:=
 ⟨.inr rfl,⟨[v0,v1],[w0,E],by rw[hr];exact .cell ab (Tr.get_ok trw aa) ac ad ae (.cell ag (Tr.get_ok trw af) ah ai aj (.nil)),.cons ak (.cons al (.nil)),rfl⟩,ho,hok⟩
end
def pO (L:List Tk):Prop:=∀t∈L,t.kind=4→t.n=0
theorem y4 (t:Tk) (s:Str) (h:t.kind=4→t.n=0):b9 Tryz.prog 217 [tkV t,Go.AM.T s] [] (B (isT t s)) []:=by
 have e:aK1 [.int .i64 t.kind,.str t.text,.int .i64 t.n,.int .i64 0] [.int .i64 4,.str s,.int .i64 0,.int .i64 0]=isT t s:=by
  unfold isT;simp only[aK1,ceq,decide_true,Bool.and_true];by_cases q:t.kind=4
  ·rw[h q];simp
  ·rw[ψ q];rfl
 rw[←e];refine bP (n:=10) tok Tryz.func217 rfl rfl rfl ?_;refine sg rfl (sg rfl (sk 3 rfl (k_ (g_ rfl rfl (zH tok (by unfold aFy;kernel_rfl) rfl rfl (by decide) (tg rfl) rfl rfl rfl rfl)) ?_)));exact kz 1 rfl (aE rtT)
theorem o7 (t:Tk) (e:Int):b9 Tryz.prog 219 [tkV t,I .i64 e] [] (atV e t.pl) []:=by
 refine bP (n:=9) tok Tryz.func219 rfl rfl rfl ?_;exact sg rfl (sg rfl (aE (rtC trw)))
theorem aA7 {t:Ty}(h:wfS t=true):b9 Tryz.prog 251 [tyV t] [] (tyV t) []:=aJg _ t (le_refl _) h
theorem aPu (a b:Ty) (ha:wfS a=true) (hb:wfS b=true):b9 Tryz.prog 249 [tyV a,.one (.c (.sl 4 [bR b]))] [] (tyV (lY a b)) []:=by
 have h1:=aA7 ha;have h2:=aA7 hb;have y:=uX a b;refine bP (n:=22) tok Tryz.func249 rfl rfl rfl ?_;refine sg rfl (sk 1 rfl (kc h1 ?_));refine kz 2 rfl (aA (sg rfl (aF (aK (fun i:Nat=>mk [(4,.one (.vp 4 0)),(5,.one (.vp 5 0)),(10,.one (.c (.sl 4 [bR b]))),(11,I .i64 1),(12,I .i64 i)] [(4,.var 47 [.c (.int .i64 0),.c (.int .i64 0),.c (.str []),.c .nl]),(5,.var 47 ((bR (if i=0 then a else lY a b)).map .c))]) (fun i=>i≤1) (fun i=>1-i) 0 (ε _) sl ?_))));intro i hi;refine sg rfl (aA (aB rfl (fun q=>?_) (fun q=>?_)))
 ·have r:i=0:=by
   have:(i:Int)<1:=κ q;omega
  subst r;rw[ζ rfl];refine aD (aA (aF (sgh [(0,.row 0 (bR b))] rfl (aC mixed (ak 2 [] rfl (kc h2 ?_))))));refine kc y ?_;exact kz 1 rfl (ag [] rfl ⟨1,le_refl _,by dsimp only;omega,sl⟩)
 have u:i=1:=by
  have:¬(i:Int)<1:=Af q;omega
 subst u;exact aH (sg rfl (aE (rtC trw)))
theorem aW9 (a b:Ty) (ha:b9 Tryz.prog 251 [tyV a] [] (tyV a) []) (hb:b9 Tryz.prog 251 [tyV b] [] (tyV b) []):b9 Tryz.prog 250 [tyV b,.one (.c (.sl 4 [bR a]))] [] (tyV (aFs a b)) []:=by
 have h1:=aJd arrow;have h2:=uX (.mk 3 0 arrow []) a;have y:=uX (lY (.mk 3 0 arrow []) a) b;refine bP (n:=29) tok Tryz.func250 rfl rfl rfl ?_;refine sg rfl (sgh [(1,.pc (tyV b))] rfl (aA (sg rfl (aF (aK (fun i:Nat=>mk [(1,.one (.c (.sl 4 [bR a]))),(4,.one (.vp 4 0)),(5,.one (.vp 5 0)),(10,I .i64 1),(11,I .i64 i)] [(4,.var 47 [.c (.int .i64 0),.c (.int .i64 0),.c (.str []),.c .nl]),(5,.var 47 ((bR (if i=0 then b else aFs a b)).map .c))]) (fun i=>i≤1) (fun i=>1-i) 0 (ε _) sl ?_)))));intro i hi;refine sg rfl (aA (aB rfl (fun q=>?_) (fun q=>?_)))
 ·have r:i=0:=by
   have:(i:Int)<1:=κ q;omega
  subst r;rw[ζ rfl];refine aD (aA (aF (sg rfl (aC mixed (kc h1 ?_)))));refine ak 8 [(7,.row 0 (bR a))] rfl (kc ha ?_);refine kc h2 ?_;refine ak 1 [] rfl (kc y ?_);exact kz 1 rfl (ag [] rfl ⟨1,le_refl _,by dsimp only;omega,sl⟩)
 have u:i=1:=by
  have:¬(i:Int)<1:=Af q;omega
 subst u;rw[ξ (by omega)];exact aH (sg rfl (aE (rtC trw)))
def tpV (L:List Tk):TR→V
 | .ok (x,R)=>.tup [tyV x,I .i64 ((L.length-R.length:Nat):Int),atV 0 0]
 | .error (e,p)=>.tup [tyV zTy,I .i64 0,atV e p]
theorem kF (L:List Tk) (x:Ty) (R:List Tk):tpV L (.ok (x,R))=.tup [tyV x,I .i64 ((L.length-R.length:Nat):Int),atV 0 0]:=rfl
def aKz (L:List Tk) (f:Nat):Prop:=∀(o:Nat) (R:List Tk) (i:Nat),At L i R→3*R.length≤f→o≤40→b9 Tryz.prog 215 [oN L,I .i64 (i:Nat),I .i64 (o:Nat)] [] (tpV L (cO f o R)) []
def aDw (L:List Tk) (f:Nat):Prop:=∀(o:Nat) (R:List Tk) (i:Nat),At L i R→3*R.length+2≤f→o≤40→b9 Tryz.prog 241 [oN L,I .i64 (i:Nat),I .i64 (o:Nat)] [] (tpV L (bX f o R)) []
theorem At.mem {L:List Tk}{i:Nat}{t:Tk}{R:List Tk}(h:At L i (t::R)):t∈L:=τ h.get
theorem aSz (L:List Tk) (hZ:pO L) (f:Nat) (ih:aDw L f):aKz L (f+1):=by
 intro o R i q hf ho;have hkl:(L.map aG).length=L.length:=η _;have hLl:=q.l;obtain⟨t,R,rfl⟩:=q.e.ne;have U:=q.lt;have Y:=q.get;have hti':=aT aG Y;rw[χ] at U hf;rw[cO];refine bP (n:=83) tok Tryz.func215 rfl rfl rfl ?_;refine sg rfl (aA (sgh [(2,.row i (aG t))] rfl ?_));have hz:t.kind=4→t.n=0:=hZ t q.mem;have aa:=y4 t bI hz;have ab:=o7 t 12;have ac:=o7 t 13;have I:=aJd t.text;have J:=aR5 t.text;refine aF (sg rfl (aB rfl (fun hb=>?_) (fun hb=>?_)))
 ·have h2:t.kind=2:=κ hb;rw[ζ h2];obtain⟨_,hn⟩:=q.next (by omega)
  rw[kF,hn];refine aA (aC mixed (akN 2 [] rfl (kc I ?_)));exact akN 6 [] rfl (az (aE jT))
 rw[ξ (Af hb)];refine sg rfl (aB rfl (fun hb=>?_) (fun hb=>?_))
 ·have h1:t.kind=1:=κ hb;rw[ζ h1];obtain⟨_,hn⟩:=q.next (by omega)
  rw[kF,hn];refine aA (aC mixed (akN 2 [] rfl (kc J ?_)));exact akN 6 [] rfl (az (aE jT))
 rw[ξ (Af hb)];refine sk 1 rfl (kc aa ?_);refine kz 2 rfl ?_;cases hl:isT t bI with
 | false=>
  rw[ζ rfl];refine aB rfl (fun _=>sk 2 rfl (kc ab ?_)) (fun hb=>absurd hb (by decide));exact kz 3 rfl (aE jT)
 | true=>
 rw[ξ (by decide)];refine aB rfl (fun hb=>absurd hb (by decide)) (fun _=>sg rfl (aB rfl (fun hb=>?_) (fun hb=>?_)))
 ·rw[ζ (by have:=κ hb;omega)];refine sk 2 rfl (kc ac ?_);exact kz 3 rfl (aE jT)
 have M:¬40≤o:=by have:=Af hb;omega
 rw[ξ M];refine aD ?_;obtain⟨E,_⟩:=q.next (by rw[(c9 hl).1];decide)
 have ad:=ih (o+1) R (i+1) E (by omega) (by omega);have hok:=fS f (o+1) R;have B:=eC f (o+1) R;refine aA (aC mixed (akN 5 [] rfl (kc ad ?_)));generalize bX f (o+1) R=w at hok B ⊢;cases w with
 | error e=>
  obtain⟨e,p⟩:=e;have he:=B e p rfl;unfold tpV atV;refine akN 9 [] rfl (az ?_);rw[n6];exact aA (aF (sg rfl (aB rfl (fun _=>sg rfl (aE jT)) (fun hb=>absurd hb (by simp[he])))))
 | ok y=>
  obtain⟨x,R1⟩:=y;obtain⟨hT,_⟩:=hok x R1 rfl;obtain⟨r,hle⟩:=E.ok hT;obtain⟨u,R3,rfl⟩:=r.e.ne;rw[kF];generalize L.length-(u::R3).length=j at *;have ae:=r.get;have huj':=aT aG ae;have hj:=r.lt;rw[χ] at hj;have O:=y4 u c6 (hZ u r.mem);have af:=o7 u 12;refine kz 9 rfl (aA (aF (sg rfl (aB rfl (fun hb=>absurd hb (by decide)) (fun _=>skh 4 [(2,.row j (aG u))] rfl (kc O ?_))))));refine kz 2 rfl ?_;rw[n6];cases hr:isT u c6 with
  | false=>
   rw[ξ (by decide)];refine aB rfl (fun _=>skh 5 [(3,.row j (aG u))] rfl (kc af ?_)) (fun hb=>absurd hb (by decide));exact kz 3 rfl (aE jT)
  | true=>
   rw[ζ rfl];obtain⟨_,hn⟩:=r.next (by rw[(c9 hr).1];decide)
   rw[kF,hn];exact aB rfl (fun hb=>absurd hb (by decide)) (fun _=>aD (aA (agN [] rfl (aE jT))))
theorem aW5 (t:Tk) (q:t.kind=4→t.n=0):b9 Tryz.prog 248 [tkV t] [] (B (aFf t)) []:=by
 have hi:=y4 t bI q;unfold aFf;refine bP (n:=15) tok Tryz.func248 rfl rfl rfl ?_;refine sg rfl ?_;by_cases h2:t.kind=2
 ·have d1:decide (t.kind=1)=false:=ψ (by omega);have d2:decide (t.kind=2)=true:=φ h2;rw[d1,d2];exact sgh [(3,.bv true),(7,.bv true),(8,.bv true),(11,.bv true)] rfl (aE rtT)
 have d2:decide (t.kind=2)=false:=ψ h2;by_cases h1:t.kind=1
 ·have d1:decide (t.kind=1)=true:=φ h1;rw[d1];exact sgh [(3,.bv false),(7,.bv false),(8,.bv true),(11,.bv true)] rfl (aE rtT)
 ·have d1:decide (t.kind=1)=false:=ψ h1;rw[d1,d2,A9,A9];refine skh 10 [(3,.bv false),(7,.bv false),(8,.bv false)] rfl (kcG hi ?_);exact ak 2 [(8,.bv false),(11,.bv false)] rfl (az (aE rtT))
theorem aSs (L:List Tk) (hZ:pO L) (f:Nat) (ab:∀g,g≤f→aKz L g) (ac:∀g,g≤f→aDw L g):aDw L (f+1):=by
 intro o R i Y hf ho;have hkl:(L.map aG).length=L.length:=η _;have hLl:=Y.l;have M:=ab f (le_refl _) o R i Y (by omega) ho;have hok:=iQ f o R;have B:=eH f o R;have ad:=Y.lt;have key:∃W:TR,W=bX (f+1) o R:=⟨_,rfl⟩
 obtain⟨W,r⟩:=key;rw[←r];rw[bX] at r;refine bP (n:=80) tok Tryz.func241 rfl rfl rfl ?_;refine sg rfl (sg rfl (sk 3 rfl (kc M ?_)));have O:∀(x:Ty) (j e p:Int) (R1:List Tk) (g:Nat),((e=0∧p=0∧j=((L.length-R1.length:Nat):Int)∧At L (L.length-R1.length) R1∧WF x∧3*R1.length+1≤g∧g≤f∧W=gC g o x R1)∨(¬e=0∧W=.error (e,p)))→
   AWp none Tryz.prog 80 (keys ([]:List (Nat×AObj))) (jF (jF (jF (Tryz.f241.body.getD .skip)))) (mk [(0,oN L),(1,I .i64 j),(2,I .i64 (o:Nat)),(6,.one (.vp 6 0)),(8,.one (.vp 8 0)),(9,.one (.clo 248 [])),(10,.one (.vp 10 0)),(11,.one (.vp 11 0))] [(6,.var 47 [.c (.int .i64 0),.c (.int .i64 0),.c (.str []),.c .nl]),(8,.var 32 [.c (.int .i64 0),.c (.int .i64 0)]),(10,.var 47 ((bR x).map .c)),(11,.var 32 [.c (.int .i64 e),.c (.int .i64 p)])]) (fun ex st=>(ex=.normal∨ex=.ret)∧Fin tr.flat Tryz.f241 st [] (tpV L W) []):=by
  clear M hok B r ad Y hf;intro x j e p R1 g hinv;refine aA (aF (aK (fun q:Ty×Int×Int×Int×List Tk×Nat=>mk [(0,oN L),(1,I .i64 q.2.1),(2,I .i64 (o:Nat)),(6,.one (.vp 6 0)),(8,.one (.vp 8 0)),(9,.one (.clo 248 [])),(10,.one (.vp 10 0)),(11,.one (.vp 11 0))] [(6,.var 47 [.c (.int .i64 0),.c (.int .i64 0),.c (.str []),.c .nl]),(8,.var 32 [.c (.int .i64 0),.c (.int .i64 0)]),(10,.var 47 ((bR q.1).map .c)),(11,.var 32 [.c (.int .i64 q.2.2.1),.c (.int .i64 q.2.2.2.1)])]) (fun q=>(q.2.2.1=0∧q.2.2.2.1=0∧q.2.1=((L.length-q.2.2.2.2.1.length:Nat):Int)∧At L (L.length-q.2.2.2.2.1.length) q.2.2.2.2.1∧WF q.1∧3*q.2.2.2.2.1.length+1≤q.2.2.2.2.2∧q.2.2.2.2.2≤f∧W=gC q.2.2.2.2.2 o q.1 q.2.2.2.2.1)∨(¬q.2.2.1=0∧W=.error (q.2.2.1,q.2.2.2.1))) (fun q=>if q.2.2.1=0 then q.2.2.2.2.2 else 0) (x,j,e,p,R1,g) hinv sl ?_));clear hinv;rintro⟨x,j,e,p,R1,g⟩ hinv;dsimp only at hinv ⊢;rcases hinv with⟨he,hp,hj,E,U,hg,hgf,r⟩ | ⟨he,r⟩
  case inr=>
   have de:decide (e=0)=false:=ψ he;refine aA (sgh [(3,.bv false),(10,.bv false)] rfl (aB rfl (fun hb=>absurd hb (by decide)) (fun _=>aH ?_)));rw[r];unfold tpV atV;exact aA (sg rfl (aB rfl (fun _=>sg rfl (aE jT)) (fun hb=>absurd hb (by simp[he]))))
  subst he hp hj;obtain⟨u,R2,rfl⟩:=E.e.ne;obtain⟨g,rfl⟩:∃h,g=h+1:=⟨g-1,by omega⟩
  have ae:=E.get;have huj':=aT aG ae;have hlt:=E.lt;have hz:=hZ u E.mem;have hbu:=aW5 u hz;rw[gC] at r;refine aA (skh 9 [(3,.bv true),(7,.row (L.length-(u::R2).length) (aG u))] rfl (kvG (caps:=[]) (args:=[tkV u]) (hin:=[]) (hout:=[]) hbu ?_));refine ak 1 [(3,.bv true),(10,.bv true)] rfl (az (aB rfl (fun hb=>?_) (fun hb=>?_)))
  ·have hb:aFf u=true:=hb;rw[ζ hb] at r;have M:=ab g (by omega) o (u::R2) _ E (by omega) ho;have hok:=iQ g o (u::R2);have B:=eH g o (u::R2);refine aD (aF (sg rfl (sk 3 rfl (kc M ?_))));generalize cO g o (u::R2)=w at hok B r ⊢;cases w with
   | error e=>
    obtain⟨e,p⟩:=e;have he:=B e p rfl;have aa:=aPu x zTy U.1 rfl;dsimp only at r;unfold tpV atV;refine kz 7 rfl (aC mixed (ak 3 [(2,.all)] rfl (kc aa ?_)));exact kz 1 rfl ⟨(lY x zTy,0,e,p,[],0),.inr ⟨he,r⟩,by dsimp only;rw[ξ he,ζ rfl];omega,sl⟩
   | ok y=>
    obtain⟨a,R3⟩:=y;obtain⟨J,_⟩:=hok a R3 rfl;obtain⟨hA3,hle⟩:=E.ok J;have hlen:=J.len;have aa:=aPu x a U.1 J.w.1;dsimp only at r;rw[kF];unfold atV;refine kz 7 rfl (aC mixed (ak 3 [(2,.all)] rfl (kc aa ?_)));exact kz 1 rfl ⟨(lY x a,((L.length-R3.length:Nat):Int),0,0,R3,g),.inl ⟨rfl,rfl,rfl,hA3,vR U J.w,by dsimp only;omega,by dsimp only;omega,r⟩,by dsimp only;rw[ζ rfl,ζ rfl];omega,sl⟩
  ·have hb:aFf u=false:=hb;rw[ξ (by rw[hb];decide)] at r;have hIs:=y4 u arrow hz;refine aH (aA (sg rfl (aB rfl (fun hb=>absurd hb (by decide)) (fun _=>aD (aA (skh 4 [(2,.row (L.length-(u::R2).length) (aG u))] rfl (kc hIs ?_)))))));refine kz 1 rfl ?_;cases hl:isT u arrow with
   | false=>
    rw[hl,ξ (by decide)] at r;rw[r,kF];exact aB rfl (fun _=>sg rfl (aE jT)) (fun hb=>absurd hb (by decide))
   | true=>
    rw[hl,ζ rfl] at r;obtain⟨hA2,hn⟩:=E.next (by rw[(c9 hl).1];decide)
    rw[χ] at hg;have hty:=ac g (by omega) o R2 _ hA2 (by omega) ho;have hok:=fS g o R2;have B:=eC g o R2;refine aB rfl (fun hb=>absurd hb (by decide)) (fun _=>aD (aA (aC mixed (akN 4 [] rfl (kc hty ?_)))));generalize bX g o R2=w at hok B r ⊢;cases w with
    | error e=>
     obtain⟨e,p⟩:=e;have he:=B e p rfl;dsimp only at r;rw[r];unfold tpV atV;exact kz 8 rfl (aA (sg rfl (aB rfl (fun _=>sg rfl (aE jT)) (fun hb=>absurd hb (by simp[he])))))
    | ok y=>
     obtain⟨to,R3⟩:=y;obtain⟨J,_⟩:=hok to R3 rfl;dsimp only at r;rw[r,kF,kF];have hfu:=aW9 x to (aA7 U.1) (aA7 J.w.1);unfold atV;refine kz 8 rfl (aA (sg rfl (aB rfl (fun hb=>absurd hb (by decide)) (fun _=>aD (skh 3 [(2,.all)] rfl (kc hfu ?_))))));exact kz 5 rfl (aE jT)
 generalize cO f o R=w at hok B r ⊢;cases w with
 | error e=>
  obtain⟨e,p⟩:=e;unfold tpV atV;exact kz 9 rfl (AWp.sub sl (O zTy 0 e p [] 0 (.inr ⟨B e p rfl,r⟩)))
 | ok y=>
  obtain⟨x,R1⟩:=y;obtain⟨J,_⟩:=hok x R1 rfl;obtain⟨E,hle⟩:=Y.ok J;have hlen:=J.len;rw[kF];unfold atV;exact kz 9 rfl (AWp.sub sl (O x _ 0 0 R1 f (.inl ⟨rfl,rfl,rfl,E,J.w,by omega,le_refl _,r⟩)))
theorem aF3 (L:List Tk) (hZ:pO L):∀f,(∀g,g≤f→aKz L g)∧∀g,g≤f→aDw L g:=by
 intro f
 induction f with
 | zero=>
  refine⟨fun g r o R i u y=>?_,fun g r o R i u y=>?_⟩
  ·have:=u.lt;omega
  ·have:=u.lt;omega
 | succ f q=>
  refine⟨fun g r=>?_,fun g r=>?_⟩
  ·by_cases h:g≤f
   ·exact q.1 g h
   ·rw[show g=f+1 by omega];exact aSz L hZ f (q.2 f (le_refl _))
  ·by_cases h:g≤f
   ·exact q.2 g h
   ·rw[show g=f+1 by omega];exact aSs L hZ f q.1 q.2
def aXv (L:List Tk) (o:Nat):List Tk→V
 | []=>.tup [.pa (aN ⟨[],zTy⟩),I .i64 0,B false]
 | t::R=>if t.kind=2 then(match cO (3*R.length) o R with
   | .error _=>.tup [.pa (aN ⟨t.text,zTy⟩),I .i64 0,B false]
   | .ok (x,R2)=>.tup [.pa (aN ⟨t.text,x⟩),I .i64 ((L.length-R2.length:Nat):Int),B true])
  else .tup [.pa (aN ⟨[],zTy⟩),I .i64 0,B false]
theorem aJm (L:List Tk) (hZ:pO L) (o:Nat) (ho:o≤40) (R:List Tk) (i:Nat) (q:At L i R):b9 Tryz.prog 216 [oN L,I .i64 (i:Nat),I .i64 (o:Nat)] [] (aXv L o R) []:=by
 have U:(L.map aG).length=L.length:=η _;have Y:=q.l;obtain⟨t,R,rfl⟩:=q.e.ne;have u:=q.lt;have B:=q.get;have M:=aT aG B;rw[χ] at u;rw[aXv];refine bP (n:=39) tok Tryz.func216 rfl rfl rfl ?_;refine sg rfl (aA (sgh [(2,.row i (aG t))] rfl ?_));by_cases h2:t.kind=2
 case neg=>
  rw[ξ h2];have d2:(!decide (t.kind=2))=true:=by rw[ψ h2];rfl
  exact aB rfl (fun _=>sg rfl (aE aQo)) (fun hb=>absurd (hb.symm.trans d2) (by decide))
 rw[ζ h2];have d2:(!decide (t.kind=2))=false:=by rw[φ h2];rfl
 refine aB rfl (fun hb=>absurd (hb.symm.trans d2) (by decide)) (fun _=>aD ?_);obtain⟨E,_⟩:=q.next (by omega)
 have J:=(aF3 L hZ (3*R.length)).1 (3*R.length) (le_refl _) o R _ E (le_refl _) ho;have r:=eH (3*R.length) o R;refine aA (aC mixed (akN 4 [] rfl (kc J ?_)));generalize cO (3*R.length) o R=w at r ⊢;cases w with
 | error e=>
  obtain⟨e,p⟩:=e;have he:=r e p rfl;have O:decide (e=0)=false:=ψ he;unfold tpV atV;refine kz 9 rfl (sgh [(2,.row i (aG t))] rfl ?_);dsimp only;rw[←O];exact aE aQo
 | ok y=>
  obtain⟨x,R1⟩:=y;unfold tpV atV;exact kz 9 rfl (sgh [(2,.row i (aG t))] rfl (aE aQo))
def aVo (L:List Tk):Option (List Prd×List Tk)→V
 | some (out,u::R2)=>if isT u c6=true then .tup [.one (.c (.sl 5 (out.map aN))),I .i64 ((L.length-R2.length:Nat):Int),B true] else .tup [.one (.c .nl),I .i64 0,B false]
 | _=>.tup [.one (.c .nl),I .i64 0,B false]
theorem aR8 (L:List Tk) (hZ:pO L) (R:List Tk) (i:Nat) (M:At L i R) (F:Nat) (hF:R.length+1≤F):b9 Tryz.prog 218 [oN L,I .i64 (i:Nat)] [] (aVo L (eZ F true R [])) []:=by
 have hkl:(L.map aG).length=L.length:=η _;have hLl:=M.l;have ab:=M.lt;have q:∃W,W=eZ F true R []:=⟨_,rfl⟩
 obtain⟨W,q⟩:=q;rw[←q];refine bP (n:=42) tok Tryz.func218 rfl rfl rfl ?_;refine sg rfl (sg rfl (AWp.sub (Sub.own (t:=7) (id:=500) 113 5 rfl rfl) ?_));refine aF (aK (fun p:Nat×Nat×List Prd×List Tk=>mk [(0,oN L),(1,I .i64 (p.1:Nat)),(7,.one (.hs 500 0 p.2.2.1.length p.2.2.1.length))] [(500,.arr 113 5 (p.2.2.1.map aN) 0)]) (fun p=>At L p.1 p.2.2.2∧p.2.2.2.length+1≤p.2.1∧p.2.2.1.length+p.2.2.2.length≤4001∧W=eZ p.2.1 true p.2.2.2 p.2.2.1) (fun p=>p.2.1) (i,F,[],R) ⟨M,hF,by dsimp only;rw[length_nil];omega,q⟩ sl ?_);clear q M ab hF;rintro⟨j,f,out,Q⟩ ⟨E,hf,Y,q⟩;dsimp only at E hf Y q ⊢;have hout:(out.map aN).length=out.length:=η _;obtain⟨f,rfl⟩:∃g,f=g+1:=⟨f-1,by omega⟩
 obtain⟨u,Q,rfl⟩:=E.e.ne;have hjl:=E.lt;rw[χ] at hf Y hjl;have r:=aJm L hZ 1 (by decide) (u::Q) j E;rw[aXv] at r;rw[eZ] at q;by_cases h2:u.kind=2
 case neg=>
  rw[ξ h2] at q r;rw[q];unfold aN at r;refine aF (sk 2 rfl (kc r ?_));exact kz 8 rfl (aA (sg rfl (aB rfl (fun _=>sg rfl (aE aLp)) (fun hb=>absurd hb (by decide)))))
 rw[ζ h2] at q r;rw[ζ rfl] at q;have hok:=iQ (3*Q.length) 1 Q;obtain⟨hA1,_⟩:=E.next (by omega)
 generalize cO (3*Q.length) 1 Q=w at hok q r;cases w with
 | error e=>
  dsimp only at q r;rw[q];unfold aN at r;refine aF (sk 2 rfl (kc r ?_));exact kz 8 rfl (aA (sg rfl (aB rfl (fun _=>sg rfl (aE aLp)) (fun hb=>absurd hb (by decide)))))
 | ok y=>
 obtain⟨x,R1⟩:=y;obtain⟨hT,_⟩:=hok x R1 rfl;obtain⟨B,hle⟩:=hA1.ok hT;have hlen:=hT.len;obtain⟨v,R2,rfl⟩:=B.e.ne;dsimp only at q r;rw[B8] at q;have hvj:=B.get;have hvj':=aT aG hvj;have hv2:=B.lt;rw[χ] at hlen hv2;have hcm:=y4 v lP (hZ v B.mem);have hrp:=y4 v c6 (hZ v B.mem);unfold aN at r;have J:out.map aN++[[.str u.text,.int .i64 x.form,.int .i64 x.n,.str x.name,.sl 4 (dC x)]]=(out++[(⟨u.text,x⟩:Prd)]).map aN:=by rw[Al];rfl
 generalize hO:out++[(⟨u.text,x⟩:Prd)]=O at q J;have aa:O.length=out.length+1:=by rw[←hO,θ];rfl
 generalize L.length-(v::R2).length=k at *;refine aF (sk 2 rfl (kc r ?_));refine kz 8 rfl (aA (sg rfl (aB rfl (fun hb=>absurd hb (by decide)) (fun _=>aD (sgh [(1,.all),(3,.all)] rfl (AWp.sub (st2:=mk [(0,oN L),(1,I .i64 (j:Nat)),(7,.one (.hs 500 0 O.length O.length)),(9,I .i64 (k:Nat))] [(500,.arr 113 5 (O.map aN) 0)]) (sl (he:=⟨rfl,rfl,Go.AM.hs_ren (by rw[aa,←hout];rfl) (by rw[aa,←hout];rfl),rfl,trivial⟩) (hh:=⟨⟨_,rfl,.arrS J⟩,trivial⟩)) ?_))))));refine aA (aF (skh 4 [(2,.row k (aG v))] rfl (kc hrp ?_)));refine kz 1 rfl ?_;have ac:isT v c6=true→isT v lP=false:=fun h=>by
  have h1:=(c9 h).2
  unfold isT;rw[h1];cases decide (v.kind=4)<;>rfl
 cases U:isT v c6 with
 | true=>
  rw[ξ (by rw[ac U];decide)] at q;rw[q,aVo,ζ U];obtain⟨_,hn⟩:=B.next (by rw[(c9 U).1];decide)
  rw[hn];refine aB rfl (fun _=>aA (agN [] rfl (AWp.sub (Sub.freeze (id:=500) rfl) ?_))) (fun hb=>absurd hb (by decide));exact aE aLp
 | false=>
  refine aB rfl (fun hb=>absurd hb (by decide)) (fun _=>skh 4 [(2,.row k (aG v))] rfl (kc hcm ?_));refine kz 2 rfl ?_;cases hc:isT v lP with
  | false=>
   rw[hc,ξ (by decide)] at q;rw[q,aVo,ξ (by rw[U];decide)];exact aB rfl (fun _=>sg rfl (aE aLp)) (fun hb=>absurd hb (by decide))
  | true=>
   rw[ζ hc] at q;obtain⟨hA3,_⟩:=B.next (by rw[(c9 hc).1];decide)
   exact aB rfl (fun hb=>absurd hb (by decide)) (fun _=>aD (agN [] rfl ⟨(k+1,f,O,R2),⟨hA3,by dsimp only;omega,by dsimp only;omega,q⟩,by dsimp only;omega,sl⟩))
def aTp (L:List Tk):PR→V
 | .ok (ps,R)=>.tup [.one (.c (.sl 5 (ps.map aN))),I .i64 ((L.length-R.length:Nat):Int),atV 0 0]
 | .error (e,p)=>.tup [.one (.c .nl),I .i64 0,atV e p]
theorem oT (L:List Tk) (ps:List Prd) (R:List Tk):aTp L (.ok (ps,R))=.tup [.one (.c (.sl 5 (ps.map aN))),I .i64 ((L.length-R.length:Nat):Int),atV 0 0]:=rfl
theorem uZ (L:List Tk) (hZ:pO L) (R:List Tk) (i:Nat) (J:At L i R):b9 Tryz.prog 183 [oN L,I .i64 (i:Nat)] [] (aTp L (cR R)) []:=by
 have hkl:(L.map aG).length=L.length:=η _;have hLl:=J.l;have hlt:=J.lt;have ac:L.length-R.length=i:=by omega
 have r:=aJm L hZ 0 (by decide) R i J;obtain⟨t,R,rfl⟩:=J.e.ne;have hti:=J.get;have hti':=aT aG hti;have aa:=y4 t bI (hZ t J.mem);have q:∃W,W=cR (t::R):=⟨_,rfl⟩
 obtain⟨W,q⟩:=q;rw[←q];rw[aXv] at r;rw[cR] at q;have E:∀st,Sub (keys ([]:List (Nat×AObj))) (mk [(0,oN L),(1,I .i64 (i:Nat)),(6,.one (.vp 6 0)),(9,B false)] [(6,.var 32 [.c (.int .i64 0),.c (.int .i64 0)])]) st→W=.ok ([],t::R)→
   AWp none Tryz.prog 59 (keys ([]:List (Nat×AObj))) (jF (jF (jF (jF (Tryz.f183.body.getD .skip))))) st (fun ex st=>(ex=.normal∨ex=.ret)∧Fin tr.flat Tryz.f183 st [] (aTp L W) []):=fun st hs hw=>by
  refine AWp.sub hs ?_;rw[hw,oT,ac];exact aA (aF (sgh [(2,.bv true),(9,.bv true)] rfl (aB rfl (fun _=>sg rfl (aE aLq)) (fun hb=>absurd hb (by decide)))))
 have ab:∀(O:List Prd) (m:Nat) (Q:List Tk) (st:St),Sub (keys ([]:List (Nat×AObj))) (mk [(0,oN L),(1,I .i64 (i:Nat)),(6,.one (.vp 6 0)),(8,I .i64 (m:Nat)),(9,B true),(10,.one (.c (.sl 5 (O.map aN))))] [(6,.var 32 [.c (.int .i64 0),.c (.int .i64 0)])]) st→At L m Q→W=yV t.pl (t::R) O Q→
   AWp none Tryz.prog 59 (keys ([]:List (Nat×AObj))) (jF (jF (jF (jF (Tryz.f183.body.getD .skip))))) st (fun ex st=>(ex=.normal∨ex=.ret)∧Fin tr.flat Tryz.f183 st [] (aTp L W) []):=fun O m Q st hs M hw=>by
  refine AWp.sub hs ?_;obtain⟨y,Q,rfl⟩:=M.e.ne;have hyj:=M.get;have hyj':=aT aG hyj;have hda:=y4 y darrow (hZ y M.mem);have hB:=o7 t 2;have hml:=M.lt;have ad:(O.map aN).length=O.length:=η _;rw[yV] at hw;refine aA (aF (skh 7 [(2,.bv false),(5,.row m (aG y))] rfl (kcG hda ?_)));refine ak 3 [(2,.bv false),(9,.bv false)] rfl (az ?_);cases hd:isT y darrow with
  | false=>
   rw[hd,ξ (by decide)] at hw;rw[hw,oT,ac];exact aB rfl (fun _=>sg rfl (aE aLq)) (fun hb=>absurd hb (by decide))
  | true=>
   rw[hd,ζ rfl] at hw;obtain⟨_,hn⟩:=M.next (by rw[(c9 hd).1];decide)
   refine aB rfl (fun hb=>absurd hb (by decide)) (fun _=>sg rfl (aB rfl (fun hb=>?_) (fun hb=>?_)))
   ·rw[ζ (by have:=κ hb;rw[ad] at this;omega)] at hw;rw[hw];refine skh 4 [(2,.row i (aG t))] rfl (kc hB ?_);exact kz 3 rfl (aE aLq)
   ·rw[ξ (by have:=Af hb;rw[ad] at this;omega)] at hw;rw[hw,oT,hn];exact aD (aA (agN [] rfl (aE aLq)))
 refine bP (n:=59) tok Tryz.func183 rfl rfl rfl ?_;refine sg rfl ?_;cases hb:isT t bI with
 | true=>
  have h4:=c9 hb;rw[ξ (by omega)] at r;unfold aN at r;rw[hb,ζ rfl] at q;obtain⟨U,_⟩:=J.next (by omega)
  have hls:=aR8 L hZ R (i+1) U ((t::R).length+1) (by rw[χ];omega);have hok:=fun out R' h=>u3 ((t::R).length+1) true R [] out R' (wt R) R.length (le_refl _) (fun p hp=>by cases hp) (by rw[length_nil];omega) h
  refine sk 2 rfl (kc r ?_);refine kz 8 rfl (sgh [(1,.all)] rfl (aA (skh 4 [(2,.row i (aG t))] rfl (kc aa ?_))));refine az ?_;rw[hb];refine aB rfl (fun _=>aC mixed (akN 3 [] rfl (kc hls ?_))) (fun hb=>absurd hb (by decide));generalize eZ ((t::R).length+1) true R []=w at hok q ⊢;cases w with
  | none=>
   rw[kT] at q;rw[aVo]
   ·exact kz 7 rfl (E _ sl q)
   ·intro a b c h;cases h
  | some y=>
   obtain⟨out,R2⟩:=y;obtain⟨g1,⟨p,g2,_⟩,_,_⟩:=hok out R2 rfl;obtain⟨Y,hn2⟩:=U.to g2 (g1 U.e);rw[kT] at q;obtain⟨u,R2,rfl⟩:=Y.e.ne;rw[brP,ζ rfl] at q;rw[aVo];by_cases hr:isT u c6=true
   ·rw[ζ hr] at q ⊢;obtain⟨hA3,hn3⟩:=Y.next (by rw[(c9 hr).1];decide)
    rw[hn3];exact kz 7 rfl (ab out _ R2 _ sl hA3 q)
   ·rw[ξ hr] at q ⊢;exact kz 7 rfl (E _ sl q)
 | false=>
  rw[hb,ξ (by decide)] at q;rw[eZ] at q;by_cases h2:t.kind=2
  case neg=>
   rw[ξ h2] at q r;unfold aN at r;rw[kT] at q;refine sk 2 rfl (kc r ?_);refine kz 8 rfl (sgh [(1,.all)] rfl (aA (skh 4 [(2,.row i (aG t))] rfl (kc aa ?_))));refine az ?_;rw[hb];exact aB rfl (fun hb=>absurd hb (by decide)) (fun _=>aD (E _ sl q))
  rw[ζ h2] at q r;rw[ξ (by decide)] at q;obtain⟨U,_⟩:=J.next (by omega)
  have hok:=iQ (3*R.length) 0 R;generalize cO (3*R.length) 0 R=w at hok q r;cases w with
  | error e=>
   dsimp only at q r;unfold aN at r;rw[kT] at q;refine sk 2 rfl (kc r ?_);refine kz 8 rfl (sgh [(1,.all)] rfl (aA (skh 4 [(2,.row i (aG t))] rfl (kc aa ?_))));refine az ?_;rw[hb];exact aB rfl (fun hb=>absurd hb (by decide)) (fun _=>aD (E _ sl q))
  | ok y=>
   obtain⟨x,R1⟩:=y;obtain⟨hT,_⟩:=hok x R1 rfl;obtain⟨Y,hle⟩:=U.ok hT;obtain⟨u,R2,rfl⟩:=Y.e.ne;dsimp only at q r;unfold aN at r;rw[B3,ξ (by decide),kT,brP,ξ (by decide),Ak] at q;refine sk 2 rfl (kc r ?_);refine kz 8 rfl (sgh [(1,.all)] rfl (aA (skh 4 [(2,.row i (aG t))] rfl (kc aa ?_))));refine az ?_;rw[hb];exact aB rfl (fun hb=>absurd hb (by decide)) (fun _=>aD (ab [⟨t.text,x⟩] _ (u::R2) _ sl Y q))
theorem aC3 (L:List Tk) (hZ:pO L) (R:List Tk) (i:Nat) (q:At L i R):b9 Tryz.prog 220 [oN L,I .i64 (i:Nat)] [] (tpV L (bX (3*R.length+2) 0 R)) []:=by
 have h:=(aF3 L hZ (3*R.length+2)).2 (3*R.length+2) (le_refl _) 0 R i q (le_refl _) (by decide);refine bP (n:=13) tok Tryz.func220 rfl rfl rfl ?_;refine sg rfl (sk 2 rfl (kc h ?_));generalize bX (3*R.length+2) 0 R=w;cases w with
 | error e=>
  obtain⟨e,p⟩:=e;unfold tpV atV;exact kz 6 rfl (aE jT)
 | ok y=>
  obtain⟨x,R1⟩:=y;unfold tpV atV;exact kz 6 rfl (aE jT)
theorem aNw (L:List Tk) (hZ:pO L) (R:List Tk) (i:Nat) (q:At L i R):b9 Tryz.prog 182 [oN L,I .i64 (i:Nat)] [] (tpV L (cO (3*R.length) 0 R)) []:=by
 have h:=(aF3 L hZ (3*R.length)).1 (3*R.length) (le_refl _) 0 R i q (le_refl _) (by decide);refine bP (n:=13) tok Tryz.func182 rfl rfl rfl ?_;refine sg rfl (sk 2 rfl (kc h ?_));generalize cO (3*R.length) 0 R=w;cases w with
 | error e=>
  obtain⟨e,p⟩:=e;unfold tpV atV;exact kz 6 rfl (aE jT)
 | ok y=>
  obtain⟨x,R1⟩:=y;unfold tpV atV;exact kz 6 rfl (aE jT)
theorem o8 (l:List (List C)) (h:l.length≤1000000):b9 Tryz.prog 221 [.one (.c (.sl 5 l))] [] (.one (.hs 720 0 l.length l.length)) [(720,.arr 113 5 l 0)]:=by
 refine bP (n:=8) tok Tryz.func221 rfl rfl rfl ?_;refine sg rfl (aXh 0 rfl (fun hl=>?_) ?_)
 ·subst hl;refine aA (sg rfl (aB rfl (fun _=>sg rfl (AWp.sub (Sub.own (t:=2) (id:=720) 113 5 rfl rfl) ?_)) nofun));exact aE rtT
 ·refine aA (sg rfl (aB rfl nofun (fun _=>aD (sgh [(0,.id 720)] rfl (AWp.sub (st2:=mk [(2,.one (.hs 720 0 l.length l.length))] [(720,.arr 113 5 l 0)]) sl ?_)))));exact aE rtT
def fH (s:Sch):List C:=[.sl 1 (s.vars.map b7),.sl 1 [],.sl 5 (s.preds.map aN),.int .i64 s.ty.form,.int .i64 s.ty.n,.str s.ty.name,.sl 4 (dC s.ty)]
def lX:Sch:=⟨[],[],zTy⟩
def spV (L:List Tk):SR→V
 | .ok (s,R)=>.tup [.pa (fH s),I .i64 ((L.length-R.length:Nat):Int),atV 0 0]
 | .error (e,p)=>.tup [.pa (fH lX),I .i64 0,atV e p]
theorem aOu (L:List Tk) (s:Sch) (R:List Tk):spV L (.ok (s,R))=.tup [.pa (fH s),I .i64 ((L.length-R.length:Nat):Int),atV 0 0]:=rfl
def aK3:List AM.R:=[.c .nl,.c .nl,.c .nl,.c (.int .i64 0),.c (.int .i64 0),.c (.str []),.c .nl]
theorem aJz (L:List Tk) (hZ:pO L) (R:List Tk) (i:Nat) (Y:At L i R) (hwt:wt L≤30000):b9 Tryz.prog 185 [oN L,I .i64 (i:Nat)] [] (spV L (cH R)) []:=by
 have hp:=uZ L hZ R i Y;have ad:= @mB R;have ae:= @iB R;unfold cH;refine bP (n:=74) tok Tryz.func185 rfl rfl rfl ?_;refine sg rfl (sk 2 rfl (kc hp ?_));generalize cR R=w at ad ae ⊢;cases w with
 | error e=>
  obtain⟨e,p⟩:=e;have he:=ae rfl;rw[qW];unfold aTp atV;exact kz 8 rfl (aA (sg rfl (aB rfl (fun _=>sg rfl (aE jT)) (fun hb=>absurd hb (by simp[he])))))
 | ok y=>
 obtain⟨ps,R1⟩:=y;obtain⟨k1,⟨q,k2,_⟩,k3,k4⟩:=ad rfl;obtain⟨af,hn1⟩:=Y.to k2 (k1 Y.e);rw[oT,qW,hn1];generalize i+q.length=j at af;have hty:=aC3 L hZ R1 j af;have ah:=fS (3*R1.length+2) 0 R1;have ai:=eC (3*R1.length+2) 0 R1;have aa:wt R≤30000:=by
  have:L=L.take i++R:=by rw[←Y.d,take_append_drop]
  rw[this] at hwt;exact le_trans nI hwt
 have hwtR1:wt R1≤30000:=by rw[k2] at aa;exact le_trans nI aa
 have hRl:=Y.lt;have hLl:=Y.l;unfold atV;refine kz 8 rfl (aA (sg rfl (aB rfl (fun hb=>absurd hb (by decide)) (fun _=>aD (sk 2 rfl (kc hty ?_))))));generalize bX (3*R1.length+2) 0 R1=w at ah ai ⊢;cases w with
 | error e=>
  obtain⟨e,p⟩:=e;have he:=ai e p rfl;rw[nL];unfold tpV atV;exact kz 8 rfl (aA (sg rfl (aB rfl (fun _=>sg rfl (aE jT)) (fun hb=>absurd hb (by simp[he])))))
 | ok y=>
 obtain⟨x,R2⟩:=y;obtain⟨hT,hTn⟩:=ah x R2 rfl;rw[kF,nL,aOu];unfold atV;dsimp only;generalize ((L.length-R2.length:Nat):Int)=m;refine kz 8 rfl (aA (sg rfl (aB rfl (fun hb=>absurd hb (by decide)) (fun _=>aD (sg rfl ?_)))));have hsv:aTl ps x=gP [] (ps++[(⟨[],x⟩:Prd)]):=by rw[aAb];rfl
 rw[hsv];have J:∀p∈ps++[(⟨[],x⟩:Prd)],WF p.ty∧tn p.ty≤30000:=fun p hp=>by
  rcases Bk.1 hp with hp | hp
  ·exact⟨(k3 p hp).1,by have:=(k3 p hp).2;omega⟩
  ·rw[A2.1 hp];exact⟨hT.w,by show tn x≤30000;omega⟩
 have hcl:=o8 (ps.map aN) (by rw[η];omega);have hkl:(ps.map aN).length=ps.length:=η _;have U:ps.map aN++[[.str [],.int .i64 x.form,.int .i64 x.n,.str x.name,.sl 4 (dC x)]]=(ps++[(⟨[],x⟩:Prd)]).map aN:=by rw[Al];rfl
 have aj:(ps++[(⟨[],x⟩:Prd)]).length=ps.length+1:=by rw[θ];rfl
 generalize ps++[(⟨[],x⟩:Prd)]=u at J U aj ⊢;have hqe:(u.map aN).length=u.length:=η _;refine aA (sk 1 rfl (kc hcl ?_));refine ak 6 [(4,.all),(5,.fz)] rfl (az (AWp.sub (Sub.own (t:=10) (id:=710) 9 1 rfl rfl) ?_));have E:∀r:List C,(ps.map aN).length+[r].length=u.length:=fun r=>by rw[hkl,aj];rfl
 refine aF (aK (fun k:Nat=>mk [(1,I .i64 m),(4,.one (.vp 4 0)),(6,.one (.vp 6 0)),(7,.one (.c (.sl 5 (ps.map aN)))),(9,.one (.vp 9 0)),(10,oV (gP [] (u.take k))),(44,.one (.hs 720 0 u.length u.length)),(45,I .i64 (u.length:Nat)),(46,I .i64 (k:Nat))] [(4,.var 59 aK3),(6,.var 32 [.c (.int .i64 0),.c (.int .i64 0)]),(9,.var 47 ((bR x).map .c)),(710,oO (gP [] (u.take k))),(720,.arr 113 5 (u.map aN) 2)]) (fun k=>k≤u.length) (fun k=>u.length-k) 0 (ε _) (sl (he:=⟨rfl,rfl,rfl,rfl,rfl,rfl,Go.AM.hs_ren (E _) (E _),Go.AM.int_eq (congrArg Int.ofNat (E _)),rfl,trivial⟩) (hh:=⟨⟨_,rfl,.var rfl⟩,⟨_,rfl,.var rfl⟩,⟨_,rfl,.var rfl⟩,⟨_,rfl,Go.AM.Ole.arrE rfl⟩,⟨_,rfl,.arrS U⟩,trivial⟩)) ?_);intro k hk;have hgl:(gP [] (u.take k)).length≤4002*30000:=by
  have h1:=xD (W:=30000) (u.take k) [] (fun p hp=>(J p (Cf hp)).2);rw[An,length_nil] at h1;have:min k u.length*30000≤4002*30000:=A0 _ (by omega);omega
 refine sg rfl (aA (aB rfl (fun hb=>?_) (fun hb=>?_)))
 ·have al:k<u.length:=by have:=κ hb;omega
  obtain⟨p,hp⟩:=aL al;have hp':=aT aN hp;have hpm:=J p (τ hp);have am:=aC8 p.ty (by have:=aV1 p.ty;omega);have htf:=nJ p.ty;have ab:=aAa hp;generalize gP [] (u.take k)=o at hgl ab ⊢;generalize tfR p.ty=l at am htf ab ⊢;have an:(l.map b7).length=l.length:=η _;refine aD (aA (aF (sgh [(1,.row k (aN p))] rfl (sk 2 rfl (kc am ?_)))));refine kz 2 rfl (aF (aK (fun j:Nat=>mk [(1,I .i64 m),(4,.one (.vp 4 0)),(6,.one (.vp 6 0)),(7,.one (.c (.sl 5 (ps.map aN)))),(9,.one (.vp 9 0)),(10,oV (eX o (l.take j))),(44,.one (.hs 720 0 u.length u.length)),(45,I .i64 (u.length:Nat)),(46,I .i64 (k:Nat)),(52,cJ l),(53,I .i64 ((l.map b7).length:Nat)),(54,I .i64 (j:Nat))] [(4,.var 59 aK3),(6,.var 32 [.c (.int .i64 0),.c (.int .i64 0)]),(9,.var 47 ((bR x).map .c)),(710,oO (eX o (l.take j))),(720,.arr 113 5 (u.map aN) 2)]) (fun j=>j≤l.length) (fun j=>l.length-j) 0 (ε _) sl ?_));intro j hj;refine sg rfl (aA (aB rfl (fun hb=>?_) (fun hb=>?_)))
  ·have O:=ltD hb an;obtain⟨s,hs⟩:=aL O;have hs':=aT b7 hs;have B:eX o (l.take (j+1))=oI (eX o (l.take j)) s:=by rw[Bf,hs,qD];rfl
   have hml:(eX o (l.take j)).length≤1000000000:=by
    have:=jZ (l.take j) o;rw[An] at this;omega
   have ap:=pA (eX o (l.take j)) s (by omega);generalize eX o (l.take j)=M at B hml ap ⊢;have hml':(M.map b7).length=M.length:=η _;refine aD (AWp.sub (Sub.freeze (id:=710) rfl) ?_);refine aA (aF (sgh [(0,.row j (b7 s))] rfl (sk 2 rfl (kc ap ?_))));refine kz 1 rfl (aB rfl (fun hb=>?_) (fun hb=>?_))
   ·have hm:¬s∈M:=fun h=>by rw[φ h] at hb;cases hb
    unfold oI at B;rw[ξ hm] at B;refine ag [(2,.all)] rfl (ag [] rfl ⟨j+1,O,by dsimp only;omega,?_⟩);dsimp only;rw[B];exact sl
   ·have hm:s∈M:=by
     by_cases h:s∈M
     ·exact h
     ·rw[ψ h] at hb;cases hb
    unfold oI at B;rw[ζ hm] at B;refine aD (ag [] rfl ⟨j+1,O,by dsimp only;omega,?_⟩);dsimp only;rw[B];exact sl
  ·have ac:=geD hb an hj;subst ac;rw[Ax];refine aH (ag [] rfl ⟨k+1,al,by dsimp only;omega,?_⟩);dsimp only;rw[ab];exact sl
 ·have ac:k=u.length:=by have:=Af hb;omega
  subst ac;rw[Ax];refine aH (AWp.sub (Sub.freeze (id:=710) rfl) ?_);exact sg rfl (aE jT)
end Go.Proofs.YtpmheldmadendaaGreatDoor
namespace Go.AM
open Go
section
variable {QP:Value→Prop}{P:Program}{n:Nat}{ops:Array Oper}{draw:Bool}{k:Nat}{st:St}{pre:REs}{Q:St→Prop}{o:Oper}{f:FuncId}{xs:Array Operand}{ts:Array TypeId}{ids:List Nat}{args:List V}{hin:List (Nat×AObj)}{v:Value}
theorem kp (u:aDy P f args hin v) (hq:QP v:=by first | exact fun _ _=>⟨rfl,rfl⟩ | assumption)
  (hb:iN P f:=by exact aJ1 (by kernel_rfl)) (ho:ops[k]?=some o:=by rfl) (y:o.guard=none:=by rfl) (r:o.op=.call { callee:=.value (.func f),args:=xs,argTypes:=ts }:=by rfl)
  (ha:ArgsV st ids xs.toList args:=by repeat (first | exact .nil | (apply Go.AM.ArgsV.cons rfl;(first | exact .refl | exact .one (.c .nl .nil) | exact .one (.c .sn .nil) | exact .one (.hs rfl (by first | rfl | simp) (by first | rfl | (simp;done) | (simp[Go.AM.take_map];done) | exact Go.AM.take_map.symm) .nil) | exact Go.AM.hs_all rfl rfl (by first | rfl | assumption | (simp;done) | (simp;omega)) (by first | rfl | assumption | (simp;done)) | ((first | apply Go.AM.Conv.pa | apply Go.AM.Conv.agg);repeat (first | exact .nil | apply Go.AM.PureL.c .refl | apply Go.AM.PureL.c .nl | apply Go.AM.PureL.c .sn | (apply Go.AM.PureL.hs;rfl;(first | rfl | simp);(first | rfl | (simp;done) | (simp[Go.AM.take_map];done) | exact Go.AM.take_map.symm))))))))
  (q:gN (fun p=>st.h p.1=some p.2) hin:=by repeat (first | exact trivial | refine⟨rfl,?_⟩)) (hok:fI args hin=true:=by rfl) (hd:draw=false:=by rfl) (hl:Nat.blt k ops.size=true:=by rfl):jG QP P n ops draw k st pre Q:=
 aVu (oG.plain ho y (aHb hin hb r u ha q hok)) hq hd hl
theorem kpD {d:Nat}(res:V) (hout:List (Nat×AObj)) (u:aDy P f args hin v) (y:jG (fun _=>False) P n ops draw (k+1) ⟨upd st.e d (some res),iS st.h (outs hout),st.d⟩ ((⟨c7 xs.toList,ids++keys hin⟩,⟨some (d,some res),outs hout⟩)::pre) fun _=>True) (hq:QP v:=by first | exact fun _ _=>⟨rfl,rfl⟩ | assumption)
  (hb:iN P f:=by exact aJ1 (by kernel_rfl)) (ho:ops[k]?=some o:=by rfl) (B:o.guard=none:=by rfl) (r:o.op=.call { callee:=.value (.func f),args:=xs,argTypes:=ts }:=by rfl) (_:o.dst=some d:=by rfl)
  (ha:ArgsV st ids xs.toList args:=by repeat (first | exact .nil | (apply Go.AM.ArgsV.cons rfl;(first | exact .refl | exact .one (.c .nl .nil) | exact .one (.c .sn .nil) | exact .one (.hs rfl (by first | rfl | simp) (by first | rfl | (simp;done) | (simp[Go.AM.take_map];done) | exact Go.AM.take_map.symm) .nil) | exact Go.AM.hs_all rfl rfl (by first | rfl | assumption | (simp;done) | (simp;omega)) (by first | rfl | assumption | (simp;done)) | ((first | apply Go.AM.Conv.pa | apply Go.AM.Conv.agg);repeat (first | exact .nil | apply Go.AM.PureL.c .refl | apply Go.AM.PureL.c .nl | apply Go.AM.PureL.c .sn | (apply Go.AM.PureL.hs;rfl;(first | rfl | simp);(first | rfl | (simp;done) | (simp[Go.AM.take_map];done) | exact Go.AM.take_map.symm))))))))
  (q:gN (fun p=>st.h p.1=some p.2) hin:=by repeat (first | exact trivial | refine⟨rfl,?_⟩)) (hok:fI args hin=true:=by rfl):jG QP P n ops draw k st pre Q:=
 aVt ⟨some (d,some res),outs hout⟩ (oG.plain ho B (aHb hin hb r u ha q hok)) hq y
theorem kpv {x:Operand}{caps:List R}(u:aDy P f (args++caps.map V.one) hin v) (hq:QP v:=by first | exact fun _ _=>⟨rfl,rfl⟩ | assumption)
  (hb:iN P f:=by exact aJ1 (by kernel_rfl)) (ho:ops[k]?=some o:=by rfl) (y:o.guard=none:=by rfl) (r:o.op=.call { callee:=.value x,args:=xs,argTypes:=ts }:=by rfl) (hx:opv st x=some (.one (.clo f caps)):=by rfl)
  (ha:ArgsV st ids xs.toList args:=by repeat (first | exact .nil | (apply Go.AM.ArgsV.cons rfl;(first | exact .refl | exact .one (.c .nl .nil) | exact .one (.c .sn .nil) | exact .one (.hs rfl (by first | rfl | simp) (by first | rfl | (simp;done) | (simp[Go.AM.take_map];done) | exact Go.AM.take_map.symm) .nil) | exact Go.AM.hs_all rfl rfl (by first | rfl | assumption | (simp;done) | (simp;omega)) (by first | rfl | assumption | (simp;done)) | ((first | apply Go.AM.Conv.pa | apply Go.AM.Conv.agg);repeat (first | exact .nil | apply Go.AM.PureL.c .refl | apply Go.AM.PureL.c .nl | apply Go.AM.PureL.c .sn | (apply Go.AM.PureL.hs;rfl;(first | rfl | simp);(first | rfl | (simp;done) | (simp[Go.AM.take_map];done) | exact Go.AM.take_map.symm))))))))
  (q:gN (fun p=>st.h p.1=some p.2) hin:=by repeat (first | exact trivial | refine⟨rfl,?_⟩)) (hok:fI (args++caps.map V.one) hin=true:=by rfl) (hd:draw=false:=by rfl) (hl:Nat.blt k ops.size=true:=by rfl):jG QP P n ops draw k st pre Q:=
 aVu (oG.plain ho y (aL3 hin hb r hx u ha q hok)) hq hd hl
end
def bF (P:Program) (f:FuncId) (args:List V) (hin:List (Nat×AObj)):Except Value (V×List (Nat×AObj))→Prop
 | .ok (res,hout)=>b9 P f args hin res hout
 | .error v=>aDy P f args hin v
def a3g (T:TT) (fn:Func) (hin:List (Nat×AObj)):Except Value (V×List (Nat×AObj))→Exit→St→Prop
 | .ok (res,hout),ex,st=>(ex=.normal∨ex=.ret)∧Fin T fn st hin res hout
 | .error v,ex,st=>ex=pan v∧st.d=[]
theorem nT {P:Program}{T:TT}{f:FuncId}{fn:Func}{c:Code}{n:Nat}{args:List V}{hin:List (Nat×AObj)}{o:Except Value (V×List (Nat×AObj))}(r:Tok P T) (q:P.funcs[f]?=some fn) (hb:fn.body=some c) (hn:fn.ntmps=n) (hle:Nat.ble args.length n=true) (hok:(hin.all fun p=>n5 p.2)=true)
  (h:AWp none P n (keys hin) c (mk (yW 0 args) hin) (a3g T fn hin o)):bF P f args hin o:=by
 cases o with
 | ok x=>obtain⟨res,hout⟩:=x;exact bP r q hb hn hle h
 | error v=>exact aRm q hb hn hle hok h
end Go.AM
namespace Go.Proofs.YtpmheldmadendaaGreatDoor
open Go Go.AM
set_option maxRecDepth 20000
set_option maxHeartbeats 4000000
theorem rtN {ex:Exit}{fn:Func}{st:St}{hin hout:List (Nat×AObj)}(hex:ex=.normal∨ex=.ret:=by first | exact .inl rfl | exact .inr rfl) (q:fn.results.toList=[]:=by rfl)
  (ho:gN (fun p=>∃o,st.h p.1=some o∧Ole (fun i=>i) o p.2) hout:=by repeat (first | exact trivial | refine⟨⟨_,rfl,by first | exact Go.AM.Ole.arr | exact Go.AM.Ole.var rfl | exact Go.AM.Ole.varS rfl⟩,?_⟩))
  (hok:(subset (V.tup []).refs (keys hout)&&subset (gO hout) (keys hout)&&Go.AM.distinct (keys hout)&&subset (keys hin) (keys hout)&&(hin.all fun p=>p.2.plain)&&(hout.all fun p=>p.2.plain))=true:=by rfl):(ex=.normal∨ex=.ret)∧Fin tr.flat fn st hin (.tup []) hout:=
 ⟨hex,⟨[],[],by rw[q];exact .nil,.nil,rfl⟩,ho,hok⟩
theorem rtH {fn:Func}{st:St}{hin hout:List (Nat×AObj)}{t id len sz te es:Nat}{elems:List (List C)}(q:fn.results.toList=[.tmp t]:=by rfl) (hv:st.e t=some (.one (.hs id 0 len sz)):=by rfl) (hh:st.h id=some (.arr te es elems 2):=by rfl) (hsz:sz=elems.length:=by first | rfl | assumption | (simp;done))
  (hlen:len=elems.length:=by first | rfl | assumption | (simp;done))
  (ho:gN (fun p=>∃o,st.h p.1=some o∧Ole (fun i=>i) o p.2) hout:=by repeat (first | exact trivial | refine⟨⟨_,rfl,by first | exact Go.AM.Ole.arr | exact Go.AM.Ole.var rfl | exact Go.AM.Ole.varS rfl⟩,?_⟩))
  (hok:(subset (V.one (.c (.sl es elems))).refs (keys hout)&&subset (gO hout) (keys hout)&&Go.AM.distinct (keys hout)&&subset (keys hin) (keys hout)&&(hin.all fun p=>p.2.plain)&&(hout.all fun p=>p.2.plain))=true:=by rfl):(Exit.ret=.normal∨Exit.ret=.ret)∧Fin tr.flat fn st hin (.one (.c (.sl es elems))) hout:=
 rtT (hc:=.one (.hs hh hsz (Go.AM.take_all hlen) .nil)) q hv (ho:=ho) (hok:=hok)
structure Z where
 R:List Tk
 e:Int
 p:Int
def zTk:Tk:=⟨0,[],0,0⟩
def b6 (z:Z):Tk:=z.R.headD zTk
def bS (e p:Int) (z:Z):Z:=if z.e=0 then⟨z.R,e,p⟩ else z
def isK (s:Str) (t:Tk):Bool:=(decide (t.kind=4) || decide (t.kind=5))&&decide (t.text=s)
def isZ (s:Str) (z:Z):Bool:=isK s (b6 z)
def bT (s:Str) (z:Z):Bool×Z:=if z.e=0∧isZ s z=true then(true,⟨z.R.tail,z.e,z.p⟩) else(false,z)
def aQ (s:Str) (z:Z):Z:=if(bT s z).1=true then(bT s z).2 else bS 12 (b6 z).pl z
def aS (k:Int) (z:Z):Tk×Z:=if z.e=0∧(b6 z).kind=k then(b6 z,⟨z.R.tail,z.e,z.p⟩) else(⟨0,[],0,(b6 z).pl⟩,bS 12 (b6 z).pl z)
def rG (t:Tk):Bool:=decide (t.kind=1)
def aU (z:Z):List Tk×Z:=if z.e=0 then(z.R.takeWhile rG,⟨z.R.dropWhile rG,z.e,z.p⟩) else([],z)
def c8 (n most:Nat) (at':Int) (z:Z):Z:=if most<n then bS 2 at' z else z
def ZA (L:List Tk) (z:Z):Prop:=At L (L.length-z.R.length) z.R
def xP:V:=.one (.vp 700 0)
def zO (L:List Tk) (z:Z):AObj:=.var 78 [.c (.sl 4 (L.map aG)),.c (.int .i64 ((L.length-z.R.length:Nat):Int)),.c (.int .i64 z.e),.c (.int .i64 z.p)]
theorem aAf (e p:Int) (z:Z):(bS e p z).R=z.R:=by unfold bS;split<;>rfl
theorem ZA.fail {L:List Tk}{z:Z}(h:ZA L z) (e p:Int):ZA L (bS e p z):=by unfold ZA;rw[aAf];exact h
theorem ZA.tl {L:List Tk}{z:Z}(h:ZA L z) (q:¬(b6 z).kind=6) (e p:Int):ZA L ⟨z.R.tail,e,p⟩∧L.length-z.R.tail.length=L.length-z.R.length+1:=by
 obtain⟨R,e',r⟩:=z;obtain⟨t,R,rfl⟩:=h.e.ne;have hn:¬t.kind=6:=q;obtain⟨h1,h2⟩:=At.next h hn
 unfold ZA;rw[show(Z.mk (t::R) e' r).R.tail=R from rfl,h2];exact⟨h1,rfl⟩
theorem k9 {s:Str}{t:Tk}(h:isK s t=true):¬t.kind=6:=fun e=>by
 unfold isK at h;rw[e] at h;simp at h
theorem ZA.may {L:List Tk}{z:Z}(h:ZA L z) (s:Str):ZA L (bT s z).2:=by
 unfold bT;split
 ·rename_i hc;exact(h.tl (k9 hc.2) _ _).1
 ·exact h
theorem ZA.need {L:List Tk}{z:Z}(h:ZA L z) (s:Str):ZA L (aQ s z):=by
 unfold aQ;split
 ·exact h.may s
 ·exact h.fail _ _
theorem ZA.word {L:List Tk}{z:Z}(h:ZA L z) {k:Int}(q:¬k=6):ZA L (aS k z).2:=by
 unfold aS;split
 ·rename_i hc;exact(h.tl (by rw[hc.2];exact q) _ _).1
 ·exact h.fail _ _
theorem xM:∀{R:List Tk},oH R→oH (R.dropWhile rG)∧∃p,R=p++R.dropWhile rG
 | [],h=>by obtain⟨t,R',e⟩:=h.ne;cases e
 | t::R,h=>by
  rw[Bi];split
  ·rename_i hb;have q:t.kind=1:=κ hb;have h':=h.tail (by omega);obtain⟨h1,p,h2⟩:=xM h';exact⟨h1,t::p,by rw[Ad,←h2]⟩
  ·exact⟨h,[],rfl⟩
theorem ZA.suf {L:List Tk}{z:Z}(h:ZA L z) {R p:List Tk}(hs:z.R=p++R) (he:oH R) (e q:Int):ZA L ⟨R,e,q⟩:=by
 obtain⟨h1,h2⟩:=At.to h hs he;show At L (L.length-R.length) R;rw[h2];exact h1
theorem ZA.words {L:List Tk}{z:Z}(h:ZA L z):ZA L (aU z).2:=by
 unfold aU;split
 ·obtain⟨h1,p,h2⟩:=xM h.e;exact h.suf h2 h1 _ _
 ·exact h
theorem ZA.long {L:List Tk}{z:Z}(h:ZA L z) (n q:Nat) (at':Int):ZA L (c8 n q at' z):=by
 unfold c8;split
 ·exact h.fail _ _
 ·exact h
theorem ZA.now {L:List Tk}{z:Z}(h:ZA L z):L[L.length-z.R.length]?=some (b6 z):=by
 obtain⟨R,e',q⟩:=z;obtain⟨t,R,rfl⟩:=h.e.ne;exact At.get h
theorem fZ {L:List Tk}{z:Z}(h:ZA L z):b9 Tryz.prog 100 [xP] [(700,zO L z)] (tkV (b6 z)) [(700,zO L z)]:=by
 have hl:=aT aG h.now;have q:(L.map aG).length=L.length:=η _;have r:=h.lt;have u:=h.l;refine bP (n:=13) tok Tryz.func100 rfl rfl rfl ?_;exact sg rfl (sgh [(8,.row (L.length-z.R.length) (aG (b6 z)))] rfl (aE (rtC trw)))
theorem eB (L:List Tk) (z:Z) (e p:Int):b9 Tryz.prog 101 [xP,I .i64 e,I .i64 p] [(700,zO L z)] (.tup []) [(700,zO L (bS e p z))]:=by
 refine bP (n:=18) tok Tryz.func101 rfl rfl rfl ?_;refine sg rfl ?_;unfold bS;refine aB rfl (fun hb=>?_) (fun hb=>?_)
 ·rw[ζ (κ hb)];exact ag [] rfl rtN
 ·rw[ξ (Af hb)];exact aD rtN
theorem fP (L:List Tk) (z:Z):b9 Tryz.prog 39 [xP] [(700,zO L z)] (B (decide (z.e=0))) [(700,zO L z)]:=by
 refine bP (n:=9) tok Tryz.func39 rfl rfl rfl ?_;exact sg rfl (sg rfl (aE rtT))
theorem aJs {L:List Tk}{z:Z}(h:ZA L z) (s:Str):b9 Tryz.prog 153 [xP,Go.AM.T s] [(700,zO L z)] (B (isZ s z)) [(700,zO L z)]:=by
 have hn:=fZ h;unfold isZ;generalize b6 z=t at hn ⊢;unfold isK;refine bP (n:=22) tok Tryz.func153 rfl rfl rfl ?_;refine sg rfl (sk 1 rfl (kc hn ?_));refine kz 2 rfl ?_;by_cases q:t.kind=4
 ·have d4:decide (t.kind=4)=true:=φ q;rw[d4,B4,B8];exact sgh [(3,.bv true),(7,.bv true),(8,.bv true),(13,.bv true)] rfl (aE rtT)
 have d4:decide (t.kind=4)=false:=ψ q;rw[d4,A9];by_cases r:t.kind=5
 ·have d5:decide (t.kind=5)=true:=φ r;rw[d5,B8];exact sgh [(3,.bv false),(7,.bv false),(8,.bv true),(13,.bv true)] rfl (aE rtT)
 ·have d5:decide (t.kind=5)=false:=ψ r;rw[d5,B3];exact sgh [(3,.bv false),(7,.bv false),(8,.bv false),(13,.bv false)] rfl (aE rtT)
theorem j7 {L:List Tk}{z:Z}(h:ZA L z) (s:Str):b9 Tryz.prog 94 [xP,Go.AM.T s] [(700,zO L z)] (B (bT s z).1) [(700,zO L (bT s z).2)]:=by
 have ho:=fP L z;have hi:=aJs h s;have q:= @k9 s (b6 z);refine bP (n:=22) tok Tryz.func94 rfl rfl rfl ?_;refine sg rfl ?_;unfold bT;by_cases he:z.e=0
 case neg=>
  rw[ξ (fun h=>he h.1)];rw[ψ he] at ho;refine aA (sk 1 rfl (kc ho ?_));exact ak 7 [(3,.bv true),(8,.bv true)] rfl (az (aB rfl (fun _=>sg rfl (aE rtT)) (fun hb=>absurd hb (by decide))))
 rw[φ he] at ho;refine aA (sk 1 rfl (kc ho ?_));refine ak 4 [(3,.bv false)] rfl (kcG hi ?_);refine ak 2 [(3,.bv false),(8,.bv false)] rfl (az ?_);cases u:isZ s z with
 | false=>
  rw[ξ (fun h=>by cases h.2)];exact aB rfl (fun _=>sg rfl (aE rtT)) (fun hb=>absurd hb (by decide))
 | true=>
  rw[ζ ⟨he,rfl⟩];have r:isK s (b6 z)=true:=u;obtain⟨_,hn⟩:=h.tl (q r) z.e z.p;have y:=h.l;unfold zO;dsimp only;rw[hn];exact aB rfl (fun hb=>absurd hb (by decide)) (fun _=>aD (aA (agN [] rfl (sg rfl (aE rtT)))))
theorem dF {L:List Tk}{z:Z}(h:ZA L z) (s:Str):b9 Tryz.prog 159 [xP,Go.AM.T s] [(700,zO L z)] (.tup []) [(700,zO L (aQ s z))]:=by
 have hm:=j7 h s;have q:=eB L z 12 (b6 z).pl;have hn:=fZ h;refine bP (n:=13) tok Tryz.func159 rfl rfl rfl ?_;refine sk 2 rfl (kc hm ?_);refine kz 1 rfl ?_;unfold aQ;cases hb:(bT s z).1 with
 | true=>
  rw[ζ rfl];exact aB rfl (fun hb=>absurd hb (by decide)) (fun _=>aD rtN)
 | false=>
  have e:(bT s z).2=z:=by
   unfold bT at hb ⊢;split
   ·rename_i hc;rw[ζ hc] at hb;cases hb
   ·rfl
  rw[ξ (by decide),e];refine aB rfl (fun _=>aC mixed (ak 2 [] rfl (kc hn ?_))) (fun hb=>absurd hb (by decide));refine ak 1 [] rfl (kc q ?_);exact az rtN
theorem jD {L:List Tk}{z:Z}(h:ZA L z) (k:Int) (y:¬k=6):b9 Tryz.prog 156 [xP,I .i64 k] [(700,zO L z)] (tkV (aS k z).1) [(700,zO L (aS k z).2)]:=by
 have ho:=fP L z;have r:=eB L z 12 (b6 z).pl;have hn:=fZ h;have u:=h.tl;refine bP (n:=33) tok Tryz.func156 rfl rfl rfl ?_;refine sg rfl (sk 1 rfl (kc hn ?_));refine kz 2 rfl ?_;unfold aS;by_cases he:z.e=0
 case neg=>
  rw[ξ (fun h=>he h.1)];rw[ψ he] at ho;refine aA (sk 1 rfl (kc ho ?_));refine ak 7 [(3,.bv true),(8,.bv true)] rfl (az (aB rfl (fun _=>sk 3 rfl (kc r ?_)) (fun hb=>absurd hb (by decide))));exact az (sg rfl (aE (rtC trw)))
 rw[φ he] at ho;refine aA (sk 1 rfl (kc ho ?_));refine ak 7 [(3,.bv false),(8,.bv false)] rfl (az ?_);by_cases q:(b6 z).kind=k
 ·have d:(!decide ((b6 z).kind=k))=false:=by rw[φ q];rfl
  rw[ζ ⟨he,q⟩];obtain⟨_,hn⟩:=u (by rw[q];exact y) z.e z.p;have B:=h.l;unfold zO;dsimp only;rw[hn];exact aB rfl (fun hb=>absurd (hb.symm.trans d) (by decide)) (fun _=>aD (aA (agN [] rfl (sg rfl (aE (rtC trw))))))
 ·have d:(!decide ((b6 z).kind=k))=true:=by rw[ψ q];rfl
  rw[ξ (fun h=>q h.2)];refine aB rfl (fun _=>sk 3 rfl (kc r ?_)) (fun hb=>absurd (hb.symm.trans d) (by decide));exact az (sg rfl (aE (rtC trw)))
theorem lR (L:List Tk) (z:Z) (n q:Nat) (at':Int):b9 Tryz.prog 155 [xP,I .i64 (n:Nat),I .i64 (q:Nat),I .i64 at'] [(700,zO L z)] (.tup []) [(700,zO L (c8 n q at' z))]:=by
 have r:=eB L z 2 at';refine bP (n:=14) tok Tryz.func155 rfl rfl rfl ?_;refine sg rfl ?_;unfold c8;refine aB rfl (fun hb=>?_) (fun hb=>?_)
 ·rw[ζ (by have:=κ hb;omega)];refine aC mixed (ak 2 [] rfl (kc r ?_));exact az rtN
 ·rw[ξ (by have:=Af hb;omega)];exact aD rtN
def bN:Str:=[59]
def cK (s:Str) (z:Z):Bool:=if s=[] then decide ((b6 z).kind=6) else isZ s z
def moreA (shut:Str) (n:Nat) (z:Z):Z:=if 0<n∧z.e=0∧isZ bN z=false∧cK shut z=false then bS 12 (b6 z).pl z else z
def cL (z:Z):Z:=if z.e=0 then⟨z.R.dropWhile (isK bN),z.e,z.p⟩ else z
def aW (shut:Str) (n:Nat) (z:Z):Bool×Z:=
 if ¬(cL (moreA shut n z)).e=0∨cK shut (cL (moreA shut n z))=true then(false,cL (moreA shut n z))
 else(decide ((c8 (n+1) 60 (b6 (cL (moreA shut n z))).pl (cL (moreA shut n z))).e=0),c8 (n+1) 60 (b6 (cL (moreA shut n z))).pl (cL (moreA shut n z)))
def aUi (z:Z):SR→Sch×Z
 | .ok (s,R')=>(s,⟨R',z.e,z.p⟩)
 | .error (e,p)=>(lX,⟨z.R,e,p⟩)
def bK (z:Z):Sch×Z:=if z.e=0 then aUi z (cH z.R) else(lX,z)
def aY8 (z:Z):PR→List Prd×Z
 | .ok (s,R')=>(s,⟨R',z.e,z.p⟩)
 | .error (e,p)=>([],⟨z.R,e,p⟩)
def bM (z:Z):List Prd×Z:=if z.e=0 then aY8 z (cR z.R) else([],z)
theorem aOv {R:List Tk}{s:Sch}{R':List Tk}(h:cH R=.ok (s,R')):(oH R→oH R')∧(∃p,R=p++R'∧1≤p.length)∧WF s.ty∧tn s.ty≤wt R∧(∀p∈s.preds,WF p.ty∧tn p.ty≤wt R)∧s.preds.length≤R.length∧s.vars=aTl s.preds s.ty:=by
 unfold cH at h;cases hp:cR R with
 | error e=>obtain⟨e,p⟩:=e;rw[hp,qW] at h;cases h
 | ok y=>
  obtain⟨ps,R1⟩:=y;rw[hp,qW] at h;obtain⟨u,⟨q,r,_⟩,B,E⟩:=mB hp;cases hw:bX (3*R1.length+2) 0 R1 with
  | error e=>obtain⟨e,p⟩:=e;rw[hw,nL] at h;cases h
  | ok y=>
   obtain⟨x,R2⟩:=y;rw[hw,nL] at h;obtain⟨⟨g1,⟨I,g2,g3⟩,g4⟩,g5⟩:=fS _ _ _ _ _ hw;cases h;have:wt R1≤wt R:=by rw[r];exact nI
   exact⟨fun he=>g1 (u he),⟨q++I,by rw[r,g2,Ae],by rw[θ];omega⟩,g4,by show tn x≤_;omega,B,E,rfl⟩
theorem ZA.scheme {L:List Tk}{z:Z}(h:ZA L z):ZA L (bK z).2:=by
 unfold bK;split
 ·cases hs:cH z.R with
  | error e=>obtain⟨e,p⟩:=e;exact h
  | ok y=>
   obtain⟨s,R'⟩:=y;obtain⟨h1,⟨p,h2,_⟩,_⟩:=aOv hs;exact h.suf h2 (h1 h.e) _ _
 ·exact h
theorem ZA.preds {L:List Tk}{z:Z}(h:ZA L z):ZA L (bM z).2:=by
 unfold bM;split
 ·cases hs:cR z.R with
  | error e=>obtain⟨e,p⟩:=e;exact h
  | ok y=>
   obtain⟨s,R'⟩:=y;obtain⟨h1,⟨p,h2,_⟩,_⟩:=mB hs;exact h.suf h2 (h1 h.e) _ _
 ·exact h
theorem sZ (s:Str):∀{R:List Tk},oH R→oH (R.dropWhile (isK s))∧∃p,R=p++R.dropWhile (isK s)
 | [],h=>by obtain⟨t,R',e⟩:=h.ne;cases e
 | t::R,h=>by
  rw[Bi];split
  ·rename_i hb;have h':=h.tail (k9 hb);obtain⟨h1,p,h2⟩:=sZ s h';exact⟨h1,t::p,by rw[Ad,←h2]⟩
  ·exact⟨h,[],rfl⟩
theorem ZA.semi {L:List Tk}{z:Z}(h:ZA L z):ZA L (cL z):=by
 unfold cL;split
 ·obtain⟨h1,p,h2⟩:=sZ bN h.e;exact h.suf h2 h1 _ _
 ·exact h
theorem ZA.moreA {L:List Tk}{z:Z}(h:ZA L z) (s:Str) (n:Nat):ZA L (moreA s n z):=by
 unfold Proofs.YtpmheldmadendaaGreatDoor.moreA;split
 ·exact h.fail _ _
 ·exact h
theorem ZA.more {L:List Tk}{z:Z}(h:ZA L z) (s:Str) (n:Nat):ZA L (aW s n z).2:=by
 unfold aW;split
 ·exact(h.moreA s n).semi
 ·exact(h.moreA s n).semi.long _ _ _
theorem uV {L:List Tk}{z:Z}(he:z.e=0) (x:Ty) (ps vs:C) (R':List Tk):b9 Tryz.prog 160 [xP,.pa (xN x ps vs ((L.length-R'.length:Nat):Int) 0 0)] [(700,zO L z)] (.pa (xN x ps vs ((L.length-R'.length:Nat):Int) 0 0)) [(700,zO L ⟨R',z.e,z.p⟩)]:=by
 have ho:=fP L z;rw[φ he] at ho;refine bP (n:=25) tok Tryz.func160 rfl rfl rfl ?_;refine sg rfl (aA (sk 1 rfl (kc ho ?_)));exact kz 1 rfl (aB rfl (fun hb=>absurd hb (by decide)) (fun _=>aD (aA (sg rfl (aB rfl (fun hb=>absurd hb (by decide)) (fun _=>aD (sg rfl (sg rfl (aE (rtC trw))))))))))
theorem rU {L:List Tk}{z:Z}(he:z.e=0) (e p:Int) (q:¬e=0):b9 Tryz.prog 160 [xP,.pa (xN zTy .nl .nl 0 e p)] [(700,zO L z)] (.pa (xN zTy .nl .nl 0 0 0)) [(700,zO L ⟨z.R,e,p⟩)]:=by
 have ho:=fP L z;rw[φ he] at ho;have d:(!decide (e=0))=true:=by rw[ψ q];rfl
 refine bP (n:=25) tok Tryz.func160 rfl rfl rfl ?_;refine sg rfl (aA (sk 1 rfl (kc ho ?_)));exact kz 1 rfl (aB rfl (fun hb=>absurd hb (by decide)) (fun _=>aD (aA (sg rfl (aB rfl (fun _=>sg rfl (sg rfl (aE (rtC trw)))) (fun hb=>absurd (hb.symm.trans d) (by decide)))))))
theorem rV {L:List Tk}{z:Z}(h:ZA L z) (hwt:wt L≤30000):b9 Tryz.prog 122 [xP] [(700,zO L z)] (.pa (fH (bK z).1)) [(700,zO L (bK z).2)]:=by
 have ho:=fP L z;refine bP (n:=26) tok Tryz.func122 rfl rfl rfl ?_;refine sg rfl (aA (sk 1 rfl (kc ho ?_)));refine kz 1 rfl ?_;unfold bK;by_cases he:z.e=0
 case neg=>
  rw[ξ he];exact aB rfl (fun _=>sg rfl (aE (rtC trw))) (fun hb=>absurd hb (by simp[he]))
 rw[ζ he];have r:=aJy L z.R _ h hwt;have q:= @qV z.R;refine aB rfl (fun hb=>absurd hb (by simp[he])) (fun _=>aD (sk 9 rfl (kc r ?_)));generalize cH z.R=w at q ⊢;cases w with
 | error e=>
  obtain⟨e,p⟩:=e;have ht:=rU (L:=L) he e p (q rfl);refine kc ht ?_;exact kz 2 rfl (sg rfl (aE (rtC trw)))
 | ok y=>
  obtain⟨s,R'⟩:=y;have ht:=uV (L:=L) he s.ty (.sl 5 (s.preds.map aN)) (.sl 1 (s.vars.map b7)) R';rw[aOw];refine kc ht ?_;exact kz 2 rfl (sg rfl (aE (rtC trw)))
theorem aDc {L:List Tk}{z:Z}(h:ZA L z):b9 Tryz.prog 162 [xP] [(700,zO L z)] (.one (.c (.sl 5 ((bM z).1.map aN)))) [(700,zO L (bM z).2)]:=by
 have ho:=fP L z;refine bP (n:=18) tok Tryz.func162 rfl rfl rfl ?_;refine sg rfl (aA (sk 1 rfl (kc ho ?_)));refine kz 1 rfl ?_;unfold bM;by_cases he:z.e=0
 case neg=>
  rw[ξ he];exact aB rfl (fun _=>sg rfl (aE rtT)) (fun hb=>absurd hb (by simp[he]))
 rw[ζ he];have r:=aDh L z.R _ h;have q:= @iB z.R;refine aB rfl (fun hb=>absurd hb (by simp[he])) (fun _=>aD (sk 9 rfl (kc r ?_)));generalize cR z.R=w at q ⊢;cases w with
 | error e=>
  obtain⟨e,p⟩:=e;have ht:=rU (L:=L) he e p (q rfl);refine kc ht ?_;exact kz 2 rfl (aE rtT)
 | ok y=>
  obtain⟨s,R'⟩:=y;have ht:=uV (L:=L) he zTy (.sl 5 (s.map aN)) .nl R';rw[r5];refine kc ht ?_;exact kz 2 rfl (aE rtT)
theorem aJj {L:List Tk}{z:Z}(h:ZA L z) (s:Str):b9 Tryz.prog 154 [xP,Go.AM.T s] [(700,zO L z)] (B (cK s z)) [(700,zO L z)]:=by
 have hn:=fZ h;have hi:=aJs h s;refine bP (n:=14) tok Tryz.func154 rfl rfl rfl ?_;refine sg rfl (aA (sg rfl ?_));unfold cK;refine aB rfl (fun hb=>?_) (fun hb=>?_)
 ·rw[ζ (κ hb)];refine sk 1 rfl (kc hn ?_);exact kz 3 rfl (aE rtT)
 ·rw[ξ (Af hb)];refine aD (sk 2 rfl (kc hi ?_));exact kz 1 rfl (aE rtT)
theorem mE {L:List Tk}{z:Z}(h:ZA L z):cL (bT bN z).2=cL z∧((bT bN z).1=false→(bT bN z).2=z∧cL z=z)∧((bT bN z).1=true→(bT bN z).2.R.length<z.R.length):=by
 obtain⟨R,e,p⟩:=z;obtain⟨t,R,rfl⟩:=h.e.ne;unfold bT;split
 ·rename_i hc;have q:isK bN t=true:=hc.2;refine⟨?_,fun e=>Bool.noConfusion e,fun _=>by show R.length<(t::R).length;rw[χ];omega⟩;unfold cL;have he:e=0:=hc.1;rw[ζ he,ζ he];show Z.mk (R.dropWhile _) _ _=Z.mk ((t::R).dropWhile _) _ _;rw[Bi,ζ q]
 ·rename_i hc;refine⟨rfl,fun _=>⟨rfl,?_⟩,fun e=>Bool.noConfusion e⟩;unfold cL;split
  ·rename_i he;have q:¬isK bN t=true:=fun q=>hc ⟨he,q⟩
   rw[show(Z.mk (t::R) e p).R.dropWhile (isK bN)=t::R from by show(t::R).dropWhile _=_;rw[Bi,ξ q]]
  ·rfl
theorem rX {L:List Tk}{z:Z}(h:ZA L z) (s:Str) (n:Nat) (hnl:n≤4001):b9 Tryz.prog 93 [xP,Go.AM.T s,I .i64 (n:Nat)] [(700,zO L z)] (B (aW s n z).1) [(700,zO L (aW s n z).2)]:=by
 have ho:=fP L z;have hi:=aJs h bN;have hs:=aJj h s;have hn:=fZ h;have hf:=eB L z 12 (b6 z).pl;have M:=h.moreA s n;have q:∀u st,ZA L u→Sub (keys [(700,zO L z)]) (mk [(0,xP),(1,Go.AM.T s),(2,I .i64 (n:Nat))] [(700,zO L u)]) st→moreA s n z=u→
   AWp none Tryz.prog 48 (keys [(700,zO L z)]) (jF (jF (Tryz.f93.body.getD .skip))) st (fun ex st=>(ex=.normal∨ex=.ret)∧Fin tr.flat Tryz.f93 st [(700,zO L z)] (B (aW s n z).1) [(700,zO L (aW s n z).2)]):=fun u st h1 U Y=>by
  refine AWp.sub U ?_;unfold aW;rw[Y];refine aA (aF (aK (fun z2:Z=>mk [(0,xP),(1,Go.AM.T s),(2,I .i64 (n:Nat))] [(700,zO L z2)]) (fun z2=>ZA L z2∧cL u=cL z2) (fun z2=>z2.R.length) u ⟨h1,rfl⟩ sl ?_));rintro z2 ⟨h2,e2⟩;have hm:=j7 h2 bN;obtain⟨m1,m2,m3⟩:=mE h2;refine aA (sk 1 rfl (kc hm ?_));refine az ?_;have O:=h2.may bN;generalize bT bN z2=m at m1 m2 m3 O ⊢;obtain⟨b,z3⟩:=m;refine aB rfl (fun hb=>?_) (fun hb=>?_)
  ·have hb:b=true:=hb;exact aD (aF (aD ⟨z3,⟨O,e2.trans m1.symm⟩,m3 hb,sl⟩))
  ·have hb:b=false:=hb;have e3:cL u=z3:=by
    dsimp only at m2;obtain⟨g1,g2⟩:=m2 hb;rw[e2,g2,g1]
   rw[e3];have h3:ZA L z3:=O;have y:=fP L z3;have hs3:=aJj h3 s;have hn3:=fZ h3;have hl3:=lR L z3 (n+1) 60 (b6 z3).pl;refine aH ?_;by_cases E:z3.e=0
   case neg=>
    rw[ζ (.inl E)];rw[ψ E] at y;refine aA (sk 1 rfl (kc y ?_));exact ak 6 [(3,.bv true),(7,.bv true)] rfl (az (aB rfl (fun _=>sg rfl (aE rtT)) (fun hb=>absurd hb (by decide))))
   rw[φ E] at y;refine aA (sk 1 rfl (kc y ?_));refine ak 4 [(3,.bv false)] rfl (kcG hs3 ?_);refine ak 1 [(3,.bv false),(7,.bv false)] rfl (az ?_);cases r:cK s z3 with
   | true=>
    rw[ζ (.inr rfl)];exact aB rfl (fun _=>sg rfl (aE rtT)) (fun hb=>absurd hb (by decide))
   | false=>
    rw[ξ (by rintro(h | h);exact h E;cases h)];refine aB rfl (fun hb=>absurd hb (by decide)) (fun _=>aD (aA (aC mixed (akN 4 [] rfl (kc hn3 ?_)))));refine ak 1 [] rfl (kc hl3 ?_);refine az ?_;have ho4:=fP L (c8 (n+1) 60 (b6 z3).pl z3);refine sk 1 rfl (kc ho4 ?_);exact kz 1 rfl (aE rtT)
 have hfz:=h.fail 12 (b6 z).pl;refine bP (n:=48) tok Tryz.func93 rfl rfl rfl ?_;refine sg rfl ?_;unfold moreA at M q;by_cases h0:0<n
 case neg=>
  have d0:decide ((0:Int)<(n:Int))=false:=ψ (by omega);rw[ξ (fun h=>h0 h.1)] at M q;exact aA (sgh [(2,.bv false),(5,.bv false),(6,.bv false),(10,.bv false),(11,.bv false),(16,.bv false)] rfl (aB rfl (fun hb=>absurd hb (by decide)) (fun _=>aD (q z _ h sl rfl))))
 have d0:decide ((0:Int)<(n:Int))=true:=φ (by omega);by_cases he:z.e=0
 case neg=>
  rw[ξ (fun h=>he h.2.1)] at M q;rw[ψ he] at ho;refine aA (skh 4 [(2,.bv true)] rfl (kcG ho ?_));exact ak 12 [(2,.bv true),(5,.bv true),(6,.bv false),(10,.bv false),(11,.bv false),(16,.bv false)] rfl (az (aB rfl (fun hb=>absurd hb (by decide)) (fun _=>aD (q z _ h sl rfl))))
 rw[φ he] at ho;cases J:isZ bN z with
 | true=>
  rw[ξ (fun h=>by rw[J] at h;cases h.2.2.1)] at M q;rw[J] at hi;refine aA (skh 4 [(2,.bv true)] rfl (kcG ho ?_));refine ak 3 [(2,.bv true),(5,.bv true),(6,.bv true)] rfl (kcG hi ?_);exact ak 9 [(6,.bv true),(10,.bv true),(11,.bv false),(16,.bv false)] rfl (az (aB rfl (fun hb=>absurd hb (by decide)) (fun _=>aD (q z _ h sl rfl))))
 | false=>
 rw[J] at hi;cases r:cK s z with
 | true=>
  rw[ξ (fun h=>by rw[r] at h;cases h.2.2.2)] at M q;rw[r] at hs;refine aA (skh 4 [(2,.bv true)] rfl (kcG ho ?_));refine ak 3 [(2,.bv true),(5,.bv true),(6,.bv true)] rfl (kcG hi ?_);refine ak 5 [(6,.bv true),(10,.bv true),(11,.bv true)] rfl (kcG hs ?_);exact ak 2 [(11,.bv true),(16,.bv true)] rfl (az (aB rfl (fun hb=>absurd hb (by decide)) (fun _=>aD (q z _ h sl rfl))))
 | false=>
  rw[ζ ⟨h0,he,J,r⟩] at M q;rw[r] at hs;refine aA (skh 4 [(2,.bv true)] rfl (kcG ho ?_));refine ak 3 [(2,.bv true),(5,.bv true),(6,.bv true)] rfl (kcG hi ?_);refine ak 5 [(6,.bv true),(10,.bv true),(11,.bv true)] rfl (kcG hs ?_);refine ak 2 [(11,.bv true),(16,.bv true)] rfl (az (aB rfl (fun _=>aC mixed (ak 2 [] rfl (kc hn ?_))) (fun hb=>absurd hb (by decide))));refine ak 1 [] rfl (kc hf ?_);exact az (q _ _ hfz sl rfl)
theorem ZA.len {L:List Tk}{z:Z}(h:ZA L z):z.R.length≤4001:=by
 have h1:=h.lt;have h2:=h.l;omega
theorem qI {L:List Tk}{z:Z}(h:ZA L z):b9 Tryz.prog 157 [xP] [(700,zO L z)] (.one (.c (.sl 4 ((aU z).1.map aG)))) [(700,zO L (aU z).2)]:=by
 refine bP (n:=18) tok Tryz.func157 rfl rfl rfl ?_;refine sg rfl (sg rfl (AWp.sub (Sub.own (t:=3) (id:=500) 152 4 rfl rfl) ?_));refine aA (aF (aK (fun q:List Tk×Z=>mk [(0,xP),(3,.one (.hs 500 0 q.1.length q.1.length))] [(700,zO L q.2),(500,.arr 152 4 (q.1.map aG) 0)]) (fun q=>ZA L q.2∧q.1.length+q.2.R.length≤4001∧q.1++(aU q.2).1=(aU z).1∧(aU q.2).2=(aU z).2) (fun q=>q.2.R.length) ([],z) ⟨h,by dsimp only;have:=h.len;rw[length_nil];omega,rfl,rfl⟩ sl ?_));rintro⟨out,J⟩ ⟨h',hlen,E,I⟩;dsimp only at h' hlen E I ⊢;rw[←E,←I];clear E I;have hout:(out.map aG).length=out.length:=η _;have ho:=fP L J;have hn:=fZ h';have hw:=jD h' 1 (by decide);obtain⟨R,e,p⟩:=J;obtain⟨t,R,rfl⟩:=h'.e.ne;by_cases he:e=0
 case neg=>
  rw[show decide ((Z.mk (t::R) e p).e=0)=false from ψ he] at ho;refine aA (sk 1 rfl (kc ho ?_));refine ak 6 [(2,.bv false),(7,.bv false)] rfl (az (aB rfl (fun hb=>absurd hb (by decide)) (fun _=>aH (AWp.sub (Sub.freeze (id:=500) rfl) ?_))));refine sg rfl ?_;unfold aU;rw[ξ he,A3];exact aE (rtH (hsz:=hout.symm) (hlen:=hout.symm))
 rw[show decide ((Z.mk (t::R) e p).e=0)=true from φ he] at ho;have B:b6 (Z.mk (t::R) e p)=t:=rfl;rw[B] at hn;refine aA (sk 1 rfl (kc ho ?_));refine ak 2 [(2,.bv true)] rfl (kcG hn ?_);refine ak 3 [(2,.bv true),(7,.bv true)] rfl (az (aB rfl (fun hb=>?_) (fun hb=>?_)))
 ·have r:t.kind=1:=κ hb;have hl:rG t=true:=hb;have U:aS 1 (Z.mk (t::R) e p)=(t,⟨R,e,p⟩):=by unfold aS;rw[ζ ⟨he,r⟩];rfl
  rw[U] at hw;have h2:ZA L ⟨R,e,p⟩:=(h'.tl (by rw[B,r];decide) e p).1
  have M:aU ⟨t::R,e,p⟩=(t::(aU ⟨R,e,p⟩).1,(aU ⟨R,e,p⟩).2):=by
   unfold aU;rw[ζ he,ζ he];show((t::R).takeWhile rG,Z.mk ((t::R).dropWhile rG) _ _)=_;rw[C7,ζ hl,Bi,ζ hl]
  have O:out.length+(R.length+1)≤4001:=hlen;refine aD (aF (aC mixed (ak 2 [] rfl (kc hw ?_))));refine ak 3 [(3,.all)] rfl (az ?_);have y:out.map aG++[aG t]=(out++[t]).map aG:=by rw[Al];rfl
  have u:(out++[t]).length=out.length+1:=by rw[θ];rfl
  refine⟨(out++[t],⟨R,e,p⟩),⟨h2,by dsimp only;rw[u];omega,by rw[M];simp,by rw[M]⟩,Bt _,?_⟩;exact sl (he:=⟨rfl,Go.AM.hs_ren (by rw[u,←hout];rfl) (by rw[u,←hout];rfl),trivial⟩) (hh:=⟨⟨_,rfl,.var rfl⟩,⟨_,rfl,.arrS y⟩,trivial⟩)
 ·have r:¬rG t=true:=fun h=>by rw[show rG t=false from hb] at h;cases h
  refine aH (AWp.sub (Sub.freeze (id:=500) rfl) ?_);refine sg rfl ?_;unfold aU;rw[ζ he];dsimp only;rw[C7,ξ r,A3,Bi,ξ r];exact aE (rtH (hsz:=hout.symm) (hlen:=hout.symm))
theorem aC9 (l:List Tk) (hl:l.length≤4001):b9 Tryz.prog 158 [.one (.c (.sl 4 (l.map aG)))] [] (cJ (l.map (·.text))) []:=by
 have r:(l.map aG).length=l.length:=η _;refine bP (n:=20) tok Tryz.func158 rfl rfl rfl ?_;refine sg rfl (sg rfl (AWp.sub (Sub.own (t:=3) (id:=500) 9 1 rfl rfl) ?_));refine aA (sg rfl (aF (aK (fun i:Nat=>mk [(0,.one (.c (.sl 4 (l.map aG)))),(3,.one (.hs 500 0 i i)),(4,I .i64 (i:Nat))] [(500,.arr 9 1 (((l.take i).map (·.text)).map b7) 0)]) (fun i=>i≤l.length) (fun i=>l.length-i) 0 (ε _) sl ?_)));intro i hi;have q:(((l.take i).map (·.text)).map b7).length=i:=by rw[η,η,An];omega
 refine aA (sg rfl (aB rfl (fun hb=>?_) (fun hb=>?_)))
 ·have u:=ltD hb r;obtain⟨t,ht⟩:=aL u;have E:=aT aG ht;have y:((l.take (i+1)).map (·.text)).map b7=((l.take i).map (·.text)).map b7++[[.str t.text]]:=by rw[Bf,ht,Al,Al];rfl
  exact aD (aA (aF (ag [(3,.row i (aG t)),(6,.all)] rfl (agN [] rfl ⟨i+1,u,by dsimp only;omega,sl (he:=⟨rfl,Go.AM.hs_ren (congrArg (· +1) q) (congrArg (· +1) q),rfl,trivial⟩) (hh:=⟨⟨_,rfl,.arrS y.symm⟩,trivial⟩)⟩))))
 ·have B:=geD hb r hi;subst B;rw[Ax] at q ⊢;refine aH (AWp.sub (Sub.freeze (id:=500) rfl) ?_);exact sg rfl (aE (rtH (hsz:=q.symm) (hlen:=q.symm)))
structure Cn where
 name:Str
 pl:Int
 fields:List Ty
structure Dt where
 name:Str
 pl:Int
 vars:List Str
 cons:List Cn
def gI (c:Cn):List C:=[.str c.name,.int .i64 c.pl,.sl 4 (c.fields.map bR)]
def gV (d:Dt):List C:=[.str d.name,.int .i64 d.pl,.sl 1 (d.vars.map b7),.sl 1 [],.sl 3 (d.cons.map gI)]
def eqS:Str:=[61]
def vO:Str:=[124]
def aJ2 (z:Z):Bool:=decide ((b6 z).kind=1) || (decide ((b6 z).kind=2) || isZ bI z)
def atZ (z:Z):TR→Ty×Z
 | .ok (x,R')=>(x,⟨R',z.e,z.p⟩)
 | .error (e,p)=>(zTy,⟨z.R,e,p⟩)
def eK (z:Z):Ty×Z:=atZ z (cO (3*z.R.length) 0 z.R)
def bZ:Nat→List Ty→Z→List Ty×Z
 | 0,out,z=>(out,z)
 | f+1,out,z=>if z.e=0∧aJ2 z=true then bZ f (out++[(eK z).1]) (eK z).2 else(out,z)
def pK (z:Z):Cn×Z:=
 (⟨(aS 2 z).1.text,(aS 2 z).1.pl,(bZ ((aS 2 z).2.R.length+1) [] (aS 2 z).2).1⟩,
  c8 (bZ ((aS 2 z).2.R.length+1) [] (aS 2 z).2).1.length 8 (aS 2 z).1.pl (bZ ((aS 2 z).2.R.length+1) [] (aS 2 z).2).2)
def gX:Nat→Int→List Cn→Z→List Cn×Z
 | 0,_,out,z=>(out,z)
 | f+1,a,out,z=>
  if(bT vO (c8 (out++[(pK z).1]).length 16 a (pK z).2)).1=true then gX f a (out++[(pK z).1]) (bT vO (c8 (out++[(pK z).1]).length 16 a (pK z).2)).2
  else(out++[(pK z).1],(bT vO (c8 (out++[(pK z).1]).length 16 a (pK z).2)).2)
def fO (z:Z):Tk×List Tk×Z:=((aS 2 z).1,(aU (aS 2 z).2).1,aQ eqS (c8 (aU (aS 2 z).2).1.length 8 (aS 2 z).1.pl (aU (aS 2 z).2).2))
def jC (h:Tk×List Tk×Z):List Cn×Z:=if h.2.2.e=0 then gX (h.2.2.R.length+1) h.1.pl [] h.2.2 else([],h.2.2)
def jL (z:Z):Dt×Z:=(⟨(fO z).1.text,(fO z).1.pl,(fO z).2.1.map (·.text),(jC (fO z)).1⟩,(jC (fO z)).2)
def Ze (z z':Z):Prop:=z'.R.length≤z.R.length
theorem Ze.refl (z:Z):Ze z z:=le_refl _
theorem Ze.trans {a b c:Z}(h:Ze a b) (k:Ze b c):Ze a c:=le_trans k h
theorem Ze.fail (e p:Int) (z:Z):Ze z (bS e p z):=by unfold Ze;rw[aAf];exact le_refl _
theorem Ze.may (s:Str) (z:Z):Ze z (bT s z).2:=by
 unfold Ze bT;split
 ·show z.R.tail.length≤_;rw[length_tail];omega
 ·exact le_refl _
theorem Ze.need (s:Str) (z:Z):Ze z (aQ s z):=by
 unfold aQ;split
 ·exact Ze.may s z
 ·exact Ze.fail _ _ z
theorem Ze.word (k:Int) (z:Z):Ze z (aS k z).2:=by
 unfold aS;split
 ·show z.R.tail.length≤_;rw[length_tail];omega
 ·exact Ze.fail _ _ z
theorem Ze.long (n q:Nat) (a:Int) (z:Z):Ze z (c8 n q a z):=by
 unfold c8;split
 ·exact Ze.fail _ _ z
 ·exact Ze.refl z
theorem lO {α:Type}(p:α→Bool):∀l:List α,(l.dropWhile p).length≤l.length
 | []=>le_refl _
 | a::l=>by
  rw[Bi];split
  ·have:=lO p l;rw[χ];omega
  ·exact le_refl _
theorem kV {α:Type}(p:α→Bool):∀l:List α,(l.takeWhile p).length≤l.length
 | []=>le_refl _
 | a::l=>by
  rw[C7];split
  ·have:=kV p l;rw[χ,χ];omega
  ·exact ε _
theorem Ze.words (z:Z):Ze z (aU z).2:=by
 unfold aU;split
 ·exact lO _ _
 ·exact Ze.refl z
theorem ZA.wt {L:List Tk}{z:Z}(h:ZA L z):wt z.R≤wt L:=by
 have e:L.take (L.length-z.R.length)++z.R=L:=by
  have:=take_append_drop (L.length-z.R.length) L;rwa [h.d] at this
 have:=nI (p:=L.take (L.length-z.R.length)) (R:=z.R);rwa [e] at this
theorem ZA.lp {L:List Tk}{z:Z}(h:ZA L z):1≤z.R.length:=h.lt.2
theorem vB {L:List Tk}{z:Z}(h:ZA L z):ZA L (eK z).2∧WF (eK z).1∧tn (eK z).1≤wt z.R∧((eK z).2.e=0→(eK z).2.R.length<z.R.length)∧Ze z (eK z).2:=by
 unfold eK;have hok:=iQ (3*z.R.length) 0 z.R;have q:=eH (3*z.R.length) 0 z.R;generalize cO (3*z.R.length) 0 z.R=w at hok q ⊢;cases w with
 | error e=>
  obtain⟨e,p⟩:=e;have:=q e p rfl;refine⟨h,⟨rfl,rfl⟩,?_,fun h0=>absurd h0 this,Ze.refl z⟩;show tn zTy≤_;obtain⟨t,R',r⟩:=h.e.ne;rw[r,hY];have:tn zTy=1:=by unfold zTy;rw[tn,tns];rfl
  omega
 | ok y=>
  obtain⟨x,R'⟩:=y;obtain⟨⟨h1,⟨p,h2,B⟩,u⟩,E⟩:=hok x R' rfl;have hl:R'.length<z.R.length:=by rw[h2,θ];omega
  exact⟨h.suf h2 (h1 h.e) _ _,u,by show tn x≤_;omega,fun _=>hl,Dc hl⟩
theorem aSq {L:List Tk}{z:Z}(h:ZA L z) (he:z.e=0):∃(y:List C) (ps vs:C) (i e p:Int),b9 Tryz.prog 161 [oN L,I .i64 ((L.length-z.R.length:Nat):Int),I .i64 0] [] (.pa y) []∧b9 Tryz.prog 160 [xP,.pa y] [(700,zO L z)] (.pa (xN (eK z).1 ps vs i e p)) [(700,zO L (eK z).2)]:=by
 have q:=(aF2 L (3*z.R.length)).1 (3*z.R.length) (le_refl _) 0 z.R _ h (le_refl _) (by decide);have r:=eH (3*z.R.length) 0 z.R;unfold eK;generalize cO (3*z.R.length) 0 z.R=w at q r ⊢;cases w with
 | error e=>
  obtain⟨e,p⟩:=e;exact⟨_,.nl,.nl,0,0,0,q,rU he e p (r e p rfl)⟩
 | ok y=>
  obtain⟨x,R'⟩:=y;exact⟨_,.nl,.nl,_,0,0,q,uV he x .nl .nl R'⟩
theorem oZ {L:List Tk}:∀(f:Nat) (out:List Ty) (z:Z),ZA L z→(∀x∈out,WF x∧tn x≤wt L)→out.length+z.R.length≤4001→
  ZA L (bZ f out z).2∧(∀x∈(bZ f out z).1,WF x∧tn x≤wt L)∧Ze z (bZ f out z).2∧(bZ f out z).1.length≤4002
 | 0,out,z,h,ho,hl=>⟨h,ho,Ze.refl z,by rw[bZ];dsimp only;omega⟩
 | f+1,out,z,h,ho,hl=>by
  rw[bZ];split
  ·rename_i hc;obtain⟨g1,g2,g3,g4,g5⟩:=vB h;have I:=h.wt;have q:∀x∈out++[(eK z).1],WF x∧tn x≤wt L:=fun x hx=>by
    rcases Bk.1 hx with hx | hx
    ·exact ho x hx
    ·rw[A2.1 hx];exact⟨g2,by omega⟩
   by_cases he:(eK z).2.e=0
   ·have J:=g4 he;obtain⟨r,u,y,B⟩:=oZ f (out++[(eK z).1]) (eK z).2 g1 q (by rw[θ,Bl];omega);exact⟨r,u,g5.trans y,B⟩
   ·have E:bZ f (out++[(eK z).1]) (eK z).2=(out++[(eK z).1],(eK z).2):=by
     cases f with
     | zero=>rfl
     | succ f=>rw[bZ,ξ (fun h=>he h.1)]
    rw[E];exact⟨g1,q,g5,by rw[θ,Bl];have:=h.lp;omega⟩
  ·exact⟨h,ho,Ze.refl z,by dsimp only;omega⟩
theorem lL {f:Nat}{out:List Ty}{z:Z}(h:¬(z.e=0∧aJ2 z=true)):bZ f out z=(out,z):=by
 cases f with
 | zero=>rfl
 | succ f=>rw[bZ,ξ h]
end Go.Proofs.YtpmheldmadendaaGreatDoor
