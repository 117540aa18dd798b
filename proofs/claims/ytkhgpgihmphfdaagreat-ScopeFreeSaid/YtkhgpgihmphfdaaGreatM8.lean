/-
  Texts Rd19 to Rd29 in one.
-/
import Derived.Test.YtkhgpgihmphfdaaGreatM7
open List (append_assoc append_nil cons_append dropWhile_cons length_append length_cons length_map length_nil length_singleton length_tail length_take map_append mem_append mem_of_mem_take mem_singleton nil_append takeWhile_cons take_add_one take_append_drop take_length)
open Nat (le_of_lt le_refl le_trans lt_of_le_of_lt lt_of_lt_of_le lt_succ_self mul_le_mul_right zero_le)
namespace Go.Proofs.YtkhgpgihmphfdaaGreat
open Go Go.AM
set_option maxRecDepth 20000
set_option maxHeartbeats 4000000
section
variable {fn:Func}{st:St}{hin hout:List (Nat×AObj)}
theorem iR {a0 t0 J u Y:Nat}{A:TI}{g:List AM.R}{v0 w0:V}{ids0:List Nat}{u1:Nat}{v1 B:V}{O:List Nat}{a2 t2 M y tv2:Nat}{E:TI}{q:List AM.R}{v2 I:V}{U:List Nat}(hr:fn.results.toList=[.cell a0 t0,.tmp u1,.cell a2 t2]:=by rfl) (hi0:tr.get t0=some A:=by rfl) (ha0:st.e a0=some (.one (.vp J u)):=by rfl) (hh0:st.h J=some (.var Y g):=by rfl) (hb0:Nat.ble (u+A.size) g.length=true:=by rfl) (hv0:iW A ((g.drop u).take A.size)=some v0:=by rfl) (hu1:st.e u1=some v1:=by rfl) (hi2:tr.get t2=some E:=by rfl) (ha2:st.e a2=some (.one (.vp M y)):=by rfl) (hh2:st.h M=some (.var tv2 q):=by rfl) (hb2:Nat.ble (y+E.size) q.length=true:=by rfl) (hv2:iW E ((q.drop y).take E.size)=some v2:=by rfl)
  (hc0:Conv st.h ids0 v0 w0:=by first | exact .refl | exact .one (.c .nl .nil) | exact .one (.hs rfl (by first | rfl | assumption | simp) (by first | rfl | exact Go.AM.take_all (by first | assumption | rfl | (simp;done)) | exact Go.AM.take_map.symm) .nil) | ((first | apply Go.AM.Conv.pa | apply Go.AM.Conv.agg);repeat (first | exact .nil | apply Go.AM.PureL.c .refl | apply Go.AM.PureL.c .nl | (apply Go.AM.PureL.hs;rfl;(first | rfl | assumption | simp);(first | rfl | exact Go.AM.take_all (by first | assumption | rfl | (simp;done)) | exact Go.AM.take_map.symm))))) (hc1:Conv st.h O v1 B:=by first | exact .refl | exact .one (.c .nl .nil) | exact .one (.hs rfl (by first | rfl | assumption | simp) (by first | rfl | exact Go.AM.take_all (by first | assumption | rfl | (simp;done)) | exact Go.AM.take_map.symm) .nil) | ((first | apply Go.AM.Conv.pa | apply Go.AM.Conv.agg);repeat (first | exact .nil | apply Go.AM.PureL.c .refl | apply Go.AM.PureL.c .nl | (apply Go.AM.PureL.hs;rfl;(first | rfl | assumption | simp);(first | rfl | exact Go.AM.take_all (by first | assumption | rfl | (simp;done)) | exact Go.AM.take_map.symm))))) (hc2:Conv st.h U v2 I:=by first | exact .refl | exact .one (.c .nl .nil) | exact .one (.hs rfl (by first | rfl | assumption | simp) (by first | rfl | exact Go.AM.take_all (by first | assumption | rfl | (simp;done)) | exact Go.AM.take_map.symm) .nil) | ((first | apply Go.AM.Conv.pa | apply Go.AM.Conv.agg);repeat (first | exact .nil | apply Go.AM.PureL.c .refl | apply Go.AM.PureL.c .nl | (apply Go.AM.PureL.hs;rfl;(first | rfl | assumption | simp);(first | rfl | exact Go.AM.take_all (by first | assumption | rfl | (simp;done)) | exact Go.AM.take_map.symm)))))
  (ho:eG (fun p=>∃o,st.h p.1=some o∧Ole (fun i=>i) o p.2) hout:=by repeat (first | exact trivial | refine⟨⟨_,rfl,by first | exact Go.AM.Ole.arr | exact Go.AM.Ole.var rfl | exact Go.AM.Ole.varS rfl⟩,?_⟩))
  (hok:(subset (V.tup [w0,B,I]).refs (keys hout)&&subset (eH hout) (keys hout)&&Go.AM.distinct (keys hout)&&subset (keys hin) (keys hout)&&(hin.all fun p=>p.2.plain)&&(hout.all fun p=>p.2.plain))=true:=by rfl):(Exit.ret=.normal∨Exit.ret=.ret)∧Fin tr.flat fn st hin (.tup [w0,B,I]) hout:=
 ⟨.inr rfl,⟨[v0,v1,v2],[w0,B,I],by rw[hr];exact .cell ha0 (Tr.get_ok trw hi0) hh0 hb0 hv0 (.tmp hu1 (.cell ha2 (Tr.get_ok trw hi2) hh2 hb2 hv2 (.nil))),.cons hc0 (.cons hc1 (.cons hc2 (.nil))),rfl⟩,ho,hok⟩
theorem aJg {J:Nat}{v0 w0:V}{ids0:List Nat}{M:Nat}{v1 u:V}{E:List Nat}{O t2 B q U:Nat}{y:TI}{g:List AM.R}{v2 A:V}{I:List Nat}(hr:fn.results.toList=[.tmp J,.tmp M,.cell O t2]:=by rfl) (Y:st.e J=some v0:=by rfl) (aa:st.e M=some v1:=by rfl) (ab:tr.get t2=some y:=by rfl) (ac:st.e O=some (.one (.vp B q)):=by rfl) (ad:st.h B=some (.var U g):=by rfl) (ae:Nat.ble (q+y.size) g.length=true:=by rfl) (af:iW y ((g.drop q).take y.size)=some v2:=by rfl)
  (ag:Conv st.h ids0 v0 w0:=by first | exact .refl | exact .one (.c .nl .nil) | exact .one (.hs rfl (by first | rfl | assumption | simp) (by first | rfl | exact Go.AM.take_all (by first | assumption | rfl | (simp;done)) | exact Go.AM.take_map.symm) .nil) | ((first | apply Go.AM.Conv.pa | apply Go.AM.Conv.agg);repeat (first | exact .nil | apply Go.AM.PureL.c .refl | apply Go.AM.PureL.c .nl | (apply Go.AM.PureL.hs;rfl;(first | rfl | assumption | simp);(first | rfl | exact Go.AM.take_all (by first | assumption | rfl | (simp;done)) | exact Go.AM.take_map.symm))))) (ah:Conv st.h E v1 u:=by first | exact .refl | exact .one (.c .nl .nil) | exact .one (.hs rfl (by first | rfl | assumption | simp) (by first | rfl | exact Go.AM.take_all (by first | assumption | rfl | (simp;done)) | exact Go.AM.take_map.symm) .nil) | ((first | apply Go.AM.Conv.pa | apply Go.AM.Conv.agg);repeat (first | exact .nil | apply Go.AM.PureL.c .refl | apply Go.AM.PureL.c .nl | (apply Go.AM.PureL.hs;rfl;(first | rfl | assumption | simp);(first | rfl | exact Go.AM.take_all (by first | assumption | rfl | (simp;done)) | exact Go.AM.take_map.symm))))) (ai:Conv st.h I v2 A:=by first | exact .refl | exact .one (.c .nl .nil) | exact .one (.hs rfl (by first | rfl | assumption | simp) (by first | rfl | exact Go.AM.take_all (by first | assumption | rfl | (simp;done)) | exact Go.AM.take_map.symm) .nil) | ((first | apply Go.AM.Conv.pa | apply Go.AM.Conv.agg);repeat (first | exact .nil | apply Go.AM.PureL.c .refl | apply Go.AM.PureL.c .nl | (apply Go.AM.PureL.hs;rfl;(first | rfl | assumption | simp);(first | rfl | exact Go.AM.take_all (by first | assumption | rfl | (simp;done)) | exact Go.AM.take_map.symm)))))
  (ho:eG (fun p=>∃o,st.h p.1=some o∧Ole (fun i=>i) o p.2) hout:=by repeat (first | exact trivial | refine⟨⟨_,rfl,by first | exact Go.AM.Ole.arr | exact Go.AM.Ole.var rfl | exact Go.AM.Ole.varS rfl⟩,?_⟩))
  (hok:(subset (V.tup [w0,u,A]).refs (keys hout)&&subset (eH hout) (keys hout)&&Go.AM.distinct (keys hout)&&subset (keys hin) (keys hout)&&(hin.all fun p=>p.2.plain)&&(hout.all fun p=>p.2.plain))=true:=by rfl):(Exit.ret=.normal∨Exit.ret=.ret)∧Fin tr.flat fn st hin (.tup [w0,u,A]) hout:=
 ⟨.inr rfl,⟨[v0,v1,v2],[w0,u,A],by rw[hr];exact .tmp Y (.tmp aa (.cell ac (Tr.get_ok trw ab) ad ae af (.nil))),.cons ag (.cons ah (.cons ai (.nil))),rfl⟩,ho,hok⟩
theorem aJf {A:Nat}{v0 w0:V}{ids0:List Nat}{B:Nat}{v1 g:V}{u:List Nat}{E:Nat}{v2 q:V}{y:List Nat}(hr:fn.results.toList=[.tmp A,.tmp B,.tmp E]:=by rfl) (I:st.e A=some v0:=by rfl) (J:st.e B=some v1:=by rfl) (M:st.e E=some v2:=by rfl)
  (O:Conv st.h ids0 v0 w0:=by first | exact .refl | exact .one (.c .nl .nil) | exact .one (.hs rfl (by first | rfl | assumption | simp) (by first | rfl | exact Go.AM.take_all (by first | assumption | rfl | (simp;done)) | exact Go.AM.take_map.symm) .nil) | ((first | apply Go.AM.Conv.pa | apply Go.AM.Conv.agg);repeat (first | exact .nil | apply Go.AM.PureL.c .refl | apply Go.AM.PureL.c .nl | (apply Go.AM.PureL.hs;rfl;(first | rfl | assumption | simp);(first | rfl | exact Go.AM.take_all (by first | assumption | rfl | (simp;done)) | exact Go.AM.take_map.symm))))) (U:Conv st.h u v1 g:=by first | exact .refl | exact .one (.c .nl .nil) | exact .one (.hs rfl (by first | rfl | assumption | simp) (by first | rfl | exact Go.AM.take_all (by first | assumption | rfl | (simp;done)) | exact Go.AM.take_map.symm) .nil) | ((first | apply Go.AM.Conv.pa | apply Go.AM.Conv.agg);repeat (first | exact .nil | apply Go.AM.PureL.c .refl | apply Go.AM.PureL.c .nl | (apply Go.AM.PureL.hs;rfl;(first | rfl | assumption | simp);(first | rfl | exact Go.AM.take_all (by first | assumption | rfl | (simp;done)) | exact Go.AM.take_map.symm))))) (Y:Conv st.h y v2 q:=by first | exact .refl | exact .one (.c .nl .nil) | exact .one (.hs rfl (by first | rfl | assumption | simp) (by first | rfl | exact Go.AM.take_all (by first | assumption | rfl | (simp;done)) | exact Go.AM.take_map.symm) .nil) | ((first | apply Go.AM.Conv.pa | apply Go.AM.Conv.agg);repeat (first | exact .nil | apply Go.AM.PureL.c .refl | apply Go.AM.PureL.c .nl | (apply Go.AM.PureL.hs;rfl;(first | rfl | assumption | simp);(first | rfl | exact Go.AM.take_all (by first | assumption | rfl | (simp;done)) | exact Go.AM.take_map.symm)))))
  (ho:eG (fun p=>∃o,st.h p.1=some o∧Ole (fun i=>i) o p.2) hout:=by repeat (first | exact trivial | refine⟨⟨_,rfl,by first | exact Go.AM.Ole.arr | exact Go.AM.Ole.var rfl | exact Go.AM.Ole.varS rfl⟩,?_⟩))
  (hok:(subset (V.tup [w0,g,q]).refs (keys hout)&&subset (eH hout) (keys hout)&&Go.AM.distinct (keys hout)&&subset (keys hin) (keys hout)&&(hin.all fun p=>p.2.plain)&&(hout.all fun p=>p.2.plain))=true:=by rfl):(Exit.ret=.normal∨Exit.ret=.ret)∧Fin tr.flat fn st hin (.tup [w0,g,q]) hout:=
 ⟨.inr rfl,⟨[v0,v1,v2],[w0,g,q],by rw[hr];exact .tmp I (.tmp J (.tmp M (.nil))),.cons O (.cons U (.cons Y (.nil))),rfl⟩,ho,hok⟩
theorem aN5 {a0 t0 B q J:Nat}{u:TI}{g:List AM.R}{v0 w0:V}{ids0:List Nat}{M:Nat}{v1 y:V}{E:List Nat}{O:Nat}{v2 A:V}{I:List Nat}(hr:fn.results.toList=[.cell a0 t0,.tmp M,.tmp O]:=by rfl) (U:tr.get t0=some u:=by rfl) (Y:st.e a0=some (.one (.vp B q)):=by rfl) (aa:st.h B=some (.var J g):=by rfl) (ab:Nat.ble (q+u.size) g.length=true:=by rfl) (ac:iW u ((g.drop q).take u.size)=some v0:=by rfl) (ad:st.e M=some v1:=by rfl) (ae:st.e O=some v2:=by rfl)
  (af:Conv st.h ids0 v0 w0:=by first | exact .refl | exact .one (.c .nl .nil) | exact .one (.hs rfl (by first | rfl | assumption | simp) (by first | rfl | exact Go.AM.take_all (by first | assumption | rfl | (simp;done)) | exact Go.AM.take_map.symm) .nil) | ((first | apply Go.AM.Conv.pa | apply Go.AM.Conv.agg);repeat (first | exact .nil | apply Go.AM.PureL.c .refl | apply Go.AM.PureL.c .nl | (apply Go.AM.PureL.hs;rfl;(first | rfl | assumption | simp);(first | rfl | exact Go.AM.take_all (by first | assumption | rfl | (simp;done)) | exact Go.AM.take_map.symm))))) (ag:Conv st.h E v1 y:=by first | exact .refl | exact .one (.c .nl .nil) | exact .one (.hs rfl (by first | rfl | assumption | simp) (by first | rfl | exact Go.AM.take_all (by first | assumption | rfl | (simp;done)) | exact Go.AM.take_map.symm) .nil) | ((first | apply Go.AM.Conv.pa | apply Go.AM.Conv.agg);repeat (first | exact .nil | apply Go.AM.PureL.c .refl | apply Go.AM.PureL.c .nl | (apply Go.AM.PureL.hs;rfl;(first | rfl | assumption | simp);(first | rfl | exact Go.AM.take_all (by first | assumption | rfl | (simp;done)) | exact Go.AM.take_map.symm))))) (ah:Conv st.h I v2 A:=by first | exact .refl | exact .one (.c .nl .nil) | exact .one (.hs rfl (by first | rfl | assumption | simp) (by first | rfl | exact Go.AM.take_all (by first | assumption | rfl | (simp;done)) | exact Go.AM.take_map.symm) .nil) | ((first | apply Go.AM.Conv.pa | apply Go.AM.Conv.agg);repeat (first | exact .nil | apply Go.AM.PureL.c .refl | apply Go.AM.PureL.c .nl | (apply Go.AM.PureL.hs;rfl;(first | rfl | assumption | simp);(first | rfl | exact Go.AM.take_all (by first | assumption | rfl | (simp;done)) | exact Go.AM.take_map.symm)))))
  (ho:eG (fun p=>∃o,st.h p.1=some o∧Ole (fun i=>i) o p.2) hout:=by repeat (first | exact trivial | refine⟨⟨_,rfl,by first | exact Go.AM.Ole.arr | exact Go.AM.Ole.var rfl | exact Go.AM.Ole.varS rfl⟩,?_⟩))
  (hok:(subset (V.tup [w0,y,A]).refs (keys hout)&&subset (eH hout) (keys hout)&&Go.AM.distinct (keys hout)&&subset (keys hin) (keys hout)&&(hin.all fun p=>p.2.plain)&&(hout.all fun p=>p.2.plain))=true:=by rfl):(Exit.ret=.normal∨Exit.ret=.ret)∧Fin tr.flat fn st hin (.tup [w0,y,A]) hout:=
 ⟨.inr rfl,⟨[v0,v1,v2],[w0,y,A],by rw[hr];exact .cell Y (Tr.get_ok trw U) aa ab ac (.tmp ad (.tmp ae (.nil))),.cons af (.cons ag (.cons ah (.nil))),rfl⟩,ho,hok⟩
theorem aWw {u:Nat}{v0 w0:V}{ids0:List Nat}{y:Nat}{v1 g:V}{q:List Nat}(J:fn.results.toList=[.tmp u,.tmp y]:=by rfl) (A:st.e u=some v0:=by rfl) (B:st.e y=some v1:=by rfl)
  (E:Conv st.h ids0 v0 w0:=by first | exact .refl | exact .one (.c .nl .nil) | exact .one (.hs rfl (by first | rfl | assumption | simp) (by first | rfl | exact Go.AM.take_all (by first | assumption | rfl | (simp;done)) | exact Go.AM.take_map.symm) .nil) | ((first | apply Go.AM.Conv.pa | apply Go.AM.Conv.agg);repeat (first | exact .nil | apply Go.AM.PureL.c .refl | apply Go.AM.PureL.c .nl | (apply Go.AM.PureL.hs;rfl;(first | rfl | assumption | simp);(first | rfl | exact Go.AM.take_all (by first | assumption | rfl | (simp;done)) | exact Go.AM.take_map.symm))))) (I:Conv st.h q v1 g:=by first | exact .refl | exact .one (.c .nl .nil) | exact .one (.hs rfl (by first | rfl | assumption | simp) (by first | rfl | exact Go.AM.take_all (by first | assumption | rfl | (simp;done)) | exact Go.AM.take_map.symm) .nil) | ((first | apply Go.AM.Conv.pa | apply Go.AM.Conv.agg);repeat (first | exact .nil | apply Go.AM.PureL.c .refl | apply Go.AM.PureL.c .nl | (apply Go.AM.PureL.hs;rfl;(first | rfl | assumption | simp);(first | rfl | exact Go.AM.take_all (by first | assumption | rfl | (simp;done)) | exact Go.AM.take_map.symm)))))
  (ho:eG (fun p=>∃o,st.h p.1=some o∧Ole (fun i=>i) o p.2) hout:=by repeat (first | exact trivial | refine⟨⟨_,rfl,by first | exact Go.AM.Ole.arr | exact Go.AM.Ole.var rfl | exact Go.AM.Ole.varS rfl⟩,?_⟩))
  (hok:(subset (V.tup [w0,g]).refs (keys hout)&&subset (eH hout) (keys hout)&&Go.AM.distinct (keys hout)&&subset (keys hin) (keys hout)&&(hin.all fun p=>p.2.plain)&&(hout.all fun p=>p.2.plain))=true:=by rfl):(Exit.ret=.normal∨Exit.ret=.ret)∧Fin tr.flat fn st hin (.tup [w0,g]) hout:=
 ⟨.inr rfl,⟨[v0,v1],[w0,g],by rw[J];exact .tmp A (.tmp B (.nil)),.cons E (.cons I (.nil)),rfl⟩,ho,hok⟩
theorem oH {a0 t0 A q E:Nat}{u:TI}{g:List AM.R}{v0 w0:V}{ids0:List Nat}{I:Nat}{v1 y:V}{B:List Nat}(hr:fn.results.toList=[.cell a0 t0,.tmp I]:=by rfl) (J:tr.get t0=some u:=by rfl) (M:st.e a0=some (.one (.vp A q)):=by rfl) (O:st.h A=some (.var E g):=by rfl) (U:Nat.ble (q+u.size) g.length=true:=by rfl) (Y:iW u ((g.drop q).take u.size)=some v0:=by rfl) (aa:st.e I=some v1:=by rfl)
  (ab:Conv st.h ids0 v0 w0:=by first | exact .refl | exact .one (.c .nl .nil) | exact .one (.hs rfl (by first | rfl | assumption | simp) (by first | rfl | exact Go.AM.take_all (by first | assumption | rfl | (simp;done)) | exact Go.AM.take_map.symm) .nil) | ((first | apply Go.AM.Conv.pa | apply Go.AM.Conv.agg);repeat (first | exact .nil | apply Go.AM.PureL.c .refl | apply Go.AM.PureL.c .nl | (apply Go.AM.PureL.hs;rfl;(first | rfl | assumption | simp);(first | rfl | exact Go.AM.take_all (by first | assumption | rfl | (simp;done)) | exact Go.AM.take_map.symm))))) (ac:Conv st.h B v1 y:=by first | exact .refl | exact .one (.c .nl .nil) | exact .one (.hs rfl (by first | rfl | assumption | simp) (by first | rfl | exact Go.AM.take_all (by first | assumption | rfl | (simp;done)) | exact Go.AM.take_map.symm) .nil) | ((first | apply Go.AM.Conv.pa | apply Go.AM.Conv.agg);repeat (first | exact .nil | apply Go.AM.PureL.c .refl | apply Go.AM.PureL.c .nl | (apply Go.AM.PureL.hs;rfl;(first | rfl | assumption | simp);(first | rfl | exact Go.AM.take_all (by first | assumption | rfl | (simp;done)) | exact Go.AM.take_map.symm)))))
  (ho:eG (fun p=>∃o,st.h p.1=some o∧Ole (fun i=>i) o p.2) hout:=by repeat (first | exact trivial | refine⟨⟨_,rfl,by first | exact Go.AM.Ole.arr | exact Go.AM.Ole.var rfl | exact Go.AM.Ole.varS rfl⟩,?_⟩))
  (hok:(subset (V.tup [w0,y]).refs (keys hout)&&subset (eH hout) (keys hout)&&Go.AM.distinct (keys hout)&&subset (keys hin) (keys hout)&&(hin.all fun p=>p.2.plain)&&(hout.all fun p=>p.2.plain))=true:=by rfl):(Exit.ret=.normal∨Exit.ret=.ret)∧Fin tr.flat fn st hin (.tup [w0,y]) hout:=
 ⟨.inr rfl,⟨[v0,v1],[w0,y],by rw[hr];exact .cell M (Tr.get_ok trw J) O U Y (.tmp aa (.nil)),.cons ab (.cons ac (.nil)),rfl⟩,ho,hok⟩
theorem xK {a0 t0 I u O:Nat}{A:TI}{g:List AM.R}{v0 w0:V}{ids0:List Nat}{U t1 J y Y:Nat}{B:TI}{q:List AM.R}{v1 E:V}{M:List Nat}(hr:fn.results.toList=[.cell a0 t0,.cell U t1]:=by rfl) (aa:tr.get t0=some A:=by rfl) (ab:st.e a0=some (.one (.vp I u)):=by rfl) (ac:st.h I=some (.var O g):=by rfl) (ad:Nat.ble (u+A.size) g.length=true:=by rfl) (ae:iW A ((g.drop u).take A.size)=some v0:=by rfl) (af:tr.get t1=some B:=by rfl) (ag:st.e U=some (.one (.vp J y)):=by rfl) (ah:st.h J=some (.var Y q):=by rfl) (ai:Nat.ble (y+B.size) q.length=true:=by rfl) (aj:iW B ((q.drop y).take B.size)=some v1:=by rfl)
  (ak:Conv st.h ids0 v0 w0:=by first | exact .refl | exact .one (.c .nl .nil) | exact .one (.hs rfl (by first | rfl | assumption | simp) (by first | rfl | exact Go.AM.take_all (by first | assumption | rfl | (simp;done)) | exact Go.AM.take_map.symm) .nil) | ((first | apply Go.AM.Conv.pa | apply Go.AM.Conv.agg);repeat (first | exact .nil | apply Go.AM.PureL.c .refl | apply Go.AM.PureL.c .nl | (apply Go.AM.PureL.hs;rfl;(first | rfl | assumption | simp);(first | rfl | exact Go.AM.take_all (by first | assumption | rfl | (simp;done)) | exact Go.AM.take_map.symm))))) (al:Conv st.h M v1 E:=by first | exact .refl | exact .one (.c .nl .nil) | exact .one (.hs rfl (by first | rfl | assumption | simp) (by first | rfl | exact Go.AM.take_all (by first | assumption | rfl | (simp;done)) | exact Go.AM.take_map.symm) .nil) | ((first | apply Go.AM.Conv.pa | apply Go.AM.Conv.agg);repeat (first | exact .nil | apply Go.AM.PureL.c .refl | apply Go.AM.PureL.c .nl | (apply Go.AM.PureL.hs;rfl;(first | rfl | assumption | simp);(first | rfl | exact Go.AM.take_all (by first | assumption | rfl | (simp;done)) | exact Go.AM.take_map.symm)))))
  (ho:eG (fun p=>∃o,st.h p.1=some o∧Ole (fun i=>i) o p.2) hout:=by repeat (first | exact trivial | refine⟨⟨_,rfl,by first | exact Go.AM.Ole.arr | exact Go.AM.Ole.var rfl | exact Go.AM.Ole.varS rfl⟩,?_⟩))
  (hok:(subset (V.tup [w0,E]).refs (keys hout)&&subset (eH hout) (keys hout)&&Go.AM.distinct (keys hout)&&subset (keys hin) (keys hout)&&(hin.all fun p=>p.2.plain)&&(hout.all fun p=>p.2.plain))=true:=by rfl):(Exit.ret=.normal∨Exit.ret=.ret)∧Fin tr.flat fn st hin (.tup [w0,E]) hout:=
 ⟨.inr rfl,⟨[v0,v1],[w0,E],by rw[hr];exact .cell ab (Tr.get_ok trw aa) ac ad ae (.cell ag (Tr.get_ok trw af) ah ai aj (.nil)),.cons ak (.cons al (.nil)),rfl⟩,ho,hok⟩
end
def o7 (L:List Tk):Prop:=∀t∈L,t.kind=4→t.n=0
theorem wF (t:Tk) (s:Str) (h:t.kind=4→t.n=0):aU Tryz.prog 209 [tkV t,Go.AM.T s] [] (B (isT t s)) []:=by
 have e:aM5 [.int .i64 t.kind,.str t.text,.int .i64 t.n,.int .i64 0] [.int .i64 4,.str s,.int .i64 0,.int .i64 0]=isT t s:=by
  unfold isT;simp only[aM5,ceq,decide_true,Bool.and_true];by_cases g:t.kind=4
  ·rw[h g];simp
  ·rw[ψ g];rfl
 rw[←e];refine bC (n:=10) tok Tryz.func209 rfl rfl rfl ?_;refine sg rfl (sg rfl (sk 3 rfl (k_ (g_ rfl rfl (sB tok (by unfold aL9;kernel_rfl) rfl rfl (by decide) (tg rfl) rfl rfl rfl rfl)) ?_)));exact kz 1 rfl (aF rtT)
theorem mO (t:Tk) (e:Int):aU Tryz.prog 211 [tkV t,I .i64 e] [] (atV e t.pl) []:=by
 refine bC (n:=9) tok Tryz.func211 rfl rfl rfl ?_;exact sg rfl (sg rfl (aF (rtC trw)))
theorem zA {t:Ty}(h:wfS t=true):aU Tryz.prog 232 [tyV t] [] (tyV t) []:=aG1 _ t (le_refl _) h
theorem aNb (a b:Ty) (ha:wfS a=true) (hb:wfS b=true):aU Tryz.prog 229 [tyV a,.one (.c (.sl 4 [cF b]))] [] (tyV (qI a b)) []:=by
 have h1:=zA ha;have h2:=zA hb;have y:=tJ a b;refine bC (n:=22) tok Tryz.func229 rfl rfl rfl ?_;refine sg rfl (sk 1 rfl (kc h1 ?_));refine kz 2 rfl (aA (sg rfl (aE (aL (fun i:Nat=>mk [(4,.one (.vp 4 0)),(5,.one (.vp 5 0)),(10,.one (.c (.sl 4 [cF b]))),(11,I .i64 1),(12,I .i64 i)] [(4,.var 31 [.c (.int .i64 0),.c (.int .i64 0),.c (.str []),.c .nl]),(5,.var 31 ((cF (if i=0 then a else qI a b)).map .c))]) (fun i=>i≤1) (fun i=>1-i) 0 (Ac _) sl ?_))));intro i hi;refine sg rfl (aA (aB rfl (fun g=>?_) (fun g=>?_)))
 ·have q:i=0:=by
   have:(i:Int)<1:=χ g;omega
  subst q;rw[θ rfl];refine aD (aA (aE (sgh [(0,.row 0 (cF b))] rfl (aC mixed (ak 2 [] rfl (kc h2 ?_))))));refine kc y ?_;exact kz 1 rfl (ag [] rfl ⟨1,le_refl _,by dsimp only;omega,sl⟩)
 have u:i=1:=by
  have:¬(i:Int)<1:=Ad g;omega
 subst u;exact aG (sg rfl (aF (rtC trw)))
theorem aUd (a b:Ty) (ha:aU Tryz.prog 232 [tyV a] [] (tyV a) []) (hb:aU Tryz.prog 232 [tyV b] [] (tyV b) []):aU Tryz.prog 230 [tyV b,.one (.c (.sl 4 [cF a]))] [] (tyV (aIp a b)) []:=by
 have h1:=aGv arrow;have h2:=tJ (.mk 3 0 arrow []) a;have y:=tJ (qI (.mk 3 0 arrow []) a) b;refine bC (n:=29) tok Tryz.func230 rfl rfl rfl ?_;refine sg rfl (sgh [(1,.pc (tyV b))] rfl (aA (sg rfl (aE (aL (fun i:Nat=>mk [(1,.one (.c (.sl 4 [cF a]))),(4,.one (.vp 4 0)),(5,.one (.vp 5 0)),(10,I .i64 1),(11,I .i64 i)] [(4,.var 31 [.c (.int .i64 0),.c (.int .i64 0),.c (.str []),.c .nl]),(5,.var 31 ((cF (if i=0 then b else aIp a b)).map .c))]) (fun i=>i≤1) (fun i=>1-i) 0 (Ac _) sl ?_)))));intro i hi;refine sg rfl (aA (aB rfl (fun g=>?_) (fun g=>?_)))
 ·have q:i=0:=by
   have:(i:Int)<1:=χ g;omega
  subst q;rw[θ rfl];refine aD (aA (aE (sg rfl (aC mixed (kc h1 ?_)))));refine ak 8 [(7,.row 0 (cF a))] rfl (kc ha ?_);refine kc h2 ?_;refine ak 1 [] rfl (kc y ?_);exact kz 1 rfl (ag [] rfl ⟨1,le_refl _,by dsimp only;omega,sl⟩)
 have u:i=1:=by
  have:¬(i:Int)<1:=Ad g;omega
 subst u;rw[ξ (by omega)];exact aG (sg rfl (aF (rtC trw)))
def tpV (L:List Tk):TR→V
 | .ok (x,R)=>.tup [tyV x,I .i64 ((L.length-R.length:Nat):Int),atV 0 0]
 | .error (e,p)=>.tup [tyV zTy,I .i64 0,atV e p]
theorem jA (L:List Tk) (x:Ty) (R:List Tk):tpV L (.ok (x,R))=.tup [tyV x,I .i64 ((L.length-R.length:Nat):Int),atV 0 0]:=rfl
def aIo (L:List Tk) (f:Nat):Prop:=∀(o:Nat) (R:List Tk) (i:Nat),At L i R→3*R.length≤f→o≤40→aU Tryz.prog 207 [nQ L,I .i64 (i:Nat),I .i64 (o:Nat)] [] (tpV L (cP f o R)) []
def aB1 (L:List Tk) (f:Nat):Prop:=∀(o:Nat) (R:List Tk) (i:Nat),At L i R→3*R.length+2≤f→o≤40→aU Tryz.prog 224 [nQ L,I .i64 (i:Nat),I .i64 (o:Nat)] [] (tpV L (c9 f o R)) []
theorem At.mem {L:List Tk}{i:Nat}{t:Tk}{R:List Tk}(h:At L i (t::R)):t∈L:=Af h.get
theorem aQl (L:List Tk) (hZ:o7 L) (f:Nat) (ih:aB1 L f):aIo L (f+1):=by
 intro o R i g hf ho;have hkl:(L.map aI).length=L.length:=κ _;have hLl:=g.l;obtain⟨t,R,rfl⟩:=g.e.ne;have O:=g.lt;have U:=g.get;have hti':=b9 aI U;rw[Aa] at O hf;rw[cP];refine bC (n:=83) tok Tryz.func207 rfl rfl rfl ?_;refine sg rfl (aA (sgh [(2,.row i (aI t))] rfl ?_));have hz:t.kind=4→t.n=0:=hZ t g.mem;have Y:=wF t cE hz;have aa:=mO t 12;have ab:=mO t 13;have E:=aGv t.text;have I:=aPp t.text;refine aE (sg rfl (aB rfl (fun hb=>?_) (fun hb=>?_)))
 ·have h2:t.kind=2:=χ hb;rw[θ h2];obtain⟨_,hn⟩:=g.next (by omega)
  rw[jA,hn];refine aA (aC mixed (akN 2 [] rfl (kc E ?_)));exact akN 6 [] rfl (az (aF iR))
 rw[ξ (Ad hb)];refine sg rfl (aB rfl (fun hb=>?_) (fun hb=>?_))
 ·have h1:t.kind=1:=χ hb;rw[θ h1];obtain⟨_,hn⟩:=g.next (by omega)
  rw[jA,hn];refine aA (aC mixed (akN 2 [] rfl (kc I ?_)));exact akN 6 [] rfl (az (aF iR))
 rw[ξ (Ad hb)];refine sk 1 rfl (kc Y ?_);refine kz 2 rfl ?_;cases hl:isT t cE with
 | false=>
  rw[θ rfl];refine aB rfl (fun _=>sk 2 rfl (kc aa ?_)) (fun hb=>absurd hb (by decide));exact kz 3 rfl (aF iR)
 | true=>
 rw[ξ (by decide)];refine aB rfl (fun hb=>absurd hb (by decide)) (fun _=>sg rfl (aB rfl (fun hb=>?_) (fun hb=>?_)))
 ·rw[θ (by have:=χ hb;omega)];refine sk 2 rfl (kc ab ?_);exact kz 3 rfl (aF iR)
 have J:¬40≤o:=by have:=Ad hb;omega
 rw[ξ J];refine aD ?_;obtain⟨B,_⟩:=g.next (by rw[(bW hl).1];decide)
 have ac:=ih (o+1) R (i+1) B (by omega) (by omega);have hok:=fD f (o+1) R;have A:=dV f (o+1) R;refine aA (aC mixed (akN 5 [] rfl (kc ac ?_)));generalize c9 f (o+1) R=w at hok A ⊢;cases w with
 | error e=>
  obtain⟨e,p⟩:=e;have he:=A e p rfl;unfold tpV atV;refine akN 9 [] rfl (az ?_);rw[lY];exact aA (aE (sg rfl (aB rfl (fun _=>sg rfl (aF iR)) (fun hb=>absurd hb (by simp[he])))))
 | ok y=>
  obtain⟨x,R1⟩:=y;obtain⟨hT,_⟩:=hok x R1 rfl;obtain⟨q,hle⟩:=B.ok hT;obtain⟨u,R3,rfl⟩:=q.e.ne;rw[jA];generalize L.length-(u::R3).length=j at *;have ad:=q.get;have huj':=b9 aI ad;have hj:=q.lt;rw[Aa] at hj;have M:=wF u lZ (hZ u q.mem);have ae:=mO u 12;refine kz 9 rfl (aA (aE (sg rfl (aB rfl (fun hb=>absurd hb (by decide)) (fun _=>skh 4 [(2,.row j (aI u))] rfl (kc M ?_))))));refine kz 2 rfl ?_;rw[lY];cases hr:isT u lZ with
  | false=>
   rw[ξ (by decide)];refine aB rfl (fun _=>skh 5 [(3,.row j (aI u))] rfl (kc ae ?_)) (fun hb=>absurd hb (by decide));exact kz 3 rfl (aF iR)
  | true=>
   rw[θ rfl];obtain⟨_,hn⟩:=q.next (by rw[(bW hr).1];decide)
   rw[jA,hn];exact aB rfl (fun hb=>absurd hb (by decide)) (fun _=>aD (aA (agN [] rfl (aF iR))))
theorem aT8 (t:Tk) (g:t.kind=4→t.n=0):aU Tryz.prog 228 [tkV t] [] (B (aIs t)) []:=by
 have hi:=wF t cE g;unfold aIs;refine bC (n:=15) tok Tryz.func228 rfl rfl rfl ?_;refine sg rfl ?_;by_cases h2:t.kind=2
 ·have d1:decide (t.kind=1)=false:=ψ (by omega);have d2:decide (t.kind=2)=true:=φ h2;rw[d1,d2];exact sgh [(3,.bv true),(7,.bv true),(8,.bv true),(11,.bv true)] rfl (aF rtT)
 have d2:decide (t.kind=2)=false:=ψ h2;by_cases h1:t.kind=1
 ·have d1:decide (t.kind=1)=true:=φ h1;rw[d1];exact sgh [(3,.bv false),(7,.bv false),(8,.bv true),(11,.bv true)] rfl (aF rtT)
 ·have d1:decide (t.kind=1)=false:=ψ h1;rw[d1,d2,B0,B0];refine skh 10 [(3,.bv false),(7,.bv false),(8,.bv false)] rfl (kcG hi ?_);exact ak 2 [(8,.bv false),(11,.bv false)] rfl (az (aF rtT))
theorem aQe (L:List Tk) (hZ:o7 L) (f:Nat) (ab:∀g,g≤f→aIo L g) (ac:∀g,g≤f→aB1 L g):aB1 L (f+1):=by
 intro o R i Y hf ho;have hkl:(L.map aI).length=L.length:=κ _;have hLl:=Y.l;have M:=ab f (le_refl _) o R i Y (by omega) ho;have hok:=gS f o R;have B:=eN f o R;have ad:=Y.lt;have key:∃W:TR,W=c9 (f+1) o R:=⟨_,rfl⟩
 obtain⟨W,A⟩:=key;rw[←A];rw[c9] at A;refine bC (n:=80) tok Tryz.func224 rfl rfl rfl ?_;refine sg rfl (sg rfl (sk 3 rfl (kc M ?_)));have O:∀(x:Ty) (j e p:Int) (R1:List Tk) (g:Nat),((e=0∧p=0∧j=((L.length-R1.length:Nat):Int)∧At L (L.length-R1.length) R1∧WF x∧3*R1.length+1≤g∧g≤f∧W=iL g o x R1)∨(¬e=0∧W=.error (e,p)))→
   AWp none Tryz.prog 80 (keys ([]:List (Nat×AObj))) (jN (jN (jN (Tryz.f224.body.getD .skip)))) (mk [(0,nQ L),(1,I .i64 j),(2,I .i64 (o:Nat)),(6,.one (.vp 6 0)),(8,.one (.vp 8 0)),(9,.one (.clo 228 [])),(10,.one (.vp 10 0)),(11,.one (.vp 11 0))] [(6,.var 31 [.c (.int .i64 0),.c (.int .i64 0),.c (.str []),.c .nl]),(8,.var 38 [.c (.int .i64 0),.c (.int .i64 0)]),(10,.var 31 ((cF x).map .c)),(11,.var 38 [.c (.int .i64 e),.c (.int .i64 p)])]) (fun ex st=>(ex=.normal∨ex=.ret)∧Fin tr.flat Tryz.f224 st [] (tpV L W) []):=by
  clear M hok B A ad Y hf;intro x j e p R1 g hinv;refine aA (aE (aL (fun q:Ty×Int×Int×Int×List Tk×Nat=>mk [(0,nQ L),(1,I .i64 q.2.1),(2,I .i64 (o:Nat)),(6,.one (.vp 6 0)),(8,.one (.vp 8 0)),(9,.one (.clo 228 [])),(10,.one (.vp 10 0)),(11,.one (.vp 11 0))] [(6,.var 31 [.c (.int .i64 0),.c (.int .i64 0),.c (.str []),.c .nl]),(8,.var 38 [.c (.int .i64 0),.c (.int .i64 0)]),(10,.var 31 ((cF q.1).map .c)),(11,.var 38 [.c (.int .i64 q.2.2.1),.c (.int .i64 q.2.2.2.1)])]) (fun q=>(q.2.2.1=0∧q.2.2.2.1=0∧q.2.1=((L.length-q.2.2.2.2.1.length:Nat):Int)∧At L (L.length-q.2.2.2.2.1.length) q.2.2.2.2.1∧WF q.1∧3*q.2.2.2.2.1.length+1≤q.2.2.2.2.2∧q.2.2.2.2.2≤f∧W=iL q.2.2.2.2.2 o q.1 q.2.2.2.2.1)∨(¬q.2.2.1=0∧W=.error (q.2.2.1,q.2.2.2.1))) (fun q=>if q.2.2.1=0 then q.2.2.2.2.2 else 0) (x,j,e,p,R1,g) hinv sl ?_));clear hinv;rintro⟨x,j,e,p,R1,g⟩ hinv;dsimp only at hinv ⊢;rcases hinv with⟨he,hp,hj,E,U,hg,hgf,A⟩ | ⟨he,A⟩
  case inr=>
   have de:decide (e=0)=false:=ψ he;refine aA (sgh [(3,.bv false),(10,.bv false)] rfl (aB rfl (fun hb=>absurd hb (by decide)) (fun _=>aG ?_)));rw[A];unfold tpV atV;exact aA (sg rfl (aB rfl (fun _=>sg rfl (aF iR)) (fun hb=>absurd hb (by simp[he]))))
  subst he hp hj;obtain⟨u,R2,rfl⟩:=E.e.ne;obtain⟨g,rfl⟩:∃h,g=h+1:=⟨g-1,by omega⟩
  have ae:=E.get;have huj':=b9 aI ae;have hlt:=E.lt;have hz:=hZ u E.mem;have hbu:=aT8 u hz;rw[iL] at A;refine aA (skh 9 [(3,.bv true),(7,.row (L.length-(u::R2).length) (aI u))] rfl (kvG (caps:=[]) (args:=[tkV u]) (hin:=[]) (hout:=[]) hbu ?_));refine ak 1 [(3,.bv true),(10,.bv true)] rfl (az (aB rfl (fun hb=>?_) (fun hb=>?_)))
  ·have hb:aIs u=true:=hb;rw[θ hb] at A;have M:=ab g (by omega) o (u::R2) _ E (by omega) ho;have hok:=gS g o (u::R2);have B:=eN g o (u::R2);refine aD (aE (sg rfl (sk 3 rfl (kc M ?_))));generalize cP g o (u::R2)=w at hok B A ⊢;cases w with
   | error e=>
    obtain⟨e,p⟩:=e;have he:=B e p rfl;have aa:=aNb x zTy U.1 rfl;dsimp only at A;unfold tpV atV;refine kz 7 rfl (aC mixed (ak 3 [(2,.all)] rfl (kc aa ?_)));exact kz 1 rfl ⟨(qI x zTy,0,e,p,[],0),.inr ⟨he,A⟩,by dsimp only;rw[ξ he,θ rfl];omega,sl⟩
   | ok y=>
    obtain⟨a,R3⟩:=y;obtain⟨J,_⟩:=hok a R3 rfl;obtain⟨hA3,hle⟩:=E.ok J;have hlen:=J.len;have aa:=aNb x a U.1 J.w.1;dsimp only at A;rw[jA];unfold atV;refine kz 7 rfl (aC mixed (ak 3 [(2,.all)] rfl (kc aa ?_)));exact kz 1 rfl ⟨(qI x a,((L.length-R3.length:Nat):Int),0,0,R3,g),.inl ⟨rfl,rfl,rfl,hA3,u9 U J.w,by dsimp only;omega,by dsimp only;omega,A⟩,by dsimp only;rw[θ rfl,θ rfl];omega,sl⟩
  ·have hb:aIs u=false:=hb;rw[ξ (by rw[hb];decide)] at A;have hIs:=wF u arrow hz;refine aG (aA (sg rfl (aB rfl (fun hb=>absurd hb (by decide)) (fun _=>aD (aA (skh 4 [(2,.row (L.length-(u::R2).length) (aI u))] rfl (kc hIs ?_)))))));refine kz 1 rfl ?_;cases hl:isT u arrow with
   | false=>
    rw[hl,ξ (by decide)] at A;rw[A,jA];exact aB rfl (fun _=>sg rfl (aF iR)) (fun hb=>absurd hb (by decide))
   | true=>
    rw[hl,θ rfl] at A;obtain⟨hA2,hn⟩:=E.next (by rw[(bW hl).1];decide)
    rw[Aa] at hg;have hty:=ac g (by omega) o R2 _ hA2 (by omega) ho;have hok:=fD g o R2;have B:=dV g o R2;refine aB rfl (fun hb=>absurd hb (by decide)) (fun _=>aD (aA (aC mixed (akN 4 [] rfl (kc hty ?_)))));generalize c9 g o R2=w at hok B A ⊢;cases w with
    | error e=>
     obtain⟨e,p⟩:=e;have he:=B e p rfl;dsimp only at A;rw[A];unfold tpV atV;exact kz 8 rfl (aA (sg rfl (aB rfl (fun _=>sg rfl (aF iR)) (fun hb=>absurd hb (by simp[he])))))
    | ok y=>
     obtain⟨to,R3⟩:=y;obtain⟨J,_⟩:=hok to R3 rfl;dsimp only at A;rw[A,jA,jA];have hfu:=aUd x to (zA U.1) (zA J.w.1);unfold atV;refine kz 8 rfl (aA (sg rfl (aB rfl (fun hb=>absurd hb (by decide)) (fun _=>aD (skh 3 [(2,.all)] rfl (kc hfu ?_))))));exact kz 5 rfl (aF iR)
 generalize cP f o R=w at hok B A ⊢;cases w with
 | error e=>
  obtain⟨e,p⟩:=e;unfold tpV atV;exact kz 9 rfl (AWp.sub sl (O zTy 0 e p [] 0 (.inr ⟨B e p rfl,A⟩)))
 | ok y=>
  obtain⟨x,R1⟩:=y;obtain⟨J,_⟩:=hok x R1 rfl;obtain⟨E,hle⟩:=Y.ok J;have hlen:=J.len;rw[jA];unfold atV;exact kz 9 rfl (AWp.sub sl (O x _ 0 0 R1 f (.inl ⟨rfl,rfl,rfl,E,J.w,by omega,le_refl _,A⟩)))
theorem aD6 (L:List Tk) (hZ:o7 L):∀f,(∀g,g≤f→aIo L g)∧∀g,g≤f→aB1 L g:=by
 intro f
 induction f with
 | zero=>
  refine⟨fun g u o R i y A=>?_,fun g u o R i y A=>?_⟩
  ·have:=y.lt;omega
  ·have:=y.lt;omega
 | succ f q=>
  refine⟨fun g u=>?_,fun g u=>?_⟩
  ·by_cases h:g≤f
   ·exact q.1 g h
   ·rw[show g=f+1 by omega];exact aQl L hZ f (q.2 f (le_refl _))
  ·by_cases h:g≤f
   ·exact q.2 g h
   ·rw[show g=f+1 by omega];exact aQe L hZ f q.1 q.2
def aUx (L:List Tk) (o:Nat):List Tk→V
 | []=>.tup [.pa (aS ⟨[],zTy⟩),I .i64 0,B false]
 | t::R=>if t.kind=2 then(match cP (3*R.length) o R with
   | .error _=>.tup [.pa (aS ⟨t.text,zTy⟩),I .i64 0,B false]
   | .ok (x,R2)=>.tup [.pa (aS ⟨t.text,x⟩),I .i64 ((L.length-R2.length:Nat):Int),B true])
  else .tup [.pa (aS ⟨[],zTy⟩),I .i64 0,B false]
theorem aG7 (L:List Tk) (hZ:o7 L) (o:Nat) (ho:o≤40) (R:List Tk) (i:Nat) (g:At L i R):aU Tryz.prog 208 [nQ L,I .i64 (i:Nat),I .i64 (o:Nat)] [] (aUx L o R) []:=by
 have O:(L.map aI).length=L.length:=κ _;have U:=g.l;obtain⟨t,R,rfl⟩:=g.e.ne;have u:=g.lt;have A:=g.get;have J:=b9 aI A;rw[Aa] at u;rw[aUx];refine bC (n:=39) tok Tryz.func208 rfl rfl rfl ?_;refine sg rfl (aA (sgh [(2,.row i (aI t))] rfl ?_));by_cases h2:t.kind=2
 case neg=>
  rw[ξ h2];have d2:(!decide (t.kind=2))=true:=by rw[ψ h2];rfl
  exact aB rfl (fun _=>sg rfl (aF aN5)) (fun hb=>absurd (hb.symm.trans d2) (by decide))
 rw[θ h2];have d2:(!decide (t.kind=2))=false:=by rw[φ h2];rfl
 refine aB rfl (fun hb=>absurd (hb.symm.trans d2) (by decide)) (fun _=>aD ?_);obtain⟨B,_⟩:=g.next (by omega)
 have E:=(aD6 L hZ (3*R.length)).1 (3*R.length) (le_refl _) o R _ B (le_refl _) ho;have q:=eN (3*R.length) o R;refine aA (aC mixed (akN 4 [] rfl (kc E ?_)));generalize cP (3*R.length) o R=w at q ⊢;cases w with
 | error e=>
  obtain⟨e,p⟩:=e;have he:=q e p rfl;have M:decide (e=0)=false:=ψ he;unfold tpV atV;refine kz 9 rfl (sgh [(2,.row i (aI t))] rfl ?_);dsimp only;rw[←M];exact aF aN5
 | ok y=>
  obtain⟨x,R1⟩:=y;unfold tpV atV;exact kz 9 rfl (sgh [(2,.row i (aI t))] rfl (aF aN5))
def aSn (L:List Tk):Option (List Prd×List Tk)→V
 | some (out,u::R2)=>if isT u lZ=true then .tup [.one (.c (.sl 5 (out.map aS))),I .i64 ((L.length-R2.length:Nat):Int),B true] else .tup [.one (.c .nl),I .i64 0,B false]
 | _=>.tup [.one (.c .nl),I .i64 0,B false]
theorem aPt (L:List Tk) (hZ:o7 L) (R:List Tk) (i:Nat) (M:At L i R) (F:Nat) (hF:R.length+1≤F):aU Tryz.prog 210 [nQ L,I .i64 (i:Nat)] [] (aSn L (gW F true R [])) []:=by
 have hkl:(L.map aI).length=L.length:=κ _;have hLl:=M.l;have ab:=M.lt;have q:∃W,W=gW F true R []:=⟨_,rfl⟩
 obtain⟨W,q⟩:=q;rw[←q];refine bC (n:=42) tok Tryz.func210 rfl rfl rfl ?_;refine sg rfl (sg rfl (AWp.sub (Sub.own (t:=7) (id:=500) 195 5 rfl rfl) ?_));refine aE (aL (fun p:Nat×Nat×List Prd×List Tk=>mk [(0,nQ L),(1,I .i64 (p.1:Nat)),(7,.one (.hs 500 0 p.2.2.1.length p.2.2.1.length))] [(500,.arr 195 5 (p.2.2.1.map aS) 0)]) (fun p=>At L p.1 p.2.2.2∧p.2.2.2.length+1≤p.2.1∧p.2.2.1.length+p.2.2.2.length≤4001∧W=gW p.2.1 true p.2.2.2 p.2.2.1) (fun p=>p.2.1) (i,F,[],R) ⟨M,hF,by dsimp only;rw[length_nil];omega,q⟩ sl ?_);clear q M ab hF;rintro⟨j,f,out,Q⟩ ⟨E,hf,Y,q⟩;dsimp only at E hf Y q ⊢;have hout:(out.map aS).length=out.length:=κ _;obtain⟨f,rfl⟩:∃g,f=g+1:=⟨f-1,by omega⟩
 obtain⟨u,Q,rfl⟩:=E.e.ne;have hjl:=E.lt;rw[Aa] at hf Y hjl;have A:=aG7 L hZ 1 (by decide) (u::Q) j E;rw[aUx] at A;rw[gW] at q;by_cases h2:u.kind=2
 case neg=>
  rw[ξ h2] at q A;rw[q];unfold aS at A;refine aE (sk 2 rfl (kc A ?_));exact kz 8 rfl (aA (sg rfl (aB rfl (fun _=>sg rfl (aF aJf)) (fun hb=>absurd hb (by decide)))))
 rw[θ h2] at q A;rw[θ rfl] at q;have hok:=gS (3*Q.length) 1 Q;obtain⟨hA1,_⟩:=E.next (by omega)
 generalize cP (3*Q.length) 1 Q=w at hok q A;cases w with
 | error e=>
  dsimp only at q A;rw[q];unfold aS at A;refine aE (sk 2 rfl (kc A ?_));exact kz 8 rfl (aA (sg rfl (aB rfl (fun _=>sg rfl (aF aJf)) (fun hb=>absurd hb (by decide)))))
 | ok y=>
 obtain⟨x,R1⟩:=y;obtain⟨hT,_⟩:=hok x R1 rfl;obtain⟨B,hle⟩:=hA1.ok hT;have hlen:=hT.len;obtain⟨v,R2,rfl⟩:=B.e.ne;dsimp only at q A;rw[Cq] at q;have hvj:=B.get;have hvj':=b9 aI hvj;have hv2:=B.lt;rw[Aa] at hlen hv2;have hcm:=wF v nY (hZ v B.mem);have hrp:=wF v lZ (hZ v B.mem);unfold aS at A;have J:out.map aS++[[.str u.text,.int .i64 x.form,.int .i64 x.n,.str x.name,.sl 4 (dG x)]]=(out++[(⟨u.text,x⟩:Prd)]).map aS:=by rw[Ai];rfl
 generalize hO:out++[(⟨u.text,x⟩:Prd)]=O at q J;have aa:O.length=out.length+1:=by rw[←hO,ζ];rfl
 generalize L.length-(v::R2).length=k at *;refine aE (sk 2 rfl (kc A ?_));refine kz 8 rfl (aA (sg rfl (aB rfl (fun hb=>absurd hb (by decide)) (fun _=>aD (sgh [(1,.all),(3,.all)] rfl (AWp.sub (st2:=mk [(0,nQ L),(1,I .i64 (j:Nat)),(7,.one (.hs 500 0 O.length O.length)),(9,I .i64 (k:Nat))] [(500,.arr 195 5 (O.map aS) 0)]) (sl (he:=⟨rfl,rfl,Go.AM.hs_ren (by rw[aa,←hout];rfl) (by rw[aa,←hout];rfl),rfl,trivial⟩) (hh:=⟨⟨_,rfl,.arrS J⟩,trivial⟩)) ?_))))));refine aA (aE (skh 4 [(2,.row k (aI v))] rfl (kc hrp ?_)));refine kz 1 rfl ?_;have ac:isT v lZ=true→isT v nY=false:=fun h=>by
  have h1:=(bW h).2
  unfold isT;rw[h1];cases decide (v.kind=4)<;>rfl
 cases U:isT v lZ with
 | true=>
  rw[ξ (by rw[ac U];decide)] at q;rw[q,aSn,θ U];obtain⟨_,hn⟩:=B.next (by rw[(bW U).1];decide)
  rw[hn];refine aB rfl (fun _=>aA (agN [] rfl (AWp.sub (Sub.freeze (id:=500) rfl) ?_))) (fun hb=>absurd hb (by decide));exact aF aJf
 | false=>
  refine aB rfl (fun hb=>absurd hb (by decide)) (fun _=>skh 4 [(2,.row k (aI v))] rfl (kc hcm ?_));refine kz 2 rfl ?_;cases hc:isT v nY with
  | false=>
   rw[hc,ξ (by decide)] at q;rw[q,aSn,ξ (by rw[U];decide)];exact aB rfl (fun _=>sg rfl (aF aJf)) (fun hb=>absurd hb (by decide))
  | true=>
   rw[θ hc] at q;obtain⟨hA3,_⟩:=B.next (by rw[(bW hc).1];decide)
   exact aB rfl (fun hb=>absurd hb (by decide)) (fun _=>aD (agN [] rfl ⟨(k+1,f,O,R2),⟨hA3,by dsimp only;omega,by dsimp only;omega,q⟩,by dsimp only;omega,sl⟩))
def aRb (L:List Tk):PR→V
 | .ok (ps,R)=>.tup [.one (.c (.sl 5 (ps.map aS))),I .i64 ((L.length-R.length:Nat):Int),atV 0 0]
 | .error (e,p)=>.tup [.one (.c .nl),I .i64 0,atV e p]
theorem nD (L:List Tk) (ps:List Prd) (R:List Tk):aRb L (.ok (ps,R))=.tup [.one (.c (.sl 5 (ps.map aS))),I .i64 ((L.length-R.length:Nat):Int),atV 0 0]:=rfl
theorem tP (L:List Tk) (hZ:o7 L) (R:List Tk) (i:Nat) (E:At L i R):aU Tryz.prog 188 [nQ L,I .i64 (i:Nat)] [] (aRb L (cU R)) []:=by
 have hkl:(L.map aI).length=L.length:=κ _;have hLl:=E.l;have hlt:=E.lt;have ab:L.length-R.length=i:=by omega
 have q:=aG7 L hZ 0 (by decide) R i E;obtain⟨t,R,rfl⟩:=E.e.ne;have hti:=E.get;have hti':=b9 aI hti;have Y:=wF t cE (hZ t E.mem);have g:∃W,W=cU (t::R):=⟨_,rfl⟩
 obtain⟨W,g⟩:=g;rw[←g];rw[aUx] at q;rw[cU] at g;have A:∀st,Sub (keys ([]:List (Nat×AObj))) (mk [(0,nQ L),(1,I .i64 (i:Nat)),(6,.one (.vp 6 0)),(9,B false)] [(6,.var 38 [.c (.int .i64 0),.c (.int .i64 0)])]) st→W=.ok ([],t::R)→
   AWp none Tryz.prog 59 (keys ([]:List (Nat×AObj))) (jN (jN (jN (jN (Tryz.f188.body.getD .skip))))) st (fun ex st=>(ex=.normal∨ex=.ret)∧Fin tr.flat Tryz.f188 st [] (aRb L W) []):=fun st hs hw=>by
  refine AWp.sub hs ?_;rw[hw,nD,ab];exact aA (aE (sgh [(2,.bv true),(9,.bv true)] rfl (aB rfl (fun _=>sg rfl (aF aJg)) (fun hb=>absurd hb (by decide)))))
 have aa:∀(O:List Prd) (m:Nat) (Q:List Tk) (st:St),Sub (keys ([]:List (Nat×AObj))) (mk [(0,nQ L),(1,I .i64 (i:Nat)),(6,.one (.vp 6 0)),(8,I .i64 (m:Nat)),(9,B true),(10,.one (.c (.sl 5 (O.map aS))))] [(6,.var 38 [.c (.int .i64 0),.c (.int .i64 0)])]) st→At L m Q→W=yW t.pl (t::R) O Q→
   AWp none Tryz.prog 59 (keys ([]:List (Nat×AObj))) (jN (jN (jN (jN (Tryz.f188.body.getD .skip))))) st (fun ex st=>(ex=.normal∨ex=.ret)∧Fin tr.flat Tryz.f188 st [] (aRb L W) []):=fun O m Q st hs J hw=>by
  refine AWp.sub hs ?_;obtain⟨y,Q,rfl⟩:=J.e.ne;have hyj:=J.get;have hyj':=b9 aI hyj;have hda:=wF y darrow (hZ y J.mem);have hB:=mO t 2;have hml:=J.lt;have ac:(O.map aS).length=O.length:=κ _;rw[yW] at hw;refine aA (aE (skh 7 [(2,.bv false),(5,.row m (aI y))] rfl (kcG hda ?_)));refine ak 3 [(2,.bv false),(9,.bv false)] rfl (az ?_);cases hd:isT y darrow with
  | false=>
   rw[hd,ξ (by decide)] at hw;rw[hw,nD,ab];exact aB rfl (fun _=>sg rfl (aF aJg)) (fun hb=>absurd hb (by decide))
  | true=>
   rw[hd,θ rfl] at hw;obtain⟨_,hn⟩:=J.next (by rw[(bW hd).1];decide)
   refine aB rfl (fun hb=>absurd hb (by decide)) (fun _=>sg rfl (aB rfl (fun hb=>?_) (fun hb=>?_)))
   ·rw[θ (by have:=χ hb;rw[ac] at this;omega)] at hw;rw[hw];refine skh 4 [(2,.row i (aI t))] rfl (kc hB ?_);exact kz 3 rfl (aF aJg)
   ·rw[ξ (by have:=Ad hb;rw[ac] at this;omega)] at hw;rw[hw,nD,hn];exact aD (aA (agN [] rfl (aF aJg)))
 refine bC (n:=59) tok Tryz.func188 rfl rfl rfl ?_;refine sg rfl ?_;cases hb:isT t cE with
 | true=>
  have h4:=bW hb;rw[ξ (by omega)] at q;unfold aS at q;rw[hb,θ rfl] at g;obtain⟨M,_⟩:=E.next (by omega)
  have hls:=aPt L hZ R (i+1) M ((t::R).length+1) (by rw[Aa];omega);have hok:=fun out R' h=>sI ((t::R).length+1) true R [] out R' (wt R) R.length (le_refl _) (fun p hp=>by cases hp) (by rw[length_nil];omega) h
  refine sk 2 rfl (kc q ?_);refine kz 8 rfl (sgh [(1,.all)] rfl (aA (skh 4 [(2,.row i (aI t))] rfl (kc Y ?_))));refine az ?_;rw[hb];refine aB rfl (fun _=>aC mixed (akN 3 [] rfl (kc hls ?_))) (fun hb=>absurd hb (by decide));generalize gW ((t::R).length+1) true R []=w at hok g ⊢;cases w with
  | none=>
   rw[jQ] at g;rw[aSn]
   ·exact kz 7 rfl (A _ sl g)
   ·intro a b c h;cases h
  | some y=>
   obtain⟨out,R2⟩:=y;obtain⟨g1,⟨p,g2,_⟩,_,_⟩:=hok out R2 rfl;obtain⟨U,hn2⟩:=M.to g2 (g1 M.e);rw[jQ] at g;obtain⟨u,R2,rfl⟩:=U.e.ne;rw[brP,θ rfl] at g;rw[aSn];by_cases hr:isT u lZ=true
   ·rw[θ hr] at g ⊢;obtain⟨hA3,hn3⟩:=U.next (by rw[(bW hr).1];decide)
    rw[hn3];exact kz 7 rfl (aa out _ R2 _ sl hA3 g)
   ·rw[ξ hr] at g ⊢;exact kz 7 rfl (A _ sl g)
 | false=>
  rw[hb,ξ (by decide)] at g;rw[gW] at g;by_cases h2:t.kind=2
  case neg=>
   rw[ξ h2] at g q;unfold aS at q;rw[jQ] at g;refine sk 2 rfl (kc q ?_);refine kz 8 rfl (sgh [(1,.all)] rfl (aA (skh 4 [(2,.row i (aI t))] rfl (kc Y ?_))));refine az ?_;rw[hb];exact aB rfl (fun hb=>absurd hb (by decide)) (fun _=>aD (A _ sl g))
  rw[θ h2] at g q;rw[ξ (by decide)] at g;obtain⟨M,_⟩:=E.next (by omega)
  have hok:=gS (3*R.length) 0 R;generalize cP (3*R.length) 0 R=w at hok g q;cases w with
  | error e=>
   dsimp only at g q;unfold aS at q;rw[jQ] at g;refine sk 2 rfl (kc q ?_);refine kz 8 rfl (sgh [(1,.all)] rfl (aA (skh 4 [(2,.row i (aI t))] rfl (kc Y ?_))));refine az ?_;rw[hb];exact aB rfl (fun hb=>absurd hb (by decide)) (fun _=>aD (A _ sl g))
  | ok y=>
   obtain⟨x,R1⟩:=y;obtain⟨hT,_⟩:=hok x R1 rfl;obtain⟨U,hle⟩:=M.ok hT;obtain⟨u,R2,rfl⟩:=U.e.ne;dsimp only at g q;unfold aS at q;rw[Co,ξ (by decide),jQ,brP,ξ (by decide),A9] at g;refine sk 2 rfl (kc q ?_);refine kz 8 rfl (sgh [(1,.all)] rfl (aA (skh 4 [(2,.row i (aI t))] rfl (kc Y ?_))));refine az ?_;rw[hb];exact aB rfl (fun hb=>absurd hb (by decide)) (fun _=>aD (aa [⟨t.text,x⟩] _ (u::R2) _ sl U g))
theorem aBa (L:List Tk) (hZ:o7 L) (R:List Tk) (i:Nat) (g:At L i R):aU Tryz.prog 212 [nQ L,I .i64 (i:Nat)] [] (tpV L (c9 (3*R.length+2) 0 R)) []:=by
 have h:=(aD6 L hZ (3*R.length+2)).2 (3*R.length+2) (le_refl _) 0 R i g (le_refl _) (by decide);refine bC (n:=13) tok Tryz.func212 rfl rfl rfl ?_;refine sg rfl (sk 2 rfl (kc h ?_));generalize c9 (3*R.length+2) 0 R=w;cases w with
 | error e=>
  obtain⟨e,p⟩:=e;unfold tpV atV;exact kz 6 rfl (aF iR)
 | ok y=>
  obtain⟨x,R1⟩:=y;unfold tpV atV;exact kz 6 rfl (aF iR)
theorem aLe (L:List Tk) (hZ:o7 L) (R:List Tk) (i:Nat) (g:At L i R):aU Tryz.prog 187 [nQ L,I .i64 (i:Nat)] [] (tpV L (cP (3*R.length) 0 R)) []:=by
 have h:=(aD6 L hZ (3*R.length)).1 (3*R.length) (le_refl _) 0 R i g (le_refl _) (by decide);refine bC (n:=13) tok Tryz.func187 rfl rfl rfl ?_;refine sg rfl (sk 2 rfl (kc h ?_));generalize cP (3*R.length) 0 R=w;cases w with
 | error e=>
  obtain⟨e,p⟩:=e;unfold tpV atV;exact kz 6 rfl (aF iR)
 | ok y=>
  obtain⟨x,R1⟩:=y;unfold tpV atV;exact kz 6 rfl (aF iR)
theorem mQ (l:List (List C)) (h:l.length≤1000000):aU Tryz.prog 213 [.one (.c (.sl 5 l))] [] (.one (.hs 720 0 l.length l.length)) [(720,.arr 195 5 l 0)]:=by
 refine bC (n:=8) tok Tryz.func213 rfl rfl rfl ?_;refine sg rfl (aH8 0 rfl (fun hl=>?_) ?_)
 ·subst hl;refine aA (sg rfl (aB rfl (fun _=>sg rfl (AWp.sub (Sub.own (t:=2) (id:=720) 195 5 rfl rfl) ?_)) nofun));exact aF rtT
 ·refine aA (sg rfl (aB rfl nofun (fun _=>aD (sgh [(0,.id 720)] rfl (AWp.sub (st2:=mk [(2,.one (.hs 720 0 l.length l.length))] [(720,.arr 195 5 l 0)]) sl ?_)))));exact aF rtT
def mH (s:Sch):List C:=[.sl 1 (s.vars.map aR),.sl 1 [],.sl 5 (s.preds.map aS),.int .i64 s.ty.form,.int .i64 s.ty.n,.str s.ty.name,.sl 4 (dG s.ty)]
def jP:Sch:=⟨[],[],zTy⟩
def spV (L:List Tk):SR→V
 | .ok (s,R)=>.tup [.pa (mH s),I .i64 ((L.length-R.length:Nat):Int),atV 0 0]
 | .error (e,p)=>.tup [.pa (mH jP),I .i64 0,atV e p]
theorem aMi (L:List Tk) (s:Sch) (R:List Tk):spV L (.ok (s,R))=.tup [.pa (mH s),I .i64 ((L.length-R.length:Nat):Int),atV 0 0]:=rfl
def aIu:List AM.R:=[.c .nl,.c .nl,.c .nl,.c (.int .i64 0),.c (.int .i64 0),.c (.str []),.c .nl]
theorem aHo (L:List Tk) (hZ:o7 L) (R:List Tk) (i:Nat) (O:At L i R) (hwt:wt L≤30000):aU Tryz.prog 190 [nQ L,I .i64 (i:Nat)] [] (spV L (cI R)) []:=by
 have hp:=tP L hZ R i O;have ab:= @kP R;have ac:= @iF R;unfold cI;refine bC (n:=74) tok Tryz.func190 rfl rfl rfl ?_;refine sg rfl (sk 2 rfl (kc hp ?_));generalize cU R=w at ab ac ⊢;cases w with
 | error e=>
  obtain⟨e,p⟩:=e;have he:=ac rfl;rw[n9];unfold aRb atV;exact kz 8 rfl (aA (sg rfl (aB rfl (fun _=>sg rfl (aF iR)) (fun hb=>absurd hb (by simp[he])))))
 | ok y=>
 obtain⟨ps,R1⟩:=y;obtain⟨k1,⟨q,k2,_⟩,k3,k4⟩:=ab rfl;obtain⟨ad,hn1⟩:=O.to k2 (k1 O.e);rw[nD,n9,hn1];generalize i+q.length=j at ad;have hty:=aBa L hZ R1 j ad;have ae:=fD (3*R1.length+2) 0 R1;have af:=dV (3*R1.length+2) 0 R1;have U:wt R≤30000:=by
  have:L=L.take i++R:=by rw[←O.d,take_append_drop]
  rw[this] at hwt;exact le_trans lV hwt
 have hwtR1:wt R1≤30000:=by rw[k2] at U;exact le_trans lV U
 have hRl:=O.lt;have hLl:=O.l;unfold atV;refine kz 8 rfl (aA (sg rfl (aB rfl (fun hb=>absurd hb (by decide)) (fun _=>aD (sk 2 rfl (kc hty ?_))))));generalize c9 (3*R1.length+2) 0 R1=w at ae af ⊢;cases w with
 | error e=>
  obtain⟨e,p⟩:=e;have he:=af e p rfl;rw[n8];unfold tpV atV;exact kz 8 rfl (aA (sg rfl (aB rfl (fun _=>sg rfl (aF iR)) (fun hb=>absurd hb (by simp[he])))))
 | ok y=>
 obtain⟨x,R2⟩:=y;obtain⟨hT,hTn⟩:=ae x R2 rfl;rw[jA,n8,aMi];unfold atV;dsimp only;generalize ((L.length-R2.length:Nat):Int)=m;refine kz 8 rfl (aA (sg rfl (aB rfl (fun hb=>absurd hb (by decide)) (fun _=>aD (sg rfl ?_)))));have hsv:aQ8 ps x=gP [] (ps++[(⟨[],x⟩:Prd)]):=by rw[y8];rfl
 rw[hsv];have B:∀p∈ps++[(⟨[],x⟩:Prd)],WF p.ty∧tn p.ty≤30000:=fun p hp=>by
  rcases Ba.1 hp with hp | hp
  ·exact⟨(k3 p hp).1,by have:=(k3 p hp).2;omega⟩
  ·rw[As.1 hp];exact⟨hT.w,by show tn x≤30000;omega⟩
 have hcl:=mQ (ps.map aS) (by rw[κ];omega);have hkl:(ps.map aS).length=ps.length:=κ _;have J:ps.map aS++[[.str [],.int .i64 x.form,.int .i64 x.n,.str x.name,.sl 4 (dG x)]]=(ps++[(⟨[],x⟩:Prd)]).map aS:=by rw[Ai];rfl
 have ah:(ps++[(⟨[],x⟩:Prd)]).length=ps.length+1:=by rw[ζ];rfl
 generalize ps++[(⟨[],x⟩:Prd)]=g at B J ah ⊢;have hqe:(g.map aS).length=g.length:=κ _;refine aA (sk 1 rfl (kc hcl ?_));refine ak 6 [(4,.all),(5,.fz)] rfl (az (AWp.sub (Sub.own (t:=10) (id:=710) 9 1 rfl rfl) ?_));have A:∀r:List C,(ps.map aS).length+[r].length=g.length:=fun r=>by rw[hkl,ah];rfl
 refine aE (aL (fun k:Nat=>mk [(1,I .i64 m),(4,.one (.vp 4 0)),(6,.one (.vp 6 0)),(7,.one (.c (.sl 5 (ps.map aS)))),(9,.one (.vp 9 0)),(10,oV (gP [] (g.take k))),(44,.one (.hs 720 0 g.length g.length)),(45,I .i64 (g.length:Nat)),(46,I .i64 (k:Nat))] [(4,.var 33 aIu),(6,.var 38 [.c (.int .i64 0),.c (.int .i64 0)]),(9,.var 31 ((cF x).map .c)),(710,oO (gP [] (g.take k))),(720,.arr 195 5 (g.map aS) 2)]) (fun k=>k≤g.length) (fun k=>g.length-k) 0 (Ac _) (sl (he:=⟨rfl,rfl,rfl,rfl,rfl,rfl,Go.AM.hs_ren (A _) (A _),Go.AM.int_eq (congrArg Int.ofNat (A _)),rfl,trivial⟩) (hh:=⟨⟨_,rfl,.var rfl⟩,⟨_,rfl,.var rfl⟩,⟨_,rfl,.var rfl⟩,⟨_,rfl,Go.AM.Ole.arrE rfl⟩,⟨_,rfl,.arrS J⟩,trivial⟩)) ?_);intro k hk;have hgl:(gP [] (g.take k)).length≤4002*30000:=by
  have h1:=vK (W:=30000) (g.take k) [] (fun p hp=>(B p (Bx hp)).2);rw[Aj,length_nil] at h1;have:min k g.length*30000≤4002*30000:=Au _ (by omega);omega
 refine sg rfl (aA (aB rfl (fun hb=>?_) (fun hb=>?_)))
 ·have ai:k<g.length:=by have:=χ hb;omega
  obtain⟨p,hp⟩:=aM ai;have hp':=b9 aS hp;have hpm:=B p (Af hp);have aj:=aBf p.ty (by have:=aSz p.ty;omega);have htf:=lW p.ty;have Y:=y7 hp;generalize gP [] (g.take k)=o at hgl Y ⊢;generalize tfR p.ty=l at aj htf Y ⊢;have al:(l.map aR).length=l.length:=κ _;refine aD (aA (aE (sgh [(1,.row k (aS p))] rfl (sk 2 rfl (kc aj ?_)))));refine kz 2 rfl (aE (aL (fun j:Nat=>mk [(1,I .i64 m),(4,.one (.vp 4 0)),(6,.one (.vp 6 0)),(7,.one (.c (.sl 5 (ps.map aS)))),(9,.one (.vp 9 0)),(10,oV (eI o (l.take j))),(44,.one (.hs 720 0 g.length g.length)),(45,I .i64 (g.length:Nat)),(46,I .i64 (k:Nat)),(52,bI l),(53,I .i64 ((l.map aR).length:Nat)),(54,I .i64 (j:Nat))] [(4,.var 33 aIu),(6,.var 38 [.c (.int .i64 0),.c (.int .i64 0)]),(9,.var 31 ((cF x).map .c)),(710,oO (eI o (l.take j))),(720,.arr 195 5 (g.map aS) 2)]) (fun j=>j≤l.length) (fun j=>l.length-j) 0 (Ac _) sl ?_));intro j hj;refine sg rfl (aA (aB rfl (fun hb=>?_) (fun hb=>?_)))
  ·have E:=ltD hb al;obtain⟨s,hs⟩:=aM E;have hs':=b9 aR hs;have u:eI o (l.take (j+1))=mZ (eI o (l.take j)) s:=by rw[Be,hs,oJ];rfl
   have hml:(eI o (l.take j)).length≤1000000000:=by
    have:=iV (l.take j) o;rw[Aj] at this;omega
   have am:=eZ (eI o (l.take j)) s (by omega);generalize eI o (l.take j)=M at u hml am ⊢;have hml':(M.map aR).length=M.length:=κ _;refine aD (AWp.sub (Sub.freeze (id:=710) rfl) ?_);refine aA (aE (sgh [(0,.row j (aR s))] rfl (sk 2 rfl (kc am ?_))));refine kz 1 rfl (aB rfl (fun hb=>?_) (fun hb=>?_))
   ·have hm:¬s∈M:=fun h=>by rw[φ h] at hb;cases hb
    unfold mZ at u;rw[ξ hm] at u;refine ag [(2,.all)] rfl (ag [] rfl ⟨j+1,E,by dsimp only;omega,?_⟩);dsimp only;rw[u];exact sl
   ·have hm:s∈M:=by
     by_cases h:s∈M
     ·exact h
     ·rw[ψ h] at hb;cases hb
    unfold mZ at u;rw[θ hm] at u;refine aD (ag [] rfl ⟨j+1,E,by dsimp only;omega,?_⟩);dsimp only;rw[u];exact sl
  ·have aa:=geD hb al hj;subst aa;rw[Ao];refine aG (ag [] rfl ⟨k+1,ai,by dsimp only;omega,?_⟩);dsimp only;rw[Y];exact sl
 ·have aa:k=g.length:=by have:=Ad hb;omega
  subst aa;rw[Ao];refine aG (AWp.sub (Sub.freeze (id:=710) rfl) ?_);exact sg rfl (aF iR)
end Go.Proofs.YtkhgpgihmphfdaaGreat
namespace Go.AM
open Go
section
variable {QP:Value→Prop}{P:Program}{n:Nat}{ops:Array Oper}{draw:Bool}{k:Nat}{st:St}{pre:REs}{Q:St→Prop}{o:Oper}{f:FuncId}{xs:Array Operand}{ts:Array TypeId}{ids:List Nat}{args:List V}{hin:List (Nat×AObj)}{v:Value}
theorem kp (u:aB2 P f args hin v) (hq:QP v:=by first | exact fun _ _=>⟨rfl,rfl⟩ | assumption)
  (hb:fI P f:=by exact aDe (by kernel_rfl)) (ho:ops[k]?=some o:=by rfl) (y:o.guard=none:=by rfl) (q:o.op=.call { callee:=.value (.func f),args:=xs,argTypes:=ts }:=by rfl)
  (ha:ArgsV st ids xs.toList args:=by repeat (first | exact .nil | (apply Go.AM.ArgsV.cons rfl;(first | exact .refl | exact .one (.c .nl .nil) | exact .one (.c .sn .nil) | exact .one (.hs rfl (by first | rfl | simp) (by first | rfl | (simp;done) | (simp[Go.AM.take_map];done) | exact Go.AM.take_map.symm) .nil) | exact Go.AM.hs_all rfl rfl (by first | rfl | assumption | (simp;done) | (simp;omega)) (by first | rfl | assumption | (simp;done)) | ((first | apply Go.AM.Conv.pa | apply Go.AM.Conv.agg);repeat (first | exact .nil | apply Go.AM.PureL.c .refl | apply Go.AM.PureL.c .nl | apply Go.AM.PureL.c .sn | (apply Go.AM.PureL.hs;rfl;(first | rfl | simp);(first | rfl | (simp;done) | (simp[Go.AM.take_map];done) | exact Go.AM.take_map.symm))))))))
  (g:eG (fun p=>st.h p.1=some p.2) hin:=by repeat (first | exact trivial | refine⟨rfl,?_⟩)) (hok:dW args hin=true:=by rfl) (A:draw=false:=by rfl) (hl:Nat.blt k ops.size=true:=by rfl):iC QP P n ops draw k st pre Q:=
 aSq (mX.plain ho y (aE6 hin hb q u ha g hok)) hq A hl
theorem kpD {d:Nat}(res:V) (hout:List (Nat×AObj)) (u:aB2 P f args hin v) (y:iC (fun _=>False) P n ops draw (k+1) ⟨upd st.e d (some res),fE st.h (outs hout),st.d⟩ ((⟨bV xs.toList,ids++keys hin⟩,⟨some (d,some res),outs hout⟩)::pre) fun _=>True) (hq:QP v:=by first | exact fun _ _=>⟨rfl,rfl⟩ | assumption)
  (hb:fI P f:=by exact aDe (by kernel_rfl)) (ho:ops[k]?=some o:=by rfl) (A:o.guard=none:=by rfl) (q:o.op=.call { callee:=.value (.func f),args:=xs,argTypes:=ts }:=by rfl) (_:o.dst=some d:=by rfl)
  (ha:ArgsV st ids xs.toList args:=by repeat (first | exact .nil | (apply Go.AM.ArgsV.cons rfl;(first | exact .refl | exact .one (.c .nl .nil) | exact .one (.c .sn .nil) | exact .one (.hs rfl (by first | rfl | simp) (by first | rfl | (simp;done) | (simp[Go.AM.take_map];done) | exact Go.AM.take_map.symm) .nil) | exact Go.AM.hs_all rfl rfl (by first | rfl | assumption | (simp;done) | (simp;omega)) (by first | rfl | assumption | (simp;done)) | ((first | apply Go.AM.Conv.pa | apply Go.AM.Conv.agg);repeat (first | exact .nil | apply Go.AM.PureL.c .refl | apply Go.AM.PureL.c .nl | apply Go.AM.PureL.c .sn | (apply Go.AM.PureL.hs;rfl;(first | rfl | simp);(first | rfl | (simp;done) | (simp[Go.AM.take_map];done) | exact Go.AM.take_map.symm))))))))
  (g:eG (fun p=>st.h p.1=some p.2) hin:=by repeat (first | exact trivial | refine⟨rfl,?_⟩)) (hok:dW args hin=true:=by rfl):iC QP P n ops draw k st pre Q:=
 aSp ⟨some (d,some res),outs hout⟩ (mX.plain ho A (aE6 hin hb q u ha g hok)) hq y
theorem kpv {x:Operand}{caps:List R}(u:aB2 P f (args++caps.map V.one) hin v) (hq:QP v:=by first | exact fun _ _=>⟨rfl,rfl⟩ | assumption)
  (hb:fI P f:=by exact aDe (by kernel_rfl)) (ho:ops[k]?=some o:=by rfl) (y:o.guard=none:=by rfl) (q:o.op=.call { callee:=.value x,args:=xs,argTypes:=ts }:=by rfl) (hx:opv st x=some (.one (.clo f caps)):=by rfl)
  (ha:ArgsV st ids xs.toList args:=by repeat (first | exact .nil | (apply Go.AM.ArgsV.cons rfl;(first | exact .refl | exact .one (.c .nl .nil) | exact .one (.c .sn .nil) | exact .one (.hs rfl (by first | rfl | simp) (by first | rfl | (simp;done) | (simp[Go.AM.take_map];done) | exact Go.AM.take_map.symm) .nil) | exact Go.AM.hs_all rfl rfl (by first | rfl | assumption | (simp;done) | (simp;omega)) (by first | rfl | assumption | (simp;done)) | ((first | apply Go.AM.Conv.pa | apply Go.AM.Conv.agg);repeat (first | exact .nil | apply Go.AM.PureL.c .refl | apply Go.AM.PureL.c .nl | apply Go.AM.PureL.c .sn | (apply Go.AM.PureL.hs;rfl;(first | rfl | simp);(first | rfl | (simp;done) | (simp[Go.AM.take_map];done) | exact Go.AM.take_map.symm))))))))
  (g:eG (fun p=>st.h p.1=some p.2) hin:=by repeat (first | exact trivial | refine⟨rfl,?_⟩)) (hok:dW (args++caps.map V.one) hin=true:=by rfl) (A:draw=false:=by rfl) (hl:Nat.blt k ops.size=true:=by rfl):iC QP P n ops draw k st pre Q:=
 aSq (mX.plain ho y (aJs hin hb q hx u ha g hok)) hq A hl
end
def bF (P:Program) (f:FuncId) (args:List V) (hin:List (Nat×AObj)):Except Value (V×List (Nat×AObj))→Prop
 | .ok (res,hout)=>aU P f args hin res hout
 | .error v=>aB2 P f args hin v
def aXd (T:TT) (fn:Func) (hin:List (Nat×AObj)):Except Value (V×List (Nat×AObj))→Exit→St→Prop
 | .ok (res,hout),ex,st=>(ex=.normal∨ex=.ret)∧Fin T fn st hin res hout
 | .error v,ex,st=>ex=pan v∧st.d=[]
theorem mE {P:Program}{T:TT}{f:FuncId}{fn:Func}{c:Code}{n:Nat}{args:List V}{hin:List (Nat×AObj)}{o:Except Value (V×List (Nat×AObj))}(q:Tok P T) (g:P.funcs[f]?=some fn) (hb:fn.body=some c) (hn:fn.ntmps=n) (hle:Nat.ble args.length n=true) (hok:(hin.all fun p=>lI p.2)=true)
  (h:AWp none P n (keys hin) c (mk (xC 0 args) hin) (aXd T fn hin o)):bF P f args hin o:=by
 cases o with
 | ok x=>obtain⟨res,hout⟩:=x;exact bC q g hb hn hle h
 | error v=>exact aPa g hb hn hle hok h
end Go.AM
namespace Go.Proofs.YtkhgpgihmphfdaaGreat
open Go Go.AM
set_option maxRecDepth 20000
set_option maxHeartbeats 4000000
theorem rtN {ex:Exit}{fn:Func}{st:St}{hin hout:List (Nat×AObj)}(hex:ex=.normal∨ex=.ret:=by first | exact .inl rfl | exact .inr rfl) (g:fn.results.toList=[]:=by rfl)
  (ho:eG (fun p=>∃o,st.h p.1=some o∧Ole (fun i=>i) o p.2) hout:=by repeat (first | exact trivial | refine⟨⟨_,rfl,by first | exact Go.AM.Ole.arr | exact Go.AM.Ole.var rfl | exact Go.AM.Ole.varS rfl⟩,?_⟩))
  (hok:(subset (V.tup []).refs (keys hout)&&subset (eH hout) (keys hout)&&Go.AM.distinct (keys hout)&&subset (keys hin) (keys hout)&&(hin.all fun p=>p.2.plain)&&(hout.all fun p=>p.2.plain))=true:=by rfl):(ex=.normal∨ex=.ret)∧Fin tr.flat fn st hin (.tup []) hout:=
 ⟨hex,⟨[],[],by rw[g];exact .nil,.nil,rfl⟩,ho,hok⟩
theorem rtH {fn:Func}{st:St}{hin hout:List (Nat×AObj)}{t id len sz te es:Nat}{elems:List (List C)}(g:fn.results.toList=[.tmp t]:=by rfl) (q:st.e t=some (.one (.hs id 0 len sz)):=by rfl) (hh:st.h id=some (.arr te es elems 2):=by rfl) (hsz:sz=elems.length:=by first | rfl | assumption | (simp;done))
  (hlen:len=elems.length:=by first | rfl | assumption | (simp;done))
  (ho:eG (fun p=>∃o,st.h p.1=some o∧Ole (fun i=>i) o p.2) hout:=by repeat (first | exact trivial | refine⟨⟨_,rfl,by first | exact Go.AM.Ole.arr | exact Go.AM.Ole.var rfl | exact Go.AM.Ole.varS rfl⟩,?_⟩))
  (hok:(subset (V.one (.c (.sl es elems))).refs (keys hout)&&subset (eH hout) (keys hout)&&Go.AM.distinct (keys hout)&&subset (keys hin) (keys hout)&&(hin.all fun p=>p.2.plain)&&(hout.all fun p=>p.2.plain))=true:=by rfl):(Exit.ret=.normal∨Exit.ret=.ret)∧Fin tr.flat fn st hin (.one (.c (.sl es elems))) hout:=
 rtT (hc:=.one (.hs hh hsz (Go.AM.take_all hlen) .nil)) g q (ho:=ho) (hok:=hok)
structure Z where
 R:List Tk
 e:Int
 p:Int
def zTk:Tk:=⟨0,[],0,0⟩
def b4 (z:Z):Tk:=z.R.headD zTk
def bS (e p:Int) (z:Z):Z:=if z.e=0 then⟨z.R,e,p⟩ else z
def isK (s:Str) (t:Tk):Bool:=(decide (t.kind=4) || decide (t.kind=5))&&decide (t.text=s)
def isZ (s:Str) (z:Z):Bool:=isK s (b4 z)
def bQ (s:Str) (z:Z):Bool×Z:=if z.e=0∧isZ s z=true then(true,⟨z.R.tail,z.e,z.p⟩) else(false,z)
def aQ (s:Str) (z:Z):Z:=if(bQ s z).1=true then(bQ s z).2 else bS 12 (b4 z).pl z
def b5 (k:Int) (z:Z):Tk×Z:=if z.e=0∧(b4 z).kind=k then(b4 z,⟨z.R.tail,z.e,z.p⟩) else(⟨0,[],0,(b4 z).pl⟩,bS 12 (b4 z).pl z)
def qN (t:Tk):Bool:=decide (t.kind=1)
def aZ (z:Z):List Tk×Z:=if z.e=0 then(z.R.takeWhile qN,⟨z.R.dropWhile qN,z.e,z.p⟩) else([],z)
def cK (n most:Nat) (at':Int) (z:Z):Z:=if most<n then bS 2 at' z else z
def ZA (L:List Tk) (z:Z):Prop:=At L (L.length-z.R.length) z.R
def xP:V:=.one (.vp 700 0)
def zO (L:List Tk) (z:Z):AObj:=.var 60 [.c (.sl 4 (L.map aI)),.c (.int .i64 ((L.length-z.R.length:Nat):Int)),.c (.int .i64 z.e),.c (.int .i64 z.p)]
theorem nJ (e p:Int) (z:Z):(bS e p z).R=z.R:=by unfold bS;split<;>rfl
theorem ZA.fail {L:List Tk}{z:Z}(h:ZA L z) (e p:Int):ZA L (bS e p z):=by unfold ZA;rw[nJ];exact h
theorem ZA.tl {L:List Tk}{z:Z}(h:ZA L z) (g:¬(b4 z).kind=6) (e p:Int):ZA L ⟨z.R.tail,e,p⟩∧L.length-z.R.tail.length=L.length-z.R.length+1:=by
 obtain⟨R,e',q⟩:=z;obtain⟨t,R,rfl⟩:=h.e.ne;have hn:¬t.kind=6:=g;obtain⟨h1,h2⟩:=At.next h hn
 unfold ZA;rw[show(Z.mk (t::R) e' q).R.tail=R from rfl,h2];exact⟨h1,rfl⟩
theorem iX {s:Str}{t:Tk}(h:isK s t=true):¬t.kind=6:=fun e=>by
 unfold isK at h;rw[e] at h;simp at h
theorem ZA.may {L:List Tk}{z:Z}(h:ZA L z) (s:Str):ZA L (bQ s z).2:=by
 unfold bQ;split
 ·rename_i hc;exact(h.tl (iX hc.2) _ _).1
 ·exact h
theorem ZA.need {L:List Tk}{z:Z}(h:ZA L z) (s:Str):ZA L (aQ s z):=by
 unfold aQ;split
 ·exact h.may s
 ·exact h.fail _ _
theorem ZA.word {L:List Tk}{z:Z}(h:ZA L z) {k:Int}(g:¬k=6):ZA L (b5 k z).2:=by
 unfold b5;split
 ·rename_i hc;exact(h.tl (by rw[hc.2];exact g) _ _).1
 ·exact h.fail _ _
theorem vT:∀{R:List Tk},mY R→mY (R.dropWhile qN)∧∃p,R=p++R.dropWhile qN
 | [],h=>by obtain⟨t,R',e⟩:=h.ne;cases e
 | t::R,h=>by
  rw[B4];split
  ·rename_i hb;have q:t.kind=1:=χ hb;have g:=h.tail (by omega);obtain⟨h1,p,h2⟩:=vT g;exact⟨h1,t::p,by rw[A1,←h2]⟩
  ·exact⟨h,[],rfl⟩
theorem ZA.suf {L:List Tk}{z:Z}(h:ZA L z) {R p:List Tk}(hs:z.R=p++R) (he:mY R) (e q:Int):ZA L ⟨R,e,q⟩:=by
 obtain⟨h1,h2⟩:=At.to h hs he;show At L (L.length-R.length) R;rw[h2];exact h1
theorem ZA.words {L:List Tk}{z:Z}(h:ZA L z):ZA L (aZ z).2:=by
 unfold aZ;split
 ·obtain⟨h1,p,h2⟩:=vT h.e;exact h.suf h2 h1 _ _
 ·exact h
theorem ZA.long {L:List Tk}{z:Z}(h:ZA L z) (n g:Nat) (q:Int):ZA L (cK n g q z):=by
 unfold cK;split
 ·exact h.fail _ _
 ·exact h
theorem ZA.now {L:List Tk}{z:Z}(h:ZA L z):L[L.length-z.R.length]?=some (b4 z):=by
 obtain⟨R,e',g⟩:=z;obtain⟨t,R,rfl⟩:=h.e.ne;exact At.get h
theorem fU {L:List Tk}{z:Z}(h:ZA L z):aU Tryz.prog 36 [xP] [(700,zO L z)] (tkV (b4 z)) [(700,zO L z)]:=by
 have hl:=b9 aI h.now;have g:(L.map aI).length=L.length:=κ _;have q:=h.lt;have u:=h.l;refine bC (n:=13) tok Tryz.func36 rfl rfl rfl ?_;exact sg rfl (sgh [(8,.row (L.length-z.R.length) (aI (b4 z)))] rfl (aF (rtC trw)))
theorem eL (L:List Tk) (z:Z) (e p:Int):aU Tryz.prog 37 [xP,I .i64 e,I .i64 p] [(700,zO L z)] (.tup []) [(700,zO L (bS e p z))]:=by
 refine bC (n:=18) tok Tryz.func37 rfl rfl rfl ?_;refine sg rfl ?_;unfold bS;refine aB rfl (fun hb=>?_) (fun hb=>?_)
 ·rw[θ (χ hb)];exact ag [] rfl rtN
 ·rw[ξ (Ad hb)];exact aD rtN
theorem gZ (L:List Tk) (z:Z):aU Tryz.prog 22 [xP] [(700,zO L z)] (B (decide (z.e=0))) [(700,zO L z)]:=by
 refine bC (n:=9) tok Tryz.func22 rfl rfl rfl ?_;exact sg rfl (sg rfl (aF rtT))
theorem aK1 {L:List Tk}{z:Z}(h:ZA L z) (s:Str):aU Tryz.prog 76 [xP,Go.AM.T s] [(700,zO L z)] (B (isZ s z)) [(700,zO L z)]:=by
 have hn:=fU h;unfold isZ;generalize b4 z=t at hn ⊢;unfold isK;refine bC (n:=22) tok Tryz.func76 rfl rfl rfl ?_;refine sg rfl (sk 1 rfl (kc hn ?_));refine kz 2 rfl ?_;by_cases g:t.kind=4
 ·have d4:decide (t.kind=4)=true:=φ g;rw[d4,Bool.true_or,Cq];exact sgh [(3,.bv true),(7,.bv true),(8,.bv true),(13,.bv true)] rfl (aF rtT)
 have d4:decide (t.kind=4)=false:=ψ g;rw[d4,B0];by_cases q:t.kind=5
 ·have d5:decide (t.kind=5)=true:=φ q;rw[d5,Cq];exact sgh [(3,.bv false),(7,.bv false),(8,.bv true),(13,.bv true)] rfl (aF rtT)
 ·have d5:decide (t.kind=5)=false:=ψ q;rw[d5,Co];exact sgh [(3,.bv false),(7,.bv false),(8,.bv false),(13,.bv false)] rfl (aF rtT)
theorem mP {L:List Tk}{z:Z}(h:ZA L z) (s:Str):aU Tryz.prog 38 [xP,Go.AM.T s] [(700,zO L z)] (B (bQ s z).1) [(700,zO L (bQ s z).2)]:=by
 have ho:=gZ L z;have hi:=aK1 h s;have g:= @iX s (b4 z);refine bC (n:=22) tok Tryz.func38 rfl rfl rfl ?_;refine sg rfl ?_;unfold bQ;by_cases he:z.e=0
 case neg=>
  rw[ξ (fun h=>he h.1)];rw[ψ he] at ho;refine aA (sk 1 rfl (kc ho ?_));exact ak 7 [(3,.bv true),(8,.bv true)] rfl (az (aB rfl (fun _=>sg rfl (aF rtT)) (fun hb=>absurd hb (by decide))))
 rw[φ he] at ho;refine aA (sk 1 rfl (kc ho ?_));refine ak 4 [(3,.bv false)] rfl (kcG hi ?_);refine ak 2 [(3,.bv false),(8,.bv false)] rfl (az ?_);cases u:isZ s z with
 | false=>
  rw[ξ (fun h=>by cases h.2)];exact aB rfl (fun _=>sg rfl (aF rtT)) (fun hb=>absurd hb (by decide))
 | true=>
  rw[θ ⟨he,rfl⟩];have q:isK s (b4 z)=true:=u;obtain⟨_,hn⟩:=h.tl (g q) z.e z.p;have y:=h.l;unfold zO;dsimp only;rw[hn];exact aB rfl (fun hb=>absurd hb (by decide)) (fun _=>aD (aA (agN [] rfl (sg rfl (aF rtT)))))
theorem fR {L:List Tk}{z:Z}(h:ZA L z) (s:Str):aU Tryz.prog 79 [xP,Go.AM.T s] [(700,zO L z)] (.tup []) [(700,zO L (aQ s z))]:=by
 have hm:=mP h s;have g:=eL L z 12 (b4 z).pl;have hn:=fU h;refine bC (n:=13) tok Tryz.func79 rfl rfl rfl ?_;refine sk 2 rfl (kc hm ?_);refine kz 1 rfl ?_;unfold aQ;cases hb:(bQ s z).1 with
 | true=>
  rw[θ rfl];exact aB rfl (fun hb=>absurd hb (by decide)) (fun _=>aD rtN)
 | false=>
  have e:(bQ s z).2=z:=by
   unfold bQ at hb ⊢;split
   ·rename_i hc;rw[θ hc] at hb;cases hb
   ·rfl
  rw[ξ (by decide),e];refine aB rfl (fun _=>aC mixed (ak 2 [] rfl (kc hn ?_))) (fun hb=>absurd hb (by decide));refine ak 1 [] rfl (kc g ?_);exact az rtN
theorem aGs {L:List Tk}{z:Z}(h:ZA L z) (k:Int) (y:¬k=6):aU Tryz.prog 122 [xP,I .i64 k] [(700,zO L z)] (tkV (b5 k z).1) [(700,zO L (b5 k z).2)]:=by
 have ho:=gZ L z;have q:=eL L z 12 (b4 z).pl;have hn:=fU h;have u:=h.tl;refine bC (n:=33) tok Tryz.func122 rfl rfl rfl ?_;refine sg rfl (sk 1 rfl (kc hn ?_));refine kz 2 rfl ?_;unfold b5;by_cases he:z.e=0
 case neg=>
  rw[ξ (fun h=>he h.1)];rw[ψ he] at ho;refine aA (sk 1 rfl (kc ho ?_));refine ak 7 [(3,.bv true),(8,.bv true)] rfl (az (aB rfl (fun _=>sk 3 rfl (kc q ?_)) (fun hb=>absurd hb (by decide))));exact az (sg rfl (aF (rtC trw)))
 rw[φ he] at ho;refine aA (sk 1 rfl (kc ho ?_));refine ak 7 [(3,.bv false),(8,.bv false)] rfl (az ?_);by_cases g:(b4 z).kind=k
 ·have d:(!decide ((b4 z).kind=k))=false:=by rw[φ g];rfl
  rw[θ ⟨he,g⟩];obtain⟨_,hn⟩:=u (by rw[g];exact y) z.e z.p;have A:=h.l;unfold zO;dsimp only;rw[hn];exact aB rfl (fun hb=>absurd (hb.symm.trans d) (by decide)) (fun _=>aD (aA (agN [] rfl (sg rfl (aF (rtC trw))))))
 ·have d:(!decide ((b4 z).kind=k))=true:=by rw[ψ g];rfl
  rw[ξ (fun h=>g h.2)];refine aB rfl (fun _=>sk 3 rfl (kc q ?_)) (fun hb=>absurd (hb.symm.trans d) (by decide));exact az (sg rfl (aF (rtC trw)))
theorem yL (L:List Tk) (z:Z) (n g:Nat) (q:Int):aU Tryz.prog 78 [xP,I .i64 (n:Nat),I .i64 (g:Nat),I .i64 q] [(700,zO L z)] (.tup []) [(700,zO L (cK n g q z))]:=by
 have u:=eL L z 2 q;refine bC (n:=14) tok Tryz.func78 rfl rfl rfl ?_;refine sg rfl ?_;unfold cK;refine aB rfl (fun hb=>?_) (fun hb=>?_)
 ·rw[θ (by have:=χ hb;omega)];refine aC mixed (ak 2 [] rfl (kc u ?_));exact az rtN
 ·rw[ξ (by have:=Ad hb;omega)];exact aD rtN
def cC:Str:=[59]
def dJ (s:Str) (z:Z):Bool:=if s=[] then decide ((b4 z).kind=6) else isZ s z
def moreA (shut:Str) (n:Nat) (z:Z):Z:=if 0<n∧z.e=0∧isZ cC z=false∧dJ shut z=false then bS 12 (b4 z).pl z else z
def cO (z:Z):Z:=if z.e=0 then⟨z.R.dropWhile (isK cC),z.e,z.p⟩ else z
def bJ (shut:Str) (n:Nat) (z:Z):Bool×Z:=
 if ¬(cO (moreA shut n z)).e=0∨dJ shut (cO (moreA shut n z))=true then(false,cO (moreA shut n z))
 else(decide ((cK (n+1) 60 (b4 (cO (moreA shut n z))).pl (cO (moreA shut n z))).e=0),cK (n+1) 60 (b4 (cO (moreA shut n z))).pl (cO (moreA shut n z)))
def aRq (z:Z):SR→Sch×Z
 | .ok (s,R')=>(s,⟨R',z.e,z.p⟩)
 | .error (e,p)=>(jP,⟨z.R,e,p⟩)
def bO (z:Z):Sch×Z:=if z.e=0 then aRq z (cI z.R) else(jP,z)
def aVv (z:Z):PR→List Prd×Z
 | .ok (s,R')=>(s,⟨R',z.e,z.p⟩)
 | .error (e,p)=>([],⟨z.R,e,p⟩)
def bT (z:Z):List Prd×Z:=if z.e=0 then aVv z (cU z.R) else([],z)
theorem aMj {R:List Tk}{s:Sch}{R':List Tk}(h:cI R=.ok (s,R')):(mY R→mY R')∧(∃p,R=p++R'∧1≤p.length)∧WF s.ty∧tn s.ty≤wt R∧(∀p∈s.preds,WF p.ty∧tn p.ty≤wt R)∧s.preds.length≤R.length∧s.vars=aQ8 s.preds s.ty:=by
 unfold cI at h;cases hp:cU R with
 | error e=>obtain⟨e,p⟩:=e;rw[hp,n9] at h;cases h
 | ok y=>
  obtain⟨ps,R1⟩:=y;rw[hp,n9] at h;obtain⟨u,⟨q,g,_⟩,A,B⟩:=kP hp;cases hw:c9 (3*R1.length+2) 0 R1 with
  | error e=>obtain⟨e,p⟩:=e;rw[hw,n8] at h;cases h
  | ok y=>
   obtain⟨x,R2⟩:=y;rw[hw,n8] at h;obtain⟨⟨E,⟨I,J,O⟩,M⟩,U⟩:=fD _ _ _ _ _ hw;cases h;have:wt R1≤wt R:=by rw[g];exact lV
   exact⟨fun he=>E (u he),⟨q++I,by rw[g,J,Am],by rw[ζ];omega⟩,M,by show tn x≤_;omega,A,B,rfl⟩
theorem ZA.scheme {L:List Tk}{z:Z}(h:ZA L z):ZA L (bO z).2:=by
 unfold bO;split
 ·cases hs:cI z.R with
  | error e=>obtain⟨e,p⟩:=e;exact h
  | ok y=>
   obtain⟨s,R'⟩:=y;obtain⟨h1,⟨p,h2,_⟩,_⟩:=aMj hs;exact h.suf h2 (h1 h.e) _ _
 ·exact h
theorem ZA.preds {L:List Tk}{z:Z}(h:ZA L z):ZA L (bT z).2:=by
 unfold bT;split
 ·cases hs:cU z.R with
  | error e=>obtain⟨e,p⟩:=e;exact h
  | ok y=>
   obtain⟨s,R'⟩:=y;obtain⟨h1,⟨p,h2,_⟩,_⟩:=kP hs;exact h.suf h2 (h1 h.e) _ _
 ·exact h
theorem rF (s:Str):∀{R:List Tk},mY R→mY (R.dropWhile (isK s))∧∃p,R=p++R.dropWhile (isK s)
 | [],h=>by obtain⟨t,R',e⟩:=h.ne;cases e
 | t::R,h=>by
  rw[B4];split
  ·rename_i hb;have g:=h.tail (iX hb);obtain⟨h1,p,h2⟩:=rF s g;exact⟨h1,t::p,by rw[A1,←h2]⟩
  ·exact⟨h,[],rfl⟩
theorem ZA.semi {L:List Tk}{z:Z}(h:ZA L z):ZA L (cO z):=by
 unfold cO;split
 ·obtain⟨h1,p,h2⟩:=rF cC h.e;exact h.suf h2 h1 _ _
 ·exact h
theorem ZA.moreA {L:List Tk}{z:Z}(h:ZA L z) (s:Str) (n:Nat):ZA L (moreA s n z):=by
 unfold Proofs.YtkhgpgihmphfdaaGreat.moreA;split
 ·exact h.fail _ _
 ·exact h
theorem ZA.more {L:List Tk}{z:Z}(h:ZA L z) (s:Str) (n:Nat):ZA L (bJ s n z).2:=by
 unfold bJ;split
 ·exact(h.moreA s n).semi
 ·exact(h.moreA s n).semi.long _ _ _
theorem aKr {L:List Tk}{z:Z}(he:z.e=0) (x:Ty) (ps vs:C) (R':List Tk):aU Tryz.prog 84 [xP,.pa (xA x ps vs ((L.length-R'.length:Nat):Int) 0 0)] [(700,zO L z)] (.pa (xA x ps vs ((L.length-R'.length:Nat):Int) 0 0)) [(700,zO L ⟨R',z.e,z.p⟩)]:=by
 have ho:=gZ L z;rw[φ he] at ho;refine bC (n:=25) tok Tryz.func84 rfl rfl rfl ?_;refine sg rfl (aA (sk 1 rfl (kc ho ?_)));exact kz 1 rfl (aB rfl (fun hb=>absurd hb (by decide)) (fun _=>aD (aA (sg rfl (aB rfl (fun hb=>absurd hb (by decide)) (fun _=>aD (sg rfl (sg rfl (aF (rtC trw))))))))))
theorem aG2 {L:List Tk}{z:Z}(he:z.e=0) (e p:Int) (g:¬e=0):aU Tryz.prog 84 [xP,.pa (xA zTy .nl .nl 0 e p)] [(700,zO L z)] (.pa (xA zTy .nl .nl 0 0 0)) [(700,zO L ⟨z.R,e,p⟩)]:=by
 have ho:=gZ L z;rw[φ he] at ho;have d:(!decide (e=0))=true:=by rw[ψ g];rfl
 refine bC (n:=25) tok Tryz.func84 rfl rfl rfl ?_;refine sg rfl (aA (sk 1 rfl (kc ho ?_)));exact kz 1 rfl (aB rfl (fun hb=>absurd hb (by decide)) (fun _=>aD (aA (sg rfl (aB rfl (fun _=>sg rfl (sg rfl (aF (rtC trw)))) (fun hb=>absurd (hb.symm.trans d) (by decide)))))))
theorem wD {L:List Tk}{z:Z}(h:ZA L z) (hwt:wt L≤30000):aU Tryz.prog 43 [xP] [(700,zO L z)] (.pa (mH (bO z).1)) [(700,zO L (bO z).2)]:=by
 have ho:=gZ L z;refine bC (n:=26) tok Tryz.func43 rfl rfl rfl ?_;refine sg rfl (aA (sk 1 rfl (kc ho ?_)));refine kz 1 rfl ?_;unfold bO;by_cases he:z.e=0
 case neg=>
  rw[ξ he];exact aB rfl (fun _=>sg rfl (aF (rtC trw))) (fun hb=>absurd hb (by simp[he]))
 rw[θ he];have u:=aHn L z.R _ h hwt;have g:= @n7 z.R;refine aB rfl (fun hb=>absurd hb (by simp[he])) (fun _=>aD (sk 9 rfl (kc u ?_)));generalize cI z.R=w at g ⊢;cases w with
 | error e=>
  obtain⟨e,p⟩:=e;have q:=aG2 (L:=L) he e p (g rfl);refine kc q ?_;exact kz 2 rfl (sg rfl (aF (rtC trw)))
 | ok y=>
  obtain⟨s,R'⟩:=y;have q:=aKr (L:=L) he s.ty (.sl 5 (s.preds.map aS)) (.sl 1 (s.vars.map aR)) R';rw[aMl];refine kc q ?_;exact kz 2 rfl (sg rfl (aF (rtC trw)))
theorem aG5 {L:List Tk}{z:Z}(h:ZA L z) (s:Str):aU Tryz.prog 123 [xP,Go.AM.T s] [(700,zO L z)] (B (dJ s z)) [(700,zO L z)]:=by
 have hn:=fU h;have hi:=aK1 h s;refine bC (n:=14) tok Tryz.func123 rfl rfl rfl ?_;refine sg rfl (aA (sg rfl ?_));unfold dJ;refine aB rfl (fun hb=>?_) (fun hb=>?_)
 ·rw[θ (χ hb)];refine sk 1 rfl (kc hn ?_);exact kz 3 rfl (aF rtT)
 ·rw[ξ (Ad hb)];refine aD (sk 2 rfl (kc hi ?_));exact kz 1 rfl (aF rtT)
theorem kU {L:List Tk}{z:Z}(h:ZA L z):cO (bQ cC z).2=cO z∧((bQ cC z).1=false→(bQ cC z).2=z∧cO z=z)∧((bQ cC z).1=true→(bQ cC z).2.R.length<z.R.length):=by
 obtain⟨R,e,p⟩:=z;obtain⟨t,R,rfl⟩:=h.e.ne;unfold bQ;split
 ·rename_i hc;have g:isK cC t=true:=hc.2;refine⟨?_,fun e=>Bool.noConfusion e,fun _=>by show R.length<(t::R).length;rw[Aa];omega⟩;unfold cO;have he:e=0:=hc.1;rw[θ he,θ he];show Z.mk (R.dropWhile _) _ _=Z.mk ((t::R).dropWhile _) _ _;rw[B4,θ g]
 ·rename_i hc;refine⟨rfl,fun _=>⟨rfl,?_⟩,fun e=>Bool.noConfusion e⟩;unfold cO;split
  ·rename_i he;have g:¬isK cC t=true:=fun g=>hc ⟨he,g⟩
   rw[show(Z.mk (t::R) e p).R.dropWhile (isK cC)=t::R from by show(t::R).dropWhile _=_;rw[B4,ξ g]]
  ·rfl
theorem aHa {L:List Tk}{z:Z}(h:ZA L z) (s:Str) (n:Nat) (hnl:n≤4001):aU Tryz.prog 81 [xP,Go.AM.T s,I .i64 (n:Nat)] [(700,zO L z)] (B (bJ s n z).1) [(700,zO L (bJ s n z).2)]:=by
 have ho:=gZ L z;have hi:=aK1 h cC;have hs:=aG5 h s;have hn:=fU h;have hf:=eL L z 12 (b4 z).pl;have M:=h.moreA s n;have g:∀y st,ZA L y→Sub (keys [(700,zO L z)]) (mk [(0,xP),(1,Go.AM.T s),(2,I .i64 (n:Nat))] [(700,zO L y)]) st→moreA s n z=y→
   AWp none Tryz.prog 48 (keys [(700,zO L z)]) (jN (jN (Tryz.f81.body.getD .skip))) st (fun ex st=>(ex=.normal∨ex=.ret)∧Fin tr.flat Tryz.f81 st [(700,zO L z)] (B (bJ s n z).1) [(700,zO L (bJ s n z).2)]):=fun y st h1 Y aa=>by
  refine AWp.sub Y ?_;unfold bJ;rw[aa];refine aA (aE (aL (fun q:Z=>mk [(0,xP),(1,Go.AM.T s),(2,I .i64 (n:Nat))] [(700,zO L q)]) (fun q=>ZA L q∧cO y=cO q) (fun q=>q.R.length) y ⟨h1,rfl⟩ sl ?_));rintro q ⟨h2,e2⟩;have hm:=mP h2 cC;obtain⟨m1,U,m3⟩:=kU h2;refine aA (sk 1 rfl (kc hm ?_));refine az ?_;have O:=h2.may cC;generalize bQ cC q=m at m1 U m3 O ⊢;obtain⟨b,z3⟩:=m;refine aB rfl (fun hb=>?_) (fun hb=>?_)
  ·have hb:b=true:=hb;exact aD (aE (aD ⟨z3,⟨O,e2.trans m1.symm⟩,m3 hb,sl⟩))
  ·have hb:b=false:=hb;have e3:cO y=z3:=by
    dsimp only at U;obtain⟨g1,g2⟩:=U hb;rw[e2,g2,g1]
   rw[e3];have h3:ZA L z3:=O;have A:=gZ L z3;have hs3:=aG5 h3 s;have hn3:=fU h3;have hl3:=yL L z3 (n+1) 60 (b4 z3).pl;refine aG ?_;by_cases E:z3.e=0
   case neg=>
    rw[θ (.inl E)];rw[ψ E] at A;refine aA (sk 1 rfl (kc A ?_));exact ak 6 [(3,.bv true),(7,.bv true)] rfl (az (aB rfl (fun _=>sg rfl (aF rtT)) (fun hb=>absurd hb (by decide))))
   rw[φ E] at A;refine aA (sk 1 rfl (kc A ?_));refine ak 4 [(3,.bv false)] rfl (kcG hs3 ?_);refine ak 1 [(3,.bv false),(7,.bv false)] rfl (az ?_);cases u:dJ s z3 with
   | true=>
    rw[θ (.inr rfl)];exact aB rfl (fun _=>sg rfl (aF rtT)) (fun hb=>absurd hb (by decide))
   | false=>
    rw[ξ (by rintro(h | h);exact h E;cases h)];refine aB rfl (fun hb=>absurd hb (by decide)) (fun _=>aD (aA (aC mixed (akN 4 [] rfl (kc hn3 ?_)))));refine ak 1 [] rfl (kc hl3 ?_);refine az ?_;have ho4:=gZ L (cK (n+1) 60 (b4 z3).pl z3);refine sk 1 rfl (kc ho4 ?_);exact kz 1 rfl (aF rtT)
 have hfz:=h.fail 12 (b4 z).pl;refine bC (n:=48) tok Tryz.func81 rfl rfl rfl ?_;refine sg rfl ?_;unfold moreA at M g;by_cases h0:0<n
 case neg=>
  have d0:decide ((0:Int)<(n:Int))=false:=ψ (by omega);rw[ξ (fun h=>h0 h.1)] at M g;exact aA (sgh [(2,.bv false),(5,.bv false),(6,.bv false),(10,.bv false),(11,.bv false),(16,.bv false)] rfl (aB rfl (fun hb=>absurd hb (by decide)) (fun _=>aD (g z _ h sl rfl))))
 have d0:decide ((0:Int)<(n:Int))=true:=φ (by omega);by_cases he:z.e=0
 case neg=>
  rw[ξ (fun h=>he h.2.1)] at M g;rw[ψ he] at ho;refine aA (skh 4 [(2,.bv true)] rfl (kcG ho ?_));exact ak 12 [(2,.bv true),(5,.bv true),(6,.bv false),(10,.bv false),(11,.bv false),(16,.bv false)] rfl (az (aB rfl (fun hb=>absurd hb (by decide)) (fun _=>aD (g z _ h sl rfl))))
 rw[φ he] at ho;cases J:isZ cC z with
 | true=>
  rw[ξ (fun h=>by rw[J] at h;cases h.2.2.1)] at M g;rw[J] at hi;refine aA (skh 4 [(2,.bv true)] rfl (kcG ho ?_));refine ak 3 [(2,.bv true),(5,.bv true),(6,.bv true)] rfl (kcG hi ?_);exact ak 9 [(6,.bv true),(10,.bv true),(11,.bv false),(16,.bv false)] rfl (az (aB rfl (fun hb=>absurd hb (by decide)) (fun _=>aD (g z _ h sl rfl))))
 | false=>
 rw[J] at hi;cases u:dJ s z with
 | true=>
  rw[ξ (fun h=>by rw[u] at h;cases h.2.2.2)] at M g;rw[u] at hs;refine aA (skh 4 [(2,.bv true)] rfl (kcG ho ?_));refine ak 3 [(2,.bv true),(5,.bv true),(6,.bv true)] rfl (kcG hi ?_);refine ak 5 [(6,.bv true),(10,.bv true),(11,.bv true)] rfl (kcG hs ?_);exact ak 2 [(11,.bv true),(16,.bv true)] rfl (az (aB rfl (fun hb=>absurd hb (by decide)) (fun _=>aD (g z _ h sl rfl))))
 | false=>
  rw[θ ⟨h0,he,J,u⟩] at M g;rw[u] at hs;refine aA (skh 4 [(2,.bv true)] rfl (kcG ho ?_));refine ak 3 [(2,.bv true),(5,.bv true),(6,.bv true)] rfl (kcG hi ?_);refine ak 5 [(6,.bv true),(10,.bv true),(11,.bv true)] rfl (kcG hs ?_);refine ak 2 [(11,.bv true),(16,.bv true)] rfl (az (aB rfl (fun _=>aC mixed (ak 2 [] rfl (kc hn ?_))) (fun hb=>absurd hb (by decide))));refine ak 1 [] rfl (kc hf ?_);exact az (g _ _ hfz sl rfl)
theorem ZA.len {L:List Tk}{z:Z}(h:ZA L z):z.R.length≤4001:=by
 have h1:=h.lt;have h2:=h.l;omega
theorem aA9 {L:List Tk}{z:Z}(h:ZA L z):aU Tryz.prog 77 [xP] [(700,zO L z)] (.one (.c (.sl 4 ((aZ z).1.map aI)))) [(700,zO L (aZ z).2)]:=by
 refine bC (n:=18) tok Tryz.func77 rfl rfl rfl ?_;refine sg rfl (sg rfl (AWp.sub (Sub.own (t:=3) (id:=500) 85 4 rfl rfl) ?_));refine aA (aE (aL (fun q:List Tk×Z=>mk [(0,xP),(3,.one (.hs 500 0 q.1.length q.1.length))] [(700,zO L q.2),(500,.arr 85 4 (q.1.map aI) 0)]) (fun q=>ZA L q.2∧q.1.length+q.2.R.length≤4001∧q.1++(aZ q.2).1=(aZ z).1∧(aZ q.2).2=(aZ z).2) (fun q=>q.2.R.length) ([],z) ⟨h,by dsimp only;have:=h.len;rw[length_nil];omega,rfl,rfl⟩ sl ?_));rintro⟨out,J⟩ ⟨g,hlen,E,I⟩;dsimp only at g hlen E I ⊢;rw[←E,←I];clear E I;have hout:(out.map aI).length=out.length:=κ _;have ho:=gZ L J;have hn:=fU g;have hw:=aGs g 1 (by decide);obtain⟨R,e,p⟩:=J;obtain⟨t,R,rfl⟩:=g.e.ne;by_cases he:e=0
 case neg=>
  rw[show decide ((Z.mk (t::R) e p).e=0)=false from ψ he] at ho;refine aA (sk 1 rfl (kc ho ?_));refine ak 6 [(2,.bv false),(7,.bv false)] rfl (az (aB rfl (fun hb=>absurd hb (by decide)) (fun _=>aG (AWp.sub (Sub.freeze (id:=500) rfl) ?_))));refine sg rfl ?_;unfold aZ;rw[ξ he,Az];exact aF (rtH (hsz:=hout.symm) (hlen:=hout.symm))
 rw[show decide ((Z.mk (t::R) e p).e=0)=true from φ he] at ho;have B:b4 (Z.mk (t::R) e p)=t:=rfl;rw[B] at hn;refine aA (sk 1 rfl (kc ho ?_));refine ak 2 [(2,.bv true)] rfl (kcG hn ?_);refine ak 3 [(2,.bv true),(7,.bv true)] rfl (az (aB rfl (fun hb=>?_) (fun hb=>?_)))
 ·have u:t.kind=1:=χ hb;have hl:qN t=true:=hb;have U:b5 1 (Z.mk (t::R) e p)=(t,⟨R,e,p⟩):=by unfold b5;rw[θ ⟨he,u⟩];rfl
  rw[U] at hw;have h2:ZA L ⟨R,e,p⟩:=(g.tl (by rw[B,u];decide) e p).1
  have M:aZ ⟨t::R,e,p⟩=(t::(aZ ⟨R,e,p⟩).1,(aZ ⟨R,e,p⟩).2):=by
   unfold aZ;rw[θ he,θ he];show((t::R).takeWhile qN,Z.mk ((t::R).dropWhile qN) _ _)=_;rw[takeWhile_cons,θ hl,B4,θ hl]
  have O:out.length+(R.length+1)≤4001:=hlen;refine aD (aE (aC mixed (ak 2 [] rfl (kc hw ?_))));refine ak 3 [(3,.all)] rfl (az ?_);have A:out.map aI++[aI t]=(out++[t]).map aI:=by rw[Ai];rfl
  have y:(out++[t]).length=out.length+1:=by rw[ζ];rfl
  refine⟨(out++[t],⟨R,e,p⟩),⟨h2,by dsimp only;rw[y];omega,by rw[M];simp,by rw[M]⟩,B2 _,?_⟩;exact sl (he:=⟨rfl,Go.AM.hs_ren (by rw[y,←hout];rfl) (by rw[y,←hout];rfl),trivial⟩) (hh:=⟨⟨_,rfl,.var rfl⟩,⟨_,rfl,.arrS A⟩,trivial⟩)
 ·have u:¬qN t=true:=fun h=>by rw[show qN t=false from hb] at h;cases h
  refine aG (AWp.sub (Sub.freeze (id:=500) rfl) ?_);refine sg rfl ?_;unfold aZ;rw[θ he];dsimp only;rw[takeWhile_cons,ξ u,Az,B4,ξ u];exact aF (rtH (hsz:=hout.symm) (hlen:=hout.symm))
structure Cn where
 name:Str
 pl:Int
 fields:List Ty
structure Dt where
 name:Str
 pl:Int
 vars:List Str
 cons:List Cn
def yD (c:Cn):List C:=[.str c.name,.int .i64 c.pl,.sl 4 (c.fields.map cF)]
def tD (d:Dt):List C:=[.str d.name,.int .i64 d.pl,.sl 1 (d.vars.map aR),.sl 1 [],.sl 3 (d.cons.map yD)]
def eqS:Str:=[61]
def aDg:Str:=[124]
def aUi (z:Z):Bool:=decide ((b4 z).kind=1) || (decide ((b4 z).kind=2) || isZ cE z)
def atZ (z:Z):TR→Ty×Z
 | .ok (x,R')=>(x,⟨R',z.e,z.p⟩)
 | .error (e,p)=>(zTy,⟨z.R,e,p⟩)
def gT (z:Z):Ty×Z:=atZ z (cP (3*z.R.length) 0 z.R)
def cQ:Nat→List Ty→Z→List Ty×Z
 | 0,out,z=>(out,z)
 | f+1,out,z=>if z.e=0∧aUi z=true then cQ f (out++[(gT z).1]) (gT z).2 else(out,z)
def tG (z:Z):Cn×Z:=
 (⟨(b5 2 z).1.text,(b5 2 z).1.pl,(cQ ((b5 2 z).2.R.length+1) [] (b5 2 z).2).1⟩,
  cK (cQ ((b5 2 z).2.R.length+1) [] (b5 2 z).2).1.length 8 (b5 2 z).1.pl (cQ ((b5 2 z).2.R.length+1) [] (b5 2 z).2).2)
def mK:Nat→Int→List Cn→Z→List Cn×Z
 | 0,_,out,z=>(out,z)
 | f+1,a,out,z=>
  if(bQ aDg (cK (out++[(tG z).1]).length 16 a (tG z).2)).1=true then mK f a (out++[(tG z).1]) (bQ aDg (cK (out++[(tG z).1]).length 16 a (tG z).2)).2
  else(out++[(tG z).1],(bQ aDg (cK (out++[(tG z).1]).length 16 a (tG z).2)).2)
def lO (z:Z):Tk×List Tk×Z:=((b5 2 z).1,(aZ (b5 2 z).2).1,aQ eqS (cK (aZ (b5 2 z).2).1.length 8 (b5 2 z).1.pl (aZ (b5 2 z).2).2))
def lP (h:Tk×List Tk×Z):List Cn×Z:=if h.2.2.e=0 then mK (h.2.2.R.length+1) h.1.pl [] h.2.2 else([],h.2.2)
def oE (z:Z):Dt×Z:=(⟨(lO z).1.text,(lO z).1.pl,(lO z).2.1.map (·.text),(lP (lO z)).1⟩,(lP (lO z)).2)
def Ze (z z':Z):Prop:=z'.R.length≤z.R.length
theorem Ze.refl (z:Z):Ze z z:=le_refl _
theorem Ze.trans {a b c:Z}(h:Ze a b) (k:Ze b c):Ze a c:=le_trans k h
theorem Ze.fail (e p:Int) (z:Z):Ze z (bS e p z):=by unfold Ze;rw[nJ];exact le_refl _
theorem Ze.may (s:Str) (z:Z):Ze z (bQ s z).2:=by
 unfold Ze bQ;split
 ·show z.R.tail.length≤_;rw[length_tail];omega
 ·exact le_refl _
theorem Ze.need (s:Str) (z:Z):Ze z (aQ s z):=by
 unfold aQ;split
 ·exact Ze.may s z
 ·exact Ze.fail _ _ z
theorem Ze.word (k:Int) (z:Z):Ze z (b5 k z).2:=by
 unfold b5;split
 ·show z.R.tail.length≤_;rw[length_tail];omega
 ·exact Ze.fail _ _ z
theorem Ze.long (n g:Nat) (a:Int) (z:Z):Ze z (cK n g a z):=by
 unfold cK;split
 ·exact Ze.fail _ _ z
 ·exact Ze.refl z
theorem kG {α:Type}(p:α→Bool):∀l:List α,(l.dropWhile p).length≤l.length
 | []=>le_refl _
 | a::l=>by
  rw[B4];split
  ·have:=kG p l;rw[Aa];omega
  ·exact le_refl _
theorem nR {α:Type}(p:α→Bool):∀l:List α,(l.takeWhile p).length≤l.length
 | []=>le_refl _
 | a::l=>by
  rw[takeWhile_cons];split
  ·have:=nR p l;rw[Aa,Aa];omega
  ·exact Ac _
theorem Ze.words (z:Z):Ze z (aZ z).2:=by
 unfold aZ;split
 ·exact kG _ _
 ·exact Ze.refl z
theorem ZA.wt {L:List Tk}{z:Z}(h:ZA L z):wt z.R≤wt L:=by
 have e:L.take (L.length-z.R.length)++z.R=L:=by
  have:=take_append_drop (L.length-z.R.length) L;rwa [h.d] at this
 have:=lV (p:=L.take (L.length-z.R.length)) (R:=z.R);rwa [e] at this
theorem ZA.lp {L:List Tk}{z:Z}(h:ZA L z):1≤z.R.length:=h.lt.2
theorem aBv {L:List Tk}{z:Z}(h:ZA L z):ZA L (gT z).2∧WF (gT z).1∧tn (gT z).1≤wt z.R∧((gT z).2.e=0→(gT z).2.R.length<z.R.length)∧Ze z (gT z).2:=by
 unfold gT;have hok:=gS (3*z.R.length) 0 z.R;have g:=eN (3*z.R.length) 0 z.R;generalize cP (3*z.R.length) 0 z.R=w at hok g ⊢;cases w with
 | error e=>
  obtain⟨e,p⟩:=e;have:=g e p rfl;refine⟨h,⟨rfl,rfl⟩,?_,fun h0=>absurd h0 this,Ze.refl z⟩;show tn zTy≤_;obtain⟨t,R',q⟩:=h.e.ne;rw[q,cB];have:tn zTy=1:=by unfold zTy;rw[tn,tns];rfl
  omega
 | ok y=>
  obtain⟨x,R'⟩:=y;obtain⟨⟨h1,⟨p,h2,A⟩,u⟩,B⟩:=hok x R' rfl;have hl:R'.length<z.R.length:=by rw[h2,ζ];omega
  exact⟨h.suf h2 (h1 h.e) _ _,u,by show tn x≤_;omega,fun _=>hl,Ct hl⟩
theorem rE {L:List Tk}:∀(f:Nat) (out:List Ty) (z:Z),ZA L z→(∀x∈out,WF x∧tn x≤wt L)→out.length+z.R.length≤4001→
  ZA L (cQ f out z).2∧(∀x∈(cQ f out z).1,WF x∧tn x≤wt L)∧Ze z (cQ f out z).2∧(cQ f out z).1.length≤4002
 | 0,out,z,h,ho,hl=>⟨h,ho,Ze.refl z,by rw[cQ];dsimp only;omega⟩
 | f+1,out,z,h,ho,hl=>by
  rw[cQ];split
  ·rename_i hc;obtain⟨q,y,Y,A,u⟩:=aBv h;have O:=h.wt;have g:∀x∈out++[(gT z).1],WF x∧tn x≤wt L:=fun x hx=>by
    rcases Ba.1 hx with hx | hx
    ·exact ho x hx
    ·rw[As.1 hx];exact⟨y,by omega⟩
   by_cases he:(gT z).2.e=0
   ·have U:=A he;obtain⟨B,E,I,J⟩:=rE f (out++[(gT z).1]) (gT z).2 q g (by rw[ζ,Bg];omega);exact⟨B,E,u.trans I,J⟩
   ·have M:cQ f (out++[(gT z).1]) (gT z).2=(out++[(gT z).1],(gT z).2):=by
     cases f with
     | zero=>rfl
     | succ f=>rw[cQ,ξ (fun h=>he h.1)]
    rw[M];exact⟨q,g,u,by rw[ζ,Bg];have:=h.lp;omega⟩
  ·exact⟨h,ho,Ze.refl z,by dsimp only;omega⟩
theorem nW {f:Nat}{out:List Ty}{z:Z}(h:¬(z.e=0∧aUi z=true)):cQ f out z=(out,z):=by
 cases f with
 | zero=>rfl
 | succ f=>rw[cQ,ξ h]
inductive Pt where
 | mk (form pl n:Int) (name:Str) (kids:List Pt)
def Pt.form:Pt→Int | .mk f _ _ _ _=>f
def Pt.pl:Pt→Int | .mk _ p _ _ _=>p
def Pt.n:Pt→Int | .mk _ _ n _ _=>n
def Pt.name:Pt→Str | .mk _ _ _ s _=>s
def Pt.kids:Pt→List Pt | .mk _ _ _ _ l=>l
mutual
def qO:Pt→List (List C)
 | .mk _ _ _ _ l=>vU l
def vU:List Pt→List (List C)
 | []=>[]
 | p::l=>[.int .i64 p.form,.int .i64 p.pl,.int .i64 p.n,.str p.name,.sl 10 (qO p),.int .i64 0,.int .i64 0,.str [],.sl 4 [],.sl 4 []]::vU l
end
def bK (p:Pt):List C:=[.int .i64 p.form,.int .i64 p.pl,.int .i64 p.n,.str p.name,.sl 10 (qO p),.int .i64 0,.int .i64 0,.str [],.sl 4 [],.sl 4 []]
theorem rG:∀l:List Pt,vU l=l.map bK
 | []=>by simp[vU]
 | p::l=>by rw[vU,rG l];rfl
theorem j4 (p:Pt):qO p=p.kids.map bK:=by cases p;rw[qO,rG];rfl
def zPt:Pt:=.mk 0 0 0 [] []
def xG:Str:=[95]
def jD (t:Tk):Int:=if t.kind=1 then 2 else if t.kind=2 then 4 else 3
def gI (t:Tk):Str:=if t.kind=3 then [] else t.text
def tlZ (z:Z):Z:=⟨z.R.tail,z.e,z.p⟩
mutual
def b8:Nat→Nat→Z→(Pt×Bool)×Z
 | 0,_,z=>((zPt,false),z)
 | f+1,o,z=>
  if ¬z.e=0 then((zPt,false),z)
  else if 0<(b4 z).kind∧(b4 z).kind<4 then((.mk (jD (b4 z)) (b4 z).pl (b4 z).n (gI (b4 z)) [],true),tlZ z)
  else if(bQ xG z).1=true then((.mk 1 (b4 z).pl 0 [] [],true),(bQ xG z).2)
  else if isZ cE z=false then((zPt,false),z)
  else if 40≤o then((zPt,false),bS 13 (b4 z).pl z)
  else(((fS f (o+1) (aQ cE z)).1,true),aQ lZ (fS f (o+1) (aQ cE z)).2)
def fS:Nat→Nat→Z→Pt×Z
 | 0,_,z=>(zPt,bS 12 0 z)
 | f+1,o,z=>
  if(b8 f o z).1.2=false then(zPt,bS 12 (b4 z).pl (b8 f o z).2)
  else if(b4 z).kind=2∧z.e=0 then(.mk 4 (b4 z).pl (b4 z).n (b4 z).text (dY f o [] (tlZ z)).1,(dY f o [] (tlZ z)).2)
  else(b8 f o z).1.1 |>fun p=>(p,(b8 f o z).2)
def dY:Nat→Nat→List Pt→Z→List Pt×Z
 | 0,_,out,z=>(out,z)
 | f+1,o,out,z=>
  if z.e=0 then(if(b8 f o z).1.2=false then(out,(b8 f o z).2) else dY f o (out++[(b8 f o z).1.1]) (b8 f o z).2)
  else(out,z)
end
mutual
def ptB:Pt→Prop
 | .mk _ _ _ _ l=>l.length≤4002∧x8 l
def x8:List Pt→Prop
 | []=>True
 | p::l=>ptB p∧x8 l
end
theorem oI:∀{l:List Pt}{p:Pt},x8 l→ptB p→x8 (l++[p])
 | [],_,_,h=>⟨h,trivial⟩
 | _::_,_,h,k=>⟨h.1,oI h.2 k⟩
theorem ZA.tlp {L:List Tk}{z:Z}(h:ZA L z) (g:¬(b4 z).kind=6):ZA L (tlZ z):=(h.tl g z.e z.p).1
theorem eS {L:List Tk}{z:Z}(h:ZA L z) {s:Str}(hb:(bQ s z).1=true):(bQ s z).2.R.length<z.R.length:=by
 unfold bQ at hb ⊢;split
 ·have:=h.lp;show z.R.tail.length<_;rw[length_tail];omega
 ·rename_i hc;rw[ξ hc] at hb;cases hb
theorem gX (s:Str) (z:Z):(bQ s z).2.e=z.e:=by unfold bQ;split<;>rfl
theorem xU {L:List Tk}{z:Z}(h:ZA L z) {s:Str}(hb:(aQ s z).e=0):(aQ s z).R.length<z.R.length:=by
 unfold aQ at hb ⊢;split
 ·rename_i hm;exact eS h hm
 ·rename_i hm;rw[ξ hm] at hb;unfold bS at hb;split at hb
  ·cases hb
  ·rename_i hc;exact absurd hb hc
theorem aW {s:Str}{z:Z}(hb:(aQ s z).e=0):z.e=0:=by
 unfold aQ at hb;split at hb
 ·rw[gX] at hb;exact hb
 ·unfold bS at hb;split at hb
  ·assumption
  ·exact hb
theorem cW {e p:Int}(he:¬e=0) {z:Z}(hb:(bS e p z).e=0):False:=by
 unfold bS at hb;split at hb
 ·exact he hb
 ·rename_i h;exact h hb
theorem aFn {s:Str}{z:Z}(he:z.e=0) (h:isZ s z=true):aQ s z=tlZ z:=by
 have hm:bQ s z=(true,tlZ z):=by unfold bQ;rw[θ ⟨he,h⟩];rfl
 unfold aQ;rw[hm];exact θ rfl
theorem oX {L:List Tk}{z:Z}(h:ZA L z):(tlZ z).R.length<z.R.length:=by
 have:=h.lp;show z.R.tail.length<_;rw[length_tail];omega
def aWp (L:List Tk) (f:Nat):Prop:=∀o z,ZA L z→ZA L (b8 f o z).2∧ptB (b8 f o z).1.1∧((b8 f o z).1.2=true→(b8 f o z).2.e=0→(b8 f o z).2.R.length<z.R.length)∧Ze z (b8 f o z).2
def aXc (L:List Tk) (f:Nat):Prop:=∀o z,ZA L z→ZA L (fS f o z).2∧ptB (fS f o z).1∧((fS f o z).2.e=0→(fS f o z).2.R.length<z.R.length)∧Ze z (fS f o z).2
def aWt (L:List Tk) (f:Nat):Prop:=∀o out z,ZA L z→x8 out→(z.e=0→out.length+z.R.length≤4001)→out.length≤4002→ZA L (dY f o out z).2∧x8 (dY f o out z).1∧(dY f o out z).1.length≤4002∧Ze z (dY f o out z).2
theorem bH {s:Str}{z:Z}(h:¬z.e=0):aQ s z=z:=by
 have hm:bQ s z=(false,z):=by unfold bQ;rw[ξ (fun k=>h k.1)]
 unfold aQ;rw[hm];rw[ξ ω];unfold bS;rw[ξ h]
theorem sG:ptB zPt:=⟨Ac _,trivial⟩
theorem sV {k:Int}(h:0<k∧k<4):¬k=6:=by omega
theorem eV (L:List Tk):∀f,aWp L f∧aXc L f∧aWt L f:=by
 intro f
 induction f with
 | zero=>
  refine⟨fun o z h=>?_,fun o z h=>?_,fun o out z h hb hl u=>?_⟩
  ·rw[b8];exact⟨h,sG,fun e=>Bool.noConfusion e,Ze.refl z⟩
  ·rw[fS];exact⟨h.fail _ _,sG,fun e=>(cW (by decide) e).elim,Ze.fail _ _ _⟩
  ·rw[dY];exact⟨h,hb,u,Ze.refl z⟩
 | succ f ih=>
  obtain⟨B,aa,E⟩:=ih;refine⟨fun o z h=>?_,fun o z h=>?_,fun o out z h hb hl u=>?_⟩
  ·rw[b8];split
   ·exact⟨h,sG,fun e=>Bool.noConfusion e,Ze.refl z⟩
   rename_i he;split
   ·rename_i J;have:=oX h;exact⟨h.tlp (sV J),⟨Ac _,trivial⟩,fun _ _=>this,Ct this⟩
   split
   ·rename_i hm;exact⟨h.may _,⟨Ac _,trivial⟩,fun _ _=>eS h hm,Ze.may _ _⟩
   split
   ·exact⟨h,sG,fun e=>Bool.noConfusion e,Ze.refl z⟩
   split
   ·exact⟨h.fail _ _,sG,fun e=>Bool.noConfusion e,Ze.fail _ _ _⟩
   ·obtain⟨g,y,A,q⟩:=aa (o+1) (aQ cE z) (h.need _);refine⟨g.need _,y,fun _ e=>?_,((Ze.need cE z).trans q).trans (Ze.need _ _)⟩;have a1:=xU g e;have a2:(fS f (o+1) (aQ cE z)).2.R.length≤z.R.length:=(Ze.need cE z).trans q;exact A6 a1 a2
  ·rw[fS];obtain⟨g,y,A,q⟩:=B o z h;split
   ·exact⟨g.fail _ _,sG,fun e=>(cW (by decide) e).elim,q.trans (Ze.fail _ _ _)⟩
   rename_i hs;have hs:(b8 f o z).1.2=true:=by simpa using hs
   split
   ·rename_i J;have ht:=oX h;obtain⟨M,O,U,Y⟩:=E o [] (tlZ z) (h.tlp (by rw[J.1];decide)) trivial (fun _=>by have:=h.len;rw[length_nil];omega) (Ac _);have I:(dY f o [] (tlZ z)).2.R.length≤(tlZ z).R.length:=Y;exact⟨M,⟨U,O⟩,fun _=>Bt I ht,Ct (Bt I ht)⟩
   ·exact⟨g,y,A hs,q⟩
  ·rw[dY];split
   ·rename_i he;obtain⟨g,y,A,q⟩:=B o z h;split
    ·exact⟨g,hb,u,q⟩
    rename_i hs;have hs:(b8 f o z).1.2=true:=by simpa using hs
    have hl:=hl he;have hlp:=h.lp;have hle:(out++[(b8 f o z).1.1]).length=out.length+1:=by rw[ζ];rfl
    obtain⟨M,O,U,Y⟩:=E o (out++[(b8 f o z).1.1]) (b8 f o z).2 g (oI hb y) (fun e=>by have:=A hs e;omega) (by omega);exact⟨M,O,U,q.trans Y⟩
   ·exact⟨h,hb,u,Ze.refl z⟩
end Go.Proofs.YtkhgpgihmphfdaaGreat
