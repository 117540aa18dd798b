/-
  Texts Am42 to Lm6 in one.
-/
import Derived.Test.YtglfogjcijokpaaGreatDoorM11
import Derived.Shelf.Strconv.Itoa3
import Derived.Lib.LaidTab
open List (drop_eq_getElem_cons drop_length drop_zero length_append length_cons length_eq_one_iff length_eq_zero_iff length_map length_pos_of_mem length_set length_take map_append map_cons map_nil mem_append mem_cons mem_cons_of_mem mem_cons_self mem_map mem_or_eq_of_mem_set mem_singleton set_cons_succ set_cons_zero sum_cons sum_nil take_add_one take_length take_of_length_le)
open Nat (add_mul le_refl le_trans lt_of_lt_of_le mul_add mul_comm mul_le_mul mul_le_mul_left mul_le_mul_right mul_left_comm mul_one succ_mul zero_add zero_le)
namespace Go.AM
open Go
section
variable {fn:Func}{st:St}{hin hout:List (Nat×AObj)}{res res2 res3:V}
theorem fM {tr:Tr}{a t u:Nat}{i:TI}{id off tv:Nat}{cells:List R}{v v2:V}{ids q:List Nat}(hw:tr.wf=true) (J:fn.results.toList=[.cell a t,.tmp u]:=by rfl) (hi:tr.get t=some i:=by rfl) (ha:st.e a=some (.one (.vp id off)):=by rfl) (hh:st.h id=some (.var tv cells):=by rfl) (hb:Nat.ble (off+i.size) cells.length=true:=by rfl) (O:rB i ((cells.drop off).take i.size)=some v:=by rfl) (hu:st.e u=some v2:=by rfl)
  (hc:Conv st.h ids v res:=by first | exact .refl | exact .one (.c .nl .nil) | ((first | apply Go.AM.Conv.pa | apply Go.AM.Conv.agg);repeat (first | exact .nil | apply Go.AM.PureL.c .refl | apply Go.AM.PureL.c .nl | (apply Go.AM.PureL.hs;rfl;(first | rfl | assumption | simp);(first | rfl | exact Go.AM.take_all (by first | assumption | rfl | (simp;done)) | exact Go.AM.take_map.symm)))))
  (I:Conv st.h q v2 res2:=by exact .refl)
  (W:eJ (fun p=>∃o,st.h p.1=some o∧Ole (fun i=>i) o p.2) hout:=by repeat (first | exact trivial | refine⟨⟨_,rfl,by first | exact Go.AM.Ole.arr | exact Go.AM.Ole.var rfl | exact Go.AM.Ole.varS rfl⟩,?_⟩))
  (hok:(subset (V.tup [res,res2]).refs (keys hout)&&subset (dO hout) (keys hout)&&distinct (keys hout)&&subset (keys hin) (keys hout)&&(hin.all fun p=>p.2.plain)&&(hout.all fun p=>p.2.plain))=true:=by rfl):(Exit.ret=.normal∨Exit.ret=.ret)∧Fin tr.flat fn st hin (.tup [res,res2]) hout:=
 ⟨.inr rfl,⟨[v,v2],[res,res2],by rw[J];exact .cell ha (Tr.get_ok hw hi) hh hb O (.tmp hu .nil),.cons hc (.cons I .nil),rfl⟩,W,hok⟩
theorem a4s {tr:Tr}{a t u J:Nat}{i:TI}{id off tv:Nat}{cells:List R}{v v2 v3:V}{ids q I:List Nat}(hw:tr.wf=true) (Z:fn.results.toList=[.cell a t,.tmp u,.tmp J]:=by rfl) (hi:tr.get t=some i:=by rfl) (ha:st.e a=some (.one (.vp id off)):=by rfl) (hh:st.h id=some (.var tv cells):=by rfl) (hb:Nat.ble (off+i.size) cells.length=true:=by rfl) (hv:rB i ((cells.drop off).take i.size)=some v:=by rfl) (hu:st.e u=some v2:=by rfl) (O:st.e J=some v3:=by rfl)
  (hc:Conv st.h ids v res:=by first | exact .refl | exact .one (.c .nl .nil) | ((first | apply Go.AM.Conv.pa | apply Go.AM.Conv.agg);repeat (first | exact .nil | apply Go.AM.PureL.c .refl | apply Go.AM.PureL.c .nl | (apply Go.AM.PureL.hs;rfl;(first | rfl | assumption | simp);(first | rfl | exact Go.AM.take_all (by first | assumption | rfl | (simp;done)) | exact Go.AM.take_map.symm)))))
  (W:Conv st.h q v2 res2:=by exact .refl) (Y:Conv st.h I v3 res3:=by exact .refl)
  (ho:eJ (fun p=>∃o,st.h p.1=some o∧Ole (fun i=>i) o p.2) hout:=by repeat (first | exact trivial | refine⟨⟨_,rfl,by first | exact Go.AM.Ole.arr | exact Go.AM.Ole.var rfl | exact Go.AM.Ole.varS rfl⟩,?_⟩))
  (hok:(subset (V.tup [res,res2,res3]).refs (keys hout)&&subset (dO hout) (keys hout)&&distinct (keys hout)&&subset (keys hin) (keys hout)&&(hin.all fun p=>p.2.plain)&&(hout.all fun p=>p.2.plain))=true:=by rfl):(Exit.ret=.normal∨Exit.ret=.ret)∧Fin tr.flat fn st hin (.tup [res,res2,res3]) hout:=
 ⟨.inr rfl,⟨[v,v2,v3],[res,res2,res3],by rw[Z];exact .cell ha (Tr.get_ok hw hi) hh hb hv (.tmp hu (.tmp O .nil)),.cons hc (.cons W (.cons Y .nil)),rfl⟩,ho,hok⟩
end
end Go.AM
namespace Go.Proofs.YtglfogjcijokpaaGreatDoor
open Go Go.AM
set_option maxRecDepth 20000
set_option maxHeartbeats 4000000
structure Fld where
 name:Str
 tag:Int
 many:Int
 arity:Int
 ty:Ty
def aCa (x:Fld):List C:=[.str x.name,.int .i64 x.tag,.int .i64 x.many,.int .i64 x.arity]++bH x.ty
structure Mod where
 fields:List Fld
 binds:List Bind
def nU (m:Mod):List C:=[.sl 8 (m.fields.map aCa),.sl 15 (m.binds.map b8)]
abbrev CE:Type:=Core×Int
def dP (p:CE):V:=.tup [.pa (aB p.1),I .i64 p.2]
def jT (sh:Bool) (p:CE) (g:Core→Core):CE:=if sh then(zC,51) else if p.2=0 then(g p.1,0) else(zC,p.2)
noncomputable def eV (a:Alt) (c:Core):Option Core:=
 if a.form=3 then some a.body
 else if a.form=2 then(if c.form=3∧c.n=a.n then some a.body else none)
 else match gvC c with
  | some (s,l)=>if s=a.name∧l.length=a.vars.length then some (uV a.body a.vars l) else none
  | none=>none
def j4 (c:Core) (i:Nat) (r:Core):Core:=match c with | .mk f n s t ks bs al=>.mk f n s t (ks.set i r) bs al
def qY (st:Core→CE) (c:Core) (i:Nat):CE:=match c.kids[i]? with
 | some x=>jT (shC x) (st x) (j4 c i)
 | none=>(zC,51)
def fK (bs:List Bind) (b:Bind):Core:=.mk 8 0 [] zTy [b.body] bs []
noncomputable def dT (bd:List Bind):Nat→Core→CE
 | 0,_=>(zC,51)
 | k+1,c=>
  let hd:=c.kids.headD zC
  if c.form=1 then(match bd.find? fun b=>decide (b.name=c.name) with | some b=>(b.body,0) | none=>(zC,51))
  else if c.form=4∨c.form=6 then
   (if c.form=4∧hd.form=5 then(bW (m30 (hd.kids.headD zC)) (hd.kids.headD zC) hd.name (c.kids.getD 1 zC),0)
   else if c.form=6∧hd.form=7 then(sTR (m30 (hd.kids.headD zC)) (hd.kids.headD zC) hd.name c.ty,0)
   else qY (dT bd k) c 0)
  else if c.form=8 then(uV hd (c.binds.map Bind.name) (c.binds.map (fK c.binds)),0)
  else if c.form=9 then(if shC hd then(match c.alts.findSome? fun a=>eV a hd with | some r=>(r,0) | none=>(zC,52)) else qY (dT bd k) c 0)
  else if c.form=10 then
   (if ¬shC hd then qY (dT bd k) c 0
   else if ¬shC (c.kids.getD 1 zC) then qY (dT bd k) c 1
   else if hd.form=3∧(c.kids.getD 1 zC).form=3 then dM c.name hd.n (c.kids.getD 1 zC).n
   else(zC,51))
  else if c.form=11 then(zC,52)
  else(zC,51)
theorem aLt {α:Type}(g:α→List C) (l:List α) (i:Nat) (x:α):(l.map g).set i (g x)=(l.set i x).map g:=by
 induction l generalizing i with
 | nil=>rfl
 | cons y l q=>cases i with
  | zero=>rfl
  | succ i=>show g y::(l.map g).set i (g x)=g y::(l.set i x).map g;rw[q]
theorem a3t (f n:Int) (s:Str) (t:Ty) (ks:List Core) (bs:List Bind) (al:List Alt) (i:Nat) (r:Core) (hi:i<ks.length) (hk:ks.length≤600000000000):
  aU Tryz.prog 150 ([.pa (aB r)]++[R.vp 4 0,R.vp 5 0].map V.one) [(4,.var 34 (b7 (.mk f n s t ks bs al))),(5,.var 3 [.c (.int .i64 i)])] (.pa (aB (.mk f n s t (ks.set i r) bs al))) [(4,.var 34 (b7 (.mk f n s t (ks.set i r) bs al))),(5,.var 3 [.c (.int .i64 i)])]:=by
 have I:(aR ks).length=ks.length:=by rw[bD,ζ]
 have J:=lE (aR ks) (by omega);have q:(aR ks).set i (aB r)=aR (ks.set i r):=by rw[bD,bD,aLt]
 have O:(aR (ks.set i r)).length=ks.length:=by rw[bD,ζ,Cd]
 obtain⟨x,hx⟩:=aL hi;have W:(aR ks)[i]?=some (aB x):=by rw[bD];exact bM aB hx
 refine bL (n:=15) tok Tryz.func150 rfl rfl rfl ?_;refine sgh [(0,.id 3),(1,.id 6)] rfl (sk 2 rfl (kc J ?_));refine kz 2 rfl (sgh [(5,.row i (aB x))] rfl (AWp.sub (Sub.freeze (id:=702) rfl) ?_));refine AWp.sub (Sub.varPure (x:=4) (cs:=aB (.mk f n s t (ks.set i r) bs al)) rfl (.c .refl (.c .refl (.c .refl (.c .refl (.c .refl (.c .refl (.c .refl (.hs rfl (by rw[Cd]) (by rw[B4];show aR (ks.set i r)=List.take (aR ks).length ((aR ks).set i (aB r));rw[q,Ax];rw[O,I];exact le_refl _) (.c .refl (.c .refl .nil))))))))))) ?_;exact sg rfl (aF (rtC trw))
def kO (c:Core) (i:Nat):List (Nat×AObj):=[(4,.var 34 (b7 c)),(5,.var 3 [.c (.int .i64 i)])]
def nQ (sh:Bool) (p:CE) (c:Core) (i:Nat):Core:=if sh then c else if p.2=0 then j4 c i p.1 else c
theorem aS5 (m:Mod) (X:Nat) (c x:Core) (i:Nat) (p:CE) (hi:i<c.kids.length) (hk:c.kids.length≤600000000000) (Z:bE (QL X) x) (O:aV x≤570000000000) (q:shC x=false→aU Tryz.prog 31 [.pa (nU m),.pa (aB x)] [] (dP p) []):
  aU Tryz.prog 149 [.pa (nU m),.pa (aB x),.one (.clo 150 [.vp 4 0,.vp 5 0])] (kO c i) (dP (jT (shC x) p (j4 c i))) (kO (nQ (shC x) p c i) i):=by
 have W:=aE1 X x Z O;unfold kO;refine bL (n:=26) tok Tryz.func149 rfl rfl rfl ?_;refine sgh [(0,.id 13),(1,.id 14),(2,.id 16)] rfl (a8 (sk 1 rfl (kc W ?_)));refine az ?_;cases hS:shC x with
 | true=>
  exact aA rfl (fun _=>sg rfl (aF (fM trw))) nofun
 | false=>
  have q:=q hS;refine aA rfl nofun (fun _=>aD (sk 2 rfl (kc q ?_)));refine kz 6 rfl (a8 (sg rfl (aA rfl (fun hb=>?_) (fun hb=>?_))))
  ·have he:¬p.2=0:=by
    intro h;have hb:(!decide (p.2=0))=true:=hb;rw[Af h] at hb;cases hb
   have I:jT false p (j4 c i)=(zC,p.2):=by unfold jT;rw[ψ Ao,ψ he]
   have J:nQ false p c i=c:=by unfold nQ;rw[ψ Ao,ψ he]
   rw[I,J];exact sg rfl (aF (fM trw))
  ·have he:p.2=0:=by
    have hb:(!decide (p.2=0))=false:=hb;by_cases h:p.2=0
    ·exact h
    ·rw[Ae h] at hb;cases hb
   have I:jT false p (j4 c i)=(j4 c i p.1,0):=by unfold jT;rw[ψ Ao,ξ he]
   have J:nQ false p c i=j4 c i p.1:=by unfold nQ;rw[ψ Ao,ξ he]
   rw[I,J];obtain⟨f,n,s,t,ks,bs,al⟩:=c;have Y:=a3t f n s t ks bs al i p.1 hi hk;refine aD (sk 2 rfl (kv (args:=[.pa (aB p.1)]) Y ?_));exact kz 2 rfl (aF (fM trw))
theorem a6l (m:Mod) (X:Nat) (c x:Core) (i:Nat) (st:Core→CE) (hx:c.kids[i]?=some x) (hk:c.kids.length≤600000000000) (O:bE (QL X) x) (q:aV x≤570000000000) (J:shC x=false→aU Tryz.prog 31 [.pa (nU m),.pa (aB x)] [] (dP (st x)) []):
  aU Tryz.prog 124 [.pa (nU m),.pa (aB c),I .i64 i] [] (dP (qY st c i)) []:=by
 have hi:i<c.kids.length:=(τ.1 hx).1
 have hw:=aS5 m X c x i (st x) hi hk O q J;have W:(aR c.kids)[i]?=some (aB x):=by rw[bD];exact bM aB hx
 have he:qY st c i=jT (shC x) (st x) (j4 c i):=by unfold qY;rw[hx]
 rw[he];obtain⟨f,n,s,t,ks,bs,al⟩:=c;unfold kO at hw;refine bL (n:=18) tok Tryz.func124 rfl rfl rfl ?_;refine sg rfl (skh 7 [(4,.row i (aB x))] rfl (kc hw ?_));exact kz 4 rfl (aF (fM trw))
theorem a7r (a b:Int) (hb:¬b=0):aU Tryz.prog 87 [I .i64 a,I .i64 b] [] (I .i64 (IntKind.i64.wrap (a.tdiv b))) []:=by
 have e:aZ8 .quo a b=some (IntKind.i64.wrap (a.tdiv b)):=by unfold aZ8;exact ψ hb
 refine bL (n:=8) tok Tryz.func87 rfl rfl rfl ?_;refine sg rfl (sk 2 rfl (kw (IntKind.i64.wrap (a.tdiv b)) e ?_));exact kz 1 rfl (aF rtT)
theorem a7q (b:Int):aU Tryz.prog 88 [I .i64 b] [] (B (decide (b=0))) []:=by
 refine bL (n:=5) tok Tryz.func88 rfl rfl rfl ?_;exact sg rfl (sg rfl (aF rtT))
theorem a7p (a b:Int):aU Tryz.prog 89 [I .i64 a,I .i64 b] [] (I .i64 (IntKind.i64.wrap (a+b))) []:=by
 refine bL (n:=8) tok Tryz.func89 rfl rfl rfl ?_;refine sg rfl (sk 2 rfl (kw (IntKind.i64.wrap (a+b)) rfl ?_));exact kz 1 rfl (aF rtT)
theorem a7o (a b:Int):aU Tryz.prog 90 [I .i64 a,I .i64 b] [] (I .i64 (IntKind.i64.wrap (a-b))) []:=by
 refine bL (n:=8) tok Tryz.func90 rfl rfl rfl ?_;refine sg rfl (sk 2 rfl (kw (IntKind.i64.wrap (a-b)) rfl ?_));exact kz 1 rfl (aF rtT)
theorem a7n (a b:Int):aU Tryz.prog 91 [I .i64 a,I .i64 b] [] (I .i64 (IntKind.i64.wrap (a*b))) []:=by
 refine bL (n:=8) tok Tryz.func91 rfl rfl rfl ?_;refine sg rfl (sk 2 rfl (kw (IntKind.i64.wrap (a*b)) rfl ?_));exact kz 1 rfl (aF rtT)
theorem a7m (a b:Int):aU Tryz.prog 92 [I .i64 a,I .i64 b] [] (B (decide (a=b))) []:=by
 refine bL (n:=8) tok Tryz.func92 rfl rfl rfl ?_;exact sg rfl (sg rfl (aF rtT))
theorem a7l (a b:Int):aU Tryz.prog 93 [I .i64 a,I .i64 b] [] (B (decide (a<b))) []:=by
 refine bL (n:=8) tok Tryz.func93 rfl rfl rfl ?_;exact sg rfl (sg rfl (aF rtT))
theorem a4x (g:FuncId) (a b r:Int) (hb:jZ Tryz.prog g) (h:aU Tryz.prog g [I .i64 a,I .i64 b] [] (I .i64 r) []):aU Tryz.prog 83 ([I .i64 a,I .i64 b]++([C.pt [.fn g]].map R.c).map V.one) [] (.pa (aB (iQ r))) []:=by
 refine bL (n:=11) tok Tryz.func83 rfl rfl rfl ?_;refine sg rfl (sk 3 rfl (kvF (args:=[I .i64 a,I .i64 b]) h ?_ hb));refine kc (aCn _) ?_;exact kz 1 rfl (aF (rtC trw))
theorem a65 (g:FuncId) (a b:Int) (r:Bool) (hb:jZ Tryz.prog g) (h:aU Tryz.prog g [I .i64 a,I .i64 b] [] (B r) []):aU Tryz.prog 85 ([I .i64 a,I .i64 b]++([C.pt [.fn g]].map R.c).map V.one) [] (.pa (aB (qR r))) []:=by
 refine bL (n:=12) tok Tryz.func85 rfl rfl rfl ?_;refine sg rfl (a8 (sk 3 rfl (kvF (args:=[I .i64 a,I .i64 b]) h ?_ hb)));refine az ?_;cases r with
 | true=>
  refine aA rfl (fun _=>a8 (aE mixed (kc (aIm [84,114,117,101]) ?_))) nofun;exact kz 1 rfl (aF (rtC trw))
 | false=>
  refine aA rfl nofun (fun _=>aD (a8 (aE mixed (kc (aIm [70,97,108,115,101]) ?_))));exact kz 1 rfl (aF (rtC trw))
def mN (bd:List Bind):List C:=[.sl 15 (bd.map b8),a61]
theorem a14 (s:Str) (a b:Int):(fJ s uS=none∧dM s a b=(zC,51))∨
  (∃(h g:FuncId) (r:Core),fJ s uS=some (opC h g)∧dM s a b=(r,0)∧jZ Tryz.prog h∧aU Tryz.prog h ([I .i64 a,I .i64 b]++([C.pt [.fn g]].map R.c).map V.one) [] (.pa (aB r)) [])∨
  (fJ s uS=some aXq∧(b=0→dM s a b=(zC,53))∧(¬b=0→dM s a b=(iQ (IntKind.i64.wrap (a.tdiv b)),0))):=by
 by_cases h1:s=aVc
 ·subst h1;exact .inr (.inl ⟨_,_,_,rfl,rfl,sB (by kernel_rfl),a4x _ a b _ (sB (by kernel_rfl)) (a7p a b)⟩)
 by_cases h2:s=aU9
 ·subst h2;exact .inr (.inl ⟨_,_,_,rfl,rfl,sB (by kernel_rfl),a4x _ a b _ (sB (by kernel_rfl)) (a7o a b)⟩)
 by_cases h3:s=aVb
 ·subst h3;exact .inr (.inl ⟨_,_,_,rfl,rfl,sB (by kernel_rfl),a4x _ a b _ (sB (by kernel_rfl)) (a7n a b)⟩)
 by_cases h4:s=aKk
 ·subst h4;refine .inr (.inr ⟨rfl,fun h=>by subst h;rfl,fun h=>?_⟩);unfold dM;rw[ψ (by decide),ψ (by decide),ψ (by decide),ξ rfl,ψ h]
 by_cases h5:s=nEq
 ·subst h5;exact .inr (.inl ⟨_,_,_,rfl,rfl,sB (by kernel_rfl),a65 _ a b _ (sB (by kernel_rfl)) (a7m a b)⟩)
 by_cases q:s=nLt
 ·subst q;exact .inr (.inl ⟨_,_,_,rfl,rfl,sB (by kernel_rfl),a65 _ a b _ (sB (by kernel_rfl)) (a7l a b)⟩)
 refine .inl ⟨?_,?_⟩
 ·unfold uS;simp only[fJ];rw[ψ (fun e=>h1 e.symm),ψ (fun e=>h2 e.symm),ψ (fun e=>h3 e.symm),ψ (fun e=>h4 e.symm),ψ (fun e=>h5 e.symm),ψ (fun e=>q e.symm)]
 ·unfold dM;rw[ψ h1,ψ h2,ψ h3,ψ h4,ψ h5,ψ q]
theorem aY3 (bd:List Bind) (i:Int) (s:Str) (t:Ty) (a b:Core):aU Tryz.prog 102 [.pa (mN bd),.pa (aB (.mk 10 i s t [a,b] [] []))] [] (dP (if a.form=3∧b.form=3 then dM s a.n b.n else(zC,51))) []:=by
 have ab:=a14 s a.n b.n;obtain⟨q,J,sa,ta,ka,ba,la⟩:=a;obtain⟨O,nb,sb,tb,kb,bb,lb⟩:=b;show aU Tryz.prog 102 _ [] (dP (if q=3∧O=3 then dM s J nb else(zC,51))) [];refine bL (n:=59) tok Tryz.func102 rfl rfl rfl ?_;refine sg rfl (sgh [(2,.row 0 (aB (.mk q J sa ta ka ba la))),(6,.row 1 (aB (.mk O nb sb tb kb bb lb)))] rfl ?_);rcases ab with⟨W,Z⟩ | ⟨h,g,r,W,Z,ac,hc⟩ | ⟨W,hz,ad⟩
 ·have Y:dM s J nb=(zC,51):=Z;refine sk 4 rfl (k_ (g_ rfl rfl (tC (d:=23) (ok:=true) (agg:=true) (Tr:=uS) (k:=s) (r:=none) tok rfl rfl (fU rfl) (tg rfl) rfl (tg rfl) rfl (tg rfl) rfl rfl oS aNa rfl W)) ?_);refine kz 6 rfl ?_;by_cases h3:q=3∧O=3
  ·obtain⟨rfl,rfl⟩:=h3;rw[ξ (show (3:Int)=3∧(3:Int)=3 from ⟨rfl,rfl⟩),Y];exact a8 (aC (sgh [(3,.bv false),(7,.bv false),(8,.bv false),(11,.bv false)] rfl (aA rfl (fun _=>sg rfl (aF (fM trw))) (fun hb=>absurd hb (by first | decide | simp)))))
  ·rw[ψ h3];by_cases h4:q=3
   ·have h5:¬O=3:=fun e=>h3 ⟨h4,e⟩
    subst h4;have e5:(!decide (O=3))=true:=by rw[Ae h5];rfl
    exact a8 (aC (sgh [(3,.bv false),(7,.bv false),(8,.bv true),(11,.bv true)] rfl (aA rfl (fun _=>sg rfl (aF (fM trw))) (fun hb=>absurd hb (by first | decide | simp)))))
   ·have e4:(!decide (q=3))=true:=by rw[Ae h4];rfl
    exact a8 (aC (sgh [(3,.bv true),(7,.bv true),(8,.bv true),(11,.bv true)] rfl (aA rfl (fun _=>sg rfl (aF (fM trw))) (fun hb=>absurd hb (by first | decide | simp)))))
 ·have Y:dM s J nb=(r,0):=Z;refine sk 4 rfl (k_ (g_ rfl rfl (tC (d:=23) (ok:=true) (agg:=true) (Tr:=uS) (k:=s) (r:=some (opC h g)) tok rfl rfl (fU rfl) (tg rfl) rfl (tg rfl) rfl (tg rfl) rfl rfl oS aNa rfl W)) ?_);refine kz 6 rfl ?_;by_cases h3:q=3∧O=3
  ·obtain⟨rfl,rfl⟩:=h3;rw[ξ (show (3:Int)=3∧(3:Int)=3 from ⟨rfl,rfl⟩),Y];refine a8 (aC (sgh [(3,.bv false),(7,.bv false),(8,.bv false),(11,.bv false)] rfl (aA rfl (fun hb=>absurd hb (by simp[uX])) (fun _=>sk 2 rfl (k_ (g_ rfl rfl (aUu (d:=43) (b:=true) tok rfl rfl (fU rfl) (tg rfl) rfl rfl rfl rfl)) ?_)))));refine ak 8 [(3,.bv false),(9,.bv false)] rfl (az (aA rfl (fun hb=>absurd hb (by simp)) (fun _=>aD (sk 6 rfl (kvC (args:=[I .i64 J,I .i64 nb]) hc ?_ ac)))));exact kz 2 rfl (aF (fM trw))
  ·rw[ψ h3];by_cases h4:q=3
   ·have h5:¬O=3:=fun e=>h3 ⟨h4,e⟩
    subst h4;have e5:(!decide (O=3))=true:=by rw[Ae h5];rfl
    exact a8 (aC (sgh [(3,.bv false),(7,.bv false),(8,.bv true),(11,.bv true)] rfl (aA rfl (fun _=>sg rfl (aF (fM trw))) (fun hb=>absurd hb (by first | decide | simp)))))
   ·have e4:(!decide (q=3))=true:=by rw[Ae h4];rfl
    exact a8 (aC (sgh [(3,.bv true),(7,.bv true),(8,.bv true),(11,.bv true)] rfl (aA rfl (fun _=>sg rfl (aF (fM trw))) (fun hb=>absurd hb (by first | decide | simp)))))
 ·have hz1:nb=0→dM s J nb=(zC,53):=hz;have aa:¬nb=0→dM s J nb=(iQ (IntKind.i64.wrap (J.tdiv nb)),0):=ad;refine sk 4 rfl (k_ (g_ rfl rfl (tC (d:=23) (ok:=true) (agg:=true) (Tr:=uS) (k:=s) (r:=some aXq) tok rfl rfl (fU rfl) (tg rfl) rfl (tg rfl) rfl (tg rfl) rfl rfl oS aNa rfl W)) ?_);refine kz 6 rfl ?_;by_cases h3:q=3∧O=3
  ·obtain⟨rfl,rfl⟩:=h3;rw[ξ (show (3:Int)=3∧(3:Int)=3 from ⟨rfl,rfl⟩)];refine a8 (aC (sgh [(3,.bv false),(7,.bv false),(8,.bv false),(11,.bv false)] rfl (aA rfl (fun hb=>absurd hb (by simp[uX])) (fun _=>sk 2 rfl (k_ (g_ rfl rfl (aUu (d:=43) (b:=false) tok rfl rfl (fU rfl) (tg rfl) rfl rfl rfl rfl)) ?_)))));refine ak 5 [(3,.bv true)] rfl (a7i (args:=[I .i64 nb]) (a7q nb) ?_);refine ak 2 [(9,.bv true)] rfl (az ?_);by_cases h0:nb=0
   ·rw[hz1 h0];exact aA rfl (fun _=>sg rfl (aF (fM trw))) (fun hb=>absurd h0 (Aa hb))
   ·rw[aa h0];refine aA rfl (fun hb=>absurd (θ hb) h0) (fun _=>aD (sk 6 rfl (kvC (args:=[I .i64 J,I .i64 nb]) (a4x _ J nb _ (sB (by kernel_rfl)) (a7r J nb h0)) ?_)));exact kz 2 rfl (aF (fM trw))
  ·rw[ψ h3];by_cases h4:q=3
   ·have h5:¬O=3:=fun e=>h3 ⟨h4,e⟩
    subst h4;have e5:(!decide (O=3))=true:=by rw[Ae h5];rfl
    exact a8 (aC (sgh [(3,.bv false),(7,.bv false),(8,.bv true),(11,.bv true)] rfl (aA rfl (fun _=>sg rfl (aF (fM trw))) (fun hb=>absurd hb (by first | decide | simp)))))
   ·have e4:(!decide (q=3))=true:=by rw[Ae h4];rfl
    exact a8 (aC (sgh [(3,.bv true),(7,.bv true),(8,.bv true),(11,.bv true)] rfl (aA rfl (fun _=>sg rfl (aF (fM trw))) (fun hb=>absurd hb (by first | decide | simp)))))
mutual
def spH:Core→Core
 | .mk f n s t ks bs al=>if f=4 then a03 (.mk f n s t ks bs al) ks else .mk f n s t ks bs al
def a03 (c:Core):List Core→Core
 | []=>c
 | k::_=>spH k
end
mutual
def spA:Core→List Core
 | .mk f _ _ _ ks _ _=>if f=4 then a4r ks else []
def a4r:List Core→List Core
 | []=>[]
 | k::r=>spA k++r
end
def spV (c:Core):V:=.tup [.pa (aB (spH c)),.one (.c (.sl 10 ((spA c).map aB)))]
theorem aPc (X:Nat) (c:Core) (hq:bE (QL X) c) (Z:aV c≤570000000000):aU Tryz.prog 94 [.pa (aB c)] [] (spV c) []:=by
 refine bL (n:=23) tok Tryz.func94 rfl rfl rfl ?_;refine sg rfl (sg rfl (AWp.sub (Sub.own (t:=4) (id:=720) 34 10 rfl rfl) ?_));refine a8 (aC (aO (fun x:Core×List Core=>mk [(1,.one (.vp 1 0)),(2,.one (.vp 2 0)),(4,.one (.hs 720 0 x.2.length x.2.length))] [(720,.arr 34 10 (x.2.map aB) 0),(2,.var 34 bI),(1,.var 34 (b7 x.1))]) (fun x=>bE (QL X) x.1∧(spH c=spH x.1∧spA c=spA x.1++x.2.reverse)∧x.2.length+aV x.1≤570000000000) (fun x=>aV x.1) (c,[]) ⟨hq,⟨rfl,by simp⟩,by simpa using Z⟩ sl ?_));rintro⟨c1,acc⟩ ⟨q,⟨I,J⟩,aa⟩;dsimp only at q I J aa ⊢;obtain⟨f,n,s,t,ks,bs,al⟩:=c1;have hka:(acc.map aB).length=acc.length:=ζ _;have O:=aCj acc (by omega);obtain⟨_,qk,_,_⟩:=aJ.1 q;refine a8 (sg rfl (aA rfl (fun hb=>?_) (fun hb=>?_)))
 ·have h4:f=4:=θ hb;subst h4;obtain⟨⟨a,b,rfl⟩,rfl,rfl⟩:=lT q (.inl rfl);have W:spH (.mk 4 n s t [a,b] [] [])=spH a:=by rw[spH,ξ rfl,a03]
  have Y:spA (.mk 4 n s t [a,b] [] [])=spA a++[b]:=by rw[spA,ξ rfl,a4r]
  have hsz':aV (.mk 4 n s t [a,b] [] [])=1+s.length+(aV a+(aV b+0))+0+0:=by rw[aV,dJ,dJ,dJ,iC,iD]
  have hbp:=bG b;have hl1:acc.length+1≤570000000000:=by omega
  refine aD (aC (sgh [(3,.row 1 (aB b)),(6,.all)] rfl (ag [(2,.row 0 (aB a))] rfl ⟨(a,acc++[b]),⟨qk a (by simp),⟨by rw[I,W],by rw[J,Y];simp⟩,by rw[Ab];show acc.length+1+aV a≤_;omega⟩,by dsimp only;omega,?_⟩)));exact sl
 have h4:¬f=4:=Aa hb;have W:spH c=.mk f n s t ks bs al:=by rw[I,spH,ψ h4]
 have Y:spA c=acc.reverse:=by rw[J,spA,ψ h4];rfl
 unfold spV;rw[W,Y];refine aM (sk 1 rfl (kc O ?_));refine az (sg rfl (AWp.sub (Sub.freeze (id:=720) rfl) ?_));refine AWp.sub (cv 3 (acc.reverse.map aB)) ?_;exact aF (fM trw)
def shE (c:Core):Bool:=decide (c.form=5) || (decide (c.form=3) || decide ((spH c).form=2))
theorem aIj (X:Nat) (c:Core) (W:bE (QL X) c) (O:aV c≤570000000000):aU Tryz.prog 42 [.pa (aB c)] [] (B (shE c)) []:=by
 have q:=aPc X c W O;unfold spV at q;unfold shE;generalize spH c=h at q ⊢;generalize spA c=l at q;obtain⟨f,n,s,t,ks,bs,al⟩:=c;obtain⟨f1,n1,s1,t1,ks1,Y,Z⟩:=h;show aU Tryz.prog 42 _ [] (B (decide (f=5) || (decide (f=3) || decide (f1=2)))) [];refine bL (n:=23) tok Tryz.func42 rfl rfl rfl ?_;refine sg rfl (sk 1 rfl (kc q ?_));refine kz 6 rfl ?_;by_cases h5:f=5
 ·have I:decide (f=5)=true:=Af h5;refine sgh [(3,.bv true),(7,.bv true),(8,.bv true),(12,.bv true)] rfl ?_;rw[I];exact aF rtT
 ·have I:decide (f=5)=false:=Ae h5;rw[I];by_cases h3:f=3
  ·have J:decide (f=3)=true:=Af h3;refine sgh [(3,.bv false),(7,.bv false),(8,.bv true),(12,.bv true)] rfl ?_;rw[J];exact aF rtT
  ·have J:decide (f=3)=false:=Ae h3;rw[J];exact sgh [(3,.bv false),(7,.bv false),(8,.bv false),(12,.bv false)] rfl (aF rtT)
end Go.Proofs.YtglfogjcijokpaaGreatDoor
namespace Go.Proofs.YtglfogjcijokpaaGreatDoor
open Go Go.AM Go.Shelf
set_option maxRecDepth 100000
def ir:Ren:=⟨fun f=>if f=129 then 180 else if f=171 then 144 else if f=243 then 168 else if f=246 then 173 else if f=283 then 175 else if f=284 then 176 else if f=285 then 177 else if f=286 then 178 else if f=317 then 179 else if f=318 then 181 else if f=319 then 182 else if f=320 then 183 else if f=337 then 184 else if f=338 then 185 else f,fun t=>if t=0 then 0 else if t=2 then 2 else if t=3 then 3 else if t=4 then 4 else if t=5 then 5 else if t=9 then 9 else if t=20 then 20 else if t=37 then 157 else if t=46 then 214 else if t=51 then 212 else if t=53 then 205 else if t=171 then 204 else if t=173 then 208 else if t=212 then 211 else if t=213 then 213 else if t=232 then 217 else if t=233 then 218 else t,fun g=>if g=17 then 0 else if g=18 then 1 else if g=19 then 2 else g⟩
theorem il:LaysM.n171 Tryz.prog ir where
 mixed:=mixed
 f129:=by kernel_rfl
 f171:=by kernel_rfl
 f243:=by kernel_rfl
 f246:=by kernel_rfl
 f283:=by kernel_rfl
 f284:=by kernel_rfl
 f285:=by kernel_rfl
 f286:=by kernel_rfl
 f317:=by kernel_rfl
 f318:=by kernel_rfl
 f319:=by kernel_rfl
 f320:=by kernel_rfl
 f337:=by kernel_rfl
 f338:=by kernel_rfl
 t0:=by kernel_rfl
 a0:=fun w=>by kernel_rfl
 z0:=fun w=>by kernel_rfl
 v0:=fun w=>by kernel_rfl
 t2:=by kernel_rfl
 a2:=fun w=>by kernel_rfl
 z2:=fun w=>by kernel_rfl
 v2:=fun w=>by kernel_rfl
 t3:=by kernel_rfl
 a3:=fun w=>by kernel_rfl
 z3:=fun w=>by kernel_rfl
 v3:=fun w=>by kernel_rfl
 t4:=by kernel_rfl
 a4:=fun w=>by kernel_rfl
 z4:=fun w=>by kernel_rfl
 v4:=fun w=>by kernel_rfl
 t5:=by kernel_rfl
 a5:=fun w=>by kernel_rfl
 z5:=fun w=>by kernel_rfl
 v5:=fun w=>by kernel_rfl
 t9:=by kernel_rfl
 a9:=fun w=>by kernel_rfl
 z9:=fun w=>by kernel_rfl
 v9:=fun w=>by kernel_rfl
 t20:=by kernel_rfl
 a20:=fun w=>by kernel_rfl
 z20:=fun w=>by kernel_rfl
 v20:=fun w=>by kernel_rfl
 t37:=by kernel_rfl
 a37:=fun w=>by kernel_rfl
 z37:=fun w=>by kernel_rfl
 v37:=fun w=>by kernel_rfl
 t46:=by kernel_rfl
 a46:=fun w=>by kernel_rfl
 z46:=fun w=>by kernel_rfl
 v46:=fun w=>by kernel_rfl
 t51:=by kernel_rfl
 a51:=fun w=>by kernel_rfl
 z51:=fun w=>by kernel_rfl
 v51:=fun w=>by kernel_rfl
 t53:=by kernel_rfl
 a53:=fun w=>by kernel_rfl
 z53:=fun w=>by kernel_rfl
 v53:=fun w=>by kernel_rfl
 t171:=by kernel_rfl
 a171:=fun w=>by kernel_rfl
 z171:=fun w=>by kernel_rfl
 v171:=fun w=>by kernel_rfl
 t173:=by kernel_rfl
 a173:=fun w=>by kernel_rfl
 z173:=fun w=>by kernel_rfl
 v173:=fun w=>by kernel_rfl
 t212:=by kernel_rfl
 a212:=fun w=>by kernel_rfl
 z212:=fun w=>by kernel_rfl
 v212:=fun w=>by kernel_rfl
 t213:=by kernel_rfl
 a213:=fun w=>by kernel_rfl
 z213:=fun w=>by kernel_rfl
 t232:=by kernel_rfl
 a232:=fun w=>by kernel_rfl
 z232:=fun w=>by kernel_rfl
 v232:=fun w=>by kernel_rfl
 t233:=by kernel_rfl
 a233:=fun w=>by kernel_rfl
 z233:=fun w=>by kernel_rfl
 v233:=fun w=>by kernel_rfl
 g17:=by kernel_rfl
 g18:=by kernel_rfl
 g19:=by kernel_rfl
 i0:=by kernel_rfl
 i2:=by kernel_rfl
 i3:=by kernel_rfl
 i4:=by kernel_rfl
 i5:=by kernel_rfl
 i9:=by kernel_rfl
 i20:=by kernel_rfl
 i37:=by kernel_rfl
 i46:=by kernel_rfl
 i51:=by kernel_rfl
 i53:=by kernel_rfl
 i171:=by kernel_rfl
 i173:=by kernel_rfl
 i212:=by kernel_rfl
 i232:=by kernel_rfl
 i233:=by kernel_rfl
 m17:=by kernel_rfl
 m18:=by kernel_rfl
 m19:=by kernel_rfl
end Go.Proofs.YtglfogjcijokpaaGreatDoor
namespace Go.AM
open Go
theorem Inv.grown {G:Ctx}{S:Sto}{μ:Mu}{H:cK}{w:World}(h:Inv G S μ H w) (k:Nat) (os:Array Obj):Inv G S μ H (Sort.grow (w.drewN k) os):=by
 have hold:∀b:Nat,b<w.heap.size→(Sort.grow (w.drewN k) os).heap[b]?=w.heap[b]?:=fun b hb=>by
  show(w.heap++os)[b]?=w.heap[b]?;exact Array.getElem?_append_left hb
 have q:w.heap.size≤(Sort.grow (w.drewN k) os).heap.size:=by
  show w.heap.size≤(w.heap++os).size;rw[Array.size_append];omega
 obtain⟨h1,h2,h3,h4,h5,I,J,O,W⟩:=h;refine⟨⟨fun b o v e=>?_,fun b mk e=>?_⟩,fun id o e=>(h2 id o e).evolve (Evolve.refl _ _ _) rfl fun b c hm=>⟨hold b ((h2 id o e).lt hm),fun _=>rfl,rfl⟩,h3,h4,?_,I,J,O,W⟩
 ·obtain⟨vs,t,fr,g1,g2⟩:=h1.1 b o v e;exact⟨vs,t,fr,by rw[hold b (dV g1)];exact g1,g2⟩
 ·have g:=h1.2 b mk e;obtain⟨_,g2⟩:=MK.holds_some g;rw[hold b (dV g2)];exact g
 ·obtain⟨f1,f2,f3,f4,f5,f6⟩:=h5;exact⟨f1,f2,f3,le_trans f4 q,fun b hb Y=>by rw[hold b (lt_of_lt_of_le hb f4)];exact f5 b hb Y,f6⟩
end Go.AM
namespace Go.Proofs.YtglfogjcijokpaaGreatDoor
open Go Go.AM
set_option maxRecDepth 20000
theorem aPi (k:Nat) (h:k<1000000000000000000):aU Tryz.prog 144 [I .i64 (k:Int)] [] (Go.AM.T (Lib.decDigits k)) []:=by
 intro S μ w vals J O;simp only [bS, aZ, b9, Rep] at O;obtain ⟨v1, W, rfl, rfl, rfl⟩ := O;have q : Lib.TabIs Tryz.prog w "internal/strconv.uint64pow10" .u64 Lib.pow10Tab := by
  obtain ⟨h1, t, fr, h2⟩ := J.frame.tabAt 0 rfl;unfold Lib.TabIs World.var?;rw [show Tryz.prog.globalNamed "internal/strconv.uint64pow10" = some 0 by kernel_rfl];simp only [Cq, h2];rfl
 refine Calls.mono (Any.strconv_Itoa il (k:Int) (by omega) (by omega) w q) ?_;rintro e w' ⟨rfl,j,os,rfl⟩;refine⟨S,μ,_,rfl,J.grown j os,?_⟩;rw[Lib.itoa_nonneg];simp only[aZ,b9,Rep]
end Go.Proofs.YtglfogjcijokpaaGreatDoor
namespace Go.Proofs.YtglfogjcijokpaaGreatDoor
open Go Go.AM
set_option maxRecDepth 20000
set_option maxHeartbeats 4000000
theorem a06 (hI:cE 540000000000) {D M X:Nat}(hMD:M+D≤700000):∀(k:Nat) (c:Core),m30 c≤k→CG D M X c→∀(name:Str) (u:Ty),UOk u→∀x∈tyR (sTR k c name u),(x∈tyR c∧¬x=name)∨x∈tfR u:=by
 intro k
 induction k with
 | zero=>intro c h;have:=dB c;omega
 | succ k Z=>
 intro c h hc name u hu x hx;obtain⟨f,n,nm,t,ks,bs,al⟩:=c;obtain⟨ht0,ht1,htb⟩:=hc.ty;have hq:=hc.q;obtain⟨q1,q2,q3,q4⟩:=aJ.1 hq;have hz0:tfR zTy=[]:=rfl;have aa:∀v,wfS v=true→∀x∈tfR (fL v [(name,u)]),(x∈tfR v∧¬x=name)∨x∈tfR u:=fun v h1 x hx=>by
  rcases aK7 (tn v) v (le_refl _) h1 _ x hx with h | ⟨p,hp,_,h⟩
  ·exact .inl ⟨h.1,fun e=>h.2 (by rw[e];exact κ.2 rfl)⟩
  ·rw[κ.1 hp] at h;exact .inr h
 rw[sTR] at hx;by_cases h7:f=7
 ·subst h7;obtain⟨⟨kid,rfl⟩,rfl,rfl⟩:=dG hq (.inr (.inr rfl));obtain⟨g1,g2,g3⟩:=hc.kid (x:=kid) φ;rw[ξ rfl] at g2;obtain rfl:t=zTy:=(q1.2.1 rfl).1
  by_cases hs:nm=name∨¬name∈tyR (.mk 7 n nm zTy [kid] [] [])
  ·rw[ξ ⟨rfl,hs⟩] at hx;refine .inl ⟨hx,fun e=>?_⟩;rw[e] at hx;rcases hs with rfl | hs
   ·rcases bF.1 hx with h | ⟨x,_,_,h | h⟩ | ⟨b,hb,_⟩ | ⟨a,ha,_⟩
    ·rw[hz0] at h;cases h
    ·exact h rfl
    ·exact h rfl
    ·cases hb
    ·cases ha
   ·exact hs hx
  rw[ψ fun e=>hs e.2] at hx;have ab:∀(nm1:Str) (J:Core),m30 J≤k→CG D M X J→(∀y∈tyR J,¬y=nm1→y∈tyR kid∧(y=nm→y∈tfR u))→x∈tyR (gH (fun t=>fL t [(name,u)]) (fun x=>sTR k x name u) (.mk 7 n nm1 zTy [J] [] []))→(x∈tyR (.mk 7 n nm zTy [kid] [] [])∧¬x=name)∨x∈tfR u:=fun nm1 J hk1 hc1 W hx=>by
   rw[gH] at hx;rcases bF.1 hx with h | ⟨y,hym,h,Y⟩ | ⟨b,hb,_⟩ | ⟨a,ha,_⟩
   ·rw[jP,hz0] at h;cases h
   ·obtain⟨O,I,rfl⟩:=Ad.1 hym;rw[κ.1 I] at h;have Y:¬x=nm1:=Y.resolve_left (fun e=>e rfl);rcases Z J hk1 hc1 name u hu x h with⟨h,hn⟩ | h
    ·obtain⟨h1,h2⟩:=W x h Y;by_cases e:x=nm
     ·exact .inr (h2 e)
     ·exact .inl ⟨bF.2 (.inr (.inl ⟨kid,φ,h1,.inr e⟩)),hn⟩
    ·exact .inr h
   ·cases hb
   ·cases ha
  by_cases hnf:nm∈tfR u
  ·rw[ξ ⟨rfl,hnf⟩,Al,Bj] at hx;generalize b6 (tfR u++[kid].flatMap tyR)=z at hx;have hS1:=aE3 hI hMD k kid (by omega) g1 nm (vT z) (UOk.var z);refine ab z _ (le_trans hS1.sz (by omega)) (aQu hI hMD g1 g2 k (by omega) nm z) (fun y W ac=>?_) hx;rcases Z kid (by omega) g1 nm (vT z) (UOk.var z) y W with⟨h1,h2⟩ | h1
   ·exact⟨h1,fun e=>absurd e h2⟩
   ·rw[aAk] at h1;exact absurd (κ.1 h1) ac
  ·rw[ψ fun e=>hnf e.2] at hx;exact ab nm kid (by omega) g1 (fun y W ac=>⟨W,fun e=>absurd e ac⟩) hx
 ·rw[ψ fun e=>h7 e.1,ψ fun e=>h7 e.1,gH] at hx;rcases bF.1 hx with h | ⟨y,W,h,_⟩ | ⟨y,W,h⟩ | ⟨y,W,h⟩
  ·exact(aa t ht0 x h).imp (fun h=>⟨bF.2 (.inl h.1),h.2⟩) id
  ·obtain⟨O,I,rfl⟩:=Ad.1 W;exact(Z O (by have:=(hc.kid I).2.2;omega) (hc.kid I).1 name u hu x h).imp (fun h=>⟨bF.2 (.inr (.inl ⟨O,I,h.1,.inl h7⟩)),h.2⟩) id
  ·obtain⟨O,I,rfl⟩:=Ad.1 W;rcases h with h | h
   ·exact(aa O.ty (htb O I).1 x h).imp (fun h=>⟨bF.2 (.inr (.inr (.inl ⟨O,I,.inl h.1⟩))),h.2⟩) id
   ·exact(Z O.body (by have:=(hc.bind I).2;omega) (hc.bind I).1 name u hu x h).imp (fun h=>⟨bF.2 (.inr (.inr (.inl ⟨O,I,.inr h.1⟩))),h.2⟩) id
  ·obtain⟨O,I,rfl⟩:=Ad.1 W;exact(Z O.body (by have:=(hc.alt I).2;omega) (hc.alt I).1 name u hu x h).imp (fun h=>⟨bF.2 (.inr (.inr (.inr ⟨O,I,h.1⟩))),h.2⟩) id
theorem eQ {α:Type}{g:α→α}:∀{l:List α},(∀x∈l,g x=x)→l.map g=l
 | [],_=>rfl
 | x::l,h=>by rw[Al,h x φ,eQ fun y q=>h y (η _ q)]
theorem a07 {X:Nat}:∀(k:Nat) (c:Core),m30 c≤k→bE (QL X) c→¬([]:Str)∈tyR c→sTR k c [] zTy=c:=by
 intro k
 induction k with
 | zero=>intro c h;have:=dB c;omega
 | succ k I=>
 intro c h O hn;obtain⟨f,n,nm,t,ks,bs,al⟩:=c;obtain⟨⟨_,_,W,Y,_⟩,Z,q3,q4⟩:=aJ.1 O;rw[m30] at h;rw[sTR];by_cases q:f=7
 ·rw[ξ ⟨q,.inr hn⟩]
 ·have ts:∀v,wfS v=true→¬([]:Str)∈tfR v→fL v [([],zTy)]=v:=fun v hv J=>xM (tn v) v (le_refl _) hv _ fun p hp h=>by rw[κ.1 hp] at h;exact J h
  rw[ψ (fun e=>q e.1),ψ (fun e=>q e.1),gH,ts t W (fun e=>hn (bF.2 (.inl e)))];rw[eQ (l:=ks) fun x hx=>I x (by have:=dQ hx;omega) (Z x hx) fun e=>hn (bF.2 (.inr (.inl ⟨x,hx,e,.inl q⟩)))]
  rw[eQ (l:=bs) fun x hx=>by
   rw[ts x.ty (Y (bhd x) (Ad.2 ⟨x,hx,rfl⟩)) fun e=>hn (bF.2 (.inr (.inr (.inl ⟨x,hx,.inl e⟩)))),I x.body (by have:=gY hx;omega) (q3 x hx) fun e=>hn (bF.2 (.inr (.inr (.inl ⟨x,hx,.inr e⟩))))]
   cases x;rfl]
  rw[eQ (l:=al) fun x hx=>by
   rw[I x.body (by have:=eS hx;omega) (q4 x hx) fun e=>hn (bF.2 (.inr (.inr (.inr ⟨x,hx,e⟩))))]
   cases x;rfl]
theorem dK:kQ.k=0:=by unfold Alg.k zTy;rw[tW,ψ (by decide),ψ (by decide),tWs];rfl
theorem dZ:tW kQ zTy r0=0:=dK
structure ST (n:Nat) (U:List Str) (c:Core):Prop where
 q:bE (QL 403) c
 cw:∀E,n*3≤E→cw kQ E c r0≤3+E
 ty:∀x∈tyR c,x∈U
 tl:tlC c≤6000
 sz:m30 c≤3500000
structure SR (n:Nat) (U:List Str) (s:Nat) (c:Core):Prop where
 q:bE (QL 403) c
 cw:∀E,n*3≤E→cw kQ E c r0≤3+E
 ty:∀x∈tyR c,x∈U
 tl:tlC c≤84000
 sz:60*m30 c≤210000000+s*s+120*s
theorem ST.mono {n m:Nat}{U:List Str}{c:Core}(h:ST n U c) (hm:n≤m):ST m U c:=⟨h.q,fun E I=>h.cw E (by omega),h.ty,h.tl,h.sz⟩
theorem ST.cg {n:Nat}{U:List Str}{c:Core}(h:ST n U c) (hn:n≤300) (I:U.length≤480000):CG 1000 650000 403 c:=by
 refine⟨h.q,?_,?_,le_trans h.sz (by decide)⟩
 ·have:=h.cw (n*3) (le_refl _);have:=uE (A:=kQ) (E:=0) (E':=n*3) (Ak _) (c:=c) (ρ:=r0) (ρ':=r0) (fun _=>le_refl _);omega
 ·have:=dS h.ty;have:=h.tl;omega
theorem ar0 {s:Nat}(h:s≤3500000):s*s≤12250000000000:=le_trans (Ce h h) (by decide)
theorem SR.big {n s:Nat}{U:List Str}{c:Core}(h:SR n U s c) (hs:s≤3500000):m30 c≤Big:=by
 have:=ar0 hs;have:=h.sz;have:Big=250000000000:=rfl;omega
theorem SR.cg {n s:Nat}{U:List Str}{c:Core}(h:SR n U s c) (hn:n≤300) (hs:s≤3500000) (I:U.length≤480000):CG 1000 650000 403 c:=by
 refine⟨h.q,?_,?_,h.big hs⟩
 ·have:=h.cw (n*3) (le_refl _);have:=uE (A:=kQ) (E:=0) (E':=n*3) (Ak _) (c:=c) (ρ:=r0) (ρ':=r0) (fun _=>le_refl _);omega
 ·have:=dS h.ty;have:=h.tl;omega
section
variable {n:Nat}{U:List Str}{f i:Int}{s:Str}{t:Ty}{ks:List Core}{bs:List Bind}{al:List Alt}
theorem ST.kid (h:ST n U (.mk f i s t ks bs al)) (I:¬f=7) {x:Core}(hx:x∈ks):ST n U x:=by
 refine⟨(aJ.1 h.q).2.1 x hx,fun E J=>?_,fun y O=>h.ty y (bF.2 (.inr (.inl ⟨x,hx,O,.inl I⟩))),?_,?_⟩
 ·have:=(gR.1 (h.cw E J)).2.2.1 x hx;rwa [ψ I] at this
 ·have:=(nN (f:=f) (n:=i) (s:=s) (t:=t) (ks:=ks) (bs:=bs) (al:=al)).1 x hx;have:=h.tl;omega
 ·have:=dQ hx;have:=h.sz;rw[m30] at this;omega
theorem ST.tkid (h:ST n U (.mk 7 i s t ks bs al)) {x:Core}(hx:x∈ks):ST n (s::U) x∧tlC x+1≤tlC (.mk 7 i s t ks bs al)∧m30 x<m30 (.mk 7 i s t ks bs al):=by
 have h1:=(nN (f:=7) (n:=i) (s:=s) (t:=t) (ks:=ks) (bs:=bs) (al:=al)).1 x hx;rw[ξ rfl] at h1;have h2:=dQ hx;have h3:=h.tl;have h4:=h.sz;refine⟨⟨(aJ.1 h.q).2.1 x hx,fun E I=>?_,fun y J=>?_,by omega,?_⟩,h1,?_⟩
 ·have:=(gR.1 (h.cw E I)).2.2.1 x hx;rw[ξ rfl] at this;exact le_trans (uE (le_refl _) fun y=>Ak _) this
 ·by_cases e:y=s
  ·rw[e];exact φ
  ·exact η _ (h.ty y (bF.2 (.inr (.inl ⟨x,hx,J,.inr e⟩))))
 ·rw[m30] at h4;omega
 ·rw[m30];omega
theorem ST.bind (h:ST n U (.mk f i s t ks bs al)) {x:Bind}(hx:x∈bs):ST n U x.body:=by
 refine⟨(aJ.1 h.q).2.2.1 x hx,fun E I=>((gR.1 (h.cw E I)).2.2.2.1 x hx).2,fun y J=>h.ty y (bF.2 (.inr (.inr (.inl ⟨x,hx,.inr J⟩)))),?_,?_⟩
 ·have:=(nN (f:=f) (n:=i) (s:=s) (t:=t) (ks:=ks) (bs:=bs) (al:=al)).2.1 x hx;have:=h.tl;omega
 ·have:=gY hx;have:=h.sz;rw[m30] at this;omega
theorem ST.alt (h:ST n U (.mk f i s t ks bs al)) {x:Alt}(hx:x∈al):ST n U x.body:=by
 refine⟨(aJ.1 h.q).2.2.2 x hx,fun E I=>(gR.1 (h.cw E I)).2.2.2.2 x hx,fun y J=>h.ty y (bF.2 (.inr (.inr (.inr ⟨x,hx,J⟩)))),?_,?_⟩
 ·have:=(nN (f:=f) (n:=i) (s:=s) (t:=t) (ks:=ks) (bs:=bs) (al:=al)).2.2 x hx;have:=h.tl;omega
 ·have:=eS hx;have:=h.sz;rw[m30] at this;omega
theorem aFf (hf:okF f 0 0 0=true) (q:¬f=7) (h5:¬f=5) (hs:s.length≤30):bE (QL 403) (.mk f i s zTy [] [] []):=by
 have hw:w30 s=30:=by unfold w30;omega
 exact aJ.2 ⟨⟨hf,fun h=>absurd h q,rfl,by simp,by unfold lw;rw[hw];decide,fun h=>absurd h h5,by simp,by simp⟩,by simp,by simp,by simp⟩
theorem aQl {w:Nat}(hf:okF f 0 0 0=true) (q:¬f=7) (h5:¬f=5) (hs:s.length≤30):SR n U w (.mk f i s zTy [] [] []):=by
 have hw:w30 s=30:=by unfold w30;omega
 refine⟨aFf hf q h5 hs,fun E J=>gR.2 ⟨by rw[dK];omega,by rw[dZ];omega,by simp,by simp,by simp⟩,fun y I=>?_,?_,?_⟩
 ·rcases bF.1 I with h | ⟨x,hx,_⟩ | ⟨x,hx,_⟩ | ⟨x,hx,_⟩
  ·cases h
  ·cases hx
  ·cases hx
  ·cases hx
 ·rw[tlC,kP,rG,qS,ψ q];omega
 ·rw[m30,bV,eU,fQ,hw];omega
end
theorem ST.sr {n w:Nat}{U:List Str}{c:Core}(h:ST n U c):SR n U w c:=⟨h.q,h.cw,h.ty,by have:=h.tl;omega,by have:=h.sz;omega⟩
theorem a52 {n:Nat}{U:List Str}:∀(k:Nat) (c:Core),m30 c≤k→ST n U c→∀(s:Str) (l:List Core),gvC c=some (s,l)→(∀x∈l,ST n U x)∧(l.map m30).sum≤m30 c:=by
 intro k
 induction k with
 | zero=>intro c h;have:=dB c;omega
 | succ k W=>
 intro c h hc s l I;obtain⟨f,i,nm,t,ks,bs,al⟩:=c;rw[gvC] at I;by_cases h2:f=2
 ·rw[ξ h2] at I;cases I;exact⟨by simp,by simp⟩
 rw[ψ h2] at I;by_cases h4:f=4
 ·rw[ξ h4] at I;obtain⟨⟨a,b,rfl⟩,rfl,rfl⟩:=lT hc.q (.inl h4);have ha:=hc.kid (by omega) (x:=a) φ;have hb:=hc.kid (by omega) (x:=b) (η _ φ);rw[m30,bV,bV,bV] at h ⊢;rw[gvH] at I;cases J:gvC a with
  | none=>rw[J] at I;cases I
  | some p=>
   rw[J] at I;obtain⟨s1,Y⟩:=p;obtain⟨g1,g2⟩:=W a (by omega) ha s1 Y J;have I:=Option.some.inj I;have e:l=Y++[b]:=(congrArg Prod.snd I).symm;rw[e];refine⟨fun x hx=>?_,?_⟩
   ·rcases χ.1 hx with hx | hx
    ·exact g1 x hx
    ·rw[κ.1 hx];exact hb
   ·rw[A6,List.sum_append];simp only[Al,Bj,Cc,sum_nil];omega
 rw[ψ h4] at I;by_cases O:f=6
 ·rw[ξ O] at I;obtain⟨⟨a,rfl⟩,rfl,rfl⟩:=dG hc.q (.inr (.inl O));have ha:=hc.kid (by omega) (x:=a) φ;rw[m30,bV,bV] at h ⊢;rw[gvH] at I;obtain⟨g1,g2⟩:=W a (by omega) ha s l I;exact⟨g1,by omega⟩
 ·rw[ψ O] at I;cases I
theorem a02 {a b s:Nat}(h:a+b≤s):a*a+2*(a*b)+b*b≤s*s:=by
 have h1:=Ce h h;have h2:(a+b)*(a+b)=a*a+2*(a*b)+b*b:=by rw[Av,Cz,Cz,mul_comm b a];omega
 omega
theorem a7w (a b:Nat):2*(a*b)≤a*a+b*b:=by
 rcases Nat.le_total a b with h | h
 ·obtain⟨d,rfl⟩:=Nat.exists_eq_add_of_le h;have q:a*(a+d)=a*a+a*d:=Cz ..;have I:(a+d)*(a+d)=a*a+a*d+(a*d+d*d):=by rw[Av,Cz,Cz,mul_comm d a]
  omega
 ·obtain⟨d,rfl⟩:=Nat.exists_eq_add_of_le h;have q:(b+d)*b=b*b+b*d:=by rw[Av,mul_comm d b]
  have I:(b+d)*(b+d)=b*b+b*d+(b*d+d*d):=by rw[Av,Cz,Cz,mul_comm d b]
  omega
theorem ar1 {a b s:Nat}(h:a+b≤s):60*(a*(b/31+1))≤s*s+120*s:=by
 have h1:=a02 h;have h2:a*(60*(b/31+1))≤a*(2*b+60):=B9 _ (by omega);have q:a*(60*(b/31+1))=60*(a*(b/31+1)):=by rw[mul_left_comm]
 have I:a*(2*b+60)=2*(a*b)+a*60:=by rw[Cz,mul_left_comm]
 omega
theorem ar2 {a b s:Nat}(h:a+b≤s):60*(a*(b/15+2))≤s*s+120*s:=by
 have h1:=a02 h;have h3:=a7w a b;have h2:a*(60*(b/15+2))≤a*(4*b+120):=B9 _ (by omega);have q:a*(60*(b/15+2))=60*(a*(b/15+2)):=by rw[mul_left_comm]
 have I:a*(4*b+120)=4*(a*b)+a*120:=by rw[Cz,mul_left_comm]
 omega
theorem ar3 {s v:Nat}(hs:s≤3500000) (h:60*v≤s*s+120*s):v≤Big:=by
 have:=ar0 hs;have:Big=250000000000:=rfl;omega
theorem ar4 {x m r C:Nat}(hx:x≤m) (h:60*r≤C+x*x+120*x):60*(m-x+r)≤C+m*m+120*m:=by
 have:=Ce hx hx;omega
theorem kR {α:Type}{g:α→Nat}:∀{l:List α}{x:α},x∈l→g x≤(l.map g).sum
 | y::l,x,h=>by
  rw[Al,Cc];rcases Ah.1 h with e | h
  ·rw[e];omega
  ·have:=kR (g:=g) h;omega
theorem sR {α:Type}{g:α→Nat}{K:Nat}:∀{l:List α},(∀x∈l,g x≤K)→(l.map g).sum≤l.length*K
 | [],_=>by simp
 | y::l,h=>by
  rw[Al,Cc,Am,succ_mul];have:=h y φ;have:=sR (l:=l) fun x hx=>h x (η _ hx)
  omega
theorem aRk:∀q:List (Str×Ty),31*q.length≤(q.map fun p=>1+w30 p.1).sum
 | []=>le_refl _
 | p::l=>by simp only[Al,Cc,Am];have:=aRk l;have:=fR p.1;omega
theorem a7g {s:Str}{q:List (Str×Ty)}{I:List (Str×List Str)}(h:lw s q I≤403):q.length≤12:=by
 unfold lw at h;have:=aRk q;have:=fR s;omega
theorem a7h {s:Str}{I:List (Str×Ty)}{q:List (Str×List Str)}(h:lw s I q≤403) {p:Str×List Str}(hp:p∈q):p.2.length≤12:=by
 unfold lw at h;have h1:=kR (g:=fun p:Str×List Str=>1+w30 p.1+(p.2.map fun v=>1+w30 v).sum) hp;have h2:=pU p.2;have:=fR s;omega
section
variable {n:Nat}{U:List Str}
theorem aWl (O:cE 540000000000) (hn:n≤299) (J:U.length≤480000) {body a:Core}{nm:Str}{s:Nat}(h1:ST n U body) (h2:ST n U a) (hs:m30 body+m30 a≤s):
  TB 403 body nm a (bW (m30 body) body nm a)∧SR (n+1) U s (bW (m30 body) body nm a):=by
 have I:=aCh O (D:=1000) (M:=650000) (X:=403) (by decide) (by decide) (m30 body) body (le_refl _) (h1.cg (by omega) J) nm a (h2.cg (by omega) J);refine⟨I,I.rx.q,fun E W=>?_,fun x hx=>(I.rx.ty x hx).elim (h1.ty x) (h2.ty x),?_,?_⟩
 ·have:=I.rx.cw kQ E r0;have:=h1.cw E (by omega);have:=h2.cw E (by omega);omega
 ·have:=I.rx.tl;have:=h1.tl;have:=h2.tl;omega
 ·have:=I.sz (m30 a/31+1) (by omega) (by omega);have:=ar1 hs;omega
theorem aQj (O:cE 540000000000) (hn:n≤299) (W:U.length≤480000) {i i':Int}{s nm:Str}{u t':Ty}{body:Core}{bs:List Bind}{al:List Alt}
  (h:ST n U (.mk 6 i s u [.mk 7 i' nm t' [body] [] []] bs al)) {w:Nat}:
  SB 403 body nm u (sTR (m30 body) body nm u)∧SR (n+1) U w (sTR (m30 body) body nm u):=by
 have hh:=h.kid (by decide) (x:=.mk 7 i' nm t' [body] [] []) φ;obtain⟨hb,_,_⟩:=hh.tkid (x:=body) φ;have Y:=h.cg (by omega) W;have J:=((hh.cg (by omega) W).kid (x:=body) φ).1
 obtain⟨Z,w2,_⟩:=Y.ty;have hu:UOk u:=⟨Z,by omega⟩
 have I:=aE3 O (by decide) (m30 body) body (le_refl _) J nm u hu;refine⟨I,I.q,fun E hE=>?_,fun x hx=>?_,?_,?_⟩
 ·have h1:=I.cw kQ E r0;have h2:=(gR.1 (h.cw (n*3) (le_refl _))).2.1
  have h3:=(gR.1 (hh.cw E (by omega))).2.2.1 body φ;rw[ξ rfl] at h3;refine le_trans h1 (le_trans (uE (le_refl _) fun x=>?_) h3);unfold gT;split
  ·omega
  ·exact le_refl _
 ·rcases a06 O (by decide) (m30 body) body (le_refl _) J nm u hu x hx with⟨h1,h2⟩ | h1
  ·exact(Ah.1 (hb.ty x h1)).resolve_left h2
  ·exact h.ty x (bF.2 (.inl h1))
 ·have:=I.tl;have:=hb.tl;omega
 ·have:=I.sz;have:=hb.sz;omega
theorem aWj {B s:Nat}{c r:Core}{l:List Core}(hc:ST n U c) (hl:∀b∈l,(∀E,n*3≤E→cw kQ E b r0≤3+E)∧(∀x∈tyR b,x∈U)∧tlC b≤6000) (I:l.length≤12) (J:60*(m30 c*B)≤s*s+120*s) (h:PR 403 B c l r):SR (n+1) U s r:=by
 refine⟨h.q,fun E O=>h.cw kQ E r0 _ (hc.cw E (by omega)) fun b hb=>(hl b hb).1 E (by omega),fun x hx=>?_,?_,?_⟩
 ·rcases h.ty x hx with h | ⟨b,hb,h⟩
  ·exact hc.ty x h
  ·exact(hl b hb).2.1 x h
 ·have h1:=h.tl;have h2:=sR (g:=tlC) (K:=6000) (l:=l) fun b hb=>(hl b hb).2.2
  have h3:=hc.tl;have h4:l.length*6000≤12*6000:=Ar _ I;omega
 ·have:=h.sz;omega
theorem a4k {B s:Nat}{c:Core}{l:List Core}(hn:n≤299) (Y:U.length≤480000) (hc:ST n U c) (hl:∀b∈l,(∀E,n*3≤E→cw kQ E b r0≤3+E)∧(∀x∈tyR b,x∈U)∧tlC b≤6000) (I:l.length≤12) (hs:s≤3500000) (J:1≤B) (Z:60*(m30 c*B)≤s*s+120*s)
  (hq:∀b∈l,bE (QL 403) b) (O:∀b∈l,m30 b≤31*B) (W:∀b∈l,m30 b≤10000000):PO 1000 650000 403 B c l:=by
 refine⟨hc.q,(hc.cg (by omega) Y).dep,hq,fun b hb=>?_,⟨U,?_,hc.ty,fun b hb=>(hl b hb).2.1⟩,J,O,ar3 hs Z,?_⟩
 ·have:=(hl b hb).1 (n*3) (le_refl _)
  have:=uE (A:=kQ) (E:=0) (E':=n*3) (Ak _) (c:=b) (ρ:=r0) (ρ':=r0) (fun _=>le_refl _);omega
 ·have h2:=sR (g:=tlC) (K:=6000) (l:=l) fun b hb=>(hl b hb).2.2
  have h3:=hc.tl;have h4:l.length*6000≤12*6000:=Ar _ I;omega
 ·have h2:=sR (g:=m30) (K:=10000000) (l:=l) W;have h4:l.length*10000000≤12*10000000:=Ar _ I;have:Big=250000000000:=rfl;omega
theorem aX3 {i:Int}{s:Str}{t:Ty}{ks:List Core}{bs:List Bind}{al:List Alt}(h:ST n U (.mk 8 i s t ks bs al)) {b:Bind}(hb:b∈bs):
  bE (QL 403) (fK bs b)∧((∀E,n*3≤E→cw kQ E (fK bs b) r0≤3+E)∧(∀x∈tyR (fK bs b),x∈U)∧tlC (fK bs b)≤6000)∧m30 (fK bs b)≤31*(eU bs/15+2)∧m30 (fK bs b)≤10000000:=by
 have I:=h.bind hb;obtain⟨⟨g1,g2,g3,g4,g5,g6,g7,g8⟩,_,Y,_⟩:=aJ.1 h.q;have hs:=h.sz;rw[m30] at hs;have hm:=gY hb;have O:w30 ([]:Str)=30:=rfl;have em:m30 (fK bs b)=31+m30 b.body+eU bs:=by
  unfold fK;rw[m30,bV,bV,fQ,O];omega
 have Z:m30 b.body+31≤eU bs:=by
  have h1:=u2 bs;have h2:m30 b.body≤bV (bs.map Bind.body):=dQ (Ad.2 ⟨b,hb,rfl⟩);have h3:1≤bs.length:=length_pos_of_mem hb;omega
 refine⟨?_,⟨fun E W=>?_,fun x hx=>?_,?_⟩,by omega,by omega⟩
 ·unfold fK;refine aJ.2 ⟨⟨by simp[okF],fun e=>absurd e (by decide),rfl,g4,?_,fun e=>absurd e (by decide),g7,by simp⟩,by simpa using I.q,Y,by simp⟩;unfold lw at g5 ⊢;rw[O];have:=fR s;simp only[Bj,sum_nil];omega
 ·unfold fK;have g:=gR.1 (h.cw E W);refine gR.2 ⟨g.1,by rw[dZ];omega,fun x hx=>?_,g.2.2.2.1,by simp⟩;rw[κ.1 hx,ψ (by decide)];exact I.cw E W
 ·unfold fK at hx;rcases bF.1 hx with h1 | ⟨y,J,h1,_⟩ | ⟨y,J,h1⟩ | ⟨y,J,_⟩
  ·cases h1
  ·rw[κ.1 J] at h1;exact I.ty x h1
  ·exact h.ty x (bF.2 (.inr (.inr (.inl ⟨y,J,h1⟩))))
  ·cases J
 ·unfold fK;have g:=nN (f:=8) (n:=i) (s:=s) (t:=t) (ks:=ks) (bs:=bs) (al:=al);have ht:=h.tl;have:=(aAj (K:=6000) (f:=8) (n:=0) (s:=[]) (t:=zTy) (ks:=[b.body]) (bs:=bs) (al:=[])).2 ⟨fun x hx=>by rw[κ.1 hx];exact I.tl,fun x hx=>le_trans (g.2.1 x hx) ht,by simp⟩
  rwa [ψ (by decide),Ba] at this
theorem aDg {i:Int}{s:Str}{t:Ty}{ks:List Core}{bs:List Bind}{al:List Alt}(h:bE (QL 403) (.mk 8 i s t ks bs al)):(∃a,ks=[a])∧al=[]∧bs.length≤12:=by
 obtain⟨⟨h1,_,_,_,h5,_⟩,_⟩:=aJ.1 h;have q:=a7g h5;rw[ζ] at q;unfold okF at h1;rw[ψ (by decide),ψ (by decide),ξ rfl] at h1;obtain⟨g1,g2⟩:=θ h1;rw[ζ] at g2;exact⟨Bm.1 g1,Bi.1 g2,q⟩
theorem aUm:∀l:List (Str×List Str),31*l.length≤(l.map fun p=>1+w30 p.1+(p.2.map fun v=>1+w30 v).sum).sum
 | []=>by simp
 | p::l=>by
  have h1:=aUm l;have h2:=fR p.1;rw[Al,Cc,Am];omega
theorem zY {i:Int}{s:Str}{t:Ty}{ks:List Core}{bs:List Bind}{al:List Alt}(h:bE (QL 403) (.mk 9 i s t ks bs al)):(∃a,ks=[a])∧bs=[]∧al.length≤12∧∀a∈al,a.vars.length≤12:=by
 obtain⟨⟨h1,_,_,_,h5,_⟩,_⟩:=aJ.1 h;unfold okF at h1;rw[ψ (by decide),ψ (by decide),ψ (by decide),ξ rfl] at h1;obtain⟨g1,g2⟩:=θ h1;rw[ζ] at g2;refine⟨Bm.1 g1,Bi.1 g2,?_,fun a ha=>a7h h5 (Ad.2 ⟨a,ha,rfl⟩)⟩;unfold lw at h5;have q:=aUm (al.map ahd);rw[ζ] at q;have:=fR s;omega
theorem aWk (hn:n≤299) (W:U.length≤480000) {i:Int}{s:Str}{t:Ty}{a:Core}{bs:List Bind}(h:ST n U (.mk 8 i s t [a] bs [])):
  PO 1000 650000 403 (eU bs/15+2) a (bs.map (fK bs))∧∀r,PR 403 (eU bs/15+2) a (bs.map (fK bs)) r→SR (n+1) U (m30 (.mk 8 i s t [a] bs [])) r:=by
 have ha:=h.kid (by decide) (x:=a) φ;have I:(bs.map (fK bs)).length≤12:=by rw[ζ];exact(aDg h.q).2.2
 have hl:∀b∈bs.map (fK bs),bE (QL 403) b∧((∀E,n*3≤E→cw kQ E b r0≤3+E)∧(∀x∈tyR b,x∈U)∧tlC b≤6000)∧m30 b≤31*(eU bs/15+2)∧m30 b≤10000000:=fun b hb=>by
  obtain⟨Y,J,rfl⟩:=Ad.1 hb;exact aX3 h J
 have O:=ar2 (a:=m30 a) (b:=eU bs) (s:=m30 (.mk 8 i s t [a] bs [])) (by rw[m30,bV,bV];omega);exact⟨a4k hn W ha (fun b hb=>(hl b hb).2.1) I h.sz (by omega) O (fun b hb=>(hl b hb).1) (fun b hb=>(hl b hb).2.2.1) (fun b hb=>(hl b hb).2.2.2),fun _=>aWj ha (fun b hb=>(hl b hb).2.1) I O⟩
theorem aT0 (hn:n≤299) (W:U.length≤480000) {a:Alt}{c:Core}{s:Nat}(hs:m30 a.body+m30 c≤s) (J:s≤3500000) (ha:ST n U a.body) (Y:a.vars.length≤12) {l:List Core}(g1:∀x∈l,ST n U x) (g2:(l.map m30).sum≤m30 c) (hl:l.length=a.vars.length):
  PO 1000 650000 403 (m30 c/31+1) a.body l∧∀r,PR 403 (m30 c/31+1) a.body l r→SR (n+1) U s r:=by
 have hm:∀b∈l,m30 b≤m30 c:=fun b hb=>le_trans (aDz hb) g2
 have I:∀b∈l,(∀E,n*3≤E→cw kQ E b r0≤3+E)∧(∀x∈tyR b,x∈U)∧tlC b≤6000:=fun b hb=>⟨(g1 b hb).cw,(g1 b hb).ty,(g1 b hb).tl⟩
 have O:=ar1 hs;exact⟨a4k hn W ha I (by omega) J (by omega) O (fun b hb=>(g1 b hb).q) (fun b hb=>by have:=hm b hb;omega) (fun b hb=>by have:=hm b hb;omega),fun _=>aWj ha I (by omega) O⟩
theorem aQm (hn:n≤299) (I:U.length≤480000) {a:Alt}{c:Core}{s:Nat}(hs:m30 a.body+m30 c≤s) (q:s≤3500000) (ha:ST n U a.body) (hc:ST n U c) (J:a.vars.length≤12) {nm:Str}{l:List Core}(O:gvC c=some (nm,l)) (hl:l.length=a.vars.length):
  PO 1000 650000 403 (m30 c/31+1) a.body l∧∀r,PR 403 (m30 c/31+1) a.body l r→SR (n+1) U s r:=by
 obtain⟨g1,g2⟩:=a52 _ c (le_refl _) hc nm l O;exact aT0 hn I hs q ha J g1 g2 hl
theorem aHm {x r:Core}:∀{ks:List Core}{j:Nat},ks[j]?=some x→bV (ks.set j r)+m30 x=bV ks+m30 r
 | y::ks,0,h=>by
  have e:y=x:=by simpa using h
  subst e;rw[set_cons_zero,bV,bV];omega
 | y::ks,j+1,h=>by
  rw[Cp,bV,bV];have:=aHm (r:=r) (ks:=ks) (j:=j) (by simpa using h);omega
theorem a4i {f i:Int}{s:Str}{t:Ty}{ks:List Core}{bs:List Bind}{al:List Alt}(O:¬f=7) (h:ST n U (.mk f i s t ks bs al)) {j:Nat}{x r:Core}(hx:ks[j]?=some x) (J:SR (n+1) U (m30 x) r):
  SR (n+1) U (m30 (.mk f i s t ks bs al)) (j4 (.mk f i s t ks bs al) j r):=by
 have Y:=δ hx;have hin:∀y∈ks.set j r,y=r∨y∈ks:=fun y I=>(Cv I).symm
 obtain⟨g1,g2,g3,g4⟩:=aJ.1 h.q;unfold j4;refine⟨aJ.2 ⟨by rw[Cd];exact g1,fun y I=>?_,g3,g4⟩,fun E Z=>?_,fun y I=>?_,?_,?_⟩
 ·rcases hin y I with rfl | I
  ·exact J.q
  ·exact g2 y I
 ·obtain⟨c1,c2,c3,c4,c5⟩:=gR.1 (h.cw E (by omega));refine gR.2 ⟨c1,c2,fun y I=>?_,c4,c5⟩;rcases hin y I with rfl | I
  ·rw[ψ O];exact J.cw E Z
  ·exact c3 y I
 ·rcases bF.1 I with h1 | ⟨z,W,h1,_⟩ | h1
  ·exact h.ty y (bF.2 (.inl h1))
  ·rcases hin z W with rfl | W
   ·exact J.ty y h1
   ·exact h.ty y (bF.2 (.inr (.inl ⟨z,W,h1,.inl O⟩)))
  ·exact h.ty y (bF.2 (.inr (.inr h1)))
 ·have g:=nN (f:=f) (n:=i) (s:=s) (t:=t) (ks:=ks) (bs:=bs) (al:=al);have ht:=h.tl;have:=(aAj (K:=84000) (f:=f) (n:=i) (s:=s) (t:=t) (ks:=ks.set j r) (bs:=bs) (al:=al)).2 ⟨fun y I=>?_,fun y I=>by have:=g.2.1 y I;omega,fun y I=>by have:=g.2.2 y I;omega⟩
  ·rwa [ψ O,Ba] at this
  ·rcases hin y I with rfl | I
   ·exact J.tl
   ·have:=g.1 y I;omega
 ·have g1:=aHm (r:=r) hx;have g2:=dQ Y;have e:m30 (.mk f i s t (ks.set j r) bs al)=m30 (.mk f i s t ks bs al)-m30 x+m30 r:=by
   rw[m30,m30];omega
  rw[e];exact ar4 (by rw[m30];omega) J.sz
end
theorem eM {bd:List Bind}{k:Nat}{f i:Int}{s:Str}{t:Ty}{ks:List Core}{bs:List Bind}{al:List Alt}:dT bd (k+1) (.mk f i s t ks bs al)=
  if f=1 then(match bd.find? fun b=>decide (b.name=s) with | some b=>(b.body,0) | none=>(zC,51))
  else if f=4∨f=6 then
   (if f=4∧(ks.headD zC).form=5 then(bW (m30 ((ks.headD zC).kids.headD zC)) ((ks.headD zC).kids.headD zC) (ks.headD zC).name (ks.getD 1 zC),0)
   else if f=6∧(ks.headD zC).form=7 then(sTR (m30 ((ks.headD zC).kids.headD zC)) ((ks.headD zC).kids.headD zC) (ks.headD zC).name t,0)
   else qY (dT bd k) (.mk f i s t ks bs al) 0)
  else if f=8 then(uV (ks.headD zC) (bs.map Bind.name) (bs.map (fK bs)),0)
  else if f=9 then(if shC (ks.headD zC)=true then(match al.findSome? fun a=>eV a (ks.headD zC) with | some r=>(r,0) | none=>(zC,52)) else qY (dT bd k) (.mk f i s t ks bs al) 0)
  else if f=10 then
   (if ¬shC (ks.headD zC)=true then qY (dT bd k) (.mk f i s t ks bs al) 0
   else if ¬shC (ks.getD 1 zC)=true then qY (dT bd k) (.mk f i s t ks bs al) 1
   else if(ks.headD zC).form=3∧(ks.getD 1 zC).form=3 then dM s (ks.headD zC).n (ks.getD 1 zC).n
   else(zC,51))
  else if f=11 then(zC,52)
  else(zC,51):=by rw[dT];rfl
structure BI (U:List Str) (bd:List Bind):Prop where
 len:bd.length≤1000
 all:∀b∈bd,ST 0 U b.body
theorem aQk {n w:Nat}{U:List Str}{s:Str}{a b:Int}(h:(dM s a b).2=0):SR n U w (dM s a b).1:=by
 have hi:∀m,SR n U w (iQ m):=fun m=>aQl (by decide) (by decide) (by decide) (by decide)
 have ht:∀c,SR n U w (qR c):=fun c=>by cases c<;>exact aQl (by decide) (by decide) (by decide) (by decide)
 unfold dM at h ⊢;by_cases h1:s=aVc
 ·rw[ξ h1];exact hi _
 rw[ψ h1] at h ⊢;by_cases h1:s=aU9
 ·rw[ξ h1];exact hi _
 rw[ψ h1] at h ⊢;by_cases h1:s=aVb
 ·rw[ξ h1];exact hi _
 rw[ψ h1] at h ⊢;by_cases h1:s=aKk
 ·rw[ξ h1] at h ⊢;by_cases h0:b=0
  ·rw[ξ h0] at h;cases h
  ·rw[ψ h0];exact hi _
 rw[ψ h1] at h ⊢;by_cases h1:s=nEq
 ·rw[ξ h1];exact ht _
 rw[ψ h1] at h ⊢;by_cases h1:s=nLt
 ·rw[ξ h1];exact ht _
 ·rw[ψ h1] at h;cases h
theorem aHv {q:Bool}{p:CE}{g:Core→Core}(h:(jT q p g).2=0):q=false∧p.2=0∧(jT q p g).1=g p.1:=by
 unfold jT at h ⊢;cases q with
 | true=>cases h
 | false=>
  rw[ψ Ao] at h ⊢;by_cases h0:p.2=0
  ·rw[ξ h0];exact⟨rfl,h0,rfl⟩
  ·rw[ψ h0] at h;exact absurd h h0
theorem aGn (Z:cE 540000000000) {n:Nat}{U:List Str}(hn:n≤299) (hU:U.length≤480000) {bd:List Bind}(hB:BI U bd):∀(k:Nat) (c:Core),m30 c≤k→ST n U c→(dT bd k c).2=0→SR (n+1) U (m30 c) (dT bd k c).1:=by
 intro k
 induction k with
 | zero=>intro c h;have:=dB c;omega
 | succ k ih=>
 intro c h hc he;obtain⟨f,i,s,t,ks,bs,al⟩:=c;have J:∀j,¬f=7→(qY (dT bd k) (.mk f i s t ks bs al) j).2=0→SR (n+1) U (m30 (.mk f i s t ks bs al)) (qY (dT bd k) (.mk f i s t ks bs al) j).1:=fun j h7 he=>by
  unfold qY at he ⊢;cases hx:ks[j]? with
  | none=>
   have Y:(Core.mk f i s t ks bs al).kids[j]?=none:=hx;rw[Y] at he;cases he
  | some x=>
   have Y:(Core.mk f i s t ks bs al).kids[j]?=some x:=hx;rw[Y] at he ⊢;dsimp only at he ⊢;obtain⟨_,e2,O⟩:=aHv he;rw[O];have hxm:=δ hx;exact a4i h7 hc hx (ih x (by have:=dQ hxm;rw[m30] at h;omega) (hc.kid h7 hxm) e2)
 rw[eM] at he ⊢;by_cases h1:f=1
 ·rw[ξ h1] at he ⊢;cases hf:bd.find? fun b=>decide (b.name=s) with
  | none=>rw[hf] at he;cases he
  | some b=>exact((hB.all b (List.mem_of_find?_eq_some hf)).mono (Ak _)).sr
 rw[ψ h1] at he ⊢;by_cases h46:f=4∨f=6
 ·rw[ξ h46] at he ⊢;by_cases ha:f=4∧(ks.headD zC).form=5
  ·rw[ξ ha];obtain⟨rfl,ha⟩:=ha;obtain⟨⟨a,b,rfl⟩,rfl,rfl⟩:=lT hc.q (.inl rfl);have W:=hc.kid (by decide) (x:=a) φ;have kb:=hc.kid (by decide) (x:=b) (η _ φ);obtain⟨f',i',s',t',ks',bs',al'⟩:=a;have ha:f'=5:=ha;subst ha;obtain⟨⟨body,rfl⟩,rfl,rfl⟩:=dG W.q (.inl rfl);exact(aWl Z hn hU (W.kid (by decide) (x:=body) φ) kb (by rw[m30,bV,bV,bV,m30,bV,bV];omega)).2
  rw[ψ ha] at he ⊢;by_cases hb:f=6∧(ks.headD zC).form=7
  ·rw[ξ hb];obtain⟨rfl,hb⟩:=hb;obtain⟨⟨a,rfl⟩,rfl,rfl⟩:=dG hc.q (.inr (.inl rfl));have W:=hc.kid (by decide) (x:=a) φ;obtain⟨f',i',s',t',ks',bs',al'⟩:=a;have hb:f'=7:=hb;subst hb;obtain⟨⟨body,rfl⟩,rfl,rfl⟩:=dG W.q (.inr (.inr rfl));exact(aQj Z hn hU hc).2
  rw[ψ hb] at he ⊢;exact J 0 (by omega) he
 rw[ψ h46] at he ⊢;by_cases h8:f=8
 ·rw[ξ h8];subst h8;obtain⟨⟨a,rfl⟩,rfl,h12⟩:=aDg hc.q;obtain⟨g1,g2⟩:=aWk hn hU hc;exact g2 _ (aTa Z (by decide) (by decide) a _ _ (by rw[ζ,ζ]) (by rw[ζ];omega) g1).2
 rw[ψ h8] at he ⊢;by_cases h9:f=9
 ·rw[ξ h9] at he ⊢;subst h9;obtain⟨⟨a,rfl⟩,rfl,h12,hv⟩:=zY hc.q;cases hsh:shC a with
  | true=>
   have e:shC ([a].headD zC)=true:=hsh;rw[ξ e] at he ⊢;have W:=hc.kid (by decide) (x:=a) φ;cases hfs:al.findSome? fun x=>eV x ([a].headD zC) with
   | none=>rw[hfs] at he;cases he
   | some r=>
    obtain⟨x,hx,I⟩:=List.exists_of_findSome?_eq_some hfs;have kx:=hc.alt hx;have I:eV x a=some r:=I;have hm:=eS hx;have hsz:=hc.sz;show SR (n+1) U _ r;unfold eV at I;by_cases e1:x.form=3
    ·rw[ξ e1] at I;cases I;exact(kx.mono (Nat.le_succ _)).sr
    rw[ψ e1] at I;by_cases e2:x.form=2
    ·rw[ξ e2] at I;by_cases O:a.form=3∧a.n=x.n
     ·rw[ξ O] at I;cases I;exact(kx.mono (Nat.le_succ _)).sr
     ·rw[ψ O] at I;cases I
    rw[ψ e2] at I;cases hg:gvC a with
    | none=>rw[hg] at I;cases I
    | some p=>
     obtain⟨nm,l⟩:=p;rw[hg] at I;dsimp only at I;by_cases O:nm=x.name∧l.length=x.vars.length
     ·rw[ξ O] at I;cases I;obtain⟨g1,g2⟩:=aQm hn hU (s:=m30 (.mk 9 i s t [a] [] al)) (by rw[m30,bV,bV];omega) hsz kx W (hv x hx) hg O.2;exact g2 _ (aTa Z (by decide) (by decide) x.body _ _ O.2.symm (by have:=hv x hx;omega) g1).2
     ·rw[ψ O] at I;cases I
  | false=>
   have e:¬shC ([a].headD zC)=true:=by rw[show shC ([a].headD zC)=shC a from rfl,hsh];decide
   rw[ψ e] at he ⊢;exact J 0 (by decide) he
 rw[ψ h9] at he ⊢;by_cases h10:f=10
 ·rw[ξ h10] at he ⊢;by_cases g1:¬shC (ks.headD zC)=true
  ·rw[ξ g1] at he ⊢;exact J 0 (by omega) he
  rw[ψ g1] at he ⊢;by_cases g2:¬shC (ks.getD 1 zC)=true
  ·rw[ξ g2] at he ⊢;exact J 1 (by omega) he
  rw[ψ g2] at he ⊢;by_cases g3:(ks.headD zC).form=3∧(ks.getD 1 zC).form=3
  ·rw[ξ g3] at he ⊢;exact aQk he
  ·rw[ψ g3] at he;cases he
 rw[ψ h10] at he;by_cases h11:f=11
 ·rw[ξ h11] at he;cases he
 ·rw[ψ h11] at he;cases he
mutual
theorem jD {X:Nat}:∀c:Core,bE (QL X) c→m30 c≤X*eZ c
 | .mk f n s t ks bs al,h=>by
  obtain⟨⟨_,_,_,_,h5,_⟩,h2,h3,h4⟩:=aJ.1 h;have q:=wH ks h2;have I:=wI bs h3;have J:=wJ al h4;unfold lw at h5;rw[m30,eZ,Cz,Cz,Cz,mul_one];omega
theorem wH {X:Nat}:∀l:List Core,(∀x∈l,bE (QL X) x)→bV l≤X*dF l
 | [],_=>by rw[bV];exact Ak _
 | c::l,h=>by
  rw[bV,dF,Cz];have:=jD c (h c φ);have:=wH l fun x hx=>h x (η _ hx)
  omega
theorem wI {X:Nat}:∀l:List Bind,(∀x∈l,bE (QL X) x.body)→eU l≤X*lI l+((l.map bhd).map fun p=>1+w30 p.1).sum
 | [],_=>by rw[eU];exact Ak _
 | .mk s t c::l,h=>by
  rw[eU,lI,Cz,Al,Al,Cc];have:=jD c (h _ φ);have:=wI l fun x hx=>h x (η _ hx)
  show _≤_+(1+w30 s+_);omega
theorem wJ {X:Nat}:∀l:List Alt,(∀x∈l,bE (QL X) x.body)→fQ l≤X*lJ l+((l.map ahd).map fun p=>1+w30 p.1+(p.2.map fun v=>1+w30 v).sum).sum
 | [],_=>by rw[fQ];exact Ak _
 | .mk f n s v c::l,h=>by
  rw[fQ,lJ,Cz,Al,Al,Cc];have:=jD c (h _ φ);have:=wJ l fun x hx=>h x (η _ hx)
  show _≤_+(1+w30 s+(v.map fun v=>1+w30 v).sum+_);omega
end
mutual
theorem rF:∀c:Core,tlC c≤eZ c
 | .mk f n s t ks bs al=>by
  have q:=aAg ks;have I:=aAh bs;have J:=aAi al;rw[tlC,eZ];split<;>omega
theorem aAg:∀l:List Core,kP l≤dF l
 | []=>by rw[kP];exact Ak _
 | c::l=>by rw[kP,dF];have:=rF c;have:=aAg l;omega
theorem aAh:∀l:List Bind,rG l≤lI l
 | []=>by rw[rG];exact Ak _
 | .mk s t c::l=>by rw[rG,lI];have:=rF c;have:=aAh l;omega
theorem aAi:∀l:List Alt,qS l≤lJ l
 | []=>by rw[qS];exact Ak _
 | .mk f n s v c::l=>by rw[qS,lJ];have:=rF c;have:=aAi l;omega
end
theorem SR.st {n s:Nat}{U:List Str}{c:Core}(h:SR n U s c) (hs:eZ c≤6000):ST n U c:=
 ⟨h.q,h.cw,h.ty,le_trans (rF c) hs,by have:=jD c h.q;have:403*eZ c≤403*6000:=B9 _ hs;omega⟩
theorem x8 {p q:Prop} [Decidable p] [Decidable q] (h:(bif decide p then decide q else false)=true):p∧q:=by
 by_cases hp:p
 ·rw[Af hp] at h;exact⟨hp,θ h⟩
 ·rw[Ae hp] at h;cases h
theorem RowsLe.snoc {r r':List C}(h:CsLe r r'):∀l:List (List C),RowsLe (l++[r]) (l++[r'])
 | []=>.cons h .nil
 | x::l=>.cons (CsLe.refl x) (RowsLe.snoc h l)
def aHw {α:Type}(p:α→Bool):List α→Nat→Int
 | [],_=> -1
 | x::l,i=>if p x=true then(i:Int) else aHw p l (i+1)
theorem u4 {α:Type}(p:α→Bool):∀(l:List α) (i:Nat),(∃(k:Nat) (x:α),aHw p l i=((i+k:Nat):Int)∧l[k]?=some x∧l.find? p=some x)∨(aHw p l i= -1∧l.find? p=none)
 | [],i=>.inr ⟨rfl,rfl⟩
 | x::l,i=>by
  rw[aHw,List.find?_cons];cases h:p x with
  | true=>rw[ξ rfl];exact .inl ⟨0,x,rfl,rfl,rfl⟩
  | false=>
   rw[ψ Ao];rcases u4 p l (i+1) with⟨k,y,h1,h2,h3⟩ | h
   ·exact .inl ⟨k+1,y,by rw[h1];congr 1;omega,h2,h3⟩
   ·exact .inr h
theorem aY5 (b:Bind) (f n:Int) (s:Str) (t:Ty) (ks:List Core) (bs:List Bind) (al:List Alt):aU Tryz.prog 123 ([.pa (b8 b)]++[R.vp 3 0].map V.one) [(3,.var 34 (b7 (.mk f n s t ks bs al)))] (B (decide (b.name=s))) [(3,.var 34 (b7 (.mk f n s t ks bs al)))]:=by
 refine bL (n:=9) tok Tryz.func123 rfl rfl rfl ?_;exact sgh [(0,.id 12)] rfl (sg rfl (aF rtT))
theorem aPj (l:List Bind) (hl:l.length≤1000000000) (f n:Int) (s:Str) (t:Ty) (ks:List Core) (bs:List Bind) (al:List Alt):aU Tryz.prog 97 [.one (.c (.sl 15 (l.map b8))),.one (.clo 123 [.vp 3 0])] [(3,.var 34 (b7 (.mk f n s t ks bs al)))] (I .i64 (aHw (fun b:Bind=>decide (b.name=s)) l 0)) [(3,.var 34 (b7 (.mk f n s t ks bs al)))]:=by
 have J:(l.map b8).length=l.length:=ζ _;refine bL (n:=19) tok Tryz.func97 rfl rfl rfl ?_;refine sg rfl (a8 (sg rfl (aC (aO (fun i:Nat=>mk [(0,.one (.c (.sl 15 (l.map b8)))),(1,.one (.clo 123 [.vp 3 0])),(7,I .i64 ((l.map b8).length:Int)),(8,I .i64 i)] [(3,.var 34 (b7 (.mk f n s t ks bs al)))]) (fun i=>i≤l.length∧aHw (fun b:Bind=>decide (b.name=s)) l 0=aHw (fun b:Bind=>decide (b.name=s)) (l.drop i) i) (fun i=>l.length-i) 0 ⟨Ak _,rfl⟩ sl ?_))));intro i ⟨hi,hid⟩;refine sg rfl (a8 (aA rfl (fun hb=>?_) (fun hb=>?_)))
 ·have q:=ltD hb J;obtain⟨b,O⟩:=aL q;have Z:=bM b8 O;have hc:=aY5 b f n s t ks bs al;have W:l.drop i=b::l.drop (i+1):=by rw[B8 q,(τ.1 O).2]
  rw[W,aHw] at hid;refine aD (a8 (aC (sg rfl (skh 5 [(3,.row i (b8 b))] rfl (kv (args:=[.pa (b8 b)]) hc ?_)))));refine az (aA rfl (fun hb=>?_) (fun hb=>?_))
  ·rw[ξ hb] at hid;rw[hid];exact sg rfl (aF rtT)
  ·rw[ψ (by rw[show decide (b.name=s)=false from hb];exact Ao)] at hid;exact aD (ag [] rfl ⟨i+1,⟨q,hid⟩,by dsimp only;omega,sl⟩)
 have Y:=geD hb J hi;subst Y;rw[drop_length,aHw] at hid;rw[hid];exact aM (sg rfl (aF rtT))
theorem aYt (m:Mod) (hm:m.binds.length≤1000000000) (f n:Int) (s:Str) (t:Ty) (ks:List Core) (bs:List Bind) (al:List Alt):
  aU Tryz.prog 69 [.pa (nU m),.pa (aB (.mk f n s t ks bs al))] [] (dP (match m.binds.find? fun b=>decide (b.name=s) with | some b=>(b.body,0) | none=>(zC,51))) []:=by
 have q:=aPj m.binds hm f n s t ks bs al;rcases u4 (fun b:Bind=>decide (b.name=s)) m.binds 0 with⟨k,b,h1,h2,h3⟩ | ⟨h1,h3⟩
 ·rw[h1,Ba] at q;rw[h3];have I:=bM b8 h2;have J:=(τ.1 h2).1
  refine bL (n:=22) tok Tryz.func69 rfl rfl rfl ?_;refine sg rfl (sk 4 rfl (kc q ?_));exact kz 1 rfl (a8 (sg rfl (aA rfl (fun hb=>absurd (θ hb) (by omega)) (fun _=>aD (sgh [(4,.row k (b8 b))] rfl (aF (fM trw)))))))
 ·rw[h1] at q;rw[h3];refine bL (n:=22) tok Tryz.func69 rfl rfl rfl ?_;refine sg rfl (sk 4 rfl (kc q ?_));exact kz 1 rfl (a8 (sg rfl (aA rfl (fun _=>sg rfl (aF (fM trw))) (fun hb=>absurd hb (by decide)))))
section
variable {n:Nat}{U:List Str}
theorem aZa (m:Mod) (i:Int) (s:Str) (t:Ty) (body b r:Core) (i':Int) (s':Str) (t':Ty) (q:aU Tryz.prog 99 [.pa (aB body),Go.AM.T s',.pa (aB b)] [] (.pa (aB r)) []):
  aU Tryz.prog 70 [.pa (nU m),.pa (aB (.mk 4 i s t [.mk 5 i' s' t' [body] [] [],b] [] []))] [] (dP (r,0)) []:=by
 refine bL (n:=54) tok Tryz.func70 rfl rfl rfl ?_;refine sg rfl (sgh [(2,.row 0 (aB (.mk 5 i' s' t' [body] [] [])))] rfl (a8 (aC (a8 (agF 4 [] rfl rfl rfl (aA rfl (fun _=>skh 10 [(2,.row 0 (aB body)),(8,.row 1 (aB b))] rfl (kc q ?_)) (fun hb=>absurd hb (by simp[Core.form]))))))));exact kz 2 rfl (aF (fM trw))
theorem a32 (I:cE 540000000000) (hn:n≤299) (J:U.length≤480000) (m:Mod) (i:Int) (s:Str) (t:Ty) (body b:Core) (i':Int) (s':Str) (t':Ty) (h:ST n U (.mk 4 i s t [.mk 5 i' s' t' [body] [] [],b] [] [])):
  aU Tryz.prog 70 [.pa (nU m),.pa (aB (.mk 4 i s t [.mk 5 i' s' t' [body] [] [],b] [] []))] [] (dP (bW (m30 body) body s' b,0)) []:=by
 have O:=h.kid (by decide) (x:=.mk 5 i' s' t' [body] [] []) φ;have W:=h.kid (by decide) (x:=b) (η _ φ);have q:=O.kid (by decide) (x:=body) φ;exact aZa m i s t body b _ i' s' t' (aWl I hn J q W (nm:=s') (s:=m30 body+m30 b) (le_refl _)).1.imp
theorem a30 (q:cE 540000000000) (hn:n≤299) (I:U.length≤480000) (m:Mod) (i:Int) (s:Str) (t:Ty) (body:Core) (i':Int) (s':Str) (t':Ty) (h:ST n U (.mk 6 i s t [.mk 7 i' s' t' [body] [] []] [] [])):
  aU Tryz.prog 70 [.pa (nU m),.pa (aB (.mk 6 i s t [.mk 7 i' s' t' [body] [] []] [] []))] [] (dP (sTR (m30 body) body s' t,0)) []:=by
 have J:=(aQj q hn I h (w:=0)).1.imp;refine bL (n:=54) tok Tryz.func70 rfl rfl rfl ?_;refine sg rfl (sgh [(2,.row 0 (aB (.mk 7 i' s' t' [body] [] [])))] rfl (a8 (aC (a8 (agF 4 [] rfl rfl rfl (aA rfl (fun hb=>absurd hb (by simp[Core.form])) (fun _=>a8 (agF 4 [] rfl rfl rfl (aA rfl (fun _=>skh 8 [(2,.row 0 (aB body))] rfl (kc J ?_)) (fun hb=>absurd hb (by simp[Core.form])))))))))));exact kz 2 rfl (aF (fM trw))
theorem a3z (m:Mod) (f i:Int) (s:Str) (t:Ty) (a:Core) (ks:List Core) (bs:List Bind) (al:List Alt) (p:CE) (h1:¬(f=4∧a.form=5)) (h2:¬(f=6∧a.form=7))
  (hk:aU Tryz.prog 124 [.pa (nU m),.pa (aB (.mk f i s t (a::ks) bs al)),I .i64 (0:Nat)] [] (dP p) []):
  aU Tryz.prog 70 [.pa (nU m),.pa (aB (.mk f i s t (a::ks) bs al))] [] (dP p) []:=by
 refine bL (n:=54) tok Tryz.func70 rfl rfl rfl ?_;refine sg rfl (sgh [(2,.row 0 (aB a))] rfl (a8 (AWp.cut (mk [(2,.one (.vp 2 0)),(3,.one (.vp 3 0)),(4,.one (.vp 4 0))] [(2,.var 81 ((nU m).map .c)),(3,.var 34 (b7 (.mk f i s t (a::ks) bs al))),(4,.var 34 bI)]) ?_ ?_)))
 ·exact aC (a8 (agF 4 [] rfl rfl rfl (aA rfl (fun hb=>(h1 (x8 hb)).elim) (fun _=>a8 (agF 4 [] rfl rfl rfl (aA rfl (fun hb=>(h2 (x8 hb)).elim) (fun _=>aD sl)))))))
 refine sk 2 rfl (kc hk ?_);exact kz 4 rfl (aF (fM trw))
theorem a6k (hI:cE 540000000000) (hn:n≤299) (hU:U.length≤480000) (m:Mod) (i:Int) (s:Str) (t:Ty) (a:Core) (bs:List Bind) (h:ST n U (.mk 8 i s t [a] bs [])):
  aU Tryz.prog 71 [.pa (nU m),.pa (aB (.mk 8 i s t [a] bs []))] [] (dP (uV a (bs.map Bind.name) (bs.map (fK bs)),0)) []:=by
 have h12:=(aDg h.q).2.2
 have Y:=(aTa hI (by decide) (by decide) a (bs.map Bind.name) (bs.map (fK bs)) (by rw[ζ,ζ]) (by rw[ζ];omega) (aWk hn hU h).1).1
 have O:(aT bs).length=bs.length:=by rw[bN,ζ]
 refine bL (n:=39) tok Tryz.func71 rfl rfl rfl ?_;refine sg rfl (sg rfl (sg rfl (AWp.sub (Sub.own (t:=6) (id:=720) 9 1 rfl rfl) ?_)));refine AWp.sub (Sub.own (t:=7) (id:=721) 34 10 rfl rfl) ?_;refine a8 (sg rfl (aC (aO (fun k:Nat=>mk [(3,.one (.vp 3 0)),(4,.one (.vp 4 0)),(6,.one (.hs 720 0 ((bs.take k).map Bind.name).length ((bs.take k).map Bind.name).length)),(7,.one (.hs 721 0 ((bs.take k).map (fK bs)).length ((bs.take k).map (fK bs)).length)),(11,.one (.c (.sl 15 (aT bs)))),(12,I .i64 ((aT bs).length:Int)),(13,I .i64 k)] [(3,.var 34 (b7 (.mk 8 i s t [a] bs []))),(4,.var 34 bI),(720,.arr 9 1 (((bs.take k).map Bind.name).map bC) 0),(721,.arr 34 10 (((bs.take k).map (fK bs)).map aB) 0)]) (fun k=>k≤bs.length) (fun k=>bs.length-k) 0 (Ak _) sl ?_)));intro k hk;refine sg rfl (a8 (aA rfl (fun hb=>?_) (fun hb=>?_)))
 ·have W:=ltD hb O;obtain⟨b,J⟩:=aL W;have hbi':=c9 J;have e1:(bs.take (k+1)).map Bind.name=(bs.take k).map Bind.name++[b.name]:=by rw[Bh,J,A6];rfl
  have e2:(bs.take (k+1)).map (fK bs)=(bs.take k).map (fK bs)++[fK bs b]:=by rw[Bh,J,A6];rfl
  have hl1:((bs.take k).map Bind.name).length≤12:=by rw[ζ,At];omega
  have hl2:((bs.take k).map (fK bs)).length≤12:=by rw[ζ,At];omega
  have hx1:(((bs.take k).map Bind.name).map bC).length=((bs.take k).map Bind.name).length:=ζ _;have hx2:(((bs.take k).map (fK bs)).map aB).length=((bs.take k).map (fK bs)).length:=ζ _;generalize (bs.take k).map Bind.name=N at *;generalize (bs.take k).map (fK bs)=L at *;refine aD (a8 (aC (sgh [(0,.row k (b8 b))] rfl (sgh [(3,.all)] rfl (ag [(5,.all),(7,.all)] rfl (AWp.sub (Sub.arrWeak (x:=721) rfl (RowsLe.snoc (r':=aB (fK bs b)) ?_ (L.map aB))) ?_))))))
  ·repeat (first | exact .nil | apply Go.AM.CsLe.cons .refl | apply Go.AM.CsLe.cons .nl)
  refine ag [] rfl ⟨k+1,W,by dsimp only;omega,?_⟩;dsimp only;rw[e1,e2];exact sl
 have Z:=geD hb O hk;subst Z;rw[As];refine aM (AWp.sub (Sub.freeze (id:=720) rfl) ?_);refine AWp.sub (Sub.freeze (id:=721) rfl) ?_;refine skh 6 [(2,.row 0 (aB a))] rfl (kc Y ?_);exact kz 2 rfl (aF (fM trw))
end
noncomputable def tkP (a:Alt) (c:Core):Core×Bool:=
 if a.form=3 then(a.body,true)
 else if a.form=2 then(a.body,decide (c.form=3)&&decide (c.n=a.n))
 else match gvC c with
  | some (s,l)=>if s=a.name∧l.length=a.vars.length then(uV a.body a.vars l,true) else(zC,false)
  | none=>(zC,false)
theorem aLj (a:Alt) (c:Core):eV a c=if(tkP a c).2=true then some (tkP a c).1 else none:=by
 unfold eV tkP;by_cases h3:a.form=3
 ·rw[ξ h3,ξ h3];rfl
 rw[ψ h3,ψ h3];by_cases h2:a.form=2
 ·rw[ξ h2,ξ h2];by_cases h:c.form=3∧c.n=a.n
  ·rw[ξ h,ξ (by simp[h.1,h.2])]
  ·rw[ψ h,ψ (by simpa using h)]
 rw[ψ h2,ψ h2];cases gvC c with
 | none=>rfl
 | some p=>
  obtain⟨s,l⟩:=p;dsimp only;by_cases h:s=a.name∧l.length=a.vars.length
  ·simp[ξ h]
  ·simp[ψ h]
theorem a0t {f i:Int}{s:Str}{vs:List Str}{body:Core}{cf cn:Int}{cs:Str}{q:Ty}{ks:List Core}{bs:List Bind}{al:List Alt}:tkP (.mk f i s vs body) (.mk cf cn cs q ks bs al)=
  if f=3 then(body,true)
  else if f=2 then(body,decide (cf=3)&&decide (cn=i))
  else match gvC (.mk cf cn cs q ks bs al) with
   | some (s1,l)=>if s1=s∧l.length=vs.length then(uV body vs l,true) else(zC,false)
   | none=>(zC,false):=rfl
theorem aYy (a:Alt) (c:Core) (hl:aV c≤570000000000) (J:aU Tryz.prog 68 [.pa (aB c)] [] (aJx (gvC c)) [])
  (hp:∀s l,gvC c=some (s,l)→l.length=a.vars.length→aU Tryz.prog 125 [.pa (aB a.body),bK a.vars,.one (.c (.sl 10 (l.map aB)))] [] (.pa (aB (uV a.body a.vars l))) []):
  aU Tryz.prog 126 [.pa (cD a),.pa (aB c)] [] (.tup [.pa (aB (tkP a c).1),B (tkP a c).2]) []:=by
 obtain⟨f,i,s,vs,body⟩:=a;obtain⟨cf,cn,cs,O,ks,bs,al⟩:=c;rw[a0t];refine bL (n:=58) tok Tryz.func126 rfl rfl rfl ?_;refine sg rfl (a8 (sg rfl ?_));by_cases h3:f=3
 ·subst h3;rw[ξ rfl];exact aC (sg rfl (aA rfl (fun _=>sg rfl (aF (fM trw))) (fun hb=>by simp[Alt.form] at hb)))
 rw[ψ h3];by_cases h2:f=2
 ·subst h2;rw[ξ rfl];refine aC (sg rfl (aA rfl (fun hb=>by simp[Alt.form] at hb) (fun _=>sg rfl (aA rfl (fun _=>?_) (fun hb=>by simp[Alt.form] at hb)))));by_cases hc:cf=3
  ·have hd:decide (cf=3)=true:=Af hc;have e:(decide (cf=3)&&decide (cn=i))=decide (cn=i):=by rw[hd];rfl
   rw[e];exact sgh [(5,.bv true),(11,.bv true)] rfl (aF (fM trw))
  ·have hd:decide (cf=3)=false:=Ae hc;have e:(decide (cf=3)&&decide (cn=i))=false:=by rw[hd];rfl
   rw[e];exact sgh [(5,.bv false),(11,.bv false)] rfl (aF (fM trw))
 rw[ψ h2];refine AWp.cut (mk [(2,.one (.vp 2 0)),(3,.one (.vp 3 0)),(4,.one (.vp 4 0))] [(2,.var 71 ((cD (.mk f i s vs body)).map .c)),(3,.var 34 (b7 (.mk cf cn cs O ks bs al))),(4,.var 34 bI)]) ?_ ?_
 ·exact aC (sg rfl (aA rfl (fun hb=>absurd (θ hb) h3) (fun _=>sg rfl (aA rfl (fun hb=>absurd (θ hb) h2) (fun _=>aD sl)))))
 cases I:gvC (.mk cf cn cs O ks bs al) with
 | none=>
  rw[I] at J;exact sgh [(1,.pc (aJx none))] rfl (a8 (a8 (agF 3 [] rfl rfl rfl (aA rfl (fun _=>sg rfl (aF (fM trw))) (fun hb=>by simp at hb)))))
 | some p=>
  obtain⟨s1,q⟩:=p;rw[I] at J;have Z:(q.map aB).length=q.length:=ζ _;have aa:(vs.map bC).length=vs.length:=ζ _;dsimp only;refine sgh [(1,.pc (aJx (some (s1,q))))] rfl (a8 (a8 (agF 3 [] rfl rfl rfl (aA rfl (fun hb=>?_) (fun hb=>?_)))))
  ·have hn:¬(s1=s∧q.length=vs.length):=by
    rintro⟨rfl,h⟩;simp[h,Alt.name,Alt.vars] at hb
   rw[ψ hn];exact sg rfl (aF (fM trw))
  ·have W:s1=s∧q.length=vs.length:=by
    simp at hb;have h2:(q.length:Int)=(vs.length:Int):=hb.2;exact⟨hb.1,by omega⟩
   rw[ξ W];have Y:=hp s1 q I W.2;refine aD (sk 5 rfl (kc Y ?_));exact kz 2 rfl (aF (fM trw))
theorem aY8 (m:Mod) (i:Int) (s:Str) (t:Ty) (a:Core) (al:List Alt) (p:CE) (hl:al.length≤12) (W:aU Tryz.prog 30 [.pa (aB a)] [] (B (shC a)) [])
  (hk:shC a=false→aU Tryz.prog 124 [.pa (nU m),.pa (aB (.mk 9 i s t [a] [] al)),I .i64 (0:Nat)] [] (dP p) [])
  (Y:∀x∈al,aU Tryz.prog 126 [.pa (cD x),.pa (aB a)] [] (.tup [.pa (aB (tkP x a).1),B (tkP x a).2]) []):
  aU Tryz.prog 72 [.pa (nU m),.pa (aB (.mk 9 i s t [a] [] al))] [] (dP (if shC a=true then(match al.findSome? fun x=>eV x a with | some r=>(r,0) | none=>(zC,52)) else p)) []:=by
 have O:(bP al).length=al.length:=by rw[bT,ζ]
 refine bL (n:=41) tok Tryz.func72 rfl rfl rfl ?_;refine sg rfl (a8 (skh 4 [(2,.row 0 (aB a))] rfl (kc W ?_)));refine kz 1 rfl ?_;cases hs:shC a with
 | false=>
  have hk:=hk hs;rw[ψ Ao];refine aA rfl (fun _=>sk 2 rfl (kc hk ?_)) nofun;exact kz 4 rfl (aF (fM trw))
 | true=>
  rw[ξ rfl];refine aA rfl nofun (fun _=>aD (a8 (sg rfl (aC (aO (fun k:Nat=>mk [(3,.one (.vp 3 0)),(4,.one (.vp 4 0)),(22,.one (.c (.sl 14 (bP al)))),(23,I .i64 ((bP al).length:Int)),(24,I .i64 k)] [(3,.var 34 (b7 (.mk 9 i s t [a] [] al))),(4,.var 34 bI)]) (fun k=>k≤al.length∧(al.findSome? fun x=>eV x a)=(al.drop k).findSome? fun x=>eV x a) (fun k=>al.length-k) 0 ⟨Ak _,rfl⟩ sl ?_)))));intro k ⟨hi,hid⟩;refine sg rfl (a8 (aA rfl (fun hb=>?_) (fun hb=>?_)))
  ·have J:=ltD hb O;obtain⟨x,hx⟩:=aL J;have hx':(bP al)[k]?=some (cD x):=by rw[bT];exact bM cD hx
   have ht:=Y x (δ hx);have Z:al.drop k=x::al.drop (k+1):=by rw[B8 J,(τ.1 hx).2]
   rw[Z,Bf,aLj] at hid;generalize tkP x a=q at *;obtain⟨qc,qb⟩:=q;refine aD (a8 (aC (sgh [(0,.row k (cD x))] rfl (skh 5 [(3,.row 0 (aB a))] rfl (kc ht ?_)))));refine kz 6 rfl (sg rfl ?_);cases qb with
   | true=>
    rw[ξ rfl] at hid;dsimp only at hid;rw[hid];exact aA rfl (fun _=>sg rfl (aF (fM trw))) nofun
   | false=>
    rw[ψ Ao] at hid;dsimp only at hid;exact aA rfl nofun (fun _=>aD (ag [] rfl ⟨k+1,⟨J,hid⟩,by dsimp only;omega,sl⟩))
  have aa:=geD hb O hi;subst aa;rw[drop_length,List.findSome?_nil] at hid;rw[hid];exact aM (sg rfl (aF (fM trw)))
theorem aO8 (i:Int) (s:Str) (t:Ty) (a r:Core) (bs:List Bind) (h12:bs.length≤12)
  (W:aU Tryz.prog 135 [.pa (aB a),bK (bs.map Bind.name),.one (.c (.sl 10 ((bs.map (fK bs)).map aB)))] [] (.pa (aB r)) []):
  aU Tryz.prog 100 [.pa (aB (.mk 8 i s t [a] bs []))] [] (.pa (aB r)) []:=by
 have J:(aT bs).length=bs.length:=by rw[bN,ζ]
 refine bL (n:=36) tok Tryz.func100 rfl rfl rfl ?_;refine sg rfl (sg rfl (sg rfl (AWp.sub (Sub.own (t:=3) (id:=720) 9 1 rfl rfl) ?_)));refine AWp.sub (Sub.own (t:=4) (id:=721) 34 10 rfl rfl) ?_;refine a8 (sg rfl (aC (aO (fun k:Nat=>mk [(1,.one (.vp 1 0)),(2,.one (.vp 2 0)),(3,.one (.hs 720 0 ((bs.take k).map Bind.name).length ((bs.take k).map Bind.name).length)),(4,.one (.hs 721 0 ((bs.take k).map (fK bs)).length ((bs.take k).map (fK bs)).length)),(8,.one (.c (.sl 15 (aT bs)))),(9,I .i64 ((aT bs).length:Int)),(10,I .i64 k)] [(1,.var 34 (b7 (.mk 8 i s t [a] bs []))),(2,.var 34 bI),(720,.arr 9 1 (((bs.take k).map Bind.name).map bC) 0),(721,.arr 34 10 (((bs.take k).map (fK bs)).map aB) 0)]) (fun k=>k≤bs.length) (fun k=>bs.length-k) 0 (Ak _) sl ?_)));intro k hk;refine sg rfl (a8 (aA rfl (fun hb=>?_) (fun hb=>?_)))
 ·have O:=ltD hb J;obtain⟨b,q⟩:=aL O;have Z:=c9 q;have e1:(bs.take (k+1)).map Bind.name=(bs.take k).map Bind.name++[b.name]:=by rw[Bh,q,A6];rfl
  have e2:(bs.take (k+1)).map (fK bs)=(bs.take k).map (fK bs)++[fK bs b]:=by rw[Bh,q,A6];rfl
  have hl1:((bs.take k).map Bind.name).length≤12:=by rw[ζ,At];omega
  have hl2:((bs.take k).map (fK bs)).length≤12:=by rw[ζ,At];omega
  have hx1:(((bs.take k).map Bind.name).map bC).length=((bs.take k).map Bind.name).length:=ζ _;have hx2:(((bs.take k).map (fK bs)).map aB).length=((bs.take k).map (fK bs)).length:=ζ _;generalize (bs.take k).map Bind.name=N at *;generalize (bs.take k).map (fK bs)=L at *;refine aD (a8 (aC (sgh [(0,.row k (b8 b))] rfl (sgh [(3,.all)] rfl (ag [(5,.all),(7,.all)] rfl (AWp.sub (Sub.arrWeak (x:=721) rfl (RowsLe.snoc (r':=aB (fK bs b)) ?_ (L.map aB))) ?_))))))
  ·repeat (first | exact .nil | apply Go.AM.CsLe.cons .refl | apply Go.AM.CsLe.cons .nl)
  refine ag [] rfl ⟨k+1,O,by dsimp only;omega,?_⟩;dsimp only;rw[e1,e2];exact sl
 have Y:=geD hb J hk;subst Y;rw[As];refine aM (AWp.sub (Sub.freeze (id:=720) rfl) ?_);refine AWp.sub (Sub.freeze (id:=721) rfl) ?_;refine skh 6 [(2,.row 0 (aB a))] rfl (kc W ?_);exact kz 1 rfl (aF (rtC trw))
def tkS (a:Alt) (c:Core):Bool:=decide (a.form=3) || (decide (a.form=2)&&(decide (c.form=3)&&decide (c.n=a.n)))
def tkC (a:Alt) (c:Core):Bool:=decide (a.form=1)&&(decide ((spH c).form=2)&&(decide ((spH c).name=a.name)&&decide ((spA c).length=a.vars.length)))
noncomputable def tkE (pt:Core→List Str→List Core→Core) (a:Alt) (c:Core):Option Core:=
 if tkS a c then some a.body else if tkC a c then some (pt a.body a.vars (spA c)) else none
theorem aYz (pt:Core→List Str→List Core→Core) (X:Nat) (al:List Alt) (c:Core) (hq:bE (QL X) c) (hsz:aV c≤570000000000) (hl:al.length≤12)
  (hput:∀a∈al,tkC a c=true→aU Tryz.prog 135 [.pa (aB a.body),bK a.vars,.one (.c (.sl 10 ((spA c).map aB)))] [] (.pa (aB (pt a.body a.vars (spA c)))) []):
  aU Tryz.prog 101 [.one (.c (.sl 14 (bP al))),.pa (aB c)] [] (dP (match al.findSome? fun a=>tkE pt a c with | some r=>(r,0) | none=>(zC,52))) []:=by
 have hsp:=aPc X c hq hsz;have hkA:(bP al).length=al.length:=by rw[bT,ζ]
 unfold spV at hsp;have hcA:∀a,tkC a c=(decide (a.form=1)&&(decide ((spH c).form=2)&&(decide ((spH c).name=a.name)&&decide ((spA c).length=a.vars.length)))):=fun _=>rfl
 have hte:∀a,tkE pt a c=if tkS a c then some a.body else if tkC a c then some (pt a.body a.vars (spA c)) else none:=fun _=>rfl
 have hts:∀a,tkS a c=(decide (a.form=3) || (decide (a.form=2)&&(decide (c.form=3)&&decide (c.n=a.n)))):=fun _=>rfl
 generalize spH c=H at *;generalize spA c=A at *;obtain⟨f,n,s,t,ks,bs,W⟩:=c;obtain⟨hf,hn,hs,ht,hks,hbs,has⟩:=H;have hkL:(A.map aB).length=A.length:=ζ _;refine bL (n:=74) tok Tryz.func101 rfl rfl rfl ?_;refine sg rfl (sk 1 rfl (kc hsp ?_));refine kz 6 rfl (a8 (sg rfl (aC (aO (fun k:Nat=>mk [(3,.one (.vp 3 0)),(4,.one (.vp 4 0)),(6,.one (.vp 6 0)),(7,.one (.c (.sl 10 (A.map aB)))),(15,.one (.c (.sl 14 (bP al)))),(16,I .i64 ((bP al).length:Int)),(17,I .i64 k)] [(3,.var 34 (b7 (.mk f n s t ks bs W))),(4,.var 34 bI),(6,.var 34 (b7 (.mk hf hn hs ht hks hbs has)))]) (fun k=>k≤al.length∧(al.findSome? fun a=>tkE pt a (.mk f n s t ks bs W))=(al.drop k).findSome? fun a=>tkE pt a (.mk f n s t ks bs W)) (fun k=>al.length-k) 0 ⟨Ak _,rfl⟩ sl ?_))));intro k ⟨hi,hid⟩;refine sg rfl (a8 (aA rfl (fun hb=>?_) (fun hb=>?_)))
 ·have hlt:=ltD hb hkA;obtain⟨x,hx⟩:=aL hlt;have hxm:=δ hx;have hx':(bP al)[k]?=some (cD x):=by rw[bT];exact bM cD hx
  have hdr:al.drop k=x::al.drop (k+1):=by rw[B8 hlt,(τ.1 hx).2]
  have hpx:=hput x hxm;have hcx:=hcA x;have hsx:=hts x;have Z:=hte x;rw[hdr,Bf] at hid;obtain⟨af,an,O,J,Y⟩:=x;have hcx:tkC (.mk af an O J Y) (.mk f n s t ks bs W)=(decide (af=1)&&(decide (hf=2)&&(decide (hs=O)&&decide (A.length=J.length)))):=hcx;have hsx:tkS (.mk af an O J Y) (.mk f n s t ks bs W)=(decide (af=3) || (decide (af=2)&&(decide (f=3)&&decide (n=an)))):=hsx;have Z:tkE pt (.mk af an O J Y) (.mk f n s t ks bs W)=if tkS (.mk af an O J Y) (.mk f n s t ks bs W)=true then some Y else if tkC (.mk af an O J Y) (.mk f n s t ks bs W)=true then some (pt Y J A) else none:=Z
  rw[hcx,hsx] at Z;rw[hcx] at hpx;have hkV:(J.map bC).length=J.length:=ζ _;refine aD (a8 (aC (sgh [(0,.row k (cD (.mk af an O J Y)))] rfl (aC ?_))));generalize hb0:(decide (af=3) || (decide (af=2)&&(decide (f=3)&&decide (n=an))))=b at *;generalize hq0:(decide (af=1)&&(decide (hf=2)&&(decide (hs=O)&&decide (A.length=J.length))))=q at *;refine a8 (AWp.cut (mk [(3,.one (.vp 3 0)),(4,.one (.vp 4 0)),(6,.one (.vp 6 0)),(7,.one (.c (.sl 10 (A.map aB)))),(15,.one (.c (.sl 14 (bP al)))),(16,I .i64 ((bP al).length:Int)),(17,I .i64 k),(9,.one (.vp 9 0)),(21,B b)] [(3,.var 34 (b7 (.mk f n s t ks bs W))),(4,.var 34 bI),(6,.var 34 (b7 (.mk hf hn hs ht hks hbs has))),(9,.var 71 ((cD (.mk af an O J Y)).map .c))]) ?_ ?_)
  ·refine sg rfl (aA rfl (fun hb=>?_) (fun hb=>?_))
   ·have h3:af=3:=θ hb;have e:b=true:=by rw[←hb0,Af h3];rfl
    exact aD (sl (he:=⟨rfl,rfl,rfl,rfl,rfl,rfl,rfl,rfl,(by show some (B (decide (af=3)))=some (B b);rw[e,Af h3]),trivial⟩))
   ·have h3:¬af=3:=Aa hb;have e3:decide (af=3)=false:=Ae h3;by_cases h2:af=2
    ·have e2:decide (af=2)=true:=Af h2;by_cases hc:f=3
     ·have ec:decide (f=3)=true:=Af hc;have e:b=decide (n=an):=by rw[←hb0,e3,e2,ec];rfl
      exact ag [(3,.bv true),(7,.bv true),(8,.bv true),(14,.bv true)] rfl (sl (he:=⟨rfl,rfl,rfl,rfl,rfl,rfl,rfl,rfl,(by rw[e];rfl),trivial⟩))
     ·have ec:decide (f=3)=false:=Ae hc;have e:b=false:=by rw[←hb0,e3,e2,ec];rfl
      exact ag [(3,.bv true),(7,.bv true),(8,.bv false),(14,.bv false)] rfl (sl (he:=⟨rfl,rfl,rfl,rfl,rfl,rfl,rfl,rfl,(by rw[e];rfl),trivial⟩))
    ·have e2:decide (af=2)=false:=Ae h2;have e:b=false:=by rw[←hb0,e3,e2];rfl
     exact ag [(3,.bv false),(7,.bv false),(8,.bv false),(14,.bv false)] rfl (sl (he:=⟨rfl,rfl,rfl,rfl,rfl,rfl,rfl,rfl,(by rw[e];rfl),trivial⟩))
  cases b with
  | true=>
   have hid':(al.findSome? fun a=>tkE pt a (.mk f n s t ks bs W))=some Y:=by rw[hid,Z];rfl
   rw[hid'];exact aA rfl (fun _=>sg rfl (aF (fM trw))) nofun
  | false=>
   refine aA rfl nofun (fun _=>a8 (AWp.cut (mk [(3,.one (.vp 3 0)),(4,.one (.vp 4 0)),(6,.one (.vp 6 0)),(7,.one (.c (.sl 10 (A.map aB)))),(15,.one (.c (.sl 14 (bP al)))),(16,I .i64 ((bP al).length:Int)),(17,I .i64 k),(9,.one (.vp 9 0)),(42,B q)] [(3,.var 34 (b7 (.mk f n s t ks bs W))),(4,.var 34 bI),(6,.var 34 (b7 (.mk hf hn hs ht hks hbs has))),(9,.var 71 ((cD (.mk af an O J Y)).map .c))]) ?_ ?_))
   ·by_cases h1:af=1
    ·have e1:decide (af=1)=true:=Af h1;by_cases h2:hf=2
     ·have e2:decide (hf=2)=true:=Af h2;by_cases h4:hs=O
      ·have e4:decide (hs=O)=true:=Af h4;have e:q=decide ((A.length:Int)=(J.length:Int)):=by rw[←hq0,e1,e2,e4];simp[Int.ofNat_inj]
       exact ag [(3,.bv true),(7,.bv true),(8,.bv true),(14,.bv true),(15,.bv true),(22,.bv true)] rfl (sl (he:=⟨rfl,rfl,rfl,rfl,rfl,rfl,rfl,rfl,(by show some (B (decide (((A.map aB).length:Int)=((J.map bC).length:Int))))=some (B q);rw[e,hkL,hkV]),trivial⟩))
      ·have e4:decide (hs=O)=false:=Ae h4;have e:q=false:=by rw[←hq0,e1,e2,e4];rfl
       exact ag [(3,.bv true),(7,.bv true),(8,.bv true),(14,.bv true),(15,.bv false),(22,.bv false)] rfl (sl (he:=⟨rfl,rfl,rfl,rfl,rfl,rfl,rfl,rfl,(by rw[e];rfl),trivial⟩))
     ·have e2:decide (hf=2)=false:=Ae h2;have e:q=false:=by rw[←hq0,e1,e2];rfl
      exact ag [(3,.bv true),(7,.bv true),(8,.bv false),(14,.bv false),(15,.bv false),(22,.bv false)] rfl (sl (he:=⟨rfl,rfl,rfl,rfl,rfl,rfl,rfl,rfl,(by rw[e];rfl),trivial⟩))
    ·have e1:decide (af=1)=false:=Ae h1;have e:q=false:=by rw[←hq0,e1];rfl
     exact ag [(3,.bv false),(7,.bv false),(8,.bv false),(14,.bv false),(15,.bv false),(22,.bv false)] rfl (sl (he:=⟨rfl,rfl,rfl,rfl,rfl,rfl,rfl,rfl,(by rw[e];rfl),trivial⟩))
   cases q with
   | true=>
    have hpx:=hpx rfl;have hid':(al.findSome? fun a=>tkE pt a (.mk f n s t ks bs W))=some (pt Y J A):=by rw[hid,Z];rfl
    rw[hid'];refine aA rfl (fun _=>sk 5 rfl (kc hpx ?_)) nofun;exact kz 2 rfl (aF (fM trw))
   | false=>
    refine aA rfl nofun (fun _=>aD (ag [] rfl ⟨k+1,⟨hlt,by rw[hid,Z];rfl⟩,by dsimp only;omega,?_⟩));exact sl
 have hge:=geD hb hkA hi;subst hge;rw[drop_length] at hid;rw[hid];exact aM (sg rfl (aF (fM trw)))
theorem aTc (b:Bind) (f n:Int) (s:Str) (t:Ty) (ks:List Core) (bs:List Bind) (al:List Alt):aU Tryz.prog 98 ([.pa (b8 b)]++[R.vp 3 0].map V.one) [(3,.var 34 (b7 (.mk f n s t ks bs al)))] (B (decide (b.name=s))) [(3,.var 34 (b7 (.mk f n s t ks bs al)))]:=by
 refine bL (n:=9) tok Tryz.func98 rfl rfl rfl ?_;exact sgh [(0,.id 712)] rfl (sg rfl (aF rtT))
theorem aTg (l:List Bind) (hl:l.length≤1000000000) (f n:Int) (s:Str) (t:Ty) (ks:List Core) (bs:List Bind) (al:List Alt):aU Tryz.prog 97 [.one (.c (.sl 15 (l.map b8))),.one (.clo 98 [.vp 3 0])] [(3,.var 34 (b7 (.mk f n s t ks bs al)))] (I .i64 (aHw (fun b:Bind=>decide (b.name=s)) l 0)) [(3,.var 34 (b7 (.mk f n s t ks bs al)))]:=by
 have J:(l.map b8).length=l.length:=ζ _;refine bL (n:=19) tok Tryz.func97 rfl rfl rfl ?_;refine sg rfl (a8 (sg rfl (aC (aO (fun i:Nat=>mk [(0,.one (.c (.sl 15 (l.map b8)))),(1,.one (.clo 98 [.vp 3 0])),(7,I .i64 ((l.map b8).length:Int)),(8,I .i64 i)] [(3,.var 34 (b7 (.mk f n s t ks bs al)))]) (fun i=>i≤l.length∧aHw (fun b:Bind=>decide (b.name=s)) l 0=aHw (fun b:Bind=>decide (b.name=s)) (l.drop i) i) (fun i=>l.length-i) 0 ⟨Ak _,rfl⟩ sl ?_))));intro i ⟨hi,hid⟩;refine sg rfl (a8 (aA rfl (fun hb=>?_) (fun hb=>?_)))
 ·have q:=ltD hb J;obtain⟨b,O⟩:=aL q;have Z:=bM b8 O;have hc:=aTc b f n s t ks bs al;have W:l.drop i=b::l.drop (i+1):=by rw[B8 q,(τ.1 O).2]
  rw[W,aHw] at hid;refine aD (a8 (aC (sg rfl (skh 5 [(3,.row i (b8 b))] rfl (kv (args:=[.pa (b8 b)]) hc ?_)))));refine az (aA rfl (fun hb=>?_) (fun hb=>?_))
  ·rw[ξ hb] at hid;rw[hid];exact sg rfl (aF rtT)
  ·rw[ψ (by rw[show decide (b.name=s)=false from hb];exact Ao)] at hid;exact aD (ag [] rfl ⟨i+1,⟨q,hid⟩,by dsimp only;omega,sl⟩)
 have Y:=geD hb J hi;subst Y;rw[drop_length,aHw] at hid;rw[hid];exact aM (sg rfl (aF rtT))
def maO (bd:List Bind) (c:Core):List (Nat×AObj):=[(2,.var 99 ((mN bd).map .c)),(3,.var 34 (b7 c))]
theorem pF (bd:List Bind) (c x:Core) (i:Nat) (p:CE) (hx:c.kids[i]?=some x) (hk:c.kids.length≤600000000000) (W:aU Tryz.prog 43 [.pa (mN bd),.pa (aB x)] [] (dP p) []):
  aU Tryz.prog 95 ([I .i64 (i:Int)]++[R.vp 2 0,R.vp 3 0].map V.one) (maO bd c) (dP (jT false p (j4 c i))) (maO bd (nQ false p c i)):=by
 obtain⟨f,n,s,t,ks,bs,al⟩:=c;have hx:ks[i]?=some x:=hx;have hk:ks.length≤600000000000:=hk;have hi:i<ks.length:=(τ.1 hx).1
 have Y:(aR ks).length=ks.length:=by rw[bD,ζ]
 have Z:=lE (aR ks) (by omega);have ab:(aR ks)[i]?=some (aB x):=by rw[bD];exact bM aB hx
 unfold maO;refine bL (n:=32) tok Tryz.func95 rfl rfl rfl ?_;refine sg rfl (skh 6 [(4,.row i (aB x))] rfl (kc W ?_));refine kz 6 rfl (a8 (sg rfl (aA rfl (fun hb=>?_) (fun hb=>?_))))
 ·have he:¬p.2=0:=by
   intro h;have hb:(!decide (p.2=0))=true:=hb;rw[Af h] at hb;cases hb
  have q:jT false p (j4 (.mk f n s t ks bs al) i)=(zC,p.2):=by unfold jT;rw[ψ Ao,ψ he]
  have J:nQ false p (.mk f n s t ks bs al) i=.mk f n s t ks bs al:=by unfold nQ;rw[ψ Ao,ψ he]
  rw[q,J];exact sg rfl (aF (fM trw))
 ·have he:p.2=0:=by
   have hb:(!decide (p.2=0))=false:=hb;by_cases h:p.2=0
   ·exact h
   ·rw[Ae h] at hb;cases hb
  have q:jT false p (j4 (.mk f n s t ks bs al) i)=(j4 (.mk f n s t ks bs al) i p.1,0):=by unfold jT;rw[ψ Ao,ξ he]
  have J:nQ false p (.mk f n s t ks bs al) i=j4 (.mk f n s t ks bs al) i p.1:=by unfold nQ;rw[ψ Ao,ξ he]
  rw[q,J];obtain⟨r,pe⟩:=p;have O:(aR ks).set i (aB r)=aR (ks.set i r):=by rw[bD,bD,aLt]
  have aa:(aR (ks.set i r)).length=ks.length:=by rw[bD,ζ,Cd]
  refine aD (sk 2 rfl (kc Z ?_));refine kz 2 rfl (sgh [(5,.row i (aB x))] rfl (AWp.sub (Sub.freeze (id:=702) rfl) ?_));refine AWp.sub (Sub.varPure (x:=3) (cs:=aB (.mk f n s t (ks.set i r) bs al)) rfl (.c .refl (.c .refl (.c .refl (.c .refl (.c .refl (.c .refl (.c .refl (.hs rfl (by rw[Cd]) (by rw[B4];show aR (ks.set i r)=List.take (aR ks).length ((aR ks).set i (aB r));rw[O,Ax];rw[aa,Y];exact le_refl _) (.c .refl (.c .refl .nil))))))))))) ?_;exact sg rfl (aF (fM trw))
end Go.Proofs.YtglfogjcijokpaaGreatDoor
