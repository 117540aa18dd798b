/-
  Texts Rd23 to Rd44 in one.
-/
import Derived.Test.YtpmheldmadendaaGreatDoorM7
open List (append_assoc cons_append dropWhile_cons drop_eq_getElem_cons drop_length length_append length_cons length_map length_nil length_set length_singleton length_tail length_take map_append mem_append mem_cons mem_cons_of_mem mem_cons_self mem_of_mem_take mem_singleton take_add_one take_append_drop take_length)
open Nat (le_of_lt le_refl le_trans lt_of_le_of_lt lt_of_lt_of_le mul_le_mul_right zero_le)
namespace Go.Proofs.YtpmheldmadendaaGreatDoor
open Go Go.AM
set_option maxRecDepth 20000
set_option maxHeartbeats 4000000
theorem yK (L:List Tk) (hZ:mT L) (R:List Tk) (i:Nat) (c:At L i R):b9 Tryz.prog 220 [uX L,I .i64 (i:Nat)] [] (tpV L (cL (3*R.length+2) 0 R)) []:=by
 have h:=(aBq L hZ (3*R.length+2)).2 (3*R.length+2) (le_refl _) 0 R i c (le_refl _) (by decide);refine bM (n:=13) tok Tryz.func220 rfl rfl rfl ?_;refine sg rfl (sk 2 rfl (kc h ?_));generalize cL (3*R.length+2) 0 R=w;cases w with
 | error e=>
  obtain⟨e,p⟩:=e;unfold tpV atV;exact kz 6 rfl (aD gS)
 | ok y=>
  obtain⟨x,R1⟩:=y;unfold tpV atV;exact kz 6 rfl (aD gS)
theorem aH5 (L:List Tk) (hZ:mT L) (R:List Tk) (i:Nat) (c:At L i R):b9 Tryz.prog 182 [uX L,I .i64 (i:Nat)] [] (tpV L (dI (3*R.length) 0 R)) []:=by
 have h:=(aBq L hZ (3*R.length)).1 (3*R.length) (le_refl _) 0 R i c (le_refl _) (by decide);refine bM (n:=13) tok Tryz.func182 rfl rfl rfl ?_;refine sg rfl (sk 2 rfl (kc h ?_));generalize dI (3*R.length) 0 R=w;cases w with
 | error e=>
  obtain⟨e,p⟩:=e;unfold tpV atV;exact kz 6 rfl (aD gS)
 | ok y=>
  obtain⟨x,R1⟩:=y;unfold tpV atV;exact kz 6 rfl (aD gS)
theorem lD (l:List (List C)) (h:l.length≤1000000):b9 Tryz.prog 221 [.one (.c (.sl 5 l))] [] (.one (.hs 720 0 l.length l.length)) [(720,.arr 113 5 l 0)]:=by
 refine bM (n:=8) tok Tryz.func221 rfl rfl rfl ?_;refine sg rfl (aPh 0 rfl (fun hl=>?_) ?_)
 ·subst hl;refine aA (sg rfl (aB rfl (fun _=>sg rfl (AWp.sub (Sub.own (t:=2) (id:=720) 113 5 rfl rfl) ?_)) nofun));exact aD rtT
 ·refine aA (sg rfl (aB rfl nofun (fun _=>aE (sgh [(0,.id 720)] rfl (AWp.sub (st2:=mk [(2,.one (.hs 720 0 l.length l.length))] [(720,.arr 113 5 l 0)]) sl ?_)))));exact aD rtT
def kV (s:Sch):List C:=[.sl 1 (s.vars.map bD),.sl 1 [],.sl 5 (s.preds.map aT),.int .i64 s.ty.form,.int .i64 s.ty.n,.str s.ty.name,.sl 4 (cW s.ty)]
def mH:Sch:=⟨[],[],zTy⟩
def spV (L:List Tk):SR→V
 | .ok (s,R)=>.tup [.pa (kV s),I .i64 ((L.length-R.length:Nat):Int),atV 0 0]
 | .error (e,p)=>.tup [.pa (kV mH),I .i64 0,atV e p]
theorem aIv (L:List Tk) (s:Sch) (R:List Tk):spV L (.ok (s,R))=.tup [.pa (kV s),I .i64 ((L.length-R.length:Nat):Int),atV 0 0]:=rfl
def aF1:List AM.R:=[.c .nl,.c .nl,.c .nl,.c (.int .i64 0),.c (.int .i64 0),.c (.str []),.c .nl]
theorem aEt (L:List Tk) (hZ:mT L) (R:List Tk) (i:Nat) (Y:At L i R) (hwt:wt L≤30000):b9 Tryz.prog 185 [uX L,I .i64 (i:Nat)] [] (spV L (cZ R)) []:=by
 have hp:=rJ L hZ R i Y;have ad:= @kJ R;have ae:= @iQ R;unfold cZ;refine bM (n:=74) tok Tryz.func185 rfl rfl rfl ?_;refine sg rfl (sk 2 rfl (kc hp ?_));generalize dL R=w at ad ae ⊢;cases w with
 | error e=>
  obtain⟨e,p⟩:=e;have he:=ae rfl;rw[qI];unfold aMg atV;exact kz 8 rfl (aA (sg rfl (aB rfl (fun _=>sg rfl (aD gS)) (fun hb=>absurd hb (by simp[he])))))
 | ok y=>
 obtain⟨ps,R1⟩:=y;obtain⟨k1,⟨q,k2,_⟩,k3,k4⟩:=ad rfl;obtain⟨af,hn1⟩:=Y.to k2 (k1 Y.e);rw[lU,qI,hn1];generalize i+q.length=j at af;have hty:=yK L hZ R1 j af;have ah:=gO (3*R1.length+2) 0 R1;have ai:=eS (3*R1.length+2) 0 R1;have aa:wt R≤30000:=by
  have:L=L.take i++R:=by rw[←Y.d,take_append_drop]
  rw[this] at hwt;exact le_trans oX hwt
 have hwtR1:wt R1≤30000:=by rw[k2] at aa;exact le_trans oX aa
 have hRl:=Y.lt;have hLl:=Y.l;unfold atV;refine kz 8 rfl (aA (sg rfl (aB rfl (fun hb=>absurd hb (by decide)) (fun _=>aE (sk 2 rfl (kc hty ?_))))));generalize cL (3*R1.length+2) 0 R1=w at ah ai ⊢;cases w with
 | error e=>
  obtain⟨e,p⟩:=e;have he:=ai e p rfl;rw[qH];unfold tpV atV;exact kz 8 rfl (aA (sg rfl (aB rfl (fun _=>sg rfl (aD gS)) (fun hb=>absurd hb (by simp[he])))))
 | ok y=>
 obtain⟨x,R2⟩:=y;obtain⟨hT,hTn⟩:=ah x R2 rfl;rw[hY,qH,aIv];unfold atV;dsimp only;generalize ((L.length-R2.length:Nat):Int)=m;refine kz 8 rfl (aA (sg rfl (aB rfl (fun hb=>absurd hb (by decide)) (fun _=>aE (sg rfl ?_)))));have hsv:aM2 ps x=gP [] (ps++[(⟨[],x⟩:Prd)]):=by rw[vS];rfl
 rw[hsv];have J:∀p∈ps++[(⟨[],x⟩:Prd)],WF p.ty∧tn p.ty≤30000:=fun p hp=>by
  rcases Bi.1 hp with hp | hp
  ·exact⟨(k3 p hp).1,by have:=(k3 p hp).2;omega⟩
  ·rw[Aw.1 hp];exact⟨hT.w,by show tn x≤30000;omega⟩
 have hcl:=lD (ps.map aT) (by rw[χ];omega);have hkl:(ps.map aT).length=ps.length:=χ _;have U:ps.map aT++[[.str [],.int .i64 x.form,.int .i64 x.n,.str x.name,.sl 4 (cW x)]]=(ps++[(⟨[],x⟩:Prd)]).map aT:=by rw[Am];rfl
 have aj:(ps++[(⟨[],x⟩:Prd)]).length=ps.length+1:=by rw[ζ];rfl
 generalize ps++[(⟨[],x⟩:Prd)]=A at J U aj ⊢;have hqe:(A.map aT).length=A.length:=χ _;refine aA (sk 1 rfl (kc hcl ?_));refine ak 6 [(4,.all),(5,.fz)] rfl (az (AWp.sub (Sub.own (t:=10) (id:=710) 9 1 rfl rfl) ?_));have E:∀r:List C,(ps.map aT).length+[r].length=A.length:=fun r=>by rw[hkl,aj];rfl
 refine aF (aM (fun k:Nat=>mk [(1,I .i64 m),(4,.one (.vp 4 0)),(6,.one (.vp 6 0)),(7,.one (.c (.sl 5 (ps.map aT)))),(9,.one (.vp 9 0)),(10,oV (gP [] (A.take k))),(44,.one (.hs 720 0 A.length A.length)),(45,I .i64 (A.length:Nat)),(46,I .i64 (k:Nat))] [(4,.var 59 aF1),(6,.var 32 [.c (.int .i64 0),.c (.int .i64 0)]),(9,.var 47 ((bT x).map .c)),(710,oO (gP [] (A.take k))),(720,.arr 113 5 (A.map aT) 2)]) (fun k=>k≤A.length) (fun k=>A.length-k) 0 (Ae _) (sl (he:=⟨rfl,rfl,rfl,rfl,rfl,rfl,Go.AM.hs_ren (E _) (E _),Go.AM.int_eq (congrArg Int.ofNat (E _)),rfl,trivial⟩) (hh:=⟨⟨_,rfl,.var rfl⟩,⟨_,rfl,.var rfl⟩,⟨_,rfl,.var rfl⟩,⟨_,rfl,Go.AM.Ole.arrE rfl⟩,⟨_,rfl,.arrS U⟩,trivial⟩)) ?_);intro k hk;have hgl:(gP [] (A.take k)).length≤4002*30000:=by
  have h1:=y3 (W:=30000) (A.take k) [] (fun p hp=>(J p (B3 hp)).2);rw[Al,length_nil] at h1;have:min k A.length*30000≤4002*30000:=Au _ (by omega);omega
 refine sg rfl (aA (aB rfl (fun hb=>?_) (fun hb=>?_)))
 ·have al:k<A.length:=by have:=κ hb;omega
  obtain⟨p,hp⟩:=aP al;have hp':=bG aT hp;have hpm:=J p (Ag hp);have am:=yO p.ty (by have:=aN7 p.ty;omega);have htf:=oZ p.ty;have ab:=aDp hp;generalize gP [] (A.take k)=o at hgl ab ⊢;generalize tfR p.ty=l at am htf ab ⊢;have an:(l.map bD).length=l.length:=χ _;refine aE (aA (aF (sgh [(1,.row k (aT p))] rfl (sk 2 rfl (kc am ?_)))));refine kz 2 rfl (aF (aM (fun j:Nat=>mk [(1,I .i64 m),(4,.one (.vp 4 0)),(6,.one (.vp 6 0)),(7,.one (.c (.sl 5 (ps.map aT)))),(9,.one (.vp 9 0)),(10,oV (mM o (l.take j))),(44,.one (.hs 720 0 A.length A.length)),(45,I .i64 (A.length:Nat)),(46,I .i64 (k:Nat)),(52,dH l),(53,I .i64 ((l.map bD).length:Nat)),(54,I .i64 (j:Nat))] [(4,.var 59 aF1),(6,.var 32 [.c (.int .i64 0),.c (.int .i64 0)]),(9,.var 47 ((bT x).map .c)),(710,oO (mM o (l.take j))),(720,.arr 113 5 (A.map aT) 2)]) (fun j=>j≤l.length) (fun j=>l.length-j) 0 (Ae _) sl ?_));intro j hj;refine sg rfl (aA (aB rfl (fun hb=>?_) (fun hb=>?_)))
  ·have O:=ltD hb an;obtain⟨s,hs⟩:=aP O;have hs':=bG bD hs;have B:mM o (l.take (j+1))=aC5 (mM o (l.take j)) s:=by rw[Bk,hs,xU];rfl
   have hml:(mM o (l.take j)).length≤1000000000:=by
    have:=kO (l.take j) o;rw[Al] at this;omega
   have ap:=mD (mM o (l.take j)) s (by omega);generalize mM o (l.take j)=M at B hml ap ⊢;have hml':(M.map bD).length=M.length:=χ _;refine aE (AWp.sub (Sub.freeze (id:=710) rfl) ?_);refine aA (aF (sgh [(0,.row j (bD s))] rfl (sk 2 rfl (kc ap ?_))));refine kz 1 rfl (aB rfl (fun hb=>?_) (fun hb=>?_))
   ·have hm:¬s∈M:=fun h=>by rw[φ h] at hb;cases hb
    unfold aC5 at B;rw[η hm] at B;refine ag [(2,.all)] rfl (ag [] rfl ⟨j+1,O,by dsimp only;omega,?_⟩);dsimp only;rw[B];exact sl
   ·have hm:s∈M:=by
     by_cases h:s∈M
     ·exact h
     ·rw[ψ h] at hb;cases hb
    unfold aC5 at B;rw[ξ hm] at B;refine aE (ag [] rfl ⟨j+1,O,by dsimp only;omega,?_⟩);dsimp only;rw[B];exact sl
  ·have ac:=geD hb an hj;subst ac;rw[Az];refine aL (ag [] rfl ⟨k+1,al,by dsimp only;omega,?_⟩);dsimp only;rw[ab];exact sl
 ·have ac:k=A.length:=by have:=Af hb;omega
  subst ac;rw[Az];refine aL (AWp.sub (Sub.freeze (id:=710) rfl) ?_);exact sg rfl (aD gS)
end Go.Proofs.YtpmheldmadendaaGreatDoor
namespace Go.AM
open Go
section
variable {QP:Value→Prop}{P:Program}{n:Nat}{ops:Array Oper}{draw:Bool}{k:Nat}{st:St}{pre:REs}{Q:St→Prop}{o:Oper}{f:FuncId}{xs:Array Operand}{ts:Array TypeId}{ids:List Nat}{args:List V}{hin:List (Nat×AObj)}{v:Value}
theorem kp (y:wS P f args hin v) (hq:QP v:=by first | exact fun _ _=>⟨rfl,rfl⟩ | assumption)
  (hb:eH P f:=by exact aA4 (by kernel_rfl)) (ho:ops[k]?=some o:=by rfl) (A:o.guard=none:=by rfl) (r:o.op=.call { callee:=.value (.func f),args:=xs,argTypes:=ts }:=by rfl)
  (ha:ArgsV st ids xs.toList args:=by repeat (first | exact .nil | (apply Go.AM.ArgsV.cons rfl;(first | exact .refl | exact .one (.c .nl .nil) | exact .one (.c .sn .nil) | exact .one (.hs rfl (by first | rfl | simp) (by first | rfl | (simp;done) | (simp[Go.AM.take_map];done) | exact Go.AM.take_map.symm) .nil) | exact Go.AM.hs_all rfl rfl (by first | rfl | assumption | (simp;done) | (simp;omega)) (by first | rfl | assumption | (simp;done)) | ((first | apply Go.AM.Conv.pa | apply Go.AM.Conv.agg);repeat (first | exact .nil | apply Go.AM.PureL.c .refl | apply Go.AM.PureL.c .nl | apply Go.AM.PureL.c .sn | (apply Go.AM.PureL.hs;rfl;(first | rfl | simp);(first | rfl | (simp;done) | (simp[Go.AM.take_map];done) | exact Go.AM.take_map.symm))))))))
  (q:eN (fun p=>st.h p.1=some p.2) hin:=by repeat (first | exact trivial | refine⟨rfl,?_⟩)) (hok:dP args hin=true:=by rfl) (B:draw=false:=by rfl) (hl:Nat.blt k ops.size=true:=by rfl):fX QP P n ops draw k st pre Q:=
 aN1 (lM.plain ho A (aCp hin hb r y ha q hok)) hq B hl
theorem kpD {d:Nat}(res:V) (hout:List (Nat×AObj)) (y:wS P f args hin v) (A:fX (fun _=>False) P n ops draw (k+1) ⟨upd st.e d (some res),dX st.h (outs hout),st.d⟩ ((⟨bO xs.toList,ids++keys hin⟩,⟨some (d,some res),outs hout⟩)::pre) fun _=>True) (hq:QP v:=by first | exact fun _ _=>⟨rfl,rfl⟩ | assumption)
  (hb:eH P f:=by exact aA4 (by kernel_rfl)) (ho:ops[k]?=some o:=by rfl) (B:o.guard=none:=by rfl) (r:o.op=.call { callee:=.value (.func f),args:=xs,argTypes:=ts }:=by rfl) (_:o.dst=some d:=by rfl)
  (ha:ArgsV st ids xs.toList args:=by repeat (first | exact .nil | (apply Go.AM.ArgsV.cons rfl;(first | exact .refl | exact .one (.c .nl .nil) | exact .one (.c .sn .nil) | exact .one (.hs rfl (by first | rfl | simp) (by first | rfl | (simp;done) | (simp[Go.AM.take_map];done) | exact Go.AM.take_map.symm) .nil) | exact Go.AM.hs_all rfl rfl (by first | rfl | assumption | (simp;done) | (simp;omega)) (by first | rfl | assumption | (simp;done)) | ((first | apply Go.AM.Conv.pa | apply Go.AM.Conv.agg);repeat (first | exact .nil | apply Go.AM.PureL.c .refl | apply Go.AM.PureL.c .nl | apply Go.AM.PureL.c .sn | (apply Go.AM.PureL.hs;rfl;(first | rfl | simp);(first | rfl | (simp;done) | (simp[Go.AM.take_map];done) | exact Go.AM.take_map.symm))))))))
  (q:eN (fun p=>st.h p.1=some p.2) hin:=by repeat (first | exact trivial | refine⟨rfl,?_⟩)) (hok:dP args hin=true:=by rfl):fX QP P n ops draw k st pre Q:=
 aN0 ⟨some (d,some res),outs hout⟩ (lM.plain ho B (aCp hin hb r y ha q hok)) hq A
theorem kpv {x:Operand}{caps:List R}(y:wS P f (args++caps.map V.one) hin v) (hq:QP v:=by first | exact fun _ _=>⟨rfl,rfl⟩ | assumption)
  (hb:eH P f:=by exact aA4 (by kernel_rfl)) (ho:ops[k]?=some o:=by rfl) (A:o.guard=none:=by rfl) (r:o.op=.call { callee:=.value x,args:=xs,argTypes:=ts }:=by rfl) (hx:opv st x=some (.one (.clo f caps)):=by rfl)
  (ha:ArgsV st ids xs.toList args:=by repeat (first | exact .nil | (apply Go.AM.ArgsV.cons rfl;(first | exact .refl | exact .one (.c .nl .nil) | exact .one (.c .sn .nil) | exact .one (.hs rfl (by first | rfl | simp) (by first | rfl | (simp;done) | (simp[Go.AM.take_map];done) | exact Go.AM.take_map.symm) .nil) | exact Go.AM.hs_all rfl rfl (by first | rfl | assumption | (simp;done) | (simp;omega)) (by first | rfl | assumption | (simp;done)) | ((first | apply Go.AM.Conv.pa | apply Go.AM.Conv.agg);repeat (first | exact .nil | apply Go.AM.PureL.c .refl | apply Go.AM.PureL.c .nl | apply Go.AM.PureL.c .sn | (apply Go.AM.PureL.hs;rfl;(first | rfl | simp);(first | rfl | (simp;done) | (simp[Go.AM.take_map];done) | exact Go.AM.take_map.symm))))))))
  (q:eN (fun p=>st.h p.1=some p.2) hin:=by repeat (first | exact trivial | refine⟨rfl,?_⟩)) (hok:dP (args++caps.map V.one) hin=true:=by rfl) (B:draw=false:=by rfl) (hl:Nat.blt k ops.size=true:=by rfl):fX QP P n ops draw k st pre Q:=
 aN1 (lM.plain ho A (aGw hin hb r hx y ha q hok)) hq B hl
end
def aY (P:Program) (f:FuncId) (args:List V) (hin:List (Nat×AObj)):Except Value (V×List (Nat×AObj))→Prop
 | .ok (res,hout)=>b9 P f args hin res hout
 | .error v=>wS P f args hin v
def aR3 (T:TT) (fn:Func) (hin:List (Nat×AObj)):Except Value (V×List (Nat×AObj))→Exit→St→Prop
 | .ok (res,hout),ex,st=>(ex=.normal∨ex=.ret)∧Fin T fn st hin res hout
 | .error v,ex,st=>ex=pan v∧st.d=[]
theorem kT {P:Program}{T:TT}{f:FuncId}{fn:Func}{c:Code}{n:Nat}{args:List V}{hin:List (Nat×AObj)}{o:Except Value (V×List (Nat×AObj))}(r:Tok P T) (q:P.funcs[f]?=some fn) (hb:fn.body=some c) (hn:fn.ntmps=n) (hle:Nat.ble args.length n=true) (hok:(hin.all fun p=>jP p.2)=true)
  (h:AWp none P n (keys hin) c (mk (uM 0 args) hin) (aR3 T fn hin o)):aY P f args hin o:=by
 cases o with
 | ok x=>obtain⟨res,hout⟩:=x;exact bM r q hb hn hle h
 | error v=>exact aKu q hb hn hle hok h
end Go.AM
namespace Go.Proofs.YtpmheldmadendaaGreatDoor
open Go Go.AM
set_option maxRecDepth 20000
set_option maxHeartbeats 4000000
theorem rtN {ex:Exit}{fn:Func}{st:St}{hin hout:List (Nat×AObj)}(hex:ex=.normal∨ex=.ret:=by first | exact .inl rfl | exact .inr rfl) (c:fn.results.toList=[]:=by rfl)
  (ho:eN (fun p=>∃o,st.h p.1=some o∧Ole (fun i=>i) o p.2) hout:=by repeat (first | exact trivial | refine⟨⟨_,rfl,by first | exact Go.AM.Ole.arr | exact Go.AM.Ole.var rfl | exact Go.AM.Ole.varS rfl⟩,?_⟩))
  (hok:(subset (V.tup []).refs (keys hout)&&subset (eK hout) (keys hout)&&Go.AM.distinct (keys hout)&&subset (keys hin) (keys hout)&&(hin.all fun p=>p.2.plain)&&(hout.all fun p=>p.2.plain))=true:=by rfl):(ex=.normal∨ex=.ret)∧Fin tr.flat fn st hin (.tup []) hout:=
 ⟨hex,⟨[],[],by rw[c];exact .nil,.nil,rfl⟩,ho,hok⟩
theorem rtH {fn:Func}{st:St}{hin hout:List (Nat×AObj)}{t id len sz te es:Nat}{elems:List (List C)}(q:fn.results.toList=[.tmp t]:=by rfl) (r:st.e t=some (.one (.hs id 0 len sz)):=by rfl) (hh:st.h id=some (.arr te es elems 2):=by rfl) (hsz:sz=elems.length:=by first | rfl | assumption | (simp;done))
  (hlen:len=elems.length:=by first | rfl | assumption | (simp;done))
  (ho:eN (fun p=>∃o,st.h p.1=some o∧Ole (fun i=>i) o p.2) hout:=by repeat (first | exact trivial | refine⟨⟨_,rfl,by first | exact Go.AM.Ole.arr | exact Go.AM.Ole.var rfl | exact Go.AM.Ole.varS rfl⟩,?_⟩))
  (hok:(subset (V.one (.c (.sl es elems))).refs (keys hout)&&subset (eK hout) (keys hout)&&Go.AM.distinct (keys hout)&&subset (keys hin) (keys hout)&&(hin.all fun p=>p.2.plain)&&(hout.all fun p=>p.2.plain))=true:=by rfl):(Exit.ret=.normal∨Exit.ret=.ret)∧Fin tr.flat fn st hin (.one (.c (.sl es elems))) hout:=
 rtT (hc:=.one (.hs hh hsz (Go.AM.take_all hlen) .nil)) q r (ho:=ho) (hok:=hok)
structure Z where
 R:List Tk
 e:Int
 p:Int
def zTk:Tk:=⟨0,[],0,0⟩
def aX (z:Z):Tk:=z.R.headD zTk
def bY (e p:Int) (z:Z):Z:=if z.e=0 then⟨z.R,e,p⟩ else z
def isK (s:Str) (t:Tk):Bool:=(decide (t.kind=4) || decide (t.kind=5))&&decide (t.text=s)
def isZ (s:Str) (z:Z):Bool:=isK s (aX z)
def bV (s:Str) (z:Z):Bool×Z:=if z.e=0∧isZ s z=true then(true,⟨z.R.tail,z.e,z.p⟩) else(false,z)
def aR (s:Str) (z:Z):Z:=if(bV s z).1=true then(bV s z).2 else bY 12 (aX z).pl z
def aV (k:Int) (z:Z):Tk×Z:=if z.e=0∧(aX z).kind=k then(aX z,⟨z.R.tail,z.e,z.p⟩) else(⟨0,[],0,(aX z).pl⟩,bY 12 (aX z).pl z)
def aFs (t:Tk):Bool:=decide (t.kind=1)
def b8 (z:Z):List Tk×Z:=if z.e=0 then(z.R.takeWhile aFs,⟨z.R.dropWhile aFs,z.e,z.p⟩) else([],z)
def cN (n most:Nat) (at':Int) (z:Z):Z:=if most<n then bY 2 at' z else z
def ZA (L:List Tk) (z:Z):Prop:=At L (L.length-z.R.length) z.R
def xP:V:=.one (.vp 700 0)
def zO (L:List Tk) (z:Z):AObj:=.var 78 [.c (.sl 4 (L.map aJ)),.c (.int .i64 ((L.length-z.R.length:Nat):Int)),.c (.int .i64 z.e),.c (.int .i64 z.p)]
theorem aDw (e p:Int) (z:Z):(bY e p z).R=z.R:=by unfold bY;split<;>rfl
theorem ZA.fail {L:List Tk}{z:Z}(h:ZA L z) (e p:Int):ZA L (bY e p z):=by unfold ZA;rw[aDw];exact h
theorem ZA.tl {L:List Tk}{z:Z}(h:ZA L z) (c:¬(aX z).kind=6) (e p:Int):ZA L ⟨z.R.tail,e,p⟩∧L.length-z.R.tail.length=L.length-z.R.length+1:=by
 obtain⟨R,e',q⟩:=z;obtain⟨t,R,rfl⟩:=h.e.ne;have hn:¬t.kind=6:=c;obtain⟨h1,h2⟩:=At.next h hn
 unfold ZA;rw[show(Z.mk (t::R) e' q).R.tail=R from rfl,h2];exact⟨h1,rfl⟩
theorem gZ {s:Str}{t:Tk}(h:isK s t=true):¬t.kind=6:=fun e=>by
 unfold isK at h;rw[e] at h;simp at h
theorem ZA.may {L:List Tk}{z:Z}(h:ZA L z) (s:Str):ZA L (bV s z).2:=by
 unfold bV;split
 ·rename_i hc;exact(h.tl (gZ hc.2) _ _).1
 ·exact h
theorem ZA.need {L:List Tk}{z:Z}(h:ZA L z) (s:Str):ZA L (aR s z):=by
 unfold aR;split
 ·exact h.may s
 ·exact h.fail _ _
theorem ZA.word {L:List Tk}{z:Z}(h:ZA L z) {k:Int}(c:¬k=6):ZA L (aV k z).2:=by
 unfold aV;split
 ·rename_i hc;exact(h.tl (by rw[hc.2];exact c) _ _).1
 ·exact h.fail _ _
theorem tM:∀{R:List Tk},lN R→lN (R.dropWhile aFs)∧∃p,R=p++R.dropWhile aFs
 | [],h=>by obtain⟨t,R',e⟩:=h.ne;cases e
 | t::R,h=>by
  rw[Cj];split
  ·rename_i hb;have q:t.kind=1:=κ hb;have c:=h.tail (by omega);obtain⟨h1,p,h2⟩:=tM c;exact⟨h1,t::p,by rw[Bw,←h2]⟩
  ·exact⟨h,[],rfl⟩
theorem ZA.suf {L:List Tk}{z:Z}(h:ZA L z) {R p:List Tk}(hs:z.R=p++R) (he:lN R) (e q:Int):ZA L ⟨R,e,q⟩:=by
 obtain⟨h1,h2⟩:=At.to h hs he;show At L (L.length-R.length) R;rw[h2];exact h1
theorem ZA.words {L:List Tk}{z:Z}(h:ZA L z):ZA L (b8 z).2:=by
 unfold b8;split
 ·obtain⟨h1,p,h2⟩:=tM h.e;exact h.suf h2 h1 _ _
 ·exact h
theorem ZA.long {L:List Tk}{z:Z}(h:ZA L z) (n c:Nat) (at':Int):ZA L (cN n c at' z):=by
 unfold cN;split
 ·exact h.fail _ _
 ·exact h
theorem ZA.now {L:List Tk}{z:Z}(h:ZA L z):L[L.length-z.R.length]?=some (aX z):=by
 obtain⟨R,e',c⟩:=z;obtain⟨t,R,rfl⟩:=h.e.ne;exact At.get h
theorem oA {L:List Tk}{z:Z}(h:ZA L z):b9 Tryz.prog 100 [xP] [(700,zO L z)] (tkV (aX z)) [(700,zO L z)]:=by
 have hl:=bG aJ h.now;have c:(L.map aJ).length=L.length:=χ _;have q:=h.lt;have r:=h.l;refine bM (n:=13) tok Tryz.func100 rfl rfl rfl ?_;exact sg rfl (sgh [(8,.row (L.length-z.R.length) (aJ (aX z)))] rfl (aD (rtC trw)))
theorem oC (L:List Tk) (z:Z) (e p:Int):b9 Tryz.prog 101 [xP,I .i64 e,I .i64 p] [(700,zO L z)] (.tup []) [(700,zO L (bY e p z))]:=by
 refine bM (n:=18) tok Tryz.func101 rfl rfl rfl ?_;refine sg rfl ?_;unfold bY;refine aB rfl (fun hb=>?_) (fun hb=>?_)
 ·rw[ξ (κ hb)];exact ag [] rfl rtN
 ·rw[η (Af hb)];exact aE rtN
theorem rH (L:List Tk) (z:Z):b9 Tryz.prog 39 [xP] [(700,zO L z)] (B (decide (z.e=0))) [(700,zO L z)]:=by
 refine bM (n:=9) tok Tryz.func39 rfl rfl rfl ?_;exact sg rfl (sg rfl (aD rtT))
theorem aOu {L:List Tk}{z:Z}(h:ZA L z) (s:Str):b9 Tryz.prog 153 [xP,Go.AM.T s] [(700,zO L z)] (B (isZ s z)) [(700,zO L z)]:=by
 have hn:=oA h;unfold isZ;generalize aX z=t at hn ⊢;unfold isK;refine bM (n:=22) tok Tryz.func153 rfl rfl rfl ?_;refine sg rfl (sk 1 rfl (kc hn ?_));refine kz 2 rfl ?_;by_cases c:t.kind=4
 ·have d4:decide (t.kind=4)=true:=φ c;rw[d4,Co,Cq];exact sgh [(3,.bv true),(7,.bv true),(8,.bv true),(13,.bv true)] rfl (aD rtT)
 have d4:decide (t.kind=4)=false:=ψ c;rw[d4,Bb];by_cases q:t.kind=5
 ·have d5:decide (t.kind=5)=true:=φ q;rw[d5,Cq];exact sgh [(3,.bv false),(7,.bv false),(8,.bv true),(13,.bv true)] rfl (aD rtT)
 ·have d5:decide (t.kind=5)=false:=ψ q;rw[d5,B8];exact sgh [(3,.bv false),(7,.bv false),(8,.bv false),(13,.bv false)] rfl (aD rtT)
theorem aJg {L:List Tk}{z:Z}(h:ZA L z) (s:Str):b9 Tryz.prog 94 [xP,Go.AM.T s] [(700,zO L z)] (B (bV s z).1) [(700,zO L (bV s z).2)]:=by
 have ho:=rH L z;have hi:=aOu h s;have c:= @gZ s (aX z);refine bM (n:=22) tok Tryz.func94 rfl rfl rfl ?_;refine sg rfl ?_;unfold bV;by_cases he:z.e=0
 case neg=>
  rw[η (fun h=>he h.1)];rw[ψ he] at ho;refine aA (sk 1 rfl (kc ho ?_));exact ak 7 [(3,.bv true),(8,.bv true)] rfl (az (aB rfl (fun _=>sg rfl (aD rtT)) (fun hb=>absurd hb (by decide))))
 rw[φ he] at ho;refine aA (sk 1 rfl (kc ho ?_));refine ak 4 [(3,.bv false)] rfl (kcG hi ?_);refine ak 2 [(3,.bv false),(8,.bv false)] rfl (az ?_);cases r:isZ s z with
 | false=>
  rw[η (fun h=>by cases h.2)];exact aB rfl (fun _=>sg rfl (aD rtT)) (fun hb=>absurd hb (by decide))
 | true=>
  rw[ξ ⟨he,rfl⟩];have q:isK s (aX z)=true:=r;obtain⟨_,hn⟩:=h.tl (c q) z.e z.p;have y:=h.l;unfold zO;dsimp only;rw[hn];exact aB rfl (fun hb=>absurd hb (by decide)) (fun _=>aE (aA (agN [] rfl (sg rfl (aD rtT)))))
theorem aEm {L:List Tk}{z:Z}(h:ZA L z) (s:Str):b9 Tryz.prog 159 [xP,Go.AM.T s] [(700,zO L z)] (.tup []) [(700,zO L (aR s z))]:=by
 have hm:=aJg h s;have c:=oC L z 12 (aX z).pl;have hn:=oA h;refine bM (n:=13) tok Tryz.func159 rfl rfl rfl ?_;refine sk 2 rfl (kc hm ?_);refine kz 1 rfl ?_;unfold aR;cases hb:(bV s z).1 with
 | true=>
  rw[ξ rfl];exact aB rfl (fun hb=>absurd hb (by decide)) (fun _=>aE rtN)
 | false=>
  have e:(bV s z).2=z:=by
   unfold bV at hb ⊢;split
   ·rename_i hc;rw[ξ hc] at hb;cases hb
   ·rfl
  rw[η (by decide),e];refine aB rfl (fun _=>aC mixed (ak 2 [] rfl (kc hn ?_))) (fun hb=>absurd hb (by decide));refine ak 1 [] rfl (kc c ?_);exact az rtN
def cA:Str:=[59]
def cY (s:Str) (z:Z):Bool:=if s=[] then decide ((aX z).kind=6) else isZ s z
def moreA (shut:Str) (n:Nat) (z:Z):Z:=if 0<n∧z.e=0∧isZ cA z=false∧cY shut z=false then bY 12 (aX z).pl z else z
def cU (z:Z):Z:=if z.e=0 then⟨z.R.dropWhile (isK cA),z.e,z.p⟩ else z
def bI (shut:Str) (n:Nat) (z:Z):Bool×Z:=
 if ¬(cU (moreA shut n z)).e=0∨cY shut (cU (moreA shut n z))=true then(false,cU (moreA shut n z))
 else(decide ((cN (n+1) 60 (aX (cU (moreA shut n z))).pl (cU (moreA shut n z))).e=0),cN (n+1) 60 (aX (cU (moreA shut n z))).pl (cU (moreA shut n z)))
def aM1 (z:Z):SR→Sch×Z
 | .ok (s,R')=>(s,⟨R',z.e,z.p⟩)
 | .error (e,p)=>(mH,⟨z.R,e,p⟩)
def bN (z:Z):Sch×Z:=if z.e=0 then aM1 z (cZ z.R) else(mH,z)
def aQz (z:Z):PR→List Prd×Z
 | .ok (s,R')=>(s,⟨R',z.e,z.p⟩)
 | .error (e,p)=>([],⟨z.R,e,p⟩)
def bL (z:Z):List Prd×Z:=if z.e=0 then aQz z (dL z.R) else([],z)
theorem aIw {R:List Tk}{s:Sch}{R':List Tk}(h:cZ R=.ok (s,R')):(lN R→lN R')∧(∃p,R=p++R'∧1≤p.length)∧WF s.ty∧tn s.ty≤wt R∧(∀p∈s.preds,WF p.ty∧tn p.ty≤wt R)∧s.preds.length≤R.length∧s.vars=aM2 s.preds s.ty:=by
 unfold cZ at h;cases hp:dL R with
 | error e=>obtain⟨e,p⟩:=e;rw[hp,qI] at h;cases h
 | ok y=>
  obtain⟨ps,R1⟩:=y;rw[hp,qI] at h;obtain⟨r,⟨q,c,_⟩,A,B⟩:=kJ hp;cases hw:cL (3*R1.length+2) 0 R1 with
  | error e=>obtain⟨e,p⟩:=e;rw[hw,qH] at h;cases h
  | ok y=>
   obtain⟨x,R2⟩:=y;rw[hw,qH] at h;obtain⟨⟨g1,⟨E,g2,g3⟩,g4⟩,g5⟩:=gO _ _ _ _ _ hw;cases h;have:wt R1≤wt R:=by rw[c];exact oX
   exact⟨fun he=>g1 (r he),⟨q++E,by rw[c,g2,Ar],by rw[ζ];omega⟩,g4,by show tn x≤_;omega,A,B,rfl⟩
theorem ZA.scheme {L:List Tk}{z:Z}(h:ZA L z):ZA L (bN z).2:=by
 unfold bN;split
 ·cases hs:cZ z.R with
  | error e=>obtain⟨e,p⟩:=e;exact h
  | ok y=>
   obtain⟨s,R'⟩:=y;obtain⟨h1,⟨p,h2,_⟩,_⟩:=aIw hs;exact h.suf h2 (h1 h.e) _ _
 ·exact h
theorem ZA.preds {L:List Tk}{z:Z}(h:ZA L z):ZA L (bL z).2:=by
 unfold bL;split
 ·cases hs:dL z.R with
  | error e=>obtain⟨e,p⟩:=e;exact h
  | ok y=>
   obtain⟨s,R'⟩:=y;obtain⟨h1,⟨p,h2,_⟩,_⟩:=kJ hs;exact h.suf h2 (h1 h.e) _ _
 ·exact h
theorem pM (s:Str):∀{R:List Tk},lN R→lN (R.dropWhile (isK s))∧∃p,R=p++R.dropWhile (isK s)
 | [],h=>by obtain⟨t,R',e⟩:=h.ne;cases e
 | t::R,h=>by
  rw[Cj];split
  ·rename_i hb;have c:=h.tail (gZ hb);obtain⟨h1,p,h2⟩:=pM s c;exact⟨h1,t::p,by rw[Bw,←h2]⟩
  ·exact⟨h,[],rfl⟩
theorem ZA.semi {L:List Tk}{z:Z}(h:ZA L z):ZA L (cU z):=by
 unfold cU;split
 ·obtain⟨h1,p,h2⟩:=pM cA h.e;exact h.suf h2 h1 _ _
 ·exact h
theorem ZA.moreA {L:List Tk}{z:Z}(h:ZA L z) (s:Str) (n:Nat):ZA L (moreA s n z):=by
 unfold Proofs.YtpmheldmadendaaGreatDoor.moreA;split
 ·exact h.fail _ _
 ·exact h
theorem ZA.more {L:List Tk}{z:Z}(h:ZA L z) (s:Str) (n:Nat):ZA L (bI s n z).2:=by
 unfold bI;split
 ·exact(h.moreA s n).semi
 ·exact(h.moreA s n).semi.long _ _ _
theorem kP {L:List Tk}{z:Z}(h:ZA L z):cU (bV cA z).2=cU z∧((bV cA z).1=false→(bV cA z).2=z∧cU z=z)∧((bV cA z).1=true→(bV cA z).2.R.length<z.R.length):=by
 obtain⟨R,e,p⟩:=z;obtain⟨t,R,rfl⟩:=h.e.ne;unfold bV;split
 ·rename_i hc;have c:isK cA t=true:=hc.2;refine⟨?_,fun e=>Bool.noConfusion e,fun _=>by show R.length<(t::R).length;rw[τ];omega⟩;unfold cU;have he:e=0:=hc.1;rw[ξ he,ξ he];show Z.mk (R.dropWhile _) _ _=Z.mk ((t::R).dropWhile _) _ _;rw[Cj,ξ c]
 ·rename_i hc;refine⟨rfl,fun _=>⟨rfl,?_⟩,fun e=>Bool.noConfusion e⟩;unfold cU;split
  ·rename_i he;have c:¬isK cA t=true:=fun c=>hc ⟨he,c⟩
   rw[show(Z.mk (t::R) e p).R.dropWhile (isK cA)=t::R from by show(t::R).dropWhile _=_;rw[Cj,η c]]
  ·rfl
theorem ZA.len {L:List Tk}{z:Z}(h:ZA L z):z.R.length≤4001:=by
 have h1:=h.lt;have h2:=h.l;omega
structure Cn where
 name:Str
 pl:Int
 fields:List Ty
structure Dt where
 name:Str
 pl:Int
 vars:List Str
 cons:List Cn
def vZ (c:Cn):List C:=[.str c.name,.int .i64 c.pl,.sl 4 (c.fields.map bT)]
def rC (d:Dt):List C:=[.str d.name,.int .i64 d.pl,.sl 1 (d.vars.map bD),.sl 1 [],.sl 3 (d.cons.map vZ)]
def eqS:Str:=[61]
def aA5:Str:=[124]
def aPa (z:Z):Bool:=decide ((aX z).kind=1) || (decide ((aX z).kind=2) || isZ cM z)
def atZ (z:Z):TR→Ty×Z
 | .ok (x,R')=>(x,⟨R',z.e,z.p⟩)
 | .error (e,p)=>(zTy,⟨z.R,e,p⟩)
def fI (z:Z):Ty×Z:=atZ z (dI (3*z.R.length) 0 z.R)
def cB:Nat→List Ty→Z→List Ty×Z
 | 0,out,z=>(out,z)
 | f+1,out,z=>if z.e=0∧aPa z=true then cB f (out++[(fI z).1]) (fI z).2 else(out,z)
def rE (z:Z):Cn×Z:=
 (⟨(aV 2 z).1.text,(aV 2 z).1.pl,(cB ((aV 2 z).2.R.length+1) [] (aV 2 z).2).1⟩,
  cN (cB ((aV 2 z).2.R.length+1) [] (aV 2 z).2).1.length 8 (aV 2 z).1.pl (cB ((aV 2 z).2.R.length+1) [] (aV 2 z).2).2)
def kY:Nat→Int→List Cn→Z→List Cn×Z
 | 0,_,out,z=>(out,z)
 | f+1,a,out,z=>
  if(bV aA5 (cN (out++[(rE z).1]).length 16 a (rE z).2)).1=true then kY f a (out++[(rE z).1]) (bV aA5 (cN (out++[(rE z).1]).length 16 a (rE z).2)).2
  else(out++[(rE z).1],(bV aA5 (cN (out++[(rE z).1]).length 16 a (rE z).2)).2)
def jU (z:Z):Tk×List Tk×Z:=((aV 2 z).1,(b8 (aV 2 z).2).1,aR eqS (cN (b8 (aV 2 z).2).1.length 8 (aV 2 z).1.pl (b8 (aV 2 z).2).2))
def jV (h:Tk×List Tk×Z):List Cn×Z:=if h.2.2.e=0 then kY (h.2.2.R.length+1) h.1.pl [] h.2.2 else([],h.2.2)
def n0 (z:Z):Dt×Z:=(⟨(jU z).1.text,(jU z).1.pl,(jU z).2.1.map (·.text),(jV (jU z)).1⟩,(jV (jU z)).2)
def Ze (z z':Z):Prop:=z'.R.length≤z.R.length
theorem Ze.refl (z:Z):Ze z z:=le_refl _
theorem Ze.trans {a b c:Z}(h:Ze a b) (k:Ze b c):Ze a c:=le_trans k h
theorem Ze.fail (e p:Int) (z:Z):Ze z (bY e p z):=by unfold Ze;rw[aDw];exact le_refl _
theorem Ze.may (s:Str) (z:Z):Ze z (bV s z).2:=by
 unfold Ze bV;split
 ·show z.R.tail.length≤_;rw[length_tail];omega
 ·exact le_refl _
theorem Ze.need (s:Str) (z:Z):Ze z (aR s z):=by
 unfold aR;split
 ·exact Ze.may s z
 ·exact Ze.fail _ _ z
theorem Ze.word (k:Int) (z:Z):Ze z (aV k z).2:=by
 unfold aV;split
 ·show z.R.tail.length≤_;rw[length_tail];omega
 ·exact Ze.fail _ _ z
theorem Ze.long (n c:Nat) (a:Int) (z:Z):Ze z (cN n c a z):=by
 unfold cN;split
 ·exact Ze.fail _ _ z
 ·exact Ze.refl z
theorem iX {α:Type}(p:α→Bool):∀l:List α,(l.dropWhile p).length≤l.length
 | []=>le_refl _
 | a::l=>by
  rw[Cj];split
  ·have:=iX p l;rw[τ];omega
  ·exact le_refl _
theorem mI {α:Type}(p:α→Bool):∀l:List α,(l.takeWhile p).length≤l.length
 | []=>le_refl _
 | a::l=>by
  rw[List.takeWhile_cons];split
  ·have:=mI p l;rw[τ,τ];omega
  ·exact Ae _
theorem Ze.words (z:Z):Ze z (b8 z).2:=by
 unfold b8;split
 ·exact iX _ _
 ·exact Ze.refl z
theorem ZA.wt {L:List Tk}{z:Z}(h:ZA L z):wt z.R≤wt L:=by
 have e:L.take (L.length-z.R.length)++z.R=L:=by
  have:=take_append_drop (L.length-z.R.length) L;rwa [h.d] at this
 have:=oX (p:=L.take (L.length-z.R.length)) (R:=z.R);rwa [e] at this
theorem ZA.lp {L:List Tk}{z:Z}(h:ZA L z):1≤z.R.length:=h.lt.2
theorem zD {L:List Tk}{z:Z}(h:ZA L z):ZA L (fI z).2∧WF (fI z).1∧tn (fI z).1≤wt z.R∧((fI z).2.e=0→(fI z).2.R.length<z.R.length)∧Ze z (fI z).2:=by
 unfold fI;have hok:=j6 (3*z.R.length) 0 z.R;have c:=fS (3*z.R.length) 0 z.R;generalize dI (3*z.R.length) 0 z.R=w at hok c ⊢;cases w with
 | error e=>
  obtain⟨e,p⟩:=e;have:=c e p rfl;refine⟨h,⟨rfl,rfl⟩,?_,fun h0=>absurd h0 this,Ze.refl z⟩;show tn zTy≤_;obtain⟨t,R',q⟩:=h.e.ne;rw[q,eR];have:tn zTy=1:=by unfold zTy;rw[tn,tns];rfl
  omega
 | ok y=>
  obtain⟨x,R'⟩:=y;obtain⟨⟨h1,⟨p,h2,A⟩,r⟩,B⟩:=hok x R' rfl;have hl:R'.length<z.R.length:=by rw[h2,ζ];omega
  exact⟨h.suf h2 (h1 h.e) _ _,r,by show tn x≤_;omega,fun _=>hl,le_of_lt hl⟩
theorem pL {L:List Tk}:∀(f:Nat) (out:List Ty) (z:Z),ZA L z→(∀x∈out,WF x∧tn x≤wt L)→out.length+z.R.length≤4001→
  ZA L (cB f out z).2∧(∀x∈(cB f out z).1,WF x∧tn x≤wt L)∧Ze z (cB f out z).2∧(cB f out z).1.length≤4002
 | 0,out,z,h,ho,hl=>⟨h,ho,Ze.refl z,by rw[cB];dsimp only;omega⟩
 | f+1,out,z,h,ho,hl=>by
  rw[cB];split
  ·rename_i hc;obtain⟨g1,g2,g3,g4,g5⟩:=zD h;have E:=h.wt;have c:∀x∈out++[(fI z).1],WF x∧tn x≤wt L:=fun x hx=>by
    rcases Bi.1 hx with hx | hx
    ·exact ho x hx
    ·rw[Aw.1 hx];exact⟨g2,by omega⟩
   by_cases he:(fI z).2.e=0
   ·have I:=g4 he;obtain⟨q,r,y,A⟩:=pL f (out++[(fI z).1]) (fI z).2 g1 c (by rw[ζ,Ba];omega);exact⟨q,r,g5.trans y,A⟩
   ·have B:cB f (out++[(fI z).1]) (fI z).2=(out++[(fI z).1],(fI z).2):=by
     cases f with
     | zero=>rfl
     | succ f=>rw[cB,η (fun h=>he h.1)]
    rw[B];exact⟨g1,c,g5,by rw[ζ,Ba];have:=h.lp;omega⟩
  ·exact⟨h,ho,Ze.refl z,by dsimp only;omega⟩
theorem mO {f:Nat}{out:List Ty}{z:Z}(h:¬(z.e=0∧aPa z=true)):cB f out z=(out,z):=by
 cases f with
 | zero=>rfl
 | succ f=>rw[cB,η h]
inductive Pt where
 | mk (form pl n:Int) (name:Str) (kids:List Pt)
def Pt.form:Pt→Int | .mk f _ _ _ _=>f
def Pt.pl:Pt→Int | .mk _ p _ _ _=>p
def Pt.n:Pt→Int | .mk _ _ n _ _=>n
def Pt.name:Pt→Str | .mk _ _ _ s _=>s
def Pt.kids:Pt→List Pt | .mk _ _ _ _ l=>l
mutual
def iH:Pt→List (List C)
 | .mk _ _ _ _ l=>tN l
def tN:List Pt→List (List C)
 | []=>[]
 | p::l=>[.int .i64 p.form,.int .i64 p.pl,.int .i64 p.n,.str p.name,.sl 10 (iH p),.int .i64 0,.int .i64 0,.str [],.sl 4 [],.sl 4 []]::tN l
end
def bF (p:Pt):List C:=[.int .i64 p.form,.int .i64 p.pl,.int .i64 p.n,.str p.name,.sl 10 (iH p),.int .i64 0,.int .i64 0,.str [],.sl 4 [],.sl 4 []]
theorem pN:∀l:List Pt,tN l=l.map bF
 | []=>by simp[tN]
 | p::l=>by rw[tN,pN l];rfl
theorem fR (p:Pt):iH p=p.kids.map bF:=by cases p;rw[iH,pN];rfl
def zPt:Pt:=.mk 0 0 0 [] []
def aBh:Str:=[95]
def iA (t:Tk):Int:=if t.kind=1 then 2 else if t.kind=2 then 4 else 3
def i7 (t:Tk):Str:=if t.kind=3 then [] else t.text
def tlZ (z:Z):Z:=⟨z.R.tail,z.e,z.p⟩
mutual
def bA:Nat→Nat→Z→(Pt×Bool)×Z
 | 0,_,z=>((zPt,false),z)
 | f+1,o,z=>
  if ¬z.e=0 then((zPt,false),z)
  else if 0<(aX z).kind∧(aX z).kind<4 then((.mk (iA (aX z)) (aX z).pl (aX z).n (i7 (aX z)) [],true),tlZ z)
  else if(bV aBh z).1=true then((.mk 1 (aX z).pl 0 [] [],true),(bV aBh z).2)
  else if isZ cM z=false then((zPt,false),z)
  else if 40≤o then((zPt,false),bY 13 (aX z).pl z)
  else(((iJ f (o+1) (aR cM z)).1,true),aR pD (iJ f (o+1) (aR cM z)).2)
def iJ:Nat→Nat→Z→Pt×Z
 | 0,_,z=>(zPt,bY 12 0 z)
 | f+1,o,z=>
  if(bA f o z).1.2=false then(zPt,bY 12 (aX z).pl (bA f o z).2)
  else if(aX z).kind=2∧z.e=0 then(.mk 4 (aX z).pl (aX z).n (aX z).text (fB f o [] (tlZ z)).1,(fB f o [] (tlZ z)).2)
  else(bA f o z).1.1 |>fun p=>(p,(bA f o z).2)
def fB:Nat→Nat→List Pt→Z→List Pt×Z
 | 0,_,out,z=>(out,z)
 | f+1,o,out,z=>
  if z.e=0 then(if(bA f o z).1.2=false then(out,(bA f o z).2) else fB f o (out++[(bA f o z).1.1]) (bA f o z).2)
  else(out,z)
end
mutual
def ptB:Pt→Prop
 | .mk _ _ _ _ l=>l.length≤4002∧sN l
def sN:List Pt→Prop
 | []=>True
 | p::l=>ptB p∧sN l
end
theorem n7:∀{l:List Pt}{p:Pt},sN l→ptB p→sN (l++[p])
 | [],_,_,h=>⟨h,trivial⟩
 | _::_,_,h,k=>⟨h.1,n7 h.2 k⟩
theorem ZA.tlp {L:List Tk}{z:Z}(h:ZA L z) (c:¬(aX z).kind=6):ZA L (tlZ z):=(h.tl c z.e z.p).1
theorem fP {L:List Tk}{z:Z}(h:ZA L z) {s:Str}(hb:(bV s z).1=true):(bV s z).2.R.length<z.R.length:=by
 unfold bV at hb ⊢;split
 ·have:=h.lp;show z.R.tail.length<_;rw[length_tail];omega
 ·rename_i hc;rw[η hc] at hb;cases hb
theorem fL (s:Str) (z:Z):(bV s z).2.e=z.e:=by unfold bV;split<;>rfl
theorem vL {L:List Tk}{z:Z}(h:ZA L z) {s:Str}(hb:(aR s z).e=0):(aR s z).R.length<z.R.length:=by
 unfold aR at hb ⊢;split
 ·rename_i hm;exact fP h hm
 ·rename_i hm;rw[η hm] at hb;unfold bY at hb;split at hb
  ·cases hb
  ·rename_i hc;exact absurd hb hc
theorem aO {s:Str}{z:Z}(hb:(aR s z).e=0):z.e=0:=by
 unfold aR at hb;split at hb
 ·rw[fL] at hb;exact hb
 ·unfold bY at hb;split at hb
  ·assumption
  ·exact hb
theorem hH {e p:Int}(he:¬e=0) {z:Z}(hb:(bY e p z).e=0):False:=by
 unfold bY at hb;split at hb
 ·exact he hb
 ·rename_i h;exact h hb
theorem aC3 {s:Str}{z:Z}(he:z.e=0) (h:isZ s z=true):aR s z=tlZ z:=by
 have hm:bV s z=(true,tlZ z):=by unfold bV;rw[ξ ⟨he,h⟩];rfl
 unfold aR;rw[hm];exact ξ rfl
theorem nE {L:List Tk}{z:Z}(h:ZA L z):(tlZ z).R.length<z.R.length:=by
 have:=h.lp;show z.R.tail.length<_;rw[length_tail];omega
def aRg (L:List Tk) (f:Nat):Prop:=∀o z,ZA L z→ZA L (bA f o z).2∧ptB (bA f o z).1.1∧((bA f o z).1.2=true→(bA f o z).2.e=0→(bA f o z).2.R.length<z.R.length)∧Ze z (bA f o z).2
def aR2 (L:List Tk) (f:Nat):Prop:=∀o z,ZA L z→ZA L (iJ f o z).2∧ptB (iJ f o z).1∧((iJ f o z).2.e=0→(iJ f o z).2.R.length<z.R.length)∧Ze z (iJ f o z).2
def aRk (L:List Tk) (f:Nat):Prop:=∀o out z,ZA L z→sN out→(z.e=0→out.length+z.R.length≤4001)→out.length≤4002→ZA L (fB f o out z).2∧sN (fB f o out z).1∧(fB f o out z).1.length≤4002∧Ze z (fB f o out z).2
theorem b5 {s:Str}{z:Z}(h:¬z.e=0):aR s z=z:=by
 have hm:bV s z=(false,z):=by unfold bV;rw[η (fun k=>h k.1)]
 unfold aR;rw[hm];rw[η π];unfold bY;rw[η h]
theorem qQ:ptB zPt:=⟨Ae _,trivial⟩
theorem vO {k:Int}(h:0<k∧k<4):¬k=6:=by omega
theorem eY (L:List Tk):∀f,aRg L f∧aR2 L f∧aRk L f:=by
 intro f
 induction f with
 | zero=>
  refine⟨fun o z h=>?_,fun o z h=>?_,fun o out z h hb hl c=>?_⟩
  ·rw[bA];exact⟨h,qQ,fun e=>Bool.noConfusion e,Ze.refl z⟩
  ·rw[iJ];exact⟨h.fail _ _,qQ,fun e=>(hH (by decide) e).elim,Ze.fail _ _ _⟩
  ·rw[fB];exact⟨h,hb,c,Ze.refl z⟩
 | succ f O=>
  obtain⟨q,M,r⟩:=O;refine⟨fun o z h=>?_,fun o z h=>?_,fun o out z h hb hl c=>?_⟩
  ·rw[bA];split
   ·exact⟨h,qQ,fun e=>Bool.noConfusion e,Ze.refl z⟩
   rename_i he;split
   ·rename_i A;have:=nE h;exact⟨h.tlp (vO A),⟨Ae _,trivial⟩,fun _ _=>this,le_of_lt this⟩
   split
   ·rename_i hm;exact⟨h.may _,⟨Ae _,trivial⟩,fun _ _=>fP h hm,Ze.may _ _⟩
   split
   ·exact⟨h,qQ,fun e=>Bool.noConfusion e,Ze.refl z⟩
   split
   ·exact⟨h.fail _ _,qQ,fun e=>Bool.noConfusion e,Ze.fail _ _ _⟩
   ·obtain⟨g1,g2,g3,g4⟩:=M (o+1) (aR cM z) (h.need _);refine⟨g1.need _,g2,fun _ e=>?_,((Ze.need cM z).trans g4).trans (Ze.need _ _)⟩;have U:=vL g1 e;have a2:(iJ f (o+1) (aR cM z)).2.R.length≤z.R.length:=(Ze.need cM z).trans g4;exact Ay U a2
  ·rw[iJ];obtain⟨g1,g2,g3,g4⟩:=q o z h;split
   ·exact⟨g1.fail _ _,qQ,fun e=>(hH (by decide) e).elim,g4.trans (Ze.fail _ _ _)⟩
   rename_i hs;have hs:(bA f o z).1.2=true:=by simpa using hs
   split
   ·rename_i A;have ht:=nE h;obtain⟨B,E,I,J⟩:=r o [] (tlZ z) (h.tlp (by rw[A.1];decide)) trivial (fun _=>by have:=h.len;rw[length_nil];omega) (Ae _);have y:(fB f o [] (tlZ z)).2.R.length≤(tlZ z).R.length:=J;exact⟨B,⟨I,E⟩,fun _=>Bq y ht,le_of_lt (Bq y ht)⟩
   ·exact⟨g1,g2,g3 hs,g4⟩
  ·rw[fB];split
   ·rename_i he;obtain⟨g1,g2,g3,g4⟩:=q o z h;split
    ·exact⟨g1,hb,c,g4⟩
    rename_i hs;have hs:(bA f o z).1.2=true:=by simpa using hs
    have hl:=hl he;have Y:=h.lp;have hle:(out++[(bA f o z).1.1]).length=out.length+1:=by rw[ζ];rfl
    obtain⟨B,E,I,J⟩:=r o (out++[(bA f o z).1.1]) (bA f o z).2 g1 (n7 hb g2) (fun e=>by have:=g3 hs e;omega) (by omega);exact⟨B,E,I,g4.trans J⟩
   ·exact⟨h,hb,c,Ze.refl z⟩
def aJt:List C:=[.int .i64 0,.int .i64 0,.int .i64 0,.str [],.nl,.int .i64 0,.int .i64 0,.str [],.nl,.nl]
def aL4 (L:List Tk) (f:Nat):Prop:=∀(o:Nat) (z:Z),ZA L z→(z.e=0→3*z.R.length≤f)→o≤40→b9 Tryz.prog 105 [xP,I .i64 (o:Nat)] [(700,zO L z)] (.tup [.pa (bF (bA f o z).1.1),B (bA f o z).1.2]) [(700,zO L (bA f o z).2)]
def aRi (L:List Tk) (f:Nat):Prop:=∀(o:Nat) (z:Z),ZA L z→(z.e=0→3*z.R.length+1≤f)→o≤40→b9 Tryz.prog 51 [xP,I .i64 (o:Nat)] [(700,zO L z)] (.pa (bF (iJ f o z).1)) [(700,zO L (iJ f o z).2)]
theorem tX {L:List Tk}{z:Z}(h:ZA L z) (he:z.e=0) (A:0<(aX z).kind∧(aX z).kind<4) (o:Nat) (E J r:C) (y:(E=.nl∧J=.nl∧r=.nl)∨(E=.sl 10 []∧J=.sl 4 []∧r=.sl 4 [])):b9 Tryz.prog 105 [xP,I .i64 (o:Nat)] [(700,zO L z)] (.tup [.pa [.int .i64 (iA (aX z)),.int .i64 (aX z).pl,.int .i64 (aX z).n,.str (i7 (aX z)),E,.int .i64 0,.int .i64 0,.str [],J,r],B true]) [(700,zO L (tlZ z))]:=by
 have ho:=rH L z;rw[φ he] at ho;have hn:=oA h;obtain⟨_,M⟩:=h.tl (vO A) z.e z.p;have U:=h.l;have O:zO L (tlZ z)=.var 78 [.c (.sl 4 (L.map aJ)),.c (.int .i64 ((L.length-z.R.length+1:Nat):Int)),.c (.int .i64 z.e),.c (.int .i64 z.p)]:=by
  unfold zO tlZ;dsimp only;rw[M]
 rw[O];generalize aX z=t at hn A ⊢;refine bM (n:=74) tok Tryz.func105 rfl rfl rfl ?_;refine sg rfl (aA (sk 1 rfl (kc ho ?_)));refine kz 1 rfl (aB rfl (fun hb=>absurd hb (by decide)) (fun _=>aE (sk 1 rfl (kc hn ?_))));refine kz 2 rfl ?_;have d1:decide ((0:Int)<t.kind)=true:=φ A.1;have d2:decide (t.kind<(4:Int))=true:=φ A.2;refine aA (sgh [(3,.bv true),(7,.bv true)] rfl (aB rfl (fun _=>?_) (fun hb=>absurd (hb.symm.trans d2) (by decide))));have q:t.kind=1∨t.kind=2∨t.kind=3:=by omega
 unfold zO;refine aA (agN [] rfl ?_);rcases q with q | q | q
 ·unfold iA i7;rw[ξ q,η (by omega)];refine sgh [(3,.row 1 [.int .i64 2]),(16,.row 1 [.str t.text]),(0,.all),(13,.all)] rfl ?_;rcases y with⟨rfl,rfl,rfl⟩ | ⟨rfl,rfl,rfl⟩<;>exact aD qL
 ·unfold iA i7;rw[η (by omega),ξ q,η (by omega)];refine sgh [(3,.row 2 [.int .i64 4]),(16,.row 2 [.str t.text]),(0,.all),(13,.all)] rfl ?_;rcases y with⟨rfl,rfl,rfl⟩ | ⟨rfl,rfl,rfl⟩<;>exact aD qL
 ·unfold iA i7;rw[η (by omega),η (by omega),ξ q];refine sgh [(3,.row 3 [.int .i64 3]),(16,.row 3 [.str []]),(0,.all),(13,.all)] rfl ?_;rcases y with⟨rfl,rfl,rfl⟩ | ⟨rfl,rfl,rfl⟩<;>exact aD qL
theorem jW {L:List Tk}{z:Z}(he:¬z.e=0) (o:Nat):b9 Tryz.prog 105 [xP,I .i64 (o:Nat)] [(700,zO L z)] (.tup [.pa (bF zPt),B false]) [(700,zO L z)]:=by
 have ho:=rH L z;rw[ψ he] at ho;refine bM (n:=74) tok Tryz.func105 rfl rfl rfl ?_;refine sg rfl (aA (sk 1 rfl (kc ho ?_)));exact kz 1 rfl (aB rfl (fun _=>sg rfl (aD qL)) (fun hb=>Bool.noConfusion hb))
theorem dW {e p:Int}{z:Z}(h:¬z.e=0):bY e p z=z:=by unfold bY;rw[η h]
theorem aHu {L:List Tk}{z:Z}(h:ZA L z) (he:¬z.e=0) (o:Nat):b9 Tryz.prog 51 [xP,I .i64 (o:Nat)] [(700,zO L z)] (.pa (bF zPt)) [(700,zO L z)]:=by
 have hn:=oA h;have hs:=jW (L:=L) he o;have c:=oC L z 12 (aX z).pl;rw[dW he] at c;refine bM (n:=47) tok Tryz.func51 rfl rfl rfl ?_;refine sg rfl (sk 1 rfl (kc hn ?_));refine kz 2 rfl (sk 2 rfl (kc hs ?_));refine kz 6 rfl (aA (sg rfl (aB rfl (fun _=>sk 3 rfl (kc c ?_)) (fun hb=>Bool.noConfusion hb))));exact az (sg rfl (aD (rtC trw)))
theorem aEh (L:List Tk) (f:Nat) (ih:aRi L f):aL4 L (f+1):=by
 intro o z h hf ho40;rw[bA];by_cases he:z.e=0
 case neg=>
  rw[ξ he];exact jW he o
 rw[η (fun k=>k he)];by_cases E:0<(aX z).kind∧(aX z).kind<4
 ·rw[ξ E];exact tX h he E o _ _ _ (.inr ⟨rfl,rfl,rfl⟩)
 rw[η E];have ho:=rH L z;rw[φ he] at ho;have hn:=oA h;have hm:=aJg h aBh;have hi:=aOu h cM;have Y:=oC L z 13 (aX z).pl;have aa:=aEm h cM;have h1:=h.need cM;have r:isZ cM z=true→aR cM z=tlZ z:=aC3 he;have htl:=nE h;have J:(bV aBh z).1=false→(bV aBh z).2=z:=fun hb=>by
  unfold bV at hb ⊢;split
  ·rename_i hc;rw[ξ hc] at hb;cases hb
  ·rfl
 refine bM (n:=74) tok Tryz.func105 rfl rfl rfl ?_;refine sg rfl (aA (sk 1 rfl (kc ho ?_)));refine kz 1 rfl (aB rfl (fun hb=>Bool.noConfusion hb) (fun _=>aE (sk 1 rfl (kc hn ?_))));refine kz 2 rfl (aA (aA (AWp.cut (mk [(0,xP),(1,I .i64 (o:Nat)),(4,.one (.vp 4 0)),(6,.one (.vp 6 0)),(21,B false)] [(700,zO L z),(4,.var 49 (aJt.map .c)),(6,.var 152 ((aJ (aX z)).map .c))]) ?_ ?_)))
 ·by_cases M:0<(aX z).kind
  ·have d2:decide ((aX z).kind<(4:Int))=false:=ψ (fun k=>E ⟨M,k⟩);have d1:decide ((0:Int)<(aX z).kind)=true:=φ M;refine ag [(3,.bv true),(7,.bv true)] rfl ?_;rw[d2];exact sl
  ·have d1:decide ((0:Int)<(aX z).kind)=false:=ψ M;exact ag [(3,.bv false),(7,.bv false)] rfl sl
 refine aB rfl (fun hb=>Bool.noConfusion hb) (fun _=>aE (aA (sk 1 rfl (kc hm ?_))));refine az ?_;generalize bV aBh z=m at J hm ⊢;obtain⟨b,A⟩:=m;cases b with
 | true=>
  rw[ξ rfl];exact aB rfl (fun _=>sg rfl (aD qL)) (fun hb=>Bool.noConfusion hb)
 | false=>
 have ab:A=z:=J rfl;subst ab;rw[η π];refine aB rfl (fun hb=>Bool.noConfusion hb) (fun _=>aE (aA (sk 1 rfl (kc hi ?_))));refine kz 1 rfl ?_;generalize isZ cM A=b at r ⊢;cases b with
 | false=>
  rw[ξ rfl];exact aB rfl (fun _=>sg rfl (aD qL)) (fun hb=>Bool.noConfusion hb)
 | true=>
 have r:=r rfl;rw[η (by decide)];refine aB rfl (fun hb=>Bool.noConfusion hb) (fun _=>aE (aA (sg rfl (aB rfl (fun hb=>?_) (fun hb=>?_)))))
 ·rw[ξ (by have:=κ hb;omega)];refine sk 3 rfl (kc Y ?_);exact az (sg rfl (aD qL))
 have O:¬40≤o:=by have:=Af hb;omega
 rw[η O];have hp:=ih (o+1) (aR cM A) h1 (fun _=>by rw[r];have:=hf he;omega) (by omega);obtain⟨g1,_⟩:=(eY L f).2.1 (o+1) (aR cM A) h1;generalize iJ f (o+1) (aR cM A)=y at hp g1 ⊢;obtain⟨q,z2⟩:=y;dsimp only at hp g1 ⊢;have U:=aEm g1 pD;refine aE (sk 1 rfl (kc aa ?_));refine az (aA (aC mixed (akN 3 [] rfl (kc hp ?_))));refine akN 2 [] rfl (az (sk 1 rfl (kc U ?_)));exact az (sg rfl (aD qL))
theorem aOn (L:List Tk) (f:Nat) (ihS:∀g,g≤f→aL4 L g):aRi L (f+1):=by
 intro o z h hf O;have hn:=oA h;have hs:=ihS f (le_refl _) o z h (fun he=>by have:=hf he;omega) O;obtain⟨g1,_,g3,g4⟩:=(eY L f).1 o z h;rw[iJ];by_cases hk:(aX z).kind=2∧z.e=0
 ·obtain⟨h2,he⟩:=hk;obtain⟨f,rfl⟩:∃g,f=g+1:=⟨f-1,by have:=hf he;have:=h.lp;omega⟩
  have hst:bA (f+1) o z=((.mk (iA (aX z)) (aX z).pl (aX z).n (i7 (aX z)) [],true),tlZ z):=by
   rw[bA,η (fun k=>k he),ξ (by omega)]
  rw[hst];rw[η (show ¬(true=false) from fun k=>Bool.noConfusion k),ξ ⟨h2,he⟩];have M:=tX h he (by omega) o .nl .nl .nl (.inl ⟨rfl,rfl,rfl⟩);have e4:iA (aX z)=4:=by unfold iA;rw[η (by omega),ξ h2]
  have e5:i7 (aX z)=(aX z).text:=by unfold i7;rw[η (by omega)]
  rw[e4,e5] at M;have h1:=h.tlp (by rw[h2];decide);have htl:=nE h;have hlen:=h.len;have r:∃W,W=fB (f+1) o [] (tlZ z):=⟨_,rfl⟩
  obtain⟨W,r⟩:=r;rw[←r];generalize aX z=t at hn h2 M ⊢;refine bM (n:=47) tok Tryz.func51 rfl rfl rfl ?_;refine sg rfl (sk 1 rfl (kc hn ?_));refine kz 2 rfl (sk 2 rfl (kc M ?_));refine kz 6 rfl (aA (sg rfl (aB rfl (fun hb=>Bool.noConfusion hb) (fun _=>aE (AWp.sub (Sub.ownCell (x:=6) (k:=4) (id:=501) 49 10 rfl rfl rfl) ?_)))));refine aA (aF (aM (fun q:List Pt×Z×Nat=>mk [(0,xP),(1,I .i64 (o:Nat)),(4,.one (.vp 4 0)),(5,.one (.vp 5 0)),(6,.one (.vp 6 0))] [(700,zO L q.2.1),(4,.var 49 (aJt.map .c)),(5,.var 152 ((aJ t).map .c)),(6,.var 49 [.c (.int .i64 4),.c (.int .i64 t.pl),.c (.int .i64 t.n),.c (.str t.text),.hs 501 0 q.1.length q.1.length,.c (.int .i64 0),.c (.int .i64 0),.c (.str []),.c .nl,.c .nl]),(501,.arr 49 10 (q.1.map bF) 0)]) (fun q=>ZA L q.2.1∧W=fB q.2.2 o q.1 q.2.1∧q.2.2≤f+1∧(q.2.1.e=0→3*q.2.1.R.length+1≤q.2.2)∧(q.2.1.e=0→q.1.length+q.2.1.R.length≤4001)∧q.1.length≤4002) (fun q=>if q.2.1.e=0 then q.2.1.R.length+1 else 0) ([],tlZ z,f+1) ⟨h1,r,le_refl _,fun _=>by have:=hf he;dsimp only;omega,fun _=>by dsimp only;rw[length_nil];omega,Ae _⟩ sl ?_));clear r hs M hst e4 e5 g1 g3 g4 htl h1;rintro⟨out,E,g⟩ ⟨h',r,hgf,U,Y,hol2⟩;dsimp only at h' r hgf U Y hol2 ⊢;have hout:(out.map bF).length=out.length:=χ _;have d2:decide (t.kind=2)=true:=φ h2;have ho:=rH L E;by_cases A:E.e=0
  case neg=>
   rw[ψ A] at ho;have e0:fB g o out E=(out,E):=by
    cases g with
    | zero=>rfl
    | succ g=>rw[fB,η A]
   rw[e0] at r;refine aA (sk 1 rfl (kc ho ?_));refine ak 5 [(2,.bv false),(6,.bv false)] rfl (az (aB rfl (fun hb=>Bool.noConfusion hb) (fun _=>aL (AWp.sub (Sub.freeze (id:=501) rfl) ?_))));refine sg rfl ?_;rw[r];unfold bF;rw[fR (Pt.mk _ _ _ _ _)];exact aD (rtC trw (hc:=.agg (.c .refl (.c .refl (.c .refl (.c .refl (.hs rfl hout.symm (Go.AM.take_all hout.symm) (.c .refl (.c .refl (.c .refl (.c .nl (.c .nl .nil))))))))))))
  rw[φ A] at ho;obtain⟨g,rfl⟩:∃k,g=k+1:=⟨g-1,by have:=U A;omega⟩
  rw[fB,ξ A] at r;have hs:=ihS g (by omega) o E h' (fun _=>by have:=U A;omega) O;obtain⟨g1,_,g3,g4⟩:=(eY L g).1 o E h';have U:=U A;have Y:=Y A;have hlp:=h'.lp;refine aA (sk 1 rfl (kc ho ?_));refine ak 5 [(2,.bv true),(6,.bv true)] rfl (az (aB rfl (fun _=>?_) (fun hb=>absurd (hb.symm.trans d2) Bool.noConfusion)));generalize bA g o E=y at hs g1 g3 g4 r;obtain⟨⟨q,b⟩,z2⟩:=y;dsimp only at hs g1 g3 g4 r;refine aE (aF (sk 2 rfl (kc hs ?_)));refine kz 6 rfl (aA (sg rfl ?_));cases b with
  | false=>
   rw[ξ rfl] at r;refine aB rfl (fun _=>aL (AWp.sub (Sub.freeze (id:=501) rfl) ?_)) (fun hb=>Bool.noConfusion hb);refine sg rfl ?_;rw[r];unfold bF;rw[fR (Pt.mk _ _ _ _ _)];exact aD (rtC trw (hc:=.agg (.c .refl (.c .refl (.c .refl (.c .refl (.hs rfl hout.symm (Go.AM.take_all hout.symm) (.c .refl (.c .refl (.c .refl (.c .nl (.c .nl .nil))))))))))))
  | true=>
   rw[η (show ¬(true=false) from fun k=>Bool.noConfusion k)] at r;have hrows:out.map bF++[bF q]=(out++[q]).map bF:=by rw[Am];rfl
   have hle:(out++[q]).length=out.length+1:=by rw[ζ];rfl
   have g4':z2.R.length≤E.R.length:=g4;refine aB rfl (fun hb=>Bool.noConfusion hb) (fun _=>aE (ag [(3,.all)] rfl ⟨(out++[q],z2,g),⟨g1,r,by dsimp only;omega,fun h0=>by have:=g3 rfl h0;dsimp only;omega,fun h0=>by have:=g3 rfl h0;dsimp only;rw[hle];omega,by dsimp only;rw[hle];omega⟩,?_,?_⟩))
   ·dsimp only;rw[ξ A];split
    ·rename_i h0;have:=g3 rfl h0;omega
    ·omega
   ·exact sl (he:=⟨rfl,rfl,rfl,rfl,rfl,trivial⟩) (hh:=⟨⟨_,rfl,.var rfl⟩,⟨_,rfl,.var rfl⟩,⟨_,rfl,.var rfl⟩,⟨_,rfl,.var (by rw[hle,←hout];rfl)⟩,⟨_,rfl,.arrS hrows⟩,trivial⟩)
 rw[η hk];have J:¬z.e=0→(bA f o z).1.2=false:=fun he=>by
  cases f with
  | zero=>rfl
  | succ f=>rw[bA,ξ he]
 generalize bA f o z=y at hs g1 g3 g4 J ⊢;obtain⟨⟨q,b⟩,z1⟩:=y;dsimp only at hs g1 g3 g4 J ⊢;have hfl:=oC L z1 12 (aX z).pl;have ho:=rH L z1;refine bM (n:=47) tok Tryz.func51 rfl rfl rfl ?_;refine sg rfl (sk 1 rfl (kc hn ?_));refine kz 2 rfl (sk 2 rfl (kc hs ?_));refine kz 6 rfl (aA (sg rfl ?_));cases b with
 | false=>
  rw[ξ rfl];refine aB rfl (fun _=>sk 3 rfl (kc hfl ?_)) (fun hb=>Bool.noConfusion hb);exact az (sg rfl (aD (rtC trw)))
 | true=>
  rw[η (show ¬(true=false) from fun k=>Bool.noConfusion k)];have he:z.e=0:=by
   by_cases he:z.e=0
   ·exact he
   ·exact Bool.noConfusion (J he)
  have h2:¬(aX z).kind=2:=fun h2=>hk ⟨h2,he⟩
  have d2:decide ((aX z).kind=2)=false:=ψ h2;refine aB rfl (fun hb=>Bool.noConfusion hb) (fun _=>aE (aA (aF (aM (fun _:Unit=>mk [(0,xP),(4,.one (.vp 4 0)),(5,.one (.vp 5 0)),(6,.one (.vp 6 0))] [(700,zO L z1),(4,.var 49 (aJt.map .c)),(5,.var 152 ((aJ (aX z)).map .c)),(6,.var 49 ((bF q).map .c))]) (fun _=>True) (fun _=>0) () trivial sl ?_))));intro _ _;refine aA (aA (AWp.cut (mk [(4,.one (.vp 4 0)),(6,.one (.vp 6 0)),(31,B false)] [(700,zO L z1),(4,.var 49 (aJt.map .c)),(6,.var 49 ((bF q).map .c))]) ?_ ?_))
  ·by_cases h1:z1.e=0
   ·rw[φ h1] at ho;refine aC mixed (ak 1 [] rfl (kc ho ?_));refine ak 5 [(2,.bv true),(6,.bv true)] rfl (az ?_);rw[d2];exact sl
   ·rw[ψ h1] at ho;refine aC mixed (ak 1 [] rfl (kc ho ?_));exact ak 5 [(2,.bv false),(6,.bv false)] rfl (az sl)
  exact aB rfl (fun hb=>Bool.noConfusion hb) (fun _=>aL (sg rfl (aD (rtC trw))))
theorem aQ0 (L:List Tk):∀f,(∀g,g≤f→aL4 L g)∧∀g,g≤f→aRi L g:=by
 intro f
 induction f with
 | zero=>
  refine⟨fun g q o z h r ho=>?_,fun g q o z h r ho=>?_⟩
  ·have h0:¬z.e=0:=fun he=>by have:=r he;have:=h.lp;omega
   obtain rfl:g=0:=by omega
   rw[bA];exact jW h0 o
  ·have h0:¬z.e=0:=fun he=>by have:=r he;omega
   obtain rfl:g=0:=by omega
   rw[iJ];dsimp only;rw[dW h0];exact aHu h h0 o
 | succ f c=>
  refine⟨fun g q=>?_,fun g q=>?_⟩
  ·by_cases h:g≤f
   ·exact c.1 g h
   ·rw[show g=f+1 by omega];exact aEh L f (c.2 f (le_refl _))
  ·by_cases h:g≤f
   ·exact c.2 g h
   ·rw[show g=f+1 by omega];exact aOn L f c.1
mutual
inductive Ex where
 | mk (form pl n:Int) (name:Str) (kids:List Ex) (pats:List Pt) (binds:List Bd) (sig:Sch)
inductive Bd where
 | mk (name:Str) (pl:Int) (has:Bool) (sig:Sch) (body:Ex)
end
def Ex.form:Ex→Int | .mk f _ _ _ _ _ _ _=>f
def Ex.pl:Ex→Int | .mk _ p _ _ _ _ _ _=>p
def Ex.n:Ex→Int | .mk _ _ n _ _ _ _ _=>n
def Ex.name:Ex→Str | .mk _ _ _ s _ _ _ _=>s
def Ex.kids:Ex→List Ex | .mk _ _ _ _ l _ _ _=>l
def Ex.pats:Ex→List Pt | .mk _ _ _ _ _ l _ _=>l
def Ex.binds:Ex→List Bd | .mk _ _ _ _ _ _ l _=>l
def Ex.sig:Ex→Sch | .mk _ _ _ _ _ _ _ s=>s
def Bd.name:Bd→Str | .mk s _ _ _ _=>s
def Bd.pl:Bd→Int | .mk _ p _ _ _=>p
def Bd.has:Bd→Bool | .mk _ _ h _ _=>h
def Bd.sig:Bd→Sch | .mk _ _ _ s _=>s
def Bd.body:Bd→Ex | .mk _ _ _ _ e=>e
mutual
def rB:Ex→List (List C)
 | .mk _ _ _ _ l _ _ _=>tO l
def aAs:Ex→List (List C)
 | .mk _ _ _ _ _ _ l _=>iE l
def tO:List Ex→List (List C)
 | []=>[]
 | e::l=>[.int .i64 e.form,.int .i64 e.pl,.int .i64 e.n,.str e.name,.sl 15 (rB e),.sl 10 (e.pats.map bF),.sl 33 (aAs e),.sl 1 (e.sig.vars.map bD),.sl 1 [],.sl 5 (e.sig.preds.map aT),.int .i64 e.sig.ty.form,.int .i64 e.sig.ty.n,.str e.sig.ty.name,.sl 4 (cW e.sig.ty),.sl 4 []]::tO l
def yA:Bd→List C
 | .mk _ _ _ _ e=>[.int .i64 e.form,.int .i64 e.pl,.int .i64 e.n,.str e.name,.sl 15 (rB e),.sl 10 (e.pats.map bF),.sl 33 (aAs e),.sl 1 (e.sig.vars.map bD),.sl 1 [],.sl 5 (e.sig.preds.map aT),.int .i64 e.sig.ty.form,.int .i64 e.sig.ty.n,.str e.sig.ty.name,.sl 4 (cW e.sig.ty),.sl 4 []]
def iE:List Bd→List (List C)
 | []=>[]
 | b::l=>([.str b.name,.int .i64 b.pl,.bool b.has,.sl 1 (b.sig.vars.map bD),.sl 1 [],.sl 5 (b.sig.preds.map aT),.int .i64 b.sig.ty.form,.int .i64 b.sig.ty.n,.str b.sig.ty.name,.sl 4 (cW b.sig.ty)]++(yA b++[.sl 1 [],.sl 1 [],.sl 5 [],.int .i64 0,.int .i64 0,.str [],.sl 4 [],.int .i64 0]))::iE l
end
def cD (e:Ex):List C:=[.int .i64 e.form,.int .i64 e.pl,.int .i64 e.n,.str e.name,.sl 15 (rB e),.sl 10 (e.pats.map bF),.sl 33 (aAs e),.sl 1 (e.sig.vars.map bD),.sl 1 [],.sl 5 (e.sig.preds.map aT),.int .i64 e.sig.ty.form,.int .i64 e.sig.ty.n,.str e.sig.ty.name,.sl 4 (cW e.sig.ty),.sl 4 []]
def bH (b:Bd):List C:=[.str b.name,.int .i64 b.pl,.bool b.has,.sl 1 (b.sig.vars.map bD),.sl 1 [],.sl 5 (b.sig.preds.map aT),.int .i64 b.sig.ty.form,.int .i64 b.sig.ty.n,.str b.sig.ty.name,.sl 4 (cW b.sig.ty),
 .int .i64 b.body.form,.int .i64 b.body.pl,.int .i64 b.body.n,.str b.body.name,.sl 15 (rB b.body),.sl 10 (b.body.pats.map bF),.sl 33 (aAs b.body),.sl 1 (b.body.sig.vars.map bD),.sl 1 [],.sl 5 (b.body.sig.preds.map aT),.int .i64 b.body.sig.ty.form,.int .i64 b.body.sig.ty.n,.str b.body.sig.ty.name,.sl 4 (cW b.body.sig.ty),.sl 4 [],
 .sl 1 [],.sl 1 [],.sl 5 [],.int .i64 0,.int .i64 0,.str [],.sl 4 [],.int .i64 0]
theorem pP:∀l:List Ex,tO l=l.map cD
 | []=>by simp[tO]
 | e::l=>by rw[tO,pP l];rfl
theorem jB:∀l:List Bd,iE l=l.map bH
 | []=>by simp[iE]
 | .mk s p h g e::l=>by rw[iE,jB l,yA];rfl
theorem rA (e:Ex):rB e=e.kids.map cD:=by cases e;rw[rB,pP];rfl
theorem aHg (e:Ex):aAs e=e.binds.map bH:=by cases e;rw[aAs,jB];rfl
def zEx:Ex:=.mk 0 0 0 [] [] [] [] mH
structure Sg where
 name:Str
 pl:Int
 ty:Sch
def fF (s:Sg):List C:=[.str s.name,.int .i64 s.pl,.sl 1 (s.ty.vars.map bD),.sl 1 [],.sl 5 (s.ty.preds.map aT),.int .i64 s.ty.ty.form,.int .i64 s.ty.ty.n,.str s.ty.ty.name,.sl 4 (cW s.ty.ty)]
def aFv:Str:=[92]
def aFt:Str:=[108,101,116]
def oP:Str:=[99,97,115,101]
def ofS:Str:=[111,102]
def inS:Str:=[105,110]
def fV:Str:=[58]
def dZ:Str:=[123]
def bE:Str:=[125]
def qA (l:List Tk):List Pt:=l.map fun t=>.mk 2 t.pl 0 t.text []
section
variable (ex:Nat→Z→Ex×Z)
def wP (t:Tk):Ex:=if t.kind=3 then .mk 3 t.pl t.n [] [] [] [] mH else .mk t.kind t.pl 0 t.text [] [] [] mH
def mV (deep:Nat) (z:Z):(Ex×Bool)×Z:=
 if ¬z.e=0 then((zEx,false),z)
 else if 0<(aX z).kind∧(aX z).kind<4 then((wP (aX z),true),tlZ z)
 else if(bV cM z).1=false then((zEx,false),z)
 else(((ex (deep+1) (bV cM z).2).1,true),aR pD (ex (deep+1) (bV cM z).2).2)
def aP9 (at':Int) (e a:Ex):Ex:=.mk 4 at' 0 [] [e,a] [] [] mH
def jZ (deep:Nat) (at':Int):Nat→Ex→Z→Ex×Z
 | 0,e,z=>(e,z)
 | f+1,e,z=>if z.e=0 then(if(mV ex deep z).1.2=false then(e,(mV ex deep z).2) else jZ deep at' f (aP9 at' e (mV ex deep z).1.1) (mV ex deep z).2) else(e,z)
def aQ5 (at':Int) (l:List Tk) (b:Ex):Ex:=.mk 5 at' 0 [] [b] (qA l) [] mH
def aBj (at':Int) (z:Z):List Tk×Z:=((b8 z).1,aR arrow (cN (b8 z).1.length 8 at' (if(b8 z).1=[] then bY 12 (aX (b8 z).2).pl (b8 z).2 else(b8 z).2)))
def aDf (at':Int) (deep:Nat) (z:Z):Ex×Z:=(aQ5 at' (aBj at' z).1 (ex (deep+1) (aBj at' z).2).1,(ex (deep+1) (aBj at' z).2).2)
def lE (nm:Tk) (z:Z):List Tk×Z:=((b8 z).1,aR eqS (cN (b8 z).1.length 8 nm.pl (b8 z).2))
def aO8 (l:List Tk) (b:Ex):Ex:=match l with
 | []=>b
 | t::l=>aQ5 t.pl (t::l) b
def eE (nm:Tk) (deep:Nat) (z:Z):Bd×Z:=(.mk nm.text nm.pl false mH (aO8 (lE nm z).1 (ex deep (lE nm z).2).1),(ex deep (lE nm z).2).2)
def b6 (sigs:List Sg) (binds:List Bd) (deep:Nat) (z:Z):(List Sg×List Bd)×Z:=
 if(bV fV (aV 1 z).2).1=true then((sigs++[⟨(aV 1 z).1.text,(aV 1 z).1.pl,(bN (bV fV (aV 1 z).2).2).1⟩],binds),(bN (bV fV (aV 1 z).2).2).2)
 else((sigs,binds++[(eE ex (aV 1 z).1 deep (bV fV (aV 1 z).2).2).1]),(eE ex (aV 1 z).1 deep (bV fV (aV 1 z).2).2).2)
def kS (deep:Nat):Nat→Nat→List Sg→List Bd→Z→(List Sg×List Bd)×Z
 | 0,_,sigs,binds,z=>((sigs,binds),z)
 | f+1,n,sigs,binds,z=>if(bI bE n z).1=true then kS deep f (n+1) (b6 ex sigs binds deep (bI bE n z).2).1.1 (b6 ex sigs binds deep (bI bE n z).2).1.2 (b6 ex sigs binds deep (bI bE n z).2).2 else((sigs,binds),(bI bE n z).2)
end
def pB (b:Bd) (s:Sch):Bd:=.mk b.name b.pl true s b.body
def dY:List Sg→List Bd→Z→List Bd×Z
 | [],b,z=>(b,z)
 | s::l,b,z=>if z.e=0 then(match b.findIdx? (fun x=>decide (x.name=s.name)) with
   | none=>dY l b (bY 21 s.pl z)
   | some k=>match b[k]? with
    | none=>(b,z)
    | some x=>if x.has=true then dY l b (bY 20 s.pl z) else dY l (b.set k (pB x s.ty)) z)
  else(b,z)
section
variable (ex:Nat→Z→Ex×Z)
def aFu (deep:Nat) (z:Z):(List Sg×List Bd)×Z:=kS ex (deep+1) ((aR dZ z).R.length+1) 0 [] [] (aR dZ z)
def aNz (y:(List Sg×List Bd)×Z):List Bd×Z:=dY y.1.1 y.1.2 (aR bE y.2)
def letE (at':Int) (bs:List Bd) (b:Ex):Ex:=.mk 6 at' 0 [] [b] [] bs mH
def aDc (at':Int) (deep:Nat) (z:Z):Ex×Z:=(letE at' (aNz (aFu ex deep z)).1 (ex (deep+1) (aR inS (aNz (aFu ex deep z)).2)).1,(ex (deep+1) (aR inS (aNz (aFu ex deep z)).2)).2)
def k8 (deep:Nat):Nat→Nat→List Pt→List Ex→Z→(List Pt×List Ex)×Z
 | 0,_,ps,ks,z=>((ps,ks),z)
 | f+1,n,ps,ks,z=>if(bI bE n z).1=true then k8 deep f (n+1) (ps++[(iJ (3*(bI bE n z).2.R.length+1) 0 (bI bE n z).2).1]) (ks++[(ex (deep+1) (aR arrow (iJ (3*(bI bE n z).2.R.length+1) 0 (bI bE n z).2).2)).1]) (ex (deep+1) (aR arrow (iJ (3*(bI bE n z).2.R.length+1) 0 (bI bE n z).2).2)).2
  else((ps,ks),(bI bE n z).2)
def fW (deep:Nat) (z:Z):Ex×Z:=((ex (deep+1) z).1,aR dZ (aR ofS (ex (deep+1) z).2))
def jG (deep:Nat) (y:Ex×Z):(List Pt×List Ex)×Z:=k8 ex deep (y.2.R.length+1) 0 [] [y.1] y.2
def aOg (at':Int) (ps:List Pt) (ks:List Ex):Ex:=.mk 7 at' 0 [] ks ps [] mH
def l8 (at':Int) (deep:Nat) (z:Z):Ex×Z:=(aOg at' (jG ex deep (fW ex deep z)).1.1 (jG ex deep (fW ex deep z)).1.2,
 if(jG ex deep (fW ex deep z)).1.1=[] then bY 12 (aX (jG ex deep (fW ex deep z)).2).pl (aR bE (jG ex deep (fW ex deep z)).2) else aR bE (jG ex deep (fW ex deep z)).2)
def aR1 (at':Int) (e:Ex) (s:Sch):Ex:=.mk 8 at' 0 [] [e] [] [] s
def aBm (at':Int) (y:Ex×Z):Ex×Z:=if(bV fV y.2).1=true then(aR1 at' y.1 (bN (bV fV y.2).2).1,(bN (bV fV y.2).2).2) else(y.1,(bV fV y.2).2)
def kM (deep:Nat) (z:Z):Ex×Z:=jZ ex deep (aX z).pl (z.R.length+1) (mV ex deep z).1.1 (if(mV ex deep z).1.2=false then bY 12 (aX z).pl (mV ex deep z).2 else(mV ex deep z).2)
def aFx (deep:Nat) (z:Z):Ex×Z:=
 if ¬z.e=0 then(zEx,z)
 else if 40<deep then(zEx,bY 13 (aX z).pl z)
 else if(bV aFv z).1=true then aDf ex (aX z).pl deep (bV aFv z).2
 else if(bV aFt z).1=true then aDc ex (aX z).pl deep (bV aFt z).2
 else if(bV oP z).1=true then l8 ex (aX z).pl deep (bV oP z).2
 else aBm (aX z).pl (kM ex deep z)
end
def aI6:Nat→Nat→Z→Ex×Z
 | 0=>fun _ z=>(zEx,bY 12 0 z)
 | f+1=>aFx (aI6 f)
structure SchOk (s:Sch):Prop where
 t:WF s.ty∧tn s.ty≤30000
 p:∀p∈s.preds,WF p.ty∧tn p.ty≤30000
 l:s.preds.length≤4001
 v:s.vars.length≤120060000
theorem SchOk.z:SchOk mH:=⟨⟨⟨rfl,rfl⟩,by unfold mH zTy;rw[tn,tns];decide⟩,fun p hp=>(by cases hp),Ae _,Ae _⟩
mutual
def lZ:Ex→Prop
 | .mk f _ _ _ ks ps bs s=>(ks.length≤4002∧ps.length≤4002∧bs.length≤4002)∧SchOk s∧((f=4→ks.length=2)∧(f=5∨f=6∨f=8→ks.length=1)∧(f=7→ks.length=ps.length+1))∧sN ps∧mZ ks∧dV bs
def mZ:List Ex→Prop
 | []=>True
 | e::l=>lZ e∧mZ l
def aP7:Bd→Prop
 | .mk _ _ _ s e=>SchOk s∧lZ e
def dV:List Bd→Prop
 | []=>True
 | b::l=>aP7 b∧dV l
end
theorem o6:∀{l:List Ex}{p:Ex},mZ l→lZ p→mZ (l++[p])
 | [],_,_,h=>⟨h,trivial⟩
 | _::_,_,h,k=>⟨h.1,o6 h.2 k⟩
theorem lF:∀{l:List Bd}{p:Bd},dV l→aP7 p→dV (l++[p])
 | [],_,_,h=>⟨h,trivial⟩
 | _::_,_,h,k=>⟨h.1,lF h.2 k⟩
theorem gJ:∀{l:List Bd},dV l↔∀b∈l,aP7 b
 | []=>⟨fun _ b hb=>(by cases hb),fun _=>trivial⟩
 | a::l=>⟨fun h b hb=>by
   rcases Ap.1 hb with rfl | hb
   ·exact h.1
   ·exact gJ.1 h.2 b hb,fun h=>⟨h a Bn,gJ.2 fun b hb=>h b (A9 _ hb)⟩⟩
theorem lZ.z:lZ zEx:=⟨⟨Ae _,Ae _,Ae _⟩,.z,⟨fun h=>by omega,fun h=>by omega,fun h=>by omega⟩,trivial,trivial,trivial⟩
theorem wX:∀l:List Tk,sN (qA l)
 | []=>trivial
 | _::l=>⟨⟨Ae _,trivial⟩,wX l⟩
theorem rY (l:List Tk):(qA l).length=l.length:=χ _
theorem gA {L:List Tk}{z:Z}(h:ZA L z) (hwt:wt L≤30000):ZA L (bN z).2∧SchOk (bN z).1∧((bN z).2.e=0→(bN z).2.R.length<z.R.length)∧Ze z (bN z).2:=by
 refine⟨h.scheme,?_⟩;have hw:=h.wt;have hl:=h.len;unfold bN;split
 ·rename_i he;have c:= @qG z.R;cases hs:cZ z.R with
  | error e=>
   obtain⟨e,p⟩:=e;exact⟨.z,fun h0=>absurd h0 (c hs),Ze.refl z⟩
  | ok y=>
   obtain⟨s,R'⟩:=y;obtain⟨_,⟨p,h2,E⟩,A,I,q,J,B⟩:=aIw hs;have r:R'.length<z.R.length:=by rw[h2,ζ];omega
   refine⟨⟨⟨A,by show tn s.ty≤_;omega⟩,fun p hp=>⟨(q p hp).1,by have:=(q p hp).2;omega⟩,by show s.preds.length≤_;omega,?_⟩,fun _=>r,le_of_lt r⟩;show s.vars.length≤_;rw[B];unfold aM2;have g1:=y3 (W:=30000) s.preds [] (fun p hp=>by have:=(q p hp).2;omega);have g2:=kO (tfR s.ty) (gP [] s.preds);have g3:=oZ s.ty;have g4:s.preds.length*30000≤4001*30000:=Au _ (by omega);rw[length_nil] at g1;omega
 ·rename_i he;exact⟨.z,fun h0=>absurd h0 he,Ze.refl z⟩
def ExO (L:List Tk) (ex:Nat→Z→Ex×Z):Prop:=∀deep z,ZA L z→ZA L (ex deep z).2∧lZ (ex deep z).1∧((ex deep z).2.e=0→(ex deep z).2.R.length<z.R.length)∧Ze z (ex deep z).2
section
variable {L:List Tk}{ex:Nat→Z→Ex×Z}(hO:ExO L ex) (hwt:wt L≤30000)
include hO
theorem nS (deep:Nat) {z:Z}(h:ZA L z):ZA L (mV ex deep z).2∧lZ (mV ex deep z).1.1∧((mV ex deep z).1.2=true→(mV ex deep z).2.e=0→(mV ex deep z).2.R.length<z.R.length)∧Ze z (mV ex deep z).2:=by
 unfold mV;split
 ·exact⟨h,lZ.z,fun e=>Bool.noConfusion e,Ze.refl z⟩
 split
 ·rename_i c;have:=nE h;refine⟨h.tlp (vO c),?_,fun _ _=>this,le_of_lt this⟩;unfold wP;split
  ·exact⟨⟨Ae _,Ae _,Ae _⟩,.z,⟨fun h=>by omega,fun h=>by omega,fun h=>by omega⟩,trivial,trivial,trivial⟩
  ·exact⟨⟨Ae _,Ae _,Ae _⟩,.z,⟨fun h=>by omega,fun h=>by omega,fun h=>by omega⟩,trivial,trivial,trivial⟩
 split
 ·exact⟨h,lZ.z,fun e=>Bool.noConfusion e,Ze.refl z⟩
 ·obtain⟨g1,g2,g3,g4⟩:=hO (deep+1) _ (h.may cM);have g5:=((Ze.may cM z).trans g4)
  exact⟨g1.need _,g2,fun _ e=>Ay (vL g1 e) g5,g5.trans (Ze.need _ _)⟩
theorem nA (deep:Nat) (a:Int):∀(f:Nat) (e:Ex) (z:Z),ZA L z→lZ e→ZA L (jZ ex deep a f e z).2∧lZ (jZ ex deep a f e z).1∧Ze z (jZ ex deep a f e z).2
 | 0,e,z,h,he=>⟨h,he,Ze.refl z⟩
 | f+1,e,z,h,he=>by
  rw[jZ];obtain⟨g1,g2,_,g4⟩:=nS hO deep h;split
  ·split
   ·exact⟨g1,he,g4⟩
   ·obtain⟨c,q,r⟩:=nA deep a f (aP9 a e (mV ex deep z).1.1) _ g1 ⟨⟨show 2≤4002 by decide,Ae _,Ae _⟩,.z,⟨fun _=>rfl,fun h=>by omega,fun h=>by omega⟩,trivial,⟨he,g2,trivial⟩,trivial⟩;exact⟨c,q,g4.trans r⟩
  ·exact⟨h,he,Ze.refl z⟩
omit hO in
theorem dR {z:Z}(h:ZA L z):(b8 z).1.length≤4001:=by
 unfold b8;split
 ·have:=mI aFs z.R;have:=h.len;dsimp only;omega
 ·exact Ae _
omit hO in
theorem aDh {a:Int}{l:List Tk}{b:Ex}(hl:l.length≤4001) (hb:lZ b):lZ (aQ5 a l b):=⟨⟨show 1≤4002 by decide,by rw[rY];omega,Ae _⟩,.z,⟨fun h=>by omega,fun _=>rfl,fun h=>by omega⟩,wX l,⟨hb,trivial⟩,trivial⟩
omit hO in
theorem aDg (a:Int) {z:Z}(h:ZA L z):ZA L (aBj a z).2∧(aBj a z).1.length≤4001∧Ze z (aBj a z).2:=by
 unfold aBj;refine⟨?_,dR h,?_⟩
 ·refine ZA.need (ZA.long ?_ _ _ _) _;split
  ·exact h.words.fail _ _
  ·exact h.words
 ·refine Ze.trans ?_ ((Ze.long _ _ _ _).trans (Ze.need _ _));split
  ·exact(Ze.words z).trans (Ze.fail _ _ _)
  ·exact Ze.words z
theorem aKp (a:Int) (deep:Nat) {z:Z}(h:ZA L z):ZA L (aDf ex a deep z).2∧lZ (aDf ex a deep z).1∧((aDf ex a deep z).2.e=0→(aDf ex a deep z).2.R.length<z.R.length)∧Ze z (aDf ex a deep z).2:=by
 obtain⟨h1,h2,c⟩:=aDg a h;obtain⟨g1,g2,g3,g4⟩:=hO (deep+1) _ h1;exact⟨g1,aDh h2 g2,fun e=>Ay (g3 e) c,c.trans g4⟩
omit hO in
theorem yV (c:Tk) {z:Z}(h:ZA L z):ZA L (lE c z).2∧(lE c z).1.length≤4001∧Ze z (lE c z).2:=
 ⟨(h.words.long _ _ _).need _,dR h,(Ze.words z).trans ((Ze.long _ _ _ _).trans (Ze.need _ _))⟩
theorem rK (c:Tk) (deep:Nat) {z:Z}(h:ZA L z):ZA L (eE ex c deep z).2∧aP7 (eE ex c deep z).1∧((eE ex c deep z).2.e=0→(eE ex c deep z).2.R.length<z.R.length)∧Ze z (eE ex c deep z).2:=by
 obtain⟨h1,h2,q⟩:=yV c h;obtain⟨g1,g2,g3,g4⟩:=hO deep _ h1;refine⟨g1,⟨.z,?_⟩,fun e=>Ay (g3 e) q,q.trans g4⟩;unfold aO8;split
 ·exact g2
 ·rename_i t l hl;rw[hl] at h2;exact aDh h2 g2
end
def eT (l:List Sg):Prop:=∀s∈l,SchOk s.ty
theorem aB0 {l:List Sg}{s:Sg}(h:eT l) (k:SchOk s.ty):eT (l++[s]):=fun x hx=>by
 rcases Bi.1 hx with hx | hx
 ·exact h x hx
 ·rw[Aw.1 hx];exact k
theorem gE {s:Str}{n:Nat}{z:Z}(h:(bI s n z).1=true):(bI s n z).2.e=0∧n+1≤60:=by
 unfold bI at h ⊢;split
 ·rename_i hc;rw[ξ hc] at h;cases h
 ·rename_i hc;rw[η hc] at h;have h:=κ h;refine⟨h,?_⟩;unfold cN at h;split at h
  ·exact(hH (by decide) h).elim
  ·omega
theorem Ze.semi (z:Z):Ze z (cU z):=by
 unfold cU;split
 ·exact iX _ _
 ·exact Ze.refl z
theorem Ze.more (s:Str) (n:Nat) (z:Z):Ze z (bI s n z).2:=by
 have h1:Ze z (moreA s n z):=by
  unfold moreA;split
  ·exact Ze.fail _ _ z
  ·exact Ze.refl z
 unfold bI;split
 ·exact h1.trans (Ze.semi _)
 ·exact h1.trans ((Ze.semi _).trans (Ze.long _ _ _ _))
theorem tK {b:List Bd}{p:Bd→Bool}{k:Nat}(h:b.findIdx? p=some k):k<b.length:=by
 rw[List.findIdx?_eq_some_iff_getElem] at h;exact h.1
theorem gV {L:List Tk}:∀(l:List Sg) (b:List Bd) (z:Z),ZA L z→eT l→dV b→ZA L (dY l b z).2∧dV (dY l b z).1∧(dY l b z).1.length=b.length∧Ze z (dY l b z).2
 | [],b,z,h,_,hb=>⟨h,hb,rfl,Ze.refl z⟩
 | s::l,b,z,h,hs,hb=>by
  have hl:eT l:=fun x hx=>hs x (A9 _ hx)
  rw[dY];split
  ·split
   ·obtain⟨g1,g2,g3,g4⟩:=gV l b (bY 21 s.pl z) (h.fail _ _) hl hb;exact⟨g1,g2,g3,(Ze.fail _ _ _).trans g4⟩
   ·rename_i k q;split
    ·exact⟨h,hb,rfl,Ze.refl z⟩
    ·rename_i x hx;split
     ·obtain⟨g1,g2,g3,g4⟩:=gV l b (bY 20 s.pl z) (h.fail _ _) hl hb;exact⟨g1,g2,g3,(Ze.fail _ _ _).trans g4⟩
     ·have c:dV (b.set k (pB x s.ty)):=gJ.2 fun y hy=>by
       rcases List.mem_or_eq_of_mem_set hy with hy | rfl
       ·exact gJ.1 hb y hy
       ·have:=gJ.1 hb x (Ag hx);cases x with
        | mk n p hh sg e=>exact⟨hs s Bn,this.2⟩
      obtain⟨g1,g2,g3,g4⟩:=gV l (b.set k (pB x s.ty)) z h hl c;exact⟨g1,g2,by rw[g3,length_set],g4⟩
  ·exact⟨h,hb,rfl,Ze.refl z⟩
section
variable {L:List Tk}{ex:Nat→Z→Ex×Z}(hO:ExO L ex) (hwt:wt L≤30000)
include hO hwt
theorem mB (sigs:List Sg) (binds:List Bd) (deep:Nat) {z:Z}(h:ZA L z) (hs:eT sigs) (hb:dV binds):ZA L (b6 ex sigs binds deep z).2∧eT (b6 ex sigs binds deep z).1.1∧dV (b6 ex sigs binds deep z).1.2∧
  (b6 ex sigs binds deep z).1.1.length≤sigs.length+1∧(b6 ex sigs binds deep z).1.2.length≤binds.length+1∧((b6 ex sigs binds deep z).2.e=0→(b6 ex sigs binds deep z).2.R.length<z.R.length)∧Ze z (b6 ex sigs binds deep z).2:=by
 have h1:=(h.word (k:=1) (by decide)).may fV;have c:=(Ze.word 1 z).trans (Ze.may fV _);unfold b6;split
 ·obtain⟨g1,g2,g3,g4⟩:=gA h1 hwt;exact⟨g1,aB0 hs g2,hb,by rw[ζ,Ba];exact le_refl _,Nat.le_succ _,fun e=>Ay (g3 e) c,c.trans g4⟩
 ·obtain⟨g1,g2,g3,g4⟩:=rK hO (aV 1 z).1 deep h1;exact⟨g1,hs,lF hb g2,Nat.le_succ _,by rw[ζ,Ba];exact le_refl _,fun e=>Ay (g3 e) c,c.trans g4⟩
theorem xX (deep:Nat):∀(f n:Nat) (sigs:List Sg) (binds:List Bd) (z:Z),ZA L z→eT sigs→dV binds→n≤60→sigs.length≤n→binds.length≤n→ZA L (kS ex deep f n sigs binds z).2∧eT (kS ex deep f n sigs binds z).1.1∧dV (kS ex deep f n sigs binds z).1.2∧
  (kS ex deep f n sigs binds z).1.1.length≤60∧(kS ex deep f n sigs binds z).1.2.length≤60∧Ze z (kS ex deep f n sigs binds z).2
 | 0,n,sigs,binds,z,h,hs,hb,hn,h1,h2=>by rw[kS];exact⟨h,hs,hb,by dsimp only;omega,by dsimp only;omega,Ze.refl z⟩
 | f+1,n,sigs,binds,z,h,hs,hb,hn,h1,h2=>by
  rw[kS];split
  ·rename_i hm;obtain⟨_,c⟩:=gE hm;obtain⟨g1,g2,g3,g4,g5,_,g6⟩:=mB hO hwt sigs binds deep (h.more bE n) hs hb;obtain⟨q,r,y,A,B,E⟩:=xX deep f (n+1) _ _ _ g1 g2 g3 c (by omega) (by omega);exact⟨q,r,y,A,B,((Ze.more bE n z).trans g6).trans E⟩
  ·exact⟨h.more _ _,hs,hb,by dsimp only;omega,by dsimp only;omega,Ze.more _ _ _⟩
theorem aKo (a:Int) (deep:Nat) {z:Z}(h:ZA L z):ZA L (aDc ex a deep z).2∧lZ (aDc ex a deep z).1∧((aDc ex a deep z).2.e=0→(aDc ex a deep z).2.R.length<z.R.length)∧Ze z (aDc ex a deep z).2:=by
 obtain⟨g1,g2,g3,g4,g5,g6⟩:=xX hO hwt (deep+1) ((aR dZ z).R.length+1) 0 [] [] _ (h.need dZ) (fun s hs=>by cases hs) trivial (by decide) (le_refl _) (le_refl _);obtain⟨q,r,y,A⟩:=gV (aFu ex deep z).1.1 (aFu ex deep z).1.2 (aR bE (aFu ex deep z).2) (g1.need _) g2 g3;have c:=((((Ze.need dZ z).trans g6).trans (Ze.need bE _)).trans A).trans (Ze.need inS _);obtain⟨m1,m2,m3,m4⟩:=hO (deep+1) _ (q.need inS);have B:(aNz (aFu ex deep z)).1.length=(aFu ex deep z).1.2.length:=y;have E:(aFu ex deep z).1.2.length≤60:=g5;exact⟨m1,⟨⟨show 1≤4002 by decide,Ae _,by omega⟩,.z,⟨fun h=>by omega,fun _=>rfl,fun h=>by omega⟩,trivial,⟨m2,trivial⟩,r⟩,fun e=>Ay (m3 e) c,c.trans m4⟩
omit hwt in
theorem zH (deep:Nat):∀(f n:Nat) (ps:List Pt) (ks:List Ex) (z:Z),ZA L z→sN ps→mZ ks→n≤60→ps.length=n→ks.length=n+1→ZA L (k8 ex deep f n ps ks z).2∧sN (k8 ex deep f n ps ks z).1.1∧mZ (k8 ex deep f n ps ks z).1.2∧
  (k8 ex deep f n ps ks z).1.1.length≤60∧(k8 ex deep f n ps ks z).1.2.length=(k8 ex deep f n ps ks z).1.1.length+1∧Ze z (k8 ex deep f n ps ks z).2
 | 0,n,ps,ks,z,h,hp,c,hn,h1,h2=>by rw[k8];exact⟨h,hp,c,by dsimp only;omega,by dsimp only;omega,Ze.refl z⟩
 | f+1,n,ps,ks,z,h,hp,c,hn,h1,h2=>by
  rw[k8];split
  ·rename_i hm;obtain⟨_,q⟩:=gE hm;obtain⟨g1,g2,_,g4⟩:=(eY L (3*(bI bE n z).2.R.length+1)).2.1 0 _ (h.more bE n);obtain⟨m1,m2,_,m4⟩:=hO (deep+1) _ (g1.need arrow);obtain⟨r,y,A,B,E,I⟩:=zH deep f (n+1) (ps++[(iJ (3*(bI bE n z).2.R.length+1) 0 (bI bE n z).2).1]) (ks++[(ex (deep+1) (aR arrow (iJ (3*(bI bE n z).2.R.length+1) 0 (bI bE n z).2).2)).1]) _ m1 (n7 hp g2) (o6 c m2) q (by rw[ζ,h1];rfl) (by rw[ζ,h2];rfl);exact⟨r,y,A,B,E,((((Ze.more bE n z).trans g4).trans (Ze.need _ _)).trans m4).trans I⟩
  ·exact⟨h.more _ _,hp,c,by dsimp only;omega,by dsimp only;omega,Ze.more _ _ _⟩
omit hwt in
theorem aHl (a:Int) (deep:Nat) {z:Z}(h:ZA L z):ZA L (l8 ex a deep z).2∧lZ (l8 ex a deep z).1∧((l8 ex a deep z).2.e=0→(l8 ex a deep z).2.R.length<z.R.length)∧Ze z (l8 ex a deep z).2:=by
 obtain⟨m1,m2,m3,m4⟩:=hO (deep+1) z h;have h1:ZA L (fW ex deep z).2:=(m1.need ofS).need dZ;have q:Ze z (fW ex deep z).2:=(m4.trans (Ze.need ofS _)).trans (Ze.need dZ _);obtain⟨g1,g2,g3,g4,g5,g6⟩:=zH hO deep ((fW ex deep z).2.R.length+1) 0 [] [(fW ex deep z).1] _ h1 trivial ⟨m2,trivial⟩ (by decide) rfl rfl;have g1:ZA L (jG ex deep (fW ex deep z)).2:=g1;have g6:Ze (fW ex deep z).2 (jG ex deep (fW ex deep z)).2:=g6;have A:(jG ex deep (fW ex deep z)).1.1.length≤60:=g4;have r:(jG ex deep (fW ex deep z)).1.2.length=(jG ex deep (fW ex deep z)).1.1.length+1:=g5;have hex:lZ (l8 ex a deep z).1:=⟨⟨by omega,by omega,Ae _⟩,.z,⟨fun h=>by omega,fun h=>by omega,fun _=>r⟩,g2,g3,trivial⟩
 have h2:=g1.need bE;have y:(aR bE (jG ex deep (fW ex deep z)).2).e=0→(aR bE (jG ex deep (fW ex deep z)).2).R.length<z.R.length:=fun e=>Ay (vL g1 e) (q.trans g6)
 have c:Ze z (aR bE (jG ex deep (fW ex deep z)).2):=(q.trans g6).trans (Ze.need _ _);unfold l8 at hex ⊢;dsimp only at hex ⊢;split
 ·exact⟨h2.fail _ _,hex,fun e=>(hH (by decide) e).elim,c.trans (Ze.fail _ _ _)⟩
 ·exact⟨h2,hex,y,c⟩
omit hO in
theorem aL3 (a:Int) {y:Ex×Z}(h:ZA L y.2) (he:lZ y.1):ZA L (aBm a y).2∧lZ (aBm a y).1∧Ze y.2 (aBm a y).2:=by
 unfold aBm;split
 ·obtain⟨g1,g2,_,g4⟩:=gA (h.may fV) hwt;exact⟨g1,⟨⟨show 1≤4002 by decide,Ae _,Ae _⟩,g2,⟨fun h=>by omega,fun _=>rfl,fun h=>by omega⟩,trivial,⟨he,trivial⟩,trivial⟩,(Ze.may fV _).trans g4⟩
 ·exact⟨h.may fV,he,Ze.may fV _⟩
omit hwt in
theorem aCw (deep:Nat) {z:Z}(h:ZA L z):ZA L (kM ex deep z).2∧lZ (kM ex deep z).1∧Ze z (kM ex deep z).2:=by
 obtain⟨g1,g2,g3,g4⟩:=nS hO deep h;unfold kM;split
 ·obtain⟨c,q,r⟩:=nA hO deep (aX z).pl (z.R.length+1) _ _ (g1.fail 12 (aX z).pl) g2;exact⟨c,q,(g4.trans (Ze.fail _ _ _)).trans r⟩
 ·obtain⟨c,q,r⟩:=nA hO deep (aX z).pl (z.R.length+1) _ _ g1 g2;exact⟨c,q,g4.trans r⟩
end
theorem aL2 {ex:Nat→Z→Ex×Z}{deep:Nat}{a:Int}{f:Nat}{e:Ex}{z:Z}(h:(jZ ex deep a f e z).2.e=0):z.e=0:=by
 cases f with
 | zero=>exact h
 | succ f=>
  rw[jZ] at h;split at h
  ·assumption
  ·exact h
theorem aPk {a:Int}{y:Ex×Z}(h:(aBm a y).2.e=0):y.2.e=0:=by
 unfold aBm at h;split at h
 ·unfold bN at h;split at h
  ·rename_i he;rwa [fL] at he
  ·rwa [fL] at h
 ·rwa [fL] at h
theorem aKy {L:List Tk}{ex:Nat→Z→Ex×Z}(hO:ExO L ex) (hwt:wt L≤30000):ExO L (aFx ex):=by
 intro deep z h;unfold aFx;split
 ·rename_i he;exact⟨h,lZ.z,fun e=>absurd e he,Ze.refl z⟩
 split
 ·exact⟨h.fail _ _,lZ.z,fun e=>(hH (by decide) e).elim,Ze.fail _ _ _⟩
 split
 ·obtain⟨g1,g2,g3,g4⟩:=aKp hO (aX z).pl deep (h.may aFv);have l:=Ze.may aFv z;exact⟨g1,g2,fun e=>Ay (g3 e) l,l.trans g4⟩
 split
 ·obtain⟨g1,g2,g3,g4⟩:=aKo hO hwt (aX z).pl deep (h.may aFt);have l:=Ze.may aFt z;exact⟨g1,g2,fun e=>Ay (g3 e) l,l.trans g4⟩
 split
 ·obtain⟨g1,g2,g3,g4⟩:=aHl hO (aX z).pl deep (h.may oP);have l:=Ze.may oP z;exact⟨g1,g2,fun e=>Ay (g3 e) l,l.trans g4⟩
 ·obtain⟨g1,g2,g3⟩:=aCw hO deep h;obtain⟨y,A,c⟩:=aL3 hwt (aX z).pl g1 g2;refine⟨y,A,fun e=>?_,g3.trans c⟩;have r:=aPk e;obtain⟨B,E,I,M⟩:=nS hO deep h;unfold kM at r c ⊢;have q:=aL2 r;split at q
  ·exact(hH (by decide) q).elim
  ·rename_i hs;have hs:(mV ex deep z).1.2=true:=by simpa using hs
   rw[η (by rw[hs];exact fun k=>Bool.noConfusion k)] at c ⊢;obtain⟨_,_,J⟩:=nA hO deep (aX z).pl (z.R.length+1) _ _ B E;exact Bq (J.trans c) (I hs q)
theorem r5 {L:List Tk}(hwt:wt L≤30000):∀f,ExO L (aI6 f)
 | 0=>fun deep z h=>⟨h.fail _ _,lZ.z,fun e=>(hH (by decide) e).elim,Ze.fail _ _ _⟩
 | f+1=>aKy (r5 hwt f) hwt
def aRt:List C:=[.int .i64 0,.int .i64 0,.int .i64 0,.str [],.nl,.nl,.nl,.nl,.nl,.nl,.int .i64 0,.int .i64 0,.str [],.nl,.nl]
section
variable {L:List Tk}{ex:Nat→Z→Ex×Z}{N:Nat}(hO:ExO L ex)
include hO
end
def sgA (l:List Sg) (f:Nat):AObj:=.arr 92 9 (l.map fF) f
def bdA (l:List Bd) (f:Nat):AObj:=.arr 99 33 (l.map bH) f
def hsV (id n:Nat):V:=.one (.hs id 0 n n)
section
variable {L:List Tk}{ex:Nat→Z→Ex×Z}{N:Nat} (hwt:wt L≤30000)
include hwt
end
def aFw (p:Bd→Bool) (b:List Bd) (m:Nat):Int:=match (b.drop m).findIdx? p with
 | none=> -1
 | some d=>((m+d:Nat):Int)
theorem aHc (p:Bd→Bool) (b:List Bd):aFw p b b.length= -1:=by unfold aFw;rw[Ck];rfl
theorem aDt (p:Bd→Bool) {b:List Bd}{m:Nat}{x:Bd}(h:b[m]?=some x):aFw p b m=if p x=true then(m:Int) else aFw p b (m+1):=by
 obtain⟨h1,h2⟩:=Ad.1 h;have c:=A8 h1;rw[h2] at c;unfold aFw;rw[c,List.findIdx?_cons];by_cases hp:p x=true
 ·rw[ξ hp,ξ hp];rfl
 ·rw[η hp,η hp];cases (b.drop (m+1)).findIdx? p with
  | none=>rfl
  | some d=>simp;omega
theorem mN {s:Str}{z:Z}(hb:(bV s z).1=false):(bV s z).2=z:=by
 unfold bV at hb ⊢;split
 ·rename_i hc;rw[ξ hc] at hb;cases hb
 ·rfl
section
variable {L:List Tk}{ex:Nat→Z→Ex×Z}{N:Nat}(hO:ExO L ex) (hwt:wt L≤30000)
include hO hwt
end
structure Cl where
 name:Str
 pl:Int
 var:Str
 supers:List Str
 methods:List Sg
structure In where
 cls:Str
 pl:Int
 con:Str
 vars:List Str
 preds:List Prd
 binds:List Bd
structure Pg where
 datas:List Dt
 classes:List Cl
 insts:List In
 binds:List Bd
def oM (c:Cl):List C:=[.str c.name,.int .i64 c.pl,.str c.var,.sl 1 [],.sl 1 (c.supers.map bD),.sl 9 (c.methods.map fF)]
def r9 (x:In):List C:=[.str x.cls,.int .i64 x.pl,.str x.con,.sl 1 (x.vars.map bD),.sl 5 (x.preds.map aT),.sl 33 (x.binds.map bH)]
def vY (p:Pg):List C:=[.sl 5 (p.datas.map rC),.sl 6 (p.classes.map oM),.sl 6 (p.insts.map r9),.sl 33 (p.binds.map bH)]
def zPg:Pg:=⟨[],[],[],[]⟩
def mC:Str:=[100,97,116,97]
def gG:Str:=[99,108,97,115,115]
def lW:Str:=[105,110,115,116,97,110,99,101]
def cO (v:Str) (a:Int):List Prd→List Str→Z→List Str×Z
 | [],out,z=>(out,z)
 | p::l,out,z=>if z.e=0 then cO v a l (out++[p.cls]) (if p.ty.form=2∧p.ty.name=v then z else bY 12 a z) else(out,z)
def oK (cls v:Str) (s:Sch):Sch:=⟨v::s.vars.filter (fun x=>!decide (x=v)),⟨cls,.mk 2 0 v []⟩::s.preds,s.ty⟩
def mX (cls v:Str) (z:Z):Sg×Z:=(⟨(aV 1 z).1.text,(aV 1 z).1.pl,oK cls v (bN (aR fV (aV 1 z).2)).1⟩,(bN (aR fV (aV 1 z).2)).2)
def iB (cls v:Str) (a:Int):Nat→Nat→List Sg→Z→List Sg×Z
 | 0,_,out,z=>(out,z)
 | f+1,n,out,z=>if(bI bE n z).1=true then iB cls v a f (n+1) (out++[(mX cls v (bI bE n z).2).1]) (cN (out++[(mX cls v (bI bE n z).2).1]).length 16 a (mX cls v (bI bE n z).2).2) else(out,(bI bE n z).2)
def gH (z:Z):List Prd×Tk×Tk×Z:=((bL z).1,(aV 2 (bL z).2).1,(aV 1 (aV 2 (bL z).2).2).1,(aV 1 (aV 2 (bL z).2).2).2)
def mQ (y:List Prd×Tk×Tk×Z):List Str×Z:=((cO y.2.2.1.text y.2.1.pl y.1 [] y.2.2.2).1,aR dZ (cO y.2.2.1.text y.2.1.pl y.1 [] y.2.2.2).2)
def tR (y:List Prd×Tk×Tk×Z) (w:List Str×Z):List Sg×Z:=iB y.2.1.text y.2.2.1.text y.2.1.pl (w.2.R.length+1) 0 [] w.2
def gF (z:Z):Cl×Z:=(⟨(gH z).2.1.text,(gH z).2.1.pl,(gH z).2.2.1.text,(mQ (gH z)).1,(tR (gH z) (mQ (gH z))).1⟩,aR bE (tR (gH z) (mQ (gH z))).2)
def fQ (a:Int):List Prd→Z→Z
 | [],z=>z
 | p::l,z=>fQ a l (if z.e=0∧¬p.ty.form=2 then bY 12 a z else z)
def fM (z:Z):List Prd×Tk×Bool×Tk×Z:=
 ((bL z).1,(aV 2 (bL z).2).1,(bV cM (aV 2 (bL z).2).2).1,(aV 2 (bV cM (aV 2 (bL z).2).2).2).1,(aV 2 (bV cM (aV 2 (bL z).2).2).2).2)
def instV (b:Bool) (z:Z):List Str×Z:=if b=true then((b8 z).1.map (·.text),aR pD (b8 z).2) else([],z)
def tD (y:List Prd×Tk×Bool×Tk×Z) (w:List Str×Z):Z:=aR dZ (fQ y.2.1.pl y.1 (if w.2.e=0 then cN w.1.length 8 y.2.1.pl w.2 else w.2))
section
variable (ex:Nat→Z→Ex×Z)
def eD:Nat→Nat→List Bd→Z→List Bd×Z
 | 0,_,out,z=>(out,z)
 | f+1,n,out,z=>if(bI bE n z).1=true then eD f (n+1) (out++[(eE ex (aV 1 (bI bE n z).2).1 0 (aV 1 (bI bE n z).2).2).1]) (eE ex (aV 1 (bI bE n z).2).1 0 (aV 1 (bI bE n z).2).2).2 else(out,(bI bE n z).2)
def aDj (z:Z):List Bd×Z:=eD ex (z.R.length+1) 0 [] z
def nZ (z:Z):In×Z:=
 (⟨(fM z).2.1.text,(fM z).2.1.pl,(fM z).2.2.2.1.text,(instV (fM z).2.2.1 (fM z).2.2.2.2).1,(fM z).1,(aDj ex (tD (fM z) (instV (fM z).2.2.1 (fM z).2.2.2.2))).1⟩,
  aR bE (aDj ex (tD (fM z) (instV (fM z).2.2.1 (fM z).2.2.2.2))).2)
def iI (p:Pg) (sigs:List Sg) (z:Z):(Pg×List Sg)×Z:=
 if(bV mC z).1=true then((⟨p.datas++[(n0 (bV mC z).2).1],p.classes,p.insts,p.binds⟩,sigs),(n0 (bV mC z).2).2)
 else if(bV gG z).1=true then((⟨p.datas,p.classes++[(gF (bV gG z).2).1],p.insts,p.binds⟩,sigs),(gF (bV gG z).2).2)
 else if(bV lW z).1=true then((⟨p.datas,p.classes,p.insts++[(nZ ex (bV lW z).2).1],p.binds⟩,sigs),(nZ ex (bV lW z).2).2)
 else((⟨p.datas,p.classes,p.insts,(b6 ex sigs p.binds 0 z).1.2⟩,(b6 ex sigs p.binds 0 z).1.1),(b6 ex sigs p.binds 0 z).2)
def kH:Nat→Nat→Pg→List Sg→Z→(Pg×List Sg)×Z
 | 0,_,p,sigs,z=>((p,sigs),z)
 | f+1,n,p,sigs,z=>if(bI [] n z).1=true then kH f (n+1) (iI ex p sigs (bI [] n z).2).1.1 (iI ex p sigs (bI [] n z).2).1.2 (iI ex p sigs (bI [] n z).2).2 else((p,sigs),(bI [] n z).2)
def xF (y:(Pg×List Sg)×Z):Pg×Z:=(⟨y.1.1.datas,y.1.1.classes,y.1.1.insts,(dY y.1.2 y.1.1.binds y.2).1⟩,(dY y.1.2 y.1.1.binds y.2).2)
def j9 (z:Z):Pg×Z:=xF (kH ex (z.R.length+1) 0 zPg [] z)
end
def eM (z:Z):Z:=if z.e=0∧¬(aX z).kind=6 then bY 12 (aX z).pl z else z
def sgO (s:Sg):Prop:=WF s.ty.ty∧tn s.ty.ty≤30000∧(∀p∈s.ty.preds,WF p.ty∧tn p.ty≤30000)∧s.ty.preds.length≤4002∧s.ty.vars.length≤120060001
structure ClOk (c:Cl):Prop where
 s:c.supers.length≤4001
 m:c.methods.length≤60∧∀m∈c.methods,sgO m
structure InOk (x:In):Prop where
 v:x.vars.length≤4001
 p:x.preds.length≤4001∧∀p∈x.preds,WF p.ty∧tn p.ty≤30000
 b:x.binds.length≤60∧dV x.binds
structure DtOk (d:Dt):Prop where
 v:d.vars.length≤4001
 c:d.cons.length≤4002∧∀c∈d.cons,c.fields.length≤4002∧∀x∈c.fields,WF x∧tn x≤30000
theorem p9 {L:List Tk}(v:Str) (a:Int):∀(l:List Prd) (out:List Str) (z:Z),ZA L z→ZA L (cO v a l out z).2∧(cO v a l out z).1.length≤out.length+l.length∧Ze z (cO v a l out z).2
 | [],out,z,h=>⟨h,le_refl _,Ze.refl z⟩
 | p::l,out,z,h=>by
  rw[cO];split
  ·have h1:ZA L (if p.ty.form=2∧p.ty.name=v then z else bY 12 a z)∧Ze z (if p.ty.form=2∧p.ty.name=v then z else bY 12 a z):=by
    split
    ·exact⟨h,Ze.refl z⟩
    ·exact⟨h.fail _ _,Ze.fail _ _ z⟩
   obtain⟨g1,g2,g3⟩:=p9 v a l (out++[p.cls]) _ h1.1;exact⟨g1,by rw[ζ,Ba] at g2;rw[τ];omega,h1.2.trans g3⟩
  ·exact⟨h,by rw[τ];dsimp only;omega,Ze.refl z⟩
theorem tF {L:List Tk}(a:Int):∀(l:List Prd) (z:Z),ZA L z→ZA L (fQ a l z)∧Ze z (fQ a l z)
 | [],z,h=>⟨h,Ze.refl z⟩
 | p::l,z,h=>by
  rw[fQ];have h1:ZA L (if z.e=0∧¬p.ty.form=2 then bY 12 a z else z)∧Ze z (if z.e=0∧¬p.ty.form=2 then bY 12 a z else z):=by
   split
   ·exact⟨h.fail _ _,Ze.fail _ _ z⟩
   ·exact⟨h,Ze.refl z⟩
  obtain⟨g1,g2⟩:=tF a l _ h1.1;exact⟨g1,h1.2.trans g2⟩
theorem kK {L:List Tk}{z:Z}(h:ZA L z) (hwt:wt L≤30000):ZA L (bL z).2∧((bL z).1.length≤4001∧∀p∈(bL z).1,WF p.ty∧tn p.ty≤30000)∧Ze z (bL z).2:=by
 refine⟨h.preds,?_⟩;have hw:=h.wt;have hl:=h.len;unfold bL;split
 ·cases hs:dL z.R with
  | error e=>obtain⟨e,p⟩:=e;exact⟨⟨Ae _,fun p hp=>(by cases hp)⟩,Ze.refl z⟩
  | ok y=>
   obtain⟨s,R'⟩:=y;obtain⟨_,⟨p,h2,_⟩,c,q⟩:=kJ hs;refine⟨⟨by show s.length≤_;omega,fun p hp=>⟨(c p hp).1,by have:=(c p hp).2;omega⟩⟩,?_⟩;show R'.length≤_;rw[h2,ζ];omega
 ·exact⟨⟨Ae _,fun p hp=>(by cases hp)⟩,Ze.refl z⟩
theorem aBo {L:List Tk}{z:Z}(h:ZA L z) (hwt:wt L≤30000) (k:Int):(aV k z).1.text.length≤29994:=by
 have hw:=h.wt;obtain⟨R,e,p⟩:=z;obtain⟨t,R,rfl⟩:=h.e.ne;unfold aV;split
 ·show t.text.length≤_;have hw:wt (t::R)≤wt L:=hw;rw[eR] at hw;omega
 ·exact Ae _
theorem aG1 (cls v:Str) {s:Sch}(h:SchOk s) (c:v.length≤29994) (t:Str) (a:Int):sgO ⟨t,a,oK cls v s⟩:=by
 refine⟨h.t.1,h.t.2,fun p hp=>?_,?_,?_⟩
 ·rcases Ap.1 hp with rfl | hp
  ·exact⟨⟨rfl,rfl⟩,by show tn (.mk 2 0 v [])≤_;rw[tn,tns];omega⟩
  ·exact h.p p hp
 ·show(_::s.preds).length≤_;rw[τ];have:=h.l;omega
 ·show(v::s.vars.filter _).length≤_;rw[τ];have:=List.length_filter_le (fun x=>!decide (x=v)) s.vars;have:=h.v;omega
theorem sU {L:List Tk}(hwt:wt L≤30000) (cls v:Str) (c:v.length≤29994) (a:Int):∀(f n:Nat) (out:List Sg) (z:Z),ZA L z→n≤60→out.length=n→(∀m∈out,sgO m)→ZA L (iB cls v a f n out z).2∧((iB cls v a f n out z).1.length≤60∧∀m∈(iB cls v a f n out z).1,sgO m)∧Ze z (iB cls v a f n out z).2
 | 0,n,out,z,h,hn,hl,ho=>by rw[iB];exact⟨h,⟨by dsimp only;omega,ho⟩,Ze.refl z⟩
 | f+1,n,out,z,h,hn,hl,ho=>by
  rw[iB];split
  ·rename_i hm;obtain⟨_,q⟩:=gE hm;have h1:=h.more bE n;obtain⟨g1,g2,_,g4⟩:=gA ((h1.word (k:=1) (by decide)).need fV) hwt;have r:∀m∈out++[(mX cls v (bI bE n z).2).1],sgO m:=fun m hm=>by
    rcases Bi.1 hm with hm | hm
    ·exact ho m hm
    ·rw[Aw.1 hm];exact aG1 cls v g2 c _ _
   have y:(out++[(mX cls v (bI bE n z).2).1]).length=n+1:=by rw[ζ,hl];rfl
   obtain⟨A,B,E⟩:=sU hwt cls v c a f (n+1) _ (cN (out++[(mX cls v (bI bE n z).2).1]).length 16 a (mX cls v (bI bE n z).2).2) (ZA.long g1 _ _ _) q y r;exact⟨A,B,((((Ze.more bE n z).trans (Ze.word 1 _)).trans (Ze.need fV _)).trans g4).trans ((Ze.long _ _ _ _).trans E)⟩
  ·exact⟨h.more _ _,⟨by dsimp only;omega,ho⟩,Ze.more _ _ _⟩
theorem aD9 {L:List Tk}{z:Z}(h:ZA L z) (hwt:wt L≤30000):ZA L (gF z).2∧ClOk (gF z).1∧Ze z (gF z).2:=by
 obtain⟨g1,g2,g3⟩:=kK h hwt;have h2:=g1.word (k:=2) (by decide);have q:=h2.word (k:=1) (by decide);have r:=aBo h2 hwt 1;obtain⟨y,A,B⟩:=p9 (aV 1 (aV 2 (bL z).2).2).1.text (aV 2 (bL z).2).1.pl (bL z).1 [] _ q;obtain⟨m1,m2,m3⟩:=sU hwt (gH z).2.1.text (gH z).2.2.1.text r (gH z).2.1.pl ((mQ (gH z)).2.R.length+1) 0 [] _ (y.need dZ) (Ae _) rfl (fun m hm=>by cases hm);refine⟨m1.need _,⟨?_,m2⟩,(((g3.trans (Ze.word 2 _)).trans (Ze.word 1 _)).trans B).trans ((Ze.need dZ _).trans (m3.trans (Ze.need bE _)))⟩;show(cO _ _ _ _ _).1.length≤_;have c:(cO (aV 1 (aV 2 (bL z).2).2).1.text (aV 2 (bL z).2).1.pl (bL z).1 [] (aV 1 (aV 2 (bL z).2).2).2).1.length≤0+(bL z).1.length:=A;exact le_trans c (by omega)
theorem xZ {L:List Tk}(b:Bool) {z:Z}(h:ZA L z):ZA L (instV b z).2∧(instV b z).1.length≤4001∧Ze z (instV b z).2:=by
 unfold instV;split
 ·exact⟨h.words.need _,by rw[χ];exact dR h,(Ze.words z).trans (Ze.need _ _)⟩
 ·exact⟨h,Ae _,Ze.refl z⟩
theorem aG8 {L:List Tk}(y:List Prd×Tk×Bool×Tk×Z) (w:List Str×Z) (h:ZA L w.2):ZA L (tD y w)∧Ze w.2 (tD y w):=by
 have h1:ZA L (if w.2.e=0 then cN w.1.length 8 y.2.1.pl w.2 else w.2)∧Ze w.2 (if w.2.e=0 then cN w.1.length 8 y.2.1.pl w.2 else w.2):=by
  split
  ·exact⟨h.long _ _ _,Ze.long _ _ _ _⟩
  ·exact⟨h,Ze.refl _⟩
 obtain⟨g1,g2⟩:=tF y.2.1.pl y.1 _ h1.1;exact⟨g1.need _,(h1.2.trans g2).trans (Ze.need _ _)⟩
section
variable {L:List Tk}{ex:Nat→Z→Ex×Z}(hO:ExO L ex) (hwt:wt L≤30000)
include hO
theorem pK:∀(f n:Nat) (out:List Bd) (z:Z),ZA L z→n≤60→out.length=n→dV out→ZA L (eD ex f n out z).2∧((eD ex f n out z).1.length≤60∧dV (eD ex f n out z).1)∧Ze z (eD ex f n out z).2
 | 0,n,out,z,h,hn,hl,ho=>by rw[eD];exact⟨h,⟨by dsimp only;omega,ho⟩,Ze.refl z⟩
 | f+1,n,out,z,h,hn,hl,ho=>by
  rw[eD];split
  ·rename_i hm;obtain⟨_,c⟩:=gE hm;obtain⟨g1,g2,_,g4⟩:=rK hO (aV 1 (bI bE n z).2).1 0 ((h.more bE n).word (k:=1) (by decide));obtain⟨q,r,y⟩:=pK f (n+1) _ _ g1 c (by rw[ζ,hl];rfl) (lF ho g2);exact⟨q,r,(((Ze.more bE n z).trans (Ze.word 1 _)).trans g4).trans y⟩
  ·exact⟨h.more _ _,⟨by dsimp only;omega,ho⟩,Ze.more _ _ _⟩
include hwt
theorem aG7 {z:Z}(h:ZA L z):ZA L (nZ ex z).2∧InOk (nZ ex z).1∧Ze z (nZ ex z).2:=by
 obtain⟨g1,g2,g3⟩:=kK h hwt;have h2:=((g1.word (k:=2) (by decide)).may cM).word (k:=2) (by decide);have c:=((g3.trans (Ze.word 2 _)).trans (Ze.may cM _)).trans (Ze.word 2 _);obtain⟨q,r,y⟩:=xZ (fM z).2.2.1 h2;obtain⟨m1,m2⟩:=aG8 (fM z) (instV (fM z).2.2.1 (fM z).2.2.2.2) q;obtain⟨A,B,E⟩:=pK hO ((tD (fM z) (instV (fM z).2.2.1 (fM z).2.2.2.2)).R.length+1) 0 [] _ m1 (Ae _) rfl trivial;exact⟨A.need _,⟨r,g2,B⟩,(c.trans y).trans (m2.trans (E.trans (Ze.need _ _)))⟩
end
def aRl:List C:=[.str [],.int .i64 0,.str [],.nl,.nl,.nl]
section
variable {L:List Tk}{ex:Nat→Z→Ex×Z}{N:Nat}(hO:ExO L ex) (hwt:wt L≤30000)
include hO hwt
end
def aOf (c:Cn):Prop:=c.fields.length≤4002∧∀x∈c.fields,WF x∧tn x≤30000
theorem aK3 {L:List Tk}{z:Z}(h:ZA L z) (hwt:wt L≤30000):ZA L (rE z).2∧aOf (rE z).1∧Ze z (rE z).2:=by
 have h1:=h.word (k:=2) (by decide);have hl:=h1.len;obtain⟨g1,g2,g3,g4⟩:=pL ((aV 2 z).2.R.length+1) [] _ h1 (fun x hx=>by cases hx) (by rw[length_nil];omega);exact⟨g1.long _ _ _,⟨g4,fun x hx=>⟨(g2 x hx).1,by have:=(g2 x hx).2;omega⟩⟩,((Ze.word 2 z).trans g3).trans (Ze.long _ _ _ _)⟩
theorem yE {L:List Tk}(hwt:wt L≤30000) (a:Int):∀(f:Nat) (out:List Cn) (z:Z),ZA L z→out.length+z.R.length≤4002→(∀c∈out,aOf c)→ZA L (kY f a out z).2∧((kY f a out z).1.length≤4002∧∀c∈(kY f a out z).1,aOf c)∧Ze z (kY f a out z).2
 | 0,out,z,h,hl,ho=>by rw[kY];exact⟨h,⟨by dsimp only;omega,ho⟩,Ze.refl z⟩
 | f+1,out,z,h,hl,ho=>by
  rw[kY];obtain⟨g1,g2,g3⟩:=aK3 h hwt;have h2:=g1.long (out++[(rE z).1]).length 16 a;have r:=g3.trans (Ze.long (out++[(rE z).1]).length 16 a _);have hle:(out++[(rE z).1]).length=out.length+1:=by rw[ζ];rfl
  have q:∀c∈out++[(rE z).1],aOf c:=fun c hc=>by
   rcases Bi.1 hc with hc | hc
   ·exact ho c hc
   ·rw[Aw.1 hc];exact g2
  have E:=h.lp;split
  ·rename_i hm;have I:=fP h2 hm;have J:(cN (out++[(rE z).1]).length 16 a (rE z).2).R.length≤z.R.length:=r;obtain⟨y,A,B⟩:=yE hwt a f _ _ (h2.may aA5) (by omega) q;exact⟨y,A,(r.trans (Ze.may _ _)).trans B⟩
  ·exact⟨h2.may aA5,⟨by dsimp only;omega,q⟩,r.trans (Ze.may _ _)⟩
theorem aHj {L:List Tk}{z:Z}(h:ZA L z) (hwt:wt L≤30000):ZA L (n0 z).2∧DtOk (n0 z).1∧Ze z (n0 z).2:=by
 have h1:=h.word (k:=2) (by decide);have q:=dR h1;have h2:ZA L (jU z).2.2:=(h1.words.long _ _ _).need _;have r:Ze z (jU z).2.2:=((Ze.word 2 z).trans (Ze.words _)).trans ((Ze.long _ _ _ _).trans (Ze.need _ _));have hc:ZA L (jV (jU z)).2∧((jV (jU z)).1.length≤4002∧∀c∈(jV (jU z)).1,aOf c)∧Ze (jU z).2.2 (jV (jU z)).2:=by
  unfold jV;split
  ·exact yE hwt _ _ [] _ h2 (by rw[length_nil];have:=h2.len;omega) (fun c hc=>by cases hc)
  ·exact⟨h2,⟨Ae _,fun c hc=>(by cases hc)⟩,Ze.refl _⟩
 exact⟨hc.1,⟨by show((jU z).2.1.map _).length≤_;rw[χ];exact q,hc.2.1⟩,r.trans hc.2.2⟩
structure PgOk (n:Nat) (p:Pg):Prop where
 d:p.datas.length≤n∧∀d∈p.datas,DtOk d
 c:p.classes.length≤n∧∀c∈p.classes,ClOk c
 i:p.insts.length≤n∧∀x∈p.insts,InOk x
 b:p.binds.length≤n∧dV p.binds
theorem aFg {α:Type}{l:List α}{x:α}{n:Nat}(h:l.length≤n):(l++[x]).length≤n+1:=by rw[ζ,Ba];omega
theorem wQ {α:Type}{P:α→Prop}{l:List α}{x:α}(h:∀y∈l,P y) (hx:P x):∀y∈l++[x],P y:=fun y hy=>by
 rcases Bi.1 hy with hy | hy
 ·exact h y hy
 ·rw[Aw.1 hy];exact hx
section
variable {L:List Tk}{ex:Nat→Z→Ex×Z}(hO:ExO L ex) (hwt:wt L≤30000)
include hO hwt
theorem yC {n:Nat}{p:Pg}{sigs:List Sg}{z:Z}(h:ZA L z) (hp:PgOk n p) (hs:eT sigs∧sigs.length≤n):ZA L (iI ex p sigs z).2∧PgOk (n+1) (iI ex p sigs z).1.1∧(eT (iI ex p sigs z).1.2∧(iI ex p sigs z).1.2.length≤n+1)∧((iI ex p sigs z).2.e=0→(iI ex p sigs z).2.R.length<z.R.length)∧Ze z (iI ex p sigs z).2:=by
 obtain⟨r,hc,hi,hb⟩:=hp;have up:∀{m:Nat},m≤n→m≤n+1:=fun h=>Nat.le_succ_of_le h
 unfold iI;split
 ·rename_i hm;have c:=fP h hm;obtain⟨g1,g2,g3⟩:=aHj (h.may mC) hwt;have q:(n0 (bV mC z).2).2.R.length≤(bV mC z).2.R.length:=g3;exact⟨g1,⟨⟨aFg r.1,wQ r.2 g2⟩,⟨up hc.1,hc.2⟩,⟨up hi.1,hi.2⟩,⟨up hb.1,hb.2⟩⟩,⟨hs.1,up hs.2⟩,fun _=>Bq q c,le_of_lt (Bq q c)⟩
 split
 ·rename_i hm;have c:=fP h hm;obtain⟨g1,g2,g3⟩:=aD9 (h.may gG) hwt;have q:(gF (bV gG z).2).2.R.length≤(bV gG z).2.R.length:=g3;exact⟨g1,⟨⟨up r.1,r.2⟩,⟨aFg hc.1,wQ hc.2 g2⟩,⟨up hi.1,hi.2⟩,⟨up hb.1,hb.2⟩⟩,⟨hs.1,up hs.2⟩,fun _=>Bq q c,le_of_lt (Bq q c)⟩
 split
 ·rename_i hm;have c:=fP h hm;obtain⟨g1,g2,g3⟩:=aG7 hO hwt (h.may lW);have q:(nZ ex (bV lW z).2).2.R.length≤(bV lW z).2.R.length:=g3;exact⟨g1,⟨⟨up r.1,r.2⟩,⟨up hc.1,hc.2⟩,⟨aFg hi.1,wQ hi.2 g2⟩,⟨up hb.1,hb.2⟩⟩,⟨hs.1,up hs.2⟩,fun _=>Bq q c,le_of_lt (Bq q c)⟩
 ·obtain⟨g1,g2,g3,g4,g5,g6,g7⟩:=mB hO hwt sigs p.binds 0 h hs.1 hb.2;exact⟨g1,⟨⟨up r.1,r.2⟩,⟨up hc.1,hc.2⟩,⟨up hi.1,hi.2⟩,⟨by show(b6 ex sigs p.binds 0 z).1.2.length≤_;omega,g3⟩⟩,⟨g2,by show(b6 ex sigs p.binds 0 z).1.1.length≤_;omega⟩,g6,g7⟩
end
section
variable {L:List Tk}{ex:Nat→Z→Ex×Z}{N:Nat}(hO:ExO L ex) (hwt:wt L≤30000)
include hO hwt
end
end Go.Proofs.YtpmheldmadendaaGreatDoor
