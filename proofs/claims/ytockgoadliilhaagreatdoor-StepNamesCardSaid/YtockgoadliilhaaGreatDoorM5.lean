/-
  Texts Am24 to Am28 in one.
-/
import Derived.Test.YtockgoadliilhaaGreatDoorM4
import Derived.KernelRfl
import Derived.Test.YtockgoadliilhaaGreatDoorProg
import Derived.Shelf.Spec.SlicesGrow
open List (cons_append drop_zero eq_nil_of_length_eq_zero length_cons length_map length_nil length_take map_append map_take mem_cons nil_append take_add_one take_length take_of_length_le)
open Nat (eq_of_beq_eq_true le_refl min_eq_left zero_le)
namespace Go.AM
open Go
section
variable {P:Program}{n:Nat}{o:Oper}{st:St}{ob:List Prop}{tr:Tr}{md nat:Bool}
def arith (md nat:Bool) (op:BinOp) (a b:Int) (ob:List Prop):Option (Int×List Prop):=match op with
 | .add=>bif nat then(match a,b with | .ofNat x,.ofNat y=>(j2 md (x+y≤9223372036854775807) ob).bind fun ob1=>some (((x+y:Nat):Int),ob1) | _,_=>none)
  else(j2 md (-9223372036854775808≤a+b∧a+b≤9223372036854775807) ob).bind fun ob1=>some (a+b,ob1)
 | .sub=>bif nat then(match a,b with | .ofNat x,.ofNat y=>(j2 md (y≤x∧x≤9223372036854775807) ob).bind fun ob1=>some (((x-y:Nat):Int),ob1) | _,_=>none)
  else(j2 md (-9223372036854775808≤a-b∧a-b≤9223372036854775807) ob).bind fun ob1=>some (a-b,ob1)
 | .mul=>bif nat then(match a,b with | .ofNat x,.ofNat y=>(j2 md (x*y≤9223372036854775807) ob).bind fun ob1=>some (((x*y:Nat):Int),ob1) | _,_=>none)
  else(j2 md (-9223372036854775808≤a*b∧a*b≤9223372036854775807) ob).bind fun ob1=>some (a*b,ob1)
 | .quo=>bif nat then(match a,b with | .ofNat x,.ofNat y=>(j2 md (x≤9223372036854775807∧1≤y) ob).bind fun ob1=>some (((x/y:Nat):Int),ob1) | _,_=>none)
  else(j2 md (0≤a∧a≤9223372036854775807∧1≤b) ob).bind fun ob1=>some (a/b,ob1)
 | .rem=>bif nat then(match a,b with | .ofNat x,.ofNat y=>(j2 md (1≤y) ob).bind fun ob1=>some (((x%y:Nat):Int),ob1) | _,_=>none)
  else(j2 md (0≤a∧1≤b) ob).bind fun ob1=>some (a%b,ob1)
 | _=>none
theorem tT {α:Type}{q:List Prop}{x:Option (List Prop)}{r r':α}(h:(x.bind fun I=>some (r,I))=some (r',q)):x=some q∧r'=r:=by
 rw[Ah] at h;obtain⟨I,h1,h2⟩:=h;cases h2;exact⟨h1,rfl⟩
theorem aQn {op:BinOp}{O ty:TypeId}{x y:Operand}{d:Nat}{a b r:Int}{N:List Prop}(J:o.op=.binOp op O x y ty) (hd:o.dst=some d) (q:d<n) (hx:opv st x=some (I .i64 a)) (hy:opv st y=some (I .i64 b)) (h:arith md nat op a b ob=some (r,N)):
  iV N→iV ob∧Step P n o st ⟨opr x++opr y,[]⟩ ⟨some (d,some (I .i64 r)),[]⟩:=by
 intro hc;unfold arith at h;cases nat<;>cases op<;>simp only[Bo,Bq] at h<;>try (cases h;done)
 ·obtain⟨h1,rfl⟩:=tT h;obtain⟨g,k⟩:=b9 h1 hc;exact⟨g,aXk J hd q hx hy k⟩
 ·obtain⟨h1,rfl⟩:=tT h;obtain⟨g,k⟩:=b9 h1 hc;exact⟨g,aW1 J hd q hx hy k⟩
 ·obtain⟨h1,rfl⟩:=tT h;obtain⟨g,k⟩:=b9 h1 hc;exact⟨g,aXe J hd q hx hy k⟩
 ·obtain⟨h1,rfl⟩:=tT h;obtain⟨g,k⟩:=b9 h1 hc;exact⟨g,aRe J hd q hx hy k⟩
 ·obtain⟨h1,rfl⟩:=tT h;obtain⟨g,k⟩:=b9 h1 hc;exact⟨g,aRd J hd q hx hy k⟩
 all_goals cases a<;>cases b<;>simp only at h<;>try (cases h;done)
 ·obtain⟨h1,rfl⟩:=tT h;obtain⟨g,k⟩:=b9 h1 hc;exact⟨g,aXj J hd q hx hy k⟩
 ·obtain⟨h1,rfl⟩:=tT h;obtain⟨g,k⟩:=b9 h1 hc;exact⟨g,aW0 J hd q hx hy k⟩
 ·obtain⟨h1,rfl⟩:=tT h;obtain⟨g,k⟩:=b9 h1 hc;exact⟨g,aXd J hd q hx hy k⟩
 ·obtain⟨h1,rfl⟩:=tT h;obtain⟨g,k⟩:=b9 h1 hc;exact⟨g,aW9 J hd q hx hy k⟩
 ·obtain⟨h1,rfl⟩:=tT h;obtain⟨g,k⟩:=b9 h1 hc;exact⟨g,aW7 J hd q hx hy k⟩
def a0t (op:BinOp) (a b:Int):Option Bool:=match op with
 | .lss=>some (decide (a<b))
 | .leq=>some (decide (a≤b))
 | .gtr=>some (decide (b<a))
 | .geq=>some (decide (b≤a))
 | .eql=>some (decide (a=b))
 | .neq=>some (!decide (a=b))
 | _=>none
theorem aUt {op:BinOp}{N ty:TypeId}{x y:Operand}{d:Nat}{k:IntKind}{a b:Int}{r:Bool}(J:o.op=.binOp op N x y ty) (hd:o.dst=some d) (q:d<n) (hx:opv st x=some (I k a)) (hy:opv st y=some (I k b)) (h:a0t op a b=some r):
  Step P n o st ⟨opr x++opr y,[]⟩ ⟨some (d,some (B r)),[]⟩:=by
 unfold a0t at h;cases op<;>simp only at h<;>try (cases h;done)
 ·cases h;exact a0f J hd q hx hy
 ·cases h;exact aZ7 J hd q hx hy
 ·cases h;exact a0b J hd q hx hy
 ·cases h;exact a0c J hd q hx hy
 ·cases h;exact a0d J hd q hx hy
 ·cases h;exact a0e J hd q hx hy
def aS3 (op:BinOp) (k:IntKind) (a b:Int):Option Int:=match op with
 | .add=>some (k.wrap (a+b))
 | .sub=>some (k.wrap (a-b))
 | .mul=>some (k.wrap (a*b))
 | _=>none
theorem aN7 {op:BinOp}{N ty:TypeId}{x y:Operand}{d:Nat}{k:IntKind}{a b r:Int}(J:o.op=.binOp op N x y ty) (hd:o.dst=some d) (q:d<n) (hx:opv st x=some (I k a)) (hy:opv st y=some (I k b)) (h:aS3 op k a b=some r):
  Step P n o st ⟨opr x++opr y,[]⟩ ⟨some (d,some (I k r)),[]⟩:=by
 unfold aS3 at h;cases op<;>simp only at h<;>try (cases h;done)
 ·cases h;exact aO2 J hd q hx hy rfl
 ·cases h;exact aOr J hd q hx hy rfl
 ·cases h;exact aOw J hd q hx hy rfl
def aUd:IntKind→Bool
 | .i64=>true
 | _=>false
def aZe (tr:Tr) (md nat:Bool) (o:Oper) (n:Nat) (st:St) (ob:List Prop) (op:BinOp) (tx:TypeId) (x y:Operand):Ans:=(opO st x).bind fun v=>(opO st y).bind fun u=>match v,u with
 | .one (.c (.int k a)),.one (.c (.int k' b))=>bif decide (k=k') then(match a0t op a b with
   | some r=>val o n ⟨opr x++opr y,[]⟩ (.one (.c (.bool r))) [] ob
   | none=>bif aUd k then(arith md nat op a b ob).bind fun(r,ob1)=>val o n ⟨opr x++opr y,[]⟩ (.one (.c (.int .i64 r))) [] ob1
    else(aS3 op k a b).bind fun r=>val o n ⟨opr x++opr y,[]⟩ (.one (.c (.int k r))) [] ob) else none
 | .one (.c (.str a)),.one (.c (.str b))=>match op with
  | .eql=>val o n ⟨opr x++opr y,[]⟩ (.one (.c (.bool (decide (a=b))))) [] ob
  | .neq=>val o n ⟨opr x++opr y,[]⟩ (.one (.c (.bool (!decide (a=b))))) [] ob
  | .lss=>val o n ⟨opr x++opr y,[]⟩ (.one (.c (.bool (Op.bytesLess a b)))) [] ob
  | .add=>(j2 md (a.length+b.length≤maxLen) ob).bind fun ob1=>val o n ⟨opr x++opr y,[]⟩ (.one (.c (.str (a++b)))) [] ob1
  | _=>none
 | .one (.c (.bool a)),.one (.c (.bool b))=>(tr.get tx).bind fun i=>match i.k with
  | .bool=>match op with
   | .eql=>val o n ⟨opr x++opr y,[]⟩ (.one (.c (.bool (a==b)))) [] ob
   | .neq=>val o n ⟨opr x++opr y,[]⟩ (.one (.c (.bool (!(a==b))))) [] ob
   | _=>none
  | _=>none
 | v,.one (.c .np)=>(tr.get tx).bind fun i=>match i.k with
  | .pt _=>(zE v).bind fun b=>match op with
   | .eql=>val o n ⟨opr x++opr y,[]⟩ (.one (.c (.bool b))) [] ob
   | .neq=>val o n ⟨opr x++opr y,[]⟩ (.one (.c (.bool (!b)))) [] ob
   | _=>none
  | _=>none
 | v,.one (.c .nl)=>(tr.get tx).bind fun i=>match i.k with
  | .sl _=>(aOk v).bind fun b=>match op with
   | .eql=>val o n ⟨opr x++opr y,[]⟩ (.one (.c (.bool b))) [] ob
   | _=>none
  | _=>none
 | _,_=>none
theorem aQm {op:BinOp}{O ty:TypeId}{x y:Operand}(hw:tr.wf=true) (J:Tok P tr.flat) (I:o.op=.binOp op O x y ty):Snd P n o st ob (aZe tr md nat o n st ob op O x y):=by
 refine Snd.bind fun v hv=>Snd.bind fun u hu=>?_
 rw[cZ] at hv hu;split
 ·rename_i k a k' b;refine Snd.cond fun hk=>?_
  have W:=ψ hk;subst W;split
  ·rename_i r N;exact Snd.val fun _ hd q hc=>⟨hc,aUt I hd q hv hu N⟩
  ·cases hi:aUd k with
   | true=>
    simp only[Bo];cases k<;>simp only[aUd] at hi<;>try (cases hi;done)
    refine Snd.bind fun p hp=>?_
    obtain⟨r,Y⟩:=p;exact Snd.val fun _ hd q hc=>aQn I hd q hv hu hp hc
   | false=>
    simp only[Bq];exact Snd.bind fun r N=>Snd.val fun _ hd q hc=>⟨hc,aN7 I hd q hv hu N⟩
 ·split
  ·exact Snd.val fun _ hd q hc=>⟨hc,aW4 I hd q hv hu⟩
  ·exact Snd.val fun _ hd q hc=>⟨hc,aW2 I hd q hv hu⟩
  ·exact Snd.val fun _ hd q hc=>⟨hc,aW3 I hd q hv hu⟩
  ·exact Snd.bind fun Y h1=>Snd.val fun _ hd q hc=>⟨(b9 h1 hc).1,aW6 I hd q hv hu (b9 h1 hc).2⟩
  ·exact Snd.none
 ·refine Snd.bind fun i hi=>?_
  replace hi:=Tr.get_ok hw hi
  split
  ·rename_i hk;split
   ·exact Snd.val fun _ hd q hc=>⟨hc,aXi J I hd q hi hk hv hu⟩
   ·exact Snd.val fun _ hd q hc=>⟨hc,aXh J I hd q hi hk hv hu⟩
   ·exact Snd.none
  ·exact Snd.none
 ·refine Snd.bind fun i hi=>?_
  replace hi:=Tr.get_ok hw hi
  split
  ·rename_i hk;refine Snd.bind fun b hb=>?_
   split
   ·exact Snd.val fun _ hd q hc=>⟨hc,aXc J I hd q hi hk hv hb hu⟩
   ·exact Snd.val fun _ hd q hc=>⟨hc,aXb J I hd q hi hk hv hb hu⟩
   ·exact Snd.none
  ·exact Snd.none
 ·refine Snd.bind fun i hi=>?_
  replace hi:=Tr.get_ok hw hi
  split
  ·rename_i hk;refine Snd.bind fun b hb=>?_
   split
   ·exact Snd.val fun _ hd q hc=>⟨hc,aTm J I hd q hi hk hv hb hu⟩
   ·exact Snd.none
  ·exact Snd.none
 ·exact Snd.none
def a1m (md:Bool) (o:Oper) (n:Nat) (st:St) (ob:List Prop) (op:UnOp) (x:Operand):Ans:=(opO st x).bind fun v=>match v with
 | .one (.c (.bool b))=>match op with
  | .not=>val o n ⟨opr x,[]⟩ (.one (.c (.bool (!b)))) [] ob
  | _=>none
 | .one (.c (.int .i64 a))=>match op with
  | .neg=>(j2 md (-9223372036854775808≤0-a∧0-a≤9223372036854775807) ob).bind fun ob1=>val o n ⟨opr x,[]⟩ (.one (.c (.int .i64 (0-a)))) [] ob1
  | _=>none
 | _=>none
theorem aVk {op:UnOp}{t:TypeId}{x:Operand}(I:o.op=.unOp op t x):Snd P n o st ob (a1m md o n st ob op x):=by
 refine Snd.bind fun v hv=>?_
 rw[cZ] at hv;split
 ·split
  ·exact Snd.val fun _ hd q hc=>⟨hc,aZ6 I hd q hv⟩
  ·exact Snd.none
 ·split
  ·exact Snd.bind fun J h1=>Snd.val fun _ hd q hc=>⟨(b9 h1 hc).1,aZ8 I hd q hv (Cc _ (b9 h1 hc).2)⟩
  ·exact Snd.none
 ·exact Snd.none
def aZc (tr:Tr) (md:Bool) (o:Oper) (n:Nat) (st:St) (ob:List Prop) (x:Operand) (t:TypeId):Ans:=(tr.get t).bind fun i=>(opO st x).bind fun v=>match i.k with
 | .sl _=>match v with
  | .one (.c (.sl _ l))=>val o n ⟨opr x,[]⟩ (.one (.c (.int .i64 ((l.length:Nat):Int)))) [] ob
  | .one (.c .nl)=>val o n ⟨opr x,[]⟩ (.one (.c (.int .i64 0))) [] ob
  | .one (.ras n' _ _)=>val o n ⟨opr x,[]⟩ (.one (.c (.int .i64 ((n':Nat):Int)))) [] ob
  | .one (.hs id _ len sz)=>match st.h id with
   | some (.arr _ _ elems _)=>(j2 md (sz=elems.length) ob).bind fun ob1=>val o n ⟨opr x,[id]⟩ (.one (.c (.int .i64 ((len:Nat):Int)))) [] ob1
   | _=>none
  | .one (.ra id _ len sz)=>match st.h id with
   | some (.rarr _ _ elems)=>(j2 md (sz=elems.length) ob).bind fun ob1=>val o n ⟨opr x,[id]⟩ (.one (.c (.int .i64 ((len:Nat):Int)))) [] ob1
   | _=>none
  | _=>none
 | .str=>match v with
  | .one (.c (.str s))=>val o n ⟨opr x,[]⟩ (.one (.c (.int .i64 ((s.length:Nat):Int)))) [] ob
  | _=>none
 | .mp _ _=>match v with
  | .one (.mr id)=>match st.h id with
   | some (.map _ ents)=>(j2 md (kL ents) ob).bind fun ob1=>val o n ⟨opr x,[id]⟩ (.one (.c (.int .i64 ((ents.length:Nat):Int)))) [] ob1
   | _=>none
  | _=>none
 | _=>none
theorem aQi {x:Operand}{t:TypeId}(hw:tr.wf=true) (I:Tok P tr.flat) (J:o.op=.call { callee:=.builtin .len,args:= #[x],argTypes:= #[t] }):Snd P n o st ob (aZc tr md o n st ob x t):=by
 refine Snd.bind fun i hi=>Snd.bind fun v hv=>?_
 replace hi:=Tr.get_ok hw hi
 rw[cZ] at hv;split
 ·rename_i hk;split
  ·exact Snd.val fun _ hd q hc=>⟨hc,aOx I J hd q hi hk hv⟩
  ·exact Snd.val fun _ hd q hc=>⟨hc,aOz I J hd q hi hk hv⟩
  ·exact Snd.val fun _ hd q hc=>⟨hc,aJv I J hd q hi hk hv⟩
  ·split
   ·rename_i hh;exact Snd.bind fun N h1=>Snd.val fun _ hd q hc=>⟨(b9 h1 hc).1,aEr I J hd q hi hk hv hh (b9 h1 hc).2⟩
   ·exact Snd.none
  ·split
   ·rename_i hh;exact Snd.bind fun N h1=>Snd.val fun _ hd q hc=>⟨(b9 h1 hc).1,aOy I J hd q hi hk hv hh (b9 h1 hc).2⟩
   ·exact Snd.none
  ·exact Snd.none
 ·rename_i hk;split
  ·exact Snd.val fun _ hd q hc=>⟨hc,aJu I J hd q hi hk hv⟩
  ·exact Snd.none
 ·rename_i hk;split
  ·split
   ·rename_i hh;exact Snd.bind fun N h1=>Snd.val fun _ hd q hc=>⟨(b9 h1 hc).1,aJw I J hd q hi hk hv hh (b9 h1 hc).2⟩
   ·exact Snd.none
  ·exact Snd.none
 ·exact Snd.none
def aZo (md:Bool) (st:St) (es:Nat) (hn:Hn) (v:V) (ob:List Prop):Option (List Nat×List (List C)×List Prop):=match v with
 | .one (.hs id off len sz)=>match st.h id with
  | some (.arr _ es' elems _)=>bif Nat.beq es' es then(j2 md (sz=elems.length) ob).bind fun ob1=>(match hn with
   | .all=>some ([id],elems,(off=0∧len=sz)::ob1)
   | .c rows=>some ([id],rows,(rows=(elems.drop off).take len)::ob1)
   | _=>bif Nat.beq off 0&&Nat.beq len sz then some ([id],elems,ob1) else some ([id],(elems.drop off).take len,ob1)) else none
  | _=>none
 | .one (.c (.sl es' l))=>bif Nat.beq es' es then some ([],l,ob) else none
 | .one (.c (.sn es' l))=>bif Nat.beq es' es then some ([],l,ob) else none
 | .one (.c .nl)=>some ([],[],ob)
 | _=>none
theorem wF {es:Nat}{hn:Hn}{v:V}{ids:List Nat}{rows:List (List C)}{I:List Prop}(h:aZo md st es hn v ob=some (ids,rows,I)):iV I→iV ob∧Src st es ids v rows:=by
 intro hc;unfold aZo at h;split at h
 ·rename_i id off len sz;split at h
  ·rename_i te W elems fz hh;obtain⟨h1,q⟩:=eJ h;clear h;have:=Ac h1;subst this;rw[Ah] at q;obtain⟨Y,h2,h⟩:=q;split at h
   ·cases h;obtain⟨⟨rfl,rfl⟩,hc⟩:=hc;obtain⟨g,k⟩:=b9 h2 hc;exact⟨g,.all hh k⟩
   ·cases h;obtain⟨J,hc⟩:=hc;obtain⟨g,k⟩:=b9 h2 hc;exact⟨g,.hs hh k J⟩
   ·cases hb:Nat.beq off 0&&Nat.beq len sz with
    | true=>
     rw[hb] at h;cases h;obtain⟨g,k⟩:=b9 h2 hc;simp only[Ai] at hb;have N:=Ac hb.1;have O:=Ac hb.2;subst N O;exact⟨g,.all hh k⟩
    | false=>
     rw[hb] at h;cases h;obtain⟨g,k⟩:=b9 h2 hc;exact⟨g,.hs hh k rfl⟩
  ·cases h
 ·obtain⟨h1,q⟩:=eJ h;clear h;have:=Ac h1;subst this;cases q;exact⟨hc,.sl⟩
 ·obtain⟨h1,q⟩:=eJ h;clear h;have:=Ac h1;subst this;cases q;exact⟨hc,.sn⟩
 ·cases h;exact⟨hc,.nl⟩
 ·cases h
def aAy:List (List C)→Option (List Int)
 | []=>some []
 | [.int .u8 m]::rs=>(aAy rs).bind fun l=>some (m::l)
 | _=>none
theorem aAx:∀{rows:List (List C)}{ns:List Int},aAy rows=some ns→rows=ns.map fun m=>[C.int .u8 m]
 | [],ns,h=>by simp[aAy] at h;subst h;rfl
 | [.int .u8 m]::rs,ns,h=>by
  simp only[aAy,Ah] at h;obtain⟨l,h1,h2⟩:=h;cases h2;rw[aAx h1];rfl
def aSv (tr:Tr) (md:Bool) (o:Oper) (n:Nat) (st:St) (ob:List Prop) (hn:Hn) (src dst:TypeId) (x:Operand):Ans:=(tr.get src).bind fun i=>(tr.get dst).bind fun j=>(opO st x).bind fun v=>match j.k with
 | .int k'=>match i.k,v with
  | .int k,.one (.c (.int k2 m))=>bif decide (k2=k) then val o n ⟨opr x,[]⟩ (.one (.c (.int k' (k'.wrap m)))) [] ob else none
  | _,_=>none
 | .str=>match i.k with
  | .sl e=>(tr.get e).bind fun ei=>match ei.k with
   | .int .u8=>(aZo md st 1 hn v ob).bind fun(ids,rows,ob1)=>(aAy rows).bind fun ns=>(frc (ns.map fun m=>UInt8.ofNat m.toNat)).bind fun bs=>val o n ⟨opr x,ids⟩ (.one (.c (.str bs))) [] ob1
   | _=>none
  | _=>none
 | _=>none
theorem aM7 {hn:Hn}{src dst:TypeId}{x:Operand}(hw:tr.wf=true) (W:Tok P tr.flat) (Y:o.op=.convert src dst x):Snd P n o st ob (aSv tr md o n st ob hn src dst x):=by
 refine Snd.bind fun i hi=>Snd.bind fun j hj=>Snd.bind fun v hv=>?_
 replace hi:=Tr.get_ok hw hi
 replace hj:=Tr.get_ok hw hj
 rw[cZ] at hv;split
 ·rename_i k' q;split
  ·rename_i k k2 m I;refine Snd.cond fun hk=>?_
   have:=ψ hk;subst this;exact Snd.val fun _ hd J hc=>⟨hc,aTq W Y hd J hi I hj q hv⟩
  ·exact Snd.none
 ·rename_i q;split
  ·rename_i e I;refine Snd.bind fun ei N=>?_
   replace N:=Tr.get_ok hw N
   split
   ·rename_i Z;refine Snd.bind fun p hp=>?_
    obtain⟨ids,rows,ab⟩:=p;refine Snd.bind fun ns aa=>Snd.bind fun bs O=>Snd.val fun _ hd J hc=>?_
    rw[kN] at O;cases O;obtain⟨g1,g2⟩:=wF hp hc;exact⟨g1,aTr W Y hd J hi I N Z hj q hv g2 (aAx aa)⟩
   ·exact Snd.none
  ·exact Snd.none
 ·exact Snd.none
def a1g (md:Bool) (a b:List (List C)):Option (List (List C)):=bif md then some (a++b) else frc (a++b)
theorem aUu (md:Bool) (a b:List (List C)):a1g md a b=some (a++b):=by
 cases md
 ·exact kN _
 ·rfl
def aGk (tr:Tr) (md:Bool) (o:Oper) (n:Nat) (st:St) (ob:List Prop) (hn:Hn) (id0:Nat) (x y:Operand) (t:TypeId):Ans:=(tr.get t).bind fun i=>match i.k with
 | .sl e=>(tr.get e).bind fun ei=>match ei with
  | ⟨_,s0,b0,_⟩=>bif Nat.ble 1 s0&&Nat.ble 1 b0 then(opO st x).bind fun v=>(opO st y).bind fun u=>(aZo md st s0 hn u ob).bind fun(ids,rows,ob1)=>(match v with
  | .one (.hs id off len sz)=>match st.h id with
   | some (.arr te es elems fz)=>bif Nat.beq te e&&Nat.beq es s0 then(j2 md (sz=elems.length) ob1).bind fun ob2=>(j2 md (off=0∧len=sz) ob2).bind fun ob3=>(j2 md ((elems.length+rows.length)*b0≤140737488355328) ob3).bind fun ob4=>
     (a1g md elems rows).bind fun l=>match fz with
     | 0=>val o n ⟨opr x++opr y,id::ids⟩ (.one (.hs id 0 (elems.length+rows.length) (elems.length+rows.length))) [(id,some (.arr e s0 l 0))] ob4
     | _+1=>val o n ⟨opr x++opr y,id::ids⟩ (.one (.hs id 0 (elems.length+rows.length) (elems.length+rows.length))) [(id,some (.arr e s0 l 1))] ob4
    else none
   | _=>none
  | .one (.c .nl)=>match st.h id0 with
   | none=>(j2 md (rows.length*b0≤140737488355328) ob1).bind fun ob2=>val o n ⟨opr x++opr y,id0::ids⟩ (.one (.hs id0 0 rows.length rows.length)) [(id0,some (.arr e s0 rows 0))] ob2
   | some _=>none
  | _=>none) else none
 | _=>none
theorem aC8 {hn:Hn}{N:Nat}{x y:Operand}{t:TypeId}(hw:tr.wf=true) (O:Tok P tr.flat) (W:o.op=.call { callee:=.builtin .append,args:= #[x,y],argTypes:= #[t,t] }):Snd P n o st ob (aGk tr md o n st ob hn N x y t):=by
 refine Snd.bind fun i hi=>?_
 replace hi:=Tr.get_ok hw hi
 split
 ·rename_i e hk;refine Snd.bind fun Z q=>?_
  obtain⟨k0,s0,b0,z0⟩:=Z;refine Snd.cond fun hb=>Snd.bind fun v hv=>Snd.bind fun u hu=>Snd.bind fun p hp=>?_
  replace q:=Tr.get_ok hw q
  obtain⟨ids,rows,ob1⟩:=p;simp only[Ai] at hb;rw[cZ] at hv hu;dsimp only;split
  ·rename_i id off len sz;split
   ·rename_i te es elems fz hh;refine Snd.cond fun J=>Snd.bind fun Y h2=>Snd.bind fun ob3 h3=>Snd.bind fun ob4 h4=>Snd.bind fun l hl=>?_
    simp only[Ai] at J;have e1:=Ac J.1;have e2:=Ac J.2;subst e1 e2;rw[aUu] at hl;cases hl;split
    ·refine Snd.val fun _ hd I hc=>?_
     obtain⟨g1,g2⟩:=b9 h4 hc;obtain⟨g3,g4,g5⟩:=b9 h3 g1;obtain⟨g6,g7⟩:=b9 h2 g3;obtain⟨g8,g9⟩:=wF hp g6;subst g4 g5;exact⟨g8,aEs O W hd I hi hk q hb.1 hb.2 hv hh g7 hu g9 g2⟩
    ·refine Snd.val fun _ hd I hc=>?_
     obtain⟨g1,g2⟩:=b9 h4 hc;obtain⟨g3,g4,g5⟩:=b9 h3 g1;obtain⟨g6,g7⟩:=b9 h2 g3;obtain⟨g8,g9⟩:=wF hp g6;subst g4 g5;exact⟨g8,aEs O W hd I hi hk q hb.1 hb.2 hv hh g7 hu g9 g2⟩
   ·exact Snd.none
  ·split
   ·rename_i hid;refine Snd.bind fun Y h2=>Snd.val fun _ hd I hc=>?_
    obtain⟨g1,g2⟩:=b9 h2 hc;obtain⟨g3,g4⟩:=wF hp g1;exact⟨g3,aJ0 N O W hd I hi hk q hb.1 hb.2 hv hid hu g4 g2⟩
   ·exact Snd.none
  ·exact Snd.none
 ·exact Snd.none
def aA7 (tr:Tr) (md:Bool) (o:Oper) (n:Nat) (st:St) (ob:List Prop) (id0:Nat) (x y:Operand) (t:TypeId):Ans:=(tr.get t).bind fun i=>match i.k with
 | .sl e=>(tr.get e).bind fun ei=>match ei with
  | ⟨_,s0,b0,_⟩=>bif Nat.ble 1 s0&&Nat.ble 1 b0 then(opO st x).bind fun v=>(opO st y).bind fun u=>match u with
  | .one (.ra id2 off2 len2 sz2)=>match st.h id2 with
   | some (.rarr _ es2 rows)=>bif Nat.beq es2 s0&&(Nat.beq off2 0&&(Nat.beq len2 rows.length&&(Nat.beq sz2 rows.length&&Nat.blt 0 rows.length))) then(match v with
    | .one (.ra id off len sz)=>match st.h id with
     | some (.rarr te es elems)=>bif Nat.beq te e&&Nat.beq es s0 then(j2 md (sz=elems.length) ob).bind fun ob2=>(j2 md (off=0∧len=sz) ob2).bind fun ob3=>(j2 md ((elems.length+rows.length)*b0≤140737488355328) ob3).bind fun ob4=>
       val o n ⟨opr x++opr y,[id,id2]⟩ (.one (.ra id 0 (elems.length+rows.length) (elems.length+rows.length))) [(id,some (.rarr e s0 (elems++rows)))] ob4 else none
     | _=>none
    | .one (.c .nl)=>match st.h id0 with
     | none=>(j2 md (rows.length*b0≤140737488355328) ob).bind fun ob2=>val o n ⟨opr x++opr y,[id0,id2]⟩ (.one (.ra id0 0 rows.length rows.length)) [(id0,some (.rarr e s0 rows))] ob2
     | some _=>none
    | _=>none) else none
   | _=>none
  | _=>none
  else none
 | _=>none
theorem aA6 {O:Nat}{x y:Operand}{t:TypeId}(hw:tr.wf=true) (hT:Tok P tr.flat) (ho:o.op=.call { callee:=.builtin .append,args:= #[x,y],argTypes:= #[t,t] }):Snd P n o st ob (aA7 tr md o n st ob O x y t):=by
 refine Snd.bind fun i hi=>?_
 replace hi:=Tr.get_ok hw hi
 split
 ·rename_i e hk;refine Snd.bind fun ei q=>?_
  obtain⟨k0,s0,b0,z0⟩:=ei;refine Snd.cond fun hb=>Snd.bind fun v hv=>Snd.bind fun u hu=>?_
  replace q:=Tr.get_ok hw q
  simp only[Ai] at hb;rw[cZ] at hv hu;split
  ·rename_i id2 off2 len2 sz2;split
   ·rename_i te2 es2 rows W;refine Snd.cond fun Y=>?_
    simp only[Ai] at Y;obtain⟨Z,c2,c3,c4,N⟩:=Y;have Z:=Ac Z;have c2:=Ac c2;have c3:=Ac c3;have c4:=Ac c4;have N:=mB N;subst Z c2 c3 c4;split
    ·rename_i id off len sz;split
     ·rename_i te es elems hh;refine Snd.cond fun I=>Snd.bind fun ob2 h2=>Snd.bind fun ob3 h3=>Snd.bind fun ob4 h4=>Snd.val fun _ hd J hc=>?_
      simp only[Ai] at I;have e1:=Ac I.1;have e2:=Ac I.2;subst e1;rw[e2] at hh;obtain⟨g1,g2⟩:=b9 h4 hc;obtain⟨g3,g4,g5⟩:=b9 h3 g1;obtain⟨g6,g7⟩:=b9 h2 g3;subst g4 g5;exact⟨g6,aJz hT ho hd J hi hk q hb.1 hb.2 hv hh g7 hu W N g2⟩
     ·exact Snd.none
    ·split
     ·rename_i hid;refine Snd.bind fun ob2 h2=>Snd.val fun _ hd J hc=>?_
      obtain⟨g1,g2⟩:=b9 h2 hc;exact⟨g1,aG9 O hT ho hd J hi hk q hb.1 hb.2 hv hid hu W N g2⟩
     ·exact Snd.none
    ·exact Snd.none
   ·exact Snd.none
  ·exact Snd.none
 ·exact Snd.none
def a03 (P:Program) (f:FuncId):Bool:=match P.funcs[f]? with
 | some fn => !(fn.name == "runtime.NumGoroutine") && fn.body.isSome
 | none=>false
theorem aN5 {P:Program}{f:FuncId}(h:a03 P f=true):pV P f:=by
 unfold a03 at h;split at h
 ·rename_i fn hf;simp only[Ai,Bool.not_eq_true'] at h;refine⟨fn,hf,h.1,?_⟩;cases hb:fn.body with
  | none=>rw[hb] at h;cases h.2
  | some _=>rfl
 ·cases h
def aQs (P:Program) (f:FuncId) (args:List V) (res:V):Prop:=a03 P f=true∧aU P f args [] res []
def rU (st:St):List Nat→List R→List Prop→Option (List Nat×List C×List Prop)
 | _,[],ob=>some ([],[],ob)
 | ty,r::rs,ob=>match r with
  | .c x=>(aH9 ty [x]).bind fun y=>match y with
   | [y]=>(rU st ty.tail rs ob).bind fun(ids,cs,ob1)=>some (ids,y::cs,ob1)
   | _=>none
  | .hs id 0 len sz=>match st.h id with
   | some (.arr _ es elems 2)=>(rU st ty.tail rs ob).bind fun(ids,cs,ob1)=>some (id::ids,.sl es elems::cs,(sz=elems.length∧len=elems.length)::ob1)
   | _=>none
  | _=>none
theorem nW {st:St}:∀{rs:List R}{ty:List Nat}{ob q:List Prop}{ids:List Nat}{cs:List C},rU st ty rs ob=some (ids,cs,q)→iV q→iV ob∧PureL st.h ids rs cs
 | [],ty,ob,q,ids,cs,h,hc=>by
  cases ty<;>(simp only[rU] at h;cases h;exact⟨hc,.nil⟩)
 | r::rs,ty,ob,q,ids,cs,h,hc=>by
  rw[rU.eq_def] at h;dsimp only at h;split at h
  ·rename_i x;rw[Ah] at h;obtain⟨y,hy,h⟩:=h;split at h
   ·rename_i y';rw[Ah] at h;obtain⟨⟨I,J,N⟩,h1,h2⟩:=h;cases h2;obtain⟨g1,g2⟩:=nW h1 hc;rw[s5] at hy;have hp:=mJ (h:=st.h) ty [x];rw[Option.some.inj hy] at hp;cases hp with
    | c hx _=>exact⟨g1,.c hx g2⟩
    | any _=>exact⟨g1,.any g2⟩
   ·cases h
  ·rename_i id len sz;split at h
   ·rename_i te es elems hh;rw[Ah] at h;obtain⟨⟨I,J,N⟩,h1,h2⟩:=h;cases h2;obtain⟨g1,g2⟩:=nW h1 hc.2;exact⟨g1,.hs hh hc.1.1 (by rw[hc.1.2,Ce,An]) g2⟩
   ·cases h
  ·cases h
def aUs (tr:Tr) (st:St) (v:V) (t:TypeId) (ob:List Prop):Option (List Nat×V×List Prop):=match v with
 | .one r=>(rU st (oA tr 300 [t]) [r] ob).bind fun(ids,cs,ob1)=>match cs with
  | [c]=>some (ids,.one (.c c),ob1)
  | _=>none
 | .pa l=>(aH9 (oA tr 300 [t]) l).bind fun l'=>some ([],.pa l',ob)
 | .ma rs=>(rU st (oA tr 300 [t]) rs ob).bind fun(ids,cs,ob1)=>some (ids,.pa cs,ob1)
 | _=>none
theorem aP1 {tr:Tr}{st:St}{v v':V}{t:TypeId}{ob q:List Prop}{ids:List Nat}(h:aUs tr st v t ob=some (ids,v',q)) (hc:iV q):(iV ob∧Conv st.h ids v v')∧v'.refs=[]:=by
 unfold aUs at h;split at h
 ·rw[Ah] at h;obtain⟨⟨I,J,N⟩,h1,h2⟩:=h;dsimp only at h2;split at h2
  ·cases h2;obtain⟨g1,g2⟩:=nW h1 hc;exact⟨⟨g1,.one g2⟩,by simp[V.refs,R.refs]⟩
  ·cases h2
 ·rw[Ah] at h;obtain⟨l',h1,h2⟩:=h;cases h2;rw[s5] at h1;cases h1;exact⟨⟨hc,.pa (mJ _ _)⟩,by simp[V.refs]⟩
 ·rw[Ah] at h;obtain⟨⟨I,J,N⟩,h1,h2⟩:=h;cases h2;obtain⟨g1,g2⟩:=nW h1 hc;exact⟨⟨g1,.agg g2⟩,by simp[V.refs]⟩
 ·cases h
def aH2 (tr:Tr) (st:St):List Operand→List TypeId→List Prop→Option (List Nat×List V×List Prop)
 | [],_,ob=>some ([],[],ob)
 | x::xs,t::ts,ob=>(opO st x).bind fun v=>(aUs tr st v t ob).bind fun(ids1,v',ob1)=>(aH2 tr st xs ts ob1).bind fun(ids2,vs,ob2)=>some (ids1++ids2,v'::vs,ob2)
 | _::_,[],_=>none
theorem aGm {tr:Tr}{st:St}:∀{xs:List Operand}{ts:List TypeId}{ob q:List Prop}{ids:List Nat}{l:List V},aH2 tr st xs ts ob=some (ids,l,q)→iV q→(iV ob∧ArgsV st ids xs l)∧V.refsL l=[]
 | [],ts,ob,q,ids,l,h,hc=>by
  cases ts<;>(simp only[aH2] at h;cases h;exact⟨⟨hc,.nil⟩,by simp[V.refsL]⟩)
 | x::xs,[],ob,q,ids,l,h,hc=>by simp[aH2] at h
 | x::xs,t::ts,ob,q,ids,l,h,hc=>by
  simp only[aH2,cZ,Ah] at h;obtain⟨v,hv,⟨I,v',Y⟩,h1,⟨J,vs,Z⟩,h2,h3⟩:=h;cases h3;obtain⟨⟨g1,g2⟩,g3⟩:=aGm h2 hc;obtain⟨⟨N,O⟩,W⟩:=aP1 h1 g1;exact⟨⟨N,.cons hv O g2⟩,by simp[V.refsL,W,g3]⟩
def aSr (P:Program) (tr:Tr) (o:Oper) (n:Nat) (st:St) (ob:List Prop) (res:V) (f:FuncId) (xs:Array Operand) (ts:Array TypeId):Ans:=(aH2 tr st xs.toList ts.toList ob).bind fun(ids,args,ob1)=>val o n ⟨dP xs.toList,ids⟩ res [] (aQs P f args res::ob1)
theorem aMy {res:V}{f:FuncId}{xs:Array Operand}{ts:Array TypeId}(I:o.op=.call { callee:=.value (.func f),args:=xs,argTypes:=ts }):Snd P n o st ob (aSr P tr o n st ob res f xs ts):=by
 refine Snd.bind fun p ha=>?_
 obtain⟨ids,args,J⟩:=p;refine Snd.val fun d hd q hc=>?_
 obtain⟨⟨g1,g2⟩,g3⟩:=aGm ha hc.2;refine⟨g1,?_⟩;have:=aJy [] [] (aN5 hc.1.1) I hd q hc.1.2 g2 trivial trivial (by simp[kQ,g3,keys,dN,subset]);simpa [outs,keys] using this
def aM9 (P:Program) (tr:Tr) (md:Bool) (o:Oper) (n:Nat) (st:St) (ob:List Prop) (hn:Hn) (id0:Nat) (c:Call):Ans:=match c.callee with
 | .builtin b=>match b,c.args.toList,c.argTypes.toList with
  | .len,[x],[t]=>aZc tr md o n st ob x t
  | .append,[x,y],[t,t']=>bif Nat.beq t t' then(match opO st y with | some (.one (.ra _ _ _ _))=>aA7 tr md o n st ob id0 x y t | _=>aGk tr md o n st ob hn id0 x y t) else none
  | .min,[x,y],[_,_]=>(opO st x).bind fun v=>(opO st y).bind fun u=>match v,u with
   | .one (.c (.int k a)),.one (.c (.int k' b))=>bif decide (k=k') then val o n ⟨opr x++opr y,[]⟩ (.one (.c (.int k (if b<a then b else a)))) [] ob else none
   | _,_=>none
  | .max,[x,y],[_,_]=>(opO st x).bind fun v=>(opO st y).bind fun u=>match v,u with
   | .one (.c (.int k a)),.one (.c (.int k' b))=>bif decide (k=k') then val o n ⟨opr x++opr y,[]⟩ (.one (.c (.int k (if b>a then b else a)))) [] ob else none
   | _,_=>none
  | _,_,_=>none
 | .value (.func f)=>match hn with
  | .pc res=>aSr P tr o n st ob res f c.args c.argTypes
  | _=>none
 | _=>none
theorem arr1 {α:Type}{a:Array α}{x:α}(h:a.toList=[x]):a= #[x]:=by cases a;simp at h;simp[h]
theorem aV4 {α:Type}{a:Array α}{x y:α}(h:a.toList=[x,y]):a= #[x,y]:=by cases a;simp at h;simp[h]
theorem aM8 {hn:Hn}{N:Nat}{c:Call}(hw:tr.wf=true) (J:Tok P tr.flat) (q:o.op=.call c):Snd P n o st ob (aM9 P tr md o n st ob hn N c):=by
 obtain⟨O,args,W⟩:=c;unfold aM9;dsimp only;split
 ·rename_i b;split
  ·rename_i x t h1 h2;have:=arr1 h1;have:=arr1 h2
   subst_vars
   exact aQi hw J q
  ·rename_i x y t t' h1 h2;have:=aV4 h1;have:=aV4 h2
   subst_vars
   refine Snd.cond fun ht=>?_
   have:=Ac ht;subst this;split
   ·exact aA6 hw J q
   ·exact aC8 hw J q
  ·rename_i x y t t' h1 h2;have:=aV4 h1;have:=aV4 h2
   subst_vars
   refine Snd.bind fun v hv=>Snd.bind fun u hu=>?_
   rw[cZ] at hv hu;split
   ·refine Snd.cond fun hk=>?_
    have:=ψ hk;subst this;exact Snd.val fun _ hd I hc=>⟨hc,aZ9 q hd I hv hu rfl⟩
   ·exact Snd.none
  ·rename_i x y t t' h1 h2;have:=aV4 h1;have:=aV4 h2
   subst_vars
   refine Snd.bind fun v hv=>Snd.bind fun u hu=>?_
   rw[cZ] at hv hu;split
   ·refine Snd.cond fun hk=>?_
    have:=ψ hk;subst this;exact Snd.val fun _ hd I hc=>⟨hc,a0a q hd I hv hu rfl⟩
   ·exact Snd.none
  ·exact Snd.none
 ·split
  ·exact aMy q
  ·exact Snd.none
 ·exact Snd.none
def idO (hn:Hn) (d:Option Nat):Option Nat:=match hn with
 | .id n=>some n
 | _=>match d with
  | some d=>some d
  | none=>none
def aQf (P:Program) (tr:Tr) (md nat:Bool) (n:Nat) (st:St) (hn:Hn) (o:Oper) (ob:List Prop):Ans:=match o.op with
 | .move x=>aGj o n st ob x
 | .assign x=>aGj o n st ob x
 | .pick c x y=>aSs o n st ob hn c x y
 | .alloc t=>(idO hn o.dst).bind fun id=>aNb tr o n st ob id t
 | .box t x=>(idO hn o.dst).bind fun id=>aZd o n st ob id t x
 | .build t ps=>aNa tr o n st ob t ps
 | .buildSlice t len ps=>(idO hn o.dst).bind fun id=>aMx tr o n st ob hn id t len ps
 | .load t x=>aSt tr md o n st ob hn t x
 | .store t x y=>aMw tr md o st ob hn t x y
 | .nilCheck x=>aZb md o n st ob x
 | .slice t x l h m=>aVn tr md o n st ob t x l h m
 | .index t x y=>aM3 tr o n st ob hn t x y
 | .convert src dst x=>aSv tr md o n st ob hn src dst x
 | .binOp op tx x y _=>aZe tr md nat o n st ob op tx x y
 | .unOp op _ x=>a1m md o n st ob op x
 | .makeFunc f a b=>aM5 o n st ob f a b
 | .makeMap t r=>(idO hn o.dst).bind fun id=>aVl tr o n st ob id t r
 | .fieldAddr t x f=>sZ tr md o n st ob t x f
 | .field t x f=>aM6 tr o n st ob t x f
 | .indexAddr t x y=>sY tr md o n st ob hn t x y
 | .lookup t x y ok=>y4 tr md o n st ob hn t x y ok
 | .mapUpdate t x y z=>kI tr md o st ob t x y z
 | .insert t x y z=>kI tr md o st ob t x y z
 | .extract x i=>aA5 o n st ob x i
 | .call c=>(idO hn o.dst).bind fun id=>aM9 P tr md o n st ob hn id c
 | _=>none
theorem aGi {hn:Hn}(hw:tr.wf=true) (I:Tok P tr.flat):Snd P n o st ob (aQf P tr md nat n st hn o ob):=by
 unfold aQf;split
 ·rename_i q;exact aM1 q
 ·rename_i q;exact aC7 q
 ·rename_i q;exact aMz q
 ·rename_i q;exact Snd.bind fun _ _=>aH1 hw I q
 ·rename_i q;exact Snd.bind fun _ _=>aQl q
 ·rename_i q;exact aH0 hw I q
 ·rename_i q;exact Snd.bind fun _ _=>aHw hw I q
 ·rename_i q;exact aM2 hw I q
 ·rename_i q;exact aHv hw I q
 ·rename_i q;exact aQg q
 ·rename_i q;exact aQk hw I q
 ·rename_i q;exact aHx hw I q
 ·rename_i q;exact aM7 hw I q
 ·rename_i q;exact aQm hw I q
 ·rename_i q;exact aVk q
 ·rename_i q;exact aM4 q
 ·rename_i q;exact Snd.bind fun _ _=>aQh q
 ·rename_i q;exact tX hw I q
 ·rename_i q;exact aHz hw I q
 ·rename_i q;exact tV hw I q
 ·rename_i q;exact aC4 hw I q
 ·rename_i q;exact tU hw I q
 ·rename_i q;exact aC5 hw I q
 ·rename_i q;exact aA4 q
 ·rename_i q;exact Snd.bind fun _ _=>aM8 hw I q
 ·exact Snd.none
theorem Step.freeze {rd:Rd}{q:Option (Nat×Option V)}{id te es z:Nat}{l:List (List C)}(h:Step P n o st rd ⟨q,[(id,some (.arr te es l z))]⟩):Step P n o st rd ⟨q,[(id,some (.arr te es l 2))]⟩:=by
 intro st' ha G S μ a w K Q hs I;refine h st' ha G S μ a w K Q hs fun S1 Y J N h1=>?_
 have hh:(Eff.apply ⟨q,[(id,some (.arr te es l z))]⟩ st').h id=some (.arr te es l z):=by
  show updL st'.h [(id,some (.arr te es l z))] id=_;rw[dH,aK]
 obtain⟨S2,O,h2⟩:=h1.freeze hh;refine I S2 O J N ?_;have W:upd (Eff.apply ⟨q,[(id,some (.arr te es l z))]⟩ st').h id (some (.arr te es l 2))=(Eff.apply ⟨q,[(id,some (.arr te es l 2))]⟩ st').h:=by
  show upd (updL st'.h [(id,some (.arr te es l z))]) id _=updL st'.h [(id,some (.arr te es l 2))];rw[dH,dH,oO]
 rw[W] at h2;exact h2
def a04:Ans→Ans
 | some (rd,⟨dv,[(id,some (.arr te es l _))]⟩,ob')=>some (rd,⟨dv,[(id,some (.arr te es l 2))]⟩,ob')
 | _=>none
theorem aVm {r:Ans}(h:Snd P n o st ob r):Snd P n o st ob (a04 r):=by
 intro rd f q e hc;unfold a04 at e;split at e
 ·cases e;obtain⟨g1,g2⟩:=h _ _ _ rfl hc;exact⟨g1,g2.freeze⟩
 ·cases e
def aZt (P:Program) (tr:Tr) (md nat:Bool) (n:Nat) (st:St) (hn:Hn) (o:Oper) (ob:List Prop):Ans:=match hn with
 | .fz=>a04 (aQf P tr md nat n st .no o ob)
 | hn=>aQf P tr md nat n st hn o ob
theorem aM0 {hn:Hn}(hw:tr.wf=true) (q:Tok P tr.flat):Snd P n o st ob (aZt P tr md nat n st hn o ob):=by
 unfold aZt;split
 ·exact aVm (aGi hw q)
 ·exact aGi hw q
def aCz:List Oper→Nat→Option Nat
 | [],_=>none
 | o::os,i=>bif Nat.beq i 0 then o.dst else aCz os (i-1)
theorem aF4:∀(os:List Oper) (i:Nat),aCz os i=(os[i]?).bind (·.dst)
 | [],i=>by simp[aCz]
 | o::os,0=>by simp[aCz]
 | o::os,i+1=>by
  have:Nat.beq (i+1) 0=false:=rfl;simp[aCz,this,aF4 os i]
def axG (P:Program) (tr:Tr) (md nat:Bool) (n:Nat) (all:List Oper) (hs:List (Nat×Hn)) (k:Nat) (o:Oper) (st:St) (ob:List Prop):Ans:=match o.guard with
 | none=>aZt P tr md nat n st (aPq hs k) o ob
 | some (j,want)=>(aCz all j).bind fun t=>(st.e t).bind fun v=>match v with
  | .one (.c (.bool b))=>match aOb (match aPq hs j with | .bv w=>.bv w | _=>.no) b ob with
   | (w,ob1)=>bif w==want then(aZt P tr md nat n st (aPq hs k) o ob1).bind fun(rd,f,ob2)=>some (⟨t::rd.e,rd.h⟩,f,ob2)
    else match o.dst with
     | some d=>bif Nat.blt d n then some (⟨[t],[]⟩,⟨some (d,some (.tup [])),[]⟩,ob1) else none
     | none=>none
  | .tup []=>match o.dst with
   | some d=>bif Nat.blt d n then some (⟨[t],[]⟩,⟨some (d,some (.tup [])),[]⟩,ob) else none
   | none=>none
  | _=>none
theorem aSu {ops:Array Oper}{hs:List (Nat×Hn)}{k:Nat}{rd:Rd}{f:Eff}{J:List Prop}(hw:tr.wf=true) (O:Tok P tr.flat) (I:ops[k]?=some o) (h:axG P tr md nat n ops.toList hs k o st ob=some (rd,f,J)):iV J→iV ob∧GStep P n ops k st rd f:=by
 intro hc;unfold axG at h;split at h
 ·rename_i hg;obtain⟨h1,h2⟩:=aM0 hw O _ _ _ h hc;exact⟨h1,GStep.plain I hg h2⟩
 ·rename_i j want hg;rw[Ah] at h;obtain⟨t,ht,h⟩:=h;rw[Ah] at h;obtain⟨v,hv,h⟩:=h;have hj:(ops[j]?).bind (·.dst)=some t:=by
   rw[aF4] at ht;simpa using ht
  split at h
  ·rename_i b;split at h;rename_i w W N;cases q:w==want with
   | true=>
    rw[q] at h;simp only[Bo] at h;rw[Ah] at h;obtain⟨⟨Y,f1,Z⟩,h1,h2⟩:=h;cases h2;obtain⟨g1,g2⟩:=aM0 hw O _ _ _ h1 hc;obtain⟨g3,g4⟩:=qG N g1;exact⟨g3,GStep.yes I hg hj hv (g4.trans (eq_of_beq q)) g2⟩
   | false=>
    rw[q] at h;simp only[Bq] at h;split at h
    ·rename_i d hd;obtain⟨h1,h2⟩:=eJ h;cases h2;obtain⟨g3,g4⟩:=qG N hc;refine⟨g3,GStep.no I hg hd (mB h1) hj hv g4 ?_⟩;cases w<;>cases want<;>first | rfl | (cases q)
    ·cases h
  ·split at h
   ·rename_i d hd;obtain⟨h1,h2⟩:=eJ h;cases h2;exact⟨hc,GStep.un I hg hd (mB h1) hj hv⟩
   ·cases h
  ·cases h
def vG (P:Program) (tr:Tr) (md nat:Bool) (n:Nat) (all:List Oper) (hs:List (Nat×Hn)):Nat→Nat→List Oper→(Nat→Option V)→cR→List Nat→REs→List Prop→Option (St×Nat×REs×List Prop)
 | 0,k,_,e,h,d,pre,ob=>some (⟨e,h,d⟩,k,pre,ob)
 | _+1,k,[],e,h,d,pre,ob=>some (⟨e,h,d⟩,k,pre,ob)
 | m+1,k,o::os,e,h,d,pre,ob=>(axG P tr md nat n all hs k o ⟨e,h,d⟩ ob).bind fun(rd,f,ob1)=>match f with
  | ⟨some (t,v),[]⟩=>vG P tr md nat n all hs m (k+1) os (upd e t v) h d ((rd,⟨some (t,v),[]⟩)::pre) ob1
  | ⟨some (t,v),[(id,x)]⟩=>vG P tr md nat n all hs m (k+1) os (upd e t v) (upd h id x) d ((rd,⟨some (t,v),[(id,x)]⟩)::pre) ob1
  | ⟨none,[(id,x)]⟩=>vG P tr md nat n all hs m (k+1) os e (upd h id x) d ((rd,⟨none,[(id,x)]⟩)::pre) ob1
  | _=>none
theorem aC6 {ops:Array Oper}{hs:List (Nat×Hn)}{draw:Bool}(hw:tr.wf=true) (hT:Tok P tr.flat):∀(m k:Nat) (os:List Oper) (e:Nat→Option V) (h:cR) (d:List Nat) (pre:REs) (ob:List Prop) (st':St) (k':Nat) (pre':REs) (I:List Prop),os=ops.toList.drop k→
  vG P tr md nat n ops.toList hs m k os e h d pre ob=some (st',k',pre',I)→iV I→iV ob∧∀Q,kS P n ops draw k' st' pre' Q→kS P n ops draw k ⟨e,h,d⟩ pre Q:=by
 intro m
 induction m with
 | zero=>
  intro k os e h d pre ob st' k' pre' I _ hg hc;simp only[vG] at hg;cases hg;exact⟨hc,fun Q J=>J⟩
 | succ m W=>
  intro k os e h d pre ob st' k' pre' I O hg hc;cases os with
  | nil=>
   simp only[vG] at hg;cases hg;exact⟨hc,fun Q J=>J⟩
  | cons o os=>
   have ho:ops[k]?=some o:=by
    have:(ops.toList.drop k)[0]?=some o:=by rw[←O];rfl
    simpa using this
   have q:os=ops.toList.drop (k+1):=by
    have:os=(ops.toList.drop k).tail:=by rw[←O];rfl
    rw[this,List.tail_drop]
   simp only[vG,Ah] at hg;obtain⟨⟨rd,f,Y⟩,h1,h2⟩:=hg;have key:∀{N:St},iV Y→N=f.apply ⟨e,h,d⟩→(∀Q,kS P n ops draw k' st' pre' Q→kS P n ops draw (k+1) N ((rd,f)::pre) Q)→iV ob∧∀Q,kS P n ops draw k' st' pre' Q→kS P n ops draw k ⟨e,h,d⟩ pre Q:=by
    intro N Z aa hk;obtain⟨g1,g2⟩:=aSu hw hT ho h1 Z;subst aa;exact⟨g1,fun Q J=>k_ g2 (hk Q J)⟩
   split at h2
   ·rename_i heq;have heq:f=_:=heq;subst heq;obtain⟨g1,g2⟩:=W _ _ _ _ _ _ _ _ _ _ _ q h2 hc;exact key g1 (by simp only[Eff.apply,aDm]) g2
   ·rename_i heq;have heq:f=_:=heq;subst heq;obtain⟨g1,g2⟩:=W _ _ _ _ _ _ _ _ _ _ _ q h2 hc;exact key g1 (by simp only[Eff.apply,dH]) g2
   ·rename_i heq;have heq:f=_:=heq;subst heq;obtain⟨g1,g2⟩:=W _ _ _ _ _ _ _ _ _ _ _ q h2 hc;exact key g1 (by simp only[Eff.apply,dH]) g2
   ·cases h2
end
section
variable {ro:Option Nat}{P:Program}{n:Nat}{ops:Array Oper}{draw:Bool}{k k':Nat}{st st':St}{pre pre':REs}{Q:St→Prop}{tr:Tr}{ob:List Prop}
theorem ax_ {hs:List (Nat×Hn)}{md nat:Bool}(m:Nat) (hw:tr.wf=true) (q:Tok P tr.flat) (h:vG P tr md nat n ops.toList hs m k (ops.toList.drop k) st.e st.h st.d pre []=some (st',k',pre',ob)) (hc:iV ob) (hk:kS P n ops draw k' st' pre' Q):kS P n ops draw k st pre Q:=
 (aC6 hw q m k _ st.e st.h st.d pre [] st' k' pre' ob rfl h hc).2 Q hk
theorem aSw {hs:List (Nat×Hn)}{md nat:Bool}{kf:List Nat}{id:Nat}{Q:Exit→St→Prop}(hm:P.follows .mixedOrders=true) (hw:tr.wf=true) (q:Tok P tr.flat) (h:vG P tr md nat n ops.toList hs 1000 0 ops.toList st.e st.h st.d [] []=some (st',k',pre',ob)) (hc:iV ob)
  (h1:Nat.beq k' ops.size=true) (h2:(!draw || (fH (oT ops) pre'.reverse []&&iI ops))=true) (I:Q .normal st'):AWp ro P n kf (.region id ops draw) st Q:=
 aE hm ((aC6 hw q 1000 0 _ st.e st.h st.d [] [] st' k' pre' ob rfl h hc).2 _ (z_ h1 h2 I))
end
theorem hs_all {h:cR}{id te es n:Nat}{l l':List (List C)}{fz:Nat}(h1:h id=some (.arr te es l fz)) (hf:fz=2) (h2:n=l.length) (h3:l=l'):Conv h [id] (.one (.hs id 0 n n)) (.one (.c (.sl es l'))):=by
 subst h2;subst h3;subst hf;exact .one (.hs h1 rfl (by rw[Ce,An]) .nil)
section
variable {P:Program}{n:Nat}{ops:Array Oper}{draw:Bool}{k d:Nat}{st:St}{pre:REs}{Q:St→Prop}{o:Oper}{f:FuncId}{xs:Array Operand}{ts:Array TypeId}{ids:List Nat}{args:List V}{res:V}{hin hout:List (Nat×AObj)}
theorem kc (hf:aU P f args hin res hout)
  (hk:kS P n ops draw (k+1) ⟨upd st.e d (some res),updL st.h (outs hout),st.d⟩ ((⟨dP xs.toList,ids++keys hin++keys hout⟩,⟨some (d,some res),outs hout⟩)::pre) Q)
  (hb:pV P f:=by exact aN5 (by kernel_rfl)) (J:ops[k]?=some o:=by rfl) (hg:o.guard=none:=by rfl) (q:o.op=.call { callee:=.value (.func f),args:=xs,argTypes:=ts }:=by rfl) (hd:o.dst=some d:=by rfl) (I:Nat.blt d n=true:=by rfl)
  (ha:ArgsV st ids xs.toList args:=by repeat (first | exact .nil | (apply Go.AM.ArgsV.cons rfl;(first | exact .refl | exact .one (.c .nl .nil) | exact .one (.c .sn .nil) | exact .one (.hs rfl (by first | rfl | simp) (by first | rfl | (simp;done) | (simp[Go.AM.take_map];done) | exact Go.AM.take_map.symm) .nil) | exact Go.AM.hs_all rfl rfl (by first | rfl | assumption | (simp;done) | (simp;omega)) (by first | rfl | assumption | (simp;done)) | ((first | apply Go.AM.Conv.pa | apply Go.AM.Conv.agg);repeat (first | exact .nil | apply Go.AM.PureL.c .refl | apply Go.AM.PureL.c .nl | apply Go.AM.PureL.c .sn | (apply Go.AM.PureL.hs;rfl;(first | rfl | simp);(first | rfl | (simp;done) | (simp[Go.AM.take_map];done) | exact Go.AM.take_map.symm))))))))
  (hin':eW (fun p=>st.h p.1=some p.2) hin:=by repeat (first | exact trivial | refine⟨rfl,?_⟩)) (hout':eW (fun p=>p.1∈keys hin∨st.h p.1=none) hout:=by repeat (first | exact trivial | refine⟨.inr rfl,?_⟩ | refine⟨.inl (by decide),?_⟩ | refine⟨.inl (by repeat (first | exact List.Mem.head _ | apply List.Mem.tail)),?_⟩)) (hok:kQ args hin=true:=by rfl):kS P n ops draw k st pre Q:=
 k_ (g_ J hg (aJy hin hout hb q hd (mB I) hf ha hin' hout' hok)) hk
theorem kv {x:Operand}{caps:List R}(hf:aU P f (args++caps.map V.one) hin res hout)
  (hk:kS P n ops draw (k+1) ⟨upd st.e d (some res),updL st.h (outs hout),st.d⟩ ((⟨opr x++dP xs.toList,ids++keys hin++keys hout⟩,⟨some (d,some res),outs hout⟩)::pre) Q)
  (hb:pV P f:=by exact aN5 (by kernel_rfl)) (J:ops[k]?=some o:=by rfl) (hg:o.guard=none:=by rfl) (q:o.op=.call { callee:=.value x,args:=xs,argTypes:=ts }:=by rfl) (hd:o.dst=some d:=by rfl) (I:Nat.blt d n=true:=by rfl) (hx:opv st x=some (.one (.clo f caps)):=by rfl)
  (ha:ArgsV st ids xs.toList args:=by repeat (first | exact .nil | (apply Go.AM.ArgsV.cons rfl;(first | exact .refl | exact .one (.c .nl .nil) | exact .one (.c .sn .nil) | exact .one (.hs rfl (by first | rfl | simp) (by first | rfl | (simp;done) | (simp[Go.AM.take_map];done) | exact Go.AM.take_map.symm) .nil) | exact Go.AM.hs_all rfl rfl (by first | rfl | assumption | (simp;done) | (simp;omega)) (by first | rfl | assumption | (simp;done)) | ((first | apply Go.AM.Conv.pa | apply Go.AM.Conv.agg);repeat (first | exact .nil | apply Go.AM.PureL.c .refl | apply Go.AM.PureL.c .nl | apply Go.AM.PureL.c .sn | (apply Go.AM.PureL.hs;rfl;(first | rfl | simp);(first | rfl | (simp;done) | (simp[Go.AM.take_map];done) | exact Go.AM.take_map.symm))))))))
  (hin':eW (fun p=>st.h p.1=some p.2) hin:=by repeat (first | exact trivial | refine⟨rfl,?_⟩)) (hout':eW (fun p=>p.1∈keys hin∨st.h p.1=none) hout:=by repeat (first | exact trivial | refine⟨.inr rfl,?_⟩ | refine⟨.inl (by decide),?_⟩ | refine⟨.inl (by repeat (first | exact List.Mem.head _ | apply List.Mem.tail)),?_⟩)) (hok:kQ (args++caps.map V.one) hin=true:=by rfl):kS P n ops draw k st pre Q:=
 k_ (g_ J hg (aTs hin hout hb q hd (mB I) hx hf ha hin' hout' hok)) hk
end
inductive Res where
 | leaf (st:St) (k:Nat) (pre:REs) (ob:List Prop)
 | fork (b:Bool) (x y:Res)
def Res.obs:Res→Prop
 | .leaf _ _ _ ob=>iV ob
 | .fork b x y=>(b=true→x.obs)∧(b=false→y.obs)
def Res.good (ops:Array Oper) (draw:Bool):Res→Bool
 | .leaf _ k pre _=>Nat.beq k ops.size&&(!draw || (fH (oT ops) pre.reverse []&&iI ops))
 | .fork _ x y=>x.good ops draw&&y.good ops draw
def Res.all (Q:St→Prop):Res→Prop
 | .leaf st _ _ _=>Q st
 | .fork b x y=>(b=true→x.all Q)∧(b=false→y.all Q)
def aT7:Nat→List Nat→Bool
 | _,[]=>false
 | i,x::l=>bif Nat.beq i x then true else aT7 i l
theorem aFe:∀{i:Nat}{l:List Nat},aT7 i l=true↔i∈l
 | i,[]=>by simp[aT7]
 | i,x::l=>by
  simp only[aT7];cases h:Nat.beq i x with
  | true=>have:=Ac h;simp[this]
  | false=>
   have:i≠x:=fun e=>by subst e;simp at h
   simp[this,aFe]
def aYg (all:List Oper) (dec:List Nat) (o:Oper):Option Nat:=
 match (match o.guard with | some (j,_)=>(aCz all j).bind fun t=>bif aT7 t dec then none else some t | none=>none) with
 | some t=>some t
 | none=>match o.op with
  | .pick (.tmp t) _ _=>bif aT7 t dec then none else some t
  | _=>none
def oJ (P:Program) (tr:Tr) (md nat:Bool) (n:Nat) (all:List Oper) (hs:List (Nat×Hn)) (W:List Nat):Nat→Nat→List Oper→(Nat→Option V)→cR→List Nat→List Nat→REs→List Prop→Option Res
 | 0,_,_,_,_,_,_,_,_=>none
 | _+1,k,[],e,h,d,_,pre,ob=>some (.leaf ⟨e,h,d⟩ k pre ob)
 | m+1,k,o::os,e,h,d,dec,pre,ob=>match aYg all dec o with
  | some t=>match e t with
   | some (.one (.c (.bool b)))=>(oJ P tr md nat n all hs W m k (o::os) (upd e t (some (.one (.c (.bool true))))) h d (t::dec) pre ob).bind fun x=>
     (oJ P tr md nat n all hs W m k (o::os) (upd e t (some (.one (.c (.bool false))))) h d (t::dec) pre ob).bind fun y=>some (.fork b x y)
   | _=>oJ P tr md nat n all hs W m k (o::os) e h d (t::dec) pre ob
  | none=>(axG P tr md nat n all hs k o ⟨e,h,d⟩ ob).bind fun(rd,f,ob1)=>match f with
   | ⟨some (t,v),[]⟩=>bif aT7 t W then oJ P tr md nat n all hs W m (k+1) os (upd e t v) h d dec ((rd,⟨some (t,v),[]⟩)::pre) ob1 else none
   | _=>none
section
variable {P:Program}{n:Nat}{tr:Tr}{md nat:Bool}
theorem aDl {e:Nat→Option V}{t:Nat}{x:Option V}(h:e t=x):upd e t x=e:=by
 funext i;simp only[upd];split
 ·rename_i hb;rw[Ac hb,h]
 ·rfl
theorem aQj {ops:Array Oper}{hs:List (Nat×Hn)}{W:List Nat}{draw:Bool}(hw:tr.wf=true) (Z:Tok P tr.flat):∀(m k:Nat) (os:List Oper) (e:Nat→Option V) (h:cR) (d dec:List Nat) (pre:REs) (ob:List Prop) (res:Res),os=ops.toList.drop k→
  oJ P tr md nat n ops.toList hs W m k os e h d dec pre ob=some res→res.obs→res.good ops draw=true→∀Q,res.all Q→iV ob∧kS P n ops draw k ⟨e,h,d⟩ pre Q:=by
 intro m
 induction m with
 | zero=>intro k os e h d dec pre ob res _ hg;simp[oJ] at hg
 | succ m O=>
  intro k os e h d dec pre ob res I hg J q Q N;cases os with
  | nil=>
   simp only[oJ] at hg;cases hg;simp only[Res.good,Ai] at q;exact⟨J,z_ q.1 q.2 N⟩
  | cons o os=>
   have hok:ops[k]?=some o:=by
    have:(ops.toList.drop k)[0]?=some o:=by rw[←I];rfl
    simpa using this
   have Y:os=ops.toList.drop (k+1):=by
    have:os=(ops.toList.drop k).tail:=by rw[←I];rfl
    rw[this,List.tail_drop]
   simp only[oJ] at hg;split at hg
   ·rename_i t _;split at hg
    ·rename_i b hb;rw[Ah] at hg;obtain⟨x,hx,hg⟩:=hg;rw[Ah] at hg;obtain⟨y,hy,hg⟩:=hg;cases hg;simp only[Res.obs] at J;simp only[Res.good,Ai] at q;simp only[Res.all] at N;cases b with
     | true=>
      rw[aDl hb] at hx;exact O _ _ _ _ _ _ _ _ _ I hx (J.1 rfl) q.1 Q (N.1 rfl)
     | false=>
      rw[aDl hb] at hy;exact O _ _ _ _ _ _ _ _ _ I hy (J.2 rfl) q.2 Q (N.2 rfl)
    ·exact O _ _ _ _ _ _ _ _ _ I hg J q Q N
   ·rw[Ah] at hg;obtain⟨⟨rd,f,aa⟩,h1,h2⟩:=hg;dsimp only at h2;split at h2
    ·obtain⟨_,h3⟩:=eJ h2;obtain⟨g1,g2⟩:=O _ _ _ _ _ _ _ _ _ Y h3 J q Q N;obtain⟨g3,g4⟩:=aSu hw Z hok h1 g1;refine⟨g3,k_ g4 ?_⟩;simpa only[Eff.apply,aDm] using g2
    ·cases h2
def Res.keep (e0:Nat→Option V) (h0:cR) (d0:List Nat) (W:List Nat):Res→Prop
 | .leaf st _ _ _=>(∀t,t∉W→∀v,e0 t=some v→st.e t=some v)∧st.h=h0∧st.d=d0
 | .fork b x y=>(b=true→x.keep e0 h0 d0 W)∧(b=false→y.keep e0 h0 d0 W)
theorem aHy {all:List Oper}{hs:List (Nat×Hn)}{W:List Nat}{e0:Nat→Option V}:∀(m k:Nat) (os:List Oper) (e:Nat→Option V) (h:cR) (d dec:List Nat) (pre:REs) (ob:List Prop) (res:Res),
  oJ P tr md nat n all hs W m k os e h d dec pre ob=some res→(∀t,t∉W→∀v,e0 t=some v→e t=some v)→res.keep e0 h d W:=by
 intro m
 induction m with
 | zero=>intro k os e h d dec pre ob res hg;simp[oJ] at hg
 | succ m q=>
  intro k os e h d dec pre ob res hg he;cases os with
  | nil=>
   simp only[oJ] at hg;cases hg;exact⟨he,rfl,rfl⟩
  | cons o os=>
   simp only[oJ] at hg;split at hg
   ·rename_i t _;split at hg
    ·rename_i b hb;rw[Ah] at hg;obtain⟨x,hx,hg⟩:=hg;rw[Ah] at hg;obtain⟨y,hy,hg⟩:=hg;cases hg;refine⟨fun I=>?_,fun J=>?_⟩
     ·subst I;rw[aDl hb] at hx;exact q _ _ _ _ _ _ _ _ _ hx he
     ·subst J;rw[aDl hb] at hy;exact q _ _ _ _ _ _ _ _ _ hy he
    ·exact q _ _ _ _ _ _ _ _ _ hg he
   ·rw[Ah] at hg;obtain⟨⟨rd,f,O⟩,h1,h2⟩:=hg;dsimp only at h2;split at h2
    ·obtain⟨hm,h3⟩:=eJ h2;refine q _ _ _ _ _ _ _ _ _ h3 fun s hs u hu=>?_
     have N:s≠_:=fun e=>hs (by rw[e];exact aFe.1 hm)
     rw[bE _ _ _ N];exact he s hs u hu
    ·cases h2
def Res.boolAt (w:Nat):Res→Option Bool
 | .leaf st _ _ _=>match st.e w with
  | some (.one (.c (.bool x)))=>some x
  | _=>none
 | .fork b x y=>(x.boolAt w).bind fun p=>(y.boolAt w).bind fun q=>some (bif b then p else q)
theorem Res.boolAt_all {w:Nat}:∀{r:Res}{x:Bool},r.boolAt w=some x→r.all fun st=>st.e w=some (.one (.c (.bool x)))
 | .leaf st _ _ _,x,h=>by
  simp only[Res.boolAt] at h;split at h
  ·rename_i hx;cases h;exact hx
  ·cases h
 | .fork b p q,x,h=>by
  simp only[Res.boolAt,Ah] at h;obtain⟨u,hu,v,hv,h⟩:=h;cases h;refine⟨fun hb=>?_,fun hb=>?_⟩
  ·subst hb;exact Res.boolAt_all hu
  ·subst hb;exact Res.boolAt_all hv
def sD (res:Res):List Nat→Option (List (Nat×Option V))
 | []=>some []
 | w::ws=>(sD res ws).bind fun l=>match res.boolAt w with
  | some x=>some ((w,some (.one (.c (.bool x))))::l)
  | none=>some ((w,none)::l)
def n1 (e:Nat→Option V):List (Nat×Option V)→Nat→Option V
 | [],t=>e t
 | (w,v)::l,t=>bif Nat.beq t w then v else n1 e l t
theorem zQ {res:Res}{e0:Nat→Option V}{t:Nat}:∀{W:List Nat}{L:List (Nat×Option V)},sD res W=some L→n1 e0 L t=if t∈W then(res.boolAt t).map (fun x=>V.one (.c (.bool x))) else e0 t
 | [],L,h=>by
  simp only[sD] at h;cases h;simp[n1]
 | w::ws,L,h=>by
  simp only[sD,Ah] at h;obtain⟨l,hl,h⟩:=h;have I:=zQ (e0:=e0) (t:=t) hl;have hL:L=(w,(res.boolAt w).map (fun x=>V.one (.c (.bool x))))::l:=by
   split at h
   ·rename_i x hx;cases h;rw[hx];rfl
   ·rename_i hx;cases h;rw[hx];rfl
  subst hL;simp only[n1];by_cases q:t=w
  ·subst q;simp
  ·have hb:Nat.beq t w=false:=by
    cases hb:Nat.beq t w with
    | true=>exact absurd (Ac hb) q
    | false=>rfl
   rw[hb,Bq,I];simp[q]
theorem Res.all_mono {Q Q':St→Prop}(h:∀st,Q st→Q' st):∀{r:Res},r.all Q→r.all Q'
 | .leaf st _ _ _,k=>h st k
 | .fork _ _ _,k=>⟨fun hb=>Res.all_mono h (k.1 hb),fun hb=>Res.all_mono h (k.2 hb)⟩
theorem Res.all_forall {α:Type}{Q:α→St→Prop}:∀{r:Res},(∀a,r.all (Q a))→r.all fun st=>∀a,Q a st
 | .leaf _ _ _ _,k=>fun a=>k a
 | .fork _ _ _,k=>⟨fun hb=>Res.all_forall fun a=>(k a).1 hb,fun hb=>Res.all_forall fun a=>(k a).2 hb⟩
theorem Res.all_and {Q Q':St→Prop}:∀{r:Res},r.all Q→r.all Q'→r.all fun st=>Q st∧Q' st
 | .leaf _ _ _ _,h,k=>⟨h,k⟩
 | .fork _ _ _,h,k=>⟨fun hb=>Res.all_and (h.1 hb) (k.1 hb),fun hb=>Res.all_and (h.2 hb) (k.2 hb)⟩
theorem Res.keep_at {e0:Nat→Option V}{h0:cR}{d0 W:List Nat}{t:Nat}{v:V}(ht:t∉W) (hv:e0 t=some v):∀{r:Res},r.keep e0 h0 d0 W→r.all fun st=>st.e t=some v
 | .leaf _ _ _ _,k=>k.1 t ht v hv
 | .fork _ _ _,k=>⟨fun hb=>Res.keep_at ht hv (k.1 hb),fun hb=>Res.keep_at ht hv (k.2 hb)⟩
theorem Res.keep_hd {e0:Nat→Option V}{h0:cR}{d0 W:List Nat}:∀{r:Res},r.keep e0 h0 d0 W→r.all fun st=>st.h=h0∧st.d=d0
 | .leaf _ _ _ _,k=>k.2
 | .fork _ _ _,k=>⟨fun hb=>Res.keep_hd (k.1 hb),fun hb=>Res.keep_hd (k.2 hb)⟩
theorem aPj {res:Res}{e0:Nat→Option V}{h0:cR}{d0 W:List Nat}{L:List (Nat×Option V)}(h:sD res W=some L) (hk:res.keep e0 h0 d0 W):res.all fun st=>(∀p:Nat×V,n1 e0 L p.1=some p.2→st.e p.1=some p.2)∧(st.h=h0∧st.d=d0):=by
 refine Res.all_and (Res.all_forall fun p=>?_) (Res.keep_hd hk);by_cases hv:n1 e0 L p.1=some p.2
 ·refine Res.all_mono (fun st h _=>h) (?_:res.all fun st=>st.e p.1=some p.2);rw[zQ h] at hv;by_cases ht:p.1∈W
  ·rw[ξ ht,B0] at hv;obtain⟨x,hx,hv⟩:=hv;rw[←hv];exact Res.boolAt_all hx
  ·rw[φ ht] at hv;exact Res.keep_at ht hv hk
 ·have:∀r:Res,r.all fun st=>n1 e0 L p.1=some p.2→st.e p.1=some p.2:=by
   intro r
   induction r with
   | leaf st k pre ob=>exact fun h=>absurd h hv
   | fork b x y q I=>exact⟨fun _=>q,fun _=>I⟩
  exact this res
theorem Sub.weak {kf:List Nat}{q st2:St}(he:∀p:Nat×V,st2.e p.1=some p.2→q.e p.1=some p.2) (hh:q.h=st2.h) (hd:q.d=st2.d):Sub kf st2 q:=by
 intro G n S μ a w _ hs;refine⟨S,μ,⟨?_,hs.size,?_,fun t v e=>?_⟩⟩
 ·rw[←hh];exact hs.inv
 ·rw[←hh,←hd];exact hs.defers
 ·rw[←hh];exact hs.env t v (he (t,v) e)
def aV2:List Oper→List Nat
 | []=>[]
 | o::os=>match o.dst with
  | some t=>t::aV2 os
  | none=>aV2 os
theorem aVp {ro:Option Nat}{ops:Array Oper}{draw:Bool}{st:St}{J:Nat→Option V}{h1:cR}{d1:List Nat}{I:Nat}{q:REs}{N:List Prop}{res:Res}{L:List (Nat×Option V)}{hs:List (Nat×Hn)}{kf:List Nat}{id:Nat}{Q:Exit→St→Prop}(m:Nat) (hm:P.follows .mixedOrders=true) (hw:tr.wf=true) (Y:Tok P tr.flat)
  (g1:vG P tr md nat n ops.toList hs m 0 ops.toList st.e st.h st.d [] []=some (⟨J,h1,d1⟩,I,q,N))
  (g2:oJ P tr md nat n ops.toList hs (aV2 (ops.toList.drop I)) 1000 I (ops.toList.drop I) J h1 d1 [] q N=some res)
  (g3:sD res (aV2 (ops.toList.drop I))=some L) (ho:res.obs) (hg:res.good ops draw=true) (hq:Q .normal ⟨n1 J L,h1,d1⟩):AWp ro P n kf (.region id ops draw) st Q:=by
 have hk:=aHy (P:=P) (tr:=tr) (md:=md) (nat:=nat) (n:=n) (e0:=J) _ _ _ _ _ _ _ _ _ _ g2 (fun _ _ _ h=>h);have Z:=aPj g3 hk;have O:res.all fun st'=>Sub kf ⟨n1 J L,h1,d1⟩ st':=Res.all_mono (fun st h=>Sub.weak h.1 h.2.1 h.2.2) Z
 obtain⟨aa,W⟩:=aQj (draw:=draw) hw Y _ _ _ _ _ _ _ _ _ _ rfl g2 ho hg _ O;exact aVo _ hm ((aC6 hw Y m 0 _ st.e st.h st.d [] [] _ I q N rfl g1 aa).2 _ W) hq
end
end Go.AM
namespace Go.AM
open Go
theorem Ole.arrS {σ:Nat→Nat}{te es fz:Nat}{l l':List (List C)}(h:l=l'):Ole σ (.arr te es l fz) (.arr te es l' fz):=by subst h;exact .arr
theorem hs_ren {id off a b q b':Nat}(h:a=q) (k:b=b'):some (V.one (.hs id off a b))=some (V.ren (fun i=>i) (V.one (.hs id off q b'))):=by subst h;subst k;rfl
theorem sl {kf:List Nat}{q:St}{el:List (Nat×V)}{hl:List (Nat×AObj)}
  (he:eW (fun p=>q.e p.1=some (p.2.ren (fun i=>i))) el:=by repeat (first | exact trivial | refine⟨by first | rfl | exact Go.AM.hs_ren (by first | (simp;done) | (simp;omega)) (by first | (simp;done) | (simp;omega)),?_⟩))
  (hh:eW (fun p=>∃o,q.h p.1=some o∧Ole (fun i=>i) o p.2) hl:=by repeat (first | exact trivial | refine⟨⟨_,rfl,by first | exact Go.AM.Ole.arr | exact Go.AM.Ole.var rfl | exact Go.AM.Ole.map | exact Go.AM.Ole.rarr rfl | exact Go.AM.Ole.arr1 | exact Go.AM.Ole.arrS (by first | assumption | (simp;done) | (simp;rfl) | (simp;omega)) | exact Go.AM.Ole.arrE (by first | assumption | (simp;done) | (simp;rfl) | (simp;omega)) | exact Go.AM.Ole.var (by first | (simp[Go.AM.R.renL,Go.AM.R.ren];done) | (simp[Go.AM.R.renL,Go.AM.R.ren];omega)) | exact Go.AM.Ole.mapE (by first | assumption | (simp;done) | (simp;rfl) | (simp;omega))⟩,?_⟩))
  (hok:(aV0 kf (fun i=>i) el hl&&eqL [] q.d)=true:=by rfl):Sub kf (mk el hl) q:=Sub.list (fun i=>i) he hh hok
theorem take_all {α:Type}{l:List α}{n:Nat}(h:n=l.length):l=(l.drop 0).take n:=by rw[h,Ce,An]
theorem ltD {i n:Nat}{l:List (List C)}(h:decide ((i:Int)<(l.length:Int))=true) (e:l.length=n):i<n:=by
 have:(i:Int)<(l.length:Int):=by simpa using h
 omega
theorem geD {i n:Nat}{l:List (List C)}(h:decide ((i:Int)<(l.length:Int))=false) (e:l.length=n) (hi:i≤n):i=n:=by
 have:¬(i:Int)<(l.length:Int):=by simpa using h
 omega
theorem Ole.rarrS {te es:Nat}{l l':List (List R)}(h:l=l'):Ole (fun i=>i) (.rarr te es l) (.rarr te es l'):=by subst h;exact .rarr (aCb _).symm
section
variable {T:TT}{fn:Func}{st:St}{hin hout:List (Nat×AObj)}{res:V}
theorem rtT {t:Nat}{v:V}{ids:List Nat}(q:fn.results.toList=[.tmp t]:=by rfl) (hv:st.e t=some v:=by rfl)
  (hc:Conv st.h ids v res:=by first | exact .refl | exact .one (.c .nl .nil) | ((first | apply Go.AM.Conv.pa | apply Go.AM.Conv.agg);repeat (first | exact .nil | apply Go.AM.PureL.c .refl | apply Go.AM.PureL.c .nl | (apply Go.AM.PureL.hs;rfl;(first | rfl | assumption | simp);(first | rfl | exact Go.AM.take_all (by first | assumption | rfl | (simp;done)) | exact Go.AM.take_map.symm)))))
  (I:eW (fun p=>∃o,st.h p.1=some o∧Ole (fun i=>i) o p.2) hout:=by repeat (first | exact trivial | refine⟨⟨_,rfl,by first | exact Go.AM.Ole.arr | exact Go.AM.Ole.var rfl | exact Go.AM.Ole.map | exact Go.AM.Ole.rarr rfl | exact Go.AM.Ole.arr1 | exact Go.AM.Ole.arrS (by first | assumption | (simp;done) | (simp;rfl) | (simp;omega)) | exact Go.AM.Ole.arrE (by first | assumption | (simp;done) | (simp;rfl) | (simp;omega)) | exact Go.AM.Ole.var (by first | (simp[Go.AM.R.renL,Go.AM.R.ren];done) | (simp[Go.AM.R.renL,Go.AM.R.ren];omega)) | exact Go.AM.Ole.mapE (by first | assumption | (simp;done) | (simp;rfl) | (simp;omega))⟩,?_⟩))
  (hok:(subset res.refs (keys hout)&&subset (dN hout) (keys hout)&&distinct (keys hout)&&subset (keys hin) (keys hout)&&(hin.all fun p=>p.2.plain)&&(hout.all fun p=>p.2.plain))=true:=by rfl):(Exit.ret=.normal∨Exit.ret=.ret)∧Fin T fn st hin res hout:=
 ⟨.inr rfl,⟨[v],[res],by rw[q];exact .tmp hv .nil,.cons hc .nil,rfl⟩,I,hok⟩
theorem rtC {tr:Tr}{a t:Nat}{i:TI}{id off tv:Nat}{cells:List R}{v:V}{ids:List Nat}(hw:tr.wf=true) (q:fn.results.toList=[.cell a t]:=by rfl) (hi:tr.get t=some i:=by rfl) (ha:st.e a=some (.one (.vp id off)):=by rfl) (hh:st.h id=some (.var tv cells):=by rfl) (hb:Nat.ble (off+i.size) cells.length=true:=by rfl) (hv:qE i ((cells.drop off).take i.size)=some v:=by rfl)
  (hc:Conv st.h ids v res:=by first | exact .refl | exact .one (.c .nl .nil) | ((first | apply Go.AM.Conv.pa | apply Go.AM.Conv.agg);repeat (first | exact .nil | apply Go.AM.PureL.c .refl | apply Go.AM.PureL.c .nl | (apply Go.AM.PureL.hs;rfl;(first | rfl | assumption | simp);(first | rfl | exact Go.AM.take_all (by first | assumption | rfl | (simp;done)) | exact Go.AM.take_map.symm)))))
  (I:eW (fun p=>∃o,st.h p.1=some o∧Ole (fun i=>i) o p.2) hout:=by repeat (first | exact trivial | refine⟨⟨_,rfl,by first | exact Go.AM.Ole.arr | exact Go.AM.Ole.var rfl | exact Go.AM.Ole.map | exact Go.AM.Ole.rarr rfl | exact Go.AM.Ole.arr1 | exact Go.AM.Ole.arrS (by first | assumption | (simp;done) | (simp;rfl) | (simp;omega)) | exact Go.AM.Ole.arrE (by first | assumption | (simp;done) | (simp;rfl) | (simp;omega)) | exact Go.AM.Ole.var (by first | (simp[Go.AM.R.renL,Go.AM.R.ren];done) | (simp[Go.AM.R.renL,Go.AM.R.ren];omega)) | exact Go.AM.Ole.mapE (by first | assumption | (simp;done) | (simp;rfl) | (simp;omega))⟩,?_⟩))
  (hok:(subset res.refs (keys hout)&&subset (dN hout) (keys hout)&&distinct (keys hout)&&subset (keys hin) (keys hout)&&(hin.all fun p=>p.2.plain)&&(hout.all fun p=>p.2.plain))=true:=by rfl):(Exit.ret=.normal∨Exit.ret=.ret)∧Fin tr.flat fn st hin res hout:=
 ⟨.inr rfl,⟨[v],[res],by rw[q];exact .cell ha (Tr.get_ok hw hi) hh hb hv .nil,.cons hc .nil,rfl⟩,I,hok⟩
end
end Go.AM
namespace Go.AM
open Go
theorem qR {id:Nat}{o:AObj}{hin:List (Nat×AObj)}:look ((id,o)::hin)=upd (look hin) id (some o):=by
 funext i;by_cases h:i=id
 ·subst h;rw[aK,dJ]
 ·rw[bE _ _ _ h,dR h]
theorem Inv.emptyZ {G:Ctx}{S:Sto}{μ:Mu}{H:cR}{w:World}{id:Nat}(te es z:Nat) (h:Inv G S μ H w) (hid:H id=none):Inv G S (upd μ id none) (upd H id (some (.arr te es [] z))) w∧Evolve S μ H S (upd μ id none) (upd H id (some (.arr te es [] z))):=by
 have J:Evolve S μ H S (upd μ id none) (upd H id (some (.arr te es [] z))):=gV hid _ _;refine⟨⟨h.holds,fun j x hj=>?_,fun i j x x' b c c' hi hj hm q=>?_,fun i x b c hi hm=>?_,h.frame,h.sle,h.sto,h.evo.trans J,h.fre⟩,J⟩
 ·by_cases I:j=id
  ·subst I;rw[aK] at hj;cases hj;exact⟨by simp,.inl ⟨aK _ _ _,rfl⟩⟩
  ·rw[bE _ _ _ I] at hj;exact(h.obj j x hj).evolve J (bE _ _ _ I) fun _ _ _=>⟨rfl,fun _=>rfl,rfl⟩
 ·have h1:i≠id:=fun e=>by subst e;rw[aK] at hm;cases hm
  have h2:j≠id:=fun e=>by subst e;rw[aK] at q;cases q
  rw[bE _ _ _ h1] at hi hm;rw[bE _ _ _ h2] at hj q;exact h.inj i j x x' b c c' hi hj hm q
 ·have h1:i≠id:=fun e=>by subst e;rw[aK] at hm;cases hm
  rw[bE _ _ _ h1] at hi hm;exact h.own i x b c hi hm
theorem aU.nilArg {P:Program}{f:FuncId}{pre post:List V}{hin hout:List (Nat×AObj)}{res:V}{id te es z:Nat}(h:aU P f (pre++ .one (.hs id 0 0 0)::post) ((id,.arr te es [] z)::hin) res hout) (hid:look hin id=none):aU P f (pre++ .one (.c .nl)::post) hin res hout:=by
 intro S μ w vals W hv;obtain⟨hi,I⟩:=W.emptyZ te es z hid;have J:u0 (upd μ id none) (look ((id,.arr te es [] z)::hin))=u0 μ (look hin):=by
  funext b;rw[qR];refine propext ⟨?_,?_⟩
  ·rintro⟨j,o,c,h1,h2⟩;by_cases hj:j=id
   ·subst hj;rw[aK] at h2;cases h2
   ·rw[bE _ _ _ hj] at h1 h2;exact⟨j,o,c,h1,h2⟩
  ·rintro⟨j,o,c,h1,h2⟩;have hj:j≠id:=fun e=>by subst e;rw[hid] at h1;cases h1
   exact⟨j,o,c,by rw[bE _ _ _ hj];exact h1,by rw[bE _ _ _ hj];exact h2⟩
 have N:Inv ⟨w,S,u0 (upd μ id none) (look ((id,.arr te es [] z)::hin)),upd μ id none,look ((id,.arr te es [] z)::hin)⟩ S (upd μ id none) (look ((id,.arr te es [] z)::hin)) w:=by
  rw[J,qR];exact⟨hi.holds,hi.obj,hi.inj,hi.own,hi.frame,hi.sle,hi.sto,Evolve.refl _ _ _,hi.fre⟩
 have O:bU S (upd μ id none) (look ((id,.arr te es [] z)::hin)) (pre++ .one (.hs id 0 0 0)::post) vals:=by
  rw[qR];have key:∀(l:List V) (us:List Value),bU S μ (look hin) (l++ .one (.c .nl)::post) us→bU S (upd μ id none) (upd (look hin) id (some (.arr te es [] z))) (l++ .one (.hs id 0 0 0)::post) us:=by
   intro l
   induction l with
   | nil=>
    intro us hu;simp only[Bd,bU] at hu ⊢;obtain⟨u,q,h1,h2,h3⟩:=hu;refine⟨u,q,h1,?_,bU.evolve I _ _ h3⟩;simp only[b6,bF,Rep] at h2 ⊢;exact⟨⟨_,_,_,h2⟩,.inr ⟨te,es,[],z,aK _ _ _,le_refl _,fun _=>⟨le_refl _,.inl ⟨aK _ _ _,rfl,h2⟩⟩⟩⟩
   | cons x l Y=>
    intro us hu;simp only[Ba,bU] at hu ⊢;obtain⟨u,q,h1,h2,h3⟩:=hu;exact⟨u,q,h1,b6.evolve I _ _ h2,Y q h3⟩
  exact key pre vals hv
 refine Calls.mono (h S (upd μ id none) w vals N O) ?_;rintro e w' ⟨S',μ',v,h1,h2,h3⟩;refine⟨S',μ',v,h1,?_,h3⟩;rw[J] at h2;refine⟨h2.holds,h2.obj,h2.inj,h2.own,h2.frame,h2.sle,h2.sto,I.trans ?_,h2.fre⟩;have:=h2.evo;rwa [qR] at this
theorem aU.sub {P:Program}{f:FuncId}{args:List V}{hin hout hout':List (Nat×AObj)}{res q:V}(h:aU P f args hin res hout) (hs:Sub (keys hin) (mk [(0,q)] hout') (mk [(0,res)] hout)):aU P f args hin q hout':=by
 intro S μ w vals J hv;refine Calls.mono (h S μ w vals J hv) ?_;rintro e w' ⟨S',μ',v,h1,h2,h3⟩;have I:Ctx.keeps ⟨w,S,u0 μ (look hin),μ,look hin⟩ (keys hin):=zZ
 obtain⟨S2,N,g⟩:=hs _ 1 S' μ' ⟨#[v],[]⟩ w' I ⟨h2,rfl,rfl,fun t y e=>by
  simp only[mk,look] at e;split at e
  ·rename_i hb;cases e;rw[Ac hb];exact h3
  ·cases e⟩
 exact⟨S2,N,v,h1,g.inv,g.env 0 q rfl⟩
theorem aU.plain {P:Program}{f:FuncId}{args:List V}{id te es n:Nat}{rows:List (List C)}{fz:Nat}(h:aU P f args [] (.one (.hs id 0 n n)) [(id,.arr te es rows fz)]) (hn:n=rows.length):aU P f args [] (.one (.c (.sl es rows))) []:=by
 refine h.sub ?_;have h1:Sub [] ⟨look [(0,V.one (.hs id 0 n n))],upd (look [(id,AObj.arr te es rows fz)]) id (some (.arr te es rows 2)),[]⟩ (mk [(0,.one (.hs id 0 n n))] [(id,.arr te es rows fz)]):=Sub.freeze (st:=mk [(0,.one (.hs id 0 n n))] [(id,.arr te es rows fz)]) dJ;refine Sub.trans (Sub.trans ?_ (Sub.conv (t:=0) (v:=.one (.hs id 0 n n)) rfl (hs_all (aK _ _ _) rfl hn rfl))) h1;exact Sub.list (fun i=>i) ⟨rfl,trivial⟩ trivial rfl
theorem Sub.varPure {kf:List Nat}{st:St}{x tv:Nat}{cells:List R}{ids:List Nat}{cs:List C}(h:st.h x=some (.var tv cells)) (hp:PureL st.h ids cells cs):Sub kf ⟨st.e,upd st.h x (some (.var tv (cs.map R.c))),st.d⟩ st:=by
 intro G n S μ a w _ hs;have hi:=hs.inv;obtain⟨b,vs,g1,g2,g3,g4⟩:=hi.obj x _ h
 have I:Evolve S μ st.h S μ (upd st.h x (some (.var tv (cs.map R.c)))):=⟨S.le_refl,fun j y hj=>by
  by_cases q:j=x
  ·subst q;rw[h] at hj;cases hj;exact⟨_,aK _ _ _,by simp[AObj.succ]⟩
  ·exact⟨y,by rw[bE _ _ _ q];exact hj,y.succ_refl rfl⟩⟩
 have hold:∀j y,upd st.h x (some (.var tv (cs.map R.c))) j=some y→∃y',st.h j=some y':=fun j y hj=>by
  by_cases q:j=x
  ·subst q;exact⟨_,h⟩
  ·rw[bE _ _ _ q] at hj;exact⟨_,hj⟩
 refine⟨S,μ,⟨⟨hi.holds,fun j y hj=>?_,fun i j y y' b c c' J hj hm O=>?_,fun i y b c J hm=>?_,hi.frame,hi.sle,hi.sto,hi.evo.trans I,hi.fre⟩,hs.size,hs.defers.evolve I,fun s v e=>b6.evolve I v _ (hs.env s v e)⟩⟩
 ·by_cases q:j=x
  ·subst q;have N:some (AObj.var tv (cs.map R.c))=some y:=by rw[←hj];exact(aK _ _ _).symm
   cases N;exact⟨b,vs,g1,g2,(hp.rel (fun _ _=>rfl) hi.obj g3).toR,g4⟩
  ·have N:st.h j=some y:=by rw[←hj];exact(bE _ _ _ q).symm
   exact(hi.obj j y N).evolve I rfl fun _ _ _=>⟨rfl,fun _=>rfl,rfl⟩
 ·obtain⟨_,h1⟩:=hold _ _ J;obtain⟨_,h2⟩:=hold _ _ hj;exact hi.inj i j _ _ b c c' h1 h2 hm O
 ·obtain⟨_,h1⟩:=hold _ _ J;exact hi.own i _ b c h1 hm
theorem vp {kf:List Nat}{st:St}(x:Nat) {tv:Nat}{cells:List R}(cs:List C) {ids:List Nat}(h:st.h x=some (.var tv cells):=by rfl)
  (hp:PureL st.h ids cells cs:=by repeat (first | exact .nil | apply Go.AM.PureL.c .refl | apply Go.AM.PureL.c .nl | apply Go.AM.PureL.c .sn | (apply Go.AM.PureL.hs;rfl;(first | rfl | assumption | (simp;done) | (simp;omega));(first | rfl | exact Go.AM.take_all (by first | assumption | rfl | (simp;done) | (simp;omega)) | exact Go.AM.take_map.symm)))):Sub kf ⟨st.e,upd st.h x (some (.var tv (cs.map R.c))),st.d⟩ st:=Sub.varPure h hp
theorem cv {kf:List Nat}{st:St}(t:Nat) {id te es n sz:Nat}{l:List (List C)}(l':List (List C)) (h:st.e t=some (.one (.hs id 0 n sz)):=by rfl) (hh:st.h id=some (.arr te es l 2):=by rfl) (h1:n=l.length:=by first | rfl | assumption | (simp;done) | (simp;omega)) (h2:sz=l.length:=by first | rfl | assumption | (simp;done) | (simp;omega)) (h3:l=l':=by first | rfl | assumption | (simp;done)):Sub kf ⟨upd st.e t (some (.one (.c (.sl es l')))),st.h,st.d⟩ st:=by
 subst h3;exact Sub.conv h (.one (.hs hh h2 (by rw[h1,Ce,An]) .nil))
end Go.AM
namespace Go.Proofs.YtockgoadliilhaaGreatDoor
open Go Go.AM
def zl_:Tr:=.leaf none
def zl0:Tr:=.leaf (some ⟨.fn,1,8,[.zv 1]⟩)
def zl1:Tr:=.leaf (some ⟨.int .u8,1,1,[.int .u8 0]⟩)
def zl2:Tr:=.leaf (some ⟨.int .i64,1,8,[.int .i64 0]⟩)
def zl3:Tr:=.leaf (some ⟨.str,1,16,[.str []]⟩)
def zl4:Tr:=.leaf (some ⟨.int .u64,1,8,[.int .u64 0]⟩)
def zl5:Tr:=.leaf (some ⟨.int .i32,1,4,[.int .i32 0]⟩)
def zl6:Tr:=.leaf (some ⟨.st [(0,24),(1,25)],2,48,[.nl,.nl]⟩)
def zl7:Tr:=.leaf (some ⟨.st [(0,22),(1,3)],2,32,[.nl,.int .i64 0]⟩)
def tr:Tr:=
 .node 101 (.node 50 (.node 25 (.node 12 (.node 6 (.node 3 (.node 1 zl_ (.node 1 zl0 zl2)) (.node 1 zl2 (.node 1 (.leaf (some ⟨.bool,1,1,[.bool false]⟩)) zl1))) (.node 3 (.node 1 zl1 (.node 1 (.leaf (some ⟨.st [(0,2),(1,3),(2,4),(3,6)],4,24,[.int .i64 0,.int .i64 0,.bool false,.int .u8 0]⟩)) (.leaf (some ⟨.st [(0,2),(1,3),(2,4),(3,6)],4,24,[.int .i64 0,.int .i64 0,.bool false,.int .u8 0]⟩)))) (.node 1 zl3 (.node 1 zl3 zl3)))) (.node 6 (.node 3 (.node 1 zl4 (.node 1 (.leaf (some ⟨.st [(0,9),(1,12)],2,24,[.str [],.int .u64 0]⟩)) (.leaf (some ⟨.st [(0,9),(1,12)],2,24,[.str [],.int .u64 0]⟩)))) (.node 1 (.leaf (some ⟨.pt 189,1,8,[.np]⟩)) (.node 1 (.leaf (some ⟨.pt 192,1,8,[.np]⟩)) (.leaf (some ⟨.pt 200,1,8,[.np]⟩))))) (.node 3 (.node 1 (.leaf (some ⟨.st [(0,17)],1,8,[.np]⟩)) (.node 1 (.leaf (some ⟨.st [(0,17)],1,8,[.np]⟩)) zl_)) (.node 2 (.node 1 zl5 (.leaf (some ⟨.sl 3,1,24,[.nl]⟩))) (.node 1 (.leaf (some ⟨.sl 22,1,24,[.nl]⟩)) (.leaf (some ⟨.sl 95,1,24,[.nl]⟩))))))) (.node 12 (.node 6 (.node 3 (.node 1 (.leaf (some ⟨.sl 58,1,24,[.nl]⟩)) (.node 1 zl6 zl6)) (.node 1 zl6 (.node 1 zl_ zl0))) (.node 3 (.node 1 (.leaf (some ⟨.sl 33,1,24,[.nl]⟩)) (.node 1 (.leaf (some ⟨.st [(0,3),(1,3),(2,9),(3,31)],4,56,[.int .i64 0,.int .i64 0,.str [],.nl]⟩)) (.leaf (some ⟨.st [(0,3),(1,3),(2,9),(3,31)],4,56,[.int .i64 0,.int .i64 0,.str [],.nl]⟩)))) (.node 1 (.leaf (some ⟨.sl 37,1,24,[.nl]⟩)) (.node 1 (.leaf (some ⟨.sl 88,1,24,[.nl]⟩)) (.leaf (some ⟨.st [(0,3),(1,3),(2,9),(3,33),(7,34),(8,25),(9,35)],10,160,[.int .i64 0,.int .i64 0,.str [],.int .i64 0,.int .i64 0,.str [],.nl,.nl,.nl,.nl]⟩)))))) (.node 6 (.node 3 (.node 1 (.leaf (some ⟨.st [(0,3),(1,3),(2,9),(3,33),(7,34),(8,25),(9,35)],10,160,[.int .i64 0,.int .i64 0,.str [],.int .i64 0,.int .i64 0,.str [],.nl,.nl,.nl,.nl]⟩)) (.node 1 zl0 zl_)) (.node 1 zl0 (.node 1 zl2 zl_))) (.node 3 (.node 1 zl0 (.node 1 zl0 zl0)) (.node 2 (.node 1 zl0 zl0) (.node 1 zl0 zl0)))))) (.node 25 (.node 12 (.node 6 (.node 3 (.node 1 zl0 (.node 1 zl0 (.leaf (some ⟨.sl 54,1,24,[.nl]⟩)))) (.node 1 (.leaf (some ⟨.st [(0,3),(1,3),(2,9),(3,52)],4,56,[.int .i64 0,.int .i64 0,.str [],.nl]⟩)) (.node 1 (.leaf (some ⟨.st [(0,3),(1,3),(2,9),(3,52)],4,56,[.int .i64 0,.int .i64 0,.str [],.nl]⟩)) zl_))) (.node 3 (.node 1 zl0 (.node 1 (.leaf (some ⟨.st [(0,9),(1,33),(5,37)],15,232,[.str [],.int .i64 0,.int .i64 0,.str [],.nl,.int .i64 0,.int .i64 0,.str [],.int .i64 0,.int .i64 0,.str [],.nl,.nl,.nl,.nl]⟩)) (.leaf (some ⟨.st [(0,9),(1,33),(5,37)],15,232,[.str [],.int .i64 0,.int .i64 0,.str [],.nl,.int .i64 0,.int .i64 0,.str [],.int .i64 0,.int .i64 0,.str [],.nl,.nl,.nl,.nl]⟩)))) (.node 1 zl0 (.node 1 zl0 zl0)))) (.node 6 (.node 3 (.node 1 zl0 (.node 1 zl0 (.leaf (some ⟨.sl 9,1,24,[.nl]⟩)))) (.node 1 (.leaf (some ⟨.pt 68,1,8,[.np]⟩)) (.node 1 zl0 zl7))) (.node 3 (.node 1 zl7 (.node 1 zl0 (.leaf (some ⟨.pt 71,1,8,[.np]⟩)))) (.node 2 (.node 1 zl7 zl0) (.node 1 zl0 zl0))))) (.node 13 (.node 6 (.node 3 (.node 1 zl0 (.node 1 (.leaf (some ⟨.sl 146,1,24,[.nl]⟩)) (.leaf (some ⟨.st [(0,76),(1,64),(2,3)],3,56,[.nl,.nl,.int .i64 0]⟩)))) (.node 1 (.leaf (some ⟨.st [(0,76),(1,64),(2,3)],3,56,[.nl,.nl,.int .i64 0]⟩)) (.node 1 zl0 zl0))) (.node 3 (.node 1 (.leaf (some ⟨.st [(0,27)],2,48,[.nl,.nl]⟩)) (.node 1 (.leaf (some ⟨.st [(0,27)],2,48,[.nl,.nl]⟩)) zl0)) (.node 2 (.node 1 zl0 zl0) (.node 1 zl0 (.leaf (some ⟨.st [(0,3),(1,3),(2,9),(3,64),(4,37)],14,216,[.int .i64 0,.int .i64 0,.str [],.nl,.int .i64 0,.int .i64 0,.str [],.int .i64 0,.int .i64 0,.str [],.nl,.nl,.nl,.nl]⟩)))))) (.node 6 (.node 3 (.node 1 (.leaf (some ⟨.st [(0,3),(1,3),(2,9),(3,64),(4,37)],14,216,[.int .i64 0,.int .i64 0,.str [],.nl,.int .i64 0,.int .i64 0,.str [],.int .i64 0,.int .i64 0,.str [],.nl,.nl,.nl,.nl]⟩)) (.node 1 zl0 zl0)) (.node 1 zl0 (.node 1 zl_ zl0))) (.node 3 (.node 1 (.leaf (some ⟨.st [(0,9),(1,3),(2,3),(3,3),(4,33)],8,96,[.str [],.int .i64 0,.int .i64 0,.int .i64 0,.int .i64 0,.int .i64 0,.str [],.nl]⟩)) (.node 1 (.leaf (some ⟨.st [(0,9),(1,3),(2,3),(3,3),(4,33)],8,96,[.str [],.int .i64 0,.int .i64 0,.int .i64 0,.int .i64 0,.int .i64 0,.str [],.nl]⟩)) zl0)) (.node 2 (.node 1 (.leaf (some ⟨.pt 99,1,8,[.np]⟩)) (.leaf (some ⟨.st [(0,27),(2,3)],3,56,[.nl,.nl,.int .i64 0]⟩))) (.node 1 (.leaf (some ⟨.st [(0,27),(2,3)],3,56,[.nl,.nl,.int .i64 0]⟩)) zl0))))))) (.node 50 (.node 25 (.node 12 (.node 6 (.node 3 (.node 1 zl0 (.node 1 zl0 zl0)) (.node 1 zl0 (.node 1 zl0 zl0))) (.node 3 (.node 1 zl0 (.node 1 zl0 zl0)) (.node 1 zl_ (.node 1 zl0 zl0)))) (.node 6 (.node 3 (.node 1 zl0 (.node 1 zl_ zl0)) (.node 1 zl0 (.node 1 zl0 (.leaf (some ⟨.pt 37,1,8,[.np]⟩))))) (.node 3 (.node 1 zl0 (.node 1 zl0 (.leaf (some ⟨.sl 126,1,24,[.nl]⟩)))) (.node 2 (.node 1 zl0 (.leaf (some ⟨.sl 158,1,24,[.nl]⟩))) (.node 1 (.leaf (some ⟨.sl 118,1,24,[.nl]⟩)) (.leaf (some ⟨.st [(0,123),(1,124)],2,48,[.nl,.nl]⟩))))))) (.node 12 (.node 6 (.node 3 (.node 1 (.leaf (some ⟨.st [(0,123),(1,124)],2,48,[.nl,.nl]⟩)) (.node 1 zl_ zl0)) (.node 1 zl0 (.node 1 zl0 zl_))) (.node 3 (.node 1 zl0 (.node 1 zl0 zl0)) (.node 1 zl0 (.node 1 (.leaf (some ⟨.sl 5,1,24,[.nl]⟩)) zl0)))) (.node 6 (.node 3 (.node 1 zl0 (.node 1 zl0 zl0)) (.node 1 zl0 (.node 1 zl0 zl0))) (.node 3 (.node 1 zl0 (.node 1 (.leaf (some ⟨.st [(0,9),(1,33)],5,72,[.str [],.int .i64 0,.int .i64 0,.str [],.nl]⟩)) (.leaf (some ⟨.st [(0,9),(1,33)],5,72,[.str [],.int .i64 0,.int .i64 0,.str [],.nl]⟩)))) (.node 2 (.node 1 zl0 zl0) (.node 1 zl0 zl0)))))) (.node 25 (.node 12 (.node 6 (.node 3 (.node 1 zl0 (.node 1 zl0 zl_)) (.node 1 (.leaf (some ⟨.mp 9 152,1,8,[.zv 0]⟩)) (.node 1 zl0 zl0))) (.node 3 (.node 1 zl0 (.node 1 (.leaf (some ⟨.pt 9,1,8,[.np]⟩)) (.leaf (some ⟨.pt 58,1,8,[.np]⟩)))) (.node 1 (.leaf (some ⟨.pt 88,1,8,[.np]⟩)) (.node 1 zl0 zl0)))) (.node 6 (.node 3 (.node 1 zl0 (.node 1 zl0 zl0)) (.node 1 zl0 (.node 1 zl0 zl0))) (.node 3 (.node 1 zl0 (.node 1 zl0 zl_)) (.node 2 (.node 1 zl4 zl0) (.node 1 zl0 zl_))))) (.node 13 (.node 6 (.node 3 (.node 1 zl0 (.node 1 zl0 zl_)) (.node 1 (.leaf (some ⟨.int .u32,1,4,[.int .u32 0]⟩)) (.node 1 zl_ zl0))) (.node 3 (.node 1 zl4 (.node 1 zl0 zl0)) (.node 2 (.node 1 zl_ zl_) (.node 1 zl0 (.leaf (some ⟨.st [(0,17),(1,17),(2,17),(3,9)],4,40,[.np,.np,.np,.str []]⟩)))))) (.node 6 (.node 3 (.node 1 (.leaf (some ⟨.st [(0,17),(1,17),(2,17),(3,9)],4,40,[.np,.np,.np,.str []]⟩)) (.node 1 (.leaf (some ⟨.ar 0 16,0,0,[]⟩)) (.leaf (some ⟨.st [(0,190)],0,0,[]⟩)))) (.node 1 (.leaf (some ⟨.st [(0,190)],0,0,[]⟩)) (.node 1 zl1 zl1))) (.node 3 (.node 1 zl0 (.node 1 (.leaf (some ⟨.pt 5,1,8,[.np]⟩)) zl5)) (.node 2 (.node 1 zl5 (.leaf (some ⟨.st [(0,12),(1,12),(2,179),(3,193),(4,5),(5,5),(6,194),(7,195),(8,196),(9,197),(10,198)],11,48,[.int .u64 0,.int .u64 0,.int .u32 0,.int .u8 0,.int .u8 0,.int .u8 0,.int .u8 0,.zv 1,.np,.int .i32 0,.int .i32 0]⟩))) (.node 1 (.leaf (some ⟨.st [(0,12),(1,12),(2,179),(3,193),(4,5),(5,5),(6,194),(7,195),(8,196),(9,197),(10,198)],11,48,[.int .u64 0,.int .u64 0,.int .u32 0,.int .u8 0,.int .u8 0,.int .u8 0,.int .u8 0,.zv 1,.np,.int .i32 0,.int .i32 0]⟩)) zl_)))))))
theorem trw:tr.wf=true:=by kernel_rfl
theorem tok:Tok Tryz.prog tr.flat:=by unfold Tok;kernel_rfl
theorem tg {t:Nat}{i:TI}(h:tr.get t=some i):tr.flat[t]?=some (some i):=Tr.get_ok trw h
theorem mixed:Tryz.prog.follows .mixedOrders=true:=by kernel_rfl
section
variable {ro:Option Nat}{n:Nat}{ops:Array Oper}{draw:Bool}{k k':Nat}{e:Nat→Option V}{h0:cR}{d0:List Nat}{st':St}{pre pre':REs}{tr':Tr}{ob:List Prop}{kf:List Nat}{id:Nat}
theorem ag {Q:Exit→St→Prop}(hs:List (Nat×Hn)) (h:vG Tryz.prog tr true false n ops.toList hs 1000 0 ops.toList e h0 d0 [] []=some (st',k',pre',ob)) (q:Q .normal st')
  (hc:iV ob:=by repeat (first | exact trivial | refine⟨by first | omega | assumption | exact⟨by kernel_rfl,by assumption⟩ | rfl | (simp only[Bm,List.length_nil];omega) | (simp;done) | (simp;omega),?_⟩)) (h1:Nat.beq k' ops.size=true:=by rfl) (h2:(!draw || (fH (oT ops) pre'.reverse []&&iI ops))=true:=by kernel_rfl):AWp ro Tryz.prog n kf (.region id ops draw) ⟨e,h0,d0⟩ Q:=
 aSw mixed trw tok h hc h1 h2 q
theorem agN {Q:Exit→St→Prop}(hs:List (Nat×Hn)) (h:vG Tryz.prog tr true true n ops.toList hs 1000 0 ops.toList e h0 d0 [] []=some (st',k',pre',ob)) (q:Q .normal st')
  (hc:iV ob:=by repeat (first | exact trivial | refine⟨by first | omega | assumption | exact⟨by kernel_rfl,by assumption⟩ | rfl | (simp only[Bm,List.length_nil];omega) | (simp;done) | (simp;omega),?_⟩)) (h1:Nat.beq k' ops.size=true:=by rfl) (h2:(!draw || (fH (oT ops) pre'.reverse []&&iI ops))=true:=by kernel_rfl):AWp ro Tryz.prog n kf (.region id ops draw) ⟨e,h0,d0⟩ Q:=
 aSw mixed trw tok h hc h1 h2 q
theorem ak {Q:St→Prop}(m:Nat) (hs:List (Nat×Hn)) (h:vG Tryz.prog tr true false n ops.toList hs m k (ops.toList.drop k) e h0 d0 pre []=some (st',k',pre',ob)) (hk:kS Tryz.prog n ops draw k' st' pre' Q)
  (hc:iV ob:=by repeat (first | exact trivial | refine⟨by first | omega | assumption | exact⟨by kernel_rfl,by assumption⟩ | rfl | (simp only[Bm,List.length_nil];omega) | (simp;done) | (simp;omega),?_⟩)):kS Tryz.prog n ops draw k ⟨e,h0,d0⟩ pre Q:=
 ax_ m trw tok h hc hk
theorem akN {Q:St→Prop}(m:Nat) (hs:List (Nat×Hn)) (h:vG Tryz.prog tr true true n ops.toList hs m k (ops.toList.drop k) e h0 d0 pre []=some (st',k',pre',ob)) (hk:kS Tryz.prog n ops draw k' st' pre' Q)
  (hc:iV ob:=by repeat (first | exact trivial | refine⟨by first | omega | assumption | exact⟨by kernel_rfl,by assumption⟩ | rfl | (simp only[Bm,List.length_nil];omega) | (simp;done) | (simp;omega),?_⟩)):kS Tryz.prog n ops draw k ⟨e,h0,d0⟩ pre Q:=
 ax_ m trw tok h hc hk
theorem agF {Q:Exit→St→Prop}{J:Nat→Option V}{q:cR}{d1:List Nat}{I:List Prop}{res:Res}{L:List (Nat×Option V)}(m:Nat) (hs:List (Nat×Hn)) (g1:vG Tryz.prog tr true false n ops.toList hs m 0 ops.toList e h0 d0 [] []=some (⟨J,q,d1⟩,k',pre',I))
  (g2:oJ Tryz.prog tr true false n ops.toList hs (aV2 (ops.toList.drop k')) 1000 k' (ops.toList.drop k') J q d1 [] pre' I=some res) (g3:sD res (aV2 (ops.toList.drop k'))=some L) (N:Q .normal ⟨n1 J L,q,d1⟩)
  (O:res.obs:=by repeat (first | exact trivial | refine⟨fun _=>?_,fun _=>?_⟩ | refine⟨by first | omega | assumption | exact⟨by kernel_rfl,by assumption⟩ | rfl | (simp only[Bm,List.length_nil];omega) | (simp;done) | (simp;omega),?_⟩)) (hg:res.good ops draw=true:=by kernel_rfl):AWp ro Tryz.prog n kf (.region id ops draw) ⟨e,h0,d0⟩ Q:=
 aVp m mixed trw tok g1 g2 g3 O hg N
theorem az {Q:St→Prop}(q:Q ⟨e,h0,d0⟩) (h1:Nat.beq k ops.size=true:=by rfl) (h2:(!draw || (fH (oT ops) pre.reverse []&&iI ops))=true:=by kernel_rfl):kS Tryz.prog n ops draw k ⟨e,h0,d0⟩ pre Q:=z_ h1 h2 q
theorem sgh {Q:Exit→St→Prop}{y:Code}(hs:List (Nat×Hn)) (h:vG Tryz.prog tr true false n ops.toList hs 1000 0 ops.toList e h0 d0 [] []=some (st',k',pre',ob)) (q:AWp ro Tryz.prog n kf y st' Q)
  (hc:iV ob:=by repeat (first | exact trivial | refine⟨by first | omega | assumption | exact⟨by kernel_rfl,by assumption⟩ | rfl | (simp only[Bm,List.length_nil];omega) | (simp;done) | (simp;omega),?_⟩)) (h1:Nat.beq k' ops.size=true:=by rfl) (h2:(!draw || (fH (oT ops) pre'.reverse []&&iI ops))=true:=by kernel_rfl):AWp ro Tryz.prog n kf (.seq (.region id ops draw) y) ⟨e,h0,d0⟩ Q:=
 a8 (ag hs h q hc h1 h2)
theorem sg {Q:Exit→St→Prop}{y:Code}(h:vG Tryz.prog tr true false n ops.toList [] 1000 0 ops.toList e h0 d0 [] []=some (st',k',pre',ob)) (q:AWp ro Tryz.prog n kf y st' Q)
  (hc:iV ob:=by repeat (first | exact trivial | refine⟨by first | omega | assumption | exact⟨by kernel_rfl,by assumption⟩ | rfl | (simp only[Bm,List.length_nil];omega) | (simp;done) | (simp;omega),?_⟩)) (h1:Nat.beq k' ops.size=true:=by rfl) (h2:(!draw || (fH (oT ops) pre'.reverse []&&iI ops))=true:=by kernel_rfl):AWp ro Tryz.prog n kf (.seq (.region id ops draw) y) ⟨e,h0,d0⟩ Q:=
 sgh [] h q hc h1 h2
theorem skh {Q:Exit→St→Prop}{y:Code}(m:Nat) (hs:List (Nat×Hn)) (h:vG Tryz.prog tr true false n ops.toList hs m 0 (ops.toList.drop 0) e h0 d0 [] []=some (st',k',pre',ob)) (hk:kS Tryz.prog n ops draw k' st' pre' (fun st'=>AWp ro Tryz.prog n kf y st' Q))
  (hc:iV ob:=by repeat (first | exact trivial | refine⟨by first | omega | assumption | exact⟨by kernel_rfl,by assumption⟩ | rfl | (simp only[Bm,List.length_nil];omega) | (simp;done) | (simp;omega),?_⟩)):AWp ro Tryz.prog n kf (.seq (.region id ops draw) y) ⟨e,h0,d0⟩ Q:=
 a8 (aE mixed (ak m hs h hk hc))
theorem sk {Q:Exit→St→Prop}{y:Code}(m:Nat) (h:vG Tryz.prog tr true false n ops.toList [] m 0 (ops.toList.drop 0) e h0 d0 [] []=some (st',k',pre',ob)) (hk:kS Tryz.prog n ops draw k' st' pre' (fun st'=>AWp ro Tryz.prog n kf y st' Q))
  (hc:iV ob:=by repeat (first | exact trivial | refine⟨by first | omega | assumption | exact⟨by kernel_rfl,by assumption⟩ | rfl | (simp only[Bm,List.length_nil];omega) | (simp;done) | (simp;omega),?_⟩)):AWp ro Tryz.prog n kf (.seq (.region id ops draw) y) ⟨e,h0,d0⟩ Q:=
 skh m [] h hk hc
theorem kz {Q:St→Prop}(m:Nat) (h:vG Tryz.prog tr true false n ops.toList [] m k (ops.toList.drop k) e h0 d0 pre []=some (st',k',pre',ob)) (q:Q st')
  (hc:iV ob:=by repeat (first | exact trivial | refine⟨by first | omega | assumption | exact⟨by kernel_rfl,by assumption⟩ | rfl | (simp only[Bm,List.length_nil];omega) | (simp;done) | (simp;omega),?_⟩)) (h1:Nat.beq k' ops.size=true:=by rfl) (h2:(!draw || (fH (oT ops) pre'.reverse []&&iI ops))=true:=by kernel_rfl):kS Tryz.prog n ops draw k ⟨e,h0,d0⟩ pre Q:=
 ak m [] h (z_ h1 h2 q) hc
end
set_option maxRecDepth 20000
abbrev Str:=List UInt8
def bD (s:Str):List C:=[.str s]
inductive Ty where
 | mk (form n:Int) (name:Str) (args:List Ty)
mutual
inductive Core where
 | mk (form n:Int) (name:Str) (ty:Ty) (kids:List Core) (binds:List Bind) (alts:List Alt)
inductive Bind where
 | mk (name:Str) (ty:Ty) (body:Core)
inductive Alt where
 | mk (form n:Int) (name:Str) (vars:List Str) (body:Core)
end
def Ty.form:Ty→Int | .mk f _ _ _=>f
def Ty.n:Ty→Int | .mk _ n _ _=>n
def Ty.name:Ty→Str | .mk _ _ s _=>s
def Ty.args:Ty→List Ty | .mk _ _ _ l=>l
def Core.form:Core→Int | .mk f _ _ _ _ _ _=>f
def Core.n:Core→Int | .mk _ n _ _ _ _ _=>n
def Core.name:Core→Str | .mk _ _ s _ _ _ _=>s
def Core.ty:Core→Ty | .mk _ _ _ t _ _ _=>t
def Core.kids:Core→List Core | .mk _ _ _ _ l _ _=>l
def Core.binds:Core→List Bind | .mk _ _ _ _ _ l _=>l
def Core.alts:Core→List Alt | .mk _ _ _ _ _ _ l=>l
def Bind.name:Bind→Str | .mk s _ _=>s
def Bind.ty:Bind→Ty | .mk _ t _=>t
def Bind.body:Bind→Core | .mk _ _ c=>c
def Alt.form:Alt→Int | .mk f _ _ _ _=>f
def Alt.n:Alt→Int | .mk _ n _ _ _=>n
def Alt.name:Alt→Str | .mk _ _ s _ _=>s
def Alt.vars:Alt→List Str | .mk _ _ _ l _=>l
def Alt.body:Alt→Core | .mk _ _ _ _ c=>c
mutual
def gD:Ty→List (List C)
 | .mk _ _ _ a=>eE a
def eE:List Ty→List (List C)
 | []=>[]
 | t::l=>[.int .i64 t.form,.int .i64 t.n,.str t.name,.sl 4 (gD t)]::eE l
end
def b8 (t:Ty):List C:=[.int .i64 t.form,.int .i64 t.n,.str t.name,.sl 4 (gD t)]
mutual
def pC:Core→List (List C)
 | .mk _ _ _ _ l _ _=>aM l
def nH:Core→List (List C)
 | .mk _ _ _ _ _ l _=>aS l
def iQ:Core→List (List C)
 | .mk _ _ _ _ _ _ l=>bS l
def aM:List Core→List (List C)
 | []=>[]
 | c::l=>[.int .i64 c.form,.int .i64 c.n,.str c.name,.int .i64 c.ty.form,.int .i64 c.ty.n,.str c.ty.name,.sl 4 (gD c.ty),.sl 10 (pC c),.sl 15 (nH c),.sl 14 (iQ c)]::aM l
def aUp:Bind→List C
 | .mk _ _ c=>[.int .i64 c.form,.int .i64 c.n,.str c.name,.int .i64 c.ty.form,.int .i64 c.ty.n,.str c.ty.name,.sl 4 (gD c.ty),.sl 10 (pC c),.sl 15 (nH c),.sl 14 (iQ c)]
def aS:List Bind→List (List C)
 | []=>[]
 | b::l=>([.str b.name,.int .i64 b.ty.form,.int .i64 b.ty.n,.str b.ty.name,.sl 4 (gD b.ty)]++aUp b)::aS l
def aUo:Alt→List C
 | .mk _ _ _ _ c=>[.int .i64 c.form,.int .i64 c.n,.str c.name,.int .i64 c.ty.form,.int .i64 c.ty.n,.str c.ty.name,.sl 4 (gD c.ty),.sl 10 (pC c),.sl 15 (nH c),.sl 14 (iQ c)]
def bS:List Alt→List (List C)
 | []=>[]
 | a::l=>([.int .i64 a.form,.int .i64 a.n,.str a.name,.sl 1 (a.vars.map bD)]++aUo a)::bS l
end
def aB (c:Core):List C:=[.int .i64 c.form,.int .i64 c.n,.str c.name,.int .i64 c.ty.form,.int .i64 c.ty.n,.str c.ty.name,.sl 4 (gD c.ty),.sl 10 (pC c),.sl 15 (nH c),.sl 14 (iQ c)]
def bB (b:Bind):List C:=[.str b.name,.int .i64 b.ty.form,.int .i64 b.ty.n,.str b.ty.name,.sl 4 (gD b.ty)]++aB b.body
def c7 (a:Alt):List C:=[.int .i64 a.form,.int .i64 a.n,.str a.name,.sl 1 (a.vars.map bD)]++aB a.body
theorem bM {α:Type}{l:List α}{k:Nat}{x:α}(f:α→List C) (h:l[k]?=some x):(l.map f)[k]?=some (f x):=by rw[Az,h];rfl
theorem aJ {α:Type}{l:List α}{k:Nat}(h:k<l.length):∃x,l[k]?=some x:=⟨l[k],by simp[h]⟩
theorem aR:∀l:List Core,aM l=l.map aB
 | []=>by simp[aM]
 | c::l=>by rw[aM,aR l];rfl
theorem bI:∀l:List Bind,aS l=l.map bB
 | []=>by simp[aS]
 | .mk s t c::l=>by rw[aS,bI l];rfl
theorem bQ:∀l:List Alt,bS l=l.map c7
 | []=>by simp[bS]
 | .mk f n s v c::l=>by rw[bS,bQ l];rfl
theorem gY:∀l:List Ty,eE l=l.map b8
 | []=>by simp[eE]
 | c::l=>by rw[eE,gY l];rfl
theorem uX (c:Core):pC c=c.kids.map aB:=by cases c;rw[pC,aR];rfl
theorem aCy (c:Core):iQ c=c.alts.map c7:=by cases c;rw[iQ,bQ];rfl
def few (c:Core):Bool:=if c.form=4∨c.form=10 then decide ((c.kids.length:Int)<2) else decide (c.form=5∨c.form=6∨c.form=7∨c.form=8∨c.form=9)&&decide ((c.kids.length:Int)<1)
theorem aY6 (c:Core):aU Tryz.prog 81 [.pa (aB c)] [] (B (few c)) []:=by
 refine bO (n:=46) tok Tryz.func81 rfl rfl rfl ?_;refine sg rfl (sg rfl (a8 (a8 (agF 4 [] rfl rfl rfl (aA rfl (fun hb=>?_) (fun hb=>?_))))))
 ·refine sg rfl (aI ?_);have:c.form=4∨c.form=10:=by simpa using hb
  exact⟨.inr rfl,⟨_,_,.tmp rfl .nil,.cons .refl .nil,by simp[aN1,few,this,uX]⟩,trivial,rfl⟩
 ·refine aD ?_;have h1:¬(c.form=4∨c.form=10):=by simpa using hb
  exact a8 (agF 4 [] rfl rfl rfl (a8 (agF 2 [] rfl rfl rfl (aI ⟨.inr rfl,⟨_,_,.tmp rfl .nil,.cons .refl .nil,by simp[aN1,few,h1,uX]⟩,trivial,rfl⟩))))
def Fits {α:Type}(l:List α):Prop:=l.length≤1152921504606846976
theorem kH (l:List Str) (s:Str) (hl:Fits l):aU Tryz.prog 63 [.one (.c (.sl 1 (l.map bD))),Go.AM.T s] [] (B (decide (s∈l))) []:=by
 unfold Fits at hl;refine bO (n:=18) tok Tryz.func63 rfl rfl rfl ?_;refine sg rfl (a8 (sg rfl (aC (aL (fun k:Nat=>mk [(0,.one (.c (.sl 1 (l.map bD)))),(1,Go.AM.T s),(5,I .i64 k)] []) (fun k=>k≤l.length∧s∉l.take k) (fun k=>l.length-k) 0 ⟨Aj _,by simp⟩ (.list (fun i=>i) ⟨rfl,rfl,rfl,trivial⟩ trivial rfl) ?_))));intro k ⟨hk,hm⟩;refine a8 (sg rfl (aA rfl (fun hb=>?_) (fun hb=>?_)))
 ·refine aD ?_;have J:k<l.length:=by simpa using hb
  obtain⟨x,hx⟩:=aJ J;have W:=bM bD hx;refine a8 (aC (sgh [(2,.row k (bD x))] rfl (aA rfl (fun hb=>?_) (fun hb=>?_))))
  ·refine sg rfl (aI ?_);have q:x=s:=by simpa using hb
   have:s∈l:=by rw[←q];exact η hx
   exact⟨.inr rfl,⟨_,_,.tmp rfl .nil,.cons .refl .nil,by simp[aN1,this]⟩,trivial,rfl⟩
  ·refine aD (ag [] rfl ⟨k+1,⟨J,?_⟩,by dsimp only;omega,.list (fun i=>i) ⟨rfl,rfl,rfl,trivial⟩ trivial rfl⟩);rw[Bh,hx];have q:¬x=s:=by simpa using hb
   have N:¬s=x:=fun e=>q e.symm
   simp[hm,N]
 ·refine aO ?_;have O:k=l.length:=by
   have:¬k<l.length:=by simpa using hb
   omega
  refine sg rfl (aI ?_);rw[O,An] at hm;exact⟨.inr rfl,⟨_,_,.tmp rfl .nil,.cons .refl .nil,by simp[aN1,hm]⟩,trivial,rfl⟩
def pW (n k:Int):Int:=(if n<0 then -(n+1) else n)%k
def i64 (n:Int):Prop:= -9223372036854775808≤n∧n≤9223372036854775807
theorem aA8 (n:Int) {k:Int}(hk:0<k):0≤pW n k∧pW n k<k:=⟨Int.emod_nonneg _ (by omega),Int.emod_lt_of_pos _ hk⟩
theorem aGf (n k:Int) (hn:i64 n) (hk:1≤k):aU Tryz.prog 16 [I .i64 n,I .i64 k] [] (I .i64 (pW n k)) []:=by
 unfold i64 at hn;refine bO (n:=13) tok Tryz.func16 rfl rfl rfl ?_;refine sg rfl (a8 (sg rfl (aA rfl (fun hb=>?_) (fun hb=>?_))))
 ·have h0:n<0:=by simpa using hb
  exact ag [] rfl (sg rfl (aI ⟨.inr rfl,⟨_,_,.tmp rfl .nil,.cons .refl .nil,by simp[aN1,pW,h0]⟩,trivial,rfl⟩))
 ·have h0:¬n<0:=by simpa using hb
  exact aD (sg rfl (aI ⟨.inr rfl,⟨_,_,.tmp rfl .nil,.cons .refl .nil,by simp[aN1,pW,h0]⟩,trivial,rfl⟩))
def aN4 (n:Int):List C:=[.int .i64 n]
def nmL:List Str:=[[120],[121],[97],[98],[122,64,49]]
def aO3:List Str:=[[97,100,100],[115,117,98],[109,117,108],[100,105,118],[101,113],[108,116]]
def a1o:List Str:=[[97],[98],[99],[120]]
def aN2 (a b:Ty):Ty:=.mk 4 0 [] [a,b]
def arrow:Str:=[45,62]
def jA (a b:Ty):Ty:=aN2 (aN2 (.mk 3 0 arrow []) a) b
theorem aVh (a b:Ty):aU Tryz.prog 57 [.pa (b8 a),.pa (b8 b)] [] (.pa (b8 (aN2 a b))) []:=by
 obtain⟨f,n,s,l⟩:=a;obtain⟨f',n',s',l'⟩:=b;refine bO (n:=9) tok Tryz.func57 rfl rfl rfl ?_;refine sg rfl (sg rfl (AWp.sub (Sub.freeze (id:=7) rfl) (aI ?_)));exact⟨.inr rfl,⟨_,_,.cell rfl (tg rfl) rfl rfl rfl .nil,.cons (.agg (.c .refl (.c .refl (.c .refl (.hs rfl rfl rfl .nil))))) .nil,rfl⟩,trivial,rfl⟩
theorem tS (a b:Ty):aU Tryz.prog 26 [.pa (b8 a),.pa (b8 b)] [] (.pa (b8 (jA a b))) []:=by
 obtain⟨f,n,s,l⟩:=a;obtain⟨f',n',s',l'⟩:=b;refine bO (n:=10) tok Tryz.func26 rfl rfl rfl ?_;refine sg rfl (sk 2 rfl (kc (aVh (.mk 3 0 arrow []) (.mk f n s l)) ?_));refine ak 1 [] rfl (kc (aVh (aN2 (.mk 3 0 arrow []) (.mk f n s l)) (.mk f' n' s' l')) ?_);exact kz 1 rfl (aI ⟨.inr rfl,⟨_,_,.cell rfl (tg rfl) rfl rfl rfl .nil,.cons .refl .nil,rfl⟩,trivial,rfl⟩)
def aS2 (l:List Int):Prop:=∀x∈l,i64 x
theorem aS2.suf {l l':List Int}(h:aS2 l) (hs:l'<:+l):aS2 l':=fun x hx=>h x (hs.subset hx)
theorem Fits.suf {l l':List Int}(h:Fits l) (hs:l'<:+l):Fits l':=by
 have:=hs.length_le;unfold Fits at *;omega
def aH4:Ty:=.mk 3 0 [73,110,116] []
def tyV (t:Ty):V:=.pa (b8 t)
def zTy:Ty:=.mk 0 0 [] []
theorem aY4 (l:List Int) (k:Nat) (hf:Fits l) (hk:k≤1000):aU Tryz.prog 22 [.one (.c (.sl 1 (l.map aN4))),I .i64 k] [] (.one (.c (.sl 1 ((l.take k).map aN4)))) []:=by
 unfold Fits at hf;refine bO (n:=14) tok Tryz.func22 rfl rfl rfl ?_;refine sg rfl (sg rfl (sk 6 rfl ?_));have hm:(if(k:Int)<(((l.map aN4).length:Nat):Int) then(k:Int) else(((l.map aN4).length:Nat):Int))=((min l.length k:Nat):Int):=by
  rw[θ];split<;>omega
 rw[hm];have ht:(l.map aN4).take (min l.length k)=(l.take k).map aN4:=by
  rw[←map_take];congr 1;by_cases h:k≤l.length
  ·rw[Nat.min_eq_right h]
  ·rw[B5 (by omega),Bb (le_refl _),Bb (by omega)]
 have hl:((l.map aN4).take (min l.length k)).length≤1000:=by rw[Au];omega
 refine akN 3 [] rfl (az (AWp.sub (Sub.freeze (id:=13) rfl) (aI ?_))) (hc:=⟨by omega,by rw[θ];omega,by omega,trivial⟩);rw[←ht];exact⟨.inr rfl,⟨_,_,.tmp rfl .nil,.cons (.one (.hs rfl rfl (by rw[Ce,An]) .nil)) .nil,rfl⟩,trivial,rfl⟩
def aV8:Core:=.mk 0 0 [] zTy [] [] []
mutual
def b7:Core→Nat
 | .mk _ _ s _ ks bs al=>1+s.length+bR ks+eT bs+eU al
def bR:List Core→Nat
 | []=>0
 | c::l=>b7 c+bR l
def bsize:Bind→Nat
 | .mk s _ c=>1+s.length+b7 c
def eT:List Bind→Nat
 | []=>0
 | b::l=>bsize b+eT l
def nK:Alt→Nat
 | .mk _ _ s vs c=>1+s.length+(vs.map (fun v=>1+v.length)).sum+b7 c
def eU:List Alt→Nat
 | []=>0
 | a::l=>nK a+eU l
end
theorem c9 (c:Core):1≤b7 c:=by cases c;rw[b7];omega
theorem gZ:∀l:List Core,l.length≤bR l
 | []=>Aj _
 | c::l=>by rw[bR,Ag];have:=gZ l;have:=c9 c;omega
theorem mR:∀{l:List Core}{c:Core},c∈l→b7 c≤bR l
 | d::l,c,h=>by
  rw[bR];rcases Ao.1 h with rfl | h
  ·omega
  ·have:=mR h;omega
theorem fC:∀l:List Bind,l.length≤eT l
 | []=>Aj _
 | .mk s t c::l=>by rw[eT,bsize,Ag];have:=fC l;omega
theorem vD:∀{l:List Bind}{c:Bind},c∈l→bsize c≤eT l
 | d::l,c,h=>by
  rw[eT];rcases Ao.1 h with rfl | h
  ·omega
  ·have:=vD h;omega
theorem hY:∀l:List Alt,l.length≤eU l
 | []=>Aj _
 | .mk f n s vs c::l=>by rw[eU,nK,Ag];have:=hY l;omega
theorem fU:∀{l:List Alt}{c:Alt},c∈l→nK c≤eU l
 | d::l,c,h=>by
  rw[eU];rcases Ao.1 h with rfl | h
  ·omega
  ·have:=fU h;omega
theorem bT {l:List Bind}{k:Nat}{x:Bind}(h:l[k]?=some x):(aS l)[k]?=some (bB x):=by rw[bI];exact bM bB h
theorem dG {l:List Core}{k:Nat}{x:Core}(h:l[k]?=some x):(aM l)[k]?=some (aB x):=by rw[aR];exact bM aB h
theorem iU {l:List Alt}{k:Nat}{x:Alt}(h:l[k]?=some x):(bS l)[k]?=some (c7 x):=by rw[bQ];exact bM c7 h
theorem dY {α:Type}{l:List α}{k:Nat}{x:α}(h:l[k]?=some x):l.take (k+1)=l.take k++[x]:=by rw[Bh,h];rfl
def bL:List R:=[.c (.int .i64 0),.c (.int .i64 0),.c (.str []),.c (.int .i64 0),.c (.int .i64 0),.c (.str []),.c .nl,.c .nl,.c .nl,.c .nl]
def bA (c:Core):List R:=(aB c).map R.c
theorem eQ {f n:Int}{s:Str}{t:Ty}{ks:List Core}{bs:List Bind}{al:List Alt}:(∀x∈ks,b7 x<b7 (.mk f n s t ks bs al))∧(∀x∈bs,b7 x.body<b7 (.mk f n s t ks bs al))∧(∀x∈al,b7 x.body<b7 (.mk f n s t ks bs al))∧
  ks.length<b7 (.mk f n s t ks bs al)∧bs.length<b7 (.mk f n s t ks bs al)∧al.length<b7 (.mk f n s t ks bs al):=by
 rw[b7];have q:=gZ ks;have I:=fC bs;have J:=hY al;refine⟨fun x hx=>?_,fun x hx=>?_,fun x hx=>?_,by omega,by omega,by omega⟩
 ·have:=mR hx;omega
 ·have:=vD hx;obtain⟨s',t',c'⟩:=x;rw[bsize] at this;show b7 c'<_;omega
 ·have:=fU hx;obtain⟨f',n',s',v',c'⟩:=x;rw[nK] at this;show b7 c'<_;omega
theorem eC {α β:Type}(f:α→β) {l:List α}{i:Nat}{x:α}(h:l[i]?=some x):(l.take i).map f++[f x]=(l.take (i+1)).map f:=by rw[dY h,Ar];rfl
end Go.Proofs.YtockgoadliilhaaGreatDoor
namespace Go.AM
open Go Go.Proofs Go.Shelf
theorem aGl {ro:Option Nat}{P:Program}{n:Nat}{kf:List Nat}{c:Code}{st:St}{Q:Exit→St→Prop}(t:Nat) {es:Nat}{l:List (List C)}(h:st.e t=some (.one (.c (.sl es l)))) (h1:l=[]→AWp ro P n kf c ⟨upd st.e t (some (.one (.c .nl))),st.h,st.d⟩ Q)
  (h2:AWp ro P n kf c ⟨upd st.e t (some (.one (.c (.sn es l)))),st.h,st.d⟩ Q):AWp ro P n kf c st Q:=by
 intro G S μ a w Q' hg hs J;have hv:=hs.env t _ h
 have key:∀x:V,b6 S μ st.h x (a.tmps.getD t undef)→Sim G n S μ ⟨upd st.e t (some x),st.h,st.d⟩ a w:=fun x hx=>⟨hs.inv,hs.size,hs.defers,fun s u e=>by
  by_cases q:s=t
  ·subst q;have:some x=some u:=by rw[←e];exact(aK _ _ _).symm
   cases this;exact hx
  ·exact hs.env s u (by rw[←e];exact(bE _ _ _ q).symm)⟩
 simp only[b6,bF,Rep] at hv;obtain⟨I,len,cap,N,Y,Z,e4,e5,e6,b,o,e7,e8⟩:=hv;cases I with
 | none=>
  obtain⟨e9,O⟩:=e5 rfl;have hl:l=[]:=A4 (by omega);exact h1 hl G S μ a w Q' hg (key _ (by simp only[b6,bF,Rep];rw[N,e9,O])) J
 | some I=>
  obtain⟨b',o',sp⟩:=I;have h6:=e6 _ rfl;obtain⟨h7,W⟩:=e7 _ rfl;dsimp only at h6 h7 W;subst h7 W;exact h2 G S μ a w Q' hg (key _ (by simp only[b6,bF,Rep];exact⟨b',o',sp,len,cap,N,Y,Z,e4,h6,e8⟩)) J
end Go.AM
