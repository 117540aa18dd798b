/-
  Texts Am24 to Am29 in one.
-/
import Derived.Test.YtockgoadliilhaaGreatDoorM4
import Derived.KernelRfl
import Derived.Test.YtockgoadliilhaaGreatDoorProg
import Derived.Shelf.Spec.SlicesGrow
open List (cons_append drop_zero eq_nil_of_length_eq_zero length_cons length_map length_nil length_take map_append map_cons mem_cons mem_map nil_append take_add_one take_length take_of_length_le)
open Nat (beq_refl eq_of_beq_eq_true le_refl min_eq_left zero_le)
namespace Go.AM
open Go
section
variable {P:Program}{n:Nat}{o:Oper}{st:St}{ob:List Prop}{tr:Tr}{md nat:Bool}
def arith (md nat:Bool) (op:BinOp) (a b:Int) (ob:List Prop):Option (Int×List Prop):=match op with
 | .add=>bif nat then(match a,b with | .ofNat x,.ofNat y=>(iI md (x+y≤9223372036854775807) ob).bind fun ob1=>some (((x+y:Nat):Int),ob1) | _,_=>none)
  else(iI md (-9223372036854775808≤a+b∧a+b≤9223372036854775807) ob).bind fun ob1=>some (a+b,ob1)
 | .sub=>bif nat then(match a,b with | .ofNat x,.ofNat y=>(iI md (y≤x∧x≤9223372036854775807) ob).bind fun ob1=>some (((x-y:Nat):Int),ob1) | _,_=>none)
  else(iI md (-9223372036854775808≤a-b∧a-b≤9223372036854775807) ob).bind fun ob1=>some (a-b,ob1)
 | .mul=>bif nat then(match a,b with | .ofNat x,.ofNat y=>(iI md (x*y≤9223372036854775807) ob).bind fun ob1=>some (((x*y:Nat):Int),ob1) | _,_=>none)
  else(iI md (-9223372036854775808≤a*b∧a*b≤9223372036854775807) ob).bind fun ob1=>some (a*b,ob1)
 | .quo=>bif nat then(match a,b with | .ofNat x,.ofNat y=>(iI md (x≤9223372036854775807∧1≤y) ob).bind fun ob1=>some (((x/y:Nat):Int),ob1) | _,_=>none)
  else(iI md (0≤a∧a≤9223372036854775807∧1≤b) ob).bind fun ob1=>some (a/b,ob1)
 | .rem=>bif nat then(match a,b with | .ofNat x,.ofNat y=>(iI md (1≤y) ob).bind fun ob1=>some (((x%y:Nat):Int),ob1) | _,_=>none)
  else(iI md (0≤a∧1≤b) ob).bind fun ob1=>some (a%b,ob1)
 | _=>none
theorem sQ {α:Type}{I:List Prop}{x:Option (List Prop)}{r r':α}(h:(x.bind fun J=>some (r,J))=some (r',I)):x=some I∧r'=r:=by
 rw[Ag] at h;obtain⟨J,h1,h2⟩:=h;cases h2;exact⟨h1,rfl⟩
theorem aPu {op:BinOp}{W ty:TypeId}{x y:Operand}{d:Nat}{a b r:Int}{O:List Prop}(N:o.op=.binOp op W x y ty) (hd:o.dst=some d) (J:d<n) (hx:opv st x=some (I .i64 a)) (hy:opv st y=some (I .i64 b)) (h:arith md nat op a b ob=some (r,O)):
  iC O→iC ob∧Step P n o st ⟨opr x++opr y,[]⟩ ⟨some (d,some (I .i64 r)),[]⟩:=by
 intro hc;unfold arith at h;cases nat<;>cases op<;>simp only[Bm,Bn] at h<;>try (cases h;done)
 ·obtain⟨h1,rfl⟩:=sQ h;obtain⟨g,k⟩:=b6 h1 hc;exact⟨g,aWe N hd J hx hy k⟩
 ·obtain⟨h1,rfl⟩:=sQ h;obtain⟨g,k⟩:=b6 h1 hc;exact⟨g,aVv N hd J hx hy k⟩
 ·obtain⟨h1,rfl⟩:=sQ h;obtain⟨g,k⟩:=b6 h1 hc;exact⟨g,aV8 N hd J hx hy k⟩
 ·obtain⟨h1,rfl⟩:=sQ h;obtain⟨g,k⟩:=b6 h1 hc;exact⟨g,aQm N hd J hx hy k⟩
 ·obtain⟨h1,rfl⟩:=sQ h;obtain⟨g,k⟩:=b6 h1 hc;exact⟨g,aQl N hd J hx hy k⟩
 all_goals cases a<;>cases b<;>simp only at h<;>try (cases h;done)
 ·obtain⟨h1,rfl⟩:=sQ h;obtain⟨g,k⟩:=b6 h1 hc;exact⟨g,aWd N hd J hx hy k⟩
 ·obtain⟨h1,rfl⟩:=sQ h;obtain⟨g,k⟩:=b6 h1 hc;exact⟨g,aVu N hd J hx hy k⟩
 ·obtain⟨h1,rfl⟩:=sQ h;obtain⟨g,k⟩:=b6 h1 hc;exact⟨g,aV7 N hd J hx hy k⟩
 ·obtain⟨h1,rfl⟩:=sQ h;obtain⟨g,k⟩:=b6 h1 hc;exact⟨g,aV3 N hd J hx hy k⟩
 ·obtain⟨h1,rfl⟩:=sQ h;obtain⟨g,k⟩:=b6 h1 hc;exact⟨g,aV1 N hd J hx hy k⟩
def aZn (op:BinOp) (a b:Int):Option Bool:=match op with
 | .lss=>some (decide (a<b))
 | .leq=>some (decide (a≤b))
 | .gtr=>some (decide (b<a))
 | .geq=>some (decide (b≤a))
 | .eql=>some (decide (a=b))
 | .neq=>some (!decide (a=b))
 | _=>none
theorem aTu {op:BinOp}{O ty:TypeId}{x y:Operand}{d:Nat}{k:IntKind}{a b:Int}{r:Bool}(N:o.op=.binOp op O x y ty) (hd:o.dst=some d) (J:d<n) (hx:opv st x=some (I k a)) (hy:opv st y=some (I k b)) (h:aZn op a b=some r):
  Step P n o st ⟨opr x++opr y,[]⟩ ⟨some (d,some (B r)),[]⟩:=by
 unfold aZn at h;cases op<;>simp only at h<;>try (cases h;done)
 ·cases h;exact aY9 N hd J hx hy
 ·cases h;exact aY1 N hd J hx hy
 ·cases h;exact aY5 N hd J hx hy
 ·cases h;exact aY6 N hd J hx hy
 ·cases h;exact aY7 N hd J hx hy
 ·cases h;exact aY8 N hd J hx hy
def aR7 (op:BinOp) (k:IntKind) (a b:Int):Option Int:=match op with
 | .add=>some (k.wrap (a+b))
 | .sub=>some (k.wrap (a-b))
 | .mul=>some (k.wrap (a*b))
 | _=>none
theorem aNb {op:BinOp}{O ty:TypeId}{x y:Operand}{d:Nat}{k:IntKind}{a b r:Int}(N:o.op=.binOp op O x y ty) (hd:o.dst=some d) (J:d<n) (hx:opv st x=some (I k a)) (hy:opv st y=some (I k b)) (h:aR7 op k a b=some r):
  Step P n o st ⟨opr x++opr y,[]⟩ ⟨some (d,some (I k r)),[]⟩:=by
 unfold aR7 at h;cases op<;>simp only at h<;>try (cases h;done)
 ·cases h;exact aN9 N hd J hx hy rfl
 ·cases h;exact aNy N hd J hx hy rfl
 ·cases h;exact aN3 N hd J hx hy rfl
def aTd:IntKind→Bool
 | .i64=>true
 | _=>false
def aX7 (tr:Tr) (md nat:Bool) (o:Oper) (n:Nat) (st:St) (ob:List Prop) (op:BinOp) (tx:TypeId) (x y:Operand):Ans:=(opO st x).bind fun v=>(opO st y).bind fun u=>match v,u with
 | .one (.c (.int k a)),.one (.c (.int k' b))=>bif decide (k=k') then(match aZn op a b with
   | some r=>val o n ⟨opr x++opr y,[]⟩ (.one (.c (.bool r))) [] ob
   | none=>bif aTd k then(arith md nat op a b ob).bind fun(r,ob1)=>val o n ⟨opr x++opr y,[]⟩ (.one (.c (.int .i64 r))) [] ob1
    else(aR7 op k a b).bind fun r=>val o n ⟨opr x++opr y,[]⟩ (.one (.c (.int k r))) [] ob) else none
 | .one (.c (.str a)),.one (.c (.str b))=>match op with
  | .eql=>val o n ⟨opr x++opr y,[]⟩ (.one (.c (.bool (decide (a=b))))) [] ob
  | .neq=>val o n ⟨opr x++opr y,[]⟩ (.one (.c (.bool (!decide (a=b))))) [] ob
  | .lss=>val o n ⟨opr x++opr y,[]⟩ (.one (.c (.bool (Op.bytesLess a b)))) [] ob
  | .add=>(iI md (a.length+b.length≤maxLen) ob).bind fun ob1=>val o n ⟨opr x++opr y,[]⟩ (.one (.c (.str (a++b)))) [] ob1
  | _=>none
 | .one (.c (.bool a)),.one (.c (.bool b))=>(tr.get tx).bind fun i=>match i.k with
  | .bool=>match op with
   | .eql=>val o n ⟨opr x++opr y,[]⟩ (.one (.c (.bool (a==b)))) [] ob
   | .neq=>val o n ⟨opr x++opr y,[]⟩ (.one (.c (.bool (!(a==b))))) [] ob
   | _=>none
  | _=>none
 | v,.one (.c .np)=>(tr.get tx).bind fun i=>match i.k with
  | .pt _=>(yJ v).bind fun b=>match op with
   | .eql=>val o n ⟨opr x++opr y,[]⟩ (.one (.c (.bool b))) [] ob
   | .neq=>val o n ⟨opr x++opr y,[]⟩ (.one (.c (.bool (!b)))) [] ob
   | _=>none
  | _=>none
 | v,.one (.c .nl)=>(tr.get tx).bind fun i=>match i.k with
  | .sl _=>(aNr v).bind fun b=>match op with
   | .eql=>val o n ⟨opr x++opr y,[]⟩ (.one (.c (.bool b))) [] ob
   | _=>none
  | _=>none
 | _,_=>none
theorem aPt {op:BinOp}{W ty:TypeId}{x y:Operand}(hw:tr.wf=true) (N:Tok P tr.flat) (J:o.op=.binOp op W x y ty):Snd P n o st ob (aX7 tr md nat o n st ob op W x y):=by
 refine Snd.bind fun v hv=>Snd.bind fun u hu=>?_
 rw[cQ] at hv hu;split
 ·rename_i k a k' b;refine Snd.cond fun hk=>?_
  have Y:=φ hk;subst Y;split
  ·rename_i r O;exact Snd.val fun _ hd I hc=>⟨hc,aTu J hd I hv hu O⟩
  ·cases hi:aTd k with
   | true=>
    simp only[Bm];cases k<;>simp only[aTd] at hi<;>try (cases hi;done)
    refine Snd.bind fun p hp=>?_
    obtain⟨r,Z⟩:=p;exact Snd.val fun _ hd I hc=>aPu J hd I hv hu hp hc
   | false=>
    simp only[Bn];exact Snd.bind fun r O=>Snd.val fun _ hd I hc=>⟨hc,aNb J hd I hv hu O⟩
 ·split
  ·exact Snd.val fun _ hd I hc=>⟨hc,aVy J hd I hv hu⟩
  ·exact Snd.val fun _ hd I hc=>⟨hc,aVw J hd I hv hu⟩
  ·exact Snd.val fun _ hd I hc=>⟨hc,aVx J hd I hv hu⟩
  ·exact Snd.bind fun Z h1=>Snd.val fun _ hd I hc=>⟨(b6 h1 hc).1,aV0 J hd I hv hu (b6 h1 hc).2⟩
  ·exact Snd.none
 ·refine Snd.bind fun i hi=>?_
  replace hi:=Tr.get_ok hw hi
  split
  ·rename_i hk;split
   ·exact Snd.val fun _ hd I hc=>⟨hc,aWc N J hd I hi hk hv hu⟩
   ·exact Snd.val fun _ hd I hc=>⟨hc,aWb N J hd I hi hk hv hu⟩
   ·exact Snd.none
  ·exact Snd.none
 ·refine Snd.bind fun i hi=>?_
  replace hi:=Tr.get_ok hw hi
  split
  ·rename_i hk;refine Snd.bind fun b hb=>?_
   split
   ·exact Snd.val fun _ hd I hc=>⟨hc,aV6 N J hd I hi hk hv hb hu⟩
   ·exact Snd.val fun _ hd I hc=>⟨hc,aV5 N J hd I hi hk hv hb hu⟩
   ·exact Snd.none
  ·exact Snd.none
 ·refine Snd.bind fun i hi=>?_
  replace hi:=Tr.get_ok hw hi
  split
  ·rename_i hk;refine Snd.bind fun b hb=>?_
   split
   ·exact Snd.val fun _ hd I hc=>⟨hc,aSn N J hd I hi hk hv hb hu⟩
   ·exact Snd.none
  ·exact Snd.none
 ·exact Snd.none
def a0g (md:Bool) (o:Oper) (n:Nat) (st:St) (ob:List Prop) (op:UnOp) (x:Operand):Ans:=(opO st x).bind fun v=>match v with
 | .one (.c (.bool b))=>match op with
  | .not=>val o n ⟨opr x,[]⟩ (.one (.c (.bool (!b)))) [] ob
  | _=>none
 | .one (.c (.int .i64 a))=>match op with
  | .neg=>(iI md (-9223372036854775808≤0-a∧0-a≤9223372036854775807) ob).bind fun ob1=>val o n ⟨opr x,[]⟩ (.one (.c (.int .i64 (0-a)))) [] ob1
  | _=>none
 | _=>none
theorem aUa {op:UnOp}{t:TypeId}{x:Operand}(J:o.op=.unOp op t x):Snd P n o st ob (a0g md o n st ob op x):=by
 refine Snd.bind fun v hv=>?_
 rw[cQ] at hv;split
 ·split
  ·exact Snd.val fun _ hd I hc=>⟨hc,aY0 J hd I hv⟩
  ·exact Snd.none
 ·split
  ·exact Snd.bind fun N h1=>Snd.val fun _ hd I hc=>⟨(b6 h1 hc).1,aY2 J hd I hv (B9 _ (b6 h1 hc).2)⟩
  ·exact Snd.none
 ·exact Snd.none
def aX5 (tr:Tr) (md:Bool) (o:Oper) (n:Nat) (st:St) (ob:List Prop) (x:Operand) (t:TypeId):Ans:=(tr.get t).bind fun i=>(opO st x).bind fun v=>match i.k with
 | .sl _=>match v with
  | .one (.c (.sl _ l))=>val o n ⟨opr x,[]⟩ (.one (.c (.int .i64 ((l.length:Nat):Int)))) [] ob
  | .one (.c .nl)=>val o n ⟨opr x,[]⟩ (.one (.c (.int .i64 0))) [] ob
  | .one (.ras n' _ _)=>val o n ⟨opr x,[]⟩ (.one (.c (.int .i64 ((n':Nat):Int)))) [] ob
  | .one (.hs id _ len sz)=>match st.h id with
   | some (.arr _ _ elems _)=>(iI md (sz=elems.length) ob).bind fun ob1=>val o n ⟨opr x,[id]⟩ (.one (.c (.int .i64 ((len:Nat):Int)))) [] ob1
   | _=>none
  | .one (.ra id _ len sz)=>match st.h id with
   | some (.rarr _ _ elems)=>(iI md (sz=elems.length) ob).bind fun ob1=>val o n ⟨opr x,[id]⟩ (.one (.c (.int .i64 ((len:Nat):Int)))) [] ob1
   | _=>none
  | _=>none
 | .str=>match v with
  | .one (.c (.str s))=>val o n ⟨opr x,[]⟩ (.one (.c (.int .i64 ((s.length:Nat):Int)))) [] ob
  | _=>none
 | .mp _ _=>match v with
  | .one (.mr id)=>match st.h id with
   | some (.map _ ents)=>(iI md (jY ents) ob).bind fun ob1=>val o n ⟨opr x,[id]⟩ (.one (.c (.int .i64 ((ents.length:Nat):Int)))) [] ob1
   | _=>none
  | _=>none
 | _=>none
theorem aPp {x:Operand}{t:TypeId}(hw:tr.wf=true) (J:Tok P tr.flat) (N:o.op=.call { callee:=.builtin .len,args:= #[x],argTypes:= #[t] }):Snd P n o st ob (aX5 tr md o n st ob x t):=by
 refine Snd.bind fun i hi=>Snd.bind fun v hv=>?_
 replace hi:=Tr.get_ok hw hi
 rw[cQ] at hv;split
 ·rename_i hk;split
  ·exact Snd.val fun _ hd I hc=>⟨hc,aN4 J N hd I hi hk hv⟩
  ·exact Snd.val fun _ hd I hc=>⟨hc,aN6 J N hd I hi hk hv⟩
  ·exact Snd.val fun _ hd I hc=>⟨hc,aIu J N hd I hi hk hv⟩
  ·split
   ·rename_i hh;exact Snd.bind fun O h1=>Snd.val fun _ hd I hc=>⟨(b6 h1 hc).1,aDv J N hd I hi hk hv hh (b6 h1 hc).2⟩
   ·exact Snd.none
  ·split
   ·rename_i hh;exact Snd.bind fun O h1=>Snd.val fun _ hd I hc=>⟨(b6 h1 hc).1,aN5 J N hd I hi hk hv hh (b6 h1 hc).2⟩
   ·exact Snd.none
  ·exact Snd.none
 ·rename_i hk;split
  ·exact Snd.val fun _ hd I hc=>⟨hc,aIt J N hd I hi hk hv⟩
  ·exact Snd.none
 ·rename_i hk;split
  ·split
   ·rename_i hh;exact Snd.bind fun O h1=>Snd.val fun _ hd I hc=>⟨(b6 h1 hc).1,aIv J N hd I hi hk hv hh (b6 h1 hc).2⟩
   ·exact Snd.none
  ·exact Snd.none
 ·exact Snd.none
def aYf (md:Bool) (st:St) (es:Nat) (hn:Hn) (v:V) (ob:List Prop):Option (List Nat×List (List C)×List Prop):=match v with
 | .one (.hs id off len sz)=>match st.h id with
  | some (.arr _ es' elems _)=>bif Nat.beq es' es then(iI md (sz=elems.length) ob).bind fun ob1=>(match hn with
   | .all=>some ([id],elems,(off=0∧len=sz)::ob1)
   | .c rows=>some ([id],rows,(rows=(elems.drop off).take len)::ob1)
   | _=>bif Nat.beq off 0&&Nat.beq len sz then some ([id],elems,ob1) else some ([id],(elems.drop off).take len,ob1)) else none
  | _=>none
 | .one (.c (.sl es' l))=>bif Nat.beq es' es then some ([],l,ob) else none
 | .one (.c (.sn es' l))=>bif Nat.beq es' es then some ([],l,ob) else none
 | .one (.c .nl)=>some ([],[],ob)
 | _=>none
theorem vI {es:Nat}{hn:Hn}{v:V}{ids:List Nat}{rows:List (List C)}{J:List Prop}(h:aYf md st es hn v ob=some (ids,rows,J)):iC J→iC ob∧Src st es ids v rows:=by
 intro hc;unfold aYf at h;split at h
 ·rename_i id off len sz;split at h
  ·rename_i te Y elems fz hh;obtain⟨h1,I⟩:=eI h;clear h;have:=Ab h1;subst this;rw[Ag] at I;obtain⟨Z,h2,h⟩:=I;split at h
   ·cases h;obtain⟨⟨rfl,rfl⟩,hc⟩:=hc;obtain⟨g,k⟩:=b6 h2 hc;exact⟨g,.all hh k⟩
   ·cases h;obtain⟨N,hc⟩:=hc;obtain⟨g,k⟩:=b6 h2 hc;exact⟨g,.hs hh k N⟩
   ·cases hb:Nat.beq off 0&&Nat.beq len sz with
    | true=>
     rw[hb] at h;cases h;obtain⟨g,k⟩:=b6 h2 hc;simp only[Ah] at hb;have O:=Ab hb.1;have W:=Ab hb.2;subst O W;exact⟨g,.all hh k⟩
    | false=>
     rw[hb] at h;cases h;obtain⟨g,k⟩:=b6 h2 hc;exact⟨g,.hs hh k rfl⟩
  ·cases h
 ·obtain⟨h1,I⟩:=eI h;clear h;have:=Ab h1;subst this;cases I;exact⟨hc,.sl⟩
 ·obtain⟨h1,I⟩:=eI h;clear h;have:=Ab h1;subst this;cases I;exact⟨hc,.sn⟩
 ·cases h;exact⟨hc,.nl⟩
 ·cases h
def zS:List (List C)→Option (List Int)
 | []=>some []
 | [.int .u8 m]::rs=>(zS rs).bind fun l=>some (m::l)
 | _=>none
theorem zR:∀{rows:List (List C)}{ns:List Int},zS rows=some ns→rows=ns.map fun m=>[C.int .u8 m]
 | [],ns,h=>by simp[zS] at h;subst h;rfl
 | [.int .u8 m]::rs,ns,h=>by
  simp only[zS,Ag] at h;obtain⟨l,h1,h2⟩:=h;cases h2;rw[zR h1];rfl
def aRy (tr:Tr) (md:Bool) (o:Oper) (n:Nat) (st:St) (ob:List Prop) (hn:Hn) (src dst:TypeId) (x:Operand):Ans:=(tr.get src).bind fun i=>(tr.get dst).bind fun j=>(opO st x).bind fun v=>match j.k with
 | .int k'=>match i.k,v with
  | .int k,.one (.c (.int k2 m))=>bif decide (k2=k) then val o n ⟨opr x,[]⟩ (.one (.c (.int k' (k'.wrap m)))) [] ob else none
  | _,_=>none
 | .str=>match i.k with
  | .sl e=>(tr.get e).bind fun ei=>match ei.k with
   | .int .u8=>(aYf md st 1 hn v ob).bind fun(ids,rows,ob1)=>(zS rows).bind fun ns=>(frc (ns.map fun m=>UInt8.ofNat m.toNat)).bind fun bs=>val o n ⟨opr x,ids⟩ (.one (.c (.str bs))) [] ob1
   | _=>none
  | _=>none
 | _=>none
theorem aMa {hn:Hn}{src dst:TypeId}{x:Operand}(hw:tr.wf=true) (Y:Tok P tr.flat) (Z:o.op=.convert src dst x):Snd P n o st ob (aRy tr md o n st ob hn src dst x):=by
 refine Snd.bind fun i hi=>Snd.bind fun j hj=>Snd.bind fun v hv=>?_
 replace hi:=Tr.get_ok hw hi
 replace hj:=Tr.get_ok hw hj
 rw[cQ] at hv;split
 ·rename_i k' I;split
  ·rename_i k k2 m J;refine Snd.cond fun hk=>?_
   have:=φ hk;subst this;exact Snd.val fun _ hd N hc=>⟨hc,aSr Y Z hd N hi J hj I hv⟩
  ·exact Snd.none
 ·rename_i I;split
  ·rename_i e J;refine Snd.bind fun ei O=>?_
   replace O:=Tr.get_ok hw O
   split
   ·rename_i aa;refine Snd.bind fun p hp=>?_
    obtain⟨ids,rows,ac⟩:=p;refine Snd.bind fun ns ab=>Snd.bind fun bs W=>Snd.val fun _ hd N hc=>?_
    rw[jZ] at W;cases W;obtain⟨g1,g2⟩:=vI hp hc;exact⟨g1,aSs Y Z hd N hi J O aa hj I hv g2 (zR ab)⟩
   ·exact Snd.none
  ·exact Snd.none
 ·exact Snd.none
def a0c (md:Bool) (a b:List (List C)):Option (List (List C)):=bif md then some (a++b) else frc (a++b)
theorem aTv (md:Bool) (a b:List (List C)):a0c md a b=some (a++b):=by
 cases md
 ·exact jZ _
 ·rfl
def aFk (tr:Tr) (md:Bool) (o:Oper) (n:Nat) (st:St) (ob:List Prop) (hn:Hn) (id0:Nat) (x y:Operand) (t:TypeId):Ans:=(tr.get t).bind fun i=>match i.k with
 | .sl e=>(tr.get e).bind fun ei=>match ei with
  | ⟨_,s0,b0,_⟩=>bif Nat.ble 1 s0&&Nat.ble 1 b0 then(opO st x).bind fun v=>(opO st y).bind fun u=>(aYf md st s0 hn u ob).bind fun(ids,rows,ob1)=>(match v with
  | .one (.hs id off len sz)=>match st.h id with
   | some (.arr te es elems fz)=>bif Nat.beq te e&&Nat.beq es s0 then(iI md (sz=elems.length) ob1).bind fun ob2=>(iI md (off=0∧len=sz) ob2).bind fun ob3=>(iI md ((elems.length+rows.length)*b0≤140737488355328) ob3).bind fun ob4=>
     (a0c md elems rows).bind fun l=>match fz with
     | 0=>val o n ⟨opr x++opr y,id::ids⟩ (.one (.hs id 0 (elems.length+rows.length) (elems.length+rows.length))) [(id,some (.arr e s0 l 0))] ob4
     | _+1=>val o n ⟨opr x++opr y,id::ids⟩ (.one (.hs id 0 (elems.length+rows.length) (elems.length+rows.length))) [(id,some (.arr e s0 l 1))] ob4
    else none
   | _=>none
  | .one (.c .nl)=>match st.h id0 with
   | none=>(iI md (rows.length*b0≤140737488355328) ob1).bind fun ob2=>val o n ⟨opr x++opr y,id0::ids⟩ (.one (.hs id0 0 rows.length rows.length)) [(id0,some (.arr e s0 rows 0))] ob2
   | some _=>none
  | _=>none) else none
 | _=>none
theorem aCd {hn:Hn}{O:Nat}{x y:Operand}{t:TypeId}(hw:tr.wf=true) (W:Tok P tr.flat) (Y:o.op=.call { callee:=.builtin .append,args:= #[x,y],argTypes:= #[t,t] }):Snd P n o st ob (aFk tr md o n st ob hn O x y t):=by
 refine Snd.bind fun i hi=>?_
 replace hi:=Tr.get_ok hw hi
 split
 ·rename_i e hk;refine Snd.bind fun ei I=>?_
  obtain⟨k0,s0,b0,z0⟩:=ei;refine Snd.cond fun hb=>Snd.bind fun v hv=>Snd.bind fun u hu=>Snd.bind fun p hp=>?_
  replace I:=Tr.get_ok hw I
  obtain⟨ids,rows,ob1⟩:=p;simp only[Ah] at hb;rw[cQ] at hv hu;dsimp only;split
  ·rename_i id off len sz;split
   ·rename_i te es elems fz hh;refine Snd.cond fun N=>Snd.bind fun Z h2=>Snd.bind fun ob3 h3=>Snd.bind fun ob4 h4=>Snd.bind fun l hl=>?_
    simp only[Ah] at N;have e1:=Ab N.1;have e2:=Ab N.2;subst e1 e2;rw[aTv] at hl;cases hl;split
    ·refine Snd.val fun _ hd J hc=>?_
     obtain⟨g1,g2⟩:=b6 h4 hc;obtain⟨g3,g4,g5⟩:=b6 h3 g1;obtain⟨g6,g7⟩:=b6 h2 g3;obtain⟨g8,g9⟩:=vI hp g6;subst g4 g5;exact⟨g8,aDw W Y hd J hi hk I hb.1 hb.2 hv hh g7 hu g9 g2⟩
    ·refine Snd.val fun _ hd J hc=>?_
     obtain⟨g1,g2⟩:=b6 h4 hc;obtain⟨g3,g4,g5⟩:=b6 h3 g1;obtain⟨g6,g7⟩:=b6 h2 g3;obtain⟨g8,g9⟩:=vI hp g6;subst g4 g5;exact⟨g8,aDw W Y hd J hi hk I hb.1 hb.2 hv hh g7 hu g9 g2⟩
   ·exact Snd.none
  ·split
   ·rename_i hid;refine Snd.bind fun Z h2=>Snd.val fun _ hd J hc=>?_
    obtain⟨g1,g2⟩:=b6 h2 hc;obtain⟨g3,g4⟩:=vI hp g1;exact⟨g3,aIz O W Y hd J hi hk I hb.1 hb.2 hv hid hu g4 g2⟩
   ·exact Snd.none
  ·exact Snd.none
 ·exact Snd.none
def aAc (tr:Tr) (md:Bool) (o:Oper) (n:Nat) (st:St) (ob:List Prop) (id0:Nat) (x y:Operand) (t:TypeId):Ans:=(tr.get t).bind fun i=>match i.k with
 | .sl e=>(tr.get e).bind fun ei=>match ei with
  | ⟨_,s0,b0,_⟩=>bif Nat.ble 1 s0&&Nat.ble 1 b0 then(opO st x).bind fun v=>(opO st y).bind fun u=>match u with
  | .one (.ra id2 off2 len2 sz2)=>match st.h id2 with
   | some (.rarr _ es2 rows)=>bif Nat.beq es2 s0&&(Nat.beq off2 0&&(Nat.beq len2 rows.length&&(Nat.beq sz2 rows.length&&Nat.blt 0 rows.length))) then(match v with
    | .one (.ra id off len sz)=>match st.h id with
     | some (.rarr te es elems)=>bif Nat.beq te e&&Nat.beq es s0 then(iI md (sz=elems.length) ob).bind fun ob2=>(iI md (off=0∧len=sz) ob2).bind fun ob3=>(iI md ((elems.length+rows.length)*b0≤140737488355328) ob3).bind fun ob4=>
       val o n ⟨opr x++opr y,[id,id2]⟩ (.one (.ra id 0 (elems.length+rows.length) (elems.length+rows.length))) [(id,some (.rarr e s0 (elems++rows)))] ob4 else none
     | _=>none
    | .one (.c .nl)=>match st.h id0 with
     | none=>(iI md (rows.length*b0≤140737488355328) ob).bind fun ob2=>val o n ⟨opr x++opr y,[id0,id2]⟩ (.one (.ra id0 0 rows.length rows.length)) [(id0,some (.rarr e s0 rows))] ob2
     | some _=>none
    | _=>none) else none
   | _=>none
  | _=>none
  else none
 | _=>none
theorem aAb {W:Nat}{x y:Operand}{t:TypeId}(hw:tr.wf=true) (hT:Tok P tr.flat) (ho:o.op=.call { callee:=.builtin .append,args:= #[x,y],argTypes:= #[t,t] }):Snd P n o st ob (aAc tr md o n st ob W x y t):=by
 refine Snd.bind fun i hi=>?_
 replace hi:=Tr.get_ok hw hi
 split
 ·rename_i e hk;refine Snd.bind fun ei I=>?_
  obtain⟨k0,s0,b0,z0⟩:=ei;refine Snd.cond fun hb=>Snd.bind fun v hv=>Snd.bind fun u hu=>?_
  replace I:=Tr.get_ok hw I
  simp only[Ah] at hb;rw[cQ] at hv hu;split
  ·rename_i id2 off2 len2 sz2;split
   ·rename_i te2 es2 rows Y;refine Snd.cond fun Z=>?_
    simp only[Ah] at Z;obtain⟨c1,c2,c3,c4,O⟩:=Z;have c1:=Ab c1;have c2:=Ab c2;have c3:=Ab c3;have c4:=Ab c4;have O:=lI O;subst c1 c2 c3 c4;split
    ·rename_i id off len sz;split
     ·rename_i te es elems hh;refine Snd.cond fun J=>Snd.bind fun ob2 h2=>Snd.bind fun ob3 h3=>Snd.bind fun ob4 h4=>Snd.val fun _ hd N hc=>?_
      simp only[Ah] at J;have e1:=Ab J.1;have e2:=Ab J.2;subst e1;rw[e2] at hh;obtain⟨g1,g2⟩:=b6 h4 hc;obtain⟨g3,g4,g5⟩:=b6 h3 g1;obtain⟨g6,g7⟩:=b6 h2 g3;subst g4 g5;exact⟨g6,aIy hT ho hd N hi hk I hb.1 hb.2 hv hh g7 hu Y O g2⟩
     ·exact Snd.none
    ·split
     ·rename_i hid;refine Snd.bind fun ob2 h2=>Snd.val fun _ hd N hc=>?_
      obtain⟨g1,g2⟩:=b6 h2 hc;exact⟨g1,aF8 W hT ho hd N hi hk I hb.1 hb.2 hv hid hu Y O g2⟩
     ·exact Snd.none
    ·exact Snd.none
   ·exact Snd.none
  ·exact Snd.none
 ·exact Snd.none
def aZz (P:Program) (f:FuncId):Bool:=match P.funcs[f]? with
 | some fn => !(fn.name == "runtime.NumGoroutine") && fn.body.isSome
 | none=>false
theorem aM9 {P:Program}{f:FuncId}(h:aZz P f=true):pC P f:=by
 unfold aZz at h;split at h
 ·rename_i fn hf;simp only[Ah,Bool.not_eq_true'] at h;refine⟨fn,hf,h.1,?_⟩;cases hb:fn.body with
  | none=>rw[hb] at h;cases h.2
  | some _=>rfl
 ·cases h
def aP0 (P:Program) (f:FuncId) (args:List V) (res:V):Prop:=aZz P f=true∧aW P f args [] res []
def rA (st:St):List Nat→List R→List Prop→Option (List Nat×List C×List Prop)
 | _,[],ob=>some ([],[],ob)
 | ty,r::rs,ob=>match r with
  | .c x=>(aHa ty [x]).bind fun y=>match y with
   | [y]=>(rA st ty.tail rs ob).bind fun(ids,cs,ob1)=>some (ids,y::cs,ob1)
   | _=>none
  | .hs id 0 len sz=>match st.h id with
   | some (.arr _ es elems 2)=>(rA st ty.tail rs ob).bind fun(ids,cs,ob1)=>some (id::ids,.sl es elems::cs,(sz=elems.length∧len=elems.length)::ob1)
   | _=>none
  | _=>none
theorem nH {st:St}:∀{rs:List R}{ty:List Nat}{ob I:List Prop}{ids:List Nat}{cs:List C},rA st ty rs ob=some (ids,cs,I)→iC I→iC ob∧PureL st.h ids rs cs
 | [],ty,ob,I,ids,cs,h,hc=>by
  cases ty<;>(simp only[rA] at h;cases h;exact⟨hc,.nil⟩)
 | r::rs,ty,ob,I,ids,cs,h,hc=>by
  rw[rA.eq_def] at h;dsimp only at h;split at h
  ·rename_i x;rw[Ag] at h;obtain⟨y,hy,h⟩:=h;split at h
   ·rename_i y';rw[Ag] at h;obtain⟨⟨J,N,O⟩,h1,h2⟩:=h;cases h2;obtain⟨g1,g2⟩:=nH h1 hc;rw[rG] at hy;have hp:=lU (h:=st.h) ty [x];rw[Option.some.inj hy] at hp;cases hp with
    | c hx _=>exact⟨g1,.c hx g2⟩
    | any _=>exact⟨g1,.any g2⟩
   ·cases h
  ·rename_i id len sz;split at h
   ·rename_i te es elems hh;rw[Ag] at h;obtain⟨⟨J,N,O⟩,h1,h2⟩:=h;cases h2;obtain⟨g1,g2⟩:=nH h1 hc.2;exact⟨g1,.hs hh hc.1.1 (by rw[hc.1.2,Cd,Au]) g2⟩
   ·cases h
  ·cases h
def aTt (tr:Tr) (st:St) (v:V) (t:TypeId) (ob:List Prop):Option (List Nat×V×List Prop):=match v with
 | .one r=>(rA st (nT tr 300 [t]) [r] ob).bind fun(ids,cs,ob1)=>match cs with
  | [c]=>some (ids,.one (.c c),ob1)
  | _=>none
 | .pa l=>(aHa (nT tr 300 [t]) l).bind fun l'=>some ([],.pa l',ob)
 | .ma rs=>(rA st (nT tr 300 [t]) rs ob).bind fun(ids,cs,ob1)=>some (ids,.pa cs,ob1)
 | _=>none
theorem aO9 {tr:Tr}{st:St}{v v':V}{t:TypeId}{ob I:List Prop}{ids:List Nat}(h:aTt tr st v t ob=some (ids,v',I)) (hc:iC I):(iC ob∧Conv st.h ids v v')∧v'.refs=[]:=by
 unfold aTt at h;split at h
 ·rw[Ag] at h;obtain⟨⟨J,N,O⟩,h1,h2⟩:=h;dsimp only at h2;split at h2
  ·cases h2;obtain⟨g1,g2⟩:=nH h1 hc;exact⟨⟨g1,.one g2⟩,by simp[V.refs,R.refs]⟩
  ·cases h2
 ·rw[Ag] at h;obtain⟨l',h1,h2⟩:=h;cases h2;rw[rG] at h1;cases h1;exact⟨⟨hc,.pa (lU _ _)⟩,by simp[V.refs]⟩
 ·rw[Ag] at h;obtain⟨⟨J,N,O⟩,h1,h2⟩:=h;cases h2;obtain⟨g1,g2⟩:=nH h1 hc;exact⟨⟨g1,.agg g2⟩,by simp[V.refs]⟩
 ·cases h
def aG1 (tr:Tr) (st:St):List Operand→List TypeId→List Prop→Option (List Nat×List V×List Prop)
 | [],_,ob=>some ([],[],ob)
 | x::xs,t::ts,ob=>(opO st x).bind fun v=>(aTt tr st v t ob).bind fun(ids1,v',ob1)=>(aG1 tr st xs ts ob1).bind fun(ids2,vs,ob2)=>some (ids1++ids2,v'::vs,ob2)
 | _::_,[],_=>none
theorem aFm {tr:Tr}{st:St}:∀{xs:List Operand}{ts:List TypeId}{ob I:List Prop}{ids:List Nat}{l:List V},aG1 tr st xs ts ob=some (ids,l,I)→iC I→(iC ob∧ArgsV st ids xs l)∧V.refsL l=[]
 | [],ts,ob,I,ids,l,h,hc=>by
  cases ts<;>(simp only[aG1] at h;cases h;exact⟨⟨hc,.nil⟩,by simp[V.refsL]⟩)
 | x::xs,[],ob,I,ids,l,h,hc=>by simp[aG1] at h
 | x::xs,t::ts,ob,I,ids,l,h,hc=>by
  simp only[aG1,cQ,Ag] at h;obtain⟨v,hv,⟨J,v',Z⟩,h1,⟨N,vs,aa⟩,h2,h3⟩:=h;cases h3;obtain⟨⟨g1,g2⟩,g3⟩:=aFm h2 hc;obtain⟨⟨O,W⟩,Y⟩:=aO9 h1 g1;exact⟨⟨O,.cons hv W g2⟩,by simp[V.refsL,Y,g3]⟩
def aRu (P:Program) (tr:Tr) (o:Oper) (n:Nat) (st:St) (ob:List Prop) (res:V) (f:FuncId) (xs:Array Operand) (ts:Array TypeId):Ans:=(aG1 tr st xs.toList ts.toList ob).bind fun(ids,args,ob1)=>val o n ⟨dP xs.toList,ids⟩ res [] (aP0 P f args res::ob1)
theorem aL1 {res:V}{f:FuncId}{xs:Array Operand}{ts:Array TypeId}(J:o.op=.call { callee:=.value (.func f),args:=xs,argTypes:=ts }):Snd P n o st ob (aRu P tr o n st ob res f xs ts):=by
 refine Snd.bind fun p ha=>?_
 obtain⟨ids,args,N⟩:=p;refine Snd.val fun d hd I hc=>?_
 obtain⟨⟨g1,g2⟩,g3⟩:=aFm ha hc.2;refine⟨g1,?_⟩;have:=aIx [] [] (aM9 hc.1.1) J hd I hc.1.2 g2 trivial trivial (by simp[k9,g3,keys,dM,subset]);simpa [outs,keys] using this
def aMc (P:Program) (tr:Tr) (md:Bool) (o:Oper) (n:Nat) (st:St) (ob:List Prop) (hn:Hn) (id0:Nat) (c:Call):Ans:=match c.callee with
 | .builtin b=>match b,c.args.toList,c.argTypes.toList with
  | .len,[x],[t]=>aX5 tr md o n st ob x t
  | .append,[x,y],[t,t']=>bif Nat.beq t t' then(match opO st y with | some (.one (.ra _ _ _ _))=>aAc tr md o n st ob id0 x y t | _=>aFk tr md o n st ob hn id0 x y t) else none
  | .min,[x,y],[_,_]=>(opO st x).bind fun v=>(opO st y).bind fun u=>match v,u with
   | .one (.c (.int k a)),.one (.c (.int k' b))=>bif decide (k=k') then val o n ⟨opr x++opr y,[]⟩ (.one (.c (.int k (if b<a then b else a)))) [] ob else none
   | _,_=>none
  | .max,[x,y],[_,_]=>(opO st x).bind fun v=>(opO st y).bind fun u=>match v,u with
   | .one (.c (.int k a)),.one (.c (.int k' b))=>bif decide (k=k') then val o n ⟨opr x++opr y,[]⟩ (.one (.c (.int k (if b>a then b else a)))) [] ob else none
   | _,_=>none
  | _,_,_=>none
 | .value (.func f)=>match hn with
  | .pc res=>aRu P tr o n st ob res f c.args c.argTypes
  | _=>none
 | _=>none
theorem arr1 {α:Type}{a:Array α}{x:α}(h:a.toList=[x]):a= #[x]:=by cases a;simp at h;simp[h]
theorem aUy {α:Type}{a:Array α}{x y:α}(h:a.toList=[x,y]):a= #[x,y]:=by cases a;simp at h;simp[h]
theorem aMb {hn:Hn}{O:Nat}{c:Call}(hw:tr.wf=true) (N:Tok P tr.flat) (I:o.op=.call c):Snd P n o st ob (aMc P tr md o n st ob hn O c):=by
 obtain⟨W,args,Y⟩:=c;unfold aMc;dsimp only;split
 ·rename_i b;split
  ·rename_i x t h1 h2;have:=arr1 h1;have:=arr1 h2
   subst_vars
   exact aPp hw N I
  ·rename_i x y t t' h1 h2;have:=aUy h1;have:=aUy h2
   subst_vars
   refine Snd.cond fun ht=>?_
   have:=Ab ht;subst this;split
   ·exact aAb hw N I
   ·exact aCd hw N I
  ·rename_i x y t t' h1 h2;have:=aUy h1;have:=aUy h2
   subst_vars
   refine Snd.bind fun v hv=>Snd.bind fun u hu=>?_
   rw[cQ] at hv hu;split
   ·refine Snd.cond fun hk=>?_
    have:=φ hk;subst this;exact Snd.val fun _ hd J hc=>⟨hc,aY3 I hd J hv hu rfl⟩
   ·exact Snd.none
  ·rename_i x y t t' h1 h2;have:=aUy h1;have:=aUy h2
   subst_vars
   refine Snd.bind fun v hv=>Snd.bind fun u hu=>?_
   rw[cQ] at hv hu;split
   ·refine Snd.cond fun hk=>?_
    have:=φ hk;subst this;exact Snd.val fun _ hd J hc=>⟨hc,aY4 I hd J hv hu rfl⟩
   ·exact Snd.none
  ·exact Snd.none
 ·split
  ·exact aL1 I
  ·exact Snd.none
 ·exact Snd.none
def idO (hn:Hn) (d:Option Nat):Option Nat:=match hn with
 | .id n=>some n
 | _=>match d with
  | some d=>some d
  | none=>none
def aPm (P:Program) (tr:Tr) (md nat:Bool) (n:Nat) (st:St) (hn:Hn) (o:Oper) (ob:List Prop):Ans:=match o.op with
 | .move x=>aFj o n st ob x
 | .assign x=>aFj o n st ob x
 | .pick c x y=>aRv o n st ob hn c x y
 | .alloc t=>(idO hn o.dst).bind fun id=>aMe tr o n st ob id t
 | .box t x=>(idO hn o.dst).bind fun id=>aX6 o n st ob id t x
 | .build t ps=>aMd tr o n st ob t ps
 | .buildSlice t len ps=>(idO hn o.dst).bind fun id=>aL0 tr o n st ob hn id t len ps
 | .load t x=>aRw tr md o n st ob hn t x
 | .store t x y=>aLz tr md o st ob hn t x y
 | .nilCheck x=>aX4 md o n st ob x
 | .slice t x l h m=>aUd tr md o n st ob t x l h m
 | .index t x y=>aL6 tr o n st ob hn t x y
 | .convert src dst x=>aRy tr md o n st ob hn src dst x
 | .binOp op tx x y _=>aX7 tr md nat o n st ob op tx x y
 | .unOp op _ x=>a0g md o n st ob op x
 | .makeFunc f a b=>aL8 o n st ob f a b
 | .makeMap t r=>(idO hn o.dst).bind fun id=>aUb tr o n st ob id t r
 | .fieldAddr t x f=>s9 tr md o n st ob t x f
 | .field t x f=>aL9 tr o n st ob t x f
 | .indexAddr t x y=>s8 tr md o n st ob hn t x y
 | .lookup t x y ok=>xI tr md o n st ob hn t x y ok
 | .mapUpdate t x y z=>jS tr md o st ob t x y z
 | .insert t x y z=>jS tr md o st ob t x y z
 | .extract x i=>aAa o n st ob x i
 | .call c=>(idO hn o.dst).bind fun id=>aMc P tr md o n st ob hn id c
 | _=>none
theorem aFi {hn:Hn}(hw:tr.wf=true) (J:Tok P tr.flat):Snd P n o st ob (aPm P tr md nat n st hn o ob):=by
 unfold aPm;split
 ·rename_i I;exact aL4 I
 ·rename_i I;exact aCc I
 ·rename_i I;exact aL2 I
 ·rename_i I;exact Snd.bind fun _ _=>aG0 hw J I
 ·rename_i I;exact Snd.bind fun _ _=>aPs I
 ·rename_i I;exact aGz hw J I
 ·rename_i I;exact Snd.bind fun _ _=>aGv hw J I
 ·rename_i I;exact aL5 hw J I
 ·rename_i I;exact aGu hw J I
 ·rename_i I;exact aPn I
 ·rename_i I;exact aPr hw J I
 ·rename_i I;exact aGw hw J I
 ·rename_i I;exact aMa hw J I
 ·rename_i I;exact aPt hw J I
 ·rename_i I;exact aUa I
 ·rename_i I;exact aL7 I
 ·rename_i I;exact Snd.bind fun _ _=>aPo I
 ·rename_i I;exact sT hw J I
 ·rename_i I;exact aGy hw J I
 ·rename_i I;exact sS hw J I
 ·rename_i I;exact aB9 hw J I
 ·rename_i I;exact sR hw J I
 ·rename_i I;exact aCa hw J I
 ·rename_i I;exact zZ I
 ·rename_i I;exact Snd.bind fun _ _=>aMb hw J I
 ·exact Snd.none
theorem Step.freeze {rd:Rd}{I:Option (Nat×Option V)}{id te es z:Nat}{l:List (List C)}(h:Step P n o st rd ⟨I,[(id,some (.arr te es l z))]⟩):Step P n o st rd ⟨I,[(id,some (.arr te es l 2))]⟩:=by
 intro st' ha G S μ a w K Q hs J;refine h st' ha G S μ a w K Q hs fun S1 Z N O h1=>?_
 have hh:(Eff.apply ⟨I,[(id,some (.arr te es l z))]⟩ st').h id=some (.arr te es l z):=by
  show updL st'.h [(id,some (.arr te es l z))] id=_;rw[dE,aJ]
 obtain⟨S2,W,h2⟩:=h1.freeze hh;refine J S2 W N O ?_;have Y:upd (Eff.apply ⟨I,[(id,some (.arr te es l z))]⟩ st').h id (some (.arr te es l 2))=(Eff.apply ⟨I,[(id,some (.arr te es l 2))]⟩ st').h:=by
  show upd (updL st'.h [(id,some (.arr te es l z))]) id _=updL st'.h [(id,some (.arr te es l 2))];rw[dE,dE,o8]
 rw[Y] at h2;exact h2
def aZ0:Ans→Ans
 | some (rd,⟨dv,[(id,some (.arr te es l _))]⟩,ob')=>some (rd,⟨dv,[(id,some (.arr te es l 2))]⟩,ob')
 | _=>none
theorem aUc {r:Ans}(h:Snd P n o st ob r):Snd P n o st ob (aZ0 r):=by
 intro rd f I e hc;unfold aZ0 at e;split at e
 ·cases e;obtain⟨g1,g2⟩:=h _ _ _ rfl hc;exact⟨g1,g2.freeze⟩
 ·cases e
def aYk (P:Program) (tr:Tr) (md nat:Bool) (n:Nat) (st:St) (hn:Hn) (o:Oper) (ob:List Prop):Ans:=match hn with
 | .fz=>aZ0 (aPm P tr md nat n st .no o ob)
 | hn=>aPm P tr md nat n st hn o ob
theorem aL3 {hn:Hn}(hw:tr.wf=true) (I:Tok P tr.flat):Snd P n o st ob (aYk P tr md nat n st hn o ob):=by
 unfold aYk;split
 ·exact aUc (aFi hw I)
 ·exact aFi hw I
def aB0:List Oper→Nat→Option Nat
 | [],_=>none
 | o::os,i=>bif Nat.beq i 0 then o.dst else aB0 os (i-1)
theorem aE5:∀(os:List Oper) (i:Nat),aB0 os i=(os[i]?).bind (·.dst)
 | [],i=>by simp[aB0]
 | o::os,0=>by simp[aB0]
 | o::os,i+1=>by
  have:Nat.beq (i+1) 0=false:=rfl;simp[aB0,this,aE5 os i]
def axG (P:Program) (tr:Tr) (md nat:Bool) (n:Nat) (all:List Oper) (hs:List (Nat×Hn)) (k:Nat) (o:Oper) (st:St) (ob:List Prop):Ans:=match o.guard with
 | none=>aYk P tr md nat n st (aOx hs k) o ob
 | some (j,want)=>(aB0 all j).bind fun t=>(st.e t).bind fun v=>match v with
  | .one (.c (.bool b))=>match aNh (match aOx hs j with | .bv w=>.bv w | _=>.no) b ob with
   | (w,ob1)=>bif w==want then(aYk P tr md nat n st (aOx hs k) o ob1).bind fun(rd,f,ob2)=>some (⟨t::rd.e,rd.h⟩,f,ob2)
    else match o.dst with
     | some d=>bif Nat.blt d n then some (⟨[t],[]⟩,⟨some (d,some (.tup [])),[]⟩,ob1) else none
     | none=>none
  | .tup []=>match o.dst with
   | some d=>bif Nat.blt d n then some (⟨[t],[]⟩,⟨some (d,some (.tup [])),[]⟩,ob) else none
   | none=>none
  | _=>none
theorem aRx {ops:Array Oper}{hs:List (Nat×Hn)}{k:Nat}{rd:Rd}{f:Eff}{N:List Prop}(hw:tr.wf=true) (W:Tok P tr.flat) (J:ops[k]?=some o) (h:axG P tr md nat n ops.toList hs k o st ob=some (rd,f,N)):iC N→iC ob∧GStep P n ops k st rd f:=by
 intro hc;unfold axG at h;split at h
 ·rename_i hg;obtain⟨h1,h2⟩:=aL3 hw W _ _ _ h hc;exact⟨h1,GStep.plain J hg h2⟩
 ·rename_i j want hg;rw[Ag] at h;obtain⟨t,ht,h⟩:=h;rw[Ag] at h;obtain⟨v,hv,h⟩:=h;have hj:(ops[j]?).bind (·.dst)=some t:=by
   rw[aE5] at ht;simpa using ht
  split at h
  ·rename_i b;split at h;rename_i w Y O;cases I:w==want with
   | true=>
    rw[I] at h;simp only[Bm] at h;rw[Ag] at h;obtain⟨⟨Z,f1,aa⟩,h1,h2⟩:=h;cases h2;obtain⟨g1,g2⟩:=aL3 hw W _ _ _ h1 hc;obtain⟨g3,g4⟩:=pP O g1;exact⟨g3,GStep.yes J hg hj hv (g4.trans (eq_of_beq I)) g2⟩
   | false=>
    rw[I] at h;simp only[Bn] at h;split at h
    ·rename_i d hd;obtain⟨h1,h2⟩:=eI h;cases h2;obtain⟨g3,g4⟩:=pP O hc;refine⟨g3,GStep.no J hg hd (lI h1) hj hv g4 ?_⟩;cases w<;>cases want<;>first | rfl | (cases I)
    ·cases h
  ·split at h
   ·rename_i d hd;obtain⟨h1,h2⟩:=eI h;cases h2;exact⟨hc,GStep.un J hg hd (lI h1) hj hv⟩
   ·cases h
  ·cases h
def uL (P:Program) (tr:Tr) (md nat:Bool) (n:Nat) (all:List Oper) (hs:List (Nat×Hn)):Nat→Nat→List Oper→(Nat→Option V)→cO→List Nat→REs→List Prop→Option (St×Nat×REs×List Prop)
 | 0,k,_,e,h,d,pre,ob=>some (⟨e,h,d⟩,k,pre,ob)
 | _+1,k,[],e,h,d,pre,ob=>some (⟨e,h,d⟩,k,pre,ob)
 | m+1,k,o::os,e,h,d,pre,ob=>(axG P tr md nat n all hs k o ⟨e,h,d⟩ ob).bind fun(rd,f,ob1)=>match f with
  | ⟨some (t,v),[]⟩=>uL P tr md nat n all hs m (k+1) os (upd e t v) h d ((rd,⟨some (t,v),[]⟩)::pre) ob1
  | ⟨some (t,v),[(id,x)]⟩=>uL P tr md nat n all hs m (k+1) os (upd e t v) (upd h id x) d ((rd,⟨some (t,v),[(id,x)]⟩)::pre) ob1
  | ⟨none,[(id,x)]⟩=>uL P tr md nat n all hs m (k+1) os e (upd h id x) d ((rd,⟨none,[(id,x)]⟩)::pre) ob1
  | _=>none
theorem aCb {ops:Array Oper}{hs:List (Nat×Hn)}{draw:Bool}(hw:tr.wf=true) (hT:Tok P tr.flat):∀(m k:Nat) (os:List Oper) (e:Nat→Option V) (h:cO) (d:List Nat) (pre:REs) (ob:List Prop) (st':St) (k':Nat) (pre':REs) (J:List Prop),os=ops.toList.drop k→
  uL P tr md nat n ops.toList hs m k os e h d pre ob=some (st',k',pre',J)→iC J→iC ob∧∀Q,kE P n ops draw k' st' pre' Q→kE P n ops draw k ⟨e,h,d⟩ pre Q:=by
 intro m
 induction m with
 | zero=>
  intro k os e h d pre ob st' k' pre' J _ hg hc;simp only[uL] at hg;cases hg;exact⟨hc,fun Q N=>N⟩
 | succ m Y=>
  intro k os e h d pre ob st' k' pre' J W hg hc;cases os with
  | nil=>
   simp only[uL] at hg;cases hg;exact⟨hc,fun Q N=>N⟩
  | cons o os=>
   have ho:ops[k]?=some o:=by
    have:(ops.toList.drop k)[0]?=some o:=by rw[←W];rfl
    simpa using this
   have I:os=ops.toList.drop (k+1):=by
    have:os=(ops.toList.drop k).tail:=by rw[←W];rfl
    rw[this,List.tail_drop]
   simp only[uL,Ag] at hg;obtain⟨⟨rd,f,Z⟩,h1,h2⟩:=hg;have key:∀{O:St},iC Z→O=f.apply ⟨e,h,d⟩→(∀Q,kE P n ops draw k' st' pre' Q→kE P n ops draw (k+1) O ((rd,f)::pre) Q)→iC ob∧∀Q,kE P n ops draw k' st' pre' Q→kE P n ops draw k ⟨e,h,d⟩ pre Q:=by
    intro O aa ab hk;obtain⟨g1,g2⟩:=aRx hw hT ho h1 aa;subst ab;exact⟨g1,fun Q N=>k_ g2 (hk Q N)⟩
   split at h2
   ·rename_i heq;have heq:f=_:=heq;subst heq;obtain⟨g1,g2⟩:=Y _ _ _ _ _ _ _ _ _ _ _ I h2 hc;exact key g1 (by simp only[Eff.apply,aCr]) g2
   ·rename_i heq;have heq:f=_:=heq;subst heq;obtain⟨g1,g2⟩:=Y _ _ _ _ _ _ _ _ _ _ _ I h2 hc;exact key g1 (by simp only[Eff.apply,dE]) g2
   ·rename_i heq;have heq:f=_:=heq;subst heq;obtain⟨g1,g2⟩:=Y _ _ _ _ _ _ _ _ _ _ _ I h2 hc;exact key g1 (by simp only[Eff.apply,dE]) g2
   ·cases h2
end
section
variable {ro:Option Nat}{P:Program}{n:Nat}{ops:Array Oper}{draw:Bool}{k k':Nat}{st st':St}{pre pre':REs}{Q:St→Prop}{tr:Tr}{ob:List Prop}
theorem ax_ {hs:List (Nat×Hn)}{md nat:Bool}(m:Nat) (hw:tr.wf=true) (I:Tok P tr.flat) (h:uL P tr md nat n ops.toList hs m k (ops.toList.drop k) st.e st.h st.d pre []=some (st',k',pre',ob)) (hc:iC ob) (hk:kE P n ops draw k' st' pre' Q):kE P n ops draw k st pre Q:=
 (aCb hw I m k _ st.e st.h st.d pre [] st' k' pre' ob rfl h hc).2 Q hk
theorem aRz {hs:List (Nat×Hn)}{md nat:Bool}{kf:List Nat}{id:Nat}{Q:Exit→St→Prop}(hm:P.follows .mixedOrders=true) (hw:tr.wf=true) (I:Tok P tr.flat) (h:uL P tr md nat n ops.toList hs 1000 0 ops.toList st.e st.h st.d [] []=some (st',k',pre',ob)) (hc:iC ob)
  (h1:Nat.beq k' ops.size=true) (h2:(!draw || (fC (oE ops) pre'.reverse []&&gY ops))=true) (J:Q .normal st'):AWp ro P n kf (.region id ops draw) st Q:=
 aE hm ((aCb hw I 1000 0 _ st.e st.h st.d [] [] st' k' pre' ob rfl h hc).2 _ (z_ h1 h2 J))
end
theorem hs_all {h:cO}{id te es n:Nat}{l l':List (List C)}{fz:Nat}(h1:h id=some (.arr te es l fz)) (hf:fz=2) (h2:n=l.length) (h3:l=l'):Conv h [id] (.one (.hs id 0 n n)) (.one (.c (.sl es l'))):=by
 subst h2;subst h3;subst hf;exact .one (.hs h1 rfl (by rw[Cd,Au]) .nil)
section
variable {P:Program}{n:Nat}{ops:Array Oper}{draw:Bool}{k d:Nat}{st:St}{pre:REs}{Q:St→Prop}{o:Oper}{f:FuncId}{xs:Array Operand}{ts:Array TypeId}{ids:List Nat}{args:List V}{res:V}{hin hout:List (Nat×AObj)}
theorem kc (hf:aW P f args hin res hout)
  (hk:kE P n ops draw (k+1) ⟨upd st.e d (some res),updL st.h (outs hout),st.d⟩ ((⟨dP xs.toList,ids++keys hin++keys hout⟩,⟨some (d,some res),outs hout⟩)::pre) Q)
  (hb:pC P f:=by exact aM9 (by kernel_rfl)) (N:ops[k]?=some o:=by rfl) (hg:o.guard=none:=by rfl) (I:o.op=.call { callee:=.value (.func f),args:=xs,argTypes:=ts }:=by rfl) (hd:o.dst=some d:=by rfl) (J:Nat.blt d n=true:=by rfl)
  (ha:ArgsV st ids xs.toList args:=by repeat (first | exact .nil | (apply Go.AM.ArgsV.cons rfl;(first | exact .refl | exact .one (.c .nl .nil) | exact .one (.c .sn .nil) | exact .one (.hs rfl (by first | rfl | simp) (by first | rfl | (simp;done) | (simp[Go.AM.take_map];done) | exact Go.AM.take_map.symm) .nil) | exact Go.AM.hs_all rfl rfl (by first | rfl | assumption | (simp;done) | (simp;omega)) (by first | rfl | assumption | (simp;done)) | ((first | apply Go.AM.Conv.pa | apply Go.AM.Conv.agg);repeat (first | exact .nil | apply Go.AM.PureL.c .refl | apply Go.AM.PureL.c .nl | apply Go.AM.PureL.c .sn | (apply Go.AM.PureL.hs;rfl;(first | rfl | simp);(first | rfl | (simp;done) | (simp[Go.AM.take_map];done) | exact Go.AM.take_map.symm))))))))
  (hin':eQ (fun p=>st.h p.1=some p.2) hin:=by repeat (first | exact trivial | refine⟨rfl,?_⟩)) (hout':eQ (fun p=>p.1∈keys hin∨st.h p.1=none) hout:=by repeat (first | exact trivial | refine⟨.inr rfl,?_⟩ | refine⟨.inl (by decide),?_⟩ | refine⟨.inl (by repeat (first | exact List.Mem.head _ | apply List.Mem.tail)),?_⟩)) (hok:k9 args hin=true:=by rfl):kE P n ops draw k st pre Q:=
 k_ (g_ N hg (aIx hin hout hb I hd (lI J) hf ha hin' hout' hok)) hk
theorem kv {x:Operand}{caps:List R}(hf:aW P f (args++caps.map V.one) hin res hout)
  (hk:kE P n ops draw (k+1) ⟨upd st.e d (some res),updL st.h (outs hout),st.d⟩ ((⟨opr x++dP xs.toList,ids++keys hin++keys hout⟩,⟨some (d,some res),outs hout⟩)::pre) Q)
  (hb:pC P f:=by exact aM9 (by kernel_rfl)) (N:ops[k]?=some o:=by rfl) (hg:o.guard=none:=by rfl) (I:o.op=.call { callee:=.value x,args:=xs,argTypes:=ts }:=by rfl) (hd:o.dst=some d:=by rfl) (J:Nat.blt d n=true:=by rfl) (hx:opv st x=some (.one (.clo f caps)):=by rfl)
  (ha:ArgsV st ids xs.toList args:=by repeat (first | exact .nil | (apply Go.AM.ArgsV.cons rfl;(first | exact .refl | exact .one (.c .nl .nil) | exact .one (.c .sn .nil) | exact .one (.hs rfl (by first | rfl | simp) (by first | rfl | (simp;done) | (simp[Go.AM.take_map];done) | exact Go.AM.take_map.symm) .nil) | exact Go.AM.hs_all rfl rfl (by first | rfl | assumption | (simp;done) | (simp;omega)) (by first | rfl | assumption | (simp;done)) | ((first | apply Go.AM.Conv.pa | apply Go.AM.Conv.agg);repeat (first | exact .nil | apply Go.AM.PureL.c .refl | apply Go.AM.PureL.c .nl | apply Go.AM.PureL.c .sn | (apply Go.AM.PureL.hs;rfl;(first | rfl | simp);(first | rfl | (simp;done) | (simp[Go.AM.take_map];done) | exact Go.AM.take_map.symm))))))))
  (hin':eQ (fun p=>st.h p.1=some p.2) hin:=by repeat (first | exact trivial | refine⟨rfl,?_⟩)) (hout':eQ (fun p=>p.1∈keys hin∨st.h p.1=none) hout:=by repeat (first | exact trivial | refine⟨.inr rfl,?_⟩ | refine⟨.inl (by decide),?_⟩ | refine⟨.inl (by repeat (first | exact List.Mem.head _ | apply List.Mem.tail)),?_⟩)) (hok:k9 (args++caps.map V.one) hin=true:=by rfl):kE P n ops draw k st pre Q:=
 k_ (g_ N hg (aSt hin hout hb I hd (lI J) hx hf ha hin' hout' hok)) hk
end
inductive Res where
 | leaf (st:St) (k:Nat) (pre:REs) (ob:List Prop)
 | fork (b:Bool) (x y:Res)
def Res.obs:Res→Prop
 | .leaf _ _ _ ob=>iC ob
 | .fork b x y=>(b=true→x.obs)∧(b=false→y.obs)
def Res.good (ops:Array Oper) (draw:Bool):Res→Bool
 | .leaf _ k pre _=>Nat.beq k ops.size&&(!draw || (fC (oE ops) pre.reverse []&&gY ops))
 | .fork _ x y=>x.good ops draw&&y.good ops draw
def Res.all (Q:St→Prop):Res→Prop
 | .leaf st _ _ _=>Q st
 | .fork b x y=>(b=true→x.all Q)∧(b=false→y.all Q)
def aS7:Nat→List Nat→Bool
 | _,[]=>false
 | i,x::l=>bif Nat.beq i x then true else aS7 i l
theorem aEe:∀{i:Nat}{l:List Nat},aS7 i l=true↔i∈l
 | i,[]=>by simp[aS7]
 | i,x::l=>by
  simp only[aS7];cases h:Nat.beq i x with
  | true=>have:=Ab h;simp[this]
  | false=>
   have:i≠x:=fun e=>by subst e;simp at h
   simp[this,aEe]
def aXb (all:List Oper) (dec:List Nat) (o:Oper):Option Nat:=
 match (match o.guard with | some (j,_)=>(aB0 all j).bind fun t=>bif aS7 t dec then none else some t | none=>none) with
 | some t=>some t
 | none=>match o.op with
  | .pick (.tmp t) _ _=>bif aS7 t dec then none else some t
  | _=>none
def nZ (P:Program) (tr:Tr) (md nat:Bool) (n:Nat) (all:List Oper) (hs:List (Nat×Hn)) (W:List Nat):Nat→Nat→List Oper→(Nat→Option V)→cO→List Nat→List Nat→REs→List Prop→Option Res
 | 0,_,_,_,_,_,_,_,_=>none
 | _+1,k,[],e,h,d,_,pre,ob=>some (.leaf ⟨e,h,d⟩ k pre ob)
 | m+1,k,o::os,e,h,d,dec,pre,ob=>match aXb all dec o with
  | some t=>match e t with
   | some (.one (.c (.bool b)))=>(nZ P tr md nat n all hs W m k (o::os) (upd e t (some (.one (.c (.bool true))))) h d (t::dec) pre ob).bind fun x=>
     (nZ P tr md nat n all hs W m k (o::os) (upd e t (some (.one (.c (.bool false))))) h d (t::dec) pre ob).bind fun y=>some (.fork b x y)
   | _=>nZ P tr md nat n all hs W m k (o::os) e h d (t::dec) pre ob
  | none=>(axG P tr md nat n all hs k o ⟨e,h,d⟩ ob).bind fun(rd,f,ob1)=>match f with
   | ⟨some (t,v),[]⟩=>bif aS7 t W then nZ P tr md nat n all hs W m (k+1) os (upd e t v) h d dec ((rd,⟨some (t,v),[]⟩)::pre) ob1 else none
   | _=>none
section
variable {P:Program}{n:Nat}{tr:Tr}{md nat:Bool}
theorem aCq {e:Nat→Option V}{t:Nat}{x:Option V}(h:e t=x):upd e t x=e:=by
 funext i;simp only[upd];split
 ·rename_i hb;rw[Ab hb,h]
 ·rfl
theorem aPq {ops:Array Oper}{hs:List (Nat×Hn)}{W:List Nat}{draw:Bool}(hw:tr.wf=true) (hT:Tok P tr.flat):∀(m k:Nat) (os:List Oper) (e:Nat→Option V) (h:cO) (d dec:List Nat) (pre:REs) (ob:List Prop) (res:Res),os=ops.toList.drop k→
  nZ P tr md nat n ops.toList hs W m k os e h d dec pre ob=some res→res.obs→res.good ops draw=true→∀Q,res.all Q→iC ob∧kE P n ops draw k ⟨e,h,d⟩ pre Q:=by
 intro m
 induction m with
 | zero=>intro k os e h d dec pre ob res _ hg;simp[nZ] at hg
 | succ m Y=>
  intro k os e h d dec pre ob res J hg N I Q O;cases os with
  | nil=>
   simp only[nZ] at hg;cases hg;simp only[Res.good,Ah] at I;exact⟨N,z_ I.1 I.2 O⟩
  | cons o os=>
   have hok:ops[k]?=some o:=by
    have:(ops.toList.drop k)[0]?=some o:=by rw[←J];rfl
    simpa using this
   have Z:os=ops.toList.drop (k+1):=by
    have:os=(ops.toList.drop k).tail:=by rw[←J];rfl
    rw[this,List.tail_drop]
   simp only[nZ] at hg;split at hg
   ·rename_i t _;split at hg
    ·rename_i b hb;rw[Ag] at hg;obtain⟨x,hx,hg⟩:=hg;rw[Ag] at hg;obtain⟨y,hy,hg⟩:=hg;cases hg;simp only[Res.obs] at N;simp only[Res.good,Ah] at I;simp only[Res.all] at O;cases b with
     | true=>
      rw[aCq hb] at hx;exact Y _ _ _ _ _ _ _ _ _ J hx (N.1 rfl) I.1 Q (O.1 rfl)
     | false=>
      rw[aCq hb] at hy;exact Y _ _ _ _ _ _ _ _ _ J hy (N.2 rfl) I.2 Q (O.2 rfl)
    ·exact Y _ _ _ _ _ _ _ _ _ J hg N I Q O
   ·rw[Ag] at hg;obtain⟨⟨rd,f,ob1⟩,h1,h2⟩:=hg;dsimp only at h2;split at h2
    ·obtain⟨_,h3⟩:=eI h2;obtain⟨g1,g2⟩:=Y _ _ _ _ _ _ _ _ _ Z h3 N I Q O;obtain⟨g3,g4⟩:=aRx hw hT hok h1 g1;refine⟨g3,k_ g4 ?_⟩;simpa only[Eff.apply,aCr] using g2
    ·cases h2
def Res.keep (e0:Nat→Option V) (h0:cO) (d0:List Nat) (W:List Nat):Res→Prop
 | .leaf st _ _ _=>(∀t,t∉W→∀v,e0 t=some v→st.e t=some v)∧st.h=h0∧st.d=d0
 | .fork b x y=>(b=true→x.keep e0 h0 d0 W)∧(b=false→y.keep e0 h0 d0 W)
theorem aGx {all:List Oper}{hs:List (Nat×Hn)}{W:List Nat}{e0:Nat→Option V}:∀(m k:Nat) (os:List Oper) (e:Nat→Option V) (h:cO) (d dec:List Nat) (pre:REs) (ob:List Prop) (res:Res),
  nZ P tr md nat n all hs W m k os e h d dec pre ob=some res→(∀t,t∉W→∀v,e0 t=some v→e t=some v)→res.keep e0 h d W:=by
 intro m
 induction m with
 | zero=>intro k os e h d dec pre ob res hg;simp[nZ] at hg
 | succ m I=>
  intro k os e h d dec pre ob res hg he;cases os with
  | nil=>
   simp only[nZ] at hg;cases hg;exact⟨he,rfl,rfl⟩
  | cons o os=>
   simp only[nZ] at hg;split at hg
   ·rename_i t _;split at hg
    ·rename_i b hb;rw[Ag] at hg;obtain⟨x,hx,hg⟩:=hg;rw[Ag] at hg;obtain⟨y,hy,hg⟩:=hg;cases hg;refine⟨fun J=>?_,fun N=>?_⟩
     ·subst J;rw[aCq hb] at hx;exact I _ _ _ _ _ _ _ _ _ hx he
     ·subst N;rw[aCq hb] at hy;exact I _ _ _ _ _ _ _ _ _ hy he
    ·exact I _ _ _ _ _ _ _ _ _ hg he
   ·rw[Ag] at hg;obtain⟨⟨rd,f,Y⟩,h1,h2⟩:=hg;dsimp only at h2;split at h2
    ·obtain⟨hm,h3⟩:=eI h2;refine I _ _ _ _ _ _ _ _ _ h3 fun s hs u hu=>?_
     have O:s≠_:=fun e=>hs (by rw[e];exact aEe.1 hm)
     rw[b8 _ _ _ O];exact he s hs u hu
    ·cases h2
def Res.boolAt (w:Nat):Res→Option Bool
 | .leaf st _ _ _=>match st.e w with
  | some (.one (.c (.bool x)))=>some x
  | _=>none
 | .fork b x y=>(x.boolAt w).bind fun p=>(y.boolAt w).bind fun q=>some (bif b then p else q)
theorem Res.boolAt_all {w:Nat}:∀{r:Res}{x:Bool},r.boolAt w=some x→r.all fun st=>st.e w=some (.one (.c (.bool x)))
 | .leaf st _ _ _,x,h=>by
  simp only[Res.boolAt] at h;split at h
  ·rename_i hx;cases h;exact hx
  ·cases h
 | .fork b p q,x,h=>by
  simp only[Res.boolAt,Ag] at h;obtain⟨u,hu,v,hv,h⟩:=h;cases h;refine⟨fun hb=>?_,fun hb=>?_⟩
  ·subst hb;exact Res.boolAt_all hu
  ·subst hb;exact Res.boolAt_all hv
def rM (res:Res):List Nat→Option (List (Nat×Option V))
 | []=>some []
 | w::ws=>(rM res ws).bind fun l=>match res.boolAt w with
  | some x=>some ((w,some (.one (.c (.bool x))))::l)
  | none=>some ((w,none)::l)
def mK (e:Nat→Option V):List (Nat×Option V)→Nat→Option V
 | [],t=>e t
 | (w,v)::l,t=>bif Nat.beq t w then v else mK e l t
theorem yS {res:Res}{e0:Nat→Option V}{t:Nat}:∀{W:List Nat}{L:List (Nat×Option V)},rM res W=some L→mK e0 L t=if t∈W then(res.boolAt t).map (fun x=>V.one (.c (.bool x))) else e0 t
 | [],L,h=>by
  simp only[rM] at h;cases h;simp[mK]
 | w::ws,L,h=>by
  simp only[rM,Ag] at h;obtain⟨l,hl,h⟩:=h;have J:=yS (e0:=e0) (t:=t) hl;have hL:L=(w,(res.boolAt w).map (fun x=>V.one (.c (.bool x))))::l:=by
   split at h
   ·rename_i x hx;cases h;rw[hx];rfl
   ·rename_i hx;cases h;rw[hx];rfl
  subst hL;simp only[mK];by_cases I:t=w
  ·subst I;simp
  ·have hb:Nat.beq t w=false:=by
    cases hb:Nat.beq t w with
    | true=>exact absurd (Ab hb) I
    | false=>rfl
   rw[hb,Bn,J];simp[I]
theorem Res.all_mono {Q Q':St→Prop}(h:∀st,Q st→Q' st):∀{r:Res},r.all Q→r.all Q'
 | .leaf st _ _ _,k=>h st k
 | .fork _ _ _,k=>⟨fun hb=>Res.all_mono h (k.1 hb),fun hb=>Res.all_mono h (k.2 hb)⟩
theorem Res.all_forall {α:Type}{Q:α→St→Prop}:∀{r:Res},(∀a,r.all (Q a))→r.all fun st=>∀a,Q a st
 | .leaf _ _ _ _,k=>fun a=>k a
 | .fork _ _ _,k=>⟨fun hb=>Res.all_forall fun a=>(k a).1 hb,fun hb=>Res.all_forall fun a=>(k a).2 hb⟩
theorem Res.all_and {Q Q':St→Prop}:∀{r:Res},r.all Q→r.all Q'→r.all fun st=>Q st∧Q' st
 | .leaf _ _ _ _,h,k=>⟨h,k⟩
 | .fork _ _ _,h,k=>⟨fun hb=>Res.all_and (h.1 hb) (k.1 hb),fun hb=>Res.all_and (h.2 hb) (k.2 hb)⟩
theorem Res.keep_at {e0:Nat→Option V}{h0:cO}{d0 W:List Nat}{t:Nat}{v:V}(ht:t∉W) (hv:e0 t=some v):∀{r:Res},r.keep e0 h0 d0 W→r.all fun st=>st.e t=some v
 | .leaf _ _ _ _,k=>k.1 t ht v hv
 | .fork _ _ _,k=>⟨fun hb=>Res.keep_at ht hv (k.1 hb),fun hb=>Res.keep_at ht hv (k.2 hb)⟩
theorem Res.keep_hd {e0:Nat→Option V}{h0:cO}{d0 W:List Nat}:∀{r:Res},r.keep e0 h0 d0 W→r.all fun st=>st.h=h0∧st.d=d0
 | .leaf _ _ _ _,k=>k.2
 | .fork _ _ _,k=>⟨fun hb=>Res.keep_hd (k.1 hb),fun hb=>Res.keep_hd (k.2 hb)⟩
theorem aOq {res:Res}{e0:Nat→Option V}{h0:cO}{d0 W:List Nat}{L:List (Nat×Option V)}(h:rM res W=some L) (hk:res.keep e0 h0 d0 W):res.all fun st=>(∀p:Nat×V,mK e0 L p.1=some p.2→st.e p.1=some p.2)∧(st.h=h0∧st.d=d0):=by
 refine Res.all_and (Res.all_forall fun p=>?_) (Res.keep_hd hk);by_cases hv:mK e0 L p.1=some p.2
 ·refine Res.all_mono (fun st h _=>h) (?_:res.all fun st=>st.e p.1=some p.2);rw[yS h] at hv;by_cases ht:p.1∈W
  ·rw[θ ht,Bz] at hv;obtain⟨x,hx,hv⟩:=hv;rw[←hv];exact Res.boolAt_all hx
  ·rw[ψ ht] at hv;exact Res.keep_at ht hv hk
 ·have:∀r:Res,r.all fun st=>mK e0 L p.1=some p.2→st.e p.1=some p.2:=by
   intro r
   induction r with
   | leaf st k pre ob=>exact fun h=>absurd h hv
   | fork b x y I J=>exact⟨fun _=>I,fun _=>J⟩
  exact this res
theorem Sub.weak {kf:List Nat}{I st2:St}(he:∀p:Nat×V,st2.e p.1=some p.2→I.e p.1=some p.2) (hh:I.h=st2.h) (hd:I.d=st2.d):Sub kf st2 I:=by
 intro G n S μ a w _ hs;refine⟨S,μ,⟨?_,hs.size,?_,fun t v e=>?_⟩⟩
 ·rw[←hh];exact hs.inv
 ·rw[←hh,←hd];exact hs.defers
 ·rw[←hh];exact hs.env t v (he (t,v) e)
def aUw:List Oper→List Nat
 | []=>[]
 | o::os=>match o.dst with
  | some t=>t::aUw os
  | none=>aUw os
theorem aUf {ro:Option Nat}{ops:Array Oper}{draw:Bool}{st:St}{N:Nat→Option V}{h1:cO}{d1:List Nat}{J:Nat}{I:REs}{O:List Prop}{res:Res}{L:List (Nat×Option V)}{hs:List (Nat×Hn)}{kf:List Nat}{id:Nat}{Q:Exit→St→Prop}(m:Nat) (hm:P.follows .mixedOrders=true) (hw:tr.wf=true) (Z:Tok P tr.flat)
  (g1:uL P tr md nat n ops.toList hs m 0 ops.toList st.e st.h st.d [] []=some (⟨N,h1,d1⟩,J,I,O))
  (g2:nZ P tr md nat n ops.toList hs (aUw (ops.toList.drop J)) 1000 J (ops.toList.drop J) N h1 d1 [] I O=some res)
  (g3:rM res (aUw (ops.toList.drop J))=some L) (ho:res.obs) (hg:res.good ops draw=true) (hq:Q .normal ⟨mK N L,h1,d1⟩):AWp ro P n kf (.region id ops draw) st Q:=by
 have hk:=aGx (P:=P) (tr:=tr) (md:=md) (nat:=nat) (n:=n) (e0:=N) _ _ _ _ _ _ _ _ _ _ g2 (fun _ _ _ h=>h);have aa:=aOq g3 hk;have W:res.all fun st'=>Sub kf ⟨mK N L,h1,d1⟩ st':=Res.all_mono (fun st h=>Sub.weak h.1 h.2.1 h.2.2) aa
 obtain⟨ab,Y⟩:=aPq (draw:=draw) hw Z _ _ _ _ _ _ _ _ _ _ rfl g2 ho hg _ W;exact aUe _ hm ((aCb hw Z m 0 _ st.e st.h st.d [] [] _ J I O rfl g1 ab).2 _ Y) hq
end
end Go.AM
namespace Go.AM
open Go
theorem Ole.arrS {σ:Nat→Nat}{te es fz:Nat}{l l':List (List C)}(h:l=l'):Ole σ (.arr te es l fz) (.arr te es l' fz):=by subst h;exact .arr
theorem hs_ren {id off a b I b':Nat}(h:a=I) (k:b=b'):some (V.one (.hs id off a b))=some (V.ren (fun i=>i) (V.one (.hs id off I b'))):=by subst h;subst k;rfl
theorem sl {kf:List Nat}{I:St}{el:List (Nat×V)}{hl:List (Nat×AObj)}
  (he:eQ (fun p=>I.e p.1=some (p.2.ren (fun i=>i))) el:=by repeat (first | exact trivial | refine⟨by first | rfl | exact Go.AM.hs_ren (by first | (simp;done) | (simp;omega)) (by first | (simp;done) | (simp;omega)),?_⟩))
  (hh:eQ (fun p=>∃o,I.h p.1=some o∧Ole (fun i=>i) o p.2) hl:=by repeat (first | exact trivial | refine⟨⟨_,rfl,by first | exact Go.AM.Ole.arr | exact Go.AM.Ole.var rfl | exact Go.AM.Ole.map | exact Go.AM.Ole.rarr rfl | exact Go.AM.Ole.arr1 | exact Go.AM.Ole.arrS (by first | assumption | (simp;done) | (simp;rfl) | (simp;omega)) | exact Go.AM.Ole.arrE (by first | assumption | (simp;done) | (simp;rfl) | (simp;omega)) | exact Go.AM.Ole.var (by first | (simp[Go.AM.R.renL,Go.AM.R.ren];done) | (simp[Go.AM.R.renL,Go.AM.R.ren];omega)) | exact Go.AM.Ole.mapE (by first | assumption | (simp;done) | (simp;rfl) | (simp;omega))⟩,?_⟩))
  (hok:(aUu kf (fun i=>i) el hl&&eqL [] I.d)=true:=by rfl):Sub kf (mk el hl) I:=Sub.list (fun i=>i) he hh hok
theorem take_all {α:Type}{l:List α}{n:Nat}(h:n=l.length):l=(l.drop 0).take n:=by rw[h,Cd,Au]
theorem ltD {i n:Nat}{l:List (List C)}(h:decide ((i:Int)<(l.length:Int))=true) (e:l.length=n):i<n:=by
 have:(i:Int)<(l.length:Int):=by simpa using h
 omega
theorem geD {i n:Nat}{l:List (List C)}(h:decide ((i:Int)<(l.length:Int))=false) (e:l.length=n) (hi:i≤n):i=n:=by
 have:¬(i:Int)<(l.length:Int):=by simpa using h
 omega
theorem Ole.rarrS {te es:Nat}{l l':List (List R)}(h:l=l'):Ole (fun i=>i) (.rarr te es l) (.rarr te es l'):=by subst h;exact .rarr (aBf _).symm
section
variable {T:TT}{fn:Func}{st:St}{hin hout:List (Nat×AObj)}{res:V}
theorem rtT {t:Nat}{v:V}{ids:List Nat}(I:fn.results.toList=[.tmp t]:=by rfl) (hv:st.e t=some v:=by rfl)
  (hc:Conv st.h ids v res:=by first | exact .refl | exact .one (.c .nl .nil) | ((first | apply Go.AM.Conv.pa | apply Go.AM.Conv.agg);repeat (first | exact .nil | apply Go.AM.PureL.c .refl | apply Go.AM.PureL.c .nl | (apply Go.AM.PureL.hs;rfl;(first | rfl | assumption | simp);(first | rfl | exact Go.AM.take_all (by first | assumption | rfl | (simp;done)) | exact Go.AM.take_map.symm)))))
  (J:eQ (fun p=>∃o,st.h p.1=some o∧Ole (fun i=>i) o p.2) hout:=by repeat (first | exact trivial | refine⟨⟨_,rfl,by first | exact Go.AM.Ole.arr | exact Go.AM.Ole.var rfl | exact Go.AM.Ole.map | exact Go.AM.Ole.rarr rfl | exact Go.AM.Ole.arr1 | exact Go.AM.Ole.arrS (by first | assumption | (simp;done) | (simp;rfl) | (simp;omega)) | exact Go.AM.Ole.arrE (by first | assumption | (simp;done) | (simp;rfl) | (simp;omega)) | exact Go.AM.Ole.var (by first | (simp[Go.AM.R.renL,Go.AM.R.ren];done) | (simp[Go.AM.R.renL,Go.AM.R.ren];omega)) | exact Go.AM.Ole.mapE (by first | assumption | (simp;done) | (simp;rfl) | (simp;omega))⟩,?_⟩))
  (hok:(subset res.refs (keys hout)&&subset (dM hout) (keys hout)&&distinct (keys hout)&&subset (keys hin) (keys hout)&&(hin.all fun p=>p.2.plain)&&(hout.all fun p=>p.2.plain))=true:=by rfl):(Exit.ret=.normal∨Exit.ret=.ret)∧Fin T fn st hin res hout:=
 ⟨.inr rfl,⟨[v],[res],by rw[I];exact .tmp hv .nil,.cons hc .nil,rfl⟩,J,hok⟩
theorem rtC {tr:Tr}{a t:Nat}{i:TI}{id off tv:Nat}{cells:List R}{v:V}{ids:List Nat}(hw:tr.wf=true) (I:fn.results.toList=[.cell a t]:=by rfl) (hi:tr.get t=some i:=by rfl) (ha:st.e a=some (.one (.vp id off)):=by rfl) (hh:st.h id=some (.var tv cells):=by rfl) (hb:Nat.ble (off+i.size) cells.length=true:=by rfl) (hv:pL i ((cells.drop off).take i.size)=some v:=by rfl)
  (hc:Conv st.h ids v res:=by first | exact .refl | exact .one (.c .nl .nil) | ((first | apply Go.AM.Conv.pa | apply Go.AM.Conv.agg);repeat (first | exact .nil | apply Go.AM.PureL.c .refl | apply Go.AM.PureL.c .nl | (apply Go.AM.PureL.hs;rfl;(first | rfl | assumption | simp);(first | rfl | exact Go.AM.take_all (by first | assumption | rfl | (simp;done)) | exact Go.AM.take_map.symm)))))
  (J:eQ (fun p=>∃o,st.h p.1=some o∧Ole (fun i=>i) o p.2) hout:=by repeat (first | exact trivial | refine⟨⟨_,rfl,by first | exact Go.AM.Ole.arr | exact Go.AM.Ole.var rfl | exact Go.AM.Ole.map | exact Go.AM.Ole.rarr rfl | exact Go.AM.Ole.arr1 | exact Go.AM.Ole.arrS (by first | assumption | (simp;done) | (simp;rfl) | (simp;omega)) | exact Go.AM.Ole.arrE (by first | assumption | (simp;done) | (simp;rfl) | (simp;omega)) | exact Go.AM.Ole.var (by first | (simp[Go.AM.R.renL,Go.AM.R.ren];done) | (simp[Go.AM.R.renL,Go.AM.R.ren];omega)) | exact Go.AM.Ole.mapE (by first | assumption | (simp;done) | (simp;rfl) | (simp;omega))⟩,?_⟩))
  (hok:(subset res.refs (keys hout)&&subset (dM hout) (keys hout)&&distinct (keys hout)&&subset (keys hin) (keys hout)&&(hin.all fun p=>p.2.plain)&&(hout.all fun p=>p.2.plain))=true:=by rfl):(Exit.ret=.normal∨Exit.ret=.ret)∧Fin tr.flat fn st hin res hout:=
 ⟨.inr rfl,⟨[v],[res],by rw[I];exact .cell ha (Tr.get_ok hw hi) hh hb hv .nil,.cons hc .nil,rfl⟩,J,hok⟩
end
end Go.AM
namespace Go.AM
open Go
theorem q9 {id:Nat}{o:AObj}{hin:List (Nat×AObj)}:look ((id,o)::hin)=upd (look hin) id (some o):=by
 funext i;by_cases h:i=id
 ·subst h;rw[aJ,dG]
 ·rw[b8 _ _ _ h,dQ h]
theorem Inv.emptyZ {G:Ctx}{S:Sto}{μ:Mu}{H:cO}{w:World}{id:Nat}(te es z:Nat) (h:Inv G S μ H w) (hid:H id=none):Inv G S (upd μ id none) (upd H id (some (.arr te es [] z))) w∧Evolve S μ H S (upd μ id none) (upd H id (some (.arr te es [] z))):=by
 have N:Evolve S μ H S (upd μ id none) (upd H id (some (.arr te es [] z))):=fZ hid _ _;refine⟨⟨h.holds,fun j x hj=>?_,fun i j x x' b c c' hi hj hm I=>?_,fun i x b c hi hm=>?_,h.frame,h.sle,h.sto,h.evo.trans N,h.fre⟩,N⟩
 ·by_cases J:j=id
  ·subst J;rw[aJ] at hj;cases hj;exact⟨by simp,.inl ⟨aJ _ _ _,rfl⟩⟩
  ·rw[b8 _ _ _ J] at hj;exact(h.obj j x hj).evolve N (b8 _ _ _ J) fun _ _ _=>⟨rfl,fun _=>rfl,rfl⟩
 ·have h1:i≠id:=fun e=>by subst e;rw[aJ] at hm;cases hm
  have h2:j≠id:=fun e=>by subst e;rw[aJ] at I;cases I
  rw[b8 _ _ _ h1] at hi hm;rw[b8 _ _ _ h2] at hj I;exact h.inj i j x x' b c c' hi hj hm I
 ·have h1:i≠id:=fun e=>by subst e;rw[aJ] at hm;cases hm
  rw[b8 _ _ _ h1] at hi hm;exact h.own i x b c hi hm
theorem aW.nilArg {P:Program}{f:FuncId}{pre post:List V}{hin hout:List (Nat×AObj)}{res:V}{id te es z:Nat}(h:aW P f (pre++ .one (.hs id 0 0 0)::post) ((id,.arr te es [] z)::hin) res hout) (hid:look hin id=none):aW P f (pre++ .one (.c .nl)::post) hin res hout:=by
 intro S μ w vals Y hv;obtain⟨hi,J⟩:=Y.emptyZ te es z hid;have N:sV (upd μ id none) (look ((id,.arr te es [] z)::hin))=sV μ (look hin):=by
  funext b;rw[q9];refine propext ⟨?_,?_⟩
  ·rintro⟨j,o,c,h1,h2⟩;by_cases hj:j=id
   ·subst hj;rw[aJ] at h2;cases h2
   ·rw[b8 _ _ _ hj] at h1 h2;exact⟨j,o,c,h1,h2⟩
  ·rintro⟨j,o,c,h1,h2⟩;have hj:j≠id:=fun e=>by subst e;rw[hid] at h1;cases h1
   exact⟨j,o,c,by rw[b8 _ _ _ hj];exact h1,by rw[b8 _ _ _ hj];exact h2⟩
 have O:Inv ⟨w,S,sV (upd μ id none) (look ((id,.arr te es [] z)::hin)),upd μ id none,look ((id,.arr te es [] z)::hin)⟩ S (upd μ id none) (look ((id,.arr te es [] z)::hin)) w:=by
  rw[N,q9];exact⟨hi.holds,hi.obj,hi.inj,hi.own,hi.frame,hi.sle,hi.sto,Evolve.refl _ _ _,hi.fre⟩
 have W:bS S (upd μ id none) (look ((id,.arr te es [] z)::hin)) (pre++ .one (.hs id 0 0 0)::post) vals:=by
  rw[q9];have key:∀(l:List V) (us:List Value),bS S μ (look hin) (l++ .one (.c .nl)::post) us→bS S (upd μ id none) (upd (look hin) id (some (.arr te es [] z))) (l++ .one (.hs id 0 0 0)::post) us:=by
   intro l
   induction l with
   | nil=>
    intro us hu;simp only[Be,bS] at hu ⊢;obtain⟨u,I,h1,h2,h3⟩:=hu;refine⟨u,I,h1,?_,bS.evolve J _ _ h3⟩;simp only[aY,bB,Rep] at h2 ⊢;exact⟨⟨_,_,_,h2⟩,.inr ⟨te,es,[],z,aJ _ _ _,le_refl _,fun _=>⟨le_refl _,.inl ⟨aJ _ _ _,rfl,h2⟩⟩⟩⟩
   | cons x l Z=>
    intro us hu;simp only[A9,bS] at hu ⊢;obtain⟨u,I,h1,h2,h3⟩:=hu;exact⟨u,I,h1,aY.evolve J _ _ h2,Z I h3⟩
  exact key pre vals hv
 refine Calls.mono (h S (upd μ id none) w vals O W) ?_;rintro e w' ⟨S',μ',v,h1,h2,h3⟩;refine⟨S',μ',v,h1,?_,h3⟩;rw[N] at h2;refine⟨h2.holds,h2.obj,h2.inj,h2.own,h2.frame,h2.sle,h2.sto,J.trans ?_,h2.fre⟩;have:=h2.evo;rwa [q9] at this
theorem aW.sub {P:Program}{f:FuncId}{args:List V}{hin hout hout':List (Nat×AObj)}{res I:V}(h:aW P f args hin res hout) (hs:Sub (keys hin) (mk [(0,I)] hout') (mk [(0,res)] hout)):aW P f args hin I hout':=by
 intro S μ w vals N hv;refine Calls.mono (h S μ w vals N hv) ?_;rintro e w' ⟨S',μ',v,h1,h2,h3⟩;have J:Ctx.keeps ⟨w,S,sV μ (look hin),μ,look hin⟩ (keys hin):=yZ
 obtain⟨S2,O,g⟩:=hs _ 1 S' μ' ⟨#[v],[]⟩ w' J ⟨h2,rfl,rfl,fun t y e=>by
  simp only[mk,look] at e;split at e
  ·rename_i hb;cases e;rw[Ab hb];exact h3
  ·cases e⟩
 exact⟨S2,O,v,h1,g.inv,g.env 0 I rfl⟩
theorem aW.plain {P:Program}{f:FuncId}{args:List V}{id te es n:Nat}{rows:List (List C)}{fz:Nat}(h:aW P f args [] (.one (.hs id 0 n n)) [(id,.arr te es rows fz)]) (hn:n=rows.length):aW P f args [] (.one (.c (.sl es rows))) []:=by
 refine h.sub ?_;have h1:Sub [] ⟨look [(0,V.one (.hs id 0 n n))],upd (look [(id,AObj.arr te es rows fz)]) id (some (.arr te es rows 2)),[]⟩ (mk [(0,.one (.hs id 0 n n))] [(id,.arr te es rows fz)]):=Sub.freeze (st:=mk [(0,.one (.hs id 0 n n))] [(id,.arr te es rows fz)]) dG;refine Sub.trans (Sub.trans ?_ (Sub.conv (t:=0) (v:=.one (.hs id 0 n n)) rfl (hs_all (aJ _ _ _) rfl hn rfl))) h1;exact Sub.list (fun i=>i) ⟨rfl,trivial⟩ trivial rfl
theorem Sub.varPure {kf:List Nat}{st:St}{x tv:Nat}{cells:List R}{ids:List Nat}{cs:List C}(h:st.h x=some (.var tv cells)) (hp:PureL st.h ids cells cs):Sub kf ⟨st.e,upd st.h x (some (.var tv (cs.map R.c))),st.d⟩ st:=by
 intro G n S μ a w _ hs;have hi:=hs.inv;obtain⟨b,vs,g1,g2,g3,g4⟩:=hi.obj x _ h
 have J:Evolve S μ st.h S μ (upd st.h x (some (.var tv (cs.map R.c)))):=⟨S.le_refl,fun j y hj=>by
  by_cases I:j=x
  ·subst I;rw[h] at hj;cases hj;exact⟨_,aJ _ _ _,by simp[AObj.succ]⟩
  ·exact⟨y,by rw[b8 _ _ _ I];exact hj,y.succ_refl rfl⟩⟩
 have hold:∀j y,upd st.h x (some (.var tv (cs.map R.c))) j=some y→∃y',st.h j=some y':=fun j y hj=>by
  by_cases I:j=x
  ·subst I;exact⟨_,h⟩
  ·rw[b8 _ _ _ I] at hj;exact⟨_,hj⟩
 refine⟨S,μ,⟨⟨hi.holds,fun j y hj=>?_,fun i j y y' b c c' N hj hm W=>?_,fun i y b c N hm=>?_,hi.frame,hi.sle,hi.sto,hi.evo.trans J,hi.fre⟩,hs.size,hs.defers.evolve J,fun s v e=>aY.evolve J v _ (hs.env s v e)⟩⟩
 ·by_cases I:j=x
  ·subst I;have O:some (AObj.var tv (cs.map R.c))=some y:=by rw[←hj];exact(aJ _ _ _).symm
   cases O;exact⟨b,vs,g1,g2,(hp.rel (fun _ _=>rfl) hi.obj g3).toR,g4⟩
  ·have O:st.h j=some y:=by rw[←hj];exact(b8 _ _ _ I).symm
   exact(hi.obj j y O).evolve J rfl fun _ _ _=>⟨rfl,fun _=>rfl,rfl⟩
 ·obtain⟨_,h1⟩:=hold _ _ N;obtain⟨_,h2⟩:=hold _ _ hj;exact hi.inj i j _ _ b c c' h1 h2 hm W
 ·obtain⟨_,h1⟩:=hold _ _ N;exact hi.own i _ b c h1 hm
theorem vp {kf:List Nat}{st:St}(x:Nat) {tv:Nat}{cells:List R}(cs:List C) {ids:List Nat}(h:st.h x=some (.var tv cells):=by rfl)
  (hp:PureL st.h ids cells cs:=by repeat (first | exact .nil | apply Go.AM.PureL.c .refl | apply Go.AM.PureL.c .nl | apply Go.AM.PureL.c .sn | (apply Go.AM.PureL.hs;rfl;(first | rfl | assumption | (simp;done) | (simp;omega));(first | rfl | exact Go.AM.take_all (by first | assumption | rfl | (simp;done) | (simp;omega)) | exact Go.AM.take_map.symm)))):Sub kf ⟨st.e,upd st.h x (some (.var tv (cs.map R.c))),st.d⟩ st:=Sub.varPure h hp
theorem cv {kf:List Nat}{st:St}(t:Nat) {id te es n sz:Nat}{l:List (List C)}(l':List (List C)) (h:st.e t=some (.one (.hs id 0 n sz)):=by rfl) (hh:st.h id=some (.arr te es l 2):=by rfl) (h1:n=l.length:=by first | rfl | assumption | (simp;done) | (simp;omega)) (h2:sz=l.length:=by first | rfl | assumption | (simp;done) | (simp;omega)) (h3:l=l':=by first | rfl | assumption | (simp;done)):Sub kf ⟨upd st.e t (some (.one (.c (.sl es l')))),st.h,st.d⟩ st:=by
 subst h3;exact Sub.conv h (.one (.hs hh h2 (by rw[h1,Cd,Au]) .nil))
end Go.AM
namespace Go.Proofs.YtockgoadliilhaaGreatDoor
open Go Go.AM
def zl_:Tr:=.leaf none
def zl0:Tr:=.leaf (some ⟨.fn,1,8,[.zv 1]⟩)
def zl1:Tr:=.leaf (some ⟨.int .u8,1,1,[.int .u8 0]⟩)
def zl2:Tr:=.leaf (some ⟨.int .i64,1,8,[.int .i64 0]⟩)
def zl3:Tr:=.leaf (some ⟨.str,1,16,[.str []]⟩)
def zl4:Tr:=.leaf (some ⟨.int .u64,1,8,[.int .u64 0]⟩)
def zl5:Tr:=.leaf (some ⟨.int .i32,1,4,[.int .i32 0]⟩)
def zl6:Tr:=.leaf (some ⟨.st [(0,24),(1,25)],2,48,[.nl,.nl]⟩)
def zl7:Tr:=.leaf (some ⟨.st [(0,22),(1,3)],2,32,[.nl,.int .i64 0]⟩)
def tr:Tr:=
 .node 101 (.node 50 (.node 25 (.node 12 (.node 6 (.node 3 (.node 1 zl_ (.node 1 zl0 zl2)) (.node 1 zl2 (.node 1 (.leaf (some ⟨.bool,1,1,[.bool false]⟩)) zl1))) (.node 3 (.node 1 zl1 (.node 1 (.leaf (some ⟨.st [(0,2),(1,3),(2,4),(3,6)],4,24,[.int .i64 0,.int .i64 0,.bool false,.int .u8 0]⟩)) (.leaf (some ⟨.st [(0,2),(1,3),(2,4),(3,6)],4,24,[.int .i64 0,.int .i64 0,.bool false,.int .u8 0]⟩)))) (.node 1 zl3 (.node 1 zl3 zl3)))) (.node 6 (.node 3 (.node 1 zl4 (.node 1 (.leaf (some ⟨.st [(0,9),(1,12)],2,24,[.str [],.int .u64 0]⟩)) (.leaf (some ⟨.st [(0,9),(1,12)],2,24,[.str [],.int .u64 0]⟩)))) (.node 1 (.leaf (some ⟨.pt 189,1,8,[.np]⟩)) (.node 1 (.leaf (some ⟨.pt 192,1,8,[.np]⟩)) (.leaf (some ⟨.pt 200,1,8,[.np]⟩))))) (.node 3 (.node 1 (.leaf (some ⟨.st [(0,17)],1,8,[.np]⟩)) (.node 1 (.leaf (some ⟨.st [(0,17)],1,8,[.np]⟩)) zl_)) (.node 2 (.node 1 zl5 (.leaf (some ⟨.sl 3,1,24,[.nl]⟩))) (.node 1 (.leaf (some ⟨.sl 22,1,24,[.nl]⟩)) (.leaf (some ⟨.sl 95,1,24,[.nl]⟩))))))) (.node 12 (.node 6 (.node 3 (.node 1 (.leaf (some ⟨.sl 58,1,24,[.nl]⟩)) (.node 1 zl6 zl6)) (.node 1 zl6 (.node 1 zl_ zl0))) (.node 3 (.node 1 (.leaf (some ⟨.sl 33,1,24,[.nl]⟩)) (.node 1 (.leaf (some ⟨.st [(0,3),(1,3),(2,9),(3,31)],4,56,[.int .i64 0,.int .i64 0,.str [],.nl]⟩)) (.leaf (some ⟨.st [(0,3),(1,3),(2,9),(3,31)],4,56,[.int .i64 0,.int .i64 0,.str [],.nl]⟩)))) (.node 1 (.leaf (some ⟨.sl 37,1,24,[.nl]⟩)) (.node 1 (.leaf (some ⟨.sl 88,1,24,[.nl]⟩)) (.leaf (some ⟨.st [(0,3),(1,3),(2,9),(3,33),(7,34),(8,25),(9,35)],10,160,[.int .i64 0,.int .i64 0,.str [],.int .i64 0,.int .i64 0,.str [],.nl,.nl,.nl,.nl]⟩)))))) (.node 6 (.node 3 (.node 1 (.leaf (some ⟨.st [(0,3),(1,3),(2,9),(3,33),(7,34),(8,25),(9,35)],10,160,[.int .i64 0,.int .i64 0,.str [],.int .i64 0,.int .i64 0,.str [],.nl,.nl,.nl,.nl]⟩)) (.node 1 zl0 zl_)) (.node 1 zl0 (.node 1 zl2 zl_))) (.node 3 (.node 1 zl0 (.node 1 zl0 zl0)) (.node 2 (.node 1 zl0 zl0) (.node 1 zl0 zl0)))))) (.node 25 (.node 12 (.node 6 (.node 3 (.node 1 zl0 (.node 1 zl0 (.leaf (some ⟨.sl 54,1,24,[.nl]⟩)))) (.node 1 (.leaf (some ⟨.st [(0,3),(1,3),(2,9),(3,52)],4,56,[.int .i64 0,.int .i64 0,.str [],.nl]⟩)) (.node 1 (.leaf (some ⟨.st [(0,3),(1,3),(2,9),(3,52)],4,56,[.int .i64 0,.int .i64 0,.str [],.nl]⟩)) zl_))) (.node 3 (.node 1 zl0 (.node 1 (.leaf (some ⟨.st [(0,9),(1,33),(5,37)],15,232,[.str [],.int .i64 0,.int .i64 0,.str [],.nl,.int .i64 0,.int .i64 0,.str [],.int .i64 0,.int .i64 0,.str [],.nl,.nl,.nl,.nl]⟩)) (.leaf (some ⟨.st [(0,9),(1,33),(5,37)],15,232,[.str [],.int .i64 0,.int .i64 0,.str [],.nl,.int .i64 0,.int .i64 0,.str [],.int .i64 0,.int .i64 0,.str [],.nl,.nl,.nl,.nl]⟩)))) (.node 1 zl0 (.node 1 zl0 zl0)))) (.node 6 (.node 3 (.node 1 zl0 (.node 1 zl0 (.leaf (some ⟨.sl 9,1,24,[.nl]⟩)))) (.node 1 (.leaf (some ⟨.pt 68,1,8,[.np]⟩)) (.node 1 zl0 zl7))) (.node 3 (.node 1 zl7 (.node 1 zl0 (.leaf (some ⟨.pt 71,1,8,[.np]⟩)))) (.node 2 (.node 1 zl7 zl0) (.node 1 zl0 zl0))))) (.node 13 (.node 6 (.node 3 (.node 1 zl0 (.node 1 (.leaf (some ⟨.sl 146,1,24,[.nl]⟩)) (.leaf (some ⟨.st [(0,76),(1,64),(2,3)],3,56,[.nl,.nl,.int .i64 0]⟩)))) (.node 1 (.leaf (some ⟨.st [(0,76),(1,64),(2,3)],3,56,[.nl,.nl,.int .i64 0]⟩)) (.node 1 zl0 zl0))) (.node 3 (.node 1 (.leaf (some ⟨.st [(0,27)],2,48,[.nl,.nl]⟩)) (.node 1 (.leaf (some ⟨.st [(0,27)],2,48,[.nl,.nl]⟩)) zl0)) (.node 2 (.node 1 zl0 zl0) (.node 1 zl0 (.leaf (some ⟨.st [(0,3),(1,3),(2,9),(3,64),(4,37)],14,216,[.int .i64 0,.int .i64 0,.str [],.nl,.int .i64 0,.int .i64 0,.str [],.int .i64 0,.int .i64 0,.str [],.nl,.nl,.nl,.nl]⟩)))))) (.node 6 (.node 3 (.node 1 (.leaf (some ⟨.st [(0,3),(1,3),(2,9),(3,64),(4,37)],14,216,[.int .i64 0,.int .i64 0,.str [],.nl,.int .i64 0,.int .i64 0,.str [],.int .i64 0,.int .i64 0,.str [],.nl,.nl,.nl,.nl]⟩)) (.node 1 zl0 zl0)) (.node 1 zl0 (.node 1 zl_ zl0))) (.node 3 (.node 1 (.leaf (some ⟨.st [(0,9),(1,3),(2,3),(3,3),(4,33)],8,96,[.str [],.int .i64 0,.int .i64 0,.int .i64 0,.int .i64 0,.int .i64 0,.str [],.nl]⟩)) (.node 1 (.leaf (some ⟨.st [(0,9),(1,3),(2,3),(3,3),(4,33)],8,96,[.str [],.int .i64 0,.int .i64 0,.int .i64 0,.int .i64 0,.int .i64 0,.str [],.nl]⟩)) zl0)) (.node 2 (.node 1 (.leaf (some ⟨.pt 99,1,8,[.np]⟩)) (.leaf (some ⟨.st [(0,27),(2,3)],3,56,[.nl,.nl,.int .i64 0]⟩))) (.node 1 (.leaf (some ⟨.st [(0,27),(2,3)],3,56,[.nl,.nl,.int .i64 0]⟩)) zl0))))))) (.node 50 (.node 25 (.node 12 (.node 6 (.node 3 (.node 1 zl0 (.node 1 zl0 zl0)) (.node 1 zl0 (.node 1 zl0 zl0))) (.node 3 (.node 1 zl0 (.node 1 zl0 zl0)) (.node 1 zl_ (.node 1 zl0 zl0)))) (.node 6 (.node 3 (.node 1 zl0 (.node 1 zl_ zl0)) (.node 1 zl0 (.node 1 zl0 (.leaf (some ⟨.pt 37,1,8,[.np]⟩))))) (.node 3 (.node 1 zl0 (.node 1 zl0 (.leaf (some ⟨.sl 126,1,24,[.nl]⟩)))) (.node 2 (.node 1 zl0 (.leaf (some ⟨.sl 158,1,24,[.nl]⟩))) (.node 1 (.leaf (some ⟨.sl 118,1,24,[.nl]⟩)) (.leaf (some ⟨.st [(0,123),(1,124)],2,48,[.nl,.nl]⟩))))))) (.node 12 (.node 6 (.node 3 (.node 1 (.leaf (some ⟨.st [(0,123),(1,124)],2,48,[.nl,.nl]⟩)) (.node 1 zl_ zl0)) (.node 1 zl0 (.node 1 zl0 zl_))) (.node 3 (.node 1 zl0 (.node 1 zl0 zl0)) (.node 1 zl0 (.node 1 (.leaf (some ⟨.sl 5,1,24,[.nl]⟩)) zl0)))) (.node 6 (.node 3 (.node 1 zl0 (.node 1 zl0 zl0)) (.node 1 zl0 (.node 1 zl0 zl0))) (.node 3 (.node 1 zl0 (.node 1 (.leaf (some ⟨.st [(0,9),(1,33)],5,72,[.str [],.int .i64 0,.int .i64 0,.str [],.nl]⟩)) (.leaf (some ⟨.st [(0,9),(1,33)],5,72,[.str [],.int .i64 0,.int .i64 0,.str [],.nl]⟩)))) (.node 2 (.node 1 zl0 zl0) (.node 1 zl0 zl0)))))) (.node 25 (.node 12 (.node 6 (.node 3 (.node 1 zl0 (.node 1 zl0 zl_)) (.node 1 (.leaf (some ⟨.mp 9 152,1,8,[.zv 0]⟩)) (.node 1 zl0 zl0))) (.node 3 (.node 1 zl0 (.node 1 (.leaf (some ⟨.pt 9,1,8,[.np]⟩)) (.leaf (some ⟨.pt 58,1,8,[.np]⟩)))) (.node 1 (.leaf (some ⟨.pt 88,1,8,[.np]⟩)) (.node 1 zl0 zl0)))) (.node 6 (.node 3 (.node 1 zl0 (.node 1 zl0 zl0)) (.node 1 zl0 (.node 1 zl0 zl0))) (.node 3 (.node 1 zl0 (.node 1 zl0 zl_)) (.node 2 (.node 1 zl4 zl0) (.node 1 zl0 zl_))))) (.node 13 (.node 6 (.node 3 (.node 1 zl0 (.node 1 zl0 zl_)) (.node 1 (.leaf (some ⟨.int .u32,1,4,[.int .u32 0]⟩)) (.node 1 zl_ zl0))) (.node 3 (.node 1 zl4 (.node 1 zl0 zl0)) (.node 2 (.node 1 zl_ zl_) (.node 1 zl0 (.leaf (some ⟨.st [(0,17),(1,17),(2,17),(3,9)],4,40,[.np,.np,.np,.str []]⟩)))))) (.node 6 (.node 3 (.node 1 (.leaf (some ⟨.st [(0,17),(1,17),(2,17),(3,9)],4,40,[.np,.np,.np,.str []]⟩)) (.node 1 (.leaf (some ⟨.ar 0 16,0,0,[]⟩)) (.leaf (some ⟨.st [(0,190)],0,0,[]⟩)))) (.node 1 (.leaf (some ⟨.st [(0,190)],0,0,[]⟩)) (.node 1 zl1 zl1))) (.node 3 (.node 1 zl0 (.node 1 (.leaf (some ⟨.pt 5,1,8,[.np]⟩)) zl5)) (.node 2 (.node 1 zl5 (.leaf (some ⟨.st [(0,12),(1,12),(2,179),(3,193),(4,5),(5,5),(6,194),(7,195),(8,196),(9,197),(10,198)],11,48,[.int .u64 0,.int .u64 0,.int .u32 0,.int .u8 0,.int .u8 0,.int .u8 0,.int .u8 0,.zv 1,.np,.int .i32 0,.int .i32 0]⟩))) (.node 1 (.leaf (some ⟨.st [(0,12),(1,12),(2,179),(3,193),(4,5),(5,5),(6,194),(7,195),(8,196),(9,197),(10,198)],11,48,[.int .u64 0,.int .u64 0,.int .u32 0,.int .u8 0,.int .u8 0,.int .u8 0,.int .u8 0,.zv 1,.np,.int .i32 0,.int .i32 0]⟩)) zl_)))))))
theorem trw:tr.wf=true:=by kernel_rfl
theorem tok:Tok Tryz.prog tr.flat:=by unfold Tok;kernel_rfl
theorem tg {t:Nat}{i:TI}(h:tr.get t=some i):tr.flat[t]?=some (some i):=Tr.get_ok trw h
theorem mixed:Tryz.prog.follows .mixedOrders=true:=by kernel_rfl
section
variable {ro:Option Nat}{n:Nat}{ops:Array Oper}{draw:Bool}{k k':Nat}{e:Nat→Option V}{h0:cO}{d0:List Nat}{st':St}{pre pre':REs}{tr':Tr}{ob:List Prop}{kf:List Nat}{id:Nat}
theorem ag {Q:Exit→St→Prop}(hs:List (Nat×Hn)) (h:uL Tryz.prog tr true false n ops.toList hs 1000 0 ops.toList e h0 d0 [] []=some (st',k',pre',ob)) (I:Q .normal st')
  (hc:iC ob:=by repeat (first | exact trivial | refine⟨by first | omega | assumption | exact⟨by kernel_rfl,by assumption⟩ | rfl | (simp only[Bk,List.length_nil];omega) | (simp;done) | (simp;omega),?_⟩)) (h1:Nat.beq k' ops.size=true:=by rfl) (h2:(!draw || (fC (oE ops) pre'.reverse []&&gY ops))=true:=by kernel_rfl):AWp ro Tryz.prog n kf (.region id ops draw) ⟨e,h0,d0⟩ Q:=
 aRz mixed trw tok h hc h1 h2 I
theorem agN {Q:Exit→St→Prop}(hs:List (Nat×Hn)) (h:uL Tryz.prog tr true true n ops.toList hs 1000 0 ops.toList e h0 d0 [] []=some (st',k',pre',ob)) (I:Q .normal st')
  (hc:iC ob:=by repeat (first | exact trivial | refine⟨by first | omega | assumption | exact⟨by kernel_rfl,by assumption⟩ | rfl | (simp only[Bk,List.length_nil];omega) | (simp;done) | (simp;omega),?_⟩)) (h1:Nat.beq k' ops.size=true:=by rfl) (h2:(!draw || (fC (oE ops) pre'.reverse []&&gY ops))=true:=by kernel_rfl):AWp ro Tryz.prog n kf (.region id ops draw) ⟨e,h0,d0⟩ Q:=
 aRz mixed trw tok h hc h1 h2 I
theorem ak {Q:St→Prop}(m:Nat) (hs:List (Nat×Hn)) (h:uL Tryz.prog tr true false n ops.toList hs m k (ops.toList.drop k) e h0 d0 pre []=some (st',k',pre',ob)) (hk:kE Tryz.prog n ops draw k' st' pre' Q)
  (hc:iC ob:=by repeat (first | exact trivial | refine⟨by first | omega | assumption | exact⟨by kernel_rfl,by assumption⟩ | rfl | (simp only[Bk,List.length_nil];omega) | (simp;done) | (simp;omega),?_⟩)):kE Tryz.prog n ops draw k ⟨e,h0,d0⟩ pre Q:=
 ax_ m trw tok h hc hk
theorem akN {Q:St→Prop}(m:Nat) (hs:List (Nat×Hn)) (h:uL Tryz.prog tr true true n ops.toList hs m k (ops.toList.drop k) e h0 d0 pre []=some (st',k',pre',ob)) (hk:kE Tryz.prog n ops draw k' st' pre' Q)
  (hc:iC ob:=by repeat (first | exact trivial | refine⟨by first | omega | assumption | exact⟨by kernel_rfl,by assumption⟩ | rfl | (simp only[Bk,List.length_nil];omega) | (simp;done) | (simp;omega),?_⟩)):kE Tryz.prog n ops draw k ⟨e,h0,d0⟩ pre Q:=
 ax_ m trw tok h hc hk
theorem agF {Q:Exit→St→Prop}{N:Nat→Option V}{I:cO}{d1:List Nat}{J:List Prop}{res:Res}{L:List (Nat×Option V)}(m:Nat) (hs:List (Nat×Hn)) (g1:uL Tryz.prog tr true false n ops.toList hs m 0 ops.toList e h0 d0 [] []=some (⟨N,I,d1⟩,k',pre',J))
  (g2:nZ Tryz.prog tr true false n ops.toList hs (aUw (ops.toList.drop k')) 1000 k' (ops.toList.drop k') N I d1 [] pre' J=some res) (g3:rM res (aUw (ops.toList.drop k'))=some L) (O:Q .normal ⟨mK N L,I,d1⟩)
  (W:res.obs:=by repeat (first | exact trivial | refine⟨fun _=>?_,fun _=>?_⟩ | refine⟨by first | omega | assumption | exact⟨by kernel_rfl,by assumption⟩ | rfl | (simp only[Bk,List.length_nil];omega) | (simp;done) | (simp;omega),?_⟩)) (hg:res.good ops draw=true:=by kernel_rfl):AWp ro Tryz.prog n kf (.region id ops draw) ⟨e,h0,d0⟩ Q:=
 aUf m mixed trw tok g1 g2 g3 W hg O
theorem az {Q:St→Prop}(I:Q ⟨e,h0,d0⟩) (h1:Nat.beq k ops.size=true:=by rfl) (h2:(!draw || (fC (oE ops) pre.reverse []&&gY ops))=true:=by kernel_rfl):kE Tryz.prog n ops draw k ⟨e,h0,d0⟩ pre Q:=z_ h1 h2 I
theorem sgh {Q:Exit→St→Prop}{y:Code}(hs:List (Nat×Hn)) (h:uL Tryz.prog tr true false n ops.toList hs 1000 0 ops.toList e h0 d0 [] []=some (st',k',pre',ob)) (I:AWp ro Tryz.prog n kf y st' Q)
  (hc:iC ob:=by repeat (first | exact trivial | refine⟨by first | omega | assumption | exact⟨by kernel_rfl,by assumption⟩ | rfl | (simp only[Bk,List.length_nil];omega) | (simp;done) | (simp;omega),?_⟩)) (h1:Nat.beq k' ops.size=true:=by rfl) (h2:(!draw || (fC (oE ops) pre'.reverse []&&gY ops))=true:=by kernel_rfl):AWp ro Tryz.prog n kf (.seq (.region id ops draw) y) ⟨e,h0,d0⟩ Q:=
 a8 (ag hs h I hc h1 h2)
theorem sg {Q:Exit→St→Prop}{y:Code}(h:uL Tryz.prog tr true false n ops.toList [] 1000 0 ops.toList e h0 d0 [] []=some (st',k',pre',ob)) (I:AWp ro Tryz.prog n kf y st' Q)
  (hc:iC ob:=by repeat (first | exact trivial | refine⟨by first | omega | assumption | exact⟨by kernel_rfl,by assumption⟩ | rfl | (simp only[Bk,List.length_nil];omega) | (simp;done) | (simp;omega),?_⟩)) (h1:Nat.beq k' ops.size=true:=by rfl) (h2:(!draw || (fC (oE ops) pre'.reverse []&&gY ops))=true:=by kernel_rfl):AWp ro Tryz.prog n kf (.seq (.region id ops draw) y) ⟨e,h0,d0⟩ Q:=
 sgh [] h I hc h1 h2
theorem skh {Q:Exit→St→Prop}{y:Code}(m:Nat) (hs:List (Nat×Hn)) (h:uL Tryz.prog tr true false n ops.toList hs m 0 (ops.toList.drop 0) e h0 d0 [] []=some (st',k',pre',ob)) (hk:kE Tryz.prog n ops draw k' st' pre' (fun st'=>AWp ro Tryz.prog n kf y st' Q))
  (hc:iC ob:=by repeat (first | exact trivial | refine⟨by first | omega | assumption | exact⟨by kernel_rfl,by assumption⟩ | rfl | (simp only[Bk,List.length_nil];omega) | (simp;done) | (simp;omega),?_⟩)):AWp ro Tryz.prog n kf (.seq (.region id ops draw) y) ⟨e,h0,d0⟩ Q:=
 a8 (aE mixed (ak m hs h hk hc))
theorem sk {Q:Exit→St→Prop}{y:Code}(m:Nat) (h:uL Tryz.prog tr true false n ops.toList [] m 0 (ops.toList.drop 0) e h0 d0 [] []=some (st',k',pre',ob)) (hk:kE Tryz.prog n ops draw k' st' pre' (fun st'=>AWp ro Tryz.prog n kf y st' Q))
  (hc:iC ob:=by repeat (first | exact trivial | refine⟨by first | omega | assumption | exact⟨by kernel_rfl,by assumption⟩ | rfl | (simp only[Bk,List.length_nil];omega) | (simp;done) | (simp;omega),?_⟩)):AWp ro Tryz.prog n kf (.seq (.region id ops draw) y) ⟨e,h0,d0⟩ Q:=
 skh m [] h hk hc
theorem kz {Q:St→Prop}(m:Nat) (h:uL Tryz.prog tr true false n ops.toList [] m k (ops.toList.drop k) e h0 d0 pre []=some (st',k',pre',ob)) (I:Q st')
  (hc:iC ob:=by repeat (first | exact trivial | refine⟨by first | omega | assumption | exact⟨by kernel_rfl,by assumption⟩ | rfl | (simp only[Bk,List.length_nil];omega) | (simp;done) | (simp;omega),?_⟩)) (h1:Nat.beq k' ops.size=true:=by rfl) (h2:(!draw || (fC (oE ops) pre'.reverse []&&gY ops))=true:=by kernel_rfl):kE Tryz.prog n ops draw k ⟨e,h0,d0⟩ pre Q:=
 ak m [] h (z_ h1 h2 I) hc
end
set_option maxRecDepth 20000
abbrev Str:=List UInt8
def bO (s:Str):List C:=[.str s]
inductive Ty where
 | mk (form n:Int) (name:Str) (args:List Ty)
mutual
inductive Core where
 | mk (form n:Int) (name:Str) (ty:Ty) (kids:List Core) (binds:List Bind) (alts:List Alt)
inductive Bind where
 | mk (name:Str) (ty:Ty) (body:Core)
inductive Alt where
 | mk (form n:Int) (name:Str) (vars:List Str) (body:Core)
end
def Ty.form:Ty→Int | .mk f _ _ _=>f
def Ty.n:Ty→Int | .mk _ n _ _=>n
def Ty.name:Ty→Str | .mk _ _ s _=>s
def Ty.args:Ty→List Ty | .mk _ _ _ l=>l
def Core.form:Core→Int | .mk f _ _ _ _ _ _=>f
def Core.n:Core→Int | .mk _ n _ _ _ _ _=>n
def Core.name:Core→Str | .mk _ _ s _ _ _ _=>s
def Core.ty:Core→Ty | .mk _ _ _ t _ _ _=>t
def Core.kids:Core→List Core | .mk _ _ _ _ l _ _=>l
def Core.binds:Core→List Bind | .mk _ _ _ _ _ l _=>l
def Core.alts:Core→List Alt | .mk _ _ _ _ _ _ l=>l
def Bind.name:Bind→Str | .mk s _ _=>s
def Bind.ty:Bind→Ty | .mk _ t _=>t
def Bind.body:Bind→Core | .mk _ _ c=>c
def Alt.form:Alt→Int | .mk f _ _ _ _=>f
def Alt.n:Alt→Int | .mk _ n _ _ _=>n
def Alt.name:Alt→Str | .mk _ _ s _ _=>s
def Alt.vars:Alt→List Str | .mk _ _ _ l _=>l
def Alt.body:Alt→Core | .mk _ _ _ _ c=>c
mutual
def gC:Ty→List (List C)
 | .mk _ _ _ a=>dT a
def dT:List Ty→List (List C)
 | []=>[]
 | t::l=>[.int .i64 t.form,.int .i64 t.n,.str t.name,.sl 4 (gC t)]::dT l
end
def bD (t:Ty):List C:=[.int .i64 t.form,.int .i64 t.n,.str t.name,.sl 4 (gC t)]
mutual
def rZ:Core→List (List C)
 | .mk _ _ _ _ l _ _=>aQ l
def l9:Core→List (List C)
 | .mk _ _ _ _ _ l _=>aR l
def gM:Core→List (List C)
 | .mk _ _ _ _ _ _ l=>c8 l
def aQ:List Core→List (List C)
 | []=>[]
 | c::l=>[.int .i64 c.form,.int .i64 c.n,.str c.name,.int .i64 c.ty.form,.int .i64 c.ty.n,.str c.ty.name,.sl 4 (gC c.ty),.sl 10 (rZ c),.sl 15 (l9 c),.sl 14 (gM c)]::aQ l
def aTq:Bind→List C
 | .mk _ _ c=>[.int .i64 c.form,.int .i64 c.n,.str c.name,.int .i64 c.ty.form,.int .i64 c.ty.n,.str c.ty.name,.sl 4 (gC c.ty),.sl 10 (rZ c),.sl 15 (l9 c),.sl 14 (gM c)]
def aR:List Bind→List (List C)
 | []=>[]
 | b::l=>([.str b.name,.int .i64 b.ty.form,.int .i64 b.ty.n,.str b.ty.name,.sl 4 (gC b.ty)]++aTq b)::aR l
def aTp:Alt→List C
 | .mk _ _ _ _ c=>[.int .i64 c.form,.int .i64 c.n,.str c.name,.int .i64 c.ty.form,.int .i64 c.ty.n,.str c.ty.name,.sl 4 (gC c.ty),.sl 10 (rZ c),.sl 15 (l9 c),.sl 14 (gM c)]
def c8:List Alt→List (List C)
 | []=>[]
 | a::l=>([.int .i64 a.form,.int .i64 a.n,.str a.name,.sl 1 (a.vars.map bO)]++aTp a)::c8 l
end
def aB (c:Core):List C:=[.int .i64 c.form,.int .i64 c.n,.str c.name,.int .i64 c.ty.form,.int .i64 c.ty.n,.str c.ty.name,.sl 4 (gC c.ty),.sl 10 (rZ c),.sl 15 (l9 c),.sl 14 (gM c)]
def bC (b:Bind):List C:=[.str b.name,.int .i64 b.ty.form,.int .i64 b.ty.n,.str b.ty.name,.sl 4 (gC b.ty)]++aB b.body
def cR (a:Alt):List C:=[.int .i64 a.form,.int .i64 a.n,.str a.name,.sl 1 (a.vars.map bO)]++aB a.body
theorem bJ {α:Type}{l:List α}{k:Nat}{x:α}(f:α→List C) (h:l[k]?=some x):(l.map f)[k]?=some (f x):=by rw[A5,h];rfl
theorem aK {α:Type}{l:List α}{k:Nat}(h:k<l.length):∃x,l[k]?=some x:=⟨l[k],by simp[h]⟩
theorem aZ:∀l:List Core,aQ l=l.map aB
 | []=>by simp[aQ]
 | c::l=>by rw[aQ,aZ l];rfl
theorem bP:∀l:List Bind,aR l=l.map bC
 | []=>by simp[aR]
 | .mk s t c::l=>by rw[aR,bP l];rfl
theorem c6:∀l:List Alt,c8 l=l.map cR
 | []=>by simp[c8]
 | .mk f n s v c::l=>by rw[c8,c6 l];rfl
theorem eU:∀l:List Ty,dT l=l.map bD
 | []=>by simp[dT]
 | c::l=>by rw[dT,eU l];rfl
theorem aBz (c:Core):gM c=c.alts.map cR:=by cases c;rw[gM,c6];rfl
def Fits {α:Type}(l:List α):Prop:=l.length≤1152921504606846976
theorem aZx (l:List Str) (s:Str) (hl:Fits l):aW Tryz.prog 63 [.one (.c (.sl 1 (l.map bO))),Go.AM.T s] [] (B (decide (s∈l))) []:=by
 unfold Fits at hl;refine bT (n:=18) tok Tryz.func63 rfl rfl rfl ?_;refine sg rfl (a8 (sg rfl (aC (aL (fun k:Nat=>mk [(0,.one (.c (.sl 1 (l.map bO)))),(1,Go.AM.T s),(5,I .i64 k)] []) (fun k=>k≤l.length∧s∉l.take k) (fun k=>l.length-k) 0 ⟨Ak _,by simp⟩ (.list (fun i=>i) ⟨rfl,rfl,rfl,trivial⟩ trivial rfl) ?_))));intro k ⟨hk,hm⟩;refine a8 (sg rfl (aA rfl (fun hb=>?_) (fun hb=>?_)))
 ·refine aD ?_;have N:k<l.length:=by simpa using hb
  obtain⟨x,hx⟩:=aK N;have Y:=bJ bO hx;refine a8 (aC (sgh [(2,.row k (bO x))] rfl (aA rfl (fun hb=>?_) (fun hb=>?_))))
  ·refine sg rfl (aI ?_);have J:x=s:=by simpa using hb
   have:s∈l:=by rw[←J];exact η hx
   exact⟨.inr rfl,⟨_,_,.tmp rfl .nil,.cons .refl .nil,by simp[aQb,this]⟩,trivial,rfl⟩
  ·refine aD (ag [] rfl ⟨k+1,⟨N,?_⟩,by dsimp only;omega,.list (fun i=>i) ⟨rfl,rfl,rfl,trivial⟩ trivial rfl⟩);rw[Bh,hx];have J:¬x=s:=by simpa using hb
   have O:¬s=x:=fun e=>J e.symm
   simp[hm,O]
 ·refine aM ?_;have W:k=l.length:=by
   have:¬k<l.length:=by simpa using hb
   omega
  refine sg rfl (aI ?_);rw[W,Au] at hm;exact⟨.inr rfl,⟨_,_,.tmp rfl .nil,.cons .refl .nil,by simp[aQb,hm]⟩,trivial,rfl⟩
def pD (n k:Int):Int:=(if n<0 then -(n+1) else n)%k
def i64 (n:Int):Prop:= -9223372036854775808≤n∧n≤9223372036854775807
theorem aAd (n:Int) {k:Int}(hk:0<k):0≤pD n k∧pD n k<k:=⟨Int.emod_nonneg _ (by omega),Int.emod_lt_of_pos _ hk⟩
theorem aFe (n k:Int) (hn:i64 n) (hk:1≤k):aW Tryz.prog 16 [I .i64 n,I .i64 k] [] (I .i64 (pD n k)) []:=by
 unfold i64 at hn;refine bT (n:=13) tok Tryz.func16 rfl rfl rfl ?_;refine sg rfl (a8 (sg rfl (aA rfl (fun hb=>?_) (fun hb=>?_))))
 ·have h0:n<0:=by simpa using hb
  exact ag [] rfl (sg rfl (aI ⟨.inr rfl,⟨_,_,.tmp rfl .nil,.cons .refl .nil,by simp[aQb,pD,h0]⟩,trivial,rfl⟩))
 ·have h0:¬n<0:=by simpa using hb
  exact aD (sg rfl (aI ⟨.inr rfl,⟨_,_,.tmp rfl .nil,.cons .refl .nil,by simp[aQb,pD,h0]⟩,trivial,rfl⟩))
def aM8 (n:Int):List C:=[.int .i64 n]
def nmL:List Str:=[[120],[121],[97],[98],[122,64,49]]
def aOa:List Str:=[[97,100,100],[115,117,98],[109,117,108],[100,105,118],[101,113],[108,116]]
def a0i:List Str:=[[97],[98],[99],[120]]
def aM6 (a b:Ty):Ty:=.mk 4 0 [] [a,b]
def arrow:Str:=[45,62]
def iR (a b:Ty):Ty:=aM6 (aM6 (.mk 3 0 arrow []) a) b
theorem aX3 (a b:Ty):aW Tryz.prog 57 [.pa (bD a),.pa (bD b)] [] (.pa (bD (aM6 a b))) []:=by
 obtain⟨f,n,s,l⟩:=a;obtain⟨f',n',s',l'⟩:=b;refine bT (n:=9) tok Tryz.func57 rfl rfl rfl ?_;refine sg rfl (sg rfl (AWp.sub (Sub.freeze (id:=7) rfl) (aI ?_)));exact⟨.inr rfl,⟨_,_,.cell rfl (tg rfl) rfl rfl rfl .nil,.cons (.agg (.c .refl (.c .refl (.c .refl (.hs rfl rfl rfl .nil))))) .nil,rfl⟩,trivial,rfl⟩
theorem sP (a b:Ty):aW Tryz.prog 26 [.pa (bD a),.pa (bD b)] [] (.pa (bD (iR a b))) []:=by
 obtain⟨f,n,s,l⟩:=a;obtain⟨f',n',s',l'⟩:=b;refine bT (n:=10) tok Tryz.func26 rfl rfl rfl ?_;refine sg rfl (sk 2 rfl (kc (aX3 (.mk 3 0 arrow []) (.mk f n s l)) ?_));refine ak 1 [] rfl (kc (aX3 (aM6 (.mk 3 0 arrow []) (.mk f n s l)) (.mk f' n' s' l')) ?_);exact kz 1 rfl (aI ⟨.inr rfl,⟨_,_,.cell rfl (tg rfl) rfl rfl rfl .nil,.cons .refl .nil,rfl⟩,trivial,rfl⟩)
def aR5 (l:List Int):Prop:=∀x∈l,i64 x
theorem aR5.suf {l l':List Int}(h:aR5 l) (hs:l'<:+l):aR5 l':=fun x hx=>h x (hs.subset hx)
theorem Fits.suf {l l':List Int}(h:Fits l) (hs:l'<:+l):Fits l':=by
 have:=hs.length_le;unfold Fits at *;omega
def aG5:Ty:=.mk 3 0 [73,110,116] []
def tyV (t:Ty):V:=.pa (bD t)
def zTy:Ty:=.mk 0 0 [] []
theorem aXx (l:List Int) (k:Nat) (hf:Fits l) (hk:k≤1000):aW Tryz.prog 22 [.one (.c (.sl 1 (l.map aM8))),I .i64 k] [] (.one (.c (.sl 1 ((l.take k).map aM8)))) []:=by
 unfold Fits at hf;refine bT (n:=14) tok Tryz.func22 rfl rfl rfl ?_;refine sg rfl (sg rfl (sk 6 rfl ?_));have hm:(if(k:Int)<(((l.map aM8).length:Nat):Int) then(k:Int) else(((l.map aM8).length:Nat):Int))=((min l.length k:Nat):Int):=by
  rw[ξ];split<;>omega
 rw[hm];have ht:(l.map aM8).take (min l.length k)=(l.take k).map aM8:=by
  rw[←List.map_take];congr 1;by_cases h:k≤l.length
  ·rw[Nat.min_eq_right h]
  ·rw[B8 (by omega),Ba (le_refl _),Ba (by omega)]
 have hl:((l.map aM8).take (min l.length k)).length≤1000:=by rw[At];omega
 refine akN 3 [] rfl (az (AWp.sub (Sub.freeze (id:=13) rfl) (aI ?_))) (hc:=⟨by omega,by rw[ξ];omega,by omega,trivial⟩);rw[←ht];exact⟨.inr rfl,⟨_,_,.tmp rfl .nil,.cons (.one (.hs rfl rfl (by rw[Cd,Au]) .nil)) .nil,rfl⟩,trivial,rfl⟩
def aU2:Core:=.mk 0 0 [] zTy [] [] []
mutual
def aU:Core→Nat
 | .mk _ _ s _ ks bs al=>1+s.length+bW ks+fW bs+fX al
def bW:List Core→Nat
 | []=>0
 | c::l=>aU c+bW l
def bsize:Bind→Nat
 | .mk s _ c=>1+s.length+aU c
def fW:List Bind→Nat
 | []=>0
 | b::l=>bsize b+fW l
def pM:Alt→Nat
 | .mk _ _ s vs c=>1+s.length+(vs.map (fun v=>1+v.length)).sum+aU c
def fX:List Alt→Nat
 | []=>0
 | a::l=>pM a+fX l
end
theorem bR (c:Core):1≤aU c:=by cases c;rw[aU];omega
theorem jE:∀l:List Core,l.length≤bW l
 | []=>Ak _
 | c::l=>by rw[bW,Aj];have:=jE l;have:=bR c;omega
theorem mD:∀{l:List Core}{c:Core},c∈l→aU c≤bW l
 | d::l,c,h=>by
  rw[bW];rcases Ao.1 h with rfl | h
  ·omega
  ·have:=mD h;omega
theorem jG:∀l:List Bind,l.length≤fW l
 | []=>Ak _
 | .mk s t c::l=>by rw[fW,bsize,Aj];have:=jG l;omega
theorem uI:∀{l:List Bind}{c:Bind},c∈l→bsize c≤fW l
 | d::l,c,h=>by
  rw[fW];rcases Ao.1 h with rfl | h
  ·omega
  ·have:=uI h;omega
theorem jH:∀l:List Alt,l.length≤fX l
 | []=>Ak _
 | .mk f n s vs c::l=>by rw[fX,pM,Aj];have:=jH l;omega
theorem eV:∀{l:List Alt}{c:Alt},c∈l→pM c≤fX l
 | d::l,c,h=>by
  rw[fX];rcases Ao.1 h with rfl | h
  ·omega
  ·have:=eV h;omega
theorem dJ {l:List Bind}{k:Nat}{x:Bind}(h:l[k]?=some x):(aR l)[k]?=some (bC x):=by rw[bP];exact bJ bC h
theorem iP {l:List Core}{k:Nat}{x:Core}(h:l[k]?=some x):(aQ l)[k]?=some (aB x):=by rw[aZ];exact bJ aB h
theorem uB {l:List Alt}{k:Nat}{x:Alt}(h:l[k]?=some x):(c8 l)[k]?=some (cR x):=by rw[c6];exact bJ cR h
theorem eC {α:Type}{l:List α}{k:Nat}{x:α}(h:l[k]?=some x):l.take (k+1)=l.take k++[x]:=by rw[Bh,h];rfl
def bM:List R:=[.c (.int .i64 0),.c (.int .i64 0),.c (.str []),.c (.int .i64 0),.c (.int .i64 0),.c (.str []),.c .nl,.c .nl,.c .nl,.c .nl]
def b9 (c:Core):List R:=(aB c).map R.c
theorem dW {f n:Int}{s:Str}{t:Ty}{ks:List Core}{bs:List Bind}{al:List Alt}:(∀x∈ks,aU x<aU (.mk f n s t ks bs al))∧(∀x∈bs,aU x.body<aU (.mk f n s t ks bs al))∧(∀x∈al,aU x.body<aU (.mk f n s t ks bs al))∧
  ks.length<aU (.mk f n s t ks bs al)∧bs.length<aU (.mk f n s t ks bs al)∧al.length<aU (.mk f n s t ks bs al):=by
 rw[aU];have I:=jE ks;have J:=jG bs;have N:=jH al;refine⟨fun x hx=>?_,fun x hx=>?_,fun x hx=>?_,by omega,by omega,by omega⟩
 ·have:=mD hx;omega
 ·have:=uI hx;obtain⟨s',t',c'⟩:=x;rw[bsize] at this;show aU c'<_;omega
 ·have:=eV hx;obtain⟨f',n',s',v',c'⟩:=x;rw[pM] at this;show aU c'<_;omega
theorem qT {α β:Type}(f:α→β) {l:List α}{i:Nat}{x:α}(h:l[i]?=some x):(l.take i).map f++[f x]=(l.take (i+1)).map f:=by rw[eC h,As];rfl
end Go.Proofs.YtockgoadliilhaaGreatDoor
namespace Go.AM
open Go Go.Proofs Go.Shelf
theorem aFl {ro:Option Nat}{P:Program}{n:Nat}{kf:List Nat}{c:Code}{st:St}{Q:Exit→St→Prop}(t:Nat) {es:Nat}{l:List (List C)}(h:st.e t=some (.one (.c (.sl es l)))) (h1:l=[]→AWp ro P n kf c ⟨upd st.e t (some (.one (.c .nl))),st.h,st.d⟩ Q)
  (h2:AWp ro P n kf c ⟨upd st.e t (some (.one (.c (.sn es l)))),st.h,st.d⟩ Q):AWp ro P n kf c st Q:=by
 intro G S μ a w Q' hg hs N;have hv:=hs.env t _ h
 have key:∀x:V,aY S μ st.h x (a.tmps.getD t undef)→Sim G n S μ ⟨upd st.e t (some x),st.h,st.d⟩ a w:=fun x hx=>⟨hs.inv,hs.size,hs.defers,fun s u e=>by
  by_cases I:s=t
  ·subst I;have:some x=some u:=by rw[←e];exact(aJ _ _ _).symm
   cases this;exact hx
  ·exact hs.env s u (by rw[←e];exact(b8 _ _ _ I).symm)⟩
 simp only[aY,bB,Rep] at hv;obtain⟨J,len,cap,O,Z,e3,e4,e5,e6,b,o,e7,e8⟩:=hv;cases J with
 | none=>
  obtain⟨e9,W⟩:=e5 rfl;have hl:l=[]:=Bb (by omega);exact h1 hl G S μ a w Q' hg (key _ (by simp only[aY,bB,Rep];rw[O,e9,W])) N
 | some J=>
  obtain⟨b',o',sp⟩:=J;have h6:=e6 _ rfl;obtain⟨h7,Y⟩:=e7 _ rfl;dsimp only at h6 h7 Y;subst h7 Y;exact h2 G S μ a w Q' hg (key _ (by simp only[aY,bB,Rep];exact⟨b',o',sp,len,cap,O,Z,e3,e4,h6,e8⟩)) N
end Go.AM
namespace Go.AM
open Go
def AObj.ren (σ:Nat→Nat):AObj→AObj
 | .var t cells=>.var t (R.renL σ cells)
 | .lp st j i e=>.lp st j i (aG7 σ e)
 | .rarr te es l=>.rarr te es (mI σ l)
 | .tok r k=>.tok (r.ren σ) k
 | o=>o
def renH (σ:Nat→Nat) (hl:List (Nat×AObj)):List (Nat×AObj):=hl.map fun p=>(σ p.1,p.2.ren σ)
section
mutual
theorem R.ren_ren {σ:Nat→Nat}(hσ:∀i,σ (σ i)=i):∀r:R,(r.ren σ).ren σ=r
 | .c _=>rfl
 | .hs ..=>by simp[R.ren,hσ]
 | .tl ..=>by simp[R.ren,hσ]
 | .vp ..=>by simp[R.ren,hσ]
 | .ep ..=>by simp[R.ren,hσ]
 | .mr _=>by simp[R.ren,hσ]
 | .clo f caps=>by simp[R.ren,R.renL_renL hσ caps]
 | .mth f r=>by simp[R.ren,R.ren_ren hσ r]
 | .yl _=>by simp[R.ren,hσ]
 | .ra ..=>by simp[R.ren,hσ]
 | .rp ..=>by simp[R.ren,hσ]
 | .ras n es l=>by simp[R.ren,R.renL_renL hσ l]
 | .pas l=>by simp[R.ren,R.renL_renL hσ l]
theorem R.renL_renL {σ:Nat→Nat}(hσ:∀i,σ (σ i)=i):∀l:List R,R.renL σ (R.renL σ l)=l
 | []=>rfl
 | r::l=>by simp[R.renL,R.ren_ren hσ r,R.renL_renL hσ l]
end
mutual
theorem V.ren_ren {σ:Nat→Nat}(hσ:∀i,σ (σ i)=i):∀r:V,(r.ren σ).ren σ=r
 | .one r=>by simp[V.ren,R.ren_ren hσ r]
 | .pa _=>rfl
 | .ma l=>by simp[V.ren,R.renL_renL hσ l]
 | .tup l=>by simp[V.ren,V.renL_renL hσ l]
theorem V.renL_renL {σ:Nat→Nat}(hσ:∀i,σ (σ i)=i):∀l:List V,V.renL σ (V.renL σ l)=l
 | []=>rfl
 | r::l=>by simp[V.renL,V.ren_ren hσ r,V.renL_renL hσ l]
end
variable {σ:Nat→Nat}(hσ:∀i,σ (σ i)=i)
include hσ
theorem yC:∀l:List (Nat×V),aG7 σ (aG7 σ l)=l
 | []=>rfl
 | (t,v)::l=>by simp[aG7,V.ren_ren hσ v,yC l]
theorem yA:∀l:List (List R),mI σ (mI σ l)=l
 | []=>rfl
 | r::l=>by simp[mI,R.renL_renL hσ r,yA l]
theorem Ole.to_ren (o:AObj):Ole σ o (o.ren σ):=by
 cases o with
 | var t cells=>exact .var (R.renL_renL hσ cells).symm
 | lp st j i e=>exact .lp (yC hσ e).symm
 | rarr te es l=>exact .rarr (yA hσ l).symm
 | tok r k=>exact .tok (R.ren_ren hσ r).symm
 | arr=>exact .arr
 | map=>exact .map
 | dead=>exact .dead
 | dfr=>exact .dfr
end
theorem Ole.of_ren {σ:Nat→Nat}(o:AObj):Ole σ (o.ren σ) o:=by
 cases o with
 | var t cells=>exact .var rfl
 | lp st j i e=>exact .lp rfl
 | rarr te es l=>exact .rarr rfl
 | tok r k=>exact .tok rfl
 | arr=>exact .arr
 | map=>exact .map
 | dead=>exact .dead
 | dfr=>exact .dfr
mutual
theorem R.refs_ren {σ:Nat→Nat}:∀r:R,(r.ren σ).refs=r.refs.map σ
 | .c _=>rfl
 | .hs ..=>rfl
 | .tl ..=>rfl
 | .vp ..=>rfl
 | .ep ..=>rfl
 | .mr _=>rfl
 | .clo f caps=>by simp[R.ren,R.refs,R.refsL_ren caps]
 | .mth f r=>by simp[R.ren,R.refs,R.refs_ren r]
 | .yl _=>rfl
 | .ra ..=>rfl
 | .rp ..=>rfl
 | .ras n es l=>by simp[R.ren,R.refs,R.refsL_ren l]
 | .pas l=>by simp[R.ren,R.refs,R.refsL_ren l]
theorem R.refsL_ren {σ:Nat→Nat}:∀l:List R,R.refsL (R.renL σ l)=(R.refsL l).map σ
 | []=>rfl
 | r::l=>by simp[R.renL,R.refsL,R.refs_ren r,R.refsL_ren l]
end
mutual
theorem V.refs_ren {σ:Nat→Nat}:∀r:V,(r.ren σ).refs=r.refs.map σ
 | .one r=>by simp[V.ren,V.refs,R.refs_ren r]
 | .pa _=>rfl
 | .ma l=>by simp[V.ren,V.refs,R.refsL_ren l]
 | .tup l=>by simp[V.ren,V.refs,V.refsL_ren l]
theorem V.refsL_ren {σ:Nat→Nat}:∀l:List V,V.refsL (V.renL σ l)=(V.refsL l).map σ
 | []=>rfl
 | r::l=>by simp[V.renL,V.refsL,V.refs_ren r,V.refsL_ren l]
end
theorem yG {σ:Nat→Nat}:∀l:List (Nat×V),nC (aG7 σ l)=(nC l).map σ
 | []=>rfl
 | (t,v)::l=>by simp[aG7,nC,V.refs_ren v,yG l]
theorem yE {σ:Nat→Nat}:∀l:List (List R),c7 (mI σ l)=(c7 l).map σ
 | []=>rfl
 | r::l=>by simp[mI,c7,R.refsL_ren r,yE l]
theorem AObj.refs_ren {σ:Nat→Nat}(o:AObj):(o.ren σ).refs=o.refs.map σ:=by
 cases o with
 | var t cells=>exact R.refsL_ren cells
 | lp st j i e=>exact yG e
 | rarr te es l=>exact yE l
 | tok r k=>exact R.refs_ren r
 | _=>rfl
structure RenH (σ:Nat→Nat) (H H':cO):Prop where
 to:∀i o,H (σ i)=some o→∃o',H' i=some o'∧Ole σ o o'
 of:∀i o',H' i=some o'→∃o,H (σ i)=some o∧Ole σ o o'
 cl:∀i o',H' i=some o'→∀j∈o'.refs,∃x,H' j=some x
theorem RenH.good {σ:Nat→Nat}{H H':cO}(h:RenH σ H H') {i:Nat}(hi:∃x,H' i=some x):Good H H' σ i:=by
 obtain⟨x,hx⟩:=hi;obtain⟨o,h1,h2⟩:=h.of i x hx;exact⟨o,x,h1,hx,h2⟩
theorem aNm {σ:Nat→Nat}{P:Prop}{a b c d:AObj}(h1:Ole σ a b) (h2:Ole σ c d) (h:a.succ P c):b.succ P d:=by
 cases h1<;>cases h2<;>simp only[AObj.succ] at h ⊢<;>try exact h
 ·rename_i I _ _ _ _ J;subst I J;simpa [eS] using h
theorem Inv.renH {σ:Nat→Nat}(hσ:∀i,σ (σ i)=i) {G:Ctx}{N H H':cO}{S:Sto}{μ:Mu}{w:World}(h:Inv G S μ H w) (h0:RenH σ G.h0 N) (I:RenH σ H H'):
  Inv { G with μ0:=fun i=>G.μ0 (σ i),h0:=N } S (fun i=>μ (σ i)) H' w:=by
 refine⟨h.holds,fun id o J=>?_,fun i j o o' b c c' hi hj hm O=>?_,fun i o b c hi hm=>?_,h.frame,h.sle,h.sto,⟨h.evo.le,fun id o J=>?_⟩,h.fre⟩
 ·obtain⟨x,h1,h2⟩:=I.of id o J;exact(h.obj _ _ h1).ren h2 fun j hj=>I.good (I.cl id o J j hj)
 ·obtain⟨x,h1,_⟩:=I.of i o hi;obtain⟨y,h2,_⟩:=I.of j o' hj;have:=h.inj _ _ _ _ b c c' h1 h2 hm O;rw[←hσ i,←hσ j,this]
 ·obtain⟨x,h1,_⟩:=I.of i o hi;exact h.own _ _ b c h1 hm
 ·obtain⟨x,h1,h2⟩:=h0.of id o J;obtain⟨y,h3,h4⟩:=h.evo.obj _ _ h1;obtain⟨z,h5,h6⟩:=I.to id y h3;exact⟨z,h5,aNm h2 h6 h4⟩
section
variable {σ:Nat→Nat}(hσ:∀i,σ (σ i)=i)
include hσ
theorem aT9 (i k:Nat):Nat.beq (σ i) (σ k)=Nat.beq i k:=by
 cases h:Nat.beq i k with
 | true=>rw[Ab h];exact B4 _
 | false=>
  cases I:Nat.beq (σ i) (σ k) with
  | false=>rfl
  | true=>
   have:=Ab I;have e:i=k:=by rw[←hσ i,←hσ k,this]
   rw[e,B4] at h;cases h
theorem kV (i:Nat):∀hl:List (Nat×AObj),look (Go.AM.renH σ hl) (σ i)=(look hl i).map (AObj.ren σ)
 | []=>rfl
 | (k,o)::hl=>by
  have I:=kV i hl;simp only[Go.AM.renH,Al,look,aT9 hσ] at I ⊢;split
  ·rfl
  ·exact I
theorem RenH.a {hl:List (Nat×AObj)}(hc:subset (dM hl) (keys hl)=true):RenH σ (look (Go.AM.renH σ hl)) (look hl):=by
 refine⟨fun i o h=>?_,fun i o h=>?_,fun i o h j hj=>?_⟩
 ·rw[kV hσ] at h;cases hx:look hl i with
  | none=>rw[hx] at h;cases h
  | some x=>rw[hx] at h;cases h;exact⟨x,rfl,.of_ren x⟩
 ·exact⟨o.ren σ,by rw[kV hσ,h];rfl,.of_ren o⟩
 ·exact iX (bL hc j (j8 (c9 h) j hj))
theorem RenH.b {hl:List (Nat×AObj)}(hc:subset (dM hl) (keys hl)=true):RenH σ (look hl) (look (Go.AM.renH σ hl)):=by
 have key:∀i,look (Go.AM.renH σ hl) i=(look hl (σ i)).map (AObj.ren σ):=fun i=>by
  have:=kV hσ (σ i) hl;rwa [hσ] at this
 refine⟨fun i o h=>⟨o.ren σ,by rw[key,h];rfl,.to_ren hσ o⟩,fun i o h=>?_,fun i o h j hj=>?_⟩
 ·rw[key] at h;cases hx:look hl (σ i) with
  | none=>rw[hx] at h;cases h
  | some x=>rw[hx] at h;cases h;exact⟨x,rfl,.to_ren hσ x⟩
 ·rw[key] at h;cases hx:look hl (σ i) with
  | none=>rw[hx] at h;cases h
  | some x=>
   rw[hx] at h;cases h;rw[AObj.refs_ren] at hj;obtain⟨k,hk,rfl⟩:=Ad.1 hj;obtain⟨y,hy⟩:=iX (bL hc k (j8 (c9 hx) k hk));exact⟨y.ren σ,by rw[key,hσ,hy];rfl⟩
theorem aW.ren {P:Program}{f:FuncId}{args:List V}{hin hout:List (Nat×AObj)}{res:V}(h:aW P f args hin res hout) (h1:subset (dM hin) (keys hin)=true) (h2:subset (V.refsL args) (keys hin)=true) (h3:subset (dM hout) (keys hout)=true) (h4:subset res.refs (keys hout)=true):
  aW P f (V.renL σ args) (Go.AM.renH σ hin) (res.ren σ) (Go.AM.renH σ hout):=by
 intro S μ w vals O hv;have ra:=RenH.a hσ h1;have I:=O.renH hσ ra ra;have J:sV μ (look (Go.AM.renH σ hin))=sV (fun i=>μ (σ i)) (look hin):=by
  funext b;refine propext ⟨?_,?_⟩
  ·rintro⟨j,o,c,g1,g2⟩;obtain⟨o',g3,_⟩:=ra.to (σ j) o (by rw[hσ];exact g1);exact⟨σ j,o',c,g3,by show μ (σ (σ j))=_;rw[hσ];exact g2⟩
  ·rintro⟨j,o,c,g1,g2⟩;obtain⟨o',g3,_⟩:=ra.of j o g1;exact⟨σ j,o',c,g3,g2⟩
 rw[J] at I;have N:bS S (fun i=>μ (σ i)) (look hin) args vals:=bS.ren args vals (fun i hi=>ra.good (iX (bL h2 i hi))) hv;refine Calls.mono (h S (fun i=>μ (σ i)) w vals I N) ?_;rintro e w' ⟨S',μ',v,g1,g2,g3⟩;refine⟨S',fun i=>μ' (σ i),v,g1,?_,?_⟩
 ·have:=g2.renH hσ (RenH.b hσ h1) (RenH.b hσ h3);dsimp only at this;rw[J];simpa only[hσ] using this
 ·refine aY.ren (res.ren σ) v (fun i hi=>(RenH.b hσ h3).good ?_) (by rw[V.ren_ren hσ];exact g3);rw[V.refs_ren] at hi;obtain⟨k,hk,rfl⟩:=Ad.1 hi;obtain⟨y,hy⟩:=iX (bL h4 k hk);exact⟨y.ren σ,by rw[kV hσ,hy];rfl⟩
end
def swp (a b i:Nat):Nat:=bif Nat.beq i a then b else bif Nat.beq i b then a else i
theorem aSf (a b i:Nat):swp a b (swp a b i)=i:=by
 have hb:∀x y:Nat,(Nat.beq x y=true)↔x=y:=fun x y=>⟨Ab,fun h=>by subst h;exact B4 _⟩
 unfold swp;cases h1:Nat.beq i a<;>cases h2:Nat.beq i b<;>simp only[Bm,Bn]
 ·rw[h1,h2];rfl
 ·cases h3:Nat.beq a a with
  | true=>simp only[Bm];exact((hb _ _).1 h2).symm
  | false=>rw[B4] at h3;cases h3
 ·cases h3:Nat.beq b a with
  | true=>simp only[Bm];rw[(hb _ _).1 h3,(hb _ _).1 h1]
  | false=>rw[B4];simp only[Bm,Bn];exact((hb _ _).1 h1).symm
 ·have I:=(hb _ _).1 h1;have J:=(hb _ _).1 h2;have N:b=a:=by rw[←J,I]
  rw[N,B4];simp only[Bm];exact I.symm
theorem aW.swap (a b:Nat) {P:Program}{f:FuncId}{args:List V}{hin hout:List (Nat×AObj)}{res:V}(h:aW P f args hin res hout) (h1:subset (dM hin) (keys hin)=true:=by rfl) (h2:subset (V.refsL args) (keys hin)=true:=by rfl) (h3:subset (dM hout) (keys hout)=true:=by rfl) (h4:subset res.refs (keys hout)=true:=by rfl):
  aW P f (V.renL (swp a b) args) (renH (swp a b) hin) (res.ren (swp a b)) (renH (swp a b) hout):=h.ren (aSf a b) h1 h2 h3 h4
end Go.AM
