/-
  Texts Am24 to Am28 in one.
-/
import Derived.Test.YtglfogjcijokpaaGreatDoorM4
import Derived.KernelRfl
import Derived.Test.YtglfogjcijokpaaGreatDoorProg
import Derived.Shelf.Spec.SlicesGrow
open List (cons_append drop_zero eq_nil_of_length_eq_zero isEmpty_iff length_append length_cons length_map length_nil length_take map_append mem_cons nil_append take_add_one take_length take_of_length_le)
open Nat (add_mul eq_of_beq_eq_true le_of_ble_eq_true le_refl min_eq_left mul_le_mul_right sub_zero zero_add zero_le)
namespace Go.AM
open Go
section
variable {P:Program}{n:Nat}{o:Oper}{st:St}{ob:List Prop}{tr:Tr}{md nat:Bool}
def arith (md nat:Bool) (op:BinOp) (a b:Int) (ob:List Prop):Option (Int×List Prop):=match op with
 | .add=>bif nat then(match a,b with | .ofNat x,.ofNat y=>(jB md (x+y≤9223372036854775807) ob).bind fun ob1=>some (((x+y:Nat):Int),ob1) | _,_=>none)
  else(jB md (-9223372036854775808≤a+b∧a+b≤9223372036854775807) ob).bind fun ob1=>some (a+b,ob1)
 | .sub=>bif nat then(match a,b with | .ofNat x,.ofNat y=>(jB md (y≤x∧x≤9223372036854775807) ob).bind fun ob1=>some (((x-y:Nat):Int),ob1) | _,_=>none)
  else(jB md (-9223372036854775808≤a-b∧a-b≤9223372036854775807) ob).bind fun ob1=>some (a-b,ob1)
 | .mul=>bif nat then(match a,b with | .ofNat x,.ofNat y=>(jB md (x*y≤9223372036854775807) ob).bind fun ob1=>some (((x*y:Nat):Int),ob1) | _,_=>none)
  else(jB md (-9223372036854775808≤a*b∧a*b≤9223372036854775807) ob).bind fun ob1=>some (a*b,ob1)
 | .quo=>bif nat then(match a,b with | .ofNat x,.ofNat y=>(jB md (x≤9223372036854775807∧1≤y) ob).bind fun ob1=>some (((x/y:Nat):Int),ob1) | _,_=>none)
  else(jB md (0≤a∧a≤9223372036854775807∧1≤b) ob).bind fun ob1=>some (a/b,ob1)
 | .rem=>bif nat then(match a,b with | .ofNat x,.ofNat y=>(jB md (1≤y) ob).bind fun ob1=>some (((x%y:Nat):Int),ob1) | _,_=>none)
  else(jB md (0≤a∧1≤b) ob).bind fun ob1=>some (a%b,ob1)
 | _=>none
theorem v8 {α:Type}{q:List Prop}{x:Option (List Prop)}{r r':α}(h:(x.bind fun I=>some (r,I))=some (r',q)):x=some q∧r'=r:=by
 rw[Aj] at h;obtain⟨I,h1,h2⟩:=h;cases h2;exact⟨h1,rfl⟩
theorem aTw {op:BinOp}{Y ty:TypeId}{x y:Operand}{d:Nat}{a b r:Int}{W:List Prop}(J:o.op=.binOp op Y x y ty) (hd:o.dst=some d) (q:d<n) (hx:opv st x=some (I .i64 a)) (O:opv st y=some (I .i64 b)) (h:arith md nat op a b ob=some (r,W)):
  j7 W→j7 ob∧Step P n o st ⟨opr x++opr y,[]⟩ ⟨some (d,some (I .i64 r)),[]⟩:=by
 intro hc;unfold arith at h;cases nat<;>cases op<;>simp only[Bn,Bs] at h<;>try (cases h;done)
 ·obtain⟨h1,rfl⟩:=v8 h;obtain⟨g,k⟩:=bA h1 hc;exact⟨g,a1u J hd q hx O k⟩
 ·obtain⟨h1,rfl⟩:=v8 h;obtain⟨g,k⟩:=bA h1 hc;exact⟨g,a1b J hd q hx O k⟩
 ·obtain⟨h1,rfl⟩:=v8 h;obtain⟨g,k⟩:=bA h1 hc;exact⟨g,a1o J hd q hx O k⟩
 ·obtain⟨h1,rfl⟩:=v8 h;obtain⟨g,k⟩:=bA h1 hc;exact⟨g,aUt J hd q hx O k⟩
 ·obtain⟨h1,rfl⟩:=v8 h;obtain⟨g,k⟩:=bA h1 hc;exact⟨g,aUs J hd q hx O k⟩
 all_goals cases a<;>cases b<;>simp only at h<;>try (cases h;done)
 ·obtain⟨h1,rfl⟩:=v8 h;obtain⟨g,k⟩:=bA h1 hc;exact⟨g,a1t J hd q hx O k⟩
 ·obtain⟨h1,rfl⟩:=v8 h;obtain⟨g,k⟩:=bA h1 hc;exact⟨g,a1a J hd q hx O k⟩
 ·obtain⟨h1,rfl⟩:=v8 h;obtain⟨g,k⟩:=bA h1 hc;exact⟨g,a1n J hd q hx O k⟩
 ·obtain⟨h1,rfl⟩:=v8 h;obtain⟨g,k⟩:=bA h1 hc;exact⟨g,a1j J hd q hx O k⟩
 ·obtain⟨h1,rfl⟩:=v8 h;obtain⟨g,k⟩:=bA h1 hc;exact⟨g,a1h J hd q hx O k⟩
def a6c (op:BinOp) (a b:Int):Option Bool:=match op with
 | .lss=>some (decide (a<b))
 | .leq=>some (decide (a≤b))
 | .gtr=>some (decide (b<a))
 | .geq=>some (decide (b≤a))
 | .eql=>some (decide (a=b))
 | .neq=>some (!decide (a=b))
 | _=>none
theorem aYp {op:BinOp}{W ty:TypeId}{x y:Operand}{d:Nat}{k:IntKind}{a b:Int}{r:Bool}(J:o.op=.binOp op W x y ty) (hd:o.dst=some d) (q:d<n) (hx:opv st x=some (I k a)) (O:opv st y=some (I k b)) (h:a6c op a b=some r):
  Step P n o st ⟨opr x++opr y,[]⟩ ⟨some (d,some (B r)),[]⟩:=by
 unfold a6c at h;cases op<;>simp only at h<;>try (cases h;done)
 ·cases h;exact a5n J hd q hx O
 ·cases h;exact a5f J hd q hx O
 ·cases h;exact a5j J hd q hx O
 ·cases h;exact a5k J hd q hx O
 ·cases h;exact a5l J hd q hx O
 ·cases h;exact a5m J hd q hx O
def aWo (op:BinOp) (k:IntKind) (a b:Int):Option Int:=match op with
 | .add=>some (k.wrap (a+b))
 | .sub=>some (k.wrap (a-b))
 | .mul=>some (k.wrap (a*b))
 | _=>none
theorem aQ2 {op:BinOp}{W ty:TypeId}{x y:Operand}{d:Nat}{k:IntKind}{a b r:Int}(J:o.op=.binOp op W x y ty) (hd:o.dst=some d) (q:d<n) (hx:opv st x=some (I k a)) (O:opv st y=some (I k b)) (h:aWo op k a b=some r):
  Step P n o st ⟨opr x++opr y,[]⟩ ⟨some (d,some (I k r)),[]⟩:=by
 unfold aWo at h;cases op<;>simp only at h<;>try (cases h;done)
 ·cases h;exact aR6 J hd q hx O rfl
 ·cases h;exact aRv J hd q hx O rfl
 ·cases h;exact aR0 J hd q hx O rfl
def aX4:IntKind→Bool
 | .i64=>true
 | _=>false
def a4b (tr:Tr) (md nat:Bool) (o:Oper) (n:Nat) (st:St) (ob:List Prop) (op:BinOp) (tx:TypeId) (x y:Operand):Ans:=(opO st x).bind fun v=>(opO st y).bind fun u=>match v,u with
 | .one (.c (.int k a)),.one (.c (.int k' b))=>bif decide (k=k') then(match a6c op a b with
   | some r=>val o n ⟨opr x++opr y,[]⟩ (.one (.c (.bool r))) [] ob
   | none=>bif aX4 k then(arith md nat op a b ob).bind fun(r,ob1)=>val o n ⟨opr x++opr y,[]⟩ (.one (.c (.int .i64 r))) [] ob1
    else(aWo op k a b).bind fun r=>val o n ⟨opr x++opr y,[]⟩ (.one (.c (.int k r))) [] ob) else none
 | .one (.c (.str a)),.one (.c (.str b))=>match op with
  | .eql=>val o n ⟨opr x++opr y,[]⟩ (.one (.c (.bool (decide (a=b))))) [] ob
  | .neq=>val o n ⟨opr x++opr y,[]⟩ (.one (.c (.bool (!decide (a=b))))) [] ob
  | .lss=>val o n ⟨opr x++opr y,[]⟩ (.one (.c (.bool (Op.bytesLess a b)))) [] ob
  | .add=>(jB md (a.length+b.length≤maxLen) ob).bind fun ob1=>val o n ⟨opr x++opr y,[]⟩ (.one (.c (.str (a++b)))) [] ob1
  | _=>none
 | .one (.c (.bool a)),.one (.c (.bool b))=>(tr.get tx).bind fun i=>match i.k with
  | .bool=>match op with
   | .eql=>val o n ⟨opr x++opr y,[]⟩ (.one (.c (.bool (a==b)))) [] ob
   | .neq=>val o n ⟨opr x++opr y,[]⟩ (.one (.c (.bool (!(a==b))))) [] ob
   | _=>none
  | _=>none
 | v,.one (.c .np)=>(tr.get tx).bind fun i=>match i.k with
  | .pt _=>(aA9 v).bind fun b=>match op with
   | .eql=>val o n ⟨opr x++opr y,[]⟩ (.one (.c (.bool b))) [] ob
   | .neq=>val o n ⟨opr x++opr y,[]⟩ (.one (.c (.bool (!b)))) [] ob
   | _=>none
  | _=>none
 | v,.one (.c .nl)=>(tr.get tx).bind fun i=>match i.k with
  | .sl _=>(aRp v).bind fun b=>match op with
   | .eql=>val o n ⟨opr x++opr y,[]⟩ (.one (.c (.bool b))) [] ob
   | _=>none
  | _=>none
 | _,_=>none
theorem aTu {op:BinOp}{Y ty:TypeId}{x y:Operand}(hw:tr.wf=true) (O:Tok P tr.flat) (J:o.op=.binOp op Y x y ty):Snd P n o st ob (a4b tr md nat o n st ob op Y x y):=by
 refine Snd.bind fun v I=>Snd.bind fun u hu=>?_
 rw[cV] at I hu;split
 ·rename_i k a k' b;refine Snd.cond fun hk=>?_
  have Z:=θ hk;subst Z;split
  ·rename_i r W;exact Snd.val fun _ hd q hc=>⟨hc,aYp J hd q I hu W⟩
  ·cases hi:aX4 k with
   | true=>
    simp only[Bn];cases k<;>simp only[aX4] at hi<;>try (cases hi;done)
    refine Snd.bind fun p hp=>?_
    obtain⟨r,aa⟩:=p;exact Snd.val fun _ hd q hc=>aTw J hd q I hu hp hc
   | false=>
    simp only[Bs];exact Snd.bind fun r W=>Snd.val fun _ hd q hc=>⟨hc,aQ2 J hd q I hu W⟩
 ·split
  ·exact Snd.val fun _ hd q hc=>⟨hc,a1e J hd q I hu⟩
  ·exact Snd.val fun _ hd q hc=>⟨hc,a1c J hd q I hu⟩
  ·exact Snd.val fun _ hd q hc=>⟨hc,a1d J hd q I hu⟩
  ·exact Snd.bind fun aa h1=>Snd.val fun _ hd q hc=>⟨(bA h1 hc).1,a1g J hd q I hu (bA h1 hc).2⟩
  ·exact Snd.none
 ·refine Snd.bind fun i hi=>?_
  replace hi:=Tr.get_ok hw hi
  split
  ·rename_i hk;split
   ·exact Snd.val fun _ hd q hc=>⟨hc,a1s O J hd q hi hk I hu⟩
   ·exact Snd.val fun _ hd q hc=>⟨hc,a1r O J hd q hi hk I hu⟩
   ·exact Snd.none
  ·exact Snd.none
 ·refine Snd.bind fun i hi=>?_
  replace hi:=Tr.get_ok hw hi
  split
  ·rename_i hk;refine Snd.bind fun b hb=>?_
   split
   ·exact Snd.val fun _ hd q hc=>⟨hc,a1m O J hd q hi hk I hb hu⟩
   ·exact Snd.val fun _ hd q hc=>⟨hc,a1l O J hd q hi hk I hb hu⟩
   ·exact Snd.none
  ·exact Snd.none
 ·refine Snd.bind fun i hi=>?_
  replace hi:=Tr.get_ok hw hi
  split
  ·rename_i hk;refine Snd.bind fun b hb=>?_
   split
   ·exact Snd.val fun _ hd q hc=>⟨hc,aW6 O J hd q hi hk I hb hu⟩
   ·exact Snd.none
  ·exact Snd.none
 ·exact Snd.none
def a69 (md:Bool) (o:Oper) (n:Nat) (st:St) (ob:List Prop) (op:UnOp) (x:Operand):Ans:=(opO st x).bind fun v=>match v with
 | .one (.c (.bool b))=>match op with
  | .not=>val o n ⟨opr x,[]⟩ (.one (.c (.bool (!b)))) [] ob
  | _=>none
 | .one (.c (.int .i64 a))=>match op with
  | .neg=>(jB md (-9223372036854775808≤0-a∧0-a≤9223372036854775807) ob).bind fun ob1=>val o n ⟨opr x,[]⟩ (.one (.c (.int .i64 (0-a)))) [] ob1
  | _=>none
 | _=>none
theorem aZf {op:UnOp}{t:TypeId}{x:Operand}(J:o.op=.unOp op t x):Snd P n o st ob (a69 md o n st ob op x):=by
 refine Snd.bind fun v I=>?_
 rw[cV] at I;split
 ·split
  ·exact Snd.val fun _ hd q hc=>⟨hc,a5e J hd q I⟩
  ·exact Snd.none
 ·split
  ·exact Snd.bind fun O h1=>Snd.val fun _ hd q hc=>⟨(bA h1 hc).1,a5g J hd q I (Cs _ (bA h1 hc).2)⟩
  ·exact Snd.none
 ·exact Snd.none
def a39 (tr:Tr) (md:Bool) (o:Oper) (n:Nat) (st:St) (ob:List Prop) (x:Operand) (t:TypeId):Ans:=(tr.get t).bind fun i=>(opO st x).bind fun v=>match i.k with
 | .sl _=>match v with
  | .one (.c (.sl _ l))=>val o n ⟨opr x,[]⟩ (.one (.c (.int .i64 ((l.length:Nat):Int)))) [] ob
  | .one (.c .nl)=>val o n ⟨opr x,[]⟩ (.one (.c (.int .i64 0))) [] ob
  | .one (.ras n' _ _)=>val o n ⟨opr x,[]⟩ (.one (.c (.int .i64 ((n':Nat):Int)))) [] ob
  | .one (.hs id _ len sz)=>match st.h id with
   | some (.arr _ _ elems _)=>(jB md (sz=elems.length) ob).bind fun ob1=>val o n ⟨opr x,[id]⟩ (.one (.c (.int .i64 ((len:Nat):Int)))) [] ob1
   | _=>none
  | .one (.ra id _ len sz)=>match st.h id with
   | some (.rarr _ _ elems)=>(jB md (sz=elems.length) ob).bind fun ob1=>val o n ⟨opr x,[id]⟩ (.one (.c (.int .i64 ((len:Nat):Int)))) [] ob1
   | _=>none
  | _=>none
 | .str=>match v with
  | .one (.c (.str s))=>val o n ⟨opr x,[]⟩ (.one (.c (.int .i64 ((s.length:Nat):Int)))) [] ob
  | _=>none
 | .mp _ _=>match v with
  | .one (.mr id)=>match st.h id with
   | some (.map _ ents)=>(jB md (iA ents) ob).bind fun ob1=>val o n ⟨opr x,[id]⟩ (.one (.c (.int .i64 ((ents.length:Nat):Int)))) [] ob1
   | _=>none
  | _=>none
 | _=>none
theorem aTq {x:Operand}{t:TypeId}(hw:tr.wf=true) (J:Tok P tr.flat) (O:o.op=.call { callee:=.builtin .len,args:= #[x],argTypes:= #[t] }):Snd P n o st ob (a39 tr md o n st ob x t):=by
 refine Snd.bind fun i hi=>Snd.bind fun v I=>?_
 replace hi:=Tr.get_ok hw hi
 rw[cV] at I;split
 ·rename_i hk;split
  ·exact Snd.val fun _ hd q hc=>⟨hc,aR1 J O hd q hi hk I⟩
  ·exact Snd.val fun _ hd q hc=>⟨hc,aR3 J O hd q hi hk I⟩
  ·exact Snd.val fun _ hd q hc=>⟨hc,aMd J O hd q hi hk I⟩
  ·split
   ·rename_i hh;exact Snd.bind fun W h1=>Snd.val fun _ hd q hc=>⟨(bA h1 hc).1,aG1 J O hd q hi hk I hh (bA h1 hc).2⟩
   ·exact Snd.none
  ·split
   ·rename_i hh;exact Snd.bind fun W h1=>Snd.val fun _ hd q hc=>⟨(bA h1 hc).1,aR2 J O hd q hi hk I hh (bA h1 hc).2⟩
   ·exact Snd.none
  ·exact Snd.none
 ·rename_i hk;split
  ·exact Snd.val fun _ hd q hc=>⟨hc,aMc J O hd q hi hk I⟩
  ·exact Snd.none
 ·rename_i hk;split
  ·split
   ·rename_i hh;exact Snd.bind fun W h1=>Snd.val fun _ hd q hc=>⟨(bA h1 hc).1,aMe J O hd q hi hk I hh (bA h1 hc).2⟩
   ·exact Snd.none
  ·exact Snd.none
 ·exact Snd.none
def a4q (md:Bool) (st:St) (es:Nat) (hn:Hn) (v:V) (ob:List Prop):Option (List Nat×List (List C)×List Prop):=match v with
 | .one (.hs id off len sz)=>match st.h id with
  | some (.arr _ es' elems _)=>bif Nat.beq es' es then(jB md (sz=elems.length) ob).bind fun ob1=>(match hn with
   | .all=>some ([id],elems,(off=0∧len=sz)::ob1)
   | .c rows=>some ([id],rows,(rows=(elems.drop off).take len)::ob1)
   | _=>bif Nat.beq off 0&&Nat.beq len sz then some ([id],elems,ob1) else some ([id],(elems.drop off).take len,ob1)) else none
  | _=>none
 | .one (.c (.sl es' l))=>bif Nat.beq es' es then some ([],l,ob) else none
 | .one (.c (.sn es' l))=>bif Nat.beq es' es then some ([],l,ob) else none
 | .one (.c .nl)=>some ([],[],ob)
 | _=>none
theorem xR {es:Nat}{hn:Hn}{v:V}{ids:List Nat}{rows:List (List C)}{I:List Prop}(h:a4q md st es hn v ob=some (ids,rows,I)):j7 I→j7 ob∧Src st es ids v rows:=by
 intro hc;unfold a4q at h;split at h
 ·rename_i id off len sz;split at h
  ·rename_i te Y elems fz hh;obtain⟨h1,q⟩:=eY h;clear h;have:=Ac h1;subst this;rw[Aj] at q;obtain⟨Z,h2,h⟩:=q;split at h
   ·cases h;obtain⟨⟨rfl,rfl⟩,hc⟩:=hc;obtain⟨g,k⟩:=bA h2 hc;exact⟨g,.all hh k⟩
   ·cases h;obtain⟨J,hc⟩:=hc;obtain⟨g,k⟩:=bA h2 hc;exact⟨g,.hs hh k J⟩
   ·cases hb:Nat.beq off 0&&Nat.beq len sz with
    | true=>
     rw[hb] at h;cases h;obtain⟨g,k⟩:=bA h2 hc;simp only[ε] at hb;have O:=Ac hb.1;have W:=Ac hb.2;subst O W;exact⟨g,.all hh k⟩
    | false=>
     rw[hb] at h;cases h;obtain⟨g,k⟩:=bA h2 hc;exact⟨g,.hs hh k rfl⟩
  ·cases h
 ·obtain⟨h1,q⟩:=eY h;clear h;have:=Ac h1;subst this;cases q;exact⟨hc,.sl⟩
 ·obtain⟨h1,q⟩:=eY h;clear h;have:=Ac h1;subst this;cases q;exact⟨hc,.sn⟩
 ·cases h;exact⟨hc,.nl⟩
 ·cases h
def aCs:List (List C)→Option (List Int)
 | []=>some []
 | [.int .u8 m]::rs=>(aCs rs).bind fun l=>some (m::l)
 | _=>none
theorem aCr:∀{rows:List (List C)}{ns:List Int},aCs rows=some ns→rows=ns.map fun m=>[C.int .u8 m]
 | [],ns,h=>by simp[aCs] at h;subst h;rfl
 | [.int .u8 m]::rs,ns,h=>by
  simp only[aCs,Aj] at h;obtain⟨l,h1,h2⟩:=h;cases h2;rw[aCr h1];rfl
def aWc (tr:Tr) (md:Bool) (o:Oper) (n:Nat) (st:St) (ob:List Prop) (hn:Hn) (src dst:TypeId) (x:Operand):Ans:=(tr.get src).bind fun i=>(tr.get dst).bind fun j=>(opO st x).bind fun v=>match j.k with
 | .int k'=>match i.k,v with
  | .int k,.one (.c (.int k2 m))=>bif decide (k2=k) then val o n ⟨opr x,[]⟩ (.one (.c (.int k' (k'.wrap m)))) [] ob else none
  | _,_=>none
 | .str=>match i.k with
  | .sl e=>(tr.get e).bind fun ei=>match ei.k with
   | .int .u8=>(a4q md st 1 hn v ob).bind fun(ids,rows,ob1)=>(aCs rows).bind fun ns=>(frc (ns.map fun m=>UInt8.ofNat m.toNat)).bind fun bs=>val o n ⟨opr x,ids⟩ (.one (.c (.str bs))) [] ob1
   | _=>none
  | _=>none
 | _=>none
theorem aP0 {hn:Hn}{src dst:TypeId}{x:Operand}(hw:tr.wf=true) (hT:Tok P tr.flat) (ho:o.op=.convert src dst x):Snd P n o st ob (aWc tr md o n st ob hn src dst x):=by
 refine Snd.bind fun i hi=>Snd.bind fun j W=>Snd.bind fun v Z=>?_
 replace hi:=Tr.get_ok hw hi
 replace W:=Tr.get_ok hw W
 rw[cV] at Z;split
 ·rename_i k' q;split
  ·rename_i k k2 m I;refine Snd.cond fun hk=>?_
   have:=θ hk;subst this;exact Snd.val fun _ hd J hc=>⟨hc,aXa hT ho hd J hi I W q Z⟩
  ·exact Snd.none
 ·rename_i q;split
  ·rename_i e I;refine Snd.bind fun ei O=>?_
   replace O:=Tr.get_ok hw O
   split
   ·rename_i hek;refine Snd.bind fun p hp=>?_
    obtain⟨ids,rows,ob1⟩:=p;refine Snd.bind fun ns hns=>Snd.bind fun bs Y=>Snd.val fun _ hd J hc=>?_
    rw[lO] at Y;cases Y;obtain⟨g1,g2⟩:=xR hp hc;exact⟨g1,aXb hT ho hd J hi I O hek W q Z g2 (aCr hns)⟩
   ·exact Snd.none
  ·exact Snd.none
 ·exact Snd.none
def a64 (md:Bool) (a b:List (List C)):Option (List (List C)):=bif md then some (a++b) else frc (a++b)
theorem aYr (md:Bool) (a b:List (List C)):a64 md a b=some (a++b):=by
 cases md
 ·exact lO _
 ·rfl
def aIu (tr:Tr) (md:Bool) (o:Oper) (n:Nat) (st:St) (ob:List Prop) (hn:Hn) (id0:Nat) (x y:Operand) (t:TypeId):Ans:=(tr.get t).bind fun i=>match i.k with
 | .sl e=>(tr.get e).bind fun ei=>match ei with
  | ⟨_,s0,b0,_⟩=>bif Nat.ble 1 s0&&Nat.ble 1 b0 then(opO st x).bind fun v=>(opO st y).bind fun u=>(a4q md st s0 hn u ob).bind fun(ids,rows,ob1)=>(match v with
  | .one (.hs id off len sz)=>match st.h id with
   | some (.arr te es elems fz)=>bif Nat.beq te e&&Nat.beq es s0 then(jB md (sz=elems.length) ob1).bind fun ob2=>(jB md (off=0∧len=sz) ob2).bind fun ob3=>(jB md ((elems.length+rows.length)*b0≤140737488355328) ob3).bind fun ob4=>
     (a64 md elems rows).bind fun l=>match fz with
     | 0=>val o n ⟨opr x++opr y,id::ids⟩ (.one (.hs id 0 (elems.length+rows.length) (elems.length+rows.length))) [(id,some (.arr e s0 l 0))] ob4
     | _+1=>val o n ⟨opr x++opr y,id::ids⟩ (.one (.hs id 0 (elems.length+rows.length) (elems.length+rows.length))) [(id,some (.arr e s0 l 1))] ob4
    else none
   | _=>none
  | .one (.c .nl)=>match st.h id0 with
   | none=>(jB md (rows.length*b0≤140737488355328) ob1).bind fun ob2=>val o n ⟨opr x++opr y,id0::ids⟩ (.one (.hs id0 0 rows.length rows.length)) [(id0,some (.arr e s0 rows 0))] ob2
   | some _=>none
  | _=>none) else none
 | _=>none
theorem aFa {hn:Hn}{W:Nat}{x y:Operand}{t:TypeId}(hw:tr.wf=true) (Y:Tok P tr.flat) (Z:o.op=.call { callee:=.builtin .append,args:= #[x,y],argTypes:= #[t,t] }):Snd P n o st ob (aIu tr md o n st ob hn W x y t):=by
 refine Snd.bind fun i hi=>?_
 replace hi:=Tr.get_ok hw hi
 split
 ·rename_i e hk;refine Snd.bind fun ei q=>?_
  obtain⟨k0,s0,b0,z0⟩:=ei;refine Snd.cond fun hb=>Snd.bind fun v O=>Snd.bind fun u hu=>Snd.bind fun p hp=>?_
  replace q:=Tr.get_ok hw q
  obtain⟨ids,rows,ob1⟩:=p;simp only[ε] at hb;rw[cV] at O hu;dsimp only;split
  ·rename_i id off len sz;split
   ·rename_i te es elems fz hh;refine Snd.cond fun J=>Snd.bind fun aa h2=>Snd.bind fun ob3 h3=>Snd.bind fun ob4 h4=>Snd.bind fun l hl=>?_
    simp only[ε] at J;have e1:=Ac J.1;have e2:=Ac J.2;subst e1 e2;rw[aYr] at hl;cases hl;split
    ·refine Snd.val fun _ hd I hc=>?_
     obtain⟨g1,g2⟩:=bA h4 hc;obtain⟨g3,g4,g5⟩:=bA h3 g1;obtain⟨g6,g7⟩:=bA h2 g3;obtain⟨g8,g9⟩:=xR hp g6;subst g4 g5;exact⟨g8,aG2 Y Z hd I hi hk q hb.1 hb.2 O hh g7 hu g9 g2⟩
    ·refine Snd.val fun _ hd I hc=>?_
     obtain⟨g1,g2⟩:=bA h4 hc;obtain⟨g3,g4,g5⟩:=bA h3 g1;obtain⟨g6,g7⟩:=bA h2 g3;obtain⟨g8,g9⟩:=xR hp g6;subst g4 g5;exact⟨g8,aG2 Y Z hd I hi hk q hb.1 hb.2 O hh g7 hu g9 g2⟩
   ·exact Snd.none
  ·split
   ·rename_i hid;refine Snd.bind fun aa h2=>Snd.val fun _ hd I hc=>?_
    obtain⟨g1,g2⟩:=bA h2 hc;obtain⟨g3,g4⟩:=xR hp g1;exact⟨g3,aMi W Y Z hd I hi hk q hb.1 hb.2 O hid hu g4 g2⟩
   ·exact Snd.none
  ·exact Snd.none
 ·exact Snd.none
def aC2 (tr:Tr) (md:Bool) (o:Oper) (n:Nat) (st:St) (ob:List Prop) (id0:Nat) (x y:Operand) (t:TypeId):Ans:=(tr.get t).bind fun i=>match i.k with
 | .sl e=>(tr.get e).bind fun ei=>match ei with
  | ⟨_,s0,b0,_⟩=>bif Nat.ble 1 s0&&Nat.ble 1 b0 then(opO st x).bind fun v=>(opO st y).bind fun u=>match u with
  | .one (.ra id2 off2 len2 sz2)=>match st.h id2 with
   | some (.rarr _ es2 rows)=>bif Nat.beq es2 s0&&(Nat.beq off2 0&&(Nat.beq len2 rows.length&&(Nat.beq sz2 rows.length&&Nat.blt 0 rows.length))) then(match v with
    | .one (.ra id off len sz)=>match st.h id with
     | some (.rarr te es elems)=>bif Nat.beq te e&&Nat.beq es s0 then(jB md (sz=elems.length) ob).bind fun ob2=>(jB md (off=0∧len=sz) ob2).bind fun ob3=>(jB md ((elems.length+rows.length)*b0≤140737488355328) ob3).bind fun ob4=>
       val o n ⟨opr x++opr y,[id,id2]⟩ (.one (.ra id 0 (elems.length+rows.length) (elems.length+rows.length))) [(id,some (.rarr e s0 (elems++rows)))] ob4 else none
     | _=>none
    | .one (.c .nl)=>match st.h id0 with
     | none=>(jB md (rows.length*b0≤140737488355328) ob).bind fun ob2=>val o n ⟨opr x++opr y,[id0,id2]⟩ (.one (.ra id0 0 rows.length rows.length)) [(id0,some (.rarr e s0 rows))] ob2
     | some _=>none
    | _=>none) else none
   | _=>none
  | _=>none
  else none
 | _=>none
theorem aC1 {W:Nat}{x y:Operand}{t:TypeId}(hw:tr.wf=true) (hT:Tok P tr.flat) (ho:o.op=.call { callee:=.builtin .append,args:= #[x,y],argTypes:= #[t,t] }):Snd P n o st ob (aC2 tr md o n st ob W x y t):=by
 refine Snd.bind fun i hi=>?_
 replace hi:=Tr.get_ok hw hi
 split
 ·rename_i e hk;refine Snd.bind fun ei q=>?_
  obtain⟨k0,s0,b0,z0⟩:=ei;refine Snd.cond fun hb=>Snd.bind fun v hv=>Snd.bind fun u hu=>?_
  replace q:=Tr.get_ok hw q
  simp only[ε] at hb;rw[cV] at hv hu;split
  ·rename_i id2 off2 len2 sz2;split
   ·rename_i te2 es2 rows Y;refine Snd.cond fun Z=>?_
    simp only[ε] at Z;obtain⟨c1,c2,c3,c4,O⟩:=Z;have c1:=Ac c1;have c2:=Ac c2;have c3:=Ac c3;have c4:=Ac c4;have O:=fU O;subst c1 c2 c3 c4;split
    ·rename_i id off len sz;split
     ·rename_i te es elems hh;refine Snd.cond fun I=>Snd.bind fun ob2 h2=>Snd.bind fun ob3 h3=>Snd.bind fun ob4 h4=>Snd.val fun _ hd J hc=>?_
      simp only[ε] at I;have e1:=Ac I.1;have e2:=Ac I.2;subst e1;rw[e2] at hh;obtain⟨g1,g2⟩:=bA h4 hc;obtain⟨g3,g4,g5⟩:=bA h3 g1;obtain⟨g6,g7⟩:=bA h2 g3;subst g4 g5;exact⟨g6,aMh hT ho hd J hi hk q hb.1 hb.2 hv hh g7 hu Y O g2⟩
     ·exact Snd.none
    ·split
     ·rename_i hid;refine Snd.bind fun ob2 h2=>Snd.val fun _ hd J hc=>?_
      obtain⟨g1,g2⟩:=bA h2 hc;exact⟨g1,aJj W hT ho hd J hi hk q hb.1 hb.2 hv hid hu Y O g2⟩
     ·exact Snd.none
    ·exact Snd.none
   ·exact Snd.none
  ·exact Snd.none
 ·exact Snd.none
def a6q (P:Program) (f:FuncId):Bool:=match P.funcs[f]? with
 | some fn => !(fn.name == "runtime.NumGoroutine") && fn.body.isSome
 | none=>false
theorem sB {P:Program}{f:FuncId}(h:a6q P f=true):jZ P f:=by
 unfold a6q at h;split at h
 ·rename_i fn hf;simp only[ε,Bool.not_eq_true'] at h;refine⟨fn,hf,h.1,?_⟩;cases hb:fn.body with
  | none=>rw[hb] at h;cases h.2
  | some _=>rfl
 ·cases h
def aT4 (P:Program) (f:FuncId) (args:List V) (res:V):Prop:=a6q P f=true∧aU P f args [] res []
def tJ (st:St):List Nat→List R→List Prop→Option (List Nat×List C×List Prop)
 | _,[],ob=>some ([],[],ob)
 | ty,r::rs,ob=>match r with
  | .c x=>(aKj ty [x]).bind fun y=>match y with
   | [y]=>(tJ st ty.tail rs ob).bind fun(ids,cs,ob1)=>some (ids,y::cs,ob1)
   | _=>none
  | .hs id 0 len sz=>match st.h id with
   | some (.arr _ es elems 2)=>(tJ st ty.tail rs ob).bind fun(ids,cs,ob1)=>some (id::ids,.sl es elems::cs,(sz=elems.length∧len=elems.length)::ob1)
   | _=>none
  | _=>none
theorem oO {st:St}:∀{rs:List R}{ty:List Nat}{ob q:List Prop}{ids:List Nat}{cs:List C},tJ st ty rs ob=some (ids,cs,q)→j7 q→j7 ob∧PureL st.h ids rs cs
 | [],ty,ob,q,ids,cs,h,hc=>by
  cases ty<;>(simp only[tJ] at h;cases h;exact⟨hc,.nil⟩)
 | r::rs,ty,ob,q,ids,cs,h,hc=>by
  rw[tJ.eq_def] at h;dsimp only at h;split at h
  ·rename_i x;rw[Aj] at h;obtain⟨y,J,h⟩:=h;split at h
   ·rename_i y';rw[Aj] at h;obtain⟨⟨I,O,W⟩,h1,h2⟩:=h;cases h2;obtain⟨g1,g2⟩:=oO h1 hc;rw[tS] at J;have hp:=n8 (h:=st.h) ty [x];rw[Option.some.inj J] at hp;cases hp with
    | c hx _=>exact⟨g1,.c hx g2⟩
    | any _=>exact⟨g1,.any g2⟩
   ·cases h
  ·rename_i id len sz;split at h
   ·rename_i te es elems hh;rw[Aj] at h;obtain⟨⟨I,O,W⟩,h1,h2⟩:=h;cases h2;obtain⟨g1,g2⟩:=oO h1 hc.2;exact⟨g1,.hs hh hc.1.1 (by rw[hc.1.2,B4,As]) g2⟩
   ·cases h
  ·cases h
def aYo (tr:Tr) (st:St) (v:V) (t:TypeId) (ob:List Prop):Option (List Nat×V×List Prop):=match v with
 | .one r=>(tJ st (pE tr 300 [t]) [r] ob).bind fun(ids,cs,ob1)=>match cs with
  | [c]=>some (ids,.one (.c c),ob1)
  | _=>none
 | .pa l=>(aKj (pE tr 300 [t]) l).bind fun l'=>some ([],.pa l',ob)
 | .ma rs=>(tJ st (pE tr 300 [t]) rs ob).bind fun(ids,cs,ob1)=>some (ids,.pa cs,ob1)
 | _=>none
theorem aS2 {tr:Tr}{st:St}{v v':V}{t:TypeId}{ob q:List Prop}{ids:List Nat}(h:aYo tr st v t ob=some (ids,v',q)) (hc:j7 q):(j7 ob∧Conv st.h ids v v')∧v'.refs=[]:=by
 unfold aYo at h;split at h
 ·rw[Aj] at h;obtain⟨⟨I,J,O⟩,h1,h2⟩:=h;dsimp only at h2;split at h2
  ·cases h2;obtain⟨g1,g2⟩:=oO h1 hc;exact⟨⟨g1,.one g2⟩,by simp[V.refs,R.refs]⟩
  ·cases h2
 ·rw[Aj] at h;obtain⟨l',h1,h2⟩:=h;cases h2;rw[tS] at h1;cases h1;exact⟨⟨hc,.pa (n8 _ _)⟩,by simp[V.refs]⟩
 ·rw[Aj] at h;obtain⟨⟨I,J,O⟩,h1,h2⟩:=h;cases h2;obtain⟨g1,g2⟩:=oO h1 hc;exact⟨⟨g1,.agg g2⟩,by simp[V.refs]⟩
 ·cases h
def aKe (tr:Tr) (st:St):List Operand→List TypeId→List Prop→Option (List Nat×List V×List Prop)
 | [],_,ob=>some ([],[],ob)
 | x::xs,t::ts,ob=>(opO st x).bind fun v=>(aYo tr st v t ob).bind fun(ids1,v',ob1)=>(aKe tr st xs ts ob1).bind fun(ids2,vs,ob2)=>some (ids1++ids2,v'::vs,ob2)
 | _::_,[],_=>none
theorem aIw {tr:Tr}{st:St}:∀{xs:List Operand}{ts:List TypeId}{ob q:List Prop}{ids:List Nat}{l:List V},aKe tr st xs ts ob=some (ids,l,q)→j7 q→(j7 ob∧ArgsV st ids xs l)∧V.refsL l=[]
 | [],ts,ob,q,ids,l,h,hc=>by
  cases ts<;>(simp only[aKe] at h;cases h;exact⟨⟨hc,.nil⟩,by simp[V.refsL]⟩)
 | x::xs,[],ob,q,ids,l,h,hc=>by simp[aKe] at h
 | x::xs,t::ts,ob,q,ids,l,h,hc=>by
  simp only[aKe,cV,Aj] at h;obtain⟨v,I,⟨J,v',aa⟩,h1,⟨O,vs,ab⟩,h2,h3⟩:=h;cases h3;obtain⟨⟨g1,g2⟩,g3⟩:=aIw h2 hc;obtain⟨⟨W,Y⟩,Z⟩:=aS2 h1 g1;exact⟨⟨W,.cons I Y g2⟩,by simp[V.refsL,Z,g3]⟩
def aV8 (P:Program) (tr:Tr) (o:Oper) (n:Nat) (st:St) (ob:List Prop) (res:V) (f:FuncId) (xs:Array Operand) (ts:Array TypeId):Ans:=(aKe tr st xs.toList ts.toList ob).bind fun(ids,args,ob1)=>val o n ⟨dD xs.toList,ids⟩ res [] (aT4 P f args res::ob1)
theorem aPr {res:V}{f:FuncId}{xs:Array Operand}{ts:Array TypeId}(I:o.op=.call { callee:=.value (.func f),args:=xs,argTypes:=ts }):Snd P n o st ob (aV8 P tr o n st ob res f xs ts):=by
 refine Snd.bind fun p ha=>?_
 obtain⟨ids,args,J⟩:=p;refine Snd.val fun d hd q hc=>?_
 obtain⟨⟨g1,g2⟩,g3⟩:=aIw ha hc.2;refine⟨g1,?_⟩;have:=aMg [] [] (sB hc.1.1) I hd q hc.1.2 g2 trivial trivial (by simp[jJ,g3,keys,dO,subset]);simpa [outs,keys] using this
def aP2 (P:Program) (tr:Tr) (md:Bool) (o:Oper) (n:Nat) (st:St) (ob:List Prop) (hn:Hn) (id0:Nat) (c:Call):Ans:=match c.callee with
 | .builtin b=>match b,c.args.toList,c.argTypes.toList with
  | .len,[x],[t]=>a39 tr md o n st ob x t
  | .append,[x,y],[t,t']=>bif Nat.beq t t' then(match opO st y with | some (.one (.ra _ _ _ _))=>aC2 tr md o n st ob id0 x y t | _=>aIu tr md o n st ob hn id0 x y t) else none
  | .min,[x,y],[_,_]=>(opO st x).bind fun v=>(opO st y).bind fun u=>match v,u with
   | .one (.c (.int k a)),.one (.c (.int k' b))=>bif decide (k=k') then val o n ⟨opr x++opr y,[]⟩ (.one (.c (.int k (if b<a then b else a)))) [] ob else none
   | _,_=>none
  | .max,[x,y],[_,_]=>(opO st x).bind fun v=>(opO st y).bind fun u=>match v,u with
   | .one (.c (.int k a)),.one (.c (.int k' b))=>bif decide (k=k') then val o n ⟨opr x++opr y,[]⟩ (.one (.c (.int k (if b>a then b else a)))) [] ob else none
   | _,_=>none
  | _,_,_=>none
 | .value (.func f)=>match hn with
  | .pc res=>aV8 P tr o n st ob res f c.args c.argTypes
  | _=>none
 | _=>none
theorem arr1 {α:Type}{a:Array α}{x:α}(h:a.toList=[x]):a= #[x]:=by cases a;simp at h;simp[h]
theorem aZ4 {α:Type}{a:Array α}{x y:α}(h:a.toList=[x,y]):a= #[x,y]:=by cases a;simp at h;simp[h]
theorem aP1 {hn:Hn}{W:Nat}{c:Call}(hw:tr.wf=true) (O:Tok P tr.flat) (q:o.op=.call c):Snd P n o st ob (aP2 P tr md o n st ob hn W c):=by
 obtain⟨Y,args,Z⟩:=c;unfold aP2;dsimp only;split
 ·rename_i b;split
  ·rename_i x t h1 h2;have:=arr1 h1;have:=arr1 h2
   subst_vars
   exact aTq hw O q
  ·rename_i x y t t' h1 h2;have:=aZ4 h1;have:=aZ4 h2
   subst_vars
   refine Snd.cond fun ht=>?_
   have:=Ac ht;subst this;split
   ·exact aC1 hw O q
   ·exact aFa hw O q
  ·rename_i x y t t' h1 h2;have:=aZ4 h1;have:=aZ4 h2
   subst_vars
   refine Snd.bind fun v I=>Snd.bind fun u hu=>?_
   rw[cV] at I hu;split
   ·refine Snd.cond fun hk=>?_
    have:=θ hk;subst this;exact Snd.val fun _ hd J hc=>⟨hc,a5h q hd J I hu rfl⟩
   ·exact Snd.none
  ·rename_i x y t t' h1 h2;have:=aZ4 h1;have:=aZ4 h2
   subst_vars
   refine Snd.bind fun v I=>Snd.bind fun u hu=>?_
   rw[cV] at I hu;split
   ·refine Snd.cond fun hk=>?_
    have:=θ hk;subst this;exact Snd.val fun _ hd J hc=>⟨hc,a5i q hd J I hu rfl⟩
   ·exact Snd.none
  ·exact Snd.none
 ·split
  ·exact aPr q
  ·exact Snd.none
 ·exact Snd.none
def idO (hn:Hn) (d:Option Nat):Option Nat:=match hn with
 | .id n=>some n
 | _=>match d with
  | some d=>some d
  | none=>none
def aTn (P:Program) (tr:Tr) (md nat:Bool) (n:Nat) (st:St) (hn:Hn) (o:Oper) (ob:List Prop):Ans:=match o.op with
 | .move x=>aIt o n st ob x
 | .assign x=>aIt o n st ob x
 | .pick c x y=>aV9 o n st ob hn c x y
 | .alloc t=>(idO hn o.dst).bind fun id=>aP4 tr o n st ob id t
 | .box t x=>(idO hn o.dst).bind fun id=>a4a o n st ob id t x
 | .build t ps=>aP3 tr o n st ob t ps
 | .buildSlice t len ps=>(idO hn o.dst).bind fun id=>aPq tr o n st ob hn id t len ps
 | .load t x=>aWa tr md o n st ob hn t x
 | .store t x y=>aPp tr md o st ob hn t x y
 | .nilCheck x=>a38 md o n st ob x
 | .slice t x l h m=>aZi tr md o n st ob t x l h m
 | .index t x y=>aPw tr o n st ob hn t x y
 | .convert src dst x=>aWc tr md o n st ob hn src dst x
 | .binOp op tx x y _=>a4b tr md nat o n st ob op tx x y
 | .unOp op _ x=>a69 md o n st ob op x
 | .makeFunc f a b=>aPy o n st ob f a b
 | .makeMap t r=>(idO hn o.dst).bind fun id=>aZg tr o n st ob id t r
 | .fieldAddr t x f=>uL tr md o n st ob t x f
 | .field t x f=>aPz tr o n st ob t x f
 | .indexAddr t x y=>uK tr md o n st ob hn t x y
 | .lookup t x y ok=>zS tr md o n st ob hn t x y ok
 | .mapUpdate t x y z=>lF tr md o st ob t x y z
 | .insert t x y z=>lF tr md o st ob t x y z
 | .extract x i=>aC0 o n st ob x i
 | .call c=>(idO hn o.dst).bind fun id=>aP2 P tr md o n st ob hn id c
 | _=>none
theorem aIs {hn:Hn}(hw:tr.wf=true) (I:Tok P tr.flat):Snd P n o st ob (aTn P tr md nat n st hn o ob):=by
 unfold aTn;split
 ·rename_i q;exact aPu q
 ·rename_i q;exact aE9 q
 ·rename_i q;exact aPs q
 ·rename_i q;exact Snd.bind fun _ _=>aKc hw I q
 ·rename_i q;exact Snd.bind fun _ _=>aTt q
 ·rename_i q;exact aKb hw I q
 ·rename_i q;exact Snd.bind fun _ _=>aJ7 hw I q
 ·rename_i q;exact aPv hw I q
 ·rename_i q;exact aJ6 hw I q
 ·rename_i q;exact aTo q
 ·rename_i q;exact aTs hw I q
 ·rename_i q;exact aJ8 hw I q
 ·rename_i q;exact aP0 hw I q
 ·rename_i q;exact aTu hw I q
 ·rename_i q;exact aZf q
 ·rename_i q;exact aPx q
 ·rename_i q;exact Snd.bind fun _ _=>aTp q
 ·rename_i q;exact vD hw I q
 ·rename_i q;exact aKa hw I q
 ·rename_i q;exact vB hw I q
 ·rename_i q;exact aE6 hw I q
 ·rename_i q;exact vA hw I q
 ·rename_i q;exact aE7 hw I q
 ·rename_i q;exact aCz q
 ·rename_i q;exact Snd.bind fun _ _=>aP1 hw I q
 ·exact Snd.none
theorem Step.freeze {rd:Rd}{q:Option (Nat×Option V)}{id te es z:Nat}{l:List (List C)}(h:Step P n o st rd ⟨q,[(id,some (.arr te es l z))]⟩):Step P n o st rd ⟨q,[(id,some (.arr te es l 2))]⟩:=by
 intro st' ha G S μ a w K Q hs I;refine h st' ha G S μ a w K Q hs fun S1 Z J O h1=>?_
 have hh:(Eff.apply ⟨q,[(id,some (.arr te es l z))]⟩ st').h id=some (.arr te es l z):=by
  show updL st'.h [(id,some (.arr te es l z))] id=_;rw[c7,aI]
 obtain⟨S2,W,h2⟩:=h1.freeze hh;refine I S2 W J O ?_;have Y:upd (Eff.apply ⟨q,[(id,some (.arr te es l z))]⟩ st').h id (some (.arr te es l 2))=(Eff.apply ⟨q,[(id,some (.arr te es l 2))]⟩ st').h:=by
  show upd (updL st'.h [(id,some (.arr te es l z))]) id _=updL st'.h [(id,some (.arr te es l 2))];rw[c7,c7,nW]
 rw[Y] at h2;exact h2
def a6r:Ans→Ans
 | some (rd,⟨dv,[(id,some (.arr te es l _))]⟩,ob')=>some (rd,⟨dv,[(id,some (.arr te es l 2))]⟩,ob')
 | _=>none
theorem aZh {r:Ans}(h:Snd P n o st ob r):Snd P n o st ob (a6r r):=by
 intro rd f q e hc;unfold a6r at e;split at e
 ·cases e;obtain⟨g1,g2⟩:=h _ _ _ rfl hc;exact⟨g1,g2.freeze⟩
 ·cases e
def a4y (P:Program) (tr:Tr) (md nat:Bool) (n:Nat) (st:St) (hn:Hn) (o:Oper) (ob:List Prop):Ans:=match hn with
 | .fz=>a6r (aTn P tr md nat n st .no o ob)
 | hn=>aTn P tr md nat n st hn o ob
theorem aPt {hn:Hn}(hw:tr.wf=true) (q:Tok P tr.flat):Snd P n o st ob (a4y P tr md nat n st hn o ob):=by
 unfold a4y;split
 ·exact aZh (aIs hw q)
 ·exact aIs hw q
def aEy:List Oper→Nat→Option Nat
 | [],_=>none
 | o::os,i=>bif Nat.beq i 0 then o.dst else aEy os (i-1)
theorem aId:∀(os:List Oper) (i:Nat),aEy os i=(os[i]?).bind (·.dst)
 | [],i=>by simp[aEy]
 | o::os,0=>by simp[aEy]
 | o::os,i+1=>by
  have:Nat.beq (i+1) 0=false:=rfl;simp[aEy,this,aId os i]
def axG (P:Program) (tr:Tr) (md nat:Bool) (n:Nat) (all:List Oper) (hs:List (Nat×Hn)) (k:Nat) (o:Oper) (st:St) (ob:List Prop):Ans:=match o.guard with
 | none=>a4y P tr md nat n st (aQx hs k) o ob
 | some (j,want)=>(aEy all j).bind fun t=>(st.e t).bind fun v=>match v with
  | .one (.c (.bool b))=>match aRd (match aQx hs j with | .bv w=>.bv w | _=>.no) b ob with
   | (w,ob1)=>bif w==want then(a4y P tr md nat n st (aQx hs k) o ob1).bind fun(rd,f,ob2)=>some (⟨t::rd.e,rd.h⟩,f,ob2)
    else match o.dst with
     | some d=>bif Nat.blt d n then some (⟨[t],[]⟩,⟨some (d,some (.tup [])),[]⟩,ob1) else none
     | none=>none
  | .tup []=>match o.dst with
   | some d=>bif Nat.blt d n then some (⟨[t],[]⟩,⟨some (d,some (.tup [])),[]⟩,ob) else none
   | none=>none
  | _=>none
theorem aWb {ops:Array Oper}{hs:List (Nat×Hn)}{k:Nat}{rd:Rd}{f:Eff}{O:List Prop}(hw:tr.wf=true) (hT:Tok P tr.flat) (J:ops[k]?=some o) (h:axG P tr md nat n ops.toList hs k o st ob=some (rd,f,O)):j7 O→j7 ob∧GStep P n ops k st rd f:=by
 intro hc;unfold axG at h;split at h
 ·rename_i I;obtain⟨h1,h2⟩:=aPt hw hT _ _ _ h hc;exact⟨h1,GStep.plain J I h2⟩
 ·rename_i j want I;rw[Aj] at h;obtain⟨t,ht,h⟩:=h;rw[Aj] at h;obtain⟨v,Y,h⟩:=h;have Z:(ops[j]?).bind (·.dst)=some t:=by
   rw[aId] at ht;simpa using ht
  split at h
  ·rename_i b;split at h;rename_i w ob1 W;cases q:w==want with
   | true=>
    rw[q] at h;simp only[Bn] at h;rw[Aj] at h;obtain⟨⟨rd1,f1,ob2⟩,h1,h2⟩:=h;cases h2;obtain⟨g1,g2⟩:=aPt hw hT _ _ _ h1 hc;obtain⟨g3,g4⟩:=rE W g1;exact⟨g3,GStep.yes J I Z Y (g4.trans (eq_of_beq q)) g2⟩
   | false=>
    rw[q] at h;simp only[Bs] at h;split at h
    ·rename_i d hd;obtain⟨h1,h2⟩:=eY h;cases h2;obtain⟨g3,g4⟩:=rE W hc;refine⟨g3,GStep.no J I hd (fU h1) Z Y g4 ?_⟩;cases w<;>cases want<;>first | rfl | (cases q)
    ·cases h
  ·split at h
   ·rename_i d hd;obtain⟨h1,h2⟩:=eY h;cases h2;exact⟨hc,GStep.un J I hd (fU h1) Z Y⟩
   ·cases h
  ·cases h
def x3 (P:Program) (tr:Tr) (md nat:Bool) (n:Nat) (all:List Oper) (hs:List (Nat×Hn)):Nat→Nat→List Oper→(Nat→Option V)→cK→List Nat→REs→List Prop→Option (St×Nat×REs×List Prop)
 | 0,k,_,e,h,d,pre,ob=>some (⟨e,h,d⟩,k,pre,ob)
 | _+1,k,[],e,h,d,pre,ob=>some (⟨e,h,d⟩,k,pre,ob)
 | m+1,k,o::os,e,h,d,pre,ob=>(axG P tr md nat n all hs k o ⟨e,h,d⟩ ob).bind fun(rd,f,ob1)=>match f with
  | ⟨some (t,v),[]⟩=>x3 P tr md nat n all hs m (k+1) os (upd e t v) h d ((rd,⟨some (t,v),[]⟩)::pre) ob1
  | ⟨some (t,v),[(id,x)]⟩=>x3 P tr md nat n all hs m (k+1) os (upd e t v) (upd h id x) d ((rd,⟨some (t,v),[(id,x)]⟩)::pre) ob1
  | ⟨none,[(id,x)]⟩=>x3 P tr md nat n all hs m (k+1) os e (upd h id x) d ((rd,⟨none,[(id,x)]⟩)::pre) ob1
  | _=>none
theorem aE8 {ops:Array Oper}{hs:List (Nat×Hn)}{draw:Bool}(hw:tr.wf=true) (hT:Tok P tr.flat):∀(m k:Nat) (os:List Oper) (e:Nat→Option V) (h:cK) (d:List Nat) (pre:REs) (ob:List Prop) (st':St) (k':Nat) (pre':REs) (J:List Prop),os=ops.toList.drop k→
  x3 P tr md nat n ops.toList hs m k os e h d pre ob=some (st',k',pre',J)→j7 J→j7 ob∧∀Q,k9 P n ops draw k' st' pre' Q→k9 P n ops draw k ⟨e,h,d⟩ pre Q:=by
 intro m
 induction m with
 | zero=>
  intro k os e h d pre ob st' k' pre' J _ q hc;simp only[x3] at q;cases q;exact⟨hc,fun Q O=>O⟩
 | succ m Z=>
  intro k os e h d pre ob st' k' pre' J Y q hc;cases os with
  | nil=>
   simp only[x3] at q;cases q;exact⟨hc,fun Q O=>O⟩
  | cons o os=>
   have ho:ops[k]?=some o:=by
    have:(ops.toList.drop k)[0]?=some o:=by rw[←Y];rfl
    simpa using this
   have I:os=ops.toList.drop (k+1):=by
    have:os=(ops.toList.drop k).tail:=by rw[←Y];rfl
    rw[this,List.tail_drop]
   simp only[x3,Aj] at q;obtain⟨⟨rd,f,aa⟩,h1,h2⟩:=q;have key:∀{W:St},j7 aa→W=f.apply ⟨e,h,d⟩→(∀Q,k9 P n ops draw k' st' pre' Q→k9 P n ops draw (k+1) W ((rd,f)::pre) Q)→j7 ob∧∀Q,k9 P n ops draw k' st' pre' Q→k9 P n ops draw k ⟨e,h,d⟩ pre Q:=by
    intro W ab ac hk;obtain⟨g1,g2⟩:=aWb hw hT ho h1 ab;subst ac;exact⟨g1,fun Q O=>k_ g2 (hk Q O)⟩
   split at h2
   ·rename_i heq;have heq:f=_:=heq;subst heq;obtain⟨g1,g2⟩:=Z _ _ _ _ _ _ _ _ _ _ _ I h2 hc;exact key g1 (by simp only[Eff.apply,aFv]) g2
   ·rename_i heq;have heq:f=_:=heq;subst heq;obtain⟨g1,g2⟩:=Z _ _ _ _ _ _ _ _ _ _ _ I h2 hc;exact key g1 (by simp only[Eff.apply,c7]) g2
   ·rename_i heq;have heq:f=_:=heq;subst heq;obtain⟨g1,g2⟩:=Z _ _ _ _ _ _ _ _ _ _ _ I h2 hc;exact key g1 (by simp only[Eff.apply,c7]) g2
   ·cases h2
end
section
variable {ro:Option Nat}{P:Program}{n:Nat}{ops:Array Oper}{draw:Bool}{k k':Nat}{st st':St}{pre pre':REs}{Q:St→Prop}{tr:Tr}{ob:List Prop}
theorem ax_ {hs:List (Nat×Hn)}{md nat:Bool}(m:Nat) (hw:tr.wf=true) (q:Tok P tr.flat) (h:x3 P tr md nat n ops.toList hs m k (ops.toList.drop k) st.e st.h st.d pre []=some (st',k',pre',ob)) (hc:j7 ob) (hk:k9 P n ops draw k' st' pre' Q):k9 P n ops draw k st pre Q:=
 (aE8 hw q m k _ st.e st.h st.d pre [] st' k' pre' ob rfl h hc).2 Q hk
theorem aWd {hs:List (Nat×Hn)}{md nat:Bool}{kf:List Nat}{id:Nat}{Q:Exit→St→Prop}(hm:P.follows .mixedOrders=true) (hw:tr.wf=true) (q:Tok P tr.flat) (h:x3 P tr md nat n ops.toList hs 1000 0 ops.toList st.e st.h st.d [] []=some (st',k',pre',ob)) (hc:j7 ob)
  (h1:Nat.beq k' ops.size=true) (h2:(!draw || (fP (pZ ops) pre'.reverse []&&iX ops))=true) (I:Q .normal st'):AWp ro P n kf (.region id ops draw) st Q:=
 aE hm ((aE8 hw q 1000 0 _ st.e st.h st.d [] [] st' k' pre' ob rfl h hc).2 _ (z_ h1 h2 I))
end
theorem hs_all {h:cK}{id te es n:Nat}{l l':List (List C)}{fz:Nat}(h1:h id=some (.arr te es l fz)) (hf:fz=2) (h2:n=l.length) (h3:l=l'):Conv h [id] (.one (.hs id 0 n n)) (.one (.c (.sl es l'))):=by
 subst h2;subst h3;subst hf;exact .one (.hs h1 rfl (by rw[B4,As]) .nil)
section
variable {P:Program}{n:Nat}{ops:Array Oper}{draw:Bool}{k d:Nat}{st:St}{pre:REs}{Q:St→Prop}{o:Oper}{f:FuncId}{xs:Array Operand}{ts:Array TypeId}{ids:List Nat}{args:List V}{res:V}{hin hout:List (Nat×AObj)}
theorem kc (hf:aU P f args hin res hout)
  (hk:k9 P n ops draw (k+1) ⟨upd st.e d (some res),updL st.h (outs hout),st.d⟩ ((⟨dD xs.toList,ids++keys hin++keys hout⟩,⟨some (d,some res),outs hout⟩)::pre) Q)
  (hb:jZ P f:=by exact sB (by kernel_rfl)) (J:ops[k]?=some o:=by rfl) (O:o.guard=none:=by rfl) (q:o.op=.call { callee:=.value (.func f),args:=xs,argTypes:=ts }:=by rfl) (hd:o.dst=some d:=by rfl) (I:Nat.blt d n=true:=by rfl)
  (ha:ArgsV st ids xs.toList args:=by repeat (first | exact .nil | (apply Go.AM.ArgsV.cons rfl;(first | exact .refl | exact .one (.c .nl .nil) | exact .one (.c .sn .nil) | exact .one (.hs rfl (by first | rfl | simp) (by first | rfl | (simp;done) | (simp[Go.AM.take_map];done) | exact Go.AM.take_map.symm) .nil) | exact Go.AM.hs_all rfl rfl (by first | rfl | assumption | (simp;done) | (simp;omega)) (by first | rfl | assumption | (simp;done)) | ((first | apply Go.AM.Conv.pa | apply Go.AM.Conv.agg);repeat (first | exact .nil | apply Go.AM.PureL.c .refl | apply Go.AM.PureL.c .nl | apply Go.AM.PureL.c .sn | (apply Go.AM.PureL.hs;rfl;(first | rfl | simp);(first | rfl | (simp;done) | (simp[Go.AM.take_map];done) | exact Go.AM.take_map.symm))))))))
  (hin':eJ (fun p=>st.h p.1=some p.2) hin:=by repeat (first | exact trivial | refine⟨rfl,?_⟩)) (hout':eJ (fun p=>p.1∈keys hin∨st.h p.1=none) hout:=by repeat (first | exact trivial | refine⟨.inr rfl,?_⟩ | refine⟨.inl (by decide),?_⟩ | refine⟨.inl (by repeat (first | exact List.Mem.head _ | apply List.Mem.tail)),?_⟩)) (hok:jJ args hin=true:=by rfl):k9 P n ops draw k st pre Q:=
 k_ (g_ J O (aMg hin hout hb q hd (fU I) hf ha hin' hout' hok)) hk
theorem kv {x:Operand}{caps:List R}(hf:aU P f (args++caps.map V.one) hin res hout)
  (hk:k9 P n ops draw (k+1) ⟨upd st.e d (some res),updL st.h (outs hout),st.d⟩ ((⟨opr x++dD xs.toList,ids++keys hin++keys hout⟩,⟨some (d,some res),outs hout⟩)::pre) Q)
  (hb:jZ P f:=by exact sB (by kernel_rfl)) (J:ops[k]?=some o:=by rfl) (O:o.guard=none:=by rfl) (q:o.op=.call { callee:=.value x,args:=xs,argTypes:=ts }:=by rfl) (hd:o.dst=some d:=by rfl) (I:Nat.blt d n=true:=by rfl) (hx:opv st x=some (.one (.clo f caps)):=by rfl)
  (ha:ArgsV st ids xs.toList args:=by repeat (first | exact .nil | (apply Go.AM.ArgsV.cons rfl;(first | exact .refl | exact .one (.c .nl .nil) | exact .one (.c .sn .nil) | exact .one (.hs rfl (by first | rfl | simp) (by first | rfl | (simp;done) | (simp[Go.AM.take_map];done) | exact Go.AM.take_map.symm) .nil) | exact Go.AM.hs_all rfl rfl (by first | rfl | assumption | (simp;done) | (simp;omega)) (by first | rfl | assumption | (simp;done)) | ((first | apply Go.AM.Conv.pa | apply Go.AM.Conv.agg);repeat (first | exact .nil | apply Go.AM.PureL.c .refl | apply Go.AM.PureL.c .nl | apply Go.AM.PureL.c .sn | (apply Go.AM.PureL.hs;rfl;(first | rfl | simp);(first | rfl | (simp;done) | (simp[Go.AM.take_map];done) | exact Go.AM.take_map.symm))))))))
  (hin':eJ (fun p=>st.h p.1=some p.2) hin:=by repeat (first | exact trivial | refine⟨rfl,?_⟩)) (hout':eJ (fun p=>p.1∈keys hin∨st.h p.1=none) hout:=by repeat (first | exact trivial | refine⟨.inr rfl,?_⟩ | refine⟨.inl (by decide),?_⟩ | refine⟨.inl (by repeat (first | exact List.Mem.head _ | apply List.Mem.tail)),?_⟩)) (hok:jJ (args++caps.map V.one) hin=true:=by rfl):k9 P n ops draw k st pre Q:=
 k_ (g_ J O (xY hin hout hb q hd (fU I) hx hf ha hin' hout' hok)) hk
end
inductive Res where
 | leaf (st:St) (k:Nat) (pre:REs) (ob:List Prop)
 | fork (b:Bool) (x y:Res)
def Res.obs:Res→Prop
 | .leaf _ _ _ ob=>j7 ob
 | .fork b x y=>(b=true→x.obs)∧(b=false→y.obs)
def Res.good (ops:Array Oper) (draw:Bool):Res→Bool
 | .leaf _ k pre _=>Nat.beq k ops.size&&(!draw || (fP (pZ ops) pre.reverse []&&iX ops))
 | .fork _ x y=>x.good ops draw&&y.good ops draw
def Res.all (Q:St→Prop):Res→Prop
 | .leaf st _ _ _=>Q st
 | .fork b x y=>(b=true→x.all Q)∧(b=false→y.all Q)
def aX0:Nat→List Nat→Bool
 | _,[]=>false
 | i,x::l=>bif Nat.beq i x then true else aX0 i l
theorem aHk:∀{i:Nat}{l:List Nat},aX0 i l=true↔i∈l
 | i,[]=>by simp[aX0]
 | i,x::l=>by
  simp only[aX0];cases h:Nat.beq i x with
  | true=>have:=Ac h;simp[this]
  | false=>
   have:i≠x:=fun e=>by subst e;simp at h
   simp[this,aHk]
def a2q (all:List Oper) (dec:List Nat) (o:Oper):Option Nat:=
 match (match o.guard with | some (j,_)=>(aEy all j).bind fun t=>bif aX0 t dec then none else some t | none=>none) with
 | some t=>some t
 | none=>match o.op with
  | .pick (.tmp t) _ _=>bif aX0 t dec then none else some t
  | _=>none
def pL (P:Program) (tr:Tr) (md nat:Bool) (n:Nat) (all:List Oper) (hs:List (Nat×Hn)) (W:List Nat):Nat→Nat→List Oper→(Nat→Option V)→cK→List Nat→List Nat→REs→List Prop→Option Res
 | 0,_,_,_,_,_,_,_,_=>none
 | _+1,k,[],e,h,d,_,pre,ob=>some (.leaf ⟨e,h,d⟩ k pre ob)
 | m+1,k,o::os,e,h,d,dec,pre,ob=>match a2q all dec o with
  | some t=>match e t with
   | some (.one (.c (.bool b)))=>(pL P tr md nat n all hs W m k (o::os) (upd e t (some (.one (.c (.bool true))))) h d (t::dec) pre ob).bind fun x=>
     (pL P tr md nat n all hs W m k (o::os) (upd e t (some (.one (.c (.bool false))))) h d (t::dec) pre ob).bind fun y=>some (.fork b x y)
   | _=>pL P tr md nat n all hs W m k (o::os) e h d (t::dec) pre ob
  | none=>(axG P tr md nat n all hs k o ⟨e,h,d⟩ ob).bind fun(rd,f,ob1)=>match f with
   | ⟨some (t,v),[]⟩=>bif aX0 t W then pL P tr md nat n all hs W m (k+1) os (upd e t v) h d dec ((rd,⟨some (t,v),[]⟩)::pre) ob1 else none
   | _=>none
section
variable {P:Program}{n:Nat}{tr:Tr}{md nat:Bool}
theorem aFu {e:Nat→Option V}{t:Nat}{x:Option V}(h:e t=x):upd e t x=e:=by
 funext i;simp only[upd];split
 ·rename_i hb;rw[Ac hb,h]
 ·rfl
theorem aTr {ops:Array Oper}{hs:List (Nat×Hn)}{W:List Nat}{draw:Bool}(hw:tr.wf=true) (hT:Tok P tr.flat):∀(m k:Nat) (os:List Oper) (e:Nat→Option V) (h:cK) (d dec:List Nat) (pre:REs) (ob:List Prop) (res:Res),os=ops.toList.drop k→
  pL P tr md nat n ops.toList hs W m k os e h d dec pre ob=some res→res.obs→res.good ops draw=true→∀Q,res.all Q→j7 ob∧k9 P n ops draw k ⟨e,h,d⟩ pre Q:=by
 intro m
 induction m with
 | zero=>intro k os e h d dec pre ob res _ I;simp[pL] at I
 | succ m Z=>
  intro k os e h d dec pre ob res J I O q Q Y;cases os with
  | nil=>
   simp only[pL] at I;cases I;simp only[Res.good,ε] at q;exact⟨O,z_ q.1 q.2 Y⟩
  | cons o os=>
   have hok:ops[k]?=some o:=by
    have:(ops.toList.drop k)[0]?=some o:=by rw[←J];rfl
    simpa using this
   have aa:os=ops.toList.drop (k+1):=by
    have:os=(ops.toList.drop k).tail:=by rw[←J];rfl
    rw[this,List.tail_drop]
   simp only[pL] at I;split at I
   ·rename_i t _;split at I
    ·rename_i b hb;rw[Aj] at I;obtain⟨x,hx,I⟩:=I;rw[Aj] at I;obtain⟨y,hy,I⟩:=I;cases I;simp only[Res.obs] at O;simp only[Res.good,ε] at q;simp only[Res.all] at Y;cases b with
     | true=>
      rw[aFu hb] at hx;exact Z _ _ _ _ _ _ _ _ _ J hx (O.1 rfl) q.1 Q (Y.1 rfl)
     | false=>
      rw[aFu hb] at hy;exact Z _ _ _ _ _ _ _ _ _ J hy (O.2 rfl) q.2 Q (Y.2 rfl)
    ·exact Z _ _ _ _ _ _ _ _ _ J I O q Q Y
   ·rw[Aj] at I;obtain⟨⟨rd,f,ob1⟩,h1,h2⟩:=I;dsimp only at h2;split at h2
    ·obtain⟨_,h3⟩:=eY h2;obtain⟨g1,g2⟩:=Z _ _ _ _ _ _ _ _ _ aa h3 O q Q Y;obtain⟨g3,g4⟩:=aWb hw hT hok h1 g1;refine⟨g3,k_ g4 ?_⟩;simpa only[Eff.apply,aFv] using g2
    ·cases h2
def Res.keep (e0:Nat→Option V) (h0:cK) (d0:List Nat) (W:List Nat):Res→Prop
 | .leaf st _ _ _=>(∀t,t∉W→∀v,e0 t=some v→st.e t=some v)∧st.h=h0∧st.d=d0
 | .fork b x y=>(b=true→x.keep e0 h0 d0 W)∧(b=false→y.keep e0 h0 d0 W)
theorem aJ9 {all:List Oper}{hs:List (Nat×Hn)}{W:List Nat}{e0:Nat→Option V}:∀(m k:Nat) (os:List Oper) (e:Nat→Option V) (h:cK) (d dec:List Nat) (pre:REs) (ob:List Prop) (res:Res),
  pL P tr md nat n all hs W m k os e h d dec pre ob=some res→(∀t,t∉W→∀v,e0 t=some v→e t=some v)→res.keep e0 h d W:=by
 intro m
 induction m with
 | zero=>intro k os e h d dec pre ob res q;simp[pL] at q
 | succ m I=>
  intro k os e h d dec pre ob res q he;cases os with
  | nil=>
   simp only[pL] at q;cases q;exact⟨he,rfl,rfl⟩
  | cons o os=>
   simp only[pL] at q;split at q
   ·rename_i t _;split at q
    ·rename_i b hb;rw[Aj] at q;obtain⟨x,hx,q⟩:=q;rw[Aj] at q;obtain⟨y,J,q⟩:=q;cases q;refine⟨fun O=>?_,fun Y=>?_⟩
     ·subst O;rw[aFu hb] at hx;exact I _ _ _ _ _ _ _ _ _ hx he
     ·subst Y;rw[aFu hb] at J;exact I _ _ _ _ _ _ _ _ _ J he
    ·exact I _ _ _ _ _ _ _ _ _ q he
   ·rw[Aj] at q;obtain⟨⟨rd,f,aa⟩,h1,h2⟩:=q;dsimp only at h2;split at h2
    ·obtain⟨hm,h3⟩:=eY h2;refine I _ _ _ _ _ _ _ _ _ h3 fun s hs u hu=>?_
     have Z:s≠_:=fun e=>hs (by rw[e];exact aHk.1 hm)
     rw[aS _ _ _ Z];exact he s hs u hu
    ·cases h2
def Res.boolAt (w:Nat):Res→Option Bool
 | .leaf st _ _ _=>match st.e w with
  | some (.one (.c (.bool x)))=>some x
  | _=>none
 | .fork b x y=>(x.boolAt w).bind fun p=>(y.boolAt w).bind fun q=>some (bif b then p else q)
theorem Res.boolAt_all {w:Nat}:∀{r:Res}{x:Bool},r.boolAt w=some x→r.all fun st=>st.e w=some (.one (.c (.bool x)))
 | .leaf st _ _ _,x,h=>by
  simp only[Res.boolAt] at h;split at h
  ·rename_i hx;cases h;exact hx
  ·cases h
 | .fork b p q,x,h=>by
  simp only[Res.boolAt,Aj] at h;obtain⟨u,hu,v,I,h⟩:=h;cases h;refine⟨fun hb=>?_,fun hb=>?_⟩
  ·subst hb;exact Res.boolAt_all hu
  ·subst hb;exact Res.boolAt_all I
def u1 (res:Res):List Nat→Option (List (Nat×Option V))
 | []=>some []
 | w::ws=>(u1 res ws).bind fun l=>match res.boolAt w with
  | some x=>some ((w,some (.one (.c (.bool x))))::l)
  | none=>some ((w,none)::l)
def nK (e:Nat→Option V):List (Nat×Option V)→Nat→Option V
 | [],t=>e t
 | (w,v)::l,t=>bif Nat.beq t w then v else nK e l t
theorem aBm {res:Res}{e0:Nat→Option V}{t:Nat}:∀{W:List Nat}{L:List (Nat×Option V)},u1 res W=some L→nK e0 L t=if t∈W then(res.boolAt t).map (fun x=>V.one (.c (.bool x))) else e0 t
 | [],L,h=>by
  simp only[u1] at h;cases h;simp[nK]
 | w::ws,L,h=>by
  simp only[u1,Aj] at h;obtain⟨l,hl,h⟩:=h;have I:=aBm (e0:=e0) (t:=t) hl;have J:L=(w,(res.boolAt w).map (fun x=>V.one (.c (.bool x))))::l:=by
   split at h
   ·rename_i x hx;cases h;rw[hx];rfl
   ·rename_i hx;cases h;rw[hx];rfl
  subst J;simp only[nK];by_cases q:t=w
  ·subst q;simp
  ·have hb:Nat.beq t w=false:=by
    cases hb:Nat.beq t w with
    | true=>exact absurd (Ac hb) q
    | false=>rfl
   rw[hb,Bs,I];simp[q]
theorem Res.all_mono {Q Q':St→Prop}(h:∀st,Q st→Q' st):∀{r:Res},r.all Q→r.all Q'
 | .leaf st _ _ _,k=>h st k
 | .fork _ _ _,k=>⟨fun hb=>Res.all_mono h (k.1 hb),fun hb=>Res.all_mono h (k.2 hb)⟩
theorem Res.all_forall {α:Type}{Q:α→St→Prop}:∀{r:Res},(∀a,r.all (Q a))→r.all fun st=>∀a,Q a st
 | .leaf _ _ _ _,k=>fun a=>k a
 | .fork _ _ _,k=>⟨fun hb=>Res.all_forall fun a=>(k a).1 hb,fun hb=>Res.all_forall fun a=>(k a).2 hb⟩
theorem Res.all_and {Q Q':St→Prop}:∀{r:Res},r.all Q→r.all Q'→r.all fun st=>Q st∧Q' st
 | .leaf _ _ _ _,h,k=>⟨h,k⟩
 | .fork _ _ _,h,k=>⟨fun hb=>Res.all_and (h.1 hb) (k.1 hb),fun hb=>Res.all_and (h.2 hb) (k.2 hb)⟩
theorem Res.keep_at {e0:Nat→Option V}{h0:cK}{d0 W:List Nat}{t:Nat}{v:V}(ht:t∉W) (q:e0 t=some v):∀{r:Res},r.keep e0 h0 d0 W→r.all fun st=>st.e t=some v
 | .leaf _ _ _ _,k=>k.1 t ht v q
 | .fork _ _ _,k=>⟨fun hb=>Res.keep_at ht q (k.1 hb),fun hb=>Res.keep_at ht q (k.2 hb)⟩
theorem Res.keep_hd {e0:Nat→Option V}{h0:cK}{d0 W:List Nat}:∀{r:Res},r.keep e0 h0 d0 W→r.all fun st=>st.h=h0∧st.d=d0
 | .leaf _ _ _ _,k=>k.2
 | .fork _ _ _,k=>⟨fun hb=>Res.keep_hd (k.1 hb),fun hb=>Res.keep_hd (k.2 hb)⟩
theorem aSn {res:Res}{e0:Nat→Option V}{h0:cK}{d0 W:List Nat}{L:List (Nat×Option V)}(h:u1 res W=some L) (hk:res.keep e0 h0 d0 W):res.all fun st=>(∀p:Nat×V,nK e0 L p.1=some p.2→st.e p.1=some p.2)∧(st.h=h0∧st.d=d0):=by
 refine Res.all_and (Res.all_forall fun p=>?_) (Res.keep_hd hk);by_cases q:nK e0 L p.1=some p.2
 ·refine Res.all_mono (fun st h _=>h) (?_:res.all fun st=>st.e p.1=some p.2);rw[aBm h] at q;by_cases ht:p.1∈W
  ·rw[ξ ht,Bp] at q;obtain⟨x,hx,q⟩:=q;rw[←q];exact Res.boolAt_all hx
  ·rw[ψ ht] at q;exact Res.keep_at ht q hk
 ·have:∀r:Res,r.all fun st=>nK e0 L p.1=some p.2→st.e p.1=some p.2:=by
   intro r
   induction r with
   | leaf st k pre ob=>exact fun h=>absurd h q
   | fork b x y I J=>exact⟨fun _=>I,fun _=>J⟩
  exact this res
theorem Sub.weak {kf:List Nat}{q st2:St}(he:∀p:Nat×V,st2.e p.1=some p.2→q.e p.1=some p.2) (hh:q.h=st2.h) (hd:q.d=st2.d):Sub kf st2 q:=by
 intro G n S μ a w _ hs;refine⟨S,μ,⟨?_,hs.size,?_,fun t v e=>?_⟩⟩
 ·rw[←hh];exact hs.inv
 ·rw[←hh,←hd];exact hs.defers
 ·rw[←hh];exact hs.env t v (he (t,v) e)
def aZ2:List Oper→List Nat
 | []=>[]
 | o::os=>match o.dst with
  | some t=>t::aZ2 os
  | none=>aZ2 os
theorem aZk {ro:Option Nat}{ops:Array Oper}{draw:Bool}{st:St}{J:Nat→Option V}{h1:cK}{d1:List Nat}{I:Nat}{q:REs}{O:List Prop}{res:Res}{L:List (Nat×Option V)}{hs:List (Nat×Hn)}{kf:List Nat}{id:Nat}{Q:Exit→St→Prop}(m:Nat) (hm:P.follows .mixedOrders=true) (hw:tr.wf=true) (Z:Tok P tr.flat)
  (g1:x3 P tr md nat n ops.toList hs m 0 ops.toList st.e st.h st.d [] []=some (⟨J,h1,d1⟩,I,q,O))
  (g2:pL P tr md nat n ops.toList hs (aZ2 (ops.toList.drop I)) 1000 I (ops.toList.drop I) J h1 d1 [] q O=some res)
  (g3:u1 res (aZ2 (ops.toList.drop I))=some L) (ho:res.obs) (hg:res.good ops draw=true) (hq:Q .normal ⟨nK J L,h1,d1⟩):AWp ro P n kf (.region id ops draw) st Q:=by
 have hk:=aJ9 (P:=P) (tr:=tr) (md:=md) (nat:=nat) (n:=n) (e0:=J) _ _ _ _ _ _ _ _ _ _ g2 (fun _ _ _ h=>h);have aa:=aSn g3 hk;have W:res.all fun st'=>Sub kf ⟨nK J L,h1,d1⟩ st':=Res.all_mono (fun st h=>Sub.weak h.1 h.2.1 h.2.2) aa
 obtain⟨ab,Y⟩:=aTr (draw:=draw) hw Z _ _ _ _ _ _ _ _ _ _ rfl g2 ho hg _ W;exact aZj _ hm ((aE8 hw Z m 0 _ st.e st.h st.d [] [] _ I q O rfl g1 ab).2 _ Y) hq
end
end Go.AM
namespace Go.AM
open Go
theorem Ole.arrS {σ:Nat→Nat}{te es fz:Nat}{l l':List (List C)}(h:l=l'):Ole σ (.arr te es l fz) (.arr te es l' fz):=by subst h;exact .arr
theorem hs_ren {id off a b q I:Nat}(h:a=q) (k:b=I):some (V.one (.hs id off a b))=some (V.ren (fun i=>i) (V.one (.hs id off q I))):=by subst h;subst k;rfl
theorem sl {kf:List Nat}{q:St}{el:List (Nat×V)}{hl:List (Nat×AObj)}
  (he:eJ (fun p=>q.e p.1=some (p.2.ren (fun i=>i))) el:=by repeat (first | exact trivial | refine⟨by first | rfl | exact Go.AM.hs_ren (by first | (simp;done) | (simp;omega)) (by first | (simp;done) | (simp;omega)),?_⟩))
  (hh:eJ (fun p=>∃o,q.h p.1=some o∧Ole (fun i=>i) o p.2) hl:=by repeat (first | exact trivial | refine⟨⟨_,rfl,by first | exact Go.AM.Ole.arr | exact Go.AM.Ole.var rfl | exact Go.AM.Ole.map | exact Go.AM.Ole.rarr rfl | exact Go.AM.Ole.arr1 | exact Go.AM.Ole.arrS (by first | assumption | (simp;done) | (simp;rfl) | (simp;omega)) | exact Go.AM.Ole.arrE (by first | assumption | (simp;done) | (simp;rfl) | (simp;omega)) | exact Go.AM.Ole.var (by first | (simp[Go.AM.R.renL,Go.AM.R.ren];done) | (simp[Go.AM.R.renL,Go.AM.R.ren];omega)) | exact Go.AM.Ole.mapE (by first | assumption | (simp;done) | (simp;rfl) | (simp;omega))⟩,?_⟩))
  (hok:(aZ1 kf (fun i=>i) el hl&&eqL [] q.d)=true:=by rfl):Sub kf (mk el hl) q:=Sub.list (fun i=>i) he hh hok
theorem take_all {α:Type}{l:List α}{n:Nat}(h:n=l.length):l=(l.drop 0).take n:=by rw[h,B4,As]
theorem ltD {i n:Nat}{l:List (List C)}(h:decide ((i:Int)<(l.length:Int))=true) (e:l.length=n):i<n:=by
 have:(i:Int)<(l.length:Int):=by simpa using h
 omega
theorem geD {i n:Nat}{l:List (List C)}(h:decide ((i:Int)<(l.length:Int))=false) (e:l.length=n) (hi:i≤n):i=n:=by
 have:¬(i:Int)<(l.length:Int):=by simpa using h
 omega
theorem Ole.rarrS {te es:Nat}{l l':List (List R)}(h:l=l'):Ole (fun i=>i) (.rarr te es l) (.rarr te es l'):=by subst h;exact .rarr (aD8 _).symm
section
variable {T:TT}{fn:Func}{st:St}{hin hout:List (Nat×AObj)}{res:V}
theorem rtT {t:Nat}{v:V}{ids:List Nat}(q:fn.results.toList=[.tmp t]:=by rfl) (I:st.e t=some v:=by rfl)
  (hc:Conv st.h ids v res:=by first | exact .refl | exact .one (.c .nl .nil) | ((first | apply Go.AM.Conv.pa | apply Go.AM.Conv.agg);repeat (first | exact .nil | apply Go.AM.PureL.c .refl | apply Go.AM.PureL.c .nl | (apply Go.AM.PureL.hs;rfl;(first | rfl | assumption | simp);(first | rfl | exact Go.AM.take_all (by first | assumption | rfl | (simp;done)) | exact Go.AM.take_map.symm)))))
  (J:eJ (fun p=>∃o,st.h p.1=some o∧Ole (fun i=>i) o p.2) hout:=by repeat (first | exact trivial | refine⟨⟨_,rfl,by first | exact Go.AM.Ole.arr | exact Go.AM.Ole.var rfl | exact Go.AM.Ole.map | exact Go.AM.Ole.rarr rfl | exact Go.AM.Ole.arr1 | exact Go.AM.Ole.arrS (by first | assumption | (simp;done) | (simp;rfl) | (simp;omega)) | exact Go.AM.Ole.arrE (by first | assumption | (simp;done) | (simp;rfl) | (simp;omega)) | exact Go.AM.Ole.var (by first | (simp[Go.AM.R.renL,Go.AM.R.ren];done) | (simp[Go.AM.R.renL,Go.AM.R.ren];omega)) | exact Go.AM.Ole.mapE (by first | assumption | (simp;done) | (simp;rfl) | (simp;omega))⟩,?_⟩))
  (hok:(subset res.refs (keys hout)&&subset (dO hout) (keys hout)&&distinct (keys hout)&&subset (keys hin) (keys hout)&&(hin.all fun p=>p.2.plain)&&(hout.all fun p=>p.2.plain))=true:=by rfl):(Exit.ret=.normal∨Exit.ret=.ret)∧Fin T fn st hin res hout:=
 ⟨.inr rfl,⟨[v],[res],by rw[q];exact .tmp I .nil,.cons hc .nil,rfl⟩,J,hok⟩
theorem rtC {tr:Tr}{a t:Nat}{i:TI}{id off tv:Nat}{cells:List R}{v:V}{ids:List Nat}(hw:tr.wf=true) (q:fn.results.toList=[.cell a t]:=by rfl) (hi:tr.get t=some i:=by rfl) (ha:st.e a=some (.one (.vp id off)):=by rfl) (hh:st.h id=some (.var tv cells):=by rfl) (hb:Nat.ble (off+i.size) cells.length=true:=by rfl) (I:rB i ((cells.drop off).take i.size)=some v:=by rfl)
  (hc:Conv st.h ids v res:=by first | exact .refl | exact .one (.c .nl .nil) | ((first | apply Go.AM.Conv.pa | apply Go.AM.Conv.agg);repeat (first | exact .nil | apply Go.AM.PureL.c .refl | apply Go.AM.PureL.c .nl | (apply Go.AM.PureL.hs;rfl;(first | rfl | assumption | simp);(first | rfl | exact Go.AM.take_all (by first | assumption | rfl | (simp;done)) | exact Go.AM.take_map.symm)))))
  (J:eJ (fun p=>∃o,st.h p.1=some o∧Ole (fun i=>i) o p.2) hout:=by repeat (first | exact trivial | refine⟨⟨_,rfl,by first | exact Go.AM.Ole.arr | exact Go.AM.Ole.var rfl | exact Go.AM.Ole.map | exact Go.AM.Ole.rarr rfl | exact Go.AM.Ole.arr1 | exact Go.AM.Ole.arrS (by first | assumption | (simp;done) | (simp;rfl) | (simp;omega)) | exact Go.AM.Ole.arrE (by first | assumption | (simp;done) | (simp;rfl) | (simp;omega)) | exact Go.AM.Ole.var (by first | (simp[Go.AM.R.renL,Go.AM.R.ren];done) | (simp[Go.AM.R.renL,Go.AM.R.ren];omega)) | exact Go.AM.Ole.mapE (by first | assumption | (simp;done) | (simp;rfl) | (simp;omega))⟩,?_⟩))
  (hok:(subset res.refs (keys hout)&&subset (dO hout) (keys hout)&&distinct (keys hout)&&subset (keys hin) (keys hout)&&(hin.all fun p=>p.2.plain)&&(hout.all fun p=>p.2.plain))=true:=by rfl):(Exit.ret=.normal∨Exit.ret=.ret)∧Fin tr.flat fn st hin res hout:=
 ⟨.inr rfl,⟨[v],[res],by rw[q];exact .cell ha (Tr.get_ok hw hi) hh hb I .nil,.cons hc .nil,rfl⟩,J,hok⟩
end
end Go.AM
namespace Go.AM
open Go
theorem jR {id:Nat}{o:AObj}{hin:List (Nat×AObj)}:look ((id,o)::hin)=upd (look hin) id (some o):=by
 funext i;by_cases h:i=id
 ·subst h;rw[aI,dI]
 ·rw[aS _ _ _ h,dW h]
theorem Inv.emptyZ {G:Ctx}{S:Sto}{μ:Mu}{H:cK}{w:World}{id:Nat}(te es z:Nat) (h:Inv G S μ H w) (hid:H id=none):Inv G S (upd μ id none) (upd H id (some (.arr te es [] z))) w∧Evolve S μ H S (upd μ id none) (upd H id (some (.arr te es [] z))):=by
 have O:Evolve S μ H S (upd μ id none) (upd H id (some (.arr te es [] z))):=gO hid _ _;refine⟨⟨h.holds,fun j x q=>?_,fun i j x x' b c c' hi q hm I=>?_,fun i x b c hi hm=>?_,h.frame,h.sle,h.sto,h.evo.trans O,h.fre⟩,O⟩
 ·by_cases J:j=id
  ·subst J;rw[aI] at q;cases q;exact⟨by simp,.inl ⟨aI _ _ _,rfl⟩⟩
  ·rw[aS _ _ _ J] at q;exact(h.obj j x q).evolve O (aS _ _ _ J) fun _ _ _=>⟨rfl,fun _=>rfl,rfl⟩
 ·have h1:i≠id:=fun e=>by subst e;rw[aI] at hm;cases hm
  have h2:j≠id:=fun e=>by subst e;rw[aI] at I;cases I
  rw[aS _ _ _ h1] at hi hm;rw[aS _ _ _ h2] at q I;exact h.inj i j x x' b c c' hi q hm I
 ·have h1:i≠id:=fun e=>by subst e;rw[aI] at hm;cases hm
  rw[aS _ _ _ h1] at hi hm;exact h.own i x b c hi hm
theorem aU.nilArg {P:Program}{f:FuncId}{pre post:List V}{hin hout:List (Nat×AObj)}{res:V}{id te es z:Nat}(h:aU P f (pre++ .one (.hs id 0 0 0)::post) ((id,.arr te es [] z)::hin) res hout) (hid:look hin id=none):aU P f (pre++ .one (.c .nl)::post) hin res hout:=by
 intro S μ w vals Z hv;obtain⟨hi,J⟩:=Z.emptyZ te es z hid;have O:vF (upd μ id none) (look ((id,.arr te es [] z)::hin))=vF μ (look hin):=by
  funext b;rw[jR];refine propext ⟨?_,?_⟩
  ·rintro⟨j,o,c,h1,h2⟩;by_cases I:j=id
   ·subst I;rw[aI] at h2;cases h2
   ·rw[aS _ _ _ I] at h1 h2;exact⟨j,o,c,h1,h2⟩
  ·rintro⟨j,o,c,h1,h2⟩;have I:j≠id:=fun e=>by subst e;rw[hid] at h1;cases h1
   exact⟨j,o,c,by rw[aS _ _ _ I];exact h1,by rw[aS _ _ _ I];exact h2⟩
 have W:Inv ⟨w,S,vF (upd μ id none) (look ((id,.arr te es [] z)::hin)),upd μ id none,look ((id,.arr te es [] z)::hin)⟩ S (upd μ id none) (look ((id,.arr te es [] z)::hin)) w:=by
  rw[O,jR];exact⟨hi.holds,hi.obj,hi.inj,hi.own,hi.frame,hi.sle,hi.sto,Evolve.refl _ _ _,hi.fre⟩
 have Y:bS S (upd μ id none) (look ((id,.arr te es [] z)::hin)) (pre++ .one (.hs id 0 0 0)::post) vals:=by
  rw[jR];have key:∀(l:List V) (us:List Value),bS S μ (look hin) (l++ .one (.c .nl)::post) us→bS S (upd μ id none) (upd (look hin) id (some (.arr te es [] z))) (l++ .one (.hs id 0 0 0)::post) us:=by
   intro l
   induction l with
   | nil=>
    intro us hu;simp only[A4,bS] at hu ⊢;obtain⟨u,q,h1,h2,h3⟩:=hu;refine⟨u,q,h1,?_,bS.evolve J _ _ h3⟩;simp only[aZ,b9,Rep] at h2 ⊢;exact⟨⟨_,_,_,h2⟩,.inr ⟨te,es,[],z,aI _ _ _,le_refl _,fun _=>⟨le_refl _,.inl ⟨aI _ _ _,rfl,h2⟩⟩⟩⟩
   | cons x l ih=>
    intro us hu;simp only[A9,bS] at hu ⊢;obtain⟨u,q,h1,h2,h3⟩:=hu;exact⟨u,q,h1,aZ.evolve J _ _ h2,ih q h3⟩
  exact key pre vals hv
 refine Calls.mono (h S (upd μ id none) w vals W Y) ?_;rintro e w' ⟨S',μ',v,h1,h2,h3⟩;refine⟨S',μ',v,h1,?_,h3⟩;rw[O] at h2;refine⟨h2.holds,h2.obj,h2.inj,h2.own,h2.frame,h2.sle,h2.sto,J.trans ?_,h2.fre⟩;have:=h2.evo;rwa [jR] at this
theorem aU.sub {P:Program}{f:FuncId}{args:List V}{hin hout hout':List (Nat×AObj)}{res q:V}(h:aU P f args hin res hout) (hs:Sub (keys hin) (mk [(0,q)] hout') (mk [(0,res)] hout)):aU P f args hin q hout':=by
 intro S μ w vals J O;refine Calls.mono (h S μ w vals J O) ?_;rintro e w' ⟨S',μ',v,h1,h2,h3⟩;have I:Ctx.keeps ⟨w,S,vF μ (look hin),μ,look hin⟩ (keys hin):=aBu
 obtain⟨S2,W,g⟩:=hs _ 1 S' μ' ⟨#[v],[]⟩ w' I ⟨h2,rfl,rfl,fun t y e=>by
  simp only[mk,look] at e;split at e
  ·rename_i hb;cases e;rw[Ac hb];exact h3
  ·cases e⟩
 exact⟨S2,W,v,h1,g.inv,g.env 0 q rfl⟩
theorem aU.plain {P:Program}{f:FuncId}{args:List V}{id te es n:Nat}{rows:List (List C)}{fz:Nat}(h:aU P f args [] (.one (.hs id 0 n n)) [(id,.arr te es rows fz)]) (hn:n=rows.length):aU P f args [] (.one (.c (.sl es rows))) []:=by
 refine h.sub ?_;have h1:Sub [] ⟨look [(0,V.one (.hs id 0 n n))],upd (look [(id,AObj.arr te es rows fz)]) id (some (.arr te es rows 2)),[]⟩ (mk [(0,.one (.hs id 0 n n))] [(id,.arr te es rows fz)]):=Sub.freeze (st:=mk [(0,.one (.hs id 0 n n))] [(id,.arr te es rows fz)]) dI;refine Sub.trans (Sub.trans ?_ (Sub.conv (t:=0) (v:=.one (.hs id 0 n n)) rfl (hs_all (aI _ _ _) rfl hn rfl))) h1;exact Sub.list (fun i=>i) ⟨rfl,trivial⟩ trivial rfl
theorem Sub.varPure {kf:List Nat}{st:St}{x tv:Nat}{cells:List R}{ids:List Nat}{cs:List C}(h:st.h x=some (.var tv cells)) (hp:PureL st.h ids cells cs):Sub kf ⟨st.e,upd st.h x (some (.var tv (cs.map R.c))),st.d⟩ st:=by
 intro G n S μ a w _ hs;have hi:=hs.inv;obtain⟨b,vs,g1,g2,g3,g4⟩:=hi.obj x _ h
 have J:Evolve S μ st.h S μ (upd st.h x (some (.var tv (cs.map R.c)))):=⟨S.le_refl,fun j y I=>by
  by_cases q:j=x
  ·subst q;rw[h] at I;cases I;exact⟨_,aI _ _ _,by simp[AObj.succ]⟩
  ·exact⟨y,by rw[aS _ _ _ q];exact I,y.succ_refl rfl⟩⟩
 have hold:∀j y,upd st.h x (some (.var tv (cs.map R.c))) j=some y→∃y',st.h j=some y':=fun j y I=>by
  by_cases q:j=x
  ·subst q;exact⟨_,h⟩
  ·rw[aS _ _ _ q] at I;exact⟨_,I⟩
 refine⟨S,μ,⟨⟨hi.holds,fun j y I=>?_,fun i j y y' b c c' O I hm Y=>?_,fun i y b c O hm=>?_,hi.frame,hi.sle,hi.sto,hi.evo.trans J,hi.fre⟩,hs.size,hs.defers.evolve J,fun s v e=>aZ.evolve J v _ (hs.env s v e)⟩⟩
 ·by_cases q:j=x
  ·subst q;have W:some (AObj.var tv (cs.map R.c))=some y:=by rw[←I];exact(aI _ _ _).symm
   cases W;exact⟨b,vs,g1,g2,(hp.rel (fun _ _=>rfl) hi.obj g3).toR,g4⟩
  ·have W:st.h j=some y:=by rw[←I];exact(aS _ _ _ q).symm
   exact(hi.obj j y W).evolve J rfl fun _ _ _=>⟨rfl,fun _=>rfl,rfl⟩
 ·obtain⟨_,h1⟩:=hold _ _ O;obtain⟨_,h2⟩:=hold _ _ I;exact hi.inj i j _ _ b c c' h1 h2 hm Y
 ·obtain⟨_,h1⟩:=hold _ _ O;exact hi.own i _ b c h1 hm
theorem vp {kf:List Nat}{st:St}(x:Nat) {tv:Nat}{cells:List R}(cs:List C) {ids:List Nat}(h:st.h x=some (.var tv cells):=by rfl)
  (hp:PureL st.h ids cells cs:=by repeat (first | exact .nil | apply Go.AM.PureL.c .refl | apply Go.AM.PureL.c .nl | apply Go.AM.PureL.c .sn | (apply Go.AM.PureL.hs;rfl;(first | rfl | assumption | (simp;done) | (simp;omega));(first | rfl | exact Go.AM.take_all (by first | assumption | rfl | (simp;done) | (simp;omega)) | exact Go.AM.take_map.symm)))):Sub kf ⟨st.e,upd st.h x (some (.var tv (cs.map R.c))),st.d⟩ st:=Sub.varPure h hp
theorem cv {kf:List Nat}{st:St}(t:Nat) {id te es n sz:Nat}{l:List (List C)}(l':List (List C)) (h:st.e t=some (.one (.hs id 0 n sz)):=by rfl) (hh:st.h id=some (.arr te es l 2):=by rfl) (h1:n=l.length:=by first | rfl | assumption | (simp;done) | (simp;omega)) (h2:sz=l.length:=by first | rfl | assumption | (simp;done) | (simp;omega)) (h3:l=l':=by first | rfl | assumption | (simp;done)):Sub kf ⟨upd st.e t (some (.one (.c (.sl es l')))),st.h,st.d⟩ st:=by
 subst h3;exact Sub.conv h (.one (.hs hh h2 (by rw[h1,B4,As]) .nil))
end Go.AM
namespace Go.Proofs.YtglfogjcijokpaaGreatDoor
open Go Go.AM
def zl_:Tr:=.leaf none
def zl0:Tr:=.leaf (some ⟨.fn,1,8,[.zv 1]⟩)
def zl1:Tr:=.leaf (some ⟨.int .u8,1,1,[.int .u8 0]⟩)
def zl2:Tr:=.leaf (some ⟨.int .i64,1,8,[.int .i64 0]⟩)
def zl3:Tr:=.leaf (some ⟨.str,1,16,[.str []]⟩)
def zl4:Tr:=.leaf (some ⟨.int .u64,1,8,[.int .u64 0]⟩)
def zl5:Tr:=.leaf (some ⟨.int .i32,1,4,[.int .i32 0]⟩)
def zl6:Tr:=.leaf (some ⟨.st [(0,9),(1,30)],5,72,[.str [],.int .i64 0,.int .i64 0,.str [],.nl]⟩)
def tr:Tr:=
 .node 117 (.node 58 (.node 29 (.node 14 (.node 7 (.node 3 (.node 1 zl_ (.node 1 zl0 zl2)) (.node 2 (.node 1 zl2 (.leaf (some ⟨.bool,1,1,[.bool false]⟩))) (.node 1 zl1 zl1))) (.node 3 (.node 1 (.leaf (some ⟨.st [(0,2),(1,3),(2,4),(3,6)],4,24,[.int .i64 0,.int .i64 0,.bool false,.int .u8 0]⟩)) (.node 1 (.leaf (some ⟨.st [(0,2),(1,3),(2,4),(3,6)],4,24,[.int .i64 0,.int .i64 0,.bool false,.int .u8 0]⟩)) zl3)) (.node 2 (.node 1 zl3 zl3) (.node 1 zl4 (.leaf (some ⟨.st [(0,9),(1,12)],2,24,[.str [],.int .u64 0]⟩)))))) (.node 7 (.node 3 (.node 1 (.leaf (some ⟨.st [(0,9),(1,12)],2,24,[.str [],.int .u64 0]⟩)) (.node 1 (.leaf (some ⟨.pt 221,1,8,[.np]⟩)) (.leaf (some ⟨.pt 224,1,8,[.np]⟩)))) (.node 2 (.node 1 (.leaf (some ⟨.pt 233,1,8,[.np]⟩)) (.leaf (some ⟨.st [(0,17)],1,8,[.np]⟩))) (.node 1 (.leaf (some ⟨.st [(0,17)],1,8,[.np]⟩)) zl_))) (.node 4 (.node 2 (.node 1 zl5 (.leaf (some ⟨.sl 3,1,24,[.nl]⟩))) (.node 1 (.leaf (some ⟨.sl 56,1,24,[.nl]⟩)) zl0)) (.node 2 (.node 1 (.leaf (some ⟨.sl 69,1,24,[.nl]⟩)) (.leaf (some ⟨.st [(0,23),(1,25)],2,48,[.nl,.nl]⟩))) (.node 1 (.leaf (some ⟨.st [(0,23),(1,25)],2,48,[.nl,.nl]⟩)) (.leaf (some ⟨.sl 30,1,24,[.nl]⟩))))))) (.node 14 (.node 7 (.node 3 (.node 1 (.leaf (some ⟨.st [(0,3),(1,3),(2,9),(3,28)],4,56,[.int .i64 0,.int .i64 0,.str [],.nl]⟩)) (.node 1 (.leaf (some ⟨.st [(0,3),(1,3),(2,9),(3,28)],4,56,[.int .i64 0,.int .i64 0,.str [],.nl]⟩)) (.leaf (some ⟨.sl 34,1,24,[.nl]⟩)))) (.node 2 (.node 1 (.leaf (some ⟨.sl 71,1,24,[.nl]⟩)) (.leaf (some ⟨.st [(0,3),(1,3),(2,9),(3,30),(7,31),(8,25),(9,32)],10,160,[.int .i64 0,.int .i64 0,.str [],.int .i64 0,.int .i64 0,.str [],.nl,.nl,.nl,.nl]⟩))) (.node 1 (.leaf (some ⟨.st [(0,3),(1,3),(2,9),(3,30),(7,31),(8,25),(9,32)],10,160,[.int .i64 0,.int .i64 0,.str [],.int .i64 0,.int .i64 0,.str [],.nl,.nl,.nl,.nl]⟩)) zl_))) (.node 3 (.node 1 zl0 (.node 1 zl0 zl2)) (.node 2 (.node 1 zl_ zl0) (.node 1 zl0 zl_)))) (.node 7 (.node 3 (.node 1 zl0 (.node 1 zl0 zl0)) (.node 2 (.node 1 zl0 zl_) (.node 1 zl0 zl0))) (.node 4 (.node 2 (.node 1 zl0 zl0) (.node 1 zl0 zl0)) (.node 2 (.node 1 zl0 (.leaf (some ⟨.st [(0,9),(1,3),(2,3),(3,3),(4,30)],8,96,[.str [],.int .i64 0,.int .i64 0,.int .i64 0,.int .i64 0,.int .i64 0,.str [],.nl]⟩))) (.node 1 (.leaf (some ⟨.st [(0,9),(1,3),(2,3),(3,3),(4,30)],8,96,[.str [],.int .i64 0,.int .i64 0,.int .i64 0,.int .i64 0,.int .i64 0,.str [],.nl]⟩)) (.leaf (some ⟨.pt 60,1,8,[.np]⟩)))))))) (.node 29 (.node 14 (.node 7 (.node 3 (.node 1 zl0 (.node 1 (.leaf (some ⟨.st [(0,22),(1,3)],2,32,[.nl,.int .i64 0]⟩)) (.leaf (some ⟨.st [(0,22),(1,3)],2,32,[.nl,.int .i64 0]⟩)))) (.node 2 (.node 1 zl0 zl0) (.node 1 zl0 (.leaf (some ⟨.sl 9,1,24,[.nl]⟩))))) (.node 3 (.node 1 (.leaf (some ⟨.sl 154,1,24,[.nl]⟩)) (.node 1 (.leaf (some ⟨.st [(0,65),(1,64),(2,3)],3,56,[.nl,.nl,.int .i64 0]⟩)) (.leaf (some ⟨.st [(0,65),(1,64),(2,3)],3,56,[.nl,.nl,.int .i64 0]⟩)))) (.node 2 (.node 1 (.leaf (some ⟨.st [(0,9),(1,30),(5,34)],15,232,[.str [],.int .i64 0,.int .i64 0,.str [],.nl,.int .i64 0,.int .i64 0,.str [],.int .i64 0,.int .i64 0,.str [],.nl,.nl,.nl,.nl]⟩)) (.leaf (some ⟨.st [(0,9),(1,30),(5,34)],15,232,[.str [],.int .i64 0,.int .i64 0,.str [],.nl,.int .i64 0,.int .i64 0,.str [],.int .i64 0,.int .i64 0,.str [],.nl,.nl,.nl,.nl]⟩))) (.node 1 (.leaf (some ⟨.st [(0,3),(1,3),(2,9),(3,64),(4,34)],14,216,[.int .i64 0,.int .i64 0,.str [],.nl,.int .i64 0,.int .i64 0,.str [],.int .i64 0,.int .i64 0,.str [],.nl,.nl,.nl,.nl]⟩)) (.leaf (some ⟨.st [(0,3),(1,3),(2,9),(3,64),(4,34)],14,216,[.int .i64 0,.int .i64 0,.str [],.nl,.int .i64 0,.int .i64 0,.str [],.int .i64 0,.int .i64 0,.str [],.nl,.nl,.nl,.nl]⟩)))))) (.node 7 (.node 3 (.node 1 (.leaf (some ⟨.sl 176,1,24,[.nl]⟩)) (.node 1 zl0 (.leaf (some ⟨.st [(0,23),(1,72),(2,64),(3,28),(4,3)],5,104,[.nl,.nl,.nl,.nl,.int .i64 0]⟩)))) (.node 2 (.node 1 (.leaf (some ⟨.st [(0,23),(1,72),(2,64),(3,28),(4,3)],5,104,[.nl,.nl,.nl,.nl,.int .i64 0]⟩)) zl0) (.node 1 zl0 zl0))) (.node 4 (.node 2 (.node 1 zl0 (.leaf (some ⟨.st [(0,27)],2,48,[.nl,.nl]⟩))) (.node 1 (.leaf (some ⟨.st [(0,27)],2,48,[.nl,.nl]⟩)) zl0)) (.node 2 (.node 1 zl0 zl0) (.node 1 zl0 zl0))))) (.node 15 (.node 7 (.node 3 (.node 1 zl0 (.node 1 zl0 (.leaf (some ⟨.sl 95,1,24,[.nl]⟩)))) (.node 2 (.node 1 zl0 (.leaf (some ⟨.pt 34,1,8,[.np]⟩))) (.node 1 (.leaf (some ⟨.sl 133,1,24,[.nl]⟩)) (.leaf (some ⟨.sl 91,1,24,[.nl]⟩))))) (.node 4 (.node 2 (.node 1 (.leaf (some ⟨.st [(0,92),(1,93)],2,48,[.nl,.nl]⟩)) (.leaf (some ⟨.st [(0,92),(1,93)],2,48,[.nl,.nl]⟩))) (.node 1 (.leaf (some ⟨.mp 9 139,1,8,[.zv 0]⟩)) zl0)) (.node 2 (.node 1 (.leaf (some ⟨.st [(0,25),(1,96)],2,32,[.nl,.zv 0]⟩)) (.leaf (some ⟨.st [(0,25),(1,96)],2,32,[.nl,.zv 0]⟩))) (.node 1 zl0 zl0)))) (.node 7 (.node 3 (.node 1 zl0 (.node 1 (.leaf (some ⟨.st [(0,64),(1,64)],2,48,[.nl,.nl]⟩)) (.leaf (some ⟨.st [(0,64),(1,64)],2,48,[.nl,.nl]⟩)))) (.node 2 (.node 1 zl0 zl0) (.node 1 zl0 zl0))) (.node 4 (.node 2 (.node 1 zl0 zl0) (.node 1 zl_ zl0)) (.node 2 (.node 1 zl0 zl0) (.node 1 (.leaf (some ⟨.st [],0,0,[]⟩)) (.leaf (some ⟨.st [],0,0,[]⟩))))))))) (.node 59 (.node 29 (.node 14 (.node 7 (.node 3 (.node 1 zl_ (.node 1 zl0 (.leaf (some ⟨.st [(0,3),(1,118)],2,16,[.int .i64 0,.zv 1]⟩)))) (.node 2 (.node 1 zl_ (.leaf (some ⟨.mp 3 119,1,8,[.zv 0]⟩))) (.node 1 zl0 zl0))) (.node 3 (.node 1 zl0 (.node 1 zl0 zl0)) (.node 2 (.node 1 zl_ zl0) (.node 1 zl0 zl0)))) (.node 7 (.node 3 (.node 1 zl0 (.node 1 zl0 (.leaf (some ⟨.pt 9,1,8,[.np]⟩)))) (.node 2 (.node 1 (.leaf (some ⟨.pt 69,1,8,[.np]⟩)) (.leaf (some ⟨.pt 71,1,8,[.np]⟩))) (.node 1 zl0 zl0))) (.node 4 (.node 2 (.node 1 (.leaf (some ⟨.st [(0,136),(1,137)],2,16,[.zv 1,.zv 1]⟩)) (.leaf (some ⟨.st [(0,136),(1,137)],2,16,[.zv 1,.zv 1]⟩))) (.node 1 zl0 zl0)) (.node 2 (.node 1 zl0 zl_) (.node 1 zl0 zl0))))) (.node 15 (.node 7 (.node 3 (.node 1 zl0 (.node 1 zl0 zl0)) (.node 2 (.node 1 zl0 zl0) (.node 1 zl0 zl0))) (.node 4 (.node 2 (.node 1 zl6 zl6) (.node 1 zl0 zl0)) (.node 2 (.node 1 (.leaf (some ⟨.sl 5,1,24,[.nl]⟩)) zl0) (.node 1 zl0 zl0)))) (.node 7 (.node 3 (.node 1 zl_ (.node 1 zl0 zl_)) (.node 2 (.node 1 (.leaf (some ⟨.mp 9 136,1,8,[.zv 0]⟩)) zl0) (.node 1 zl0 zl0))) (.node 4 (.node 2 (.node 1 zl0 zl0) (.node 1 zl_ zl0)) (.node 2 (.node 1 zl0 zl0) (.node 1 zl0 zl0)))))) (.node 29 (.node 14 (.node 7 (.node 3 (.node 1 zl6 (.node 1 zl0 zl_)) (.node 2 (.node 1 zl0 zl0) (.node 1 zl0 zl0))) (.node 3 (.node 1 zl0 (.node 1 zl0 zl0)) (.node 2 (.node 1 zl0 zl0) (.node 1 zl0 (.leaf (some ⟨.sl 64,1,24,[.nl]⟩)))))) (.node 7 (.node 3 (.node 1 zl0 (.node 1 zl0 zl0)) (.node 2 (.node 1 zl0 zl0) (.node 1 (.leaf (some ⟨.mp 9 115,1,8,[.zv 0]⟩)) zl_))) (.node 4 (.node 2 (.node 1 zl_ zl0) (.node 1 zl0 (.leaf (some ⟨.sl 72,1,24,[.nl]⟩)))) (.node 2 (.node 1 zl0 zl0) (.node 1 zl0 zl_))))) (.node 15 (.node 7 (.node 3 (.node 1 zl4 (.node 1 zl0 zl0)) (.node 2 (.node 1 zl_ zl0) (.node 1 zl0 zl_))) (.node 4 (.node 2 (.node 1 (.leaf (some ⟨.int .u32,1,4,[.int .u32 0]⟩)) zl_) (.node 1 zl4 zl0)) (.node 2 (.node 1 zl0 zl_) (.node 1 zl_ zl0)))) (.node 7 (.node 3 (.node 1 (.leaf (some ⟨.st [(0,17),(1,17),(2,17),(3,9)],4,40,[.np,.np,.np,.str []]⟩)) (.node 1 (.leaf (some ⟨.st [(0,17),(1,17),(2,17),(3,9)],4,40,[.np,.np,.np,.str []]⟩)) (.leaf (some ⟨.ar 0 16,0,0,[]⟩)))) (.node 2 (.node 1 (.leaf (some ⟨.st [(0,222)],0,0,[]⟩)) (.leaf (some ⟨.st [(0,222)],0,0,[]⟩))) (.node 1 zl0 zl1))) (.node 4 (.node 2 (.node 1 zl1 zl0) (.node 1 (.leaf (some ⟨.pt 5,1,8,[.np]⟩)) zl5)) (.node 2 (.node 1 zl5 (.leaf (some ⟨.st [(0,12),(1,12),(2,212),(3,226),(4,5),(5,5),(6,227),(7,228),(8,229),(9,230),(10,231)],11,48,[.int .u64 0,.int .u64 0,.int .u32 0,.int .u8 0,.int .u8 0,.int .u8 0,.int .u8 0,.zv 1,.np,.int .i32 0,.int .i32 0]⟩))) (.node 1 (.leaf (some ⟨.st [(0,12),(1,12),(2,212),(3,226),(4,5),(5,5),(6,227),(7,228),(8,229),(9,230),(10,231)],11,48,[.int .u64 0,.int .u64 0,.int .u32 0,.int .u8 0,.int .u8 0,.int .u8 0,.int .u8 0,.zv 1,.np,.int .i32 0,.int .i32 0]⟩)) zl_)))))))
theorem trw:tr.wf=true:=by kernel_rfl
theorem tok:Tok Tryz.prog tr.flat:=by unfold Tok;kernel_rfl
theorem tg {t:Nat}{i:TI}(h:tr.get t=some i):tr.flat[t]?=some (some i):=Tr.get_ok trw h
theorem mixed:Tryz.prog.follows .mixedOrders=true:=by kernel_rfl
section
variable {ro:Option Nat}{n:Nat}{ops:Array Oper}{draw:Bool}{k k':Nat}{e:Nat→Option V}{h0:cK}{d0:List Nat}{st':St}{pre pre':REs}{tr':Tr}{ob:List Prop}{kf:List Nat}{id:Nat}
theorem ag {Q:Exit→St→Prop}(hs:List (Nat×Hn)) (h:x3 Tryz.prog tr true false n ops.toList hs 1000 0 ops.toList e h0 d0 [] []=some (st',k',pre',ob)) (q:Q .normal st')
  (hc:j7 ob:=by repeat (first | exact trivial | refine⟨by first | omega | assumption | exact⟨by kernel_rfl,by assumption⟩ | rfl | (simp only[Bl,List.length_nil];omega) | (simp;done) | (simp;omega),?_⟩)) (h1:Nat.beq k' ops.size=true:=by rfl) (h2:(!draw || (fP (pZ ops) pre'.reverse []&&iX ops))=true:=by kernel_rfl):AWp ro Tryz.prog n kf (.region id ops draw) ⟨e,h0,d0⟩ Q:=
 aWd mixed trw tok h hc h1 h2 q
theorem agN {Q:Exit→St→Prop}(hs:List (Nat×Hn)) (h:x3 Tryz.prog tr true true n ops.toList hs 1000 0 ops.toList e h0 d0 [] []=some (st',k',pre',ob)) (q:Q .normal st')
  (hc:j7 ob:=by repeat (first | exact trivial | refine⟨by first | omega | assumption | exact⟨by kernel_rfl,by assumption⟩ | rfl | (simp only[Bl,List.length_nil];omega) | (simp;done) | (simp;omega),?_⟩)) (h1:Nat.beq k' ops.size=true:=by rfl) (h2:(!draw || (fP (pZ ops) pre'.reverse []&&iX ops))=true:=by kernel_rfl):AWp ro Tryz.prog n kf (.region id ops draw) ⟨e,h0,d0⟩ Q:=
 aWd mixed trw tok h hc h1 h2 q
theorem ak {Q:St→Prop}(m:Nat) (hs:List (Nat×Hn)) (h:x3 Tryz.prog tr true false n ops.toList hs m k (ops.toList.drop k) e h0 d0 pre []=some (st',k',pre',ob)) (hk:k9 Tryz.prog n ops draw k' st' pre' Q)
  (hc:j7 ob:=by repeat (first | exact trivial | refine⟨by first | omega | assumption | exact⟨by kernel_rfl,by assumption⟩ | rfl | (simp only[Bl,List.length_nil];omega) | (simp;done) | (simp;omega),?_⟩)):k9 Tryz.prog n ops draw k ⟨e,h0,d0⟩ pre Q:=
 ax_ m trw tok h hc hk
theorem akN {Q:St→Prop}(m:Nat) (hs:List (Nat×Hn)) (h:x3 Tryz.prog tr true true n ops.toList hs m k (ops.toList.drop k) e h0 d0 pre []=some (st',k',pre',ob)) (hk:k9 Tryz.prog n ops draw k' st' pre' Q)
  (hc:j7 ob:=by repeat (first | exact trivial | refine⟨by first | omega | assumption | exact⟨by kernel_rfl,by assumption⟩ | rfl | (simp only[Bl,List.length_nil];omega) | (simp;done) | (simp;omega),?_⟩)):k9 Tryz.prog n ops draw k ⟨e,h0,d0⟩ pre Q:=
 ax_ m trw tok h hc hk
theorem agF {Q:Exit→St→Prop}{J:Nat→Option V}{q:cK}{d1:List Nat}{I:List Prop}{res:Res}{L:List (Nat×Option V)}(m:Nat) (hs:List (Nat×Hn)) (g1:x3 Tryz.prog tr true false n ops.toList hs m 0 ops.toList e h0 d0 [] []=some (⟨J,q,d1⟩,k',pre',I))
  (g2:pL Tryz.prog tr true false n ops.toList hs (aZ2 (ops.toList.drop k')) 1000 k' (ops.toList.drop k') J q d1 [] pre' I=some res) (g3:u1 res (aZ2 (ops.toList.drop k'))=some L) (O:Q .normal ⟨nK J L,q,d1⟩)
  (W:res.obs:=by repeat (first | exact trivial | refine⟨fun _=>?_,fun _=>?_⟩ | refine⟨by first | omega | assumption | exact⟨by kernel_rfl,by assumption⟩ | rfl | (simp only[Bl,List.length_nil];omega) | (simp;done) | (simp;omega),?_⟩)) (Y:res.good ops draw=true:=by kernel_rfl):AWp ro Tryz.prog n kf (.region id ops draw) ⟨e,h0,d0⟩ Q:=
 aZk m mixed trw tok g1 g2 g3 W Y O
theorem az {Q:St→Prop}(q:Q ⟨e,h0,d0⟩) (h1:Nat.beq k ops.size=true:=by rfl) (h2:(!draw || (fP (pZ ops) pre.reverse []&&iX ops))=true:=by kernel_rfl):k9 Tryz.prog n ops draw k ⟨e,h0,d0⟩ pre Q:=z_ h1 h2 q
theorem sgh {Q:Exit→St→Prop}{y:Code}(hs:List (Nat×Hn)) (h:x3 Tryz.prog tr true false n ops.toList hs 1000 0 ops.toList e h0 d0 [] []=some (st',k',pre',ob)) (q:AWp ro Tryz.prog n kf y st' Q)
  (hc:j7 ob:=by repeat (first | exact trivial | refine⟨by first | omega | assumption | exact⟨by kernel_rfl,by assumption⟩ | rfl | (simp only[Bl,List.length_nil];omega) | (simp;done) | (simp;omega),?_⟩)) (h1:Nat.beq k' ops.size=true:=by rfl) (h2:(!draw || (fP (pZ ops) pre'.reverse []&&iX ops))=true:=by kernel_rfl):AWp ro Tryz.prog n kf (.seq (.region id ops draw) y) ⟨e,h0,d0⟩ Q:=
 a8 (ag hs h q hc h1 h2)
theorem sg {Q:Exit→St→Prop}{y:Code}(h:x3 Tryz.prog tr true false n ops.toList [] 1000 0 ops.toList e h0 d0 [] []=some (st',k',pre',ob)) (q:AWp ro Tryz.prog n kf y st' Q)
  (hc:j7 ob:=by repeat (first | exact trivial | refine⟨by first | omega | assumption | exact⟨by kernel_rfl,by assumption⟩ | rfl | (simp only[Bl,List.length_nil];omega) | (simp;done) | (simp;omega),?_⟩)) (h1:Nat.beq k' ops.size=true:=by rfl) (h2:(!draw || (fP (pZ ops) pre'.reverse []&&iX ops))=true:=by kernel_rfl):AWp ro Tryz.prog n kf (.seq (.region id ops draw) y) ⟨e,h0,d0⟩ Q:=
 sgh [] h q hc h1 h2
theorem skh {Q:Exit→St→Prop}{y:Code}(m:Nat) (hs:List (Nat×Hn)) (h:x3 Tryz.prog tr true false n ops.toList hs m 0 (ops.toList.drop 0) e h0 d0 [] []=some (st',k',pre',ob)) (hk:k9 Tryz.prog n ops draw k' st' pre' (fun st'=>AWp ro Tryz.prog n kf y st' Q))
  (hc:j7 ob:=by repeat (first | exact trivial | refine⟨by first | omega | assumption | exact⟨by kernel_rfl,by assumption⟩ | rfl | (simp only[Bl,List.length_nil];omega) | (simp;done) | (simp;omega),?_⟩)):AWp ro Tryz.prog n kf (.seq (.region id ops draw) y) ⟨e,h0,d0⟩ Q:=
 a8 (aE mixed (ak m hs h hk hc))
theorem sk {Q:Exit→St→Prop}{y:Code}(m:Nat) (h:x3 Tryz.prog tr true false n ops.toList [] m 0 (ops.toList.drop 0) e h0 d0 [] []=some (st',k',pre',ob)) (hk:k9 Tryz.prog n ops draw k' st' pre' (fun st'=>AWp ro Tryz.prog n kf y st' Q))
  (hc:j7 ob:=by repeat (first | exact trivial | refine⟨by first | omega | assumption | exact⟨by kernel_rfl,by assumption⟩ | rfl | (simp only[Bl,List.length_nil];omega) | (simp;done) | (simp;omega),?_⟩)):AWp ro Tryz.prog n kf (.seq (.region id ops draw) y) ⟨e,h0,d0⟩ Q:=
 skh m [] h hk hc
theorem kz {Q:St→Prop}(m:Nat) (h:x3 Tryz.prog tr true false n ops.toList [] m k (ops.toList.drop k) e h0 d0 pre []=some (st',k',pre',ob)) (q:Q st')
  (hc:j7 ob:=by repeat (first | exact trivial | refine⟨by first | omega | assumption | exact⟨by kernel_rfl,by assumption⟩ | rfl | (simp only[Bl,List.length_nil];omega) | (simp;done) | (simp;omega),?_⟩)) (h1:Nat.beq k' ops.size=true:=by rfl) (h2:(!draw || (fP (pZ ops) pre'.reverse []&&iX ops))=true:=by kernel_rfl):k9 Tryz.prog n ops draw k ⟨e,h0,d0⟩ pre Q:=
 ak m [] h (z_ h1 h2 q) hc
end
set_option maxRecDepth 20000
abbrev Str:=List UInt8
def bC (s:Str):List C:=[.str s]
inductive Ty where
 | mk (form n:Int) (name:Str) (args:List Ty)
mutual
inductive Core where
 | mk (form n:Int) (name:Str) (ty:Ty) (kids:List Core) (binds:List Bind) (alts:List Alt)
inductive Bind where
 | mk (name:Str) (ty:Ty) (body:Core)
inductive Alt where
 | mk (form n:Int) (name:Str) (vars:List Str) (body:Core)
end
def Ty.form:Ty→Int | .mk f _ _ _=>f
def Ty.n:Ty→Int | .mk _ n _ _=>n
def Ty.name:Ty→Str | .mk _ _ s _=>s
def Ty.args:Ty→List Ty | .mk _ _ _ l=>l
def Core.form:Core→Int | .mk f _ _ _ _ _ _=>f
def Core.n:Core→Int | .mk _ n _ _ _ _ _=>n
def Core.name:Core→Str | .mk _ _ s _ _ _ _=>s
def Core.ty:Core→Ty | .mk _ _ _ t _ _ _=>t
def Core.kids:Core→List Core | .mk _ _ _ _ l _ _=>l
def Core.binds:Core→List Bind | .mk _ _ _ _ _ l _=>l
def Core.alts:Core→List Alt | .mk _ _ _ _ _ _ l=>l
def Bind.name:Bind→Str | .mk s _ _=>s
def Bind.ty:Bind→Ty | .mk _ t _=>t
def Bind.body:Bind→Core | .mk _ _ c=>c
def Alt.form:Alt→Int | .mk f _ _ _ _=>f
def Alt.n:Alt→Int | .mk _ n _ _ _=>n
def Alt.name:Alt→Str | .mk _ _ s _ _=>s
def Alt.vars:Alt→List Str | .mk _ _ _ l _=>l
def Alt.body:Alt→Core | .mk _ _ _ _ c=>c
mutual
def iW:Ty→List (List C)
 | .mk _ _ _ a=>fF a
def fF:List Ty→List (List C)
 | []=>[]
 | t::l=>[.int .i64 t.form,.int .i64 t.n,.str t.name,.sl 4 (iW t)]::fF l
end
def bH (t:Ty):List C:=[.int .i64 t.form,.int .i64 t.n,.str t.name,.sl 4 (iW t)]
mutual
def zE:Core→List (List C)
 | .mk _ _ _ _ l _ _=>aR l
def zD:Core→List (List C)
 | .mk _ _ _ _ _ l _=>aT l
def nC:Core→List (List C)
 | .mk _ _ _ _ _ _ l=>bP l
def aR:List Core→List (List C)
 | []=>[]
 | c::l=>[.int .i64 c.form,.int .i64 c.n,.str c.name,.int .i64 c.ty.form,.int .i64 c.ty.n,.str c.ty.name,.sl 4 (iW c.ty),.sl 10 (zE c),.sl 15 (zD c),.sl 14 (nC c)]::aR l
def aYi:Bind→List C
 | .mk _ _ c=>[.int .i64 c.form,.int .i64 c.n,.str c.name,.int .i64 c.ty.form,.int .i64 c.ty.n,.str c.ty.name,.sl 4 (iW c.ty),.sl 10 (zE c),.sl 15 (zD c),.sl 14 (nC c)]
def aT:List Bind→List (List C)
 | []=>[]
 | b::l=>([.str b.name,.int .i64 b.ty.form,.int .i64 b.ty.n,.str b.ty.name,.sl 4 (iW b.ty)]++aYi b)::aT l
def aYh:Alt→List C
 | .mk _ _ _ _ c=>[.int .i64 c.form,.int .i64 c.n,.str c.name,.int .i64 c.ty.form,.int .i64 c.ty.n,.str c.ty.name,.sl 4 (iW c.ty),.sl 10 (zE c),.sl 15 (zD c),.sl 14 (nC c)]
def bP:List Alt→List (List C)
 | []=>[]
 | a::l=>([.int .i64 a.form,.int .i64 a.n,.str a.name,.sl 1 (a.vars.map bC)]++aYh a)::bP l
end
def aB (c:Core):List C:=[.int .i64 c.form,.int .i64 c.n,.str c.name,.int .i64 c.ty.form,.int .i64 c.ty.n,.str c.ty.name,.sl 4 (iW c.ty),.sl 10 (zE c),.sl 15 (zD c),.sl 14 (nC c)]
def b8 (b:Bind):List C:=[.str b.name,.int .i64 b.ty.form,.int .i64 b.ty.n,.str b.ty.name,.sl 4 (iW b.ty)]++aB b.body
def cD (a:Alt):List C:=[.int .i64 a.form,.int .i64 a.n,.str a.name,.sl 1 (a.vars.map bC)]++aB a.body
theorem bM {α:Type}{l:List α}{k:Nat}{x:α}(f:α→List C) (h:l[k]?=some x):(l.map f)[k]?=some (f x):=by rw[Bo,h];rfl
theorem aL {α:Type}{l:List α}{k:Nat}(h:k<l.length):∃x,l[k]?=some x:=⟨l[k],by simp[h]⟩
theorem bD:∀l:List Core,aR l=l.map aB
 | []=>by simp[aR]
 | c::l=>by rw[aR,bD l];rfl
theorem bN:∀l:List Bind,aT l=l.map b8
 | []=>by simp[aT]
 | .mk s t c::l=>by rw[aT,bN l];rfl
theorem bT:∀l:List Alt,bP l=l.map cD
 | []=>by simp[bP]
 | .mk f n s v c::l=>by rw[bP,bT l];rfl
theorem kJ:∀l:List Ty,fF l=l.map bH
 | []=>by simp[fF]
 | c::l=>by rw[fF,kJ l];rfl
theorem aEx (c:Core):nC c=c.alts.map cD:=by cases c;rw[nC,bT];rfl
def Fits {α:Type}(l:List α):Prop:=l.length≤1152921504606846976
theorem a6m (l:List Str) (s:Str) (hl:Fits l):aU Tryz.prog 56 [.one (.c (.sl 1 (l.map bC))),Go.AM.T s] [] (B (decide (s∈l))) []:=by
 unfold Fits at hl;refine bL (n:=18) tok Tryz.func56 rfl rfl rfl ?_;refine sg rfl (a8 (sg rfl (aC (aO (fun k:Nat=>mk [(0,.one (.c (.sl 1 (l.map bC)))),(1,Go.AM.T s),(5,I .i64 k)] []) (fun k=>k≤l.length∧s∉l.take k) (fun k=>l.length-k) 0 ⟨Ak _,by simp⟩ (.list (fun i=>i) ⟨rfl,rfl,rfl,trivial⟩ trivial rfl) ?_))));intro k ⟨hk,hm⟩;refine a8 (sg rfl (aA rfl (fun hb=>?_) (fun hb=>?_)))
 ·refine aD ?_;have J:k<l.length:=by simpa using hb
  obtain⟨x,hx⟩:=aL J;have Y:=bM bC hx;refine a8 (aC (sgh [(2,.row k (bC x))] rfl (aA rfl (fun hb=>?_) (fun hb=>?_))))
  ·refine sg rfl (aF ?_);have q:x=s:=by simpa using hb
   have:s∈l:=by rw[←q];exact δ hx
   exact⟨.inr rfl,⟨_,_,.tmp rfl .nil,.cons .refl .nil,by simp[aUh,this]⟩,trivial,rfl⟩
  ·refine aD (ag [] rfl ⟨k+1,⟨J,?_⟩,by dsimp only;omega,.list (fun i=>i) ⟨rfl,rfl,rfl,trivial⟩ trivial rfl⟩);rw[Bh,hx];have q:¬x=s:=by simpa using hb
   have O:¬s=x:=fun e=>q e.symm
   simp[hm,O]
 ·refine aM ?_;have W:k=l.length:=by
   have:¬k<l.length:=by simpa using hb
   omega
  refine sg rfl (aF ?_);rw[W,As] at hm;exact⟨.inr rfl,⟨_,_,.tmp rfl .nil,.cons .refl .nil,by simp[aUh,hm]⟩,trivial,rfl⟩
def r5 (n k:Int):Int:=(if n<0 then -(n+1) else n)%k
def i64 (n:Int):Prop:= -9223372036854775808≤n∧n≤9223372036854775807
theorem aC5 (n:Int) {k:Int}(hk:0<k):0≤r5 n k∧r5 n k<k:=⟨Int.emod_nonneg _ (by omega),Int.emod_lt_of_pos _ hk⟩
theorem aIp (n k:Int) (hn:i64 n) (hk:1≤k):aU Tryz.prog 12 [I .i64 n,I .i64 k] [] (I .i64 (r5 n k)) []:=by
 unfold i64 at hn;refine bL (n:=13) tok Tryz.func12 rfl rfl rfl ?_;refine sg rfl (a8 (sg rfl (aA rfl (fun hb=>?_) (fun hb=>?_))))
 ·have h0:n<0:=by simpa using hb
  exact ag [] rfl (sg rfl (aF ⟨.inr rfl,⟨_,_,.tmp rfl .nil,.cons .refl .nil,by simp[aUh,r5,h0]⟩,trivial,rfl⟩))
 ·have h0:¬n<0:=by simpa using hb
  exact aD (sg rfl (aF ⟨.inr rfl,⟨_,_,.tmp rfl .nil,.cons .refl .nil,by simp[aUh,r5,h0]⟩,trivial,rfl⟩))
def aQ0 (n:Int):List C:=[.int .i64 n]
def nmL:List Str:=[[120],[121],[97],[98],[122,64,49]]
def aR8:List Str:=[[97,100,100],[115,117,98],[109,117,108],[100,105,118],[101,113],[108,116]]
def a7b:List Str:=[[97],[98],[99],[120]]
def tapp (a b:Ty):Ty:=.mk 4 0 [] [a,b]
def arrow:Str:=[45,62]
def eE (a b:Ty):Ty:=tapp (tapp (.mk 3 0 arrow []) a) b
theorem a34 (a b:Ty):aU Tryz.prog 50 [.pa (bH a),.pa (bH b)] [] (.pa (bH (tapp a b))) []:=by
 obtain⟨f,n,s,l⟩:=a;obtain⟨f',q,s',l'⟩:=b;refine bL (n:=9) tok Tryz.func50 rfl rfl rfl ?_;refine sg rfl (sg rfl (AWp.sub (Sub.freeze (id:=7) rfl) (aF ?_)));exact⟨.inr rfl,⟨_,_,.cell rfl (tg rfl) rfl rfl rfl .nil,.cons (.agg (.c .refl (.c .refl (.c .refl (.hs rfl rfl rfl .nil))))) .nil,rfl⟩,trivial,rfl⟩
theorem v7 (a b:Ty):aU Tryz.prog 19 [.pa (bH a),.pa (bH b)] [] (.pa (bH (eE a b))) []:=by
 obtain⟨f,n,s,l⟩:=a;obtain⟨f',q,s',l'⟩:=b;refine bL (n:=10) tok Tryz.func19 rfl rfl rfl ?_;refine sg rfl (sk 2 rfl (kc (a34 (.mk 3 0 arrow []) (.mk f n s l)) ?_));refine ak 1 [] rfl (kc (a34 (tapp (.mk 3 0 arrow []) (.mk f n s l)) (.mk f' q s' l')) ?_);exact kz 1 rfl (aF ⟨.inr rfl,⟨_,_,.cell rfl (tg rfl) rfl rfl rfl .nil,.cons .refl .nil,rfl⟩,trivial,rfl⟩)
def aZs (l:List Int):Prop:=∀x∈l,i64 x
theorem aZs.suf {l l':List Int}(h:aZs l) (hs:l'<:+l):aZs l':=fun x hx=>h x (hs.subset hx)
theorem Fits.suf {l l':List Int}(h:Fits l) (hs:l'<:+l):Fits l':=by
 have:=hs.length_le;unfold Fits at *;omega
def iZ:Ty:=.mk 3 0 [73,110,116] []
def tyV (t:Ty):V:=.pa (bH t)
def zTy:Ty:=.mk 0 0 [] []
theorem a3u (l:List Int) (k:Nat) (hf:Fits l) (hk:k≤1000):aU Tryz.prog 21 [.one (.c (.sl 1 (l.map aQ0))),I .i64 k] [] (.one (.c (.sl 1 ((l.take k).map aQ0)))) []:=by
 unfold Fits at hf;refine bL (n:=14) tok Tryz.func21 rfl rfl rfl ?_;refine sg rfl (sg rfl (sk 6 rfl ?_));have hm:(if(k:Int)<(((l.map aQ0).length:Nat):Int) then(k:Int) else(((l.map aQ0).length:Nat):Int))=((min l.length k:Nat):Int):=by
  rw[ζ];split<;>omega
 rw[hm];have ht:(l.map aQ0).take (min l.length k)=(l.take k).map aQ0:=by
  rw[←List.map_take];congr 1;by_cases h:k≤l.length
  ·rw[Nat.min_eq_right h]
  ·rw[Ch (by omega),Ax (le_refl _),Ax (by omega)]
 have hl:((l.map aQ0).take (min l.length k)).length≤1000:=by rw[At];omega
 refine akN 3 [] rfl (az (AWp.sub (Sub.freeze (id:=13) rfl) (aF ?_))) (hc:=⟨by omega,by rw[ζ];omega,by omega,trivial⟩);rw[←ht];exact⟨.inr rfl,⟨_,_,.tmp rfl .nil,.cons (.one (.hs rfl rfl (by rw[B4,As]) .nil)) .nil,rfl⟩,trivial,rfl⟩
def aZ7:Core:=.mk 0 0 [] zTy [] [] []
mutual
def aK:Core→Core
 | .mk f n s _ ks bs al=>if(f=6∨f=7)∧1≤ks.length then(cQ ks).headD (.mk 0 0 [] zTy [] [] []) else .mk f n s zTy (cQ ks) (cR bs) (eT al)
def cQ:List Core→List Core
 | []=>[]
 | c::l=>aK c::cQ l
def lQ:Bind→Bind
 | .mk s _ c=>.mk s zTy (aK c)
def cR:List Bind→List Bind
 | []=>[]
 | b::l=>lQ b::cR l
def eC:Alt→Alt
 | .mk f n s vs c=>.mk f n s vs (aK c)
def eT:List Alt→List Alt
 | []=>[]
 | a::l=>eC a::eT l
end
theorem l9:∀l:List Core,cQ l=l.map aK
 | []=>by simp[cQ]
 | c::l=>by rw[cQ,l9 l];rfl
theorem lC:∀l:List Bind,cR l=l.map lQ
 | []=>by simp[cR]
 | c::l=>by rw[cR,lC l];rfl
theorem lD:∀l:List Alt,eT l=l.map eC
 | []=>by simp[eT]
 | c::l=>by rw[eT,lD l];rfl
mutual
def aV:Core→Nat
 | .mk _ _ s _ ks bs al=>1+s.length+dJ ks+iC bs+iD al
def dJ:List Core→Nat
 | []=>0
 | c::l=>aV c+dJ l
def bsize:Bind→Nat
 | .mk s _ c=>1+s.length+aV c
def iC:List Bind→Nat
 | []=>0
 | b::l=>bsize b+iC l
def qJ:Alt→Nat
 | .mk _ _ s vs c=>1+s.length+(vs.map (fun v=>1+v.length)).sum+aV c
def iD:List Alt→Nat
 | []=>0
 | a::l=>qJ a+iD l
end
theorem bG (c:Core):1≤aV c:=by cases c;rw[aV];omega
theorem kL:∀l:List Core,l.length≤dJ l
 | []=>Ak _
 | c::l=>by rw[dJ,Am];have:=kL l;have:=bG c;omega
theorem wQ:∀{l:List Core}{c:Core},c∈l→aV c≤dJ l
 | d::l,c,h=>by
  rw[dJ];rcases Ah.1 h with rfl | h
  ·omega
  ·have:=wQ h;omega
theorem kM:∀l:List Bind,l.length≤iC l
 | []=>Ak _
 | .mk s t c::l=>by rw[iC,bsize,Am];have:=kM l;omega
theorem wX:∀{l:List Bind}{c:Bind},c∈l→bsize c≤iC l
 | d::l,c,h=>by
  rw[iC];rcases Ah.1 h with rfl | h
  ·omega
  ·have:=wX h;omega
theorem kN:∀l:List Alt,l.length≤iD l
 | []=>Ak _
 | .mk f n s vs c::l=>by rw[iD,qJ,Am];have:=kN l;omega
theorem iL:∀{l:List Alt}{c:Alt},c∈l→qJ c≤iD l
 | d::l,c,h=>by
  rw[iD];rcases Ah.1 h with rfl | h
  ·omega
  ·have:=iL h;omega
theorem c9 {l:List Bind}{k:Nat}{x:Bind}(h:l[k]?=some x):(aT l)[k]?=some (b8 x):=by rw[bN];exact bM b8 h
theorem iI {l:List Core}{k:Nat}{x:Core}(h:l[k]?=some x):(aR l)[k]?=some (aB x):=by rw[bD];exact bM aB h
theorem nD {l:List Alt}{k:Nat}{x:Alt}(h:l[k]?=some x):(bP l)[k]?=some (cD x):=by rw[bT];exact bM cD h
theorem gS {α:Type}{l:List α}{k:Nat}{x:α}(h:l[k]?=some x):l.take (k+1)=l.take k++[x]:=by rw[Bh,h];rfl
def bI:List R:=[.c (.int .i64 0),.c (.int .i64 0),.c (.str []),.c (.int .i64 0),.c (.int .i64 0),.c (.str []),.c .nl,.c .nl,.c .nl,.c .nl]
def b7 (c:Core):List R:=(aB c).map R.c
theorem c6 {f n:Int}{s:Str}{t:Ty}{ks:List Core}{bs:List Bind}{al:List Alt}:(∀x∈ks,aV x<aV (.mk f n s t ks bs al))∧(∀x∈bs,aV x.body<aV (.mk f n s t ks bs al))∧(∀x∈al,aV x.body<aV (.mk f n s t ks bs al))∧
  ks.length<aV (.mk f n s t ks bs al)∧bs.length<aV (.mk f n s t ks bs al)∧al.length<aV (.mk f n s t ks bs al):=by
 rw[aV];have q:=kL ks;have I:=kM bs;have J:=kN al;refine⟨fun x hx=>?_,fun x hx=>?_,fun x hx=>?_,by omega,by omega,by omega⟩
 ·have:=wQ hx;omega
 ·have:=wX hx;obtain⟨s',t',c'⟩:=x;rw[bsize] at this;show aV c'<_;omega
 ·have:=iL hx;obtain⟨f',O,s',v',c'⟩:=x;rw[qJ] at this;show aV c'<_;omega
theorem lX {α β:Type}(f:α→β) {l:List α}{i:Nat}{x:α}(h:l[i]?=some x):(l.take i).map f++[f x]=(l.take (i+1)).map f:=by rw[gS h,A6];rfl
def tz (t:Ty):Bool:=decide (t.form=0)&&(decide (t.n=0)&&(t.name.isEmpty&&t.args.isEmpty))
theorem a0n {t:Ty}(h:tz t=true):t=zTy:=by
 obtain⟨f,n,s,a⟩:=t;simp only[tz,ε,Bu,isEmpty_iff] at h;obtain⟨h1,h2,h3,h4⟩:=h;simp only[Ty.form,Ty.n,Ty.name,Ty.args] at h1 h2 h3 h4;subst h1 h2 h3 h4;rfl
mutual
def z0R:Core→Bool
 | .mk _ _ _ t ks bs al=>tz t&&(aZt ks&&(aZu bs&&aZv al))
def aZt:List Core→Bool
 | []=>true
 | c::l=>z0R c&&aZt l
def aZu:List Bind→Bool
 | []=>true
 | .mk _ t c::l=>(tz t&&z0R c)&&aZu l
def aZv:List Alt→Bool
 | []=>true
 | .mk _ _ _ _ c::l=>z0R c&&aZv l
end
theorem aFi:∀{l:List Core},aZt l=true→∀x∈l,z0R x=true
 | c::l,h,x,hx=>by
  rw[aZt,ε] at h;rcases Ah.1 hx with rfl | hx
  ·exact h.1
  ·exact aFi h.2 x hx
theorem xD:∀{l:List Bind},aZu l=true→∀x∈l,x.ty=zTy∧z0R x.body=true
 | .mk s t c::l,h,x,hx=>by
  simp only[aZu,ε] at h;rcases Ah.1 hx with rfl | hx
  ·exact⟨a0n h.1.1,h.1.2⟩
  ·exact xD h.2 x hx
theorem aFj:∀{l:List Alt},aZv l=true→∀x∈l,z0R x.body=true
 | .mk f n s v c::l,h,x,hx=>by
  rw[aZv,ε] at h;rcases Ah.1 hx with rfl | hx
  ·exact h.1
  ·exact aFj h.2 x hx
end Go.Proofs.YtglfogjcijokpaaGreatDoor
namespace Go.AM
open Go Go.Proofs Go.Shelf
theorem aIv {ro:Option Nat}{P:Program}{n:Nat}{kf:List Nat}{c:Code}{st:St}{Q:Exit→St→Prop}(t:Nat) {es:Nat}{l:List (List C)}(h:st.e t=some (.one (.c (.sl es l)))) (h1:l=[]→AWp ro P n kf c ⟨upd st.e t (some (.one (.c .nl))),st.h,st.d⟩ Q)
  (h2:AWp ro P n kf c ⟨upd st.e t (some (.one (.c (.sn es l)))),st.h,st.d⟩ Q):AWp ro P n kf c st Q:=by
 intro G S μ a w Q' J hs O;have W:=hs.env t _ h
 have key:∀x:V,aZ S μ st.h x (a.tmps.getD t undef)→Sim G n S μ ⟨upd st.e t (some x),st.h,st.d⟩ a w:=fun x hx=>⟨hs.inv,hs.size,hs.defers,fun s u e=>by
  by_cases q:s=t
  ·subst q;have:some x=some u:=by rw[←e];exact(aI _ _ _).symm
   cases this;exact hx
  ·exact hs.env s u (by rw[←e];exact(aS _ _ _ q).symm)⟩
 simp only[aZ,b9,Rep] at W;obtain⟨I,len,cap,Y,e2,e3,e4,e5,e6,b,o,e7,e8⟩:=W;cases I with
 | none=>
  obtain⟨e9,Z⟩:=e5 rfl;have hl:l=[]:=Bb (by omega);exact h1 hl G S μ a w Q' J (key _ (by simp only[aZ,b9,Rep];rw[Y,e9,Z])) O
 | some I=>
  obtain⟨b',o',sp⟩:=I;have h6:=e6 _ rfl;obtain⟨h7,h8⟩:=e7 _ rfl;dsimp only at h6 h7 h8;subst h7 h8;exact h2 G S μ a w Q' J (key _ (by simp only[aZ,b9,Rep];exact⟨b',o',sp,len,cap,Y,e2,e3,e4,h6,e8⟩)) O
theorem aSs {P:Program}{ρ:Ren}{T:TT}{ei:TI}(L:Lays8.n4 P ρ) (W:Tok P T) (J:T[ρ.t 25]?=some (some ei)) (Y:Nat.ble 1 ei.size=true) (k:Nat) (hk:k*ei.bytes≤140737488355328) (hk2:k≤140737488355328):
  aU P (ρ.f 4) [.one (.c .nl),I .i64 (k:Int)] [] (.one (.hs 720 0 0 0)) [(720,.arr (ρ.t 25) ei.size [] 0)]:=by
 intro S μ w vals q Z;simp only[bS,aZ,b9,Rep] at Z;obtain⟨v1,vs1,rfl,rfl,v2,vs2,rfl,rfl,rfl⟩:=Z;obtain⟨inf,dd,z,g1,g2,g3,g4,g5,g6,g7,g8⟩:=(W.get J).ex;have aa:z.cells.size=ei.size:=by
  have h1:=(iJ (S:=S) g7).length;rw[(W.get J).len] at h1;simpa using h1
 have hid:look ([]:List (Nat×AObj)) 720=none:=rfl;by_cases h0:k=0
 ·subst h0;refine Calls.mono (Any8.slices_Grow_room L none 0 0 0 w (by omega) (by omega) (by omega) (by omega)) ?_;rintro e w' ⟨rfl,rfl⟩;obtain⟨hi,hE⟩:=q.empty (ρ.t 25) ei.size hid;refine⟨S,upd μ 720 none,_,rfl,?_,?_⟩
  ·rw[jR];exact hi
  ·rw[jR];simp only[aZ,b9];exact⟨⟨_,_,_,rfl⟩,.inr ⟨_,_,[],0,aI _ _ _,le_refl _,fun _=>⟨le_refl _,.inl ⟨aI _ _ _,rfl,by first | rfl | trivial⟩⟩⟩⟩
 ·refine Calls.mono (Any8.slices_Grow_grow L inf z g1 g6 (by rw[g3];exact Aq Y) none 0 0 k [] w (by omega) (by omega) (by rw[g4,Ba];exact hk) (by omega) (by simp) (fun _=>rfl) (fun a h=>by cases h)) ?_;rintro e w' ⟨rfl,rfl⟩;simp only[Ba,sub_zero];have hG1:=grownCap_ge w k 0 (ρ.t 25);have O:=grownCap_le_maxLen w k 0 (ρ.t 25) (by unfold maxLen;omega);generalize grownCap w k 0 (ρ.t 25)=G at hG1 O ⊢;have hO:mW S (upd μ 720 (some (w.heap.size,0,G))) (upd (look []) 720 (some (.arr (ρ.t 25) ei.size [] 0))) (w.drew.alloc (.cells ((([]:List Value).toArray)++Builtin.zeroCells z.cells k++Builtin.zeroCells z.cells (G-k)) (ρ.t 25))) 720 (.arr (ρ.t 25) ei.size [] 0):=by
   refine⟨by simp,.inr ⟨w.heap.size,0,G,(([]:List Value).toArray++Builtin.zeroCells z.cells k++Builtin.zeroCells z.cells (G-k)).toList,aI _ _ _,Bz w.drew _,?_,Ak _,⟨O,oT q⟩,?_,fun _ o _=>fI q o,fun o _=>fI q o,fun e=>by cases e⟩⟩
   ·simp only[Cy,Ab,Bd,size_zeroCells,aa,Ba,length_nil];rw[←Av];exact Ar _ (by omega)
   ·simp[cB]
  have hE:Evolve S μ (look []) S (upd μ 720 (some (w.heap.size,0,G))) (upd (look []) 720 (some (.arr (ρ.t 25) ei.size [] 0))):=gO hid _ _;have hi:=q.chg (id:=720) (cap:=(0,G)) (WChg.alloc_drew w _) (.inl (le_refl _)) hE hO (fun o v e=>by rw[fI q] at e;cases e) (fun m e=>le_refl _);refine⟨S,upd μ 720 (some (w.heap.size,0,G)),_,rfl,?_,?_⟩
  ·rw[jR];exact hi
  ·rw[jR];simp only[aZ,b9];exact⟨⟨_,_,_,rfl⟩,.inr ⟨_,_,[],0,aI _ _ _,le_refl _,fun _=>⟨le_refl _,.inr ⟨w.heap.size,0,G,aI _ _ _,by simp⟩⟩⟩⟩
end Go.AM
