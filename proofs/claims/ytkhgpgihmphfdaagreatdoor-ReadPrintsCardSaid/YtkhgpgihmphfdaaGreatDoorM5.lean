/-
  Texts Am23 to Am26 in one.
-/
import Derived.Test.YtkhgpgihmphfdaaGreatDoorM4
import Derived.KernelRfl
open List (drop_zero map_cons take_length)
open Nat (eq_of_beq_eq_true le_of_ble_eq_true zero_add)
namespace Go.AM
open Go
def frc {α:Type}:List α→Option (List α)
 | []=>some []
 | x::xs=>(frc xs).bind fun l=>some (x::l)
theorem lZ {α:Type}:∀l:List α,frc l=some l
 | []=>rfl
 | x::xs=>by simp[frc,lZ xs]
def tak {α:Type}:Nat→List α→Option (List α)
 | 0,_=>some []
 | _+1,[]=>none
 | k+1,x::xs=>(tak k xs).bind fun l=>some (x::l)
theorem tA {α:Type}:∀{k:Nat}{l r:List α},tak k l=some r→k≤l.length∧l.take k=r
 | 0,l,r,h=>by simp[tak] at h;simp[h]
 | k+1,[],r,h=>by simp[tak] at h
 | k+1,x::xs,r,h=>by
  simp only[tak,Ae] at h;obtain⟨l,h1,h2⟩:=h;cases h2;obtain⟨u,q⟩:=tA h1;exact⟨by simp;omega,by simp[q]⟩
inductive Tr where
 | leaf (o:Option TI)
 | node (k:Nat) (l r:Tr)
def Tr.get:Tr→Nat→Option TI
 | .leaf o,t=>bif Nat.beq t 0 then o else none
 | .node k l r,t=>bif Nat.blt t k then l.get t else r.get (t-k)
def Tr.flat:Tr→TT
 | .leaf o=>[o]
 | .node _ l r=>l.flat++r.flat
def Tr.wf:Tr→Bool
 | .leaf _=>true
 | .node k l r=>Nat.beq k l.flat.length&&(l.wf&&r.wf)
theorem Tr.get_ok:∀{tr:Tr}{t:Nat}{i:TI},tr.wf=true→tr.get t=some i→tr.flat[t]?=some (some i)
 | .leaf o,t,i,_,h=>by
  simp only[Tr.get] at h;cases hb:Nat.beq t 0 with
  | false=>rw[hb] at h;cases h
  | true=>
   rw[hb] at h;have:=τ hb;subst this;simp only[B1] at h;simp[Tr.flat,h]
 | .node k l r,t,i,hw,h=>by
  simp only[Tr.wf,π] at hw;have u:=τ hw.1;simp only[Tr.get] at h;simp only[Tr.flat,Cf];cases hb:Nat.blt t k with
  | true=>
   rw[hb] at h;have:t<k:=Ap hb;rw[ζ (by omega)];exact Tr.get_ok hw.2.1 h
  | false=>
   rw[hb] at h;have:¬t<k:=fun q=>by
    have:Nat.blt t k=true:=Nat.ble_eq_true_of_le q;rw[hb] at this;cases this
   rw[η (by omega),←u];exact Tr.get_ok hw.2.2 h
def iX:List Prop→Prop
 | []=>True
 | p::l=>p∧iX l
def need (md:Bool) (p:Prop) [Decidable p] (ob:List Prop):Option (List Prop):=bif md then some (p::ob) else bif decide p then some ob else none
theorem aX {md:Bool}{p:Prop} [Decidable p] {ob q:List Prop}(h:need md p ob=some q):iX q→iX ob∧p:=by
 unfold need at h;cases md with
 | true=>cases h;exact fun h=>⟨h.2,h.1⟩
 | false=>
  simp only[Bq] at h;cases hp:decide p with
  | false=>rw[hp] at h;cases h
  | true=>rw[hp] at h;cases h;exact fun h=>⟨h,κ hp⟩
inductive Hn where
 | no
 | id (n:Nat)
 | bv (b:Bool)
 | row (k:Nat) (r:List C)
 | all
 | look (r:Option (List C))
 | c (rows:List (List C))
 | byte (k:Nat) (b:UInt8)
 | pc (res:V)
 | fz
 | rr (r:List R)
 | rowR (k:Nat) (r:List R)
def aPb:List (Nat×Hn)→Nat→Hn
 | [],_=>.no
 | (k,h)::l,i=>bif Nat.beq i k then h else aPb l i
abbrev Ans:=Option (Rd×Eff×List Prop)
def Snd (P:Program) (n:Nat) (o:Oper) (st:St) (ob:List Prop) (r:Ans):Prop:=∀rd f ob',r=some (rd,f,ob')→iX ob'→iX ob∧Step P n o st rd f
def val (o:Oper) (n:Nat) (rd:Rd) (v:V) (h:List (Nat×Option AObj)) (ob:List Prop):Ans:=
 match o.dst with
 | some d=>bif Nat.blt d n then some (rd,⟨some (d,some v),h⟩,ob) else none
 | none=>none
def eff (o:Oper) (rd:Rd) (h:List (Nat×Option AObj)) (ob:List Prop):Ans:=
 match o.dst with
 | none=>some (rd,⟨none,h⟩,ob)
 | some _=>none
def opO (st:St):Operand→Option V
 | .tmp t=>st.e t
 | .const v=>match v with
  | .int k n=>some (.one (.c (.int k n)))
  | .bool b=>some (.one (.c (.bool b)))
  | .string ⟨⟨l⟩⟩=>some (.one (.c (.str l)))
  | .slice none 0 0=>some (.one (.c .nl))
  | .pointer none=>some (.one (.c .np))
  | .map none=>some (.one (.c (.zv 0)))
  | .nilFunc=>some (.one (.c (.zv 1)))
  | .nilIface=>some (.one (.c (.zv 2)))
  | .agg ⟨vs⟩=>(aA6 vs).bind fun cs=>some (.pa cs)
  | _=>none
 | .func f=>some (.one (.clo f []))
 | .global _=>none
theorem cB (st:St) (x:Operand):opO st x=opv st x:=by
 cases x with
 | const v=>
  cases v with
  | string s=>obtain⟨⟨l⟩⟩:=s;rfl
  | slice a l c=>
   cases a with
   | some _=>rfl
   | none=>
    cases l with
    | zero=>cases c<;>rfl
    | succ _=>rfl
  | pointer p=>cases p<;>rfl
  | map m=>cases m<;>rfl
  | _=>rfl
 | _=>rfl
def a1c (rs:List R):Option V:=match jU rs with | some l=>some (.pa l) | none=>some (.ma rs)
theorem aNd (rs:List R):a1c rs=some (aW1 rs):=by
 unfold a1c aW1;cases jU rs<;>rfl
def aHl (i:TI) (rs:List R):Option V:=bif i.k.agg then a1c rs else match rs with | [r]=>some (.one r) | _=>none
theorem sJ (i:TI) (rs:List R):aHl i rs=lO i rs:=by
 unfold aHl lO;cases i.k.agg
 ·rfl
 ·exact aNd rs
def aE0 (i:TI) (l:List C):Option V:=bif i.k.agg then some (.pa l) else match l with | [c]=>some (.one (.c c)) | _=>none
theorem aAi (i:TI) (l:List C):aE0 i l=aHm i l:=by
 unfold aE0 aHm;cases i.k.agg<;>rfl
def rL (v:V):Option (List R):=(iK v).bind frc
theorem jM (v:V):rL v=iK v:=by
 unfold rL;cases iK v with
 | none=>rfl
 | some l=>simp[lZ]
theorem dX {α:Type}{b:Bool}{x:Option α}{y:α}(h:(bif b then x else none)=some y):b=true∧x=some y:=by
 cases b
 ·cases h
 ·exact⟨rfl,h⟩
theorem kE {d n:Nat}(h:Nat.blt d n=true):d<n:=Ap h
theorem aW6 {o:Oper}{n:Nat}{rd q:Rd}{v:V}{h:List (Nat×Option AObj)}{ob u:List Prop}{f:Eff}(e:val o n rd v h ob=some (q,f,u)):∃d,o.dst=some d∧d<n∧q=rd∧f=⟨some (d,some v),h⟩∧u=ob:=by
 unfold val at e;split at e
 ·rename_i d y;obtain⟨h1,h2⟩:=dX e;cases h2;exact⟨d,y,kE h1,rfl,rfl,rfl⟩
 ·cases e
theorem aY4 {o:Oper}{rd q:Rd}{h:List (Nat×Option AObj)}{ob u:List Prop}{f:Eff}(e:eff o rd h ob=some (q,f,u)):o.dst=none∧q=rd∧f=⟨none,h⟩∧u=ob:=by
 unfold eff at e;split at e
 ·rename_i y;cases e;exact⟨y,rfl,rfl,rfl⟩
 ·cases e
theorem Snd.val {P:Program}{n:Nat}{o:Oper}{st:St}{ob q:List Prop}{rd:Rd}{v:V}{h:List (Nat×Option AObj)}(u:∀d,o.dst=some d→d<n→iX q→iX ob∧Step P n o st rd ⟨some (d,some v),h⟩):Snd P n o st ob (Go.AM.val o n rd v h q):=by
 intro A f y e hc;obtain⟨d,h1,h2,rfl,rfl,rfl⟩:=aW6 e;exact u d h1 h2 hc
theorem Snd.eff {P:Program}{n:Nat}{o:Oper}{st:St}{ob q:List Prop}{rd:Rd}{h:List (Nat×Option AObj)}(u:o.dst=none→iX q→iX ob∧Step P n o st rd ⟨none,h⟩):Snd P n o st ob (Go.AM.eff o rd h q):=by
 intro A f y e hc;obtain⟨h1,rfl,rfl,rfl⟩:=aY4 e;exact u h1 hc
theorem Snd.none {P:Program}{n:Nat}{o:Oper}{st:St}{ob:List Prop}:Snd P n o st ob none:=by
 intro rd f q e;cases e
theorem Snd.bind {P:Program}{n:Nat}{o:Oper}{st:St}{ob:List Prop}{α:Type}{x:Option α}{k:α→Ans}(h:∀y,x=some y→Snd P n o st ob (k y)):Snd P n o st ob (x.bind k):=by
 intro rd f q e;rw[Ae] at e;obtain⟨y,h1,h2⟩:=e;exact h y h1 rd f q h2
theorem Snd.cond {P:Program}{n:Nat}{o:Oper}{st:St}{ob:List Prop}{b:Bool}{r:Ans}(h:b=true→Snd P n o st ob r):Snd P n o st ob (bif b then r else Option.none):=by
 cases b
 ·exact Snd.none
 ·exact h rfl
section
variable {P:Program}{n:Nat}{o:Oper}{st:St}{ob:List Prop}{tr:Tr}{md:Bool}
def aGj (o:Oper) (n:Nat) (st:St) (ob:List Prop) (x:Operand):Ans:=(opO st x).bind fun y=>val o n ⟨opr x,[]⟩ y [] ob
theorem aMu {x:Operand}(ho:o.op=.move x):Snd P n o st ob (aGj o n st ob x):=
 Snd.bind fun y hy=>Snd.val fun _ u q hc=>⟨hc,aJn ho u q (by rw[←cB];exact hy)⟩
theorem aDl {x:Operand}(ho:o.op=.assign x):Snd P n o st ob (aGj o n st ob x):=
 Snd.bind fun y hy=>Snd.val fun _ u q hc=>⟨hc,aOs ho u q (by rw[←cB];exact hy)⟩
def aNz (hn:Hn) (b:Bool) (ob:List Prop):Bool×List Prop:=match hn with
 | .bv w=>(w,(b=w)::ob)
 | _=>match b with
  | true=>(true,ob)
  | false=>(false,ob)
theorem s7 {hn:Hn}{b w:Bool}{ob q:List Prop}(h:aNz hn b ob=(w,q)):iX q→iX ob∧b=w:=by
 unfold aNz at h;split at h
 ·cases h;exact fun h=>⟨h.2,h.1⟩
 ·cases b<;>(cases h;exact fun h=>⟨h,rfl⟩)
def aSd (o:Oper) (n:Nat) (st:St) (ob:List Prop) (hn:Hn) (c x y:Operand):Ans:=(opO st c).bind fun v=>match v with
 | .one (.c (.bool b))=>match aNz hn b ob with
  | (true,ob')=>(opO st x).bind fun z=>val o n ⟨opr c++opr x,[]⟩ z [] ob'
  | (false,ob')=>(opO st y).bind fun z=>val o n ⟨opr c++opr y,[]⟩ z [] ob'
 | _=>none
theorem aMs {hn:Hn}{c x y:Operand}(ho:o.op=.pick c x y):Snd P n o st ob (aSd o n st ob hn c x y):=by
 refine Snd.bind fun v hv=>?_
 rw[cB] at hv;split
 ·rename_i b;split
  ·rename_i B ht;refine Snd.bind fun z q=>Snd.val fun _ A u hc=>?_
   rw[cB] at q;obtain⟨h1,h2⟩:=s7 ht hc;exact⟨h1,aOk ho A u hv h2 q⟩
  ·rename_i B ht;refine Snd.bind fun z q=>Snd.val fun _ A u hc=>?_
   rw[cB] at q;obtain⟨h1,h2⟩:=s7 ht hc;exact⟨h1,aOl ho A u hv h2 q⟩
 ·exact Snd.none
def aBx (o:Oper) (n:Nat) (st:St) (ob:List Prop) (x:Operand) (i:Nat):Ans:=(opO st x).bind fun v=>match v with
 | .tup l=>(l[i]?).bind fun z=>val o n ⟨opr x,[]⟩ z [] ob
 | _=>none
theorem aBw {x:Operand}{i:Nat}(ho:o.op=.extract x i):Snd P n o st ob (aBx o n st ob x i):=by
 refine Snd.bind fun v hv=>?_
 rw[cB] at hv;split
 ·exact Snd.bind fun z u=>Snd.val fun _ y q hc=>⟨hc,aJw ho y q hv u⟩
 ·exact Snd.none
def aM4 (tr:Tr) (o:Oper) (n:Nat) (st:St) (ob:List Prop) (id:Nat) (t:TypeId):Ans:=(tr.get t).bind fun i=>(frc (i.zero.map R.c)).bind fun z=>match st.h id with
 | none=>val o n ⟨[],[id]⟩ (.one (.vp id 0)) [(id,some (.var t z))] ob
 | some _=>none
theorem aIe {id:Nat}{t:TypeId}(hw:tr.wf=true) (y:Tok P tr.flat) (ho:o.op=.alloc t):Snd P n o st ob (aM4 tr o n st ob id t):=by
 refine Snd.bind fun i hi=>Snd.bind fun z q=>?_
 rw[lZ] at q;cases q;split
 ·rename_i hid;exact Snd.val fun _ A u hc=>⟨hc,aTh id y ho A u (Tr.get_ok hw hi) hid⟩
 ·exact Snd.none
def a0l (o:Oper) (n:Nat) (st:St) (ob:List Prop) (id:Nat) (t:TypeId) (x:Operand):Ans:=(opO st x).bind fun v=>(rL v).bind fun rs=>match st.h id with
 | none=>val o n ⟨opr x,[id]⟩ (.one (.vp id 0)) [(id,some (.var t rs))] ob
 | some _=>none
theorem aQs {id:Nat}{t:TypeId}{x:Operand}(ho:o.op=.box t x):Snd P n o st ob (a0l o n st ob id t x):=by
 refine Snd.bind fun v hv=>Snd.bind fun rs q=>?_
 rw[cB] at hv;rw[jM] at q;split
 ·rename_i hid;exact Snd.val fun _ y u hc=>⟨hc,a17 id ho y u hv q hid⟩
 ·exact Snd.none
def aV5 (tr:Tr) (o:Oper) (n:Nat) (st:St) (ob:List Prop) (id:Nat) (t:TypeId) (r:Option Operand):Ans:=match r with
 | some _=>none
 | none=>(tr.get t).bind fun i=>match i.k with
  | .mp _ e=>(tr.get e).bind fun ei=>match st.h id with
   | none=>val o n ⟨[],[id]⟩ (.one (.mr id)) [(id,some (.map ei.k.agg []))] ob
   | some _=>none
  | _=>none
theorem aQo {id:Nat}{t:TypeId}{r:Option Operand}(ho:o.op=.makeMap t r):Snd P n o st ob (aV5 tr o n st ob id t r):=by
 unfold aV5;split
 ·exact Snd.none
 ·refine Snd.bind fun i hi=>?_
  split
  ·refine Snd.bind fun A y=>?_
   split
   ·rename_i hid;exact Snd.val fun _ u q hc=>⟨hc,aJo id _ ho u q hid⟩
   ·exact Snd.none
  ·exact Snd.none
def aXi (hn:Hn) (elems:List (List C)) (k:Nat) (ob:List Prop):Option (List C×List Prop):=match hn with
 | .row _ r=>some (r,(elems[k]?=some r)::ob)
 | _=>match elems[k]? with
  | some r=>some (r,ob)
  | none=>none
theorem aCf {hn:Hn}{elems:List (List C)}{k:Nat}{ob q:List Prop}{r:List C}(h:aXi hn elems k ob=some (r,q)):iX q→iX ob∧elems[k]?=some r:=by
 unfold aXi at h;split at h
 ·cases h;exact fun h=>⟨h.2,h.1⟩
 ·split at h
  ·rename_i h1;cases h;exact fun h=>⟨h,h1⟩
  ·cases h
def aOf (hn:Hn) (elems:List (List R)) (k:Nat) (ob:List Prop):Option (List R×List Prop):=match hn with
 | .rr r=>some (r,(elems[k]?=some r)::ob)
 | _=>match elems[k]? with
  | some r=>some (r,ob)
  | none=>none
theorem aEc {hn:Hn}{elems:List (List R)}{k:Nat}{ob q:List Prop}{r:List R}(h:aOf hn elems k ob=some (r,q)):iX q→iX ob∧elems[k]?=some r:=by
 unfold aOf at h;split at h
 ·cases h;exact fun h=>⟨h.2,h.1⟩
 ·split at h
  ·rename_i h1;cases h;exact fun h=>⟨h,h1⟩
  ·cases h
def aSe (tr:Tr) (md:Bool) (o:Oper) (n:Nat) (st:St) (ob:List Prop) (hn:Hn) (t:TypeId) (x:Operand):Ans:=(tr.get t).bind fun i=>(opO st x).bind fun v=>match v with
 | .one (.vp id off)=>match st.h id with
  | some (.var _ cells)=>bif Nat.ble (off+i.size) cells.length then(tak i.size (cells.drop off)).bind fun rs=>(aHl i rs).bind fun y=>val o n ⟨opr x,[id]⟩ y [] ob else none
  | _=>none
 | .one (.c (.pt l))=>(tak i.size l).bind fun cs=>(aE0 i cs).bind fun y=>val o n ⟨opr x,[]⟩ y [] ob
 | .one (.pas l)=>(tak i.size l).bind fun cs=>(aHl i cs).bind fun y=>val o n ⟨opr x,[]⟩ y [] ob
 | .one (.ep id k fo sz)=>match st.h id with
  | some (.arr _ es elems _)=>(need md (sz=elems.length) ob).bind fun ob1=>(aXi hn elems k ob1).bind fun(r,ob2)=>
   bif Nat.ble (fo+i.size) es then(tak i.size (r.drop fo)).bind fun cs=>(aE0 i cs).bind fun y=>val o n ⟨opr x,[id]⟩ y [] ob2 else none
  | _=>none
 | .one (.rp id k fo sz)=>match st.h id with
  | some (.rarr _ es elems)=>(need md (sz=elems.length) ob).bind fun ob1=>(aOf hn elems k ob1).bind fun(r,ob2)=>
   bif Nat.ble (fo+i.size) es then(tak i.size (r.drop fo)).bind fun cs=>(aHl i cs).bind fun y=>val o n ⟨opr x,[id]⟩ y [] ob2 else none
  | _=>none
 | _=>none
theorem aMv {hn:Hn}{t:TypeId}{x:Operand}(hw:tr.wf=true) (B:Tok P tr.flat) (ho:o.op=.load t x):Snd P n o st ob (aSe tr md o n st ob hn t x):=by
 refine Snd.bind fun i hi=>Snd.bind fun v hv=>?_
 rw[cB] at hv
 replace hi:=Tr.get_ok hw hi
 split
 ·rename_i id off;split
  ·rename_i tv cells hh;refine Snd.cond fun hb=>Snd.bind fun rs J=>Snd.bind fun y hy=>Snd.val fun _ A q hc=>⟨hc,?_⟩
   obtain⟨h1,h2⟩:=tA J;rw[sJ,←h2] at hy;exact aXz B ho A q hi hv hh hb hy
  ·exact Snd.none
 ·rename_i l;refine Snd.bind fun cs u=>Snd.bind fun y hy=>Snd.val fun _ A q hc=>⟨hc,?_⟩
  obtain⟨h1,h2⟩:=tA u;rw[aAi,←h2] at hy;exact aJr B ho A q hi hv h1 hy
 ·rename_i l;refine Snd.bind fun cs u=>Snd.bind fun y hy=>Snd.val fun _ A q hc=>⟨hc,?_⟩
  obtain⟨h1,h2⟩:=tA u;rw[sJ,←h2] at hy;exact aG7 B ho A q hi hv h1 hy
 ·rename_i id k fo sz;split
  ·rename_i te es elems fz hh;refine Snd.bind fun M h1=>Snd.bind fun p h2=>?_
   obtain⟨r,O⟩:=p;refine Snd.cond fun E=>Snd.bind fun cs u=>Snd.bind fun y hy=>Snd.val fun _ A q hc=>?_
   obtain⟨g1,g2⟩:=aCf h2 hc;obtain⟨g3,g4⟩:=aX h1 g1;obtain⟨U,I⟩:=tA u;rw[aAi,←I] at hy;exact⟨g3,aJs B ho A q hi hv hh g4 g2 (Ap E) hy⟩
  ·exact Snd.none
 ·rename_i id k fo sz;split
  ·rename_i te es elems hh;refine Snd.bind fun M h1=>Snd.bind fun p h2=>?_
   obtain⟨r,O⟩:=p;refine Snd.cond fun E=>Snd.bind fun cs u=>Snd.bind fun y hy=>Snd.val fun _ A q hc=>?_
   obtain⟨g1,g2⟩:=aEc h2 hc;obtain⟨g3,g4⟩:=aX h1 g1;obtain⟨U,I⟩:=tA u;rw[sJ,←I] at hy;exact⟨g3,aJq B ho A q hi hv hh g4 g2 (Ap E) hy⟩
  ·exact Snd.none
 ·exact Snd.none
def aWk {α:Type}(l:List α) (off:Nat) (new:List α):Option (List α):=frc (bW l off new)
def aMp (tr:Tr) (md:Bool) (o:Oper) (st:St) (ob:List Prop) (hn:Hn) (t:TypeId) (x y:Operand):Ans:=(tr.get t).bind fun i=>(opO st x).bind fun v=>(opO st y).bind fun u=>(rL u).bind fun rs=>bif Nat.beq rs.length i.size then(match v with
 | .one (.vp id off)=>match st.h id with
  | some (.var tv cells)=>bif Nat.ble (off+i.size) cells.length then(aWk cells off rs).bind fun cs=>eff o ⟨opr x++opr y,[id]⟩ [(id,some (.var tv cs))] ob else none
  | _=>none
 | .one (.ep id k fo sz)=>match st.h id with
  | some (.arr te es elems 0)=>(jU rs).bind fun cs=>(need md (sz=elems.length) ob).bind fun ob1=>(aXi hn elems k ob1).bind fun(r,ob2)=>
   bif Nat.ble (fo+i.size) es then(aWk r fo cs).bind fun r'=>eff o ⟨opr x++opr y,[id]⟩ [(id,some (.arr te es (elems.set k r') 0))] ob2 else none
  | _=>none
 | .one (.rp id k fo sz)=>match st.h id with
  | some (.rarr te es elems)=>(need md (sz=elems.length) ob).bind fun ob1=>(aOf hn elems k ob1).bind fun(r,ob2)=>
   bif Nat.ble (fo+i.size) es then(aWk r fo rs).bind fun r'=>eff o ⟨opr x++opr y,[id]⟩ [(id,some (.rarr te es (elems.set k r')))] ob2 else none
  | _=>none
 | _=>none) else none
theorem aH8 {hn:Hn}{t:TypeId}{x y:Operand}(hw:tr.wf=true) (J:Tok P tr.flat) (ho:o.op=.store t x y):Snd P n o st ob (aMp tr md o st ob hn t x y):=by
 refine Snd.bind fun i hi=>Snd.bind fun v hv=>Snd.bind fun u hu=>Snd.bind fun rs B=>Snd.cond fun hl=>?_
 rw[cB] at hv hu;rw[jM] at B
 replace hi:=Tr.get_ok hw hi
 have E:=τ hl;split
 ·rename_i id off;split
  ·rename_i tv cells hh;refine Snd.cond fun hb=>Snd.bind fun cs A=>Snd.eff fun I hc=>⟨hc,?_⟩
   unfold aWk at A;rw[lZ] at A;cases A;exact aS7 J ho I hi hv hu B hh E hb
  ·exact Snd.none
 ·rename_i id k fo sz;split
  ·rename_i te es elems hh;refine Snd.bind fun cs A=>Snd.bind fun O h1=>Snd.bind fun p h2=>?_
   obtain⟨r,U⟩:=p;refine Snd.cond fun M=>Snd.bind fun r' q=>Snd.eff fun I hc=>?_
   obtain⟨g1,g2⟩:=aCf h2 hc;obtain⟨g3,g4⟩:=aX h1 g1;unfold aWk at q;rw[lZ] at q;cases q;refine⟨g3,aG5 J ho I hi hv hu B A hh g4 g2 ?_ (Ap M)⟩;have:=pA A;rw[this] at E;simpa using E
  ·exact Snd.none
 ·rename_i id k fo sz;split
  ·rename_i te es elems hh;refine Snd.bind fun O h1=>Snd.bind fun p h2=>?_
   obtain⟨r,U⟩:=p;refine Snd.cond fun M=>Snd.bind fun r' q=>Snd.eff fun I hc=>?_
   obtain⟨g1,g2⟩:=aEc h2 hc;obtain⟨g3,g4⟩:=aX h1 g1;unfold aWk at q;rw[lZ] at q;cases q;exact⟨g3,aG4 J ho I hi hv hu B hh g4 g2 E (Ap M)⟩
  ·exact Snd.none
 ·exact Snd.none
def uH (tr:Tr) (md:Bool) (o:Oper) (n:Nat) (st:St) (ob:List Prop) (t:TypeId) (x:Operand) (f:Nat):Ans:=(tr.get t).bind fun i=>match i.k with
 | .st fs=>(fs[f]?).bind fun(foff,ft)=>(tr.get ft).bind fun fi=>bif Nat.ble 1 fi.size then((opO st x).bind fun v=>match v with
  | .one (.vp id off)=>val o n ⟨opr x,[]⟩ (.one (.vp id (off+foff))) [] ob
  | .one (.c (.pt l))=>val o n ⟨opr x,[]⟩ (.one (.c (.pt (l.drop foff)))) [] ob
  | .one (.pas l)=>val o n ⟨opr x,[]⟩ (.one (.pas (l.drop foff))) [] ob
  | .one (.ep id k fo sz)=>match st.h id with
   | some (.arr _ _ elems _)=>(need md (sz=elems.length) ob).bind fun ob1=>val o n ⟨opr x,[id]⟩ (.one (.ep id k (fo+foff) sz)) [] ob1
   | _=>none
  | .one (.rp id k fo sz)=>match st.h id with
   | some (.rarr _ _ elems)=>(need md (sz=elems.length) ob).bind fun ob1=>val o n ⟨opr x,[id]⟩ (.one (.rp id k (fo+foff) sz)) [] ob1
   | _=>none
  | _=>none) else none
 | _=>none
theorem v7 {t:TypeId}{x:Operand}{f:Nat}(hw:tr.wf=true) (B:Tok P tr.flat) (ho:o.op=.fieldAddr t x f):Snd P n o st ob (uH tr md o n st ob t x f):=by
 refine Snd.bind fun i hi=>?_
 replace hi:=Tr.get_ok hw hi
 split
 ·rename_i fs E;refine Snd.bind fun p I=>?_
  obtain⟨M,Y⟩:=p;refine Snd.bind fun O u=>Snd.cond fun U=>Snd.bind fun v hv=>?_
  replace u:=Tr.get_ok hw u
  have A:O.size≠0:=by have:=Ap U;omega
  rw[cB] at hv;split
  ·exact Snd.val fun _ y q hc=>⟨hc,aHa B ho y q hi E I u A hv⟩
  ·exact Snd.val fun _ y q hc=>⟨hc,aHc B ho y q hi E I u A hv⟩
  ·exact Snd.val fun _ y q hc=>⟨hc,aCi B ho y q hi E I u A hv⟩
  ·split
   ·rename_i hh;exact Snd.bind fun J h1=>Snd.val fun _ y q hc=>⟨(aX h1 hc).1,aHd B ho y q hi E I u A hv hh (aX h1 hc).2⟩
   ·exact Snd.none
  ·split
   ·rename_i hh;exact Snd.bind fun J h1=>Snd.val fun _ y q hc=>⟨(aX h1 hc).1,aHb B ho y q hi E I u A hv hh (aX h1 hc).2⟩
   ·exact Snd.none
  ·exact Snd.none
 ·exact Snd.none
def aMz (tr:Tr) (o:Oper) (n:Nat) (st:St) (ob:List Prop) (t:TypeId) (x:Operand) (f:Nat):Ans:=(tr.get t).bind fun i=>match i.k with
 | .st fs=>(fs[f]?).bind fun(foff,ft)=>(tr.get ft).bind fun fi=>(opO st x).bind fun v=>(rL v).bind fun rs=>
  bif (match v with | .pa _=>true | .ma _=>true | _=>false) then bif Nat.ble (foff+fi.size) rs.length then(tak fi.size (rs.drop foff)).bind fun l=>(aHl fi l).bind fun y=>val o n ⟨opr x,[]⟩ y [] ob else none else none
 | _=>none
theorem aIc {t:TypeId}{x:Operand}{f:Nat}(hw:tr.wf=true) (I:Tok P tr.flat) (ho:o.op=.field t x f):Snd P n o st ob (aMz tr o n st ob t x f):=by
 refine Snd.bind fun i hi=>?_
 replace hi:=Tr.get_ok hw hi
 split
 ·rename_i fs J;refine Snd.bind fun p M=>?_
  obtain⟨O,Y⟩:=p;refine Snd.bind fun fi q=>Snd.bind fun v hv=>Snd.bind fun rs u=>Snd.cond fun A=>Snd.cond fun hl=>Snd.bind fun l B=>Snd.bind fun y hy=>?_
  replace q:=Tr.get_ok hw q
  rw[cB] at hv;rw[jM] at u;rw[sJ,←(tA B).2] at hy;exact Snd.val fun _ U E hc=>⟨hc,aTd I ho U E hi J M q hv (by cases v<;>first | rfl | exact A) u hl hy⟩
 ·exact Snd.none
def atO (hn:Hn) (m:Int) (ob:List Prop):Option (Nat×List Prop):=match hn with
 | .row k _=>some (k,(m=(k:Int))::ob)
 | .rowR k _=>some (k,(m=(k:Int))::ob)
 | _=>match m with
  | .ofNat k=>some (k,ob)
  | .negSucc _=>none
theorem vV {hn:Hn}{m:Int}{k:Nat}{ob q:List Prop}(h:atO hn m ob=some (k,q)):iX q→iX ob∧m=(k:Int):=by
 unfold atO at h;split at h
 ·cases h;exact fun h=>⟨h.2,h.1⟩
 ·cases h;exact fun h=>⟨h.2,h.1⟩
 ·split at h
  ·cases h;exact fun h=>⟨h,rfl⟩
  ·cases h
def a1d (a b:Nat):Option Nat:=match a with
 | 0=>some b
 | a+1=>some (a+1+b)
theorem aNe {a b c:Nat}(h:a1d a b=some c):a+b=c:=by
 unfold a1d at h;split at h<;>cases h
 ·exact Bk _
 ·rfl
def uG (tr:Tr) (md:Bool) (o:Oper) (n:Nat) (st:St) (ob:List Prop) (hn:Hn) (t:TypeId) (x y:Operand):Ans:=(tr.get t).bind fun i=>match i.k with
 | .sl e=>(tr.get e).bind fun ei=>(opO st x).bind fun v=>(opO st y).bind fun u=>match u with
  | .one (.c (.int _ m))=>(atO hn m ob).bind fun(k,ob1)=>match v with
   | .one (.c (.sl es l))=>bif Nat.beq ei.size es then(aXi hn l k ob1).bind fun(r,ob2)=>val o n ⟨opr x++opr y,[]⟩ (.one (.c (.pt r))) [] ob2 else none
   | .one (.hs id off len sz)=>match st.h id with
    | some (.arr _ es elems _)=>bif Nat.beq ei.size es then(need md (sz=elems.length) ob1).bind fun ob2=>(need md (k<len) ob2).bind fun ob3=>(a1d off k).bind fun j=>val o n ⟨opr x++opr y,[id]⟩ (.one (.ep id j 0 sz)) [] ob3 else none
    | _=>none
   | .one (.ra id off len sz)=>match st.h id with
    | some (.rarr _ es elems)=>bif Nat.beq ei.size es then(need md (sz=elems.length) ob1).bind fun ob2=>(need md (k<len) ob2).bind fun ob3=>(a1d off k).bind fun j=>val o n ⟨opr x++opr y,[id]⟩ (.one (.rp id j 0 sz)) [] ob3 else none
    | _=>none
   | .one (.ras n' es l)=>bif Nat.beq ei.size es then(need md (k<n') ob1).bind fun ob2=>match hn with
    | .rowR _ r=>val o n ⟨opr x++opr y,[]⟩ (.one (.pas r)) [] (((l.drop (k*es)).take es=r)::ob2)
    | _=>(frc ((l.drop (k*es)).take es)).bind fun r=>val o n ⟨opr x++opr y,[]⟩ (.one (.pas r)) [] ob2 else none
   | _=>none
  | _=>none
 | .ar m' e=>(tr.get e).bind fun ei=>(opO st x).bind fun v=>(opO st y).bind fun u=>match u with
  | .one (.c (.int _ m))=>(atO hn m ob).bind fun(k,ob1)=>match v with
   | .one (.vp id off)=>(need md (k<m') ob1).bind fun ob2=>val o n ⟨opr x++opr y,[]⟩ (.one (.vp id (off+k*ei.size))) [] ob2
   | _=>none
  | _=>none
 | _=>none
theorem uZ {hn:Hn}{t:TypeId}{x y:Operand}(hw:tr.wf=true) (M:Tok P tr.flat) (ho:o.op=.indexAddr t x y):Snd P n o st ob (uG tr md o n st ob hn t x y):=by
 refine Snd.bind fun i hi=>?_
 replace hi:=Tr.get_ok hw hi
 split
 ·rename_i e I;refine Snd.bind fun ei q=>Snd.bind fun v hv=>Snd.bind fun u hu=>?_
  replace q:=Tr.get_ok hw q
  rw[cB] at hv hu;split
  ·rename_i kk m;refine Snd.bind fun p hp=>?_
   obtain⟨k,U⟩:=p;dsimp only;split
   ·rename_i es l;refine Snd.cond fun B=>Snd.bind fun p h2=>?_
    obtain⟨r,J⟩:=p;refine Snd.val fun _ E A hc=>?_
    obtain⟨g1,g2⟩:=aCf h2 hc;obtain⟨g3,g4⟩:=vV hp g1;exact⟨g3,aTc M ho E A hi I q (τ B) hv hu g4 g2⟩
   ·rename_i id off len sz;split
    ·rename_i te es elems fz hh;refine Snd.cond fun B=>Snd.bind fun J h2=>Snd.bind fun Y O=>Snd.bind fun j hj=>Snd.val fun _ E A hc=>?_
     have hj:=aNe hj;subst hj;obtain⟨g1,g2⟩:=aX O hc;obtain⟨g3,g4⟩:=aX h2 g1;obtain⟨g5,g6⟩:=vV hp g3;exact⟨g5,aG9 M ho E A hi I q (τ B) hv hh g4 hu g6 g2⟩
    ·exact Snd.none
   ·rename_i id off len sz;split
    ·rename_i te es elems hh;refine Snd.cond fun B=>Snd.bind fun J h2=>Snd.bind fun Y O=>Snd.bind fun j hj=>Snd.val fun _ E A hc=>?_
     have hj:=aNe hj;subst hj;obtain⟨g1,g2⟩:=aX O hc;obtain⟨g3,g4⟩:=aX h2 g1;obtain⟨g5,g6⟩:=vV hp g3;exact⟨g5,aG8 M ho E A hi I q (τ B) hv hh g4 hu g6 g2⟩
    ·exact Snd.none
   ·rename_i n' es l;refine Snd.cond fun B=>Snd.bind fun J h2=>?_
    have B:=τ B;split
    ·refine Snd.val fun _ E A hc=>?_
     obtain⟨c1,c2⟩:=hc;obtain⟨g1,g2⟩:=aX h2 c2;obtain⟨g3,g4⟩:=vV hp g1;exact⟨g3,tE M ho E A hi I q B hv hu g4 g2 c1⟩
    ·refine Snd.bind fun r hr=>Snd.val fun _ E A hc=>?_
     rw[lZ] at hr;cases hr;obtain⟨g1,g2⟩:=aX h2 hc;obtain⟨g3,g4⟩:=vV hp g1;exact⟨g3,tE M ho E A hi I q B hv hu g4 g2 rfl⟩
   ·exact Snd.none
  ·exact Snd.none
 ·rename_i m' e I;refine Snd.bind fun ei q=>Snd.bind fun v hv=>Snd.bind fun u hu=>?_
  replace q:=Tr.get_ok hw q
  rw[cB] at hv hu;split
  ·rename_i kk m;refine Snd.bind fun p hp=>?_
   obtain⟨k,U⟩:=p;dsimp only;split
   ·rename_i id off;refine Snd.bind fun J h2=>Snd.val fun _ E A hc=>?_
    obtain⟨g1,g2⟩:=aX h2 hc;obtain⟨g3,g4⟩:=vV hp g1;exact⟨g3,aCh M ho E A hi I q hv hu g4 g2⟩
   ·exact Snd.none
  ·exact Snd.none
 ·exact Snd.none
def a0j (md:Bool) (o:Oper) (n:Nat) (st:St) (ob:List Prop) (x:Operand):Ans:=(opO st x).bind fun v=>match v with
 | .one (.ep id k fo sz)=>match st.h id with
  | some (.arr _ _ elems _)=>(need md (sz=elems.length) ob).bind fun ob1=>val o n ⟨opr x,[id]⟩ (.one (.ep id k fo sz)) [] ob1
  | _=>none
 | .one (.rp id k fo sz)=>match st.h id with
  | some (.rarr _ _ elems)=>(need md (sz=elems.length) ob).bind fun ob1=>val o n ⟨opr x,[id]⟩ (.one (.rp id k fo sz)) [] ob1
  | _=>none
 | v=>bif notNil v then val o n ⟨opr x,[]⟩ v [] ob else none
theorem aQn {x:Operand}(ho:o.op=.nilCheck x):Snd P n o st ob (a0j md o n st ob x):=by
 refine Snd.bind fun v hv=>?_
 rw[cB] at hv;split
 ·split
  ·rename_i hh;exact Snd.bind fun y h1=>Snd.val fun _ u q hc=>⟨(aX h1 hc).1,wO ho u q hv hh (aX h1 hc).2⟩
  ·exact Snd.none
 ·split
  ·rename_i hh;exact Snd.bind fun y h1=>Snd.val fun _ u q hc=>⟨(aX h1 hc).1,wN ho u q hv hh (aX h1 hc).2⟩
  ·exact Snd.none
 ·exact Snd.cond fun h=>Snd.val fun _ u q hc=>⟨hc,aG6 ho u q hv h⟩
def tM (tr:Tr):List (Nat×TypeId)→Option (List (Nat×Nat))
 | []=>some []
 | (off,t)::fs=>(tr.get t).bind fun i=>(tM tr fs).bind fun l=>some ((off,i.size)::l)
theorem vG {tr:Tr}(hw:tr.wf=true):∀{fs:List (Nat×TypeId)}{l:List (Nat×Nat)},tM tr fs=some l→mR tr.flat fs=some l
 | [],l,h=>by simpa [tM,mR] using h
 | (off,t)::fs,l,h=>by
  simp only[tM,Ae] at h;obtain⟨i,hi,u,q,h⟩:=h;simp only[mR,Tr.get_ok hw hi,vG hw q,h]
def aEl (st:St):List (Nat×Operand)→Option (List (Nat×List R))
 | []=>some []
 | (i,x)::ps=>(opO st x).bind fun v=>(rL v).bind fun rs=>(aEl st ps).bind fun l=>some ((i,rs)::l)
theorem zT (st:St):∀ps:List (Nat×Operand),aEl st ps=rD st ps
 | []=>rfl
 | (i,x)::ps=>by
  simp only[aEl,rD,cB,jM,zT st ps];cases opv st x with
  | none=>rfl
  | some v=>
   simp only[Ck];cases iK v with
   | none=>rfl
   | some rs=>
    simp only[Ck];cases rD st ps<;>rfl
def aPr (st:St):List Operand→Option (List R)
 | []=>some []
 | x::xs=>(opO st x).bind fun v=>match v with
  | .one r=>(aPr st xs).bind fun l=>some (r::l)
  | _=>none
theorem aFx (st:St):∀xs:List Operand,aPr st xs=aA9 st xs
 | []=>rfl
 | x::xs=>by
  simp only[aPr,aA9,cB,aFx st xs];cases opv st x with
  | none=>rfl
  | some v=>
   simp only[Ck];cases v<;>try rfl
   cases aA9 st xs<;>rfl
def aM3 (tr:Tr) (o:Oper) (n:Nat) (st:St) (ob:List Prop) (t:TypeId) (parts:Array (Nat×Operand)):Ans:=(tr.get t).bind fun i=>match i.k with
 | .st fs=>(tM tr fs).bind fun places=>(aEl st parts.toList).bind fun ps=>(aHu places (i.zero.map R.c) ps).bind fun out=>(frc out).bind fun out=>(a1c out).bind fun y=>val o n ⟨gD parts.toList,[]⟩ y [] ob
 | _=>none
theorem aId {t:TypeId}{parts:Array (Nat×Operand)}(hw:tr.wf=true) (E:Tok P tr.flat) (ho:o.op=.build t parts):Snd P n o st ob (aM3 tr o n st ob t parts):=by
 refine Snd.bind fun i hi=>?_
 replace hi:=Tr.get_ok hw hi
 split
 ·rename_i fs I;refine Snd.bind fun places q=>Snd.bind fun ps u=>Snd.bind fun out J=>Snd.bind fun M A=>Snd.bind fun y hy=>Snd.val fun _ O B hc=>⟨hc,?_⟩
  replace q:=vG hw q
  rw[zT] at u;rw[lZ] at A;cases A;rw[aNd] at hy;cases hy;exact aTg E ho O B hi I q u J
 ·exact Snd.none
def pO (tr:Tr):Nat→List TypeId→List Nat
 | 0,_=>[]
 | _+1,[]=>[]
 | f+1,t::ts=>match tr.get t with
  | some i=>match i.k with
   | .sl e=>match tr.get e with
    | some ei=>(ei.size+1)::pO tr f ts
    | none=>0::pO tr f ts
   | .st fs=>pO tr f (fs.map (·.2)++ts)
   | _=>0::pO tr f ts
  | none=>0::pO tr f ts
def nrm:List Nat→List C→List C
 | _,[]=>[]
 | [],cs=>cs
 | 0::es,c::cs=>c::nrm es cs
 | (e+1)::es,c::cs=>(match c with | .nl=>.sl e [] | c=>c)::nrm es cs
theorem nJ {h:cF}:∀(es:List Nat) (cs:List C),PureL h [] (cs.map R.c) (nrm es cs)
 | es,[]=>by cases es<;>exact .nil
 | [],c::cs=>.of_pure
 | 0::es,c::cs=>.c .refl (nJ es cs)
 | (e+1)::es,c::cs=>by
  simp only[nrm,Ar];split
  ·exact .c .nl (nJ es cs)
  ·exact .c .refl (nJ es cs)
def aIk:List Nat→List C→Option (List C)
 | _,[]=>some []
 | [],cs=>frc cs
 | 0::es,c::cs=>(aIk es cs).bind fun l=>some (c::l)
 | (e+1)::es,c::cs=>match c with
  | .nl=>(aIk es cs).bind fun l=>some (.sl e []::l)
  | c=>(aIk es cs).bind fun l=>some (c::l)
theorem tN:∀(es:List Nat) (cs:List C),aIk es cs=some (nrm es cs)
 | es,[]=>by cases es with
  | nil=>simp[aIk,nrm]
  | cons e es=>cases e<;>simp[aIk,nrm]
 | [],c::cs=>by simp[aIk,nrm,lZ]
 | 0::es,c::cs=>by simp[aIk,nrm,tN es cs]
 | (e+1)::es,c::cs=>by
  simp only[aIk,nrm,tN es cs,Ck];split<;>rfl
def aJg (st:St) (tys:List Nat) (es:Nat):Nat→List (Nat×Operand)→Option (List (List C))
 | _,[]=>some []
 | k,(i,x)::ps=>bif Nat.beq i k then(opO st x).bind fun v=>(rL v).bind fun rs=>(jU rs).bind fun cs=>bif Nat.beq rs.length es then(aIk tys cs).bind fun cs=>(aJg st tys es (k+1) ps).bind fun l=>some (cs::l) else none else none
theorem aEb {st:St}{q:List Nat}{es:Nat}:∀{ps:List (Nat×Operand)}{k:Nat}{l:List (List C)},aJg st q es k ps=some l→RowsV st es k [] ps l
 | [],k,l,h=>by simp[aJg] at h;subst h;exact .nil
 | (i,x)::ps,k,l,h=>by
  simp only[aJg] at h;obtain⟨h0,h⟩:=dX h;have:=τ h0;subst this;rw[Ae] at h;obtain⟨v,hv,h⟩:=h;rw[Ae] at h;obtain⟨rs,y,h⟩:=h;rw[Ae] at h;obtain⟨cs,A,h⟩:=h;obtain⟨hl,h⟩:=dX h;rw[Ae] at h;obtain⟨cs',u,h⟩:=h;rw[tN] at u;cases u;rw[Ae] at h;obtain⟨E,B,h⟩:=h;cases h;rw[cB] at hv;rw[jM] at y;have hp:PureL st.h [] rs (nrm q cs):=by rw[pA A];exact nJ q cs
  exact .cons (ids:=[]) hv y hp hl (aEb B)
def aMq (tr:Tr) (o:Oper) (n:Nat) (st:St) (ob:List Prop) (hn:Hn) (id:Nat) (t:TypeId) (len:Nat) (parts:Array (Nat×Operand)):Ans:=(tr.get t).bind fun i=>match i.k with
 | .sl e=>(tr.get e).bind fun ei=>bif Nat.beq len parts.size&&(Nat.ble (len*ei.size) 16777216&&Nat.ble len 16777216) then(match st.h id with
  | none=>match aJg st (pO tr 300 [e]) ei.size 0 parts.toList with
   | some rows=>match hn with
    | .all=>val o n ⟨gD parts.toList,[id]⟩ (.one (.c (.sl ei.size rows))) [(id,some (.arr e ei.size rows 2))] ob
    | _=>val o n ⟨gD parts.toList,[id]⟩ (.one (.hs id 0 len len)) [(id,some (.arr e ei.size rows 0))] ob
   | none=>(wJ st ei.size 0 parts.toList).bind fun rows=>val o n ⟨gD parts.toList,[id]⟩ (.one (.ra id 0 len len)) [(id,some (.rarr e ei.size rows))] ob
  | some _=>none) else none
 | _=>none
theorem aH9 {hn:Hn}{id:Nat}{t:TypeId}{len:Nat}{parts:Array (Nat×Operand)}(hw:tr.wf=true) (E:Tok P tr.flat) (ho:o.op=.buildSlice t len parts):Snd P n o st ob (aMq tr o n st ob hn id t len parts):=by
 refine Snd.bind fun i hi=>?_
 replace hi:=Tr.get_ok hw hi
 split
 ·rename_i e I;refine Snd.bind fun J q=>Snd.cond fun hb=>?_
  replace q:=Tr.get_ok hw q
  simp only[π] at hb;split
  ·rename_i hid;split
   ·rename_i rows A;have B:=aEb A;split
    ·exact Snd.val fun _ y u hc=>⟨hc,aOj id E ho y u hi I q B hb.1 hb.2.1 hb.2.2 hid⟩
    ·exact Snd.val fun _ y u hc=>⟨hc,aJm id E ho y u hi I q B hb.1 hb.2.1 hb.2.2 hid⟩
   ·exact Snd.bind fun rows B=>Snd.val fun _ y u hc=>⟨hc,aOi id E ho y u hi I q B hb.1 hb.2.1 hb.2.2 hid⟩
  ·exact Snd.none
 ·exact Snd.none
def aMy (o:Oper) (n:Nat) (st:St) (ob:List Prop) (f:Fn) (first caps:Array Operand):Ans:=match f with
 | .func f=>match first.toList with
  | []=>(aPr st caps.toList).bind fun l=>val o n ⟨c7 caps.toList,[]⟩ (.one (.clo f l)) [] ob
  | [x]=>match caps.toList with
   | []=>(opO st x).bind fun v=>match v with
    | .one c=>val o n ⟨opr x,[]⟩ (.one (.mth f c)) [] ob
    | _=>none
   | _=>none
  | _=>none
 | _=>none
theorem toList_nil {α:Type}{a:Array α}(h:a.toList=[]):a= #[]:=by
 cases a;simp at h;simp[h]
theorem aGw {α:Type}{a:Array α}{x:α}(h:a.toList=[x]):a= #[x]:=by
 cases a;simp at h;simp[h]
theorem aMx {f:Fn}{first caps:Array Operand}(ho:o.op=.makeFunc f first caps):Snd P n o st ob (aMy o n st ob f first caps):=by
 unfold aMy;split
 ·rename_i f;split
  ·rename_i h1;have:=toList_nil h1;subst this;refine Snd.bind fun l hl=>Snd.val fun _ u q hc=>⟨hc,vD ho u q (by rw[←aFx];exact hl)⟩
  ·rename_i x h1;have:=aGw h1;subst this;split
   ·rename_i h2;have:=toList_nil h2;subst this;refine Snd.bind fun v hv=>?_
    split
    ·exact Snd.val fun _ u q hc=>⟨hc,zL ho u q (by rw[←cB];exact hv)⟩
    ·exact Snd.none
   ·exact Snd.none
  ·exact Snd.none
 ·exact Snd.none
def aWz (st:St) (m:Nat):Option Operand→Option Nat
 | none=>some m
 | some x=>(opO st x).bind fun v=>match v with
  | .one (.c (.int _ (.ofNat k)))=>some k
  | _=>none
theorem n6 {m k:Nat}{x:Option Operand}(h:aWz st m x=some k):BndV st x m k:=by
 cases x with
 | none=>cases h;exact .no
 | some x=>
  simp only[aWz,Ae,cB] at h;obtain⟨v,hv,h⟩:=h;split at h
  ·cases h;exact .yes hv
  ·cases h
def a07 {α:Type}(l:List α) (lo hi:Nat) (low high:Option Operand):Option (List α):=match low,high with
 | none,none=>some l
 | none,some _=>some (l.take hi)
 | some _,none=>some (l.drop lo)
 | some _,some _=>some ((l.take hi).drop lo)
theorem aLm {α:Type}{l r:List α}{lo hi:Nat}{low high:Option Operand}(h1:BndV st low 0 lo) (h2:BndV st high l.length hi) (h:a07 l lo hi low high=some r):r=(l.take hi).drop lo:=by
 cases h1<;>cases h2<;>simp[a07] at h<;>simp[h]
def aV7 (tr:Tr) (md:Bool) (o:Oper) (n:Nat) (st:St) (ob:List Prop) (t:TypeId) (x:Operand) (low high mx:Option Operand):Ans:=match mx with
 | some _=>none
 | none=>(tr.get t).bind fun i=>(opO st x).bind fun v=>match i.k with
  | .sl e=>(tr.get e).bind fun ei=>match v with
   | .one (.c (.sl es l))=>bif Nat.beq ei.size es then(aWz st 0 low).bind fun lo=>(aWz st l.length high).bind fun hi=>(need md (lo≤hi) ob).bind fun ob1=>(need md (hi≤l.length) ob1).bind fun ob2=>
     (a07 l lo hi low high).bind fun r=>val o n ⟨opr x++aQi low++aQi high,[]⟩ (.one (.c (.sl es r))) [] ob2 else none
   | _=>none
  | .str=>match v with
   | .one (.c (.str s))=>(aWz st 0 low).bind fun lo=>(aWz st s.length high).bind fun hi=>(need md (lo≤hi) ob).bind fun ob1=>(need md (hi≤s.length) ob1).bind fun ob2=>
     (a07 s lo hi low high).bind fun r=>val o n ⟨opr x++aQi low++aQi high,[]⟩ (.one (.c (.str r))) [] ob2
   | _=>none
  | _=>none
theorem aQr {t:TypeId}{x:Operand}{low high M:Option Operand}(hw:tr.wf=true) (O:Tok P tr.flat) (ho:o.op=.slice t x low high M):Snd P n o st ob (aV7 tr md o n st ob t x low high M):=by
 unfold aV7;split
 ·exact Snd.none
 ·refine Snd.bind fun i y=>Snd.bind fun v hv=>?_
  replace y:=Tr.get_ok hw y
  rw[cB] at hv;split
  ·rename_i e E;refine Snd.bind fun ei A=>?_
   replace A:=Tr.get_ok hw A
   split
   ·rename_i es l;refine Snd.cond fun U=>Snd.bind fun lo q=>Snd.bind fun hi u=>Snd.bind fun Y h1=>Snd.bind fun aa h2=>Snd.bind fun r I=>Snd.val fun _ J B hc=>?_
    obtain⟨g1,g2⟩:=aX h2 hc;obtain⟨g3,g4⟩:=aX h1 g1;rw[aLm (n6 q) (n6 u) I];exact⟨g3,a16 O ho J B y E A (τ U) hv (n6 q) (n6 u) g4 g2⟩
   ·exact Snd.none
  ·rename_i E;split
   ·rename_i s;refine Snd.bind fun lo q=>Snd.bind fun hi u=>Snd.bind fun Y h1=>Snd.bind fun aa h2=>Snd.bind fun r I=>Snd.val fun _ J B hc=>?_
    obtain⟨g1,g2⟩:=aX h2 hc;obtain⟨g3,g4⟩:=aX h1 g1;rw[aLm (n6 q) (n6 u) I];exact⟨g3,aXq O ho J B y E hv (n6 q) (n6 u) g4 g2⟩
   ·exact Snd.none
  ·exact Snd.none
def aMw (tr:Tr) (o:Oper) (n:Nat) (st:St) (ob:List Prop) (hn:Hn) (t:TypeId) (x y:Operand):Ans:=(tr.get t).bind fun i=>match i.k with
 | .str=>(opO st x).bind fun v=>(opO st y).bind fun u=>match v,u with
  | .one (.c (.str s)),.one (.c (.int _ m))=>match hn with
   | .byte k b=>val o n ⟨opr x++opr y,[]⟩ (.one (.c (.int .u8 ((b.toNat:Nat):Int)))) [] ((m=(k:Int)∧s[k]?=some b)::ob)
   | _=>match m with
    | .ofNat k=>(s[k]?).bind fun b=>val o n ⟨opr x++opr y,[]⟩ (.one (.c (.int .u8 ((b.toNat:Nat):Int)))) [] ob
    | _=>none
  | _,_=>none
 | _=>none
theorem aIa {hn:Hn}{t:TypeId}{x y:Operand}(hw:tr.wf=true) (B:Tok P tr.flat) (ho:o.op=.index t x y):Snd P n o st ob (aMw tr o n st ob hn t x y):=by
 refine Snd.bind fun i hi=>?_
 replace hi:=Tr.get_ok hw hi
 split
 ·rename_i E;refine Snd.bind fun v hv=>Snd.bind fun u hu=>?_
  rw[cB] at hv hu;split
  ·split
   ·exact Snd.val fun _ A q hc=>⟨hc.2,aRe B ho A q hi E hv hu hc.1.1 hc.1.2⟩
   ·split
    ·exact Snd.bind fun b hb=>Snd.val fun _ A q hc=>⟨hc,aRe B ho A q hi E hv hu rfl hb⟩
    ·exact Snd.none
  ·exact Snd.none
 ·exact Snd.none
def aKh:List (List C)→Bool
 | []=>true
 | (.str _::_)::r=>aKh r
 | _::_=>false
theorem zY:∀l:List (List C),aKh l=true↔mT l
 | []=>by simp[aKh,mT]
 | []::r=>by simp[aKh,mT]
 | (c::vs)::r=>by
  cases c<;>simp[aKh,mT];exact zY r
instance (l:List (List C)):Decidable (mT l):=decidable_of_iff _ (zY l)
def aPi (st:St) (agg:Bool):V→Option (List Nat×List (List C))
 | .one (.mr id)=>match st.h id with
  | some (.map a ents)=>bif a==agg then some ([id],ents) else none
  | _=>none
 | .one (.c (.mp a ents))=>bif a==agg then some ([],ents) else none
 | .one (.c (.zv 0))=>some ([],[])
 | _=>none
theorem xT {st:St}{agg:Bool}{v:V}{ids:List Nat}{ents:List (List C)}(h:aPi st agg v=some (ids,ents)):MapE st ids v agg ents:=by
 unfold aPi at h;split at h
 ·split at h
  ·rename_i hh;obtain⟨h1,h2⟩:=dX h;cases h2;exact .mr (by rw[hh,eq_of_beq h1])
  ·cases h
 ·obtain⟨h1,h2⟩:=dX h;cases h2;rw[eq_of_beq h1];exact .mp
 ·cases h;exact .nil
 ·cases h
def aUe (md:Bool) (hn:Hn) (k:List UInt8) (ents:List (List C)) (ob:List Prop):Option (Option (List C)×List Prop):=match hn with
 | .look r=>some (r,(lM k ents=r)::ob)
 | _=>bif md then some (lM k ents,ob) else match lM k ents with
  | some r=>some (some r,ob)
  | none=>some (none,ob)
theorem aFe {md:Bool}{hn:Hn}{k:List UInt8}{ents:List (List C)}{ob q:List Prop}{r:Option (List C)}(h:aUe md hn k ents ob=some (r,q)):iX q→iX ob∧lM k ents=r:=by
 unfold aUe at h;split at h
 ·cases h;exact fun h=>⟨h.2,h.1⟩
 ·cases md
  ·simp only[Bq] at h;split at h
   ·rename_i h1;cases h;exact fun h=>⟨h,h1⟩
   ·rename_i h1;cases h;exact fun h=>⟨h,h1⟩
  ·cases h;exact fun h=>⟨h,rfl⟩
def aBv (tr:Tr) (md:Bool) (o:Oper) (n:Nat) (st:St) (ob:List Prop) (hn:Hn) (t:TypeId) (x y:Operand) (ok:Bool):Ans:=(tr.get t).bind fun i=>match i.k with
 | .mp kt et=>(tr.get kt).bind fun ki=>(tr.get et).bind fun ei=>match ki.k with
  | .str=>(opO st x).bind fun v=>(aPi st ei.k.agg v).bind fun(ids,ents)=>(opO st y).bind fun u=>match u with
   | .one (.c (.str k))=>(need md (mT ents) ob).bind fun ob1=>(aUe md hn k ents ob1).bind fun(r,ob2)=>match ok with
    | true=>val o n ⟨opr x++opr y,ids⟩ (.tup [rV ei r,.one (.c (.bool (aKn r)))]) [] ob2
    | false=>val o n ⟨opr x++opr y,ids⟩ (rV ei r) [] ob2
   | _=>none
  | _=>none
 | _=>none
theorem aBu {hn:Hn}{t:TypeId}{x y:Operand}{ok:Bool}(hw:tr.wf=true) (J:Tok P tr.flat) (ho:o.op=.lookup t x y ok):Snd P n o st ob (aBv tr md o n st ob hn t x y ok):=by
 refine Snd.bind fun i hi=>?_
 replace hi:=Tr.get_ok hw hi
 split
 ·rename_i Y et M;refine Snd.bind fun ki q=>Snd.bind fun ei A=>?_
  replace q:=Tr.get_ok hw q
  replace A:=Tr.get_ok hw A
  split
  ·rename_i E;refine Snd.bind fun v hv=>Snd.bind fun p hp=>?_
   obtain⟨ids,ents⟩:=p;refine Snd.bind fun u hu=>?_
   rw[cB] at hv hu;split
   ·rename_i k;refine Snd.bind fun O h1=>Snd.bind fun p h2=>?_
    obtain⟨r,U⟩:=p;dsimp only;split
    ·refine Snd.val fun _ I B hc=>?_
     obtain⟨g1,g2⟩:=aFe h2 hc;obtain⟨g3,g4⟩:=aX h1 g1;have:=wP J ho I B hi M q E A rfl hv (xT hp) g4 hu g2;exact⟨g3,by simpa using this⟩
    ·refine Snd.val fun _ I B hc=>?_
     obtain⟨g1,g2⟩:=aFe h2 hc;obtain⟨g3,g4⟩:=aX h1 g1;have:=wP J ho I B hi M q E A rfl hv (xT hp) g4 hu g2;exact⟨g3,by simpa using this⟩
   ·exact Snd.none
  ·exact Snd.none
 ·exact Snd.none
def aBt (tr:Tr) (md:Bool) (o:Oper) (n:Nat) (st:St) (ob:List Prop) (w:V) (t:TypeId) (x y:Operand):Ans:=(tr.get t).bind fun i=>match i.k with
 | .mp kt et=>(tr.get kt).bind fun ki=>(tr.get et).bind fun ei=>match ki.k with
  | .str=>(opO st x).bind fun v=>(aPi st ei.k.agg v).bind fun(ids,ents)=>(opO st y).bind fun u=>match u with
   | .one (.c (.str k))=>(need md (mT ents) ob).bind fun ob1=>val o n ⟨opr x++opr y,ids⟩ w [] ((rV ei (lM k ents)=w)::ob1)
   | _=>none
  | _=>none
 | _=>none
theorem aBs {w:V}{t:TypeId}{x y:Operand}(hw:tr.wf=true) (I:Tok P tr.flat) (ho:o.op=.lookup t x y false):Snd P n o st ob (aBt tr md o n st ob w t x y):=by
 refine Snd.bind fun i hi=>?_
 replace hi:=Tr.get_ok hw hi
 split
 ·rename_i U Y J;refine Snd.bind fun ki q=>Snd.bind fun ei A=>?_
  replace q:=Tr.get_ok hw q
  replace A:=Tr.get_ok hw A
  split
  ·rename_i B;refine Snd.bind fun v hv=>Snd.bind fun p hp=>?_
   obtain⟨ids,ents⟩:=p;refine Snd.bind fun u hu=>?_
   rw[cB] at hv hu;split
   ·rename_i k;refine Snd.bind fun O h1=>Snd.val fun _ M E hc=>?_
    obtain⟨g3,g4⟩:=aX h1 hc.2;have:=wP I ho M E hi J q B A rfl hv (xT hp) g4 hu rfl;refine⟨g3,?_⟩;rw[←hc.1];simpa using this
   ·exact Snd.none
  ·exact Snd.none
 ·exact Snd.none
def yE (tr:Tr) (md:Bool) (o:Oper) (n:Nat) (st:St) (ob:List Prop) (hn:Hn) (t:TypeId) (x y:Operand) (ok:Bool):Ans:=match ok,hn with
 | false,.pc w=>aBt tr md o n st ob w t x y
 | ok,hn=>aBv tr md o n st ob hn t x y ok
theorem aDi {hn:Hn}{t:TypeId}{x y:Operand}{ok:Bool}(hw:tr.wf=true) (q:Tok P tr.flat) (ho:o.op=.lookup t x y ok):Snd P n o st ob (yE tr md o n st ob hn t x y ok):=by
 unfold yE;split
 ·exact aBs hw q ho
 ·exact aBu hw q ho
def aYf (md:Bool) (k:List UInt8) (cs:List C) (ents:List (List C)):Option (List (List C)):=bif md then some (aHj k cs ents) else frc (aHj k cs ents)
theorem aEv (md:Bool) (k:List UInt8) (cs:List C) (ents:List (List C)):aYf md k cs ents=some (aHj k cs ents):=by
 cases md
 ·exact lZ _
 ·rfl
def lT (tr:Tr) (md:Bool) (o:Oper) (st:St) (ob:List Prop) (t:TypeId) (x y z:Operand):Ans:=(tr.get t).bind fun i=>match i.k with
 | .mp kt _=>(tr.get kt).bind fun ki=>match ki.k with
  | .str=>(opO st x).bind fun v=>match v with
   | .one (.mr id)=>match st.h id with
    | some (.map agg ents)=>(opO st y).bind fun u=>match u with
     | .one (.c (.str k))=>(opO st z).bind fun v=>bif (match v with | .one _=>!agg | .pa _=>agg | .ma _=>agg | _=>false) then(rL v).bind fun rs=>
      (need md (mT ents) ob).bind fun ob1=>(aYf md k (aX4 rs) ents).bind fun e'=>eff o ⟨opr x++opr y++opr z,[id]⟩ [(id,some (.map agg e'))] ob1 else none
     | _=>none
    | _=>none
   | _=>none
  | _=>none
 | _=>none
theorem uY {t:TypeId}{x y z:Operand}(hw:tr.wf=true) (J:Tok P tr.flat) (ho:o.op=.mapUpdate t x y z):Snd P n o st ob (lT tr md o st ob t x y z):=by
 refine Snd.bind fun i hi=>?_
 replace hi:=Tr.get_ok hw hi
 split
 ·rename_i Y et M;refine Snd.bind fun ki q=>?_
  replace q:=Tr.get_ok hw q
  split
  ·rename_i B;refine Snd.bind fun v hv=>?_
   rw[cB] at hv;split
   ·rename_i id;split
    ·rename_i agg ents hh;refine Snd.bind fun u hu=>?_
     rw[cB] at hu;split
     ·rename_i k;refine Snd.bind fun z E=>Snd.cond fun I=>Snd.bind fun rs A=>Snd.bind fun U h1=>Snd.bind fun e' he=>Snd.eff fun O hc=>?_
      rw[cB] at E;rw[jM] at A;rw[aEv] at he;cases he;obtain⟨g1,g2⟩:=aX h1 hc;exact⟨g1,aCg (ids:=[]) J ho O hi M q B hv hh g2 hu E (by cases z<;>first | rfl | exact I) A .ofA⟩
     ·exact Snd.none
    ·exact Snd.none
   ·exact Snd.none
  ·exact Snd.none
 ·exact Snd.none
theorem aDj {t:TypeId}{x y z:Operand}(hw:tr.wf=true) (J:Tok P tr.flat) (ho:o.op=.insert t x y z):Snd P n o st ob (lT tr md o st ob t x y z):=by
 refine Snd.bind fun i hi=>?_
 replace hi:=Tr.get_ok hw hi
 split
 ·rename_i Y et M;refine Snd.bind fun ki q=>?_
  replace q:=Tr.get_ok hw q
  split
  ·rename_i B;refine Snd.bind fun v hv=>?_
   rw[cB] at hv;split
   ·rename_i id;split
    ·rename_i agg ents hh;refine Snd.bind fun u hu=>?_
     rw[cB] at hu;split
     ·rename_i k;refine Snd.bind fun z E=>Snd.cond fun I=>Snd.bind fun rs A=>Snd.bind fun U h1=>Snd.bind fun e' he=>Snd.eff fun O hc=>?_
      rw[cB] at E;rw[jM] at A;rw[aEv] at he;cases he;obtain⟨g1,g2⟩:=aX h1 hc;exact⟨g1,aOq (ids:=[]) J ho O hi M q B hv hh g2 hu E (by cases z<;>first | rfl | exact I) A .ofA⟩
     ·exact Snd.none
    ·exact Snd.none
   ·exact Snd.none
  ·exact Snd.none
 ·exact Snd.none
end
section
variable {QP:Value→Prop}{P:Program}{n:Nat}{o:Oper}{st:St}{ob:List Prop}{tr:Tr}{md nat:Bool}
def arith (md nat:Bool) (op:BinOp) (a b:Int) (ob:List Prop):Option (Int×List Prop):=match op with
 | .add=>bif nat then(match a,b with | .ofNat x,.ofNat y=>(need md (x+y≤9223372036854775807) ob).bind fun ob1=>some (((x+y:Nat):Int),ob1) | _,_=>none)
  else(need md (-9223372036854775808≤a+b∧a+b≤9223372036854775807) ob).bind fun ob1=>some (a+b,ob1)
 | .sub=>bif nat then(match a,b with | .ofNat x,.ofNat y=>(need md (y≤x∧x≤9223372036854775807) ob).bind fun ob1=>some (((x-y:Nat):Int),ob1) | _,_=>none)
  else(need md (-9223372036854775808≤a-b∧a-b≤9223372036854775807) ob).bind fun ob1=>some (a-b,ob1)
 | .mul=>bif nat then(match a,b with | .ofNat x,.ofNat y=>(need md (x*y≤9223372036854775807) ob).bind fun ob1=>some (((x*y:Nat):Int),ob1) | _,_=>none)
  else(need md (-9223372036854775808≤a*b∧a*b≤9223372036854775807) ob).bind fun ob1=>some (a*b,ob1)
 | .quo=>bif nat then(match a,b with | .ofNat x,.ofNat y=>(need md (x≤9223372036854775807∧1≤y) ob).bind fun ob1=>some (((x/y:Nat):Int),ob1) | _,_=>none)
  else(need md (0≤a∧a≤9223372036854775807∧1≤b) ob).bind fun ob1=>some (a/b,ob1)
 | .rem=>bif nat then(match a,b with | .ofNat x,.ofNat y=>(need md (1≤y) ob).bind fun ob1=>some (((x%y:Nat):Int),ob1) | _,_=>none)
  else(need md (0≤a∧1≤b) ob).bind fun ob1=>some (a%b,ob1)
 | _=>none
theorem uX {α:Type}{q:List Prop}{x:Option (List Prop)}{r r':α}(h:(x.bind fun u=>some (r,u))=some (r',q)):x=some q∧r'=r:=by
 rw[Ae] at h;obtain⟨u,h1,h2⟩:=h;cases h2;exact⟨h1,rfl⟩
theorem aQv {op:BinOp}{B ty:TypeId}{x y:Operand}{d:Nat}{a b r:Int}{A:List Prop}(ho:o.op=.binOp op B x y ty) (u:o.dst=some d) (q:d<n) (hx:opv st x=some (I .i64 a)) (hy:opv st y=some (I .i64 b)) (h:arith md nat op a b ob=some (r,A)):
  iX A→iX ob∧Step P n o st ⟨opr x++opr y,[]⟩ ⟨some (d,some (I .i64 r)),[]⟩:=by
 intro hc;unfold arith at h;cases nat<;>cases op<;>simp only[B1,Bq] at h<;>try (cases h;done)
 ·obtain⟨h1,rfl⟩:=uX h;obtain⟨g,k⟩:=aX h1 hc;exact⟨g,aX3 ho u q hx hy k⟩
 ·obtain⟨h1,rfl⟩:=uX h;obtain⟨g,k⟩:=aX h1 hc;exact⟨g,aXm ho u q hx hy k⟩
 ·obtain⟨h1,rfl⟩:=uX h;obtain⟨g,k⟩:=aX h1 hc;exact⟨g,aXx ho u q hx hy k⟩
 ·obtain⟨h1,rfl⟩:=uX h;obtain⟨g,k⟩:=aX h1 hc;exact⟨g,aRg ho u q hx hy k⟩
 ·obtain⟨h1,rfl⟩:=uX h;obtain⟨g,k⟩:=aX h1 hc;exact⟨g,aRf ho u q hx hy k⟩
 all_goals cases a<;>cases b<;>simp only at h<;>try (cases h;done)
 ·obtain⟨h1,rfl⟩:=uX h;obtain⟨g,k⟩:=aX h1 hc;exact⟨g,aX2 ho u q hx hy k⟩
 ·obtain⟨h1,rfl⟩:=uX h;obtain⟨g,k⟩:=aX h1 hc;exact⟨g,aXl ho u q hx hy k⟩
 ·obtain⟨h1,rfl⟩:=uX h;obtain⟨g,k⟩:=aX h1 hc;exact⟨g,aXw ho u q hx hy k⟩
 ·obtain⟨h1,rfl⟩:=uX h;obtain⟨g,k⟩:=aX h1 hc;exact⟨g,aXt ho u q hx hy k⟩
 ·obtain⟨h1,rfl⟩:=uX h;obtain⟨g,k⟩:=aX h1 hc;exact⟨g,aXs ho u q hx hy k⟩
def a2v (op:BinOp) (a b:Int):Option Bool:=match op with
 | .lss=>some (decide (a<b))
 | .leq=>some (decide (a≤b))
 | .gtr=>some (decide (b<a))
 | .geq=>some (decide (b≤a))
 | .eql=>some (decide (a=b))
 | .neq=>some (!decide (a=b))
 | _=>none
theorem aUw {op:BinOp}{A ty:TypeId}{x y:Operand}{d:Nat}{k:IntKind}{a b:Int}{r:Bool}(ho:o.op=.binOp op A x y ty) (u:o.dst=some d) (q:d<n) (hx:opv st x=some (I k a)) (hy:opv st y=some (I k b)) (h:a2v op a b=some r):
  Step P n o st ⟨opr x++opr y,[]⟩ ⟨some (d,some (B r)),[]⟩:=by
 unfold a2v at h;cases op<;>simp only at h<;>try (cases h;done)
 ·cases h;exact a15 ho u q hx hy
 ·cases h;exact a1x ho u q hx hy
 ·cases h;exact a10 ho u q hx hy
 ·cases h;exact a11 ho u q hx hy
 ·cases h;exact a13 ho u q hx hy
 ·cases h;exact a14 ho u q hx hy
def aSr (op:BinOp) (k:IntKind) (a b:Int):Option Int:=match op with
 | .add=>some (k.wrap (a+b))
 | .sub=>some (k.wrap (a-b))
 | .mul=>some (k.wrap (a*b))
 | _=>none
theorem aNt {op:BinOp}{A ty:TypeId}{x y:Operand}{d:Nat}{k:IntKind}{a b r:Int}(ho:o.op=.binOp op A x y ty) (u:o.dst=some d) (q:d<n) (hx:opv st x=some (I k a)) (hy:opv st y=some (I k b)) (h:aSr op k a b=some r):
  Step P n o st ⟨opr x++opr y,[]⟩ ⟨some (d,some (I k r)),[]⟩:=by
 unfold aSr at h;cases op<;>simp only at h<;>try (cases h;done)
 ·cases h;exact aTi ho u q hx hy rfl
 ·cases h;exact aS6 ho u q hx hy rfl
 ·cases h;exact aTb ho u q hx hy rfl
def aT7:IntKind→Bool
 | .i64=>true
 | _=>false
def a0m (tr:Tr) (md nat:Bool) (o:Oper) (n:Nat) (st:St) (ob:List Prop) (op:BinOp) (tx:TypeId) (x y:Operand):Ans:=(opO st x).bind fun v=>(opO st y).bind fun u=>match v,u with
 | .one (.c (.int k a)),.one (.c (.int k' b))=>bif decide (k=k') then(match a2v op a b with
   | some r=>val o n ⟨opr x++opr y,[]⟩ (.one (.c (.bool r))) [] ob
   | none=>bif aT7 k then(arith md nat op a b ob).bind fun(r,ob1)=>val o n ⟨opr x++opr y,[]⟩ (.one (.c (.int .i64 r))) [] ob1
    else(aSr op k a b).bind fun r=>val o n ⟨opr x++opr y,[]⟩ (.one (.c (.int k r))) [] ob) else none
 | .one (.c (.str a)),.one (.c (.str b))=>match op with
  | .eql=>val o n ⟨opr x++opr y,[]⟩ (.one (.c (.bool (decide (a=b))))) [] ob
  | .neq=>val o n ⟨opr x++opr y,[]⟩ (.one (.c (.bool (!decide (a=b))))) [] ob
  | .lss=>val o n ⟨opr x++opr y,[]⟩ (.one (.c (.bool (Op.bytesLess a b)))) [] ob
  | .add=>(need md (a.length+b.length≤maxLen) ob).bind fun ob1=>val o n ⟨opr x++opr y,[]⟩ (.one (.c (.str (a++b)))) [] ob1
  | _=>none
 | .one (.c (.bool a)),.one (.c (.bool b))=>(tr.get tx).bind fun i=>match i.k with
  | .bool=>match op with
   | .eql=>val o n ⟨opr x++opr y,[]⟩ (.one (.c (.bool (a==b)))) [] ob
   | .neq=>val o n ⟨opr x++opr y,[]⟩ (.one (.c (.bool (!(a==b))))) [] ob
   | _=>none
  | _=>none
 | v,.one (.c .np)=>(tr.get tx).bind fun i=>match i.k with
  | .pt _=>(zM v).bind fun b=>match op with
   | .eql=>val o n ⟨opr x++opr y,[]⟩ (.one (.c (.bool b))) [] ob
   | .neq=>val o n ⟨opr x++opr y,[]⟩ (.one (.c (.bool (!b)))) [] ob
   | _=>none
  | _=>none
 | v,.one (.c .nl)=>(tr.get tx).bind fun i=>match i.k with
  | .sl _=>(aN8 v).bind fun b=>match op with
   | .eql=>val o n ⟨opr x++opr y,[]⟩ (.one (.c (.bool b))) [] ob
   | _=>none
  | _=>none
 | _,_=>none
theorem aQt {op:BinOp}{J ty:TypeId}{x y:Operand}(hw:tr.wf=true) (E:Tok P tr.flat) (ho:o.op=.binOp op J x y ty):Snd P n o st ob (a0m tr md nat o n st ob op J x y):=by
 refine Snd.bind fun v hv=>Snd.bind fun u hu=>?_
 rw[cB] at hv hu;split
 ·rename_i k a k' b;refine Snd.cond fun B=>?_
  have M:=κ B;subst M;split
  ·rename_i r I;exact Snd.val fun _ A q hc=>⟨hc,aUw ho A q hv hu I⟩
  ·cases hi:aT7 k with
   | true=>
    simp only[B1];cases k<;>simp only[aT7] at hi<;>try (cases hi;done)
    refine Snd.bind fun p hp=>?_
    obtain⟨r,O⟩:=p;exact Snd.val fun _ A q hc=>aQv ho A q hv hu hp hc
   | false=>
    simp only[Bq];exact Snd.bind fun r I=>Snd.val fun _ A q hc=>⟨hc,aNt ho A q hv hu I⟩
 ·split
  ·exact Snd.val fun _ A q hc=>⟨hc,aXp ho A q hv hu⟩
  ·exact Snd.val fun _ A q hc=>⟨hc,aXn ho A q hv hu⟩
  ·exact Snd.val fun _ A q hc=>⟨hc,aXo ho A q hv hu⟩
  ·exact Snd.bind fun O h1=>Snd.val fun _ A q hc=>⟨(aX h1 hc).1,aXr ho A q hv hu (aX h1 hc).2⟩
  ·exact Snd.none
 ·refine Snd.bind fun i hi=>?_
  replace hi:=Tr.get_ok hw hi
  split
  ·rename_i B;split
   ·exact Snd.val fun _ A q hc=>⟨hc,aX1 E ho A q hi B hv hu⟩
   ·exact Snd.val fun _ A q hc=>⟨hc,aX0 E ho A q hi B hv hu⟩
   ·exact Snd.none
  ·exact Snd.none
 ·refine Snd.bind fun i hi=>?_
  replace hi:=Tr.get_ok hw hi
  split
  ·rename_i B;refine Snd.bind fun b hb=>?_
   split
   ·exact Snd.val fun _ A q hc=>⟨hc,aXv E ho A q hi B hv hb hu⟩
   ·exact Snd.val fun _ A q hc=>⟨hc,aXu E ho A q hi B hv hb hu⟩
   ·exact Snd.none
  ·exact Snd.none
 ·refine Snd.bind fun i hi=>?_
  replace hi:=Tr.get_ok hw hi
  split
  ·rename_i B;refine Snd.bind fun b hb=>?_
   split
   ·exact Snd.val fun _ A q hc=>⟨hc,aTa E ho A q hi B hv hb hu⟩
   ·exact Snd.none
  ·exact Snd.none
 ·exact Snd.none
def a3t (md:Bool) (o:Oper) (n:Nat) (st:St) (ob:List Prop) (op:UnOp) (x:Operand):Ans:=(opO st x).bind fun v=>match v with
 | .one (.c (.bool b))=>match op with
  | .not=>val o n ⟨opr x,[]⟩ (.one (.c (.bool (!b)))) [] ob
  | _=>none
 | .one (.c (.int .i64 a))=>match op with
  | .neg=>(need md (-9223372036854775808≤0-a∧0-a≤9223372036854775807) ob).bind fun ob1=>val o n ⟨opr x,[]⟩ (.one (.c (.int .i64 (0-a)))) [] ob1
  | _=>none
 | _=>none
theorem aV4 {op:UnOp}{t:TypeId}{x:Operand}(ho:o.op=.unOp op t x):Snd P n o st ob (a3t md o n st ob op x):=by
 refine Snd.bind fun v hv=>?_
 rw[cB] at hv;split
 ·split
  ·exact Snd.val fun _ u q hc=>⟨hc,a1w ho u q hv⟩
  ·exact Snd.none
 ·split
  ·exact Snd.bind fun y h1=>Snd.val fun _ u q hc=>⟨(aX h1 hc).1,a1y ho u q hv (B5 _ (aX h1 hc).2)⟩
  ·exact Snd.none
 ·exact Snd.none
def a0k (tr:Tr) (md:Bool) (o:Oper) (n:Nat) (st:St) (ob:List Prop) (x:Operand) (t:TypeId):Ans:=(tr.get t).bind fun i=>(opO st x).bind fun v=>match i.k with
 | .sl _=>match v with
  | .one (.c (.sl _ l))=>val o n ⟨opr x,[]⟩ (.one (.c (.int .i64 ((l.length:Nat):Int)))) [] ob
  | .one (.c .nl)=>val o n ⟨opr x,[]⟩ (.one (.c (.int .i64 0))) [] ob
  | .one (.ras n' _ _)=>val o n ⟨opr x,[]⟩ (.one (.c (.int .i64 ((n':Nat):Int)))) [] ob
  | .one (.hs id _ len sz)=>match st.h id with
   | some (.arr _ _ elems _)=>(need md (sz=elems.length) ob).bind fun ob1=>val o n ⟨opr x,[id]⟩ (.one (.c (.int .i64 ((len:Nat):Int)))) [] ob1
   | _=>none
  | .one (.ra id _ len sz)=>match st.h id with
   | some (.rarr _ _ elems)=>(need md (sz=elems.length) ob).bind fun ob1=>val o n ⟨opr x,[id]⟩ (.one (.c (.int .i64 ((len:Nat):Int)))) [] ob1
   | _=>none
  | _=>none
 | .str=>match v with
  | .one (.c (.str s))=>val o n ⟨opr x,[]⟩ (.one (.c (.int .i64 ((s.length:Nat):Int)))) [] ob
  | _=>none
 | .mp _ _=>match v with
  | .one (.mr id)=>match st.h id with
   | some (.map _ ents)=>(need md (mT ents) ob).bind fun ob1=>val o n ⟨opr x,[id]⟩ (.one (.c (.int .i64 ((ents.length:Nat):Int)))) [] ob1
   | _=>none
  | _=>none
 | _=>none
theorem aQp {x:Operand}{t:TypeId}(hw:tr.wf=true) (A:Tok P tr.flat) (ho:o.op=.call { callee:=.builtin .len,args:= #[x],argTypes:= #[t] }):Snd P n o st ob (a0k tr md o n st ob x t):=by
 refine Snd.bind fun i hi=>Snd.bind fun v hv=>?_
 replace hi:=Tr.get_ok hw hi
 rw[cB] at hv;split
 ·rename_i y;split
  ·exact Snd.val fun _ u q hc=>⟨hc,aOm A ho u q hi y hv⟩
  ·exact Snd.val fun _ u q hc=>⟨hc,aOo A ho u q hi y hv⟩
  ·exact Snd.val fun _ u q hc=>⟨hc,aJu A ho u q hi y hv⟩
  ·split
   ·rename_i hh;exact Snd.bind fun B h1=>Snd.val fun _ u q hc=>⟨(aX h1 hc).1,aOp A ho u q hi y hv hh (aX h1 hc).2⟩
   ·exact Snd.none
  ·split
   ·rename_i hh;exact Snd.bind fun B h1=>Snd.val fun _ u q hc=>⟨(aX h1 hc).1,aOn A ho u q hi y hv hh (aX h1 hc).2⟩
   ·exact Snd.none
  ·exact Snd.none
 ·rename_i y;split
  ·exact Snd.val fun _ u q hc=>⟨hc,aJt A ho u q hi y hv⟩
  ·exact Snd.none
 ·rename_i y;split
  ·split
   ·rename_i hh;exact Snd.bind fun B h1=>Snd.val fun _ u q hc=>⟨(aX h1 hc).1,aJv A ho u q hi y hv hh (aX h1 hc).2⟩
   ·exact Snd.none
  ·exact Snd.none
 ·exact Snd.none
def a0x (md:Bool) (st:St) (es:Nat) (hn:Hn) (v:V) (ob:List Prop):Option (List Nat×List (List C)×List Prop):=match v with
 | .one (.hs id off len sz)=>match st.h id with
  | some (.arr _ es' elems _)=>bif Nat.beq es' es then(need md (sz=elems.length) ob).bind fun ob1=>(match hn with
   | .all=>some ([id],elems,(off=0∧len=sz)::ob1)
   | .c rows=>some ([id],rows,(rows=(elems.drop off).take len)::ob1)
   | _=>bif Nat.beq off 0&&Nat.beq len sz then some ([id],elems,ob1) else some ([id],(elems.drop off).take len,ob1)) else none
  | _=>none
 | .one (.c (.sl es' l))=>bif Nat.beq es' es then some ([],l,ob) else none
 | .one (.c (.sn es' l))=>bif Nat.beq es' es then some ([],l,ob) else none
 | .one (.c .nl)=>some ([],[],ob)
 | _=>none
theorem wA {es:Nat}{hn:Hn}{v:V}{ids:List Nat}{rows:List (List C)}{q:List Prop}(h:a0x md st es hn v ob=some (ids,rows,q)):iX q→iX ob∧Src st es ids v rows:=by
 intro hc;unfold a0x at h;split at h
 ·rename_i id off len sz;split at h
  ·rename_i te B elems fz hh;obtain⟨h1,h'⟩:=dX h;clear h;have:=τ h1;subst this;rw[Ae] at h';obtain⟨E,h2,h⟩:=h';split at h
   ·cases h;obtain⟨⟨rfl,rfl⟩,hc⟩:=hc;obtain⟨g,k⟩:=aX h2 hc;exact⟨g,.all hh k⟩
   ·cases h;obtain⟨u,hc⟩:=hc;obtain⟨g,k⟩:=aX h2 hc;exact⟨g,.hs hh k u⟩
   ·cases hb:Nat.beq off 0&&Nat.beq len sz with
    | true=>
     rw[hb] at h;cases h;obtain⟨g,k⟩:=aX h2 hc;simp only[π] at hb;have y:=τ hb.1;have A:=τ hb.2;subst y A;exact⟨g,.all hh k⟩
    | false=>
     rw[hb] at h;cases h;obtain⟨g,k⟩:=aX h2 hc;exact⟨g,.hs hh k rfl⟩
  ·cases h
 ·obtain⟨h1,h'⟩:=dX h;clear h;have:=τ h1;subst this;cases h';exact⟨hc,.sl⟩
 ·obtain⟨h1,h'⟩:=dX h;clear h;have:=τ h1;subst this;cases h';exact⟨hc,.sn⟩
 ·cases h;exact⟨hc,.nl⟩
 ·cases h
def aBm:List (List C)→Option (List Int)
 | []=>some []
 | [.int .u8 m]::rs=>(aBm rs).bind fun l=>some (m::l)
 | _=>none
theorem aBl:∀{rows:List (List C)}{q:List Int},aBm rows=some q→rows=q.map fun m=>[C.int .u8 m]
 | [],q,h=>by simp[aBm] at h;subst h;rfl
 | [.int .u8 m]::rs,q,h=>by
  simp only[aBm,Ae] at h;obtain⟨l,h1,h2⟩:=h;cases h2;rw[aBl h1];rfl
def aSg (tr:Tr) (md:Bool) (o:Oper) (n:Nat) (st:St) (ob:List Prop) (hn:Hn) (src dst:TypeId) (x:Operand):Ans:=(tr.get src).bind fun i=>(tr.get dst).bind fun j=>(opO st x).bind fun v=>match j.k with
 | .int k'=>match i.k,v with
  | .int k,.one (.c (.int k2 m))=>bif decide (k2=k) then val o n ⟨opr x,[]⟩ (.one (.c (.int k' (k'.wrap m)))) [] ob else none
  | _,_=>none
 | .str=>match i.k with
  | .sl e=>(tr.get e).bind fun ei=>match ei.k with
   | .int .u8=>(a0x md st 1 hn v ob).bind fun(ids,rows,ob1)=>(aBm rows).bind fun ns=>(frc (ns.map fun m=>UInt8.ofNat m.toNat)).bind fun bs=>val o n ⟨opr x,ids⟩ (.one (.c (.str bs))) [] ob1
   | _=>none
  | _=>none
 | _=>none
theorem aM0 {hn:Hn}{src dst:TypeId}{x:Operand}(hw:tr.wf=true) (I:Tok P tr.flat) (ho:o.op=.convert src dst x):Snd P n o st ob (aSg tr md o n st ob hn src dst x):=by
 refine Snd.bind fun i hi=>Snd.bind fun j hj=>Snd.bind fun v hv=>?_
 replace hi:=Tr.get_ok hw hi
 replace hj:=Tr.get_ok hw hj
 rw[cB] at hv;split
 ·rename_i k' q;split
  ·rename_i k Y m u;refine Snd.cond fun O=>?_
   have:=κ O;subst this;exact Snd.val fun _ E y hc=>⟨hc,aTe I ho E y hi u hj q hv⟩
  ·exact Snd.none
 ·rename_i q;split
  ·rename_i e u;refine Snd.bind fun ei A=>?_
   replace A:=Tr.get_ok hw A
   split
   ·rename_i J;refine Snd.bind fun p hp=>?_
    obtain⟨ids,rows,U⟩:=p;refine Snd.bind fun ns M=>Snd.bind fun bs B=>Snd.val fun _ E y hc=>?_
    rw[lZ] at B;cases B;obtain⟨g1,g2⟩:=wA hp hc;exact⟨g1,aTf I ho E y hi u A J hj q hv g2 (aBl M)⟩
   ·exact Snd.none
  ·exact Snd.none
 ·exact Snd.none
def a3s (md:Bool) (a b:List (List C)):Option (List (List C)):=bif md then some (a++b) else frc (a++b)
theorem aU0 (md:Bool) (a b:List (List C)):a3s md a b=some (a++b):=by
 cases md
 ·exact lZ _
 ·rfl
def aGk (tr:Tr) (md:Bool) (o:Oper) (n:Nat) (st:St) (ob:List Prop) (hn:Hn) (id0:Nat) (x y:Operand) (t:TypeId):Ans:=(tr.get t).bind fun i=>match i.k with
 | .sl e=>(tr.get e).bind fun ei=>match ei with
  | ⟨_,s0,b0,_⟩=>bif Nat.ble 1 s0&&Nat.ble 1 b0 then(opO st x).bind fun v=>(opO st y).bind fun u=>(a0x md st s0 hn u ob).bind fun(ids,rows,ob1)=>(match v with
  | .one (.hs id off len sz)=>match st.h id with
   | some (.arr te es elems fz)=>bif Nat.beq te e&&Nat.beq es s0 then(need md (sz=elems.length) ob1).bind fun ob2=>(need md (off=0∧len=sz) ob2).bind fun ob3=>(need md ((elems.length+rows.length)*b0≤140737488355328) ob3).bind fun ob4=>
     (a3s md elems rows).bind fun l=>match fz with
     | 0=>val o n ⟨opr x++opr y,id::ids⟩ (.one (.hs id 0 (elems.length+rows.length) (elems.length+rows.length))) [(id,some (.arr e s0 l 0))] ob4
     | _+1=>val o n ⟨opr x++opr y,id::ids⟩ (.one (.hs id 0 (elems.length+rows.length) (elems.length+rows.length))) [(id,some (.arr e s0 l 1))] ob4
    else none
   | _=>none
  | .one (.c .nl)=>match st.h id0 with
   | none=>(need md (rows.length*b0≤140737488355328) ob1).bind fun ob2=>val o n ⟨opr x++opr y,id0::ids⟩ (.one (.hs id0 0 rows.length rows.length)) [(id0,some (.arr e s0 rows 0))] ob2
   | some _=>none
  | _=>none) else none
 | _=>none
theorem aDm {hn:Hn}{I:Nat}{x y:Operand}{t:TypeId}(hw:tr.wf=true) (J:Tok P tr.flat) (ho:o.op=.call { callee:=.builtin .append,args:= #[x,y],argTypes:= #[t,t] }):Snd P n o st ob (aGk tr md o n st ob hn I x y t):=by
 refine Snd.bind fun i hi=>?_
 replace hi:=Tr.get_ok hw hi
 split
 ·rename_i e M;refine Snd.bind fun ei q=>?_
  obtain⟨k0,s0,b0,z0⟩:=ei;refine Snd.cond fun hb=>Snd.bind fun v hv=>Snd.bind fun u hu=>Snd.bind fun p hp=>?_
  replace q:=Tr.get_ok hw q
  obtain⟨ids,rows,ob1⟩:=p;simp only[π] at hb;rw[cB] at hv hu;dsimp only;split
  ·rename_i id off len sz;split
   ·rename_i te es elems fz hh;refine Snd.cond fun B=>Snd.bind fun O h2=>Snd.bind fun ob3 U=>Snd.bind fun ob4 Y=>Snd.bind fun l hl=>?_
    simp only[π] at B;have e1:=τ B.1;have e2:=τ B.2;subst e1 e2;rw[aU0] at hl;cases hl;split
    ·refine Snd.val fun _ E A hc=>?_
     obtain⟨g1,g2⟩:=aX Y hc;obtain⟨g3,g4,g5⟩:=aX U g1;obtain⟨g6,g7⟩:=aX h2 g3;obtain⟨g8,g9⟩:=wA hp g6;subst g4 g5;exact⟨g8,aEf J ho E A hi M q hb.1 hb.2 hv hh g7 hu g9 g2⟩
    ·refine Snd.val fun _ E A hc=>?_
     obtain⟨g1,g2⟩:=aX Y hc;obtain⟨g3,g4,g5⟩:=aX U g1;obtain⟨g6,g7⟩:=aX h2 g3;obtain⟨g8,g9⟩:=wA hp g6;subst g4 g5;exact⟨g8,aEf J ho E A hi M q hb.1 hb.2 hv hh g7 hu g9 g2⟩
   ·exact Snd.none
  ·split
   ·rename_i hid;refine Snd.bind fun O h2=>Snd.val fun _ E A hc=>?_
    obtain⟨g1,g2⟩:=aX h2 hc;obtain⟨g3,g4⟩:=wA hp g1;exact⟨g3,aJ2 I J ho E A hi M q hb.1 hb.2 hv hid hu g4 g2⟩
   ·exact Snd.none
  ·exact Snd.none
 ·exact Snd.none
def aBz (tr:Tr) (md:Bool) (o:Oper) (n:Nat) (st:St) (ob:List Prop) (id0:Nat) (x y:Operand) (t:TypeId):Ans:=(tr.get t).bind fun i=>match i.k with
 | .sl e=>(tr.get e).bind fun ei=>match ei with
  | ⟨_,s0,b0,_⟩=>bif Nat.ble 1 s0&&Nat.ble 1 b0 then(opO st x).bind fun v=>(opO st y).bind fun u=>match u with
  | .one (.ra id2 off2 len2 sz2)=>match st.h id2 with
   | some (.rarr _ es2 rows)=>bif Nat.beq es2 s0&&(Nat.beq off2 0&&(Nat.beq len2 rows.length&&(Nat.beq sz2 rows.length&&Nat.blt 0 rows.length))) then(match v with
    | .one (.ra id off len sz)=>match st.h id with
     | some (.rarr te es elems)=>bif Nat.beq te e&&Nat.beq es s0 then(need md (sz=elems.length) ob).bind fun ob2=>(need md (off=0∧len=sz) ob2).bind fun ob3=>(need md ((elems.length+rows.length)*b0≤140737488355328) ob3).bind fun ob4=>
       val o n ⟨opr x++opr y,[id,id2]⟩ (.one (.ra id 0 (elems.length+rows.length) (elems.length+rows.length))) [(id,some (.rarr e s0 (elems++rows)))] ob4 else none
     | _=>none
    | .one (.c .nl)=>match st.h id0 with
     | none=>(need md (rows.length*b0≤140737488355328) ob).bind fun ob2=>val o n ⟨opr x++opr y,[id0,id2]⟩ (.one (.ra id0 0 rows.length rows.length)) [(id0,some (.rarr e s0 rows))] ob2
     | some _=>none
    | _=>none) else none
   | _=>none
  | _=>none
  else none
 | _=>none
theorem aBy {I:Nat}{x y:Operand}{t:TypeId}(hw:tr.wf=true) (hT:Tok P tr.flat) (ho:o.op=.call { callee:=.builtin .append,args:= #[x,y],argTypes:= #[t,t] }):Snd P n o st ob (aBz tr md o n st ob I x y t):=by
 refine Snd.bind fun i hi=>?_
 replace hi:=Tr.get_ok hw hi
 split
 ·rename_i e hk;refine Snd.bind fun ei q=>?_
  obtain⟨k0,s0,b0,z0⟩:=ei;refine Snd.cond fun hb=>Snd.bind fun v hv=>Snd.bind fun u hu=>?_
  replace q:=Tr.get_ok hw q
  simp only[π] at hb;rw[cB] at hv hu;split
  ·rename_i id2 off2 len2 sz2;split
   ·rename_i te2 es2 rows J;refine Snd.cond fun M=>?_
    simp only[π] at M;obtain⟨O,U,Y,c4,E⟩:=M;have O:=τ O;have U:=τ U;have Y:=τ Y;have c4:=τ c4;have E:=kE E;subst O U Y c4;split
    ·rename_i id off len sz;split
     ·rename_i te es elems hh;refine Snd.cond fun A=>Snd.bind fun ob2 h2=>Snd.bind fun ob3 h3=>Snd.bind fun ob4 h4=>Snd.val fun _ hd B hc=>?_
      simp only[π] at A;have e1:=τ A.1;have e2:=τ A.2;subst e1;rw[e2] at hh;obtain⟨g1,g2⟩:=aX h4 hc;obtain⟨g3,g4,g5⟩:=aX h3 g1;obtain⟨g6,g7⟩:=aX h2 g3;subst g4 g5;exact⟨g6,aJ1 hT ho hd B hi hk q hb.1 hb.2 hv hh g7 hu J E g2⟩
     ·exact Snd.none
    ·split
     ·rename_i hid;refine Snd.bind fun ob2 h2=>Snd.val fun _ hd B hc=>?_
      obtain⟨g1,g2⟩:=aX h2 hc;exact⟨g1,aHe I hT ho hd B hi hk q hb.1 hb.2 hv hid hu J E g2⟩
     ·exact Snd.none
    ·exact Snd.none
   ·exact Snd.none
  ·exact Snd.none
 ·exact Snd.none
def a09 (P:Program) (f:FuncId):Bool:=match P.funcs[f]? with
 | some fn => !(fn.name == "runtime.NumGoroutine") && fn.body.isSome
 | none=>false
theorem aMm {P:Program}{f:FuncId}(h:a09 P f=true):jO P f:=by
 unfold a09 at h;split at h
 ·rename_i fn q;simp only[π,Bn] at h;refine⟨fn,q,h.1,?_⟩;cases hb:fn.body with
  | none=>rw[hb] at h;cases h.2
  | some _=>rfl
 ·cases h
def aQ1 (P:Program) (f:FuncId) (args:List V) (res:V):Prop:=a09 P f=true∧aW P f args [] res []
def tF (st:St):List Nat→List R→List Prop→Option (List Nat×List C×List Prop)
 | _,[],ob=>some ([],[],ob)
 | ty,r::rs,ob=>match r with
  | .c x=>(aIk ty [x]).bind fun y=>match y with
   | [y]=>(tF st ty.tail rs ob).bind fun(ids,cs,ob1)=>some (ids,y::cs,ob1)
   | _=>none
  | .hs id 0 len sz=>match st.h id with
   | some (.arr _ es elems 2)=>(tF st ty.tail rs ob).bind fun(ids,cs,ob1)=>some (id::ids,.sl es elems::cs,(sz=elems.length∧len=elems.length)::ob1)
   | _=>none
  | _=>none
theorem pB {st:St}:∀{rs:List R}{ty:List Nat}{ob q:List Prop}{ids:List Nat}{cs:List C},tF st ty rs ob=some (ids,cs,q)→iX q→iX ob∧PureL st.h ids rs cs
 | [],ty,ob,q,ids,cs,h,hc=>by
  cases ty<;>(simp only[tF] at h;cases h;exact⟨hc,.nil⟩)
 | r::rs,ty,ob,q,ids,cs,h,hc=>by
  rw[tF.eq_def] at h;dsimp only at h;split at h
  ·rename_i x;rw[Ae] at h;obtain⟨y,hy,h⟩:=h;split at h
   ·rename_i E;rw[Ae] at h;obtain⟨⟨u,A,B⟩,h1,h2⟩:=h;cases h2;obtain⟨g1,g2⟩:=pB h1 hc;rw[tN] at hy;have hp:=nJ (h:=st.h) ty [x];rw[Option.some.inj hy] at hp;cases hp with
    | c hx _=>exact⟨g1,.c hx g2⟩
    | any _=>exact⟨g1,.any g2⟩
   ·cases h
  ·rename_i id len sz;split at h
   ·rename_i te es elems hh;rw[Ae] at h;obtain⟨⟨u,A,B⟩,h1,h2⟩:=h;cases h2;obtain⟨g1,g2⟩:=pB h1 hc.2;exact⟨g1,.hs hh hc.1.1 (by rw[hc.1.2,B8,Al]) g2⟩
   ·cases h
  ·cases h
def aUs (tr:Tr) (st:St) (v:V) (t:TypeId) (ob:List Prop):Option (List Nat×V×List Prop):=match v with
 | .one r=>(tF st (pO tr 300 [t]) [r] ob).bind fun(ids,cs,ob1)=>match cs with
  | [c]=>some (ids,.one (.c c),ob1)
  | _=>none
 | .pa l=>(aIk (pO tr 300 [t]) l).bind fun l'=>some ([],.pa l',ob)
 | .ma rs=>(tF st (pO tr 300 [t]) rs ob).bind fun(ids,cs,ob1)=>some (ids,.pa cs,ob1)
 | _=>none
theorem aPo {tr:Tr}{st:St}{v v':V}{t:TypeId}{ob q:List Prop}{ids:List Nat}(h:aUs tr st v t ob=some (ids,v',q)) (hc:iX q):(iX ob∧Conv st.h ids v v')∧v'.refs=[]:=by
 unfold aUs at h;split at h
 ·rw[Ae] at h;obtain⟨⟨u,y,A⟩,h1,h2⟩:=h;dsimp only at h2;split at h2
  ·cases h2;obtain⟨g1,g2⟩:=pB h1 hc;exact⟨⟨g1,.one g2⟩,by simp[V.refs,R.refs]⟩
  ·cases h2
 ·rw[Ae] at h;obtain⟨B,h1,h2⟩:=h;cases h2;rw[tN] at h1;cases h1;exact⟨⟨hc,.pa (nJ _ _)⟩,by simp[V.refs]⟩
 ·rw[Ae] at h;obtain⟨⟨u,y,A⟩,h1,h2⟩:=h;cases h2;obtain⟨g1,g2⟩:=pB h1 hc;exact⟨⟨g1,.agg g2⟩,by simp[V.refs]⟩
 ·cases h
def aIg (tr:Tr) (st:St):List Operand→List TypeId→List Prop→Option (List Nat×List V×List Prop)
 | [],_,ob=>some ([],[],ob)
 | x::xs,t::ts,ob=>(opO st x).bind fun v=>(aUs tr st v t ob).bind fun(ids1,v',ob1)=>(aIg tr st xs ts ob1).bind fun(ids2,vs,ob2)=>some (ids1++ids2,v'::vs,ob2)
 | _::_,[],_=>none
theorem aGm {tr:Tr}{st:St}:∀{xs:List Operand}{ts:List TypeId}{ob q:List Prop}{ids:List Nat}{l:List V},aIg tr st xs ts ob=some (ids,l,q)→iX q→(iX ob∧ArgsV st ids xs l)∧V.refsL l=[]
 | [],ts,ob,q,ids,l,h,hc=>by
  cases ts<;>(simp only[aIg] at h;cases h;exact⟨⟨hc,.nil⟩,by simp[V.refsL]⟩)
 | x::xs,[],ob,q,ids,l,h,hc=>by simp[aIg] at h
 | x::xs,t::ts,ob,q,ids,l,h,hc=>by
  simp only[aIg,cB,Ae] at h;obtain⟨v,hv,⟨u,v',J⟩,h1,⟨y,vs,M⟩,h2,A⟩:=h;cases A;obtain⟨⟨g1,g2⟩,g3⟩:=aGm h2 hc;obtain⟨⟨B,E⟩,I⟩:=aPo h1 g1;exact⟨⟨B,.cons hv E g2⟩,by simp[V.refsL,I,g3]⟩
def aSc (P:Program) (tr:Tr) (o:Oper) (n:Nat) (st:St) (ob:List Prop) (res:V) (f:FuncId) (xs:Array Operand) (ts:Array TypeId):Ans:=(aIg tr st xs.toList ts.toList ob).bind fun(ids,args,ob1)=>val o n ⟨c7 xs.toList,ids⟩ res [] (aQ1 P f args res::ob1)
theorem aMr {res:V}{f:FuncId}{xs:Array Operand}{ts:Array TypeId}(ho:o.op=.call { callee:=.value (.func f),args:=xs,argTypes:=ts }):Snd P n o st ob (aSc P tr o n st ob res f xs ts):=by
 refine Snd.bind fun p ha=>?_
 obtain⟨ids,args,y⟩:=p;refine Snd.val fun d u q hc=>?_
 obtain⟨⟨g1,g2⟩,g3⟩:=aGm ha hc.2;refine⟨g1,?_⟩;have:=aJ0 [] [] (aMm hc.1.1) ho u q hc.1.2 g2 trivial trivial (by simp[gG,g3,keys,iN,subset]);simpa [outs,keys] using this
def aM2 (P:Program) (tr:Tr) (md:Bool) (o:Oper) (n:Nat) (st:St) (ob:List Prop) (hn:Hn) (id0:Nat) (c:Call):Ans:=match c.callee with
 | .builtin b=>match b,c.args.toList,c.argTypes.toList with
  | .len,[x],[t]=>a0k tr md o n st ob x t
  | .append,[x,y],[t,t']=>bif Nat.beq t t' then(match opO st y with | some (.one (.ra _ _ _ _))=>aBz tr md o n st ob id0 x y t | _=>aGk tr md o n st ob hn id0 x y t) else none
  | .min,[x,y],[_,_]=>(opO st x).bind fun v=>(opO st y).bind fun u=>match v,u with
   | .one (.c (.int k a)),.one (.c (.int k' b))=>bif decide (k=k') then val o n ⟨opr x++opr y,[]⟩ (.one (.c (.int k (if b<a then b else a)))) [] ob else none
   | _,_=>none
  | .max,[x,y],[_,_]=>(opO st x).bind fun v=>(opO st y).bind fun u=>match v,u with
   | .one (.c (.int k a)),.one (.c (.int k' b))=>bif decide (k=k') then val o n ⟨opr x++opr y,[]⟩ (.one (.c (.int k (if b>a then b else a)))) [] ob else none
   | _,_=>none
  | _,_,_=>none
 | .value (.func f)=>match hn with
  | .pc res=>aSc P tr o n st ob res f c.args c.argTypes
  | _=>none
 | _=>none
theorem arr1 {α:Type}{a:Array α}{x:α}(h:a.toList=[x]):a= #[x]:=by cases a;simp at h;simp[h]
theorem aW0 {α:Type}{a:Array α}{x y:α}(h:a.toList=[x,y]):a= #[x,y]:=by cases a;simp at h;simp[h]
theorem aM1 {hn:Hn}{I:Nat}{c:Call}(hw:tr.wf=true) (A:Tok P tr.flat) (ho:o.op=.call c):Snd P n o st ob (aM2 P tr md o n st ob hn I c):=by
 obtain⟨M,args,O⟩:=c;unfold aM2;dsimp only;split
 ·rename_i b;split
  ·rename_i x t h1 h2;have:=arr1 h1;have:=arr1 h2
   subst_vars
   exact aQp hw A ho
  ·rename_i x y t J h1 h2;have:=aW0 h1;have:=aW0 h2
   subst_vars
   refine Snd.cond fun ht=>?_
   have:=τ ht;subst this;split
   ·exact aBy hw A ho
   ·exact aDm hw A ho
  ·rename_i x y t J h1 h2;have:=aW0 h1;have:=aW0 h2
   subst_vars
   refine Snd.bind fun v hv=>Snd.bind fun u hu=>?_
   rw[cB] at hv hu;split
   ·refine Snd.cond fun B=>?_
    have:=κ B;subst this;exact Snd.val fun _ E q hc=>⟨hc,aXy ho E q hv hu rfl⟩
   ·exact Snd.none
  ·rename_i x y t J h1 h2;have:=aW0 h1;have:=aW0 h2
   subst_vars
   refine Snd.bind fun v hv=>Snd.bind fun u hu=>?_
   rw[cB] at hv hu;split
   ·refine Snd.cond fun B=>?_
    have:=κ B;subst this;exact Snd.val fun _ E q hc=>⟨hc,a1z ho E q hv hu rfl⟩
   ·exact Snd.none
  ·exact Snd.none
 ·split
  ·exact aMr ho
  ·exact Snd.none
 ·exact Snd.none
def idO (hn:Hn) (d:Option Nat):Option Nat:=match hn with
 | .id n=>some n
 | _=>match d with
  | some d=>some d
  | none=>none
def aQm (P:Program) (tr:Tr) (md nat:Bool) (n:Nat) (st:St) (hn:Hn) (o:Oper) (ob:List Prop):Ans:=match o.op with
 | .move x=>aGj o n st ob x
 | .assign x=>aGj o n st ob x
 | .pick c x y=>aSd o n st ob hn c x y
 | .alloc t=>(idO hn o.dst).bind fun id=>aM4 tr o n st ob id t
 | .box t x=>(idO hn o.dst).bind fun id=>a0l o n st ob id t x
 | .build t ps=>aM3 tr o n st ob t ps
 | .buildSlice t len ps=>(idO hn o.dst).bind fun id=>aMq tr o n st ob hn id t len ps
 | .load t x=>aSe tr md o n st ob hn t x
 | .store t x y=>aMp tr md o st ob hn t x y
 | .nilCheck x=>a0j md o n st ob x
 | .slice t x l h m=>aV7 tr md o n st ob t x l h m
 | .index t x y=>aMw tr o n st ob hn t x y
 | .convert src dst x=>aSg tr md o n st ob hn src dst x
 | .binOp op tx x y _=>a0m tr md nat o n st ob op tx x y
 | .unOp op _ x=>a3t md o n st ob op x
 | .makeFunc f a b=>aMy o n st ob f a b
 | .makeMap t r=>(idO hn o.dst).bind fun id=>aV5 tr o n st ob id t r
 | .fieldAddr t x f=>uH tr md o n st ob t x f
 | .field t x f=>aMz tr o n st ob t x f
 | .indexAddr t x y=>uG tr md o n st ob hn t x y
 | .lookup t x y ok=>yE tr md o n st ob hn t x y ok
 | .mapUpdate t x y z=>lT tr md o st ob t x y z
 | .insert t x y z=>lT tr md o st ob t x y z
 | .extract x i=>aBx o n st ob x i
 | .call c=>(idO hn o.dst).bind fun id=>aM2 P tr md o n st ob hn id c
 | _=>none
theorem aGi {hn:Hn}(hw:tr.wf=true) (q:Tok P tr.flat):Snd P n o st ob (aQm P tr md nat n st hn o ob):=by
 unfold aQm;split
 ·rename_i ho;exact aMu ho
 ·rename_i ho;exact aDl ho
 ·rename_i ho;exact aMs ho
 ·rename_i ho;exact Snd.bind fun _ _=>aIe hw q ho
 ·rename_i ho;exact Snd.bind fun _ _=>aQs ho
 ·rename_i ho;exact aId hw q ho
 ·rename_i ho;exact Snd.bind fun _ _=>aH9 hw q ho
 ·rename_i ho;exact aMv hw q ho
 ·rename_i ho;exact aH8 hw q ho
 ·rename_i ho;exact aQn ho
 ·rename_i ho;exact aQr hw q ho
 ·rename_i ho;exact aIa hw q ho
 ·rename_i ho;exact aM0 hw q ho
 ·rename_i ho;exact aQt hw q ho
 ·rename_i ho;exact aV4 ho
 ·rename_i ho;exact aMx ho
 ·rename_i ho;exact Snd.bind fun _ _=>aQo ho
 ·rename_i ho;exact v7 hw q ho
 ·rename_i ho;exact aIc hw q ho
 ·rename_i ho;exact uZ hw q ho
 ·rename_i ho;exact aDi hw q ho
 ·rename_i ho;exact uY hw q ho
 ·rename_i ho;exact aDj hw q ho
 ·rename_i ho;exact aBw ho
 ·rename_i ho;exact Snd.bind fun _ _=>aM1 hw q ho
 ·exact Snd.none
theorem Step.freeze {rd:Rd}{q:Option (Nat×Option V)}{id te es z:Nat}{l:List (List C)}(h:Step P n o st rd ⟨q,[(id,some (.arr te es l z))]⟩):Step P n o st rd ⟨q,[(id,some (.arr te es l 2))]⟩:=by
 intro st' ha G S μ a w K Q hs u;refine h st' ha G S μ a w K Q hs fun S1 I y A h1=>?_
 have hh:(Eff.apply ⟨q,[(id,some (.arr te es l z))]⟩ st').h id=some (.arr te es l z):=by
  show jT st'.h [(id,some (.arr te es l z))] id=_;rw[cE,aN]
 obtain⟨S2,B,h2⟩:=h1.freeze hh;refine u S2 B y A ?_;have E:upd (Eff.apply ⟨q,[(id,some (.arr te es l z))]⟩ st').h id (some (.arr te es l 2))=(Eff.apply ⟨q,[(id,some (.arr te es l 2))]⟩ st').h:=by
  show upd (jT st'.h [(id,some (.arr te es l z))]) id _=jT st'.h [(id,some (.arr te es l 2))];rw[cE,cE,qI]
 rw[E] at h2;exact h2
def a29:Ans→Ans
 | some (rd,⟨dv,[(id,some (.arr te es l _))]⟩,ob')=>some (rd,⟨dv,[(id,some (.arr te es l 2))]⟩,ob')
 | _=>none
theorem aV6 {r:Ans}(h:Snd P n o st ob r):Snd P n o st ob (a29 r):=by
 intro rd f q e hc;unfold a29 at e;split at e
 ·cases e;obtain⟨g1,g2⟩:=h _ _ _ rfl hc;exact⟨g1,g2.freeze⟩
 ·cases e
def a1b (P:Program) (tr:Tr) (md nat:Bool) (n:Nat) (st:St) (hn:Hn) (o:Oper) (ob:List Prop):Ans:=match hn with
 | .fz=>a29 (aQm P tr md nat n st .no o ob)
 | hn=>aQm P tr md nat n st hn o ob
theorem aMt {hn:Hn}(hw:tr.wf=true) (q:Tok P tr.flat):Snd P n o st ob (a1b P tr md nat n st hn o ob):=by
 unfold a1b;split
 ·exact aV6 (aGi hw q)
 ·exact aGi hw q
def aC5:List Oper→Nat→Option Nat
 | [],_=>none
 | o::os,i=>bif Nat.beq i 0 then o.dst else aC5 os (i-1)
theorem aFs:∀(os:List Oper) (i:Nat),aC5 os i=(os[i]?).bind (·.dst)
 | [],i=>by simp[aC5]
 | o::os,0=>by simp[aC5]
 | o::os,i+1=>by
  have:Nat.beq (i+1) 0=false:=rfl;simp[aC5,this,aFs os i]
def axG (P:Program) (tr:Tr) (md nat:Bool) (n:Nat) (all:List Oper) (hs:List (Nat×Hn)) (k:Nat) (o:Oper) (st:St) (ob:List Prop):Ans:=match o.guard with
 | none=>a1b P tr md nat n st (aPb hs k) o ob
 | some (j,want)=>(aC5 all j).bind fun t=>(st.e t).bind fun v=>match v with
  | .one (.c (.bool b))=>match aNz (match aPb hs j with | .bv w=>.bv w | _=>.no) b ob with
   | (w,ob1)=>bif w==want then(a1b P tr md nat n st (aPb hs k) o ob1).bind fun(rd,f,ob2)=>some (⟨t::rd.e,rd.h⟩,f,ob2)
    else match o.dst with
     | some d=>bif Nat.blt d n then some (⟨[t],[]⟩,⟨some (d,some (.tup [])),[]⟩,ob1) else none
     | none=>none
  | .tup []=>match o.dst with
   | some d=>bif Nat.blt d n then some (⟨[t],[]⟩,⟨some (d,some (.tup [])),[]⟩,ob) else none
   | none=>none
  | _=>none
theorem aSf {ops:Array Oper}{hs:List (Nat×Hn)}{k:Nat}{rd:Rd}{f:Eff}{y:List Prop}(hw:tr.wf=true) (E:Tok P tr.flat) (ho:ops[k]?=some o) (h:axG P tr md nat n ops.toList hs k o st ob=some (rd,f,y)):iX y→iX ob∧GStep P n ops k st rd f:=by
 intro hc;unfold axG at h;split at h
 ·rename_i u;obtain⟨h1,h2⟩:=aMt hw E _ _ _ h hc;exact⟨h1,GStep.plain ho u h2⟩
 ·rename_i j want u;rw[Ae] at h;obtain⟨t,ht,h⟩:=h;rw[Ae] at h;obtain⟨v,hv,h⟩:=h;have hj:(ops[j]?).bind (·.dst)=some t:=by
   rw[aFs] at ht;simpa using ht
  split at h
  ·rename_i b;split at h;rename_i w I A;cases q:w==want with
   | true=>
    rw[q] at h;simp only[B1] at h;rw[Ae] at h;obtain⟨⟨J,f1,M⟩,h1,h2⟩:=h;cases h2;obtain⟨g1,g2⟩:=aMt hw E _ _ _ h1 hc;obtain⟨g3,g4⟩:=s7 A g1;exact⟨g3,GStep.yes ho u hj hv (g4.trans (eq_of_beq q)) g2⟩
   | false=>
    rw[q] at h;simp only[Bq] at h;split at h
    ·rename_i d B;obtain⟨h1,h2⟩:=dX h;cases h2;obtain⟨g3,g4⟩:=s7 A hc;refine⟨g3,GStep.no ho u B (kE h1) hj hv g4 ?_⟩;cases w<;>cases want<;>first | rfl | (cases q)
    ·cases h
  ·split at h
   ·rename_i d B;obtain⟨h1,h2⟩:=dX h;cases h2;exact⟨hc,GStep.un ho u B (kE h1) hj hv⟩
   ·cases h
  ·cases h
def vT (P:Program) (tr:Tr) (md nat:Bool) (n:Nat) (all:List Oper) (hs:List (Nat×Hn)):Nat→Nat→List Oper→(Nat→Option V)→cF→List Nat→REs→List Prop→Option (St×Nat×REs×List Prop)
 | 0,k,_,e,h,d,pre,ob=>some (⟨e,h,d⟩,k,pre,ob)
 | _+1,k,[],e,h,d,pre,ob=>some (⟨e,h,d⟩,k,pre,ob)
 | m+1,k,o::os,e,h,d,pre,ob=>(axG P tr md nat n all hs k o ⟨e,h,d⟩ ob).bind fun(rd,f,ob1)=>match f with
  | ⟨some (t,v),[]⟩=>vT P tr md nat n all hs m (k+1) os (upd e t v) h d ((rd,⟨some (t,v),[]⟩)::pre) ob1
  | ⟨some (t,v),[(id,x)]⟩=>vT P tr md nat n all hs m (k+1) os (upd e t v) (upd h id x) d ((rd,⟨some (t,v),[(id,x)]⟩)::pre) ob1
  | ⟨none,[(id,x)]⟩=>vT P tr md nat n all hs m (k+1) os e (upd h id x) d ((rd,⟨none,[(id,x)]⟩)::pre) ob1
  | _=>none
theorem aDk {ops:Array Oper}{hs:List (Nat×Hn)}{draw:Bool}(hw:tr.wf=true) (O:Tok P tr.flat):∀(m k:Nat) (os:List Oper) (e:Nat→Option V) (h:cF) (d:List Nat) (pre:REs) (ob:List Prop) (st':St) (k':Nat) (pre':REs) (y:List Prop),os=ops.toList.drop k→
  vT P tr md nat n ops.toList hs m k os e h d pre ob=some (st',k',pre',y)→iX y→iX ob∧∀Q,kK QP P n ops draw k' st' pre' Q→kK QP P n ops draw k ⟨e,h,d⟩ pre Q:=by
 intro m
 induction m with
 | zero=>
  intro k os e h d pre ob st' k' pre' y _ q hc;simp only[vT] at q;cases q;exact⟨hc,fun Q hq=>hq⟩
 | succ m E=>
  intro k os e h d pre ob st' k' pre' y B q hc;cases os with
  | nil=>
   simp only[vT] at q;cases q;exact⟨hc,fun Q hq=>hq⟩
  | cons o os=>
   have ho:ops[k]?=some o:=by
    have:(ops.toList.drop k)[0]?=some o:=by rw[←B];rfl
    simpa using this
   have u:os=ops.toList.drop (k+1):=by
    have:os=(ops.toList.drop k).tail:=by rw[←B];rfl
    rw[this,List.tail_drop]
   simp only[vT,Ae] at q;obtain⟨⟨rd,f,I⟩,h1,h2⟩:=q;have key:∀{A:St},iX I→A=f.apply ⟨e,h,d⟩→(∀Q,kK QP P n ops draw k' st' pre' Q→kK QP P n ops draw (k+1) A ((rd,f)::pre) Q)→iX ob∧∀Q,kK QP P n ops draw k' st' pre' Q→kK QP P n ops draw k ⟨e,h,d⟩ pre Q:=by
    intro A J M U;obtain⟨g1,g2⟩:=aSf hw O ho h1 J;subst M;exact⟨g1,fun Q hq=>k_ g2 (U Q hq)⟩
   split at h2
   ·rename_i heq;have heq:f=_:=heq;subst heq;obtain⟨g1,g2⟩:=E _ _ _ _ _ _ _ _ _ _ _ u h2 hc;exact key g1 (by simp only[Eff.apply,aDx]) g2
   ·rename_i heq;have heq:f=_:=heq;subst heq;obtain⟨g1,g2⟩:=E _ _ _ _ _ _ _ _ _ _ _ u h2 hc;exact key g1 (by simp only[Eff.apply,cE]) g2
   ·rename_i heq;have heq:f=_:=heq;subst heq;obtain⟨g1,g2⟩:=E _ _ _ _ _ _ _ _ _ _ _ u h2 hc;exact key g1 (by simp only[Eff.apply,cE]) g2
   ·cases h2
end
section
variable {QP:Value→Prop}{ro:Option Nat}{P:Program}{n:Nat}{ops:Array Oper}{draw:Bool}{k k':Nat}{st st':St}{pre pre':REs}{Q:St→Prop}{tr:Tr}{ob:List Prop}
theorem ax_ {hs:List (Nat×Hn)}{md nat:Bool}(m:Nat) (hw:tr.wf=true) (q:Tok P tr.flat) (h:vT P tr md nat n ops.toList hs m k (ops.toList.drop k) st.e st.h st.d pre []=some (st',k',pre',ob)) (hc:iX ob) (u:kK QP P n ops draw k' st' pre' Q):kK QP P n ops draw k st pre Q:=
 (aDk hw q m k _ st.e st.h st.d pre [] st' k' pre' ob rfl h hc).2 Q u
theorem aSh {hs:List (Nat×Hn)}{md nat:Bool}{kf:List Nat}{id:Nat}{Q:Exit→St→Prop}(hm:P.follows .mixedOrders=true) (hw:tr.wf=true) (q:Tok P tr.flat) (h:vT P tr md nat n ops.toList hs 1000 0 ops.toList st.e st.h st.d [] []=some (st',k',pre',ob)) (hc:iX ob)
  (h1:Nat.beq k' ops.size=true) (h2:(!draw || (dA (preds ops) pre'.reverse []&&eJ ops))=true) (hq:Q .normal st'):AWp ro P n kf (.region id ops draw) st Q:=
 aC hm ((aDk hw q 1000 0 _ st.e st.h st.d [] [] st' k' pre' ob rfl h hc).2 _ (z_ h1 h2 hq))
end
theorem hs_all {h:cF}{id te es n:Nat}{l q:List (List C)}{fz:Nat}(h1:h id=some (.arr te es l fz)) (u:fz=2) (h2:n=l.length) (y:l=q):Conv h [id] (.one (.hs id 0 n n)) (.one (.c (.sl es q))):=by
 subst h2;subst y;subst u;exact .one (.hs h1 rfl (by rw[B8,Al]) .nil)
section
variable {QP:Value→Prop}{P:Program}{n:Nat}{ops:Array Oper}{draw:Bool}{k d:Nat}{st:St}{pre:REs}{Q:St→Prop}{o:Oper}{f:FuncId}{xs:Array Operand}{ts:Array TypeId}{ids:List Nat}{args:List V}{res:V}{hin hout:List (Nat×AObj)}
theorem kc (B:aW P f args hin res hout)
  (E:kK QP P n ops draw (k+1) ⟨upd st.e d (some res),jT st.h (outs hout),st.d⟩ ((⟨c7 xs.toList,ids++keys hin++keys hout⟩,⟨some (d,some res),outs hout⟩)::pre) Q)
  (hb:jO P f:=by exact aMm (by kernel_rfl)) (ho:ops[k]?=some o:=by rfl) (I:o.guard=none:=by rfl) (y:o.op=.call { callee:=.value (.func f),args:=xs,argTypes:=ts }:=by rfl) (J:o.dst=some d:=by rfl) (A:Nat.blt d n=true:=by rfl)
  (ha:ArgsV st ids xs.toList args:=by repeat (first | exact .nil | (apply Go.AM.ArgsV.cons rfl;(first | exact .refl | exact .one (.c .nl .nil) | exact .one (.c .sn .nil) | exact .one (.hs rfl (by first | rfl | simp) (by first | rfl | (simp;done) | (simp[Go.AM.take_map];done) | exact Go.AM.take_map.symm) .nil) | exact Go.AM.hs_all rfl rfl (by first | rfl | assumption | (simp;done) | (simp;omega)) (by first | rfl | assumption | (simp;done)) | ((first | apply Go.AM.Conv.pa | apply Go.AM.Conv.agg);repeat (first | exact .nil | apply Go.AM.PureL.c .refl | apply Go.AM.PureL.c .nl | apply Go.AM.PureL.c .sn | (apply Go.AM.PureL.hs;rfl;(first | rfl | simp);(first | rfl | (simp;done) | (simp[Go.AM.take_map];done) | exact Go.AM.take_map.symm))))))))
  (u:iM (fun p=>st.h p.1=some p.2) hin:=by repeat (first | exact trivial | refine⟨rfl,?_⟩)) (q:iM (fun p=>p.1∈keys hin∨st.h p.1=none) hout:=by repeat (first | exact trivial | refine⟨.inr rfl,?_⟩ | refine⟨.inl (by decide),?_⟩ | refine⟨.inl (by repeat (first | exact List.Mem.head _ | apply List.Mem.tail)),?_⟩)) (hok:gG args hin=true:=by rfl):kK QP P n ops draw k st pre Q:=
 k_ (g_ ho I (aJ0 hin hout hb y J (kE A) B ha u q hok)) E
theorem kv {x:Operand}{caps:List R}(B:aW P f (args++caps.map V.one) hin res hout)
  (E:kK QP P n ops draw (k+1) ⟨upd st.e d (some res),jT st.h (outs hout),st.d⟩ ((⟨opr x++c7 xs.toList,ids++keys hin++keys hout⟩,⟨some (d,some res),outs hout⟩)::pre) Q)
  (hb:jO P f:=by exact aMm (by kernel_rfl)) (ho:ops[k]?=some o:=by rfl) (I:o.guard=none:=by rfl) (y:o.op=.call { callee:=.value x,args:=xs,argTypes:=ts }:=by rfl) (J:o.dst=some d:=by rfl) (A:Nat.blt d n=true:=by rfl) (hx:opv st x=some (.one (.clo f caps)):=by rfl)
  (ha:ArgsV st ids xs.toList args:=by repeat (first | exact .nil | (apply Go.AM.ArgsV.cons rfl;(first | exact .refl | exact .one (.c .nl .nil) | exact .one (.c .sn .nil) | exact .one (.hs rfl (by first | rfl | simp) (by first | rfl | (simp;done) | (simp[Go.AM.take_map];done) | exact Go.AM.take_map.symm) .nil) | exact Go.AM.hs_all rfl rfl (by first | rfl | assumption | (simp;done) | (simp;omega)) (by first | rfl | assumption | (simp;done)) | ((first | apply Go.AM.Conv.pa | apply Go.AM.Conv.agg);repeat (first | exact .nil | apply Go.AM.PureL.c .refl | apply Go.AM.PureL.c .nl | apply Go.AM.PureL.c .sn | (apply Go.AM.PureL.hs;rfl;(first | rfl | simp);(first | rfl | (simp;done) | (simp[Go.AM.take_map];done) | exact Go.AM.take_map.symm))))))))
  (u:iM (fun p=>st.h p.1=some p.2) hin:=by repeat (first | exact trivial | refine⟨rfl,?_⟩)) (q:iM (fun p=>p.1∈keys hin∨st.h p.1=none) hout:=by repeat (first | exact trivial | refine⟨.inr rfl,?_⟩ | refine⟨.inl (by decide),?_⟩ | refine⟨.inl (by repeat (first | exact List.Mem.head _ | apply List.Mem.tail)),?_⟩)) (hok:gG (args++caps.map V.one) hin=true:=by rfl):kK QP P n ops draw k st pre Q:=
 k_ (g_ ho I (aJy hin hout hb y J (kE A) hx B ha u q hok)) E
end
inductive Res where
 | leaf (st:St) (k:Nat) (pre:REs) (ob:List Prop)
 | fork (b:Bool) (x y:Res)
def Res.obs:Res→Prop
 | .leaf _ _ _ ob=>iX ob
 | .fork b x y=>(b=true→x.obs)∧(b=false→y.obs)
def Res.good (ops:Array Oper) (draw:Bool):Res→Bool
 | .leaf _ k pre _=>Nat.beq k ops.size&&(!draw || (dA (preds ops) pre.reverse []&&eJ ops))
 | .fork _ x y=>x.good ops draw&&y.good ops draw
def Res.all (Q:St→Prop):Res→Prop
 | .leaf st _ _ _=>Q st
 | .fork b x y=>(b=true→x.all Q)∧(b=false→y.all Q)
def aTw:Nat→List Nat→Bool
 | _,[]=>false
 | i,x::l=>bif Nat.beq i x then true else aTw i l
theorem aEx:∀{i:Nat}{l:List Nat},aTw i l=true↔i∈l
 | i,[]=>by simp[aTw]
 | i,x::l=>by
  simp only[aTw];cases h:Nat.beq i x with
  | true=>have:=τ h;simp[this]
  | false=>
   have:i≠x:=fun e=>by subst e;simp at h
   simp[this,aEx]
def aY0 (all:List Oper) (dec:List Nat) (o:Oper):Option Nat:=
 match (match o.guard with | some (j,_)=>(aC5 all j).bind fun t=>bif aTw t dec then none else some t | none=>none) with
 | some t=>some t
 | none=>match o.op with
  | .pick (.tmp t) _ _=>bif aTw t dec then none else some t
  | _=>none
def qB (P:Program) (tr:Tr) (md nat:Bool) (n:Nat) (all:List Oper) (hs:List (Nat×Hn)) (W:List Nat):Nat→Nat→List Oper→(Nat→Option V)→cF→List Nat→List Nat→REs→List Prop→Option Res
 | 0,_,_,_,_,_,_,_,_=>none
 | _+1,k,[],e,h,d,_,pre,ob=>some (.leaf ⟨e,h,d⟩ k pre ob)
 | m+1,k,o::os,e,h,d,dec,pre,ob=>match aY0 all dec o with
  | some t=>match e t with
   | some (.one (.c (.bool b)))=>(qB P tr md nat n all hs W m k (o::os) (upd e t (some (.one (.c (.bool true))))) h d (t::dec) pre ob).bind fun x=>
     (qB P tr md nat n all hs W m k (o::os) (upd e t (some (.one (.c (.bool false))))) h d (t::dec) pre ob).bind fun y=>some (.fork b x y)
   | _=>qB P tr md nat n all hs W m k (o::os) e h d (t::dec) pre ob
  | none=>(axG P tr md nat n all hs k o ⟨e,h,d⟩ ob).bind fun(rd,f,ob1)=>match f with
   | ⟨some (t,v),[]⟩=>bif aTw t W then qB P tr md nat n all hs W m (k+1) os (upd e t v) h d dec ((rd,⟨some (t,v),[]⟩)::pre) ob1 else none
   | _=>none
section
variable {QP:Value→Prop}{P:Program}{n:Nat}{tr:Tr}{md nat:Bool}
theorem aDw {e:Nat→Option V}{t:Nat}{x:Option V}(h:e t=x):upd e t x=e:=by
 funext i;simp only[upd];split
 ·rename_i hb;rw[τ hb,h]
 ·rfl
theorem aQq {ops:Array Oper}{hs:List (Nat×Hn)}{W:List Nat}{draw:Bool}(hw:tr.wf=true) (I:Tok P tr.flat):∀(m k:Nat) (os:List Oper) (e:Nat→Option V) (h:cF) (d dec:List Nat) (pre:REs) (ob:List Prop) (res:Res),os=ops.toList.drop k→
  qB P tr md nat n ops.toList hs W m k os e h d dec pre ob=some res→res.obs→res.good ops draw=true→∀Q,res.all Q→iX ob∧kK QP P n ops draw k ⟨e,h,d⟩ pre Q:=by
 intro m
 induction m with
 | zero=>intro k os e h d dec pre ob res _ u;simp[qB] at u
 | succ m B=>
  intro k os e h d dec pre ob res A u ho q Q hq;cases os with
  | nil=>
   simp only[qB] at u;cases u;simp only[Res.good,π] at q;exact⟨ho,z_ q.1 q.2 hq⟩
  | cons o os=>
   have hok:ops[k]?=some o:=by
    have:(ops.toList.drop k)[0]?=some o:=by rw[←A];rfl
    simpa using this
   have E:os=ops.toList.drop (k+1):=by
    have:os=(ops.toList.drop k).tail:=by rw[←A];rfl
    rw[this,List.tail_drop]
   simp only[qB] at u;split at u
   ·rename_i t _;split at u
    ·rename_i b hb;rw[Ae] at u;obtain⟨x,hx,u⟩:=u;rw[Ae] at u;obtain⟨y,hy,u⟩:=u;cases u;simp only[Res.obs] at ho;simp only[Res.good,π] at q;simp only[Res.all] at hq;cases b with
     | true=>
      rw[aDw hb] at hx;exact B _ _ _ _ _ _ _ _ _ A hx (ho.1 rfl) q.1 Q (hq.1 rfl)
     | false=>
      rw[aDw hb] at hy;exact B _ _ _ _ _ _ _ _ _ A hy (ho.2 rfl) q.2 Q (hq.2 rfl)
    ·exact B _ _ _ _ _ _ _ _ _ A u ho q Q hq
   ·rw[Ae] at u;obtain⟨⟨rd,f,M⟩,h1,h2⟩:=u;dsimp only at h2;split at h2
    ·obtain⟨_,J⟩:=dX h2;obtain⟨g1,g2⟩:=B _ _ _ _ _ _ _ _ _ E J ho q Q hq;obtain⟨g3,g4⟩:=aSf hw I hok h1 g1;refine⟨g3,k_ g4 ?_⟩;simpa only[Eff.apply,aDx] using g2
    ·cases h2
def Res.keep (e0:Nat→Option V) (h0:cF) (d0:List Nat) (W:List Nat):Res→Prop
 | .leaf st _ _ _=>(∀t,t∉W→∀v,e0 t=some v→st.e t=some v)∧st.h=h0∧st.d=d0
 | .fork b x y=>(b=true→x.keep e0 h0 d0 W)∧(b=false→y.keep e0 h0 d0 W)
theorem aIb {all:List Oper}{hs:List (Nat×Hn)}{W:List Nat}{e0:Nat→Option V}:∀(m k:Nat) (os:List Oper) (e:Nat→Option V) (h:cF) (d dec:List Nat) (pre:REs) (ob:List Prop) (res:Res),
  qB P tr md nat n all hs W m k os e h d dec pre ob=some res→(∀t,t∉W→∀v,e0 t=some v→e t=some v)→res.keep e0 h d W:=by
 intro m
 induction m with
 | zero=>intro k os e h d dec pre ob res q;simp[qB] at q
 | succ m A=>
  intro k os e h d dec pre ob res q he;cases os with
  | nil=>
   simp only[qB] at q;cases q;exact⟨he,rfl,rfl⟩
  | cons o os=>
   simp only[qB] at q;split at q
   ·rename_i t _;split at q
    ·rename_i b hb;rw[Ae] at q;obtain⟨x,hx,q⟩:=q;rw[Ae] at q;obtain⟨y,hy,q⟩:=q;cases q;refine⟨fun B=>?_,fun E=>?_⟩
     ·subst B;rw[aDw hb] at hx;exact A _ _ _ _ _ _ _ _ _ hx he
     ·subst E;rw[aDw hb] at hy;exact A _ _ _ _ _ _ _ _ _ hy he
    ·exact A _ _ _ _ _ _ _ _ _ q he
   ·rw[Ae] at q;obtain⟨⟨rd,f,M⟩,h1,h2⟩:=q;dsimp only at h2;split at h2
    ·obtain⟨hm,J⟩:=dX h2;refine A _ _ _ _ _ _ _ _ _ J fun s hs u hu=>?_
     have I:s≠_:=fun e=>hs (by rw[e];exact aEx.1 hm)
     rw[bJ _ _ _ I];exact he s hs u hu
    ·cases h2
def Res.boolAt (w:Nat):Res→Option Bool
 | .leaf st _ _ _=>match st.e w with
  | some (.one (.c (.bool x)))=>some x
  | _=>none
 | .fork b x y=>(x.boolAt w).bind fun p=>(y.boolAt w).bind fun q=>some (bif b then p else q)
theorem Res.boolAt_all {w:Nat}:∀{r:Res}{x:Bool},r.boolAt w=some x→r.all fun st=>st.e w=some (.one (.c (.bool x)))
 | .leaf st _ _ _,x,h=>by
  simp only[Res.boolAt] at h;split at h
  ·rename_i hx;cases h;exact hx
  ·cases h
 | .fork b p q,x,h=>by
  simp only[Res.boolAt,Ae] at h;obtain⟨u,hu,v,hv,h⟩:=h;cases h;refine⟨fun hb=>?_,fun hb=>?_⟩
  ·subst hb;exact Res.boolAt_all hu
  ·subst hb;exact Res.boolAt_all hv
def tQ (res:Res):List Nat→Option (List (Nat×Option V))
 | []=>some []
 | w::ws=>(tQ res ws).bind fun l=>match res.boolAt w with
  | some x=>some ((w,some (.one (.c (.bool x))))::l)
  | none=>some ((w,none)::l)
def nV (e:Nat→Option V):List (Nat×Option V)→Nat→Option V
 | [],t=>e t
 | (w,v)::l,t=>bif Nat.beq t w then v else nV e l t
theorem aAb {res:Res}{e0:Nat→Option V}{t:Nat}:∀{W:List Nat}{L:List (Nat×Option V)},tQ res W=some L→nV e0 L t=if t∈W then(res.boolAt t).map (fun x=>V.one (.c (.bool x))) else e0 t
 | [],L,h=>by
  simp only[tQ] at h;cases h;simp[nV]
 | w::ws,L,h=>by
  simp only[tQ,Ae] at h;obtain⟨l,hl,h⟩:=h;have u:=aAb (e0:=e0) (t:=t) hl;have y:L=(w,(res.boolAt w).map (fun x=>V.one (.c (.bool x))))::l:=by
   split at h
   ·rename_i x hx;cases h;rw[hx];rfl
   ·rename_i hx;cases h;rw[hx];rfl
  subst y;simp only[nV];by_cases q:t=w
  ·subst q;simp
  ·have hb:Nat.beq t w=false:=by
    cases hb:Nat.beq t w with
    | true=>exact absurd (τ hb) q
    | false=>rfl
   rw[hb,Bq,u];simp[q]
theorem Res.all_mono {Q Q':St→Prop}(h:∀st,Q st→Q' st):∀{r:Res},r.all Q→r.all Q'
 | .leaf st _ _ _,k=>h st k
 | .fork _ _ _,k=>⟨fun hb=>Res.all_mono h (k.1 hb),fun hb=>Res.all_mono h (k.2 hb)⟩
theorem Res.all_forall {α:Type}{Q:α→St→Prop}:∀{r:Res},(∀a,r.all (Q a))→r.all fun st=>∀a,Q a st
 | .leaf _ _ _ _,k=>fun a=>k a
 | .fork _ _ _,k=>⟨fun hb=>Res.all_forall fun a=>(k a).1 hb,fun hb=>Res.all_forall fun a=>(k a).2 hb⟩
theorem Res.all_and {Q Q':St→Prop}:∀{r:Res},r.all Q→r.all Q'→r.all fun st=>Q st∧Q' st
 | .leaf _ _ _ _,h,k=>⟨h,k⟩
 | .fork _ _ _,h,k=>⟨fun hb=>Res.all_and (h.1 hb) (k.1 hb),fun hb=>Res.all_and (h.2 hb) (k.2 hb)⟩
theorem Res.keep_at {e0:Nat→Option V}{h0:cF}{d0 W:List Nat}{t:Nat}{v:V}(ht:t∉W) (hv:e0 t=some v):∀{r:Res},r.keep e0 h0 d0 W→r.all fun st=>st.e t=some v
 | .leaf _ _ _ _,k=>k.1 t ht v hv
 | .fork _ _ _,k=>⟨fun hb=>Res.keep_at ht hv (k.1 hb),fun hb=>Res.keep_at ht hv (k.2 hb)⟩
theorem Res.keep_hd {e0:Nat→Option V}{h0:cF}{d0 W:List Nat}:∀{r:Res},r.keep e0 h0 d0 W→r.all fun st=>st.h=h0∧st.d=d0
 | .leaf _ _ _ _,k=>k.2
 | .fork _ _ _,k=>⟨fun hb=>Res.keep_hd (k.1 hb),fun hb=>Res.keep_hd (k.2 hb)⟩
theorem aOz {res:Res}{e0:Nat→Option V}{h0:cF}{d0 W:List Nat}{L:List (Nat×Option V)}(h:tQ res W=some L) (q:res.keep e0 h0 d0 W):res.all fun st=>(∀p:Nat×V,nV e0 L p.1=some p.2→st.e p.1=some p.2)∧(st.h=h0∧st.d=d0):=by
 refine Res.all_and (Res.all_forall fun p=>?_) (Res.keep_hd q);by_cases hv:nV e0 L p.1=some p.2
 ·refine Res.all_mono (fun st h _=>h) (?_:res.all fun st=>st.e p.1=some p.2);rw[aAb h] at hv;by_cases ht:p.1∈W
  ·rw[ζ ht,Option.map_eq_some_iff] at hv;obtain⟨x,hx,hv⟩:=hv;rw[←hv];exact Res.boolAt_all hx
  ·rw[η ht] at hv;exact Res.keep_at ht hv q
 ·have:∀r:Res,r.all fun st=>nV e0 L p.1=some p.2→st.e p.1=some p.2:=by
   intro r
   induction r with
   | leaf st k pre ob=>exact fun h=>absurd h hv
   | fork b x y u A=>exact⟨fun _=>u,fun _=>A⟩
  exact this res
theorem Sub.weak {kf:List Nat}{q st2:St}(he:∀p:Nat×V,st2.e p.1=some p.2→q.e p.1=some p.2) (hh:q.h=st2.h) (u:q.d=st2.d):Sub kf st2 q:=by
 intro G n S μ a w _ hs;refine⟨S,μ,⟨?_,hs.size,?_,fun t v e=>?_⟩⟩
 ·rw[←hh];exact hs.inv
 ·rw[←hh,←u];exact hs.defers
 ·rw[←hh];exact hs.env t v (he (t,v) e)
def aWx:List Oper→List Nat
 | []=>[]
 | o::os=>match o.dst with
  | some t=>t::aWx os
  | none=>aWx os
theorem aV9 {ro:Option Nat}{ops:Array Oper}{draw:Bool}{st:St}{y:Nat→Option V}{h1:cF}{d1:List Nat}{u:Nat}{q:REs}{A:List Prop}{res:Res}{L:List (Nat×Option V)}{hs:List (Nat×Hn)}{kf:List Nat}{id:Nat}{Q:Exit→St→Prop}(m:Nat) (hm:P.follows .mixedOrders=true) (hw:tr.wf=true) (I:Tok P tr.flat)
  (g1:vT P tr md nat n ops.toList hs m 0 ops.toList st.e st.h st.d [] []=some (⟨y,h1,d1⟩,u,q,A))
  (g2:qB P tr md nat n ops.toList hs (aWx (ops.toList.drop u)) 1000 u (ops.toList.drop u) y h1 d1 [] q A=some res)
  (g3:tQ res (aWx (ops.toList.drop u))=some L) (ho:res.obs) (O:res.good ops draw=true) (hq:Q .normal ⟨nV y L,h1,d1⟩):AWp ro P n kf (.region id ops draw) st Q:=by
 have U:=aIb (P:=P) (tr:=tr) (md:=md) (nat:=nat) (n:=n) (e0:=y) _ _ _ _ _ _ _ _ _ _ g2 (fun _ _ _ h=>h);have J:=aOz g3 U;have B:res.all fun st'=>Sub kf ⟨nV y L,h1,d1⟩ st':=Res.all_mono (fun st h=>Sub.weak h.1 h.2.1 h.2.2) J
 obtain⟨M,E⟩:=aQq (draw:=draw) hw I _ _ _ _ _ _ _ _ _ _ rfl g2 ho O _ B;exact aV8 _ hm ((aDk hw I m 0 _ st.e st.h st.d [] [] _ u q A rfl g1 M).2 _ E) hq
end
end Go.AM
