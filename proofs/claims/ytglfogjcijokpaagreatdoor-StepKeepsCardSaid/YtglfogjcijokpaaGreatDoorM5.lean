/-
  Texts Am23 to Am26 in one.
-/
import Derived.Test.YtglfogjcijokpaaGreatDoorM4
import Derived.KernelRfl
open List (drop_zero map_cons take_length)
open Nat (eq_of_beq_eq_true le_of_ble_eq_true zero_add)
namespace Go.AM
open Go
def frc {α:Type}:List α→Option (List α)
 | []=>some []
 | x::xs=>(frc xs).bind fun l=>some (x::l)
theorem kK {α:Type}:∀l:List α,frc l=some l
 | []=>rfl
 | x::xs=>by simp[frc,kK xs]
def tak {α:Type}:Nat→List α→Option (List α)
 | 0,_=>some []
 | _+1,[]=>none
 | k+1,x::xs=>(tak k xs).bind fun l=>some (x::l)
theorem rQ {α:Type}:∀{k:Nat}{l r:List α},tak k l=some r→k≤l.length∧l.take k=r
 | 0,l,r,h=>by simp[tak] at h;simp[h]
 | k+1,[],r,h=>by simp[tak] at h
 | k+1,x::xs,r,h=>by
  simp only[tak,Ag] at h;obtain⟨l,h1,h2⟩:=h;cases h2;obtain⟨h3,h4⟩:=rQ h1;exact⟨by simp;omega,by simp[h4]⟩
inductive Tr where
 | leaf (o:Option TI)
 | node (k:Nat) (l r:Tr)
def Tr.get:Tr→Nat→Option TI
 | .leaf o,t=>bif Nat.beq t 0 then o else none
 | .node k l r,t=>bif Nat.blt t k then l.get t else r.get (t-k)
def Tr.flat:Tr→TT
 | .leaf o=>[o]
 | .node _ l r=>l.flat++r.flat
def Tr.wf:Tr→Bool
 | .leaf _=>true
 | .node k l r=>Nat.beq k l.flat.length&&(l.wf&&r.wf)
theorem Tr.get_ok:∀{tr:Tr}{t:Nat}{i:TI},tr.wf=true→tr.get t=some i→tr.flat[t]?=some (some i)
 | .leaf o,t,i,_,h=>by
  simp only[Tr.get] at h;cases hb:Nat.beq t 0 with
  | false=>rw[hb] at h;cases h
  | true=>
   rw[hb] at h;have:=ε hb;subst this;simp only[Bo] at h;simp[Tr.flat,h]
 | .node k l r,t,i,hw,h=>by
  simp only[Tr.wf,Ac] at hw;have hk:=ε hw.1;simp only[Tr.get] at h;simp only[Tr.flat,B0];cases hb:Nat.blt t k with
  | true=>
   rw[hb] at h;have:t<k:=Ap hb;rw[ξ (by omega)];exact Tr.get_ok hw.2.1 h
  | false=>
   rw[hb] at h;have:¬t<k:=fun q=>by
    have:Nat.blt t k=true:=Nat.ble_eq_true_of_le q;rw[hb] at this;cases this
   rw[φ (by omega),←hk];exact Tr.get_ok hw.2.2 h
def iL:List Prop→Prop
 | []=>True
 | p::l=>p∧iL l
def iT (md:Bool) (p:Prop) [Decidable p] (ob:List Prop):Option (List Prop):=bif md then some (p::ob) else bif decide p then some ob else none
theorem aZ {md:Bool}{p:Prop} [Decidable p] {ob q:List Prop}(h:iT md p ob=some q):iL q→iL ob∧p:=by
 unfold iT at h;cases md with
 | true=>cases h;exact fun h=>⟨h.2,h.1⟩
 | false=>
  simp only[Bs] at h;cases hp:decide p with
  | false=>rw[hp] at h;cases h
  | true=>rw[hp] at h;cases h;exact fun h=>⟨h,ψ hp⟩
inductive Hn where
 | no
 | id (n:Nat)
 | bv (b:Bool)
 | row (k:Nat) (r:List C)
 | all
 | look (r:Option (List C))
 | c (rows:List (List C))
 | byte (k:Nat) (b:UInt8)
 | pc (res:V)
 | fz
 | rr (r:List R)
 | rowR (k:Nat) (r:List R)
def aF9:List (Nat×Hn)→Nat→Hn
 | [],_=>.no
 | (k,h)::l,i=>bif Nat.beq i k then h else aF9 l i
abbrev Ans:=Option (Rd×Eff×List Prop)
def Snd (P:Program) (n:Nat) (o:Oper) (st:St) (ob:List Prop) (r:Ans):Prop:=∀rd f ob',r=some (rd,f,ob')→iL ob'→iL ob∧Step P n o st rd f
def val (o:Oper) (n:Nat) (rd:Rd) (v:V) (h:List (Nat×Option AObj)) (ob:List Prop):Ans:=
 match o.dst with
 | some d=>bif Nat.blt d n then some (rd,⟨some (d,some v),h⟩,ob) else none
 | none=>none
def eff (o:Oper) (rd:Rd) (h:List (Nat×Option AObj)) (ob:List Prop):Ans:=
 match o.dst with
 | none=>some (rd,⟨none,h⟩,ob)
 | some _=>none
def opO (st:St):Operand→Option V
 | .tmp t=>st.e t
 | .const v=>match v with
  | .int k n=>some (.one (.c (.int k n)))
  | .bool b=>some (.one (.c (.bool b)))
  | .string ⟨⟨l⟩⟩=>some (.one (.c (.str l)))
  | .slice none 0 0=>some (.one (.c .nl))
  | .pointer none=>some (.one (.c .np))
  | .map none=>some (.one (.c (.zv 0)))
  | .nilFunc=>some (.one (.c (.zv 1)))
  | .nilIface=>some (.one (.c (.zv 2)))
  | _=>none
 | .func f=>some (.one (.clo f []))
 | .global _=>none
theorem cE (st:St) (x:Operand):opO st x=opv st x:=by
 cases x with
 | const v=>
  cases v with
  | string s=>obtain⟨⟨l⟩⟩:=s;rfl
  | slice a l c=>
   cases a with
   | some _=>rfl
   | none=>
    cases l with
    | zero=>cases c<;>rfl
    | succ _=>rfl
  | pointer p=>cases p<;>rfl
  | map m=>cases m<;>rfl
  | _=>rfl
 | _=>rfl
def a1f (rs:List R):Option V:=match j3 rs with | some l=>some (.pa l) | none=>some (.ma rs)
theorem aOn (rs:List R):a1f rs=some (aXa rs):=by
 unfold a1f aXa;cases j3 rs<;>rfl
def aH4 (i:TI) (rs:List R):Option V:=bif i.k.agg then a1f rs else match rs with | [r]=>some (.one r) | _=>none
theorem rC (i:TI) (rs:List R):aH4 i rs=qS i rs:=by
 unfold aH4 qS;cases i.k.agg
 ·rfl
 ·exact aOn rs
def aF6 (i:TI) (l:List C):Option V:=bif i.k.agg then some (.pa l) else match l with | [c]=>some (.one (.c c)) | _=>none
theorem aAd (i:TI) (l:List C):aF6 i l=aH5 i l:=by
 unfold aF6 aH5;cases i.k.agg<;>rfl
def oH (v:V):Option (List R):=(i6 v).bind frc
theorem j1 (v:V):oH v=i6 v:=by
 unfold oH;cases i6 v with
 | none=>rfl
 | some l=>simp[kK]
theorem eE {α:Type}{b:Bool}{x:Option α}{y:α}(h:(bif b then x else none)=some y):b=true∧x=some y:=by
 cases b
 ·cases h
 ·exact⟨rfl,h⟩
theorem iE {d n:Nat}(h:Nat.blt d n=true):d<n:=Ap h
theorem aXi {o:Oper}{n:Nat}{rd q:Rd}{v:V}{h:List (Nat×Option AObj)}{ob I:List Prop}{f:Eff}(e:val o n rd v h ob=some (q,f,I)):∃d,o.dst=some d∧d<n∧q=rd∧f=⟨some (d,some v),h⟩∧I=ob:=by
 unfold val at e;split at e
 ·rename_i d hd;obtain⟨h1,h2⟩:=eE e;cases h2;exact⟨d,hd,iE h1,rfl,rfl,rfl⟩
 ·cases e
theorem aZw {o:Oper}{rd q:Rd}{h:List (Nat×Option AObj)}{ob I:List Prop}{f:Eff}(e:eff o rd h ob=some (q,f,I)):o.dst=none∧q=rd∧f=⟨none,h⟩∧I=ob:=by
 unfold eff at e;split at e
 ·rename_i hd;cases e;exact⟨hd,rfl,rfl,rfl⟩
 ·cases e
theorem Snd.val {P:Program}{n:Nat}{o:Oper}{st:St}{ob q:List Prop}{rd:Rd}{v:V}{h:List (Nat×Option AObj)}(hk:∀d,o.dst=some d→d<n→iL q→iL ob∧Step P n o st rd ⟨some (d,some v),h⟩):Snd P n o st ob (Go.AM.val o n rd v h q):=by
 intro J f I e hc;obtain⟨d,h1,h2,rfl,rfl,rfl⟩:=aXi e;exact hk d h1 h2 hc
theorem Snd.eff {P:Program}{n:Nat}{o:Oper}{st:St}{ob q:List Prop}{rd:Rd}{h:List (Nat×Option AObj)}(hk:o.dst=none→iL q→iL ob∧Step P n o st rd ⟨none,h⟩):Snd P n o st ob (Go.AM.eff o rd h q):=by
 intro J f I e hc;obtain⟨h1,rfl,rfl,rfl⟩:=aZw e;exact hk h1 hc
theorem Snd.none {P:Program}{n:Nat}{o:Oper}{st:St}{ob:List Prop}:Snd P n o st ob none:=by
 intro rd f q e;cases e
theorem Snd.bind {P:Program}{n:Nat}{o:Oper}{st:St}{ob:List Prop}{α:Type}{x:Option α}{k:α→Ans}(h:∀y,x=some y→Snd P n o st ob (k y)):Snd P n o st ob (x.bind k):=by
 intro rd f q e;rw[Ag] at e;obtain⟨y,h1,h2⟩:=e;exact h y h1 rd f q h2
theorem Snd.cond {P:Program}{n:Nat}{o:Oper}{st:St}{ob:List Prop}{b:Bool}{r:Ans}(h:b=true→Snd P n o st ob r):Snd P n o st ob (bif b then r else Option.none):=by
 cases b
 ·exact Snd.none
 ·exact h rfl
section
variable {P:Program}{n:Nat}{o:Oper}{st:St}{ob:List Prop}{tr:Tr}{md:Bool}
def aG3 (o:Oper) (n:Nat) (st:St) (ob:List Prop) (x:Operand):Ans:=(opO st x).bind fun y=>val o n ⟨opr x,[]⟩ y [] ob
theorem aN1 {x:Operand}(ho:o.op=.move x):Snd P n o st ob (aG3 o n st ob x):=
 Snd.bind fun y I=>Snd.val fun _ hd q hc=>⟨hc,aYl ho hd q (by rw[←cE];exact I)⟩
theorem aDr {x:Operand}(ho:o.op=.assign x):Snd P n o st ob (aG3 o n st ob x):=
 Snd.bind fun y I=>Snd.val fun _ hd q hc=>⟨hc,aP3 ho hd q (by rw[←cE];exact I)⟩
def aPd (hn:Hn) (b:Bool) (ob:List Prop):Bool×List Prop:=match hn with
 | .bv w=>(w,(b=w)::ob)
 | _=>match b with
  | true=>(true,ob)
  | false=>(false,ob)
theorem qW {hn:Hn}{b w:Bool}{ob q:List Prop}(h:aPd hn b ob=(w,q)):iL q→iL ob∧b=w:=by
 unfold aPd at h;split at h
 ·cases h;exact fun h=>⟨h.2,h.1⟩
 ·cases b<;>(cases h;exact fun h=>⟨h,rfl⟩)
def aTq (o:Oper) (n:Nat) (st:St) (ob:List Prop) (hn:Hn) (c x y:Operand):Ans:=(opO st c).bind fun v=>match v with
 | .one (.c (.bool b))=>match aPd hn b ob with
  | (true,ob')=>(opO st x).bind fun z=>val o n ⟨opr c++opr x,[]⟩ z [] ob'
  | (false,ob')=>(opO st y).bind fun z=>val o n ⟨opr c++opr y,[]⟩ z [] ob'
 | _=>none
theorem aNz {hn:Hn}{c x y:Operand}(ho:o.op=.pick c x y):Snd P n o st ob (aTq o n st ob hn c x y):=by
 refine Snd.bind fun v hv=>?_
 rw[cE] at hv;split
 ·rename_i b;split
  ·rename_i J ht;refine Snd.bind fun z q=>Snd.val fun _ hd I hc=>?_
   rw[cE] at q;obtain⟨h1,h2⟩:=qW ht hc;exact⟨h1,aPw ho hd I hv h2 q⟩
  ·rename_i J ht;refine Snd.bind fun z q=>Snd.val fun _ hd I hc=>?_
   rw[cE] at q;obtain⟨h1,h2⟩:=qW ht hc;exact⟨h1,aPx ho hd I hv h2 q⟩
 ·exact Snd.none
def aA8 (o:Oper) (n:Nat) (st:St) (ob:List Prop) (x:Operand) (i:Nat):Ans:=(opO st x).bind fun v=>match v with
 | .tup l=>(l[i]?).bind fun z=>val o n ⟨opr x,[]⟩ z [] ob
 | _=>none
theorem aA7 {x:Operand}{i:Nat}(ho:o.op=.extract x i):Snd P n o st ob (aA8 o n st ob x i):=by
 refine Snd.bind fun v hv=>?_
 rw[cE] at hv;split
 ·exact Snd.bind fun z I=>Snd.val fun _ hd q hc=>⟨hc,aKo ho hd q hv I⟩
 ·exact Snd.none
def aOb (tr:Tr) (o:Oper) (n:Nat) (st:St) (ob:List Prop) (id:Nat) (t:TypeId):Ans:=(tr.get t).bind fun i=>(frc (i.zero.map R.c)).bind fun z=>match st.h id with
 | none=>val o n ⟨[],[id]⟩ (.one (.vp id 0)) [(id,some (.var t z))] ob
 | some _=>none
theorem aIm {id:Nat}{t:TypeId}(hw:tr.wf=true) (J:Tok P tr.flat) (ho:o.op=.alloc t):Snd P n o st ob (aOb tr o n st ob id t):=by
 refine Snd.bind fun i hi=>Snd.bind fun z q=>?_
 rw[kK] at q;cases q;split
 ·rename_i hid;exact Snd.val fun _ hd I hc=>⟨hc,aUn id J ho hd I (Tr.get_ok hw hi) hid⟩
 ·exact Snd.none
def a0y (o:Oper) (n:Nat) (st:St) (ob:List Prop) (id:Nat) (t:TypeId) (x:Operand):Ans:=(opO st x).bind fun v=>(oH v).bind fun rs=>match st.h id with
 | none=>val o n ⟨opr x,[id]⟩ (.one (.vp id 0)) [(id,some (.var t rs))] ob
 | some _=>none
theorem aRz {id:Nat}{t:TypeId}{x:Operand}(ho:o.op=.box t x):Snd P n o st ob (a0y o n st ob id t x):=by
 refine Snd.bind fun v hv=>Snd.bind fun rs q=>?_
 rw[cE] at hv;rw[j1] at q;split
 ·rename_i hid;exact Snd.val fun _ hd I hc=>⟨hc,a16 id ho hd I hv q hid⟩
 ·exact Snd.none
def aWq (tr:Tr) (o:Oper) (n:Nat) (st:St) (ob:List Prop) (id:Nat) (t:TypeId) (r:Option Operand):Ans:=match r with
 | some _=>none
 | none=>(tr.get t).bind fun i=>match i.k with
  | .mp _ e=>(tr.get e).bind fun ei=>match st.h id with
   | none=>val o n ⟨[],[id]⟩ (.one (.mr id)) [(id,some (.map ei.k.agg []))] ob
   | some _=>none
  | _=>none
theorem aRv {id:Nat}{t:TypeId}{r:Option Operand}(ho:o.op=.makeMap t r):Snd P n o st ob (aWq tr o n st ob id t r):=by
 unfold aWq;split
 ·exact Snd.none
 ·refine Snd.bind fun i hi=>?_
  split
  ·refine Snd.bind fun ei I=>?_
   split
   ·rename_i hid;exact Snd.val fun _ hd q hc=>⟨hc,aKf id _ ho hd q hid⟩
   ·exact Snd.none
  ·exact Snd.none
def aX4 (hn:Hn) (elems:List (List C)) (k:Nat) (ob:List Prop):Option (List C×List Prop):=match hn with
 | .row _ r=>some (r,(elems[k]?=some r)::ob)
 | _=>match elems[k]? with
  | some r=>some (r,ob)
  | none=>none
theorem aCn {hn:Hn}{elems:List (List C)}{k:Nat}{ob q:List Prop}{r:List C}(h:aX4 hn elems k ob=some (r,q)):iL q→iL ob∧elems[k]?=some r:=by
 unfold aX4 at h;split at h
 ·cases h;exact fun h=>⟨h.2,h.1⟩
 ·split at h
  ·rename_i h1;cases h;exact fun h=>⟨h,h1⟩
  ·cases h
def aPr (hn:Hn) (elems:List (List R)) (k:Nat) (ob:List Prop):Option (List R×List Prop):=match hn with
 | .rr r=>some (r,(elems[k]?=some r)::ob)
 | _=>match elems[k]? with
  | some r=>some (r,ob)
  | none=>none
theorem aE6 {hn:Hn}{elems:List (List R)}{k:Nat}{ob q:List Prop}{r:List R}(h:aPr hn elems k ob=some (r,q)):iL q→iL ob∧elems[k]?=some r:=by
 unfold aPr at h;split at h
 ·cases h;exact fun h=>⟨h.2,h.1⟩
 ·split at h
  ·rename_i h1;cases h;exact fun h=>⟨h,h1⟩
  ·cases h
def aTr (tr:Tr) (md:Bool) (o:Oper) (n:Nat) (st:St) (ob:List Prop) (hn:Hn) (t:TypeId) (x:Operand):Ans:=(tr.get t).bind fun i=>(opO st x).bind fun v=>match v with
 | .one (.vp id off)=>match st.h id with
  | some (.var _ cells)=>bif Nat.ble (off+i.size) cells.length then(tak i.size (cells.drop off)).bind fun rs=>(aH4 i rs).bind fun y=>val o n ⟨opr x,[id]⟩ y [] ob else none
  | _=>none
 | .one (.c (.pt l))=>(tak i.size l).bind fun cs=>(aF6 i cs).bind fun y=>val o n ⟨opr x,[]⟩ y [] ob
 | .one (.pas l)=>(tak i.size l).bind fun cs=>(aH4 i cs).bind fun y=>val o n ⟨opr x,[]⟩ y [] ob
 | .one (.ep id k fo sz)=>match st.h id with
  | some (.arr _ es elems _)=>(iT md (sz=elems.length) ob).bind fun ob1=>(aX4 hn elems k ob1).bind fun(r,ob2)=>
   bif Nat.ble (fo+i.size) es then(tak i.size (r.drop fo)).bind fun cs=>(aF6 i cs).bind fun y=>val o n ⟨opr x,[id]⟩ y [] ob2 else none
  | _=>none
 | .one (.rp id k fo sz)=>match st.h id with
  | some (.rarr _ es elems)=>(iT md (sz=elems.length) ob).bind fun ob1=>(aPr hn elems k ob1).bind fun(r,ob2)=>
   bif Nat.ble (fo+i.size) es then(tak i.size (r.drop fo)).bind fun cs=>(aH4 i cs).bind fun y=>val o n ⟨opr x,[id]⟩ y [] ob2 else none
  | _=>none
 | _=>none
theorem aN2 {hn:Hn}{t:TypeId}{x:Operand}(hw:tr.wf=true) (N:Tok P tr.flat) (ho:o.op=.load t x):Snd P n o st ob (aTr tr md o n st ob hn t x):=by
 refine Snd.bind fun i hi=>Snd.bind fun v hv=>?_
 rw[cE] at hv
 replace hi:=Tr.get_ok hw hi
 split
 ·rename_i id off;split
  ·rename_i tv cells hh;refine Snd.cond fun hb=>Snd.bind fun rs O=>Snd.bind fun y q=>Snd.val fun _ hd I hc=>⟨hc,?_⟩
   obtain⟨h1,h2⟩:=rQ O;rw[rC,←h2] at q;exact aYm N ho hd I hi hv hh hb q
  ·exact Snd.none
 ·rename_i l;refine Snd.bind fun cs J=>Snd.bind fun y q=>Snd.val fun _ hd I hc=>⟨hc,?_⟩
  obtain⟨h1,h2⟩:=rQ J;rw[aAd,←h2] at q;exact aKj N ho hd I hi hv h1 q
 ·rename_i l;refine Snd.bind fun cs J=>Snd.bind fun y q=>Snd.val fun _ hd I hc=>⟨hc,?_⟩
  obtain⟨h1,h2⟩:=rQ J;rw[rC,←h2] at q;exact aHp N ho hd I hi hv h1 q
 ·rename_i id k fo sz;split
  ·rename_i te es elems fz hh;refine Snd.bind fun W h1=>Snd.bind fun p h2=>?_
   obtain⟨r,Y⟩:=p;refine Snd.cond fun h3=>Snd.bind fun cs J=>Snd.bind fun y q=>Snd.val fun _ hd I hc=>?_
   obtain⟨g1,g2⟩:=aCn h2 hc;obtain⟨g3,g4⟩:=aZ h1 g1;obtain⟨h4,h5⟩:=rQ J;rw[aAd,←h5] at q;exact⟨g3,aKk N ho hd I hi hv hh g4 g2 (Ap h3) q⟩
  ·exact Snd.none
 ·rename_i id k fo sz;split
  ·rename_i te es elems hh;refine Snd.bind fun W h1=>Snd.bind fun p h2=>?_
   obtain⟨r,Y⟩:=p;refine Snd.cond fun h3=>Snd.bind fun cs J=>Snd.bind fun y q=>Snd.val fun _ hd I hc=>?_
   obtain⟨g1,g2⟩:=aE6 h2 hc;obtain⟨g3,g4⟩:=aZ h1 g1;obtain⟨h4,h5⟩:=rQ J;rw[rC,←h5] at q;exact⟨g3,aKi N ho hd I hi hv hh g4 g2 (Ap h3) q⟩
  ·exact Snd.none
 ·exact Snd.none
def aW2 {α:Type}(l:List α) (off:Nat) (new:List α):Option (List α):=frc (bU l off new)
def aNw (tr:Tr) (md:Bool) (o:Oper) (st:St) (ob:List Prop) (hn:Hn) (t:TypeId) (x y:Operand):Ans:=(tr.get t).bind fun i=>(opO st x).bind fun v=>(opO st y).bind fun u=>(oH u).bind fun rs=>bif Nat.beq rs.length i.size then(match v with
 | .one (.vp id off)=>match st.h id with
  | some (.var tv cells)=>bif Nat.ble (off+i.size) cells.length then(aW2 cells off rs).bind fun cs=>eff o ⟨opr x++opr y,[id]⟩ [(id,some (.var tv cs))] ob else none
  | _=>none
 | .one (.ep id k fo sz)=>match st.h id with
  | some (.arr te es elems 0)=>(j3 rs).bind fun cs=>(iT md (sz=elems.length) ob).bind fun ob1=>(aX4 hn elems k ob1).bind fun(r,ob2)=>
   bif Nat.ble (fo+i.size) es then(aW2 r fo cs).bind fun r'=>eff o ⟨opr x++opr y,[id]⟩ [(id,some (.arr te es (elems.set k r') 0))] ob2 else none
  | _=>none
 | .one (.rp id k fo sz)=>match st.h id with
  | some (.rarr te es elems)=>(iT md (sz=elems.length) ob).bind fun ob1=>(aPr hn elems k ob1).bind fun(r,ob2)=>
   bif Nat.ble (fo+i.size) es then(aW2 r fo rs).bind fun r'=>eff o ⟨opr x++opr y,[id]⟩ [(id,some (.rarr te es (elems.set k r')))] ob2 else none
  | _=>none
 | _=>none) else none
theorem aIg {hn:Hn}{t:TypeId}{x y:Operand}(hw:tr.wf=true) (O:Tok P tr.flat) (ho:o.op=.store t x y):Snd P n o st ob (aNw tr md o st ob hn t x y):=by
 refine Snd.bind fun i hi=>Snd.bind fun v hv=>Snd.bind fun u hu=>Snd.bind fun rs J=>Snd.cond fun hl=>?_
 rw[cE] at hv hu;rw[j1] at J
 replace hi:=Tr.get_ok hw hi
 have N:=ε hl;split
 ·rename_i id off;split
  ·rename_i tv cells hh;refine Snd.cond fun hb=>Snd.bind fun cs I=>Snd.eff fun hd hc=>⟨hc,?_⟩
   unfold aW2 at I;rw[kK] at I;cases I;exact aUf O ho hd hi hv hu J hh N hb
  ·exact Snd.none
 ·rename_i id k fo sz;split
  ·rename_i te es elems hh;refine Snd.bind fun cs I=>Snd.bind fun W h1=>Snd.bind fun p h2=>?_
   obtain⟨r,Y⟩:=p;refine Snd.cond fun h3=>Snd.bind fun r' q=>Snd.eff fun hd hc=>?_
   obtain⟨g1,g2⟩:=aCn h2 hc;obtain⟨g3,g4⟩:=aZ h1 g1;unfold aW2 at q;rw[kK] at q;cases q;refine⟨g3,aHm O ho hd hi hv hu J I hh g4 g2 ?_ (Ap h3)⟩;have:=nQ I;rw[this] at N;simpa using N
  ·exact Snd.none
 ·rename_i id k fo sz;split
  ·rename_i te es elems hh;refine Snd.bind fun W h1=>Snd.bind fun p h2=>?_
   obtain⟨r,Y⟩:=p;refine Snd.cond fun h3=>Snd.bind fun r' q=>Snd.eff fun hd hc=>?_
   obtain⟨g1,g2⟩:=aE6 h2 hc;obtain⟨g3,g4⟩:=aZ h1 g1;unfold aW2 at q;rw[kK] at q;cases q;exact⟨g3,aHl O ho hd hi hv hu J hh g4 g2 N (Ap h3)⟩
  ·exact Snd.none
 ·exact Snd.none
def tC (tr:Tr) (md:Bool) (o:Oper) (n:Nat) (st:St) (ob:List Prop) (t:TypeId) (x:Operand) (f:Nat):Ans:=(tr.get t).bind fun i=>match i.k with
 | .st fs=>(fs[f]?).bind fun(foff,ft)=>(tr.get ft).bind fun fi=>bif Nat.ble 1 fi.size then((opO st x).bind fun v=>match v with
  | .one (.vp id off)=>val o n ⟨opr x,[]⟩ (.one (.vp id (off+foff))) [] ob
  | .one (.c (.pt l))=>val o n ⟨opr x,[]⟩ (.one (.c (.pt (l.drop foff)))) [] ob
  | .one (.pas l)=>val o n ⟨opr x,[]⟩ (.one (.pas (l.drop foff))) [] ob
  | .one (.ep id k fo sz)=>match st.h id with
   | some (.arr _ _ elems _)=>(iT md (sz=elems.length) ob).bind fun ob1=>val o n ⟨opr x,[id]⟩ (.one (.ep id k (fo+foff) sz)) [] ob1
   | _=>none
  | .one (.rp id k fo sz)=>match st.h id with
   | some (.rarr _ _ elems)=>(iT md (sz=elems.length) ob).bind fun ob1=>val o n ⟨opr x,[id]⟩ (.one (.rp id k (fo+foff) sz)) [] ob1
   | _=>none
  | _=>none) else none
 | _=>none
theorem u5 {t:TypeId}{x:Operand}{f:Nat}(hw:tr.wf=true) (N:Tok P tr.flat) (ho:o.op=.fieldAddr t x f):Snd P n o st ob (tC tr md o n st ob t x f):=by
 refine Snd.bind fun i hi=>?_
 replace hi:=Tr.get_ok hw hi
 split
 ·rename_i fs hk;refine Snd.bind fun p hf=>?_
  obtain⟨W,ft⟩:=p;refine Snd.bind fun Y I=>Snd.cond fun Z=>Snd.bind fun v hv=>?_
  replace I:=Tr.get_ok hw I
  have J:Y.size≠0:=by have:=Ap Z;omega
  rw[cE] at hv;split
  ·exact Snd.val fun _ hd q hc=>⟨hc,aHr N ho hd q hi hk hf I J hv⟩
  ·exact Snd.val fun _ hd q hc=>⟨hc,aHt N ho hd q hi hk hf I J hv⟩
  ·exact Snd.val fun _ hd q hc=>⟨hc,aCs N ho hd q hi hk hf I J hv⟩
  ·split
   ·rename_i hh;exact Snd.bind fun O h1=>Snd.val fun _ hd q hc=>⟨(aZ h1 hc).1,aHu N ho hd q hi hk hf I J hv hh (aZ h1 hc).2⟩
   ·exact Snd.none
  ·split
   ·rename_i hh;exact Snd.bind fun O h1=>Snd.val fun _ hd q hc=>⟨(aZ h1 hc).1,aHs N ho hd q hi hk hf I J hv hh (aZ h1 hc).2⟩
   ·exact Snd.none
  ·exact Snd.none
 ·exact Snd.none
def aN6 (tr:Tr) (o:Oper) (n:Nat) (st:St) (ob:List Prop) (t:TypeId) (x:Operand) (f:Nat):Ans:=(tr.get t).bind fun i=>match i.k with
 | .st fs=>(fs[f]?).bind fun(foff,ft)=>(tr.get ft).bind fun fi=>(opO st x).bind fun v=>(oH v).bind fun rs=>
  bif (match v with | .pa _=>true | .ma _=>true | _=>false) then bif Nat.ble (foff+fi.size) rs.length then(tak fi.size (rs.drop foff)).bind fun l=>(aH4 fi l).bind fun y=>val o n ⟨opr x,[]⟩ y [] ob else none else none
 | _=>none
theorem aIk {t:TypeId}{x:Operand}{f:Nat}(hw:tr.wf=true) (Y:Tok P tr.flat) (ho:o.op=.field t x f):Snd P n o st ob (aN6 tr o n st ob t x f):=by
 refine Snd.bind fun i hi=>?_
 replace hi:=Tr.get_ok hw hi
 split
 ·rename_i fs hk;refine Snd.bind fun p hf=>?_
  obtain⟨Z,ft⟩:=p;refine Snd.bind fun fi q=>Snd.bind fun v hv=>Snd.bind fun rs I=>Snd.cond fun J=>Snd.cond fun hl=>Snd.bind fun l N=>Snd.bind fun y O=>?_
  replace q:=Tr.get_ok hw q
  rw[cE] at hv;rw[j1] at I;rw[rC,←(rQ N).2] at O;exact Snd.val fun _ hd W hc=>⟨hc,aUi Y ho hd W hi hk hf q hv (by cases v<;>first | rfl | exact J) I hl O⟩
 ·exact Snd.none
def atO (hn:Hn) (m:Int) (ob:List Prop):Option (Nat×List Prop):=match hn with
 | .row k _=>some (k,(m=(k:Int))::ob)
 | .rowR k _=>some (k,(m=(k:Int))::ob)
 | _=>match m with
  | .ofNat k=>some (k,ob)
  | .negSucc _=>none
theorem vU {hn:Hn}{m:Int}{k:Nat}{ob q:List Prop}(h:atO hn m ob=some (k,q)):iL q→iL ob∧m=(k:Int):=by
 unfold atO at h;split at h
 ·cases h;exact fun h=>⟨h.2,h.1⟩
 ·cases h;exact fun h=>⟨h.2,h.1⟩
 ·split at h
  ·cases h;exact fun h=>⟨h,rfl⟩
  ·cases h
def a1g (a b:Nat):Option Nat:=match a with
 | 0=>some b
 | a+1=>some (a+1+b)
theorem aOo {a b c:Nat}(h:a1g a b=some c):a+b=c:=by
 unfold a1g at h;split at h<;>cases h
 ·exact A6 _
 ·rfl
def tB (tr:Tr) (md:Bool) (o:Oper) (n:Nat) (st:St) (ob:List Prop) (hn:Hn) (t:TypeId) (x y:Operand):Ans:=(tr.get t).bind fun i=>match i.k with
 | .sl e=>(tr.get e).bind fun ei=>(opO st x).bind fun v=>(opO st y).bind fun u=>match u with
  | .one (.c (.int _ m))=>(atO hn m ob).bind fun(k,ob1)=>match v with
   | .one (.c (.sl es l))=>bif Nat.beq ei.size es then(aX4 hn l k ob1).bind fun(r,ob2)=>val o n ⟨opr x++opr y,[]⟩ (.one (.c (.pt r))) [] ob2 else none
   | .one (.hs id off len sz)=>match st.h id with
    | some (.arr _ es elems _)=>bif Nat.beq ei.size es then(iT md (sz=elems.length) ob1).bind fun ob2=>(iT md (k<len) ob2).bind fun ob3=>(a1g off k).bind fun j=>val o n ⟨opr x++opr y,[id]⟩ (.one (.ep id j 0 sz)) [] ob3 else none
    | _=>none
   | .one (.ra id off len sz)=>match st.h id with
    | some (.rarr _ es elems)=>bif Nat.beq ei.size es then(iT md (sz=elems.length) ob1).bind fun ob2=>(iT md (k<len) ob2).bind fun ob3=>(a1g off k).bind fun j=>val o n ⟨opr x++opr y,[id]⟩ (.one (.rp id j 0 sz)) [] ob3 else none
    | _=>none
   | .one (.ras n' es l)=>bif Nat.beq ei.size es then(iT md (k<n') ob1).bind fun ob2=>match hn with
    | .rowR _ r=>val o n ⟨opr x++opr y,[]⟩ (.one (.pas r)) [] (((l.drop (k*es)).take es=r)::ob2)
    | _=>(frc ((l.drop (k*es)).take es)).bind fun r=>val o n ⟨opr x++opr y,[]⟩ (.one (.pas r)) [] ob2 else none
   | _=>none
  | _=>none
 | .ar m' e=>(tr.get e).bind fun ei=>(opO st x).bind fun v=>(opO st y).bind fun u=>match u with
  | .one (.c (.int _ m))=>(atO hn m ob).bind fun(k,ob1)=>match v with
   | .one (.vp id off)=>(iT md (k<m') ob1).bind fun ob2=>val o n ⟨opr x++opr y,[]⟩ (.one (.vp id (off+k*ei.size))) [] ob2
   | _=>none
  | _=>none
 | _=>none
theorem u4 {hn:Hn}{t:TypeId}{x y:Operand}(hw:tr.wf=true) (W:Tok P tr.flat) (ho:o.op=.indexAddr t x y):Snd P n o st ob (tB tr md o n st ob hn t x y):=by
 refine Snd.bind fun i hi=>?_
 replace hi:=Tr.get_ok hw hi
 split
 ·rename_i e hk;refine Snd.bind fun ei q=>Snd.bind fun v hv=>Snd.bind fun u hu=>?_
  replace q:=Tr.get_ok hw q
  rw[cE] at hv hu;split
  ·rename_i kk m;refine Snd.bind fun p hp=>?_
   obtain⟨k,Y⟩:=p;dsimp only;split
   ·rename_i es l;refine Snd.cond fun J=>Snd.bind fun p h2=>?_
    obtain⟨r,O⟩:=p;refine Snd.val fun _ hd I hc=>?_
    obtain⟨g1,g2⟩:=aCn h2 hc;obtain⟨g3,g4⟩:=vU hp g1;exact⟨g3,aUh W ho hd I hi hk q (ε J) hv hu g4 g2⟩
   ·rename_i id off len sz;split
    ·rename_i te es elems fz hh;refine Snd.cond fun J=>Snd.bind fun O h2=>Snd.bind fun Z h3=>Snd.bind fun j N=>Snd.val fun _ hd I hc=>?_
     have N:=aOo N;subst N;obtain⟨g1,g2⟩:=aZ h3 hc;obtain⟨g3,g4⟩:=aZ h2 g1;obtain⟨g5,g6⟩:=vU hp g3;exact⟨g5,uR W ho hd I hi hk q (ε J) hv hh g4 hu g6 g2⟩
    ·exact Snd.none
   ·rename_i id off len sz;split
    ·rename_i te es elems hh;refine Snd.cond fun J=>Snd.bind fun O h2=>Snd.bind fun Z h3=>Snd.bind fun j N=>Snd.val fun _ hd I hc=>?_
     have N:=aOo N;subst N;obtain⟨g1,g2⟩:=aZ h3 hc;obtain⟨g3,g4⟩:=aZ h2 g1;obtain⟨g5,g6⟩:=vU hp g3;exact⟨g5,aHq W ho hd I hi hk q (ε J) hv hh g4 hu g6 g2⟩
    ·exact Snd.none
   ·rename_i n' es l;refine Snd.cond fun J=>Snd.bind fun O h2=>?_
    have J:=ε J;split
    ·refine Snd.val fun _ hd I hc=>?_
     obtain⟨c1,c2⟩:=hc;obtain⟨g1,g2⟩:=aZ h2 c2;obtain⟨g3,g4⟩:=vU hp g1;exact⟨g3,s6 W ho hd I hi hk q J hv hu g4 g2 c1⟩
    ·refine Snd.bind fun r hr=>Snd.val fun _ hd I hc=>?_
     rw[kK] at hr;cases hr;obtain⟨g1,g2⟩:=aZ h2 hc;obtain⟨g3,g4⟩:=vU hp g1;exact⟨g3,s6 W ho hd I hi hk q J hv hu g4 g2 rfl⟩
   ·exact Snd.none
  ·exact Snd.none
 ·rename_i m' e hk;refine Snd.bind fun ei q=>Snd.bind fun v hv=>Snd.bind fun u hu=>?_
  replace q:=Tr.get_ok hw q
  rw[cE] at hv hu;split
  ·rename_i kk m;refine Snd.bind fun p hp=>?_
   obtain⟨k,Y⟩:=p;dsimp only;split
   ·rename_i id off;refine Snd.bind fun O h2=>Snd.val fun _ hd I hc=>?_
    obtain⟨g1,g2⟩:=aZ h2 hc;obtain⟨g3,g4⟩:=vU hp g1;exact⟨g3,aCr W ho hd I hi hk q hv hu g4 g2⟩
   ·exact Snd.none
  ·exact Snd.none
 ·exact Snd.none
def a0w (md:Bool) (o:Oper) (n:Nat) (st:St) (ob:List Prop) (x:Operand):Ans:=(opO st x).bind fun v=>match v with
 | .one (.ep id k fo sz)=>match st.h id with
  | some (.arr _ _ elems _)=>(iT md (sz=elems.length) ob).bind fun ob1=>val o n ⟨opr x,[id]⟩ (.one (.ep id k fo sz)) [] ob1
  | _=>none
 | .one (.rp id k fo sz)=>match st.h id with
  | some (.rarr _ _ elems)=>(iT md (sz=elems.length) ob).bind fun ob1=>val o n ⟨opr x,[id]⟩ (.one (.rp id k fo sz)) [] ob1
  | _=>none
 | v=>bif notNil v then val o n ⟨opr x,[]⟩ v [] ob else none
theorem aRu {x:Operand}(ho:o.op=.nilCheck x):Snd P n o st ob (a0w md o n st ob x):=by
 refine Snd.bind fun v hv=>?_
 rw[cE] at hv;split
 ·split
  ·rename_i hh;exact Snd.bind fun I h1=>Snd.val fun _ hd q hc=>⟨(aZ h1 hc).1,wT ho hd q hv hh (aZ h1 hc).2⟩
  ·exact Snd.none
 ·split
  ·rename_i hh;exact Snd.bind fun I h1=>Snd.val fun _ hd q hc=>⟨(aZ h1 hc).1,wS ho hd q hv hh (aZ h1 hc).2⟩
  ·exact Snd.none
 ·exact Snd.cond fun h=>Snd.val fun _ hd q hc=>⟨hc,aHn ho hd q hv h⟩
def sA (tr:Tr):List (Nat×TypeId)→Option (List (Nat×Nat))
 | []=>some []
 | (off,t)::fs=>(tr.get t).bind fun i=>(sA tr fs).bind fun l=>some ((off,i.size)::l)
theorem uV {tr:Tr}(hw:tr.wf=true):∀{fs:List (Nat×TypeId)}{l:List (Nat×Nat)},sA tr fs=some l→kX tr.flat fs=some l
 | [],l,h=>by simpa [sA,kX] using h
 | (off,t)::fs,l,h=>by
  simp only[sA,Ag] at h;obtain⟨i,hi,l',q,h⟩:=h;simp only[kX,Tr.get_ok hw hi,uV hw q,h]
def aFo (st:St):List (Nat×Operand)→Option (List (Nat×List R))
 | []=>some []
 | (i,x)::ps=>(opO st x).bind fun v=>(oH v).bind fun rs=>(aFo st ps).bind fun l=>some ((i,rs)::l)
theorem zV (st:St):∀ps:List (Nat×Operand),aFo st ps=qC st ps
 | []=>rfl
 | (i,x)::ps=>by
  simp only[aFo,qC,cE,j1,zV st ps];cases opv st x with
  | none=>rfl
  | some v=>
   simp only[Cl];cases i6 v with
   | none=>rfl
   | some rs=>
    simp only[Cl];cases qC st ps<;>rfl
def aQ6 (st:St):List Operand→Option (List R)
 | []=>some []
 | x::xs=>(opO st x).bind fun v=>match v with
  | .one r=>(aQ6 st xs).bind fun l=>some (r::l)
  | _=>none
theorem aGp (st:St):∀xs:List Operand,aQ6 st xs=aAq st xs
 | []=>rfl
 | x::xs=>by
  simp only[aQ6,aAq,cE,aGp st xs];cases opv st x with
  | none=>rfl
  | some v=>
   simp only[Cl];cases v<;>try rfl
   cases aAq st xs<;>rfl
def aOa (tr:Tr) (o:Oper) (n:Nat) (st:St) (ob:List Prop) (t:TypeId) (parts:Array (Nat×Operand)):Ans:=(tr.get t).bind fun i=>match i.k with
 | .st fs=>(sA tr fs).bind fun places=>(aFo st parts.toList).bind fun ps=>(aH9 places (i.zero.map R.c) ps).bind fun out=>(frc out).bind fun out=>(a1f out).bind fun y=>val o n ⟨gO parts.toList,[]⟩ y [] ob
 | _=>none
theorem aIl {t:TypeId}{parts:Array (Nat×Operand)}(hw:tr.wf=true) (W:Tok P tr.flat) (ho:o.op=.build t parts):Snd P n o st ob (aOa tr o n st ob t parts):=by
 refine Snd.bind fun i hi=>?_
 replace hi:=Tr.get_ok hw hi
 split
 ·rename_i fs hk;refine Snd.bind fun places q=>Snd.bind fun ps I=>Snd.bind fun out hf=>Snd.bind fun Y J=>Snd.bind fun y N=>Snd.val fun _ hd O hc=>⟨hc,?_⟩
  replace q:=uV hw q
  rw[zV] at I;rw[kK] at J;cases J;rw[aOn] at N;cases N;exact aUm W ho hd O hi hk q I hf
 ·exact Snd.none
def oI (tr:Tr):Nat→List TypeId→List Nat
 | 0,_=>[]
 | _+1,[]=>[]
 | f+1,t::ts=>match tr.get t with
  | some i=>match i.k with
   | .sl e=>match tr.get e with
    | some ei=>(ei.size+1)::oI tr f ts
    | none=>0::oI tr f ts
   | .st fs=>oI tr f (fs.map (·.2)++ts)
   | _=>0::oI tr f ts
  | none=>0::oI tr f ts
def nrm:List Nat→List C→List C
 | _,[]=>[]
 | [],cs=>cs
 | 0::es,c::cs=>c::nrm es cs
 | (e+1)::es,c::cs=>(match c with | .nl=>.sl e [] | c=>c)::nrm es cs
theorem mC {h:c7}:∀(es:List Nat) (cs:List C),PureL h [] (cs.map R.c) (nrm es cs)
 | es,[]=>by cases es<;>exact .nil
 | [],c::cs=>.of_pure
 | 0::es,c::cs=>.c .refl (mC es cs)
 | (e+1)::es,c::cs=>by
  simp only[nrm,Al];split
  ·exact .c .nl (mC es cs)
  ·exact .c .refl (mC es cs)
def aIu:List Nat→List C→Option (List C)
 | _,[]=>some []
 | [],cs=>frc cs
 | 0::es,c::cs=>(aIu es cs).bind fun l=>some (c::l)
 | (e+1)::es,c::cs=>match c with
  | .nl=>(aIu es cs).bind fun l=>some (.sl e []::l)
  | c=>(aIu es cs).bind fun l=>some (c::l)
theorem sE:∀(es:List Nat) (cs:List C),aIu es cs=some (nrm es cs)
 | es,[]=>by cases es with
  | nil=>simp[aIu,nrm]
  | cons e es=>cases e<;>simp[aIu,nrm]
 | [],c::cs=>by simp[aIu,nrm,kK]
 | 0::es,c::cs=>by simp[aIu,nrm,sE es cs]
 | (e+1)::es,c::cs=>by
  simp only[aIu,nrm,sE es cs,Cl];split<;>rfl
def aJ5 (st:St) (tys:List Nat) (es:Nat):Nat→List (Nat×Operand)→Option (List (List C))
 | _,[]=>some []
 | k,(i,x)::ps=>bif Nat.beq i k then(opO st x).bind fun v=>(oH v).bind fun rs=>(j3 rs).bind fun cs=>bif Nat.beq rs.length es then(aIu tys cs).bind fun cs=>(aJ5 st tys es (k+1) ps).bind fun l=>some (cs::l) else none else none
theorem aE5 {st:St}{tys:List Nat}{es:Nat}:∀{ps:List (Nat×Operand)}{k:Nat}{l:List (List C)},aJ5 st tys es k ps=some l→RowsV st es k [] ps l
 | [],k,l,h=>by simp[aJ5] at h;subst h;exact .nil
 | (i,x)::ps,k,l,h=>by
  simp only[aJ5] at h;obtain⟨h0,h⟩:=eE h;have:=ε h0;subst this;rw[Ag] at h;obtain⟨v,hv,h⟩:=h;rw[Ag] at h;obtain⟨rs,I,h⟩:=h;rw[Ag] at h;obtain⟨cs,J,h⟩:=h;obtain⟨hl,h⟩:=eE h;rw[Ag] at h;obtain⟨O,q,h⟩:=h;rw[sE] at q;cases q;rw[Ag] at h;obtain⟨l',N,h⟩:=h;cases h;rw[cE] at hv;rw[j1] at I;have hp:PureL st.h [] rs (nrm tys cs):=by rw[nQ J];exact mC tys cs
  exact .cons (ids:=[]) hv I hp hl (aE5 N)
def aNx (tr:Tr) (o:Oper) (n:Nat) (st:St) (ob:List Prop) (hn:Hn) (id:Nat) (t:TypeId) (len:Nat) (parts:Array (Nat×Operand)):Ans:=(tr.get t).bind fun i=>match i.k with
 | .sl e=>(tr.get e).bind fun ei=>bif Nat.beq len parts.size&&(Nat.ble (len*ei.size) 16777216&&Nat.ble len 16777216) then(match st.h id with
  | none=>match aJ5 st (oI tr 300 [e]) ei.size 0 parts.toList with
   | some rows=>match hn with
    | .all=>val o n ⟨gO parts.toList,[id]⟩ (.one (.c (.sl ei.size rows))) [(id,some (.arr e ei.size rows 2))] ob
    | _=>val o n ⟨gO parts.toList,[id]⟩ (.one (.hs id 0 len len)) [(id,some (.arr e ei.size rows 0))] ob
   | none=>(wP st ei.size 0 parts.toList).bind fun rows=>val o n ⟨gO parts.toList,[id]⟩ (.one (.ra id 0 len len)) [(id,some (.rarr e ei.size rows))] ob
  | some _=>none) else none
 | _=>none
theorem aIh {hn:Hn}{id:Nat}{t:TypeId}{len:Nat}{parts:Array (Nat×Operand)}(hw:tr.wf=true) (O:Tok P tr.flat) (ho:o.op=.buildSlice t len parts):Snd P n o st ob (aNx tr o n st ob hn id t len parts):=by
 refine Snd.bind fun i hi=>?_
 replace hi:=Tr.get_ok hw hi
 split
 ·rename_i e hk;refine Snd.bind fun ei q=>Snd.cond fun hb=>?_
  replace q:=Tr.get_ok hw q
  simp only[Ac] at hb;split
  ·rename_i hid;split
   ·rename_i rows J;have N:=aE5 J;split
    ·exact Snd.val fun _ hd I hc=>⟨hc,aPv id O ho hd I hi hk q N hb.1 hb.2.1 hb.2.2 hid⟩
    ·exact Snd.val fun _ hd I hc=>⟨hc,aKe id O ho hd I hi hk q N hb.1 hb.2.1 hb.2.2 hid⟩
   ·exact Snd.bind fun rows N=>Snd.val fun _ hd I hc=>⟨hc,aPu id O ho hd I hi hk q N hb.1 hb.2.1 hb.2.2 hid⟩
  ·exact Snd.none
 ·exact Snd.none
def aN5 (o:Oper) (n:Nat) (st:St) (ob:List Prop) (f:Fn) (first caps:Array Operand):Ans:=match f with
 | .func f=>match first.toList with
  | []=>(aQ6 st caps.toList).bind fun l=>val o n ⟨dH caps.toList,[]⟩ (.one (.clo f l)) [] ob
  | [x]=>match caps.toList with
   | []=>(opO st x).bind fun v=>match v with
    | .one c=>val o n ⟨opr x,[]⟩ (.one (.mth f c)) [] ob
    | _=>none
   | _=>none
  | _=>none
 | _=>none
theorem toList_nil {α:Type}{a:Array α}(h:a.toList=[]):a= #[]:=by
 cases a;simp at h;simp[h]
theorem aHg {α:Type}{a:Array α}{x:α}(h:a.toList=[x]):a= #[x]:=by
 cases a;simp at h;simp[h]
theorem aN4 {f:Fn}{first caps:Array Operand}(ho:o.op=.makeFunc f first caps):Snd P n o st ob (aN5 o n st ob f first caps):=by
 unfold aN5;split
 ·rename_i f;split
  ·rename_i h1;have:=toList_nil h1;subst this;refine Snd.bind fun l hl=>Snd.val fun _ hd q hc=>⟨hc,uQ ho hd q (by rw[←aGp];exact hl)⟩
  ·rename_i x h1;have:=aHg h1;subst this;split
   ·rename_i h2;have:=toList_nil h2;subst this;refine Snd.bind fun v hv=>?_
    split
    ·exact Snd.val fun _ hd q hc=>⟨hc,zN ho hd q (by rw[←cE];exact hv)⟩
    ·exact Snd.none
   ·exact Snd.none
  ·exact Snd.none
 ·exact Snd.none
def aW8 (st:St) (m:Nat):Option Operand→Option Nat
 | none=>some m
 | some x=>(opO st x).bind fun v=>match v with
  | .one (.c (.int _ (.ofNat k)))=>some k
  | _=>none
theorem lR {m k:Nat}{x:Option Operand}(h:aW8 st m x=some k):BndV st x m k:=by
 cases x with
 | none=>cases h;exact .no
 | some x=>
  simp only[aW8,Ag,cE] at h;obtain⟨v,hv,h⟩:=h;split at h
  ·cases h;exact .yes hv
  ·cases h
def a1c {α:Type}(l:List α) (lo hi:Nat) (low high:Option Operand):Option (List α):=match low,high with
 | none,none=>some l
 | none,some _=>some (l.take hi)
 | some _,none=>some (l.drop lo)
 | some _,some _=>some ((l.take hi).drop lo)
theorem aMz {α:Type}{l r:List α}{lo hi:Nat}{low high:Option Operand}(h1:BndV st low 0 lo) (h2:BndV st high l.length hi) (h:a1c l lo hi low high=some r):r=(l.take hi).drop lo:=by
 cases h1<;>cases h2<;>simp[a1c] at h<;>simp[h]
def aWs (tr:Tr) (md:Bool) (o:Oper) (n:Nat) (st:St) (ob:List Prop) (t:TypeId) (x:Operand) (low high mx:Option Operand):Ans:=match mx with
 | some _=>none
 | none=>(tr.get t).bind fun i=>(opO st x).bind fun v=>match i.k with
  | .sl e=>(tr.get e).bind fun ei=>match v with
   | .one (.c (.sl es l))=>bif Nat.beq ei.size es then(aW8 st 0 low).bind fun lo=>(aW8 st l.length high).bind fun hi=>(iT md (lo≤hi) ob).bind fun ob1=>(iT md (hi≤l.length) ob1).bind fun ob2=>
     (a1c l lo hi low high).bind fun r=>val o n ⟨opr x++aRr low++aRr high,[]⟩ (.one (.c (.sl es r))) [] ob2 else none
   | _=>none
  | .str=>match v with
   | .one (.c (.str s))=>(aW8 st 0 low).bind fun lo=>(aW8 st s.length high).bind fun hi=>(iT md (lo≤hi) ob).bind fun ob1=>(iT md (hi≤s.length) ob1).bind fun ob2=>
     (a1c s lo hi low high).bind fun r=>val o n ⟨opr x++aRr low++aRr high,[]⟩ (.one (.c (.str r))) [] ob2
   | _=>none
  | _=>none
theorem aRy {t:TypeId}{x:Operand}{low high Y:Option Operand}(hw:tr.wf=true) (Z:Tok P tr.flat) (ho:o.op=.slice t x low high Y):Snd P n o st ob (aWs tr md o n st ob t x low high Y):=by
 unfold aWs;split
 ·exact Snd.none
 ·refine Snd.bind fun i J=>Snd.bind fun v hv=>?_
  replace J:=Tr.get_ok hw J
  rw[cE] at hv;split
  ·rename_i e hk;refine Snd.bind fun ei N=>?_
   replace N:=Tr.get_ok hw N
   split
   ·rename_i es l;refine Snd.cond fun aa=>Snd.bind fun lo q=>Snd.bind fun hi I=>Snd.bind fun ab h1=>Snd.bind fun ac h2=>Snd.bind fun r W=>Snd.val fun _ hd O hc=>?_
    obtain⟨g1,g2⟩:=aZ h2 hc;obtain⟨g3,g4⟩:=aZ h1 g1;rw[aMz (lR q) (lR I) W];exact⟨g3,a15 Z ho hd O J hk N (ε aa) hv (lR q) (lR I) g4 g2⟩
   ·exact Snd.none
  ·rename_i hk;split
   ·rename_i s;refine Snd.bind fun lo q=>Snd.bind fun hi I=>Snd.bind fun ab h1=>Snd.bind fun ac h2=>Snd.bind fun r W=>Snd.val fun _ hd O hc=>?_
    obtain⟨g1,g2⟩:=aZ h2 hc;obtain⟨g3,g4⟩:=aZ h1 g1;rw[aMz (lR q) (lR I) W];exact⟨g3,aYb Z ho hd O J hk hv (lR q) (lR I) g4 g2⟩
   ·exact Snd.none
  ·exact Snd.none
def aN3 (tr:Tr) (o:Oper) (n:Nat) (st:St) (ob:List Prop) (hn:Hn) (t:TypeId) (x y:Operand):Ans:=(tr.get t).bind fun i=>match i.k with
 | .str=>(opO st x).bind fun v=>(opO st y).bind fun u=>match v,u with
  | .one (.c (.str s)),.one (.c (.int _ m))=>match hn with
   | .byte k b=>val o n ⟨opr x++opr y,[]⟩ (.one (.c (.int .u8 ((b.toNat:Nat):Int)))) [] ((m=(k:Int)∧s[k]?=some b)::ob)
   | _=>match m with
    | .ofNat k=>(s[k]?).bind fun b=>val o n ⟨opr x++opr y,[]⟩ (.one (.c (.int .u8 ((b.toNat:Nat):Int)))) [] ob
    | _=>none
  | _,_=>none
 | _=>none
theorem aIi {hn:Hn}{t:TypeId}{x y:Operand}(hw:tr.wf=true) (I:Tok P tr.flat) (ho:o.op=.index t x y):Snd P n o st ob (aN3 tr o n st ob hn t x y):=by
 refine Snd.bind fun i hi=>?_
 replace hi:=Tr.get_ok hw hi
 split
 ·rename_i hk;refine Snd.bind fun v hv=>Snd.bind fun u hu=>?_
  rw[cE] at hv hu;split
  ·split
   ·exact Snd.val fun _ hd q hc=>⟨hc.2,aSk I ho hd q hi hk hv hu hc.1.1 hc.1.2⟩
   ·split
    ·exact Snd.bind fun b hb=>Snd.val fun _ hd q hc=>⟨hc,aSk I ho hd q hi hk hv hu rfl hb⟩
    ·exact Snd.none
  ·exact Snd.none
 ·exact Snd.none
def aLk:List (List C)→Bool
 | []=>true
 | (.str _::_)::r=>aLk r
 | _::_=>false
theorem zY:∀l:List (List C),aLk l=true↔kJ l
 | []=>by simp[aLk,kJ]
 | []::r=>by simp[aLk,kJ]
 | (c::vs)::r=>by
  cases c<;>simp[aLk,kJ];exact zY r
instance (l:List (List C)):Decidable (kJ l):=decidable_of_iff _ (zY l)
def aQ4 (st:St) (agg:Bool):V→Option (List Nat×List (List C))
 | .one (.mr id)=>match st.h id with
  | some (.map a ents)=>bif a==agg then some ([id],ents) else none
  | _=>none
 | .one (.c (.mp a ents))=>bif a==agg then some ([],ents) else none
 | .one (.c (.zv 0))=>some ([],[])
 | _=>none
theorem xU {st:St}{agg:Bool}{v:V}{ids:List Nat}{ents:List (List C)}(h:aQ4 st agg v=some (ids,ents)):MapE st ids v agg ents:=by
 unfold aQ4 at h;split at h
 ·split at h
  ·rename_i hh;obtain⟨h1,h2⟩:=eE h;cases h2;exact .mr (by rw[hh,eq_of_beq h1])
  ·cases h
 ·obtain⟨h1,h2⟩:=eE h;cases h2;rw[eq_of_beq h1];exact .mp
 ·cases h;exact .nil
 ·cases h
def aVp (md:Bool) (hn:Hn) (k:List UInt8) (ents:List (List C)) (ob:List Prop):Option (Option (List C)×List Prop):=match hn with
 | .look r=>some (r,(j4 k ents=r)::ob)
 | _=>bif md then some (j4 k ents,ob) else match j4 k ents with
  | some r=>some (some r,ob)
  | none=>some (none,ob)
theorem aGh {md:Bool}{hn:Hn}{k:List UInt8}{ents:List (List C)}{ob q:List Prop}{r:Option (List C)}(h:aVp md hn k ents ob=some (r,q)):iL q→iL ob∧j4 k ents=r:=by
 unfold aVp at h;split at h
 ·cases h;exact fun h=>⟨h.2,h.1⟩
 ·cases md
  ·simp only[Bs] at h;split at h
   ·rename_i h1;cases h;exact fun h=>⟨h,h1⟩
   ·rename_i h1;cases h;exact fun h=>⟨h,h1⟩
  ·cases h;exact fun h=>⟨h,rfl⟩
def aA6 (tr:Tr) (md:Bool) (o:Oper) (n:Nat) (st:St) (ob:List Prop) (hn:Hn) (t:TypeId) (x y:Operand) (ok:Bool):Ans:=(tr.get t).bind fun i=>match i.k with
 | .mp kt et=>(tr.get kt).bind fun ki=>(tr.get et).bind fun ei=>match ki.k with
  | .str=>(opO st x).bind fun v=>(aQ4 st ei.k.agg v).bind fun(ids,ents)=>(opO st y).bind fun u=>match u with
   | .one (.c (.str k))=>(iT md (kJ ents) ob).bind fun ob1=>(aVp md hn k ents ob1).bind fun(r,ob2)=>match ok with
    | true=>val o n ⟨opr x++opr y,ids⟩ (.tup [jI ei r,.one (.c (.bool (tX r)))]) [] ob2
    | false=>val o n ⟨opr x++opr y,ids⟩ (jI ei r) [] ob2
   | _=>none
  | _=>none
 | _=>none
theorem aA5 {hn:Hn}{t:TypeId}{x y:Operand}{ok:Bool}(hw:tr.wf=true) (O:Tok P tr.flat) (ho:o.op=.lookup t x y ok):Snd P n o st ob (aA6 tr md o n st ob hn t x y ok):=by
 refine Snd.bind fun i hi=>?_
 replace hi:=Tr.get_ok hw hi
 split
 ·rename_i Z et hk;refine Snd.bind fun ki q=>Snd.bind fun ei I=>?_
  replace q:=Tr.get_ok hw q
  replace I:=Tr.get_ok hw I
  split
  ·rename_i N;refine Snd.bind fun v hv=>Snd.bind fun p hp=>?_
   obtain⟨ids,ents⟩:=p;refine Snd.bind fun u hu=>?_
   rw[cE] at hv hu;split
   ·rename_i k;refine Snd.bind fun W h1=>Snd.bind fun p h2=>?_
    obtain⟨r,Y⟩:=p;dsimp only;split
    ·refine Snd.val fun _ hd J hc=>?_
     obtain⟨g1,g2⟩:=aGh h2 hc;obtain⟨g3,g4⟩:=aZ h1 g1;have:=wU O ho hd J hi hk q N I rfl hv (xU hp) g4 hu g2;exact⟨g3,by simpa using this⟩
    ·refine Snd.val fun _ hd J hc=>?_
     obtain⟨g1,g2⟩:=aGh h2 hc;obtain⟨g3,g4⟩:=aZ h1 g1;have:=wU O ho hd J hi hk q N I rfl hv (xU hp) g4 hu g2;exact⟨g3,by simpa using this⟩
   ·exact Snd.none
  ·exact Snd.none
 ·exact Snd.none
def aA4 (tr:Tr) (md:Bool) (o:Oper) (n:Nat) (st:St) (ob:List Prop) (w:V) (t:TypeId) (x y:Operand):Ans:=(tr.get t).bind fun i=>match i.k with
 | .mp kt et=>(tr.get kt).bind fun ki=>(tr.get et).bind fun ei=>match ki.k with
  | .str=>(opO st x).bind fun v=>(aQ4 st ei.k.agg v).bind fun(ids,ents)=>(opO st y).bind fun u=>match u with
   | .one (.c (.str k))=>(iT md (kJ ents) ob).bind fun ob1=>val o n ⟨opr x++opr y,ids⟩ w [] ((jI ei (j4 k ents)=w)::ob1)
   | _=>none
  | _=>none
 | _=>none
theorem aA3 {w:V}{t:TypeId}{x y:Operand}(hw:tr.wf=true) (O:Tok P tr.flat) (ho:o.op=.lookup t x y false):Snd P n o st ob (aA4 tr md o n st ob w t x y):=by
 refine Snd.bind fun i hi=>?_
 replace hi:=Tr.get_ok hw hi
 split
 ·rename_i Y Z hk;refine Snd.bind fun ki q=>Snd.bind fun ei I=>?_
  replace q:=Tr.get_ok hw q
  replace I:=Tr.get_ok hw I
  split
  ·rename_i J;refine Snd.bind fun v hv=>Snd.bind fun p hp=>?_
   obtain⟨ids,ents⟩:=p;refine Snd.bind fun u hu=>?_
   rw[cE] at hv hu;split
   ·rename_i k;refine Snd.bind fun W h1=>Snd.val fun _ hd N hc=>?_
    obtain⟨g3,g4⟩:=aZ h1 hc.2;have:=wU O ho hd N hi hk q J I rfl hv (xU hp) g4 hu rfl;refine⟨g3,?_⟩;rw[←hc.1];simpa using this
   ·exact Snd.none
  ·exact Snd.none
 ·exact Snd.none
def yD (tr:Tr) (md:Bool) (o:Oper) (n:Nat) (st:St) (ob:List Prop) (hn:Hn) (t:TypeId) (x y:Operand) (ok:Bool):Ans:=match ok,hn with
 | false,.pc w=>aA4 tr md o n st ob w t x y
 | ok,hn=>aA6 tr md o n st ob hn t x y ok
theorem aDo {hn:Hn}{t:TypeId}{x y:Operand}{ok:Bool}(hw:tr.wf=true) (q:Tok P tr.flat) (ho:o.op=.lookup t x y ok):Snd P n o st ob (yD tr md o n st ob hn t x y ok):=by
 unfold yD;split
 ·exact aA3 hw q ho
 ·exact aA5 hw q ho
def aY6 (md:Bool) (k:List UInt8) (cs:List C) (ents:List (List C)):Option (List (List C)):=bif md then some (aH1 k cs ents) else frc (aH1 k cs ents)
theorem aFs (md:Bool) (k:List UInt8) (cs:List C) (ents:List (List C)):aY6 md k cs ents=some (aH1 k cs ents):=by
 cases md
 ·exact kK _
 ·rfl
def kD (tr:Tr) (md:Bool) (o:Oper) (st:St) (ob:List Prop) (t:TypeId) (x y z:Operand):Ans:=(tr.get t).bind fun i=>match i.k with
 | .mp kt _=>(tr.get kt).bind fun ki=>match ki.k with
  | .str=>(opO st x).bind fun v=>match v with
   | .one (.mr id)=>match st.h id with
    | some (.map agg ents)=>(opO st y).bind fun u=>match u with
     | .one (.c (.str k))=>(opO st z).bind fun v=>bif (match v with | .one _=>!agg | .pa _=>agg | .ma _=>agg | _=>false) then(oH v).bind fun rs=>
      (iT md (kJ ents) ob).bind fun ob1=>(aY6 md k (aYu rs) ents).bind fun e'=>eff o ⟨opr x++opr y++opr z,[id]⟩ [(id,some (.map agg e'))] ob1 else none
     | _=>none
    | _=>none
   | _=>none
  | _=>none
 | _=>none
theorem u2 {t:TypeId}{x y z:Operand}(hw:tr.wf=true) (W:Tok P tr.flat) (ho:o.op=.mapUpdate t x y z):Snd P n o st ob (kD tr md o st ob t x y z):=by
 refine Snd.bind fun i hi=>?_
 replace hi:=Tr.get_ok hw hi
 split
 ·rename_i Z et hk;refine Snd.bind fun ki q=>?_
  replace q:=Tr.get_ok hw q
  split
  ·rename_i J;refine Snd.bind fun v hv=>?_
   rw[cE] at hv;split
   ·rename_i id;split
    ·rename_i agg ents hh;refine Snd.bind fun u hu=>?_
     rw[cE] at hu;split
     ·rename_i k;refine Snd.bind fun z N=>Snd.cond fun O=>Snd.bind fun rs I=>Snd.bind fun Y h1=>Snd.bind fun e' he=>Snd.eff fun hd hc=>?_
      rw[cE] at N;rw[j1] at I;rw[aFs] at he;cases he;obtain⟨g1,g2⟩:=aZ h1 hc;exact⟨g1,aCq (ids:=[]) W ho hd hi hk q J hv hh g2 hu N (by cases z<;>first | rfl | exact O) I .ofA⟩
     ·exact Snd.none
    ·exact Snd.none
   ·exact Snd.none
  ·exact Snd.none
 ·exact Snd.none
theorem aDp {t:TypeId}{x y z:Operand}(hw:tr.wf=true) (W:Tok P tr.flat) (ho:o.op=.insert t x y z):Snd P n o st ob (kD tr md o st ob t x y z):=by
 refine Snd.bind fun i hi=>?_
 replace hi:=Tr.get_ok hw hi
 split
 ·rename_i Z et hk;refine Snd.bind fun ki q=>?_
  replace q:=Tr.get_ok hw q
  split
  ·rename_i J;refine Snd.bind fun v hv=>?_
   rw[cE] at hv;split
   ·rename_i id;split
    ·rename_i agg ents hh;refine Snd.bind fun u hu=>?_
     rw[cE] at hu;split
     ·rename_i k;refine Snd.bind fun z N=>Snd.cond fun O=>Snd.bind fun rs I=>Snd.bind fun Y h1=>Snd.bind fun e' he=>Snd.eff fun hd hc=>?_
      rw[cE] at N;rw[j1] at I;rw[aFs] at he;cases he;obtain⟨g1,g2⟩:=aZ h1 hc;exact⟨g1,aP2 (ids:=[]) W ho hd hi hk q J hv hh g2 hu N (by cases z<;>first | rfl | exact O) I .ofA⟩
     ·exact Snd.none
    ·exact Snd.none
   ·exact Snd.none
  ·exact Snd.none
 ·exact Snd.none
end
section
variable {P:Program}{n:Nat}{o:Oper}{st:St}{ob:List Prop}{tr:Tr}{md nat:Bool}
def arith (md nat:Bool) (op:BinOp) (a b:Int) (ob:List Prop):Option (Int×List Prop):=match op with
 | .add=>bif nat then(match a,b with | .ofNat x,.ofNat y=>(iT md (x+y≤9223372036854775807) ob).bind fun ob1=>some (((x+y:Nat):Int),ob1) | _,_=>none)
  else(iT md (-9223372036854775808≤a+b∧a+b≤9223372036854775807) ob).bind fun ob1=>some (a+b,ob1)
 | .sub=>bif nat then(match a,b with | .ofNat x,.ofNat y=>(iT md (y≤x∧x≤9223372036854775807) ob).bind fun ob1=>some (((x-y:Nat):Int),ob1) | _,_=>none)
  else(iT md (-9223372036854775808≤a-b∧a-b≤9223372036854775807) ob).bind fun ob1=>some (a-b,ob1)
 | .mul=>bif nat then(match a,b with | .ofNat x,.ofNat y=>(iT md (x*y≤9223372036854775807) ob).bind fun ob1=>some (((x*y:Nat):Int),ob1) | _,_=>none)
  else(iT md (-9223372036854775808≤a*b∧a*b≤9223372036854775807) ob).bind fun ob1=>some (a*b,ob1)
 | .quo=>bif nat then(match a,b with | .ofNat x,.ofNat y=>(iT md (x≤9223372036854775807∧1≤y) ob).bind fun ob1=>some (((x/y:Nat):Int),ob1) | _,_=>none)
  else(iT md (0≤a∧a≤9223372036854775807∧1≤b) ob).bind fun ob1=>some (a/b,ob1)
 | .rem=>bif nat then(match a,b with | .ofNat x,.ofNat y=>(iT md (1≤y) ob).bind fun ob1=>some (((x%y:Nat):Int),ob1) | _,_=>none)
  else(iT md (0≤a∧1≤b) ob).bind fun ob1=>some (a%b,ob1)
 | _=>none
theorem u1 {α:Type}{q:List Prop}{x:Option (List Prop)}{r r':α}(h:(x.bind fun I=>some (r,I))=some (r',q)):x=some q∧r'=r:=by
 rw[Ag] at h;obtain⟨I,h1,h2⟩:=h;cases h2;exact⟨h1,rfl⟩
theorem aR1 {op:BinOp}{O ty:TypeId}{x y:Operand}{d:Nat}{a b r:Int}{N:List Prop}(ho:o.op=.binOp op O x y ty) (hd:o.dst=some d) (q:d<n) (hx:opv st x=some (I .i64 a)) (J:opv st y=some (I .i64 b)) (h:arith md nat op a b ob=some (r,N)):
  iL N→iL ob∧Step P n o st ⟨opr x++opr y,[]⟩ ⟨some (d,some (I .i64 r)),[]⟩:=by
 intro hc;unfold arith at h;cases nat<;>cases op<;>simp only[Bo,Bs] at h<;>try (cases h;done)
 ·obtain⟨h1,rfl⟩:=u1 h;obtain⟨g,k⟩:=aZ h1 hc;exact⟨g,aYq ho hd q hx J k⟩
 ·obtain⟨h1,rfl⟩:=u1 h;obtain⟨g,k⟩:=aZ h1 hc;exact⟨g,aX7 ho hd q hx J k⟩
 ·obtain⟨h1,rfl⟩:=u1 h;obtain⟨g,k⟩:=aZ h1 hc;exact⟨g,aYk ho hd q hx J k⟩
 ·obtain⟨h1,rfl⟩:=u1 h;obtain⟨g,k⟩:=aZ h1 hc;exact⟨g,aSm ho hd q hx J k⟩
 ·obtain⟨h1,rfl⟩:=u1 h;obtain⟨g,k⟩:=aZ h1 hc;exact⟨g,aSl ho hd q hx J k⟩
 all_goals cases a<;>cases b<;>simp only at h<;>try (cases h;done)
 ·obtain⟨h1,rfl⟩:=u1 h;obtain⟨g,k⟩:=aZ h1 hc;exact⟨g,aYp ho hd q hx J k⟩
 ·obtain⟨h1,rfl⟩:=u1 h;obtain⟨g,k⟩:=aZ h1 hc;exact⟨g,aX6 ho hd q hx J k⟩
 ·obtain⟨h1,rfl⟩:=u1 h;obtain⟨g,k⟩:=aZ h1 hc;exact⟨g,aYj ho hd q hx J k⟩
 ·obtain⟨h1,rfl⟩:=u1 h;obtain⟨g,k⟩:=aZ h1 hc;exact⟨g,aYf ho hd q hx J k⟩
 ·obtain⟨h1,rfl⟩:=u1 h;obtain⟨g,k⟩:=aZ h1 hc;exact⟨g,aYd ho hd q hx J k⟩
def a2o (op:BinOp) (a b:Int):Option Bool:=match op with
 | .lss=>some (decide (a<b))
 | .leq=>some (decide (a≤b))
 | .gtr=>some (decide (b<a))
 | .geq=>some (decide (b≤a))
 | .eql=>some (decide (a=b))
 | .neq=>some (!decide (a=b))
 | _=>none
theorem aVz {op:BinOp}{N ty:TypeId}{x y:Operand}{d:Nat}{k:IntKind}{a b:Int}{r:Bool}(ho:o.op=.binOp op N x y ty) (hd:o.dst=some d) (q:d<n) (hx:opv st x=some (I k a)) (J:opv st y=some (I k b)) (h:a2o op a b=some r):
  Step P n o st ⟨opr x++opr y,[]⟩ ⟨some (d,some (B r)),[]⟩:=by
 unfold a2o at h;cases op<;>simp only at h<;>try (cases h;done)
 ·cases h;exact a14 ho hd q hx J
 ·cases h;exact a1v ho hd q hx J
 ·cases h;exact a1z ho hd q hx J
 ·cases h;exact a10 ho hd q hx J
 ·cases h;exact a11 ho hd q hx J
 ·cases h;exact a13 ho hd q hx J
def aT0 (op:BinOp) (k:IntKind) (a b:Int):Option Int:=match op with
 | .add=>some (k.wrap (a+b))
 | .sub=>some (k.wrap (a-b))
 | .mul=>some (k.wrap (a*b))
 | _=>none
theorem aO4 {op:BinOp}{N ty:TypeId}{x y:Operand}{d:Nat}{k:IntKind}{a b r:Int}(ho:o.op=.binOp op N x y ty) (hd:o.dst=some d) (q:d<n) (hx:opv st x=some (I k a)) (J:opv st y=some (I k b)) (h:aT0 op k a b=some r):
  Step P n o st ⟨opr x++opr y,[]⟩ ⟨some (d,some (I k r)),[]⟩:=by
 unfold aT0 at h;cases op<;>simp only at h<;>try (cases h;done)
 ·cases h;exact aP4 ho hd q hx J rfl
 ·cases h;exact aPt ho hd q hx J rfl
 ·cases h;exact aPy ho hd q hx J rfl
def aVi:IntKind→Bool
 | .i64=>true
 | _=>false
def a0z (tr:Tr) (md nat:Bool) (o:Oper) (n:Nat) (st:St) (ob:List Prop) (op:BinOp) (tx:TypeId) (x y:Operand):Ans:=(opO st x).bind fun v=>(opO st y).bind fun u=>match v,u with
 | .one (.c (.int k a)),.one (.c (.int k' b))=>bif decide (k=k') then(match a2o op a b with
   | some r=>val o n ⟨opr x++opr y,[]⟩ (.one (.c (.bool r))) [] ob
   | none=>bif aVi k then(arith md nat op a b ob).bind fun(r,ob1)=>val o n ⟨opr x++opr y,[]⟩ (.one (.c (.int .i64 r))) [] ob1
    else(aT0 op k a b).bind fun r=>val o n ⟨opr x++opr y,[]⟩ (.one (.c (.int k r))) [] ob) else none
 | .one (.c (.str a)),.one (.c (.str b))=>match op with
  | .eql=>val o n ⟨opr x++opr y,[]⟩ (.one (.c (.bool (decide (a=b))))) [] ob
  | .neq=>val o n ⟨opr x++opr y,[]⟩ (.one (.c (.bool (!decide (a=b))))) [] ob
  | .lss=>val o n ⟨opr x++opr y,[]⟩ (.one (.c (.bool (Op.bytesLess a b)))) [] ob
  | .add=>(iT md (a.length+b.length≤maxLen) ob).bind fun ob1=>val o n ⟨opr x++opr y,[]⟩ (.one (.c (.str (a++b)))) [] ob1
  | _=>none
 | .one (.c (.bool a)),.one (.c (.bool b))=>(tr.get tx).bind fun i=>match i.k with
  | .bool=>match op with
   | .eql=>val o n ⟨opr x++opr y,[]⟩ (.one (.c (.bool (a==b)))) [] ob
   | .neq=>val o n ⟨opr x++opr y,[]⟩ (.one (.c (.bool (!(a==b))))) [] ob
   | _=>none
  | _=>none
 | v,.one (.c .np)=>(tr.get tx).bind fun i=>match i.k with
  | .pt _=>(zP v).bind fun b=>match op with
   | .eql=>val o n ⟨opr x++opr y,[]⟩ (.one (.c (.bool b))) [] ob
   | .neq=>val o n ⟨opr x++opr y,[]⟩ (.one (.c (.bool (!b)))) [] ob
   | _=>none
  | _=>none
 | v,.one (.c .nl)=>(tr.get tx).bind fun i=>match i.k with
  | .sl _=>(aPn v).bind fun b=>match op with
   | .eql=>val o n ⟨opr x++opr y,[]⟩ (.one (.c (.bool b))) [] ob
   | _=>none
  | _=>none
 | _,_=>none
theorem aR0 {op:BinOp}{N ty:TypeId}{x y:Operand}(hw:tr.wf=true) (I:Tok P tr.flat) (ho:o.op=.binOp op N x y ty):Snd P n o st ob (a0z tr md nat o n st ob op N x y):=by
 refine Snd.bind fun v hv=>Snd.bind fun u hu=>?_
 rw[cE] at hv hu;split
 ·rename_i k a k' b;refine Snd.cond fun hk=>?_
  have O:=ψ hk;subst O;split
  ·rename_i r J;exact Snd.val fun _ hd q hc=>⟨hc,aVz ho hd q hv hu J⟩
  ·cases hi:aVi k with
   | true=>
    simp only[Bo];cases k<;>simp only[aVi] at hi<;>try (cases hi;done)
    refine Snd.bind fun p hp=>?_
    obtain⟨r,W⟩:=p;exact Snd.val fun _ hd q hc=>aR1 ho hd q hv hu hp hc
   | false=>
    simp only[Bs];exact Snd.bind fun r J=>Snd.val fun _ hd q hc=>⟨hc,aO4 ho hd q hv hu J⟩
 ·split
  ·exact Snd.val fun _ hd q hc=>⟨hc,aYa ho hd q hv hu⟩
  ·exact Snd.val fun _ hd q hc=>⟨hc,aX8 ho hd q hv hu⟩
  ·exact Snd.val fun _ hd q hc=>⟨hc,aX9 ho hd q hv hu⟩
  ·exact Snd.bind fun W h1=>Snd.val fun _ hd q hc=>⟨(aZ h1 hc).1,aYc ho hd q hv hu (aZ h1 hc).2⟩
  ·exact Snd.none
 ·refine Snd.bind fun i hi=>?_
  replace hi:=Tr.get_ok hw hi
  split
  ·rename_i hk;split
   ·exact Snd.val fun _ hd q hc=>⟨hc,aYo I ho hd q hi hk hv hu⟩
   ·exact Snd.val fun _ hd q hc=>⟨hc,aYn I ho hd q hi hk hv hu⟩
   ·exact Snd.none
  ·exact Snd.none
 ·refine Snd.bind fun i hi=>?_
  replace hi:=Tr.get_ok hw hi
  split
  ·rename_i hk;refine Snd.bind fun b hb=>?_
   split
   ·exact Snd.val fun _ hd q hc=>⟨hc,aYi I ho hd q hi hk hv hb hu⟩
   ·exact Snd.val fun _ hd q hc=>⟨hc,aYh I ho hd q hi hk hv hb hu⟩
   ·exact Snd.none
  ·exact Snd.none
 ·refine Snd.bind fun i hi=>?_
  replace hi:=Tr.get_ok hw hi
  split
  ·rename_i hk;refine Snd.bind fun b hb=>?_
   split
   ·exact Snd.val fun _ hd q hc=>⟨hc,aUg I ho hd q hi hk hv hb hu⟩
   ·exact Snd.none
  ·exact Snd.none
 ·exact Snd.none
def a3j (md:Bool) (o:Oper) (n:Nat) (st:St) (ob:List Prop) (op:UnOp) (x:Operand):Ans:=(opO st x).bind fun v=>match v with
 | .one (.c (.bool b))=>match op with
  | .not=>val o n ⟨opr x,[]⟩ (.one (.c (.bool (!b)))) [] ob
  | _=>none
 | .one (.c (.int .i64 a))=>match op with
  | .neg=>(iT md (-9223372036854775808≤0-a∧0-a≤9223372036854775807) ob).bind fun ob1=>val o n ⟨opr x,[]⟩ (.one (.c (.int .i64 (0-a)))) [] ob1
  | _=>none
 | _=>none
theorem aWp {op:UnOp}{t:TypeId}{x:Operand}(ho:o.op=.unOp op t x):Snd P n o st ob (a3j md o n st ob op x):=by
 refine Snd.bind fun v hv=>?_
 rw[cE] at hv;split
 ·split
  ·exact Snd.val fun _ hd q hc=>⟨hc,a1u ho hd q hv⟩
  ·exact Snd.none
 ·split
  ·exact Snd.bind fun I h1=>Snd.val fun _ hd q hc=>⟨(aZ h1 hc).1,a1w ho hd q hv (Ca _ (aZ h1 hc).2)⟩
  ·exact Snd.none
 ·exact Snd.none
def a0x (tr:Tr) (md:Bool) (o:Oper) (n:Nat) (st:St) (ob:List Prop) (x:Operand) (t:TypeId):Ans:=(tr.get t).bind fun i=>(opO st x).bind fun v=>match i.k with
 | .sl _=>match v with
  | .one (.c (.sl _ l))=>val o n ⟨opr x,[]⟩ (.one (.c (.int .i64 ((l.length:Nat):Int)))) [] ob
  | .one (.c .nl)=>val o n ⟨opr x,[]⟩ (.one (.c (.int .i64 0))) [] ob
  | .one (.ras n' _ _)=>val o n ⟨opr x,[]⟩ (.one (.c (.int .i64 ((n':Nat):Int)))) [] ob
  | .one (.hs id _ len sz)=>match st.h id with
   | some (.arr _ _ elems _)=>(iT md (sz=elems.length) ob).bind fun ob1=>val o n ⟨opr x,[id]⟩ (.one (.c (.int .i64 ((len:Nat):Int)))) [] ob1
   | _=>none
  | .one (.ra id _ len sz)=>match st.h id with
   | some (.rarr _ _ elems)=>(iT md (sz=elems.length) ob).bind fun ob1=>val o n ⟨opr x,[id]⟩ (.one (.c (.int .i64 ((len:Nat):Int)))) [] ob1
   | _=>none
  | _=>none
 | .str=>match v with
  | .one (.c (.str s))=>val o n ⟨opr x,[]⟩ (.one (.c (.int .i64 ((s.length:Nat):Int)))) [] ob
  | _=>none
 | .mp _ _=>match v with
  | .one (.mr id)=>match st.h id with
   | some (.map _ ents)=>(iT md (kJ ents) ob).bind fun ob1=>val o n ⟨opr x,[id]⟩ (.one (.c (.int .i64 ((ents.length:Nat):Int)))) [] ob1
   | _=>none
  | _=>none
 | _=>none
theorem aRw {x:Operand}{t:TypeId}(hw:tr.wf=true) (I:Tok P tr.flat) (ho:o.op=.call { callee:=.builtin .len,args:= #[x],argTypes:= #[t] }):Snd P n o st ob (a0x tr md o n st ob x t):=by
 refine Snd.bind fun i hi=>Snd.bind fun v hv=>?_
 replace hi:=Tr.get_ok hw hi
 rw[cE] at hv;split
 ·rename_i hk;split
  ·exact Snd.val fun _ hd q hc=>⟨hc,aPz I ho hd q hi hk hv⟩
  ·exact Snd.val fun _ hd q hc=>⟨hc,aP1 I ho hd q hi hk hv⟩
  ·exact Snd.val fun _ hd q hc=>⟨hc,aKm I ho hd q hi hk hv⟩
  ·split
   ·rename_i hh;exact Snd.bind fun J h1=>Snd.val fun _ hd q hc=>⟨(aZ h1 hc).1,aFc I ho hd q hi hk hv hh (aZ h1 hc).2⟩
   ·exact Snd.none
  ·split
   ·rename_i hh;exact Snd.bind fun J h1=>Snd.val fun _ hd q hc=>⟨(aZ h1 hc).1,aP0 I ho hd q hi hk hv hh (aZ h1 hc).2⟩
   ·exact Snd.none
  ·exact Snd.none
 ·rename_i hk;split
  ·exact Snd.val fun _ hd q hc=>⟨hc,aKl I ho hd q hi hk hv⟩
  ·exact Snd.none
 ·rename_i hk;split
  ·split
   ·rename_i hh;exact Snd.bind fun J h1=>Snd.val fun _ hd q hc=>⟨(aZ h1 hc).1,aKn I ho hd q hi hk hv hh (aZ h1 hc).2⟩
   ·exact Snd.none
  ·exact Snd.none
 ·exact Snd.none
def a07 (md:Bool) (st:St) (es:Nat) (hn:Hn) (v:V) (ob:List Prop):Option (List Nat×List (List C)×List Prop):=match v with
 | .one (.hs id off len sz)=>match st.h id with
  | some (.arr _ es' elems _)=>bif Nat.beq es' es then(iT md (sz=elems.length) ob).bind fun ob1=>(match hn with
   | .all=>some ([id],elems,(off=0∧len=sz)::ob1)
   | .c rows=>some ([id],rows,(rows=(elems.drop off).take len)::ob1)
   | _=>bif Nat.beq off 0&&Nat.beq len sz then some ([id],elems,ob1) else some ([id],(elems.drop off).take len,ob1)) else none
  | _=>none
 | .one (.c (.sl es' l))=>bif Nat.beq es' es then some ([],l,ob) else none
 | .one (.c (.sn es' l))=>bif Nat.beq es' es then some ([],l,ob) else none
 | .one (.c .nl)=>some ([],[],ob)
 | _=>none
theorem wK {es:Nat}{hn:Hn}{v:V}{ids:List Nat}{rows:List (List C)}{I:List Prop}(h:a07 md st es hn v ob=some (ids,rows,I)):iL I→iL ob∧Src st es ids v rows:=by
 intro hc;unfold a07 at h;split at h
 ·rename_i id off len sz;split at h
  ·rename_i te W elems fz hh;obtain⟨h1,q⟩:=eE h;clear h;have:=ε h1;subst this;rw[Ag] at q;obtain⟨Y,h2,h⟩:=q;split at h
   ·cases h;obtain⟨⟨rfl,rfl⟩,hc⟩:=hc;obtain⟨g,k⟩:=aZ h2 hc;exact⟨g,.all hh k⟩
   ·cases h;obtain⟨J,hc⟩:=hc;obtain⟨g,k⟩:=aZ h2 hc;exact⟨g,.hs hh k J⟩
   ·cases hb:Nat.beq off 0&&Nat.beq len sz with
    | true=>
     rw[hb] at h;cases h;obtain⟨g,k⟩:=aZ h2 hc;simp only[Ac] at hb;have N:=ε hb.1;have O:=ε hb.2;subst N O;exact⟨g,.all hh k⟩
    | false=>
     rw[hb] at h;cases h;obtain⟨g,k⟩:=aZ h2 hc;exact⟨g,.hs hh k rfl⟩
  ·cases h
 ·obtain⟨h1,q⟩:=eE h;clear h;have:=ε h1;subst this;cases q;exact⟨hc,.sl⟩
 ·obtain⟨h1,q⟩:=eE h;clear h;have:=ε h1;subst this;cases q;exact⟨hc,.sn⟩
 ·cases h;exact⟨hc,.nl⟩
 ·cases h
def aA1:List (List C)→Option (List Int)
 | []=>some []
 | [.int .u8 m]::rs=>(aA1 rs).bind fun l=>some (m::l)
 | _=>none
theorem aA0:∀{rows:List (List C)}{ns:List Int},aA1 rows=some ns→rows=ns.map fun m=>[C.int .u8 m]
 | [],ns,h=>by simp[aA1] at h;subst h;rfl
 | [.int .u8 m]::rs,ns,h=>by
  simp only[aA1,Ag] at h;obtain⟨l,h1,h2⟩:=h;cases h2;rw[aA0 h1];rfl
def aTt (tr:Tr) (md:Bool) (o:Oper) (n:Nat) (st:St) (ob:List Prop) (hn:Hn) (src dst:TypeId) (x:Operand):Ans:=(tr.get src).bind fun i=>(tr.get dst).bind fun j=>(opO st x).bind fun v=>match j.k with
 | .int k'=>match i.k,v with
  | .int k,.one (.c (.int k2 m))=>bif decide (k2=k) then val o n ⟨opr x,[]⟩ (.one (.c (.int k' (k'.wrap m)))) [] ob else none
  | _,_=>none
 | .str=>match i.k with
  | .sl e=>(tr.get e).bind fun ei=>match ei.k with
   | .int .u8=>(a07 md st 1 hn v ob).bind fun(ids,rows,ob1)=>(aA1 rows).bind fun ns=>(frc (ns.map fun m=>UInt8.ofNat m.toNat)).bind fun bs=>val o n ⟨opr x,ids⟩ (.one (.c (.str bs))) [] ob1
   | _=>none
  | _=>none
 | _=>none
theorem aN7 {hn:Hn}{src dst:TypeId}{x:Operand}(hw:tr.wf=true) (Y:Tok P tr.flat) (ho:o.op=.convert src dst x):Snd P n o st ob (aTt tr md o n st ob hn src dst x):=by
 refine Snd.bind fun i hi=>Snd.bind fun j O=>Snd.bind fun v hv=>?_
 replace hi:=Tr.get_ok hw hi
 replace O:=Tr.get_ok hw O
 rw[cE] at hv;split
 ·rename_i k' q;split
  ·rename_i k k2 m I;refine Snd.cond fun hk=>?_
   have:=ψ hk;subst this;exact Snd.val fun _ hd J hc=>⟨hc,aUk Y ho hd J hi I O q hv⟩
  ·exact Snd.none
 ·rename_i q;split
  ·rename_i e I;refine Snd.bind fun ei N=>?_
   replace N:=Tr.get_ok hw N
   split
   ·rename_i Z;refine Snd.bind fun p hp=>?_
    obtain⟨ids,rows,ab⟩:=p;refine Snd.bind fun ns aa=>Snd.bind fun bs W=>Snd.val fun _ hd J hc=>?_
    rw[kK] at W;cases W;obtain⟨g1,g2⟩:=wK hp hc;exact⟨g1,aUl Y ho hd J hi I N Z O q hv g2 (aA0 aa)⟩
   ·exact Snd.none
  ·exact Snd.none
 ·exact Snd.none
def a3e (md:Bool) (a b:List (List C)):Option (List (List C)):=bif md then some (a++b) else frc (a++b)
theorem aV0 (md:Bool) (a b:List (List C)):a3e md a b=some (a++b):=by
 cases md
 ·exact kK _
 ·rfl
def aG4 (tr:Tr) (md:Bool) (o:Oper) (n:Nat) (st:St) (ob:List Prop) (hn:Hn) (id0:Nat) (x y:Operand) (t:TypeId):Ans:=(tr.get t).bind fun i=>match i.k with
 | .sl e=>(tr.get e).bind fun ei=>match ei with
  | ⟨_,s0,b0,_⟩=>bif Nat.ble 1 s0&&Nat.ble 1 b0 then(opO st x).bind fun v=>(opO st y).bind fun u=>(a07 md st s0 hn u ob).bind fun(ids,rows,ob1)=>(match v with
  | .one (.hs id off len sz)=>match st.h id with
   | some (.arr te es elems fz)=>bif Nat.beq te e&&Nat.beq es s0 then(iT md (sz=elems.length) ob1).bind fun ob2=>(iT md (off=0∧len=sz) ob2).bind fun ob3=>(iT md ((elems.length+rows.length)*b0≤140737488355328) ob3).bind fun ob4=>
     (a3e md elems rows).bind fun l=>match fz with
     | 0=>val o n ⟨opr x++opr y,id::ids⟩ (.one (.hs id 0 (elems.length+rows.length) (elems.length+rows.length))) [(id,some (.arr e s0 l 0))] ob4
     | _+1=>val o n ⟨opr x++opr y,id::ids⟩ (.one (.hs id 0 (elems.length+rows.length) (elems.length+rows.length))) [(id,some (.arr e s0 l 1))] ob4
    else none
   | _=>none
  | .one (.c .nl)=>match st.h id0 with
   | none=>(iT md (rows.length*b0≤140737488355328) ob1).bind fun ob2=>val o n ⟨opr x++opr y,id0::ids⟩ (.one (.hs id0 0 rows.length rows.length)) [(id0,some (.arr e s0 rows 0))] ob2
   | some _=>none
  | _=>none) else none
 | _=>none
theorem aDs {hn:Hn}{N:Nat}{x y:Operand}{t:TypeId}(hw:tr.wf=true) (O:Tok P tr.flat) (ho:o.op=.call { callee:=.builtin .append,args:= #[x,y],argTypes:= #[t,t] }):Snd P n o st ob (aG4 tr md o n st ob hn N x y t):=by
 refine Snd.bind fun i hi=>?_
 replace hi:=Tr.get_ok hw hi
 split
 ·rename_i e hk;refine Snd.bind fun ei q=>?_
  obtain⟨k0,s0,b0,z0⟩:=ei;refine Snd.cond fun hb=>Snd.bind fun v hv=>Snd.bind fun u hu=>Snd.bind fun p hp=>?_
  replace q:=Tr.get_ok hw q
  obtain⟨ids,rows,aa⟩:=p;simp only[Ac] at hb;rw[cE] at hv hu;dsimp only;split
  ·rename_i id off len sz;split
   ·rename_i te es elems fz hh;refine Snd.cond fun J=>Snd.bind fun W h2=>Snd.bind fun ab h3=>Snd.bind fun ac h4=>Snd.bind fun l hl=>?_
    simp only[Ac] at J;have Y:=ε J.1;have Z:=ε J.2;subst Y Z;rw[aV0] at hl;cases hl;split
    ·refine Snd.val fun _ hd I hc=>?_
     obtain⟨g1,g2⟩:=aZ h4 hc;obtain⟨g3,g4,g5⟩:=aZ h3 g1;obtain⟨g6,g7⟩:=aZ h2 g3;obtain⟨g8,g9⟩:=wK hp g6;subst g4 g5;exact⟨g8,aFd O ho hd I hi hk q hb.1 hb.2 hv hh g7 hu g9 g2⟩
    ·refine Snd.val fun _ hd I hc=>?_
     obtain⟨g1,g2⟩:=aZ h4 hc;obtain⟨g3,g4,g5⟩:=aZ h3 g1;obtain⟨g6,g7⟩:=aZ h2 g3;obtain⟨g8,g9⟩:=wK hp g6;subst g4 g5;exact⟨g8,aFd O ho hd I hi hk q hb.1 hb.2 hv hh g7 hu g9 g2⟩
   ·exact Snd.none
  ·split
   ·rename_i hid;refine Snd.bind fun W h2=>Snd.val fun _ hd I hc=>?_
    obtain⟨g1,g2⟩:=aZ h2 hc;obtain⟨g3,g4⟩:=wK hp g1;exact⟨g3,aKs N O ho hd I hi hk q hb.1 hb.2 hv hid hu g4 g2⟩
   ·exact Snd.none
  ·exact Snd.none
 ·exact Snd.none
def aBa (tr:Tr) (md:Bool) (o:Oper) (n:Nat) (st:St) (ob:List Prop) (id0:Nat) (x y:Operand) (t:TypeId):Ans:=(tr.get t).bind fun i=>match i.k with
 | .sl e=>(tr.get e).bind fun ei=>match ei with
  | ⟨_,s0,b0,_⟩=>bif Nat.ble 1 s0&&Nat.ble 1 b0 then(opO st x).bind fun v=>(opO st y).bind fun u=>match u with
  | .one (.ra id2 off2 len2 sz2)=>match st.h id2 with
   | some (.rarr _ es2 rows)=>bif Nat.beq es2 s0&&(Nat.beq off2 0&&(Nat.beq len2 rows.length&&(Nat.beq sz2 rows.length&&Nat.blt 0 rows.length))) then(match v with
    | .one (.ra id off len sz)=>match st.h id with
     | some (.rarr te es elems)=>bif Nat.beq te e&&Nat.beq es s0 then(iT md (sz=elems.length) ob).bind fun ob2=>(iT md (off=0∧len=sz) ob2).bind fun ob3=>(iT md ((elems.length+rows.length)*b0≤140737488355328) ob3).bind fun ob4=>
       val o n ⟨opr x++opr y,[id,id2]⟩ (.one (.ra id 0 (elems.length+rows.length) (elems.length+rows.length))) [(id,some (.rarr e s0 (elems++rows)))] ob4 else none
     | _=>none
    | .one (.c .nl)=>match st.h id0 with
     | none=>(iT md (rows.length*b0≤140737488355328) ob).bind fun ob2=>val o n ⟨opr x++opr y,[id0,id2]⟩ (.one (.ra id0 0 rows.length rows.length)) [(id0,some (.rarr e s0 rows))] ob2
     | some _=>none
    | _=>none) else none
   | _=>none
  | _=>none
  else none
 | _=>none
theorem aA9 {O:Nat}{x y:Operand}{t:TypeId}(hw:tr.wf=true) (hT:Tok P tr.flat) (ho:o.op=.call { callee:=.builtin .append,args:= #[x,y],argTypes:= #[t,t] }):Snd P n o st ob (aBa tr md o n st ob O x y t):=by
 refine Snd.bind fun i hi=>?_
 replace hi:=Tr.get_ok hw hi
 split
 ·rename_i e hk;refine Snd.bind fun ei q=>?_
  obtain⟨k0,s0,b0,z0⟩:=ei;refine Snd.cond fun hb=>Snd.bind fun v hv=>Snd.bind fun u hu=>?_
  replace q:=Tr.get_ok hw q
  simp only[Ac] at hb;rw[cE] at hv hu;split
  ·rename_i id2 off2 len2 sz2;split
   ·rename_i te2 es2 rows W;refine Snd.cond fun hc2=>?_
    simp only[Ac] at hc2;obtain⟨c1,c2,Y,Z,N⟩:=hc2;have c1:=ε c1;have c2:=ε c2;have Y:=ε Y;have Z:=ε Z;have N:=iE N;subst c1 c2 Y Z;split
    ·rename_i id off len sz;split
     ·rename_i te es elems hh;refine Snd.cond fun I=>Snd.bind fun ob2 h2=>Snd.bind fun ob3 h3=>Snd.bind fun ob4 h4=>Snd.val fun _ hd J hc=>?_
      simp only[Ac] at I;have e1:=ε I.1;have e2:=ε I.2;subst e1;rw[e2] at hh;obtain⟨g1,g2⟩:=aZ h4 hc;obtain⟨g3,g4,g5⟩:=aZ h3 g1;obtain⟨g6,g7⟩:=aZ h2 g3;subst g4 g5;exact⟨g6,aKr hT ho hd J hi hk q hb.1 hb.2 hv hh g7 hu W N g2⟩
     ·exact Snd.none
    ·split
     ·rename_i hid;refine Snd.bind fun ob2 h2=>Snd.val fun _ hd J hc=>?_
      obtain⟨g1,g2⟩:=aZ h2 hc;exact⟨g1,aHv O hT ho hd J hi hk q hb.1 hb.2 hv hid hu W N g2⟩
     ·exact Snd.none
    ·exact Snd.none
   ·exact Snd.none
  ·exact Snd.none
 ·exact Snd.none
def a2z (P:Program) (f:FuncId):Bool:=match P.funcs[f]? with
 | some fn => !(fn.name == "runtime.NumGoroutine") && fn.body.isSome
 | none=>false
theorem rH {P:Program}{f:FuncId}(h:a2z P f=true):eG P f:=by
 unfold a2z at h;split at h
 ·rename_i fn hf;simp only[Ac,Cq] at h;refine⟨fn,hf,h.1,?_⟩;cases hb:fn.body with
  | none=>rw[hb] at h;cases h.2
  | some _=>rfl
 ·cases h
def aR6 (P:Program) (f:FuncId) (args:List V) (res:V):Prop:=a2z P f=true∧aQ P f args [] res []
def s9 (st:St):List Nat→List R→List Prop→Option (List Nat×List C×List Prop)
 | _,[],ob=>some ([],[],ob)
 | ty,r::rs,ob=>match r with
  | .c x=>(aIu ty [x]).bind fun y=>match y with
   | [y]=>(s9 st ty.tail rs ob).bind fun(ids,cs,ob1)=>some (ids,y::cs,ob1)
   | _=>none
  | .hs id 0 len sz=>match st.h id with
   | some (.arr _ es elems 2)=>(s9 st ty.tail rs ob).bind fun(ids,cs,ob1)=>some (id::ids,.sl es elems::cs,(sz=elems.length∧len=elems.length)::ob1)
   | _=>none
  | _=>none
theorem nU {st:St}:∀{rs:List R}{ty:List Nat}{ob q:List Prop}{ids:List Nat}{cs:List C},s9 st ty rs ob=some (ids,cs,q)→iL q→iL ob∧PureL st.h ids rs cs
 | [],ty,ob,q,ids,cs,h,hc=>by
  cases ty<;>(simp only[s9] at h;cases h;exact⟨hc,.nil⟩)
 | r::rs,ty,ob,q,ids,cs,h,hc=>by
  rw[s9.eq_def] at h;dsimp only at h;split at h
  ·rename_i x;rw[Ag] at h;obtain⟨y,J,h⟩:=h;split at h
   ·rename_i y';rw[Ag] at h;obtain⟨⟨I,N,O⟩,h1,h2⟩:=h;cases h2;obtain⟨g1,g2⟩:=nU h1 hc;rw[sE] at J;have hp:=mC (h:=st.h) ty [x];rw[Option.some.inj J] at hp;cases hp with
    | c hx _=>exact⟨g1,.c hx g2⟩
    | any _=>exact⟨g1,.any g2⟩
   ·cases h
  ·rename_i id len sz;split at h
   ·rename_i te es elems hh;rw[Ag] at h;obtain⟨⟨I,N,O⟩,h1,h2⟩:=h;cases h2;obtain⟨g1,g2⟩:=nU h1 hc.2;exact⟨g1,.hs hh hc.1.1 (by rw[hc.1.2,Cc,As]) g2⟩
   ·cases h
  ·cases h
def aVy (tr:Tr) (st:St) (v:V) (t:TypeId) (ob:List Prop):Option (List Nat×V×List Prop):=match v with
 | .one r=>(s9 st (oI tr 300 [t]) [r] ob).bind fun(ids,cs,ob1)=>match cs with
  | [c]=>some (ids,.one (.c c),ob1)
  | _=>none
 | .pa l=>(aIu (oI tr 300 [t]) l).bind fun l'=>some ([],.pa l',ob)
 | .ma rs=>(s9 st (oI tr 300 [t]) rs ob).bind fun(ids,cs,ob1)=>some (ids,.pa cs,ob1)
 | _=>none
theorem aQ5 {tr:Tr}{st:St}{v v':V}{t:TypeId}{ob q:List Prop}{ids:List Nat}(h:aVy tr st v t ob=some (ids,v',q)) (hc:iL q):(iL ob∧Conv st.h ids v v')∧v'.refs=[]:=by
 unfold aVy at h;split at h
 ·rw[Ag] at h;obtain⟨⟨I,J,N⟩,h1,h2⟩:=h;dsimp only at h2;split at h2
  ·cases h2;obtain⟨g1,g2⟩:=nU h1 hc;exact⟨⟨g1,.one g2⟩,by simp[V.refs,R.refs]⟩
  ·cases h2
 ·rw[Ag] at h;obtain⟨l',h1,h2⟩:=h;cases h2;rw[sE] at h1;cases h1;exact⟨⟨hc,.pa (mC _ _)⟩,by simp[V.refs]⟩
 ·rw[Ag] at h;obtain⟨⟨I,J,N⟩,h1,h2⟩:=h;cases h2;obtain⟨g1,g2⟩:=nU h1 hc;exact⟨⟨g1,.agg g2⟩,by simp[V.refs]⟩
 ·cases h
def aIn (tr:Tr) (st:St):List Operand→List TypeId→List Prop→Option (List Nat×List V×List Prop)
 | [],_,ob=>some ([],[],ob)
 | x::xs,t::ts,ob=>(opO st x).bind fun v=>(aVy tr st v t ob).bind fun(ids1,v',ob1)=>(aIn tr st xs ts ob1).bind fun(ids2,vs,ob2)=>some (ids1++ids2,v'::vs,ob2)
 | _::_,[],_=>none
theorem aG6 {tr:Tr}{st:St}:∀{xs:List Operand}{ts:List TypeId}{ob q:List Prop}{ids:List Nat}{l:List V},aIn tr st xs ts ob=some (ids,l,q)→iL q→(iL ob∧ArgsV st ids xs l)∧V.refsL l=[]
 | [],ts,ob,q,ids,l,h,hc=>by
  cases ts<;>(simp only[aIn] at h;cases h;exact⟨⟨hc,.nil⟩,by simp[V.refsL]⟩)
 | x::xs,[],ob,q,ids,l,h,hc=>by simp[aIn] at h
 | x::xs,t::ts,ob,q,ids,l,h,hc=>by
  simp only[aIn,cE,Ag] at h;obtain⟨v,hv,⟨I,v',Y⟩,h1,⟨J,vs,Z⟩,h2,h3⟩:=h;cases h3;obtain⟨⟨g1,g2⟩,g3⟩:=aG6 h2 hc;obtain⟨⟨N,O⟩,W⟩:=aQ5 h1 g1;exact⟨⟨N,.cons hv O g2⟩,by simp[V.refsL,W,g3]⟩
def aTp (P:Program) (tr:Tr) (o:Oper) (n:Nat) (st:St) (ob:List Prop) (res:V) (f:FuncId) (xs:Array Operand) (ts:Array TypeId):Ans:=(aIn tr st xs.toList ts.toList ob).bind fun(ids,args,ob1)=>val o n ⟨dH xs.toList,ids⟩ res [] (aR6 P f args res::ob1)
theorem aNy {res:V}{f:FuncId}{xs:Array Operand}{ts:Array TypeId}(ho:o.op=.call { callee:=.value (.func f),args:=xs,argTypes:=ts }):Snd P n o st ob (aTp P tr o n st ob res f xs ts):=by
 refine Snd.bind fun p ha=>?_
 obtain⟨ids,args,I⟩:=p;refine Snd.val fun d hd q hc=>?_
 obtain⟨⟨g1,g2⟩,g3⟩:=aG6 ha hc.2;refine⟨g1,?_⟩;have:=aKq [] [] (rH hc.1.1) ho hd q hc.1.2 g2 trivial trivial (by simp[callOk,g3,keys,cO,subset]);simpa [outs,keys] using this
def aN9 (P:Program) (tr:Tr) (md:Bool) (o:Oper) (n:Nat) (st:St) (ob:List Prop) (hn:Hn) (id0:Nat) (c:Call):Ans:=match c.callee with
 | .builtin b=>match b,c.args.toList,c.argTypes.toList with
  | .len,[x],[t]=>a0x tr md o n st ob x t
  | .append,[x,y],[t,t']=>bif Nat.beq t t' then(match opO st y with | some (.one (.ra _ _ _ _))=>aBa tr md o n st ob id0 x y t | _=>aG4 tr md o n st ob hn id0 x y t) else none
  | .min,[x,y],[_,_]=>(opO st x).bind fun v=>(opO st y).bind fun u=>match v,u with
   | .one (.c (.int k a)),.one (.c (.int k' b))=>bif decide (k=k') then val o n ⟨opr x++opr y,[]⟩ (.one (.c (.int k (if b<a then b else a)))) [] ob else none
   | _,_=>none
  | .max,[x,y],[_,_]=>(opO st x).bind fun v=>(opO st y).bind fun u=>match v,u with
   | .one (.c (.int k a)),.one (.c (.int k' b))=>bif decide (k=k') then val o n ⟨opr x++opr y,[]⟩ (.one (.c (.int k (if b>a then b else a)))) [] ob else none
   | _,_=>none
  | _,_,_=>none
 | .value (.func f)=>match hn with
  | .pc res=>aTp P tr o n st ob res f c.args c.argTypes
  | _=>none
 | _=>none
theorem arr1 {α:Type}{a:Array α}{x:α}(h:a.toList=[x]):a= #[x]:=by cases a;simp at h;simp[h]
theorem aW9 {α:Type}{a:Array α}{x y:α}(h:a.toList=[x,y]):a= #[x,y]:=by cases a;simp at h;simp[h]
theorem aN8 {hn:Hn}{J:Nat}{c:Call}(hw:tr.wf=true) (I:Tok P tr.flat) (ho:o.op=.call c):Snd P n o st ob (aN9 P tr md o n st ob hn J c):=by
 obtain⟨N,args,O⟩:=c;unfold aN9;dsimp only;split
 ·rename_i b;split
  ·rename_i x t h1 h2;have:=arr1 h1;have:=arr1 h2
   subst_vars
   exact aRw hw I ho
  ·rename_i x y t t' h1 h2;have:=aW9 h1;have:=aW9 h2
   subst_vars
   refine Snd.cond fun ht=>?_
   have:=ε ht;subst this;split
   ·exact aA9 hw I ho
   ·exact aDs hw I ho
  ·rename_i x y t t' h1 h2;have:=aW9 h1;have:=aW9 h2
   subst_vars
   refine Snd.bind fun v hv=>Snd.bind fun u hu=>?_
   rw[cE] at hv hu;split
   ·refine Snd.cond fun hk=>?_
    have:=ψ hk;subst this;exact Snd.val fun _ hd q hc=>⟨hc,a1x ho hd q hv hu rfl⟩
   ·exact Snd.none
  ·rename_i x y t t' h1 h2;have:=aW9 h1;have:=aW9 h2
   subst_vars
   refine Snd.bind fun v hv=>Snd.bind fun u hu=>?_
   rw[cE] at hv hu;split
   ·refine Snd.cond fun hk=>?_
    have:=ψ hk;subst this;exact Snd.val fun _ hd q hc=>⟨hc,a1y ho hd q hv hu rfl⟩
   ·exact Snd.none
  ·exact Snd.none
 ·split
  ·exact aNy ho
  ·exact Snd.none
 ·exact Snd.none
def idO (hn:Hn) (d:Option Nat):Option Nat:=match hn with
 | .id n=>some n
 | _=>match d with
  | some d=>some d
  | none=>none
def aRt (P:Program) (tr:Tr) (md nat:Bool) (n:Nat) (st:St) (hn:Hn) (o:Oper) (ob:List Prop):Ans:=match o.op with
 | .move x=>aG3 o n st ob x
 | .assign x=>aG3 o n st ob x
 | .pick c x y=>aTq o n st ob hn c x y
 | .alloc t=>(idO hn o.dst).bind fun id=>aOb tr o n st ob id t
 | .box t x=>(idO hn o.dst).bind fun id=>a0y o n st ob id t x
 | .build t ps=>aOa tr o n st ob t ps
 | .buildSlice t len ps=>(idO hn o.dst).bind fun id=>aNx tr o n st ob hn id t len ps
 | .load t x=>aTr tr md o n st ob hn t x
 | .store t x y=>aNw tr md o st ob hn t x y
 | .nilCheck x=>a0w md o n st ob x
 | .slice t x l h m=>aWs tr md o n st ob t x l h m
 | .index t x y=>aN3 tr o n st ob hn t x y
 | .convert src dst x=>aTt tr md o n st ob hn src dst x
 | .binOp op tx x y _=>a0z tr md nat o n st ob op tx x y
 | .unOp op _ x=>a3j md o n st ob op x
 | .makeFunc f a b=>aN5 o n st ob f a b
 | .makeMap t r=>(idO hn o.dst).bind fun id=>aWq tr o n st ob id t r
 | .fieldAddr t x f=>tC tr md o n st ob t x f
 | .field t x f=>aN6 tr o n st ob t x f
 | .indexAddr t x y=>tB tr md o n st ob hn t x y
 | .lookup t x y ok=>yD tr md o n st ob hn t x y ok
 | .mapUpdate t x y z=>kD tr md o st ob t x y z
 | .insert t x y z=>kD tr md o st ob t x y z
 | .extract x i=>aA8 o n st ob x i
 | .call c=>(idO hn o.dst).bind fun id=>aN9 P tr md o n st ob hn id c
 | _=>none
theorem aG2 {hn:Hn}(hw:tr.wf=true) (q:Tok P tr.flat):Snd P n o st ob (aRt P tr md nat n st hn o ob):=by
 unfold aRt;split
 ·rename_i ho;exact aN1 ho
 ·rename_i ho;exact aDr ho
 ·rename_i ho;exact aNz ho
 ·rename_i ho;exact Snd.bind fun _ _=>aIm hw q ho
 ·rename_i ho;exact Snd.bind fun _ _=>aRz ho
 ·rename_i ho;exact aIl hw q ho
 ·rename_i ho;exact Snd.bind fun _ _=>aIh hw q ho
 ·rename_i ho;exact aN2 hw q ho
 ·rename_i ho;exact aIg hw q ho
 ·rename_i ho;exact aRu ho
 ·rename_i ho;exact aRy hw q ho
 ·rename_i ho;exact aIi hw q ho
 ·rename_i ho;exact aN7 hw q ho
 ·rename_i ho;exact aR0 hw q ho
 ·rename_i ho;exact aWp ho
 ·rename_i ho;exact aN4 ho
 ·rename_i ho;exact Snd.bind fun _ _=>aRv ho
 ·rename_i ho;exact u5 hw q ho
 ·rename_i ho;exact aIk hw q ho
 ·rename_i ho;exact u4 hw q ho
 ·rename_i ho;exact aDo hw q ho
 ·rename_i ho;exact u2 hw q ho
 ·rename_i ho;exact aDp hw q ho
 ·rename_i ho;exact aA7 ho
 ·rename_i ho;exact Snd.bind fun _ _=>aN8 hw q ho
 ·exact Snd.none
theorem Step.freeze {rd:Rd}{q:Option (Nat×Option V)}{id te es z:Nat}{l:List (List C)}(h:Step P n o st rd ⟨q,[(id,some (.arr te es l z))]⟩):Step P n o st rd ⟨q,[(id,some (.arr te es l 2))]⟩:=by
 intro st' ha G S μ a w K Q hs I;refine h st' ha G S μ a w K Q hs fun S1 Y J N h1=>?_
 have hh:(Eff.apply ⟨q,[(id,some (.arr te es l z))]⟩ st').h id=some (.arr te es l z):=by
  show updL st'.h [(id,some (.arr te es l z))] id=_;rw[dE,aI]
 obtain⟨S2,O,h2⟩:=h1.freeze hh;refine I S2 O J N ?_;have W:upd (Eff.apply ⟨q,[(id,some (.arr te es l z))]⟩ st').h id (some (.arr te es l 2))=(Eff.apply ⟨q,[(id,some (.arr te es l 2))]⟩ st').h:=by
  show upd (updL st'.h [(id,some (.arr te es l z))]) id _=updL st'.h [(id,some (.arr te es l 2))];rw[dE,dE,oW]
 rw[W] at h2;exact h2
def a23:Ans→Ans
 | some (rd,⟨dv,[(id,some (.arr te es l _))]⟩,ob')=>some (rd,⟨dv,[(id,some (.arr te es l 2))]⟩,ob')
 | _=>none
theorem aWr {r:Ans}(h:Snd P n o st ob r):Snd P n o st ob (a23 r):=by
 intro rd f q e hc;unfold a23 at e;split at e
 ·cases e;obtain⟨g1,g2⟩:=h _ _ _ rfl hc;exact⟨g1,g2.freeze⟩
 ·cases e
def a1d (P:Program) (tr:Tr) (md nat:Bool) (n:Nat) (st:St) (hn:Hn) (o:Oper) (ob:List Prop):Ans:=match hn with
 | .fz=>a23 (aRt P tr md nat n st .no o ob)
 | hn=>aRt P tr md nat n st hn o ob
theorem aN0 {hn:Hn}(hw:tr.wf=true) (q:Tok P tr.flat):Snd P n o st ob (a1d P tr md nat n st hn o ob):=by
 unfold a1d;split
 ·exact aWr (aG2 hw q)
 ·exact aG2 hw q
def aDf:List Oper→Nat→Option Nat
 | [],_=>none
 | o::os,i=>bif Nat.beq i 0 then o.dst else aDf os (i-1)
theorem aGn:∀(os:List Oper) (i:Nat),aDf os i=(os[i]?).bind (·.dst)
 | [],i=>by simp[aDf]
 | o::os,0=>by simp[aDf]
 | o::os,i+1=>by
  have:Nat.beq (i+1) 0=false:=rfl;simp[aDf,this,aGn os i]
def axG (P:Program) (tr:Tr) (md nat:Bool) (n:Nat) (all:List Oper) (hs:List (Nat×Hn)) (k:Nat) (o:Oper) (st:St) (ob:List Prop):Ans:=match o.guard with
 | none=>a1d P tr md nat n st (aF9 hs k) o ob
 | some (j,want)=>(aDf all j).bind fun t=>(st.e t).bind fun v=>match v with
  | .one (.c (.bool b))=>match aPd (match aF9 hs j with | .bv w=>.bv w | _=>.no) b ob with
   | (w,ob1)=>bif w==want then(a1d P tr md nat n st (aF9 hs k) o ob1).bind fun(rd,f,ob2)=>some (⟨t::rd.e,rd.h⟩,f,ob2)
    else match o.dst with
     | some d=>bif Nat.blt d n then some (⟨[t],[]⟩,⟨some (d,some (.tup [])),[]⟩,ob1) else none
     | none=>none
  | .tup []=>match o.dst with
   | some d=>bif Nat.blt d n then some (⟨[t],[]⟩,⟨some (d,some (.tup [])),[]⟩,ob) else none
   | none=>none
  | _=>none
theorem aTs {ops:Array Oper}{hs:List (Nat×Hn)}{k:Nat}{rd:Rd}{f:Eff}{J:List Prop}(hw:tr.wf=true) (W:Tok P tr.flat) (ho:ops[k]?=some o) (h:axG P tr md nat n ops.toList hs k o st ob=some (rd,f,J)):iL J→iL ob∧GStep P n ops k st rd f:=by
 intro hc;unfold axG at h;split at h
 ·rename_i I;obtain⟨h1,h2⟩:=aN0 hw W _ _ _ h hc;exact⟨h1,GStep.plain ho I h2⟩
 ·rename_i j want I;rw[Ag] at h;obtain⟨t,ht,h⟩:=h;rw[Ag] at h;obtain⟨v,hv,h⟩:=h;have O:(ops[j]?).bind (·.dst)=some t:=by
   rw[aGn] at ht;simpa using ht
  split at h
  ·rename_i b;split at h;rename_i w Y N;cases q:w==want with
   | true=>
    rw[q] at h;simp only[Bo] at h;rw[Ag] at h;obtain⟨⟨Z,f1,aa⟩,h1,h2⟩:=h;cases h2;obtain⟨g1,g2⟩:=aN0 hw W _ _ _ h1 hc;obtain⟨g3,g4⟩:=qW N g1;exact⟨g3,GStep.yes ho I O hv (g4.trans (eq_of_beq q)) g2⟩
   | false=>
    rw[q] at h;simp only[Bs] at h;split at h
    ·rename_i d hd;obtain⟨h1,h2⟩:=eE h;cases h2;obtain⟨g3,g4⟩:=qW N hc;refine⟨g3,GStep.no ho I hd (iE h1) O hv g4 ?_⟩;cases w<;>cases want<;>first | rfl | (cases q)
    ·cases h
  ·split at h
   ·rename_i d hd;obtain⟨h1,h2⟩:=eE h;cases h2;exact⟨hc,GStep.un ho I hd (iE h1) O hv⟩
   ·cases h
  ·cases h
def vQ (P:Program) (tr:Tr) (md nat:Bool) (n:Nat) (all:List Oper) (hs:List (Nat×Hn)):Nat→Nat→List Oper→(Nat→Option V)→c7→List Nat→REs→List Prop→Option (St×Nat×REs×List Prop)
 | 0,k,_,e,h,d,pre,ob=>some (⟨e,h,d⟩,k,pre,ob)
 | _+1,k,[],e,h,d,pre,ob=>some (⟨e,h,d⟩,k,pre,ob)
 | m+1,k,o::os,e,h,d,pre,ob=>(axG P tr md nat n all hs k o ⟨e,h,d⟩ ob).bind fun(rd,f,ob1)=>match f with
  | ⟨some (t,v),[]⟩=>vQ P tr md nat n all hs m (k+1) os (upd e t v) h d ((rd,⟨some (t,v),[]⟩)::pre) ob1
  | ⟨some (t,v),[(id,x)]⟩=>vQ P tr md nat n all hs m (k+1) os (upd e t v) (upd h id x) d ((rd,⟨some (t,v),[(id,x)]⟩)::pre) ob1
  | ⟨none,[(id,x)]⟩=>vQ P tr md nat n all hs m (k+1) os e (upd h id x) d ((rd,⟨none,[(id,x)]⟩)::pre) ob1
  | _=>none
theorem aDq {ops:Array Oper}{hs:List (Nat×Hn)}{draw:Bool}(hw:tr.wf=true) (hT:Tok P tr.flat):∀(m k:Nat) (os:List Oper) (e:Nat→Option V) (h:c7) (d:List Nat) (pre:REs) (ob:List Prop) (st':St) (k':Nat) (pre':REs) (J:List Prop),os=ops.toList.drop k→
  vQ P tr md nat n ops.toList hs m k os e h d pre ob=some (st',k',pre',J)→iL J→iL ob∧∀Q,kE P n ops draw k' st' pre' Q→kE P n ops draw k ⟨e,h,d⟩ pre Q:=by
 intro m
 induction m with
 | zero=>
  intro k os e h d pre ob st' k' pre' J _ q hc;simp only[vQ] at q;cases q;exact⟨hc,fun Q N=>N⟩
 | succ m Y=>
  intro k os e h d pre ob st' k' pre' J W q hc;cases os with
  | nil=>
   simp only[vQ] at q;cases q;exact⟨hc,fun Q N=>N⟩
  | cons o os=>
   have ho:ops[k]?=some o:=by
    have:(ops.toList.drop k)[0]?=some o:=by rw[←W];rfl
    simpa using this
   have I:os=ops.toList.drop (k+1):=by
    have:os=(ops.toList.drop k).tail:=by rw[←W];rfl
    rw[this,List.tail_drop]
   simp only[vQ,Ag] at q;obtain⟨⟨rd,f,Z⟩,h1,h2⟩:=q;have key:∀{O:St},iL Z→O=f.apply ⟨e,h,d⟩→(∀Q,kE P n ops draw k' st' pre' Q→kE P n ops draw (k+1) O ((rd,f)::pre) Q)→iL ob∧∀Q,kE P n ops draw k' st' pre' Q→kE P n ops draw k ⟨e,h,d⟩ pre Q:=by
    intro O aa ab hk;obtain⟨g1,g2⟩:=aTs hw hT ho h1 aa;subst ab;exact⟨g1,fun Q N=>k_ g2 (hk Q N)⟩
   split at h2
   ·rename_i heq;have heq:f=_:=heq;subst heq;obtain⟨g1,g2⟩:=Y _ _ _ _ _ _ _ _ _ _ _ I h2 hc;exact key g1 (by simp only[Eff.apply,aD9]) g2
   ·rename_i heq;have heq:f=_:=heq;subst heq;obtain⟨g1,g2⟩:=Y _ _ _ _ _ _ _ _ _ _ _ I h2 hc;exact key g1 (by simp only[Eff.apply,dE]) g2
   ·rename_i heq;have heq:f=_:=heq;subst heq;obtain⟨g1,g2⟩:=Y _ _ _ _ _ _ _ _ _ _ _ I h2 hc;exact key g1 (by simp only[Eff.apply,dE]) g2
   ·cases h2
end
section
variable {ro:Option Nat}{P:Program}{n:Nat}{ops:Array Oper}{draw:Bool}{k k':Nat}{st st':St}{pre pre':REs}{Q:St→Prop}{tr:Tr}{ob:List Prop}
theorem ax_ {hs:List (Nat×Hn)}{md nat:Bool}(m:Nat) (hw:tr.wf=true) (q:Tok P tr.flat) (h:vQ P tr md nat n ops.toList hs m k (ops.toList.drop k) st.e st.h st.d pre []=some (st',k',pre',ob)) (hc:iL ob) (hk:kE P n ops draw k' st' pre' Q):kE P n ops draw k st pre Q:=
 (aDq hw q m k _ st.e st.h st.d pre [] st' k' pre' ob rfl h hc).2 Q hk
theorem aTu {hs:List (Nat×Hn)}{md nat:Bool}{kf:List Nat}{id:Nat}{Q:Exit→St→Prop}(hm:P.follows .mixedOrders=true) (hw:tr.wf=true) (q:Tok P tr.flat) (h:vQ P tr md nat n ops.toList hs 1000 0 ops.toList st.e st.h st.d [] []=some (st',k',pre',ob)) (hc:iL ob)
  (h1:Nat.beq k' ops.size=true) (h2:(!draw || (fG (pC ops) pre'.reverse []&&i7 ops))=true) (I:Q .normal st'):AWp ro P n kf (.region id ops draw) st Q:=
 aE hm ((aDq hw q 1000 0 _ st.e st.h st.d [] [] st' k' pre' ob rfl h hc).2 _ (z_ h1 h2 I))
end
theorem hs_all {h:c7}{id te es n:Nat}{l l':List (List C)}{fz:Nat}(h1:h id=some (.arr te es l fz)) (hf:fz=2) (h2:n=l.length) (h3:l=l'):Conv h [id] (.one (.hs id 0 n n)) (.one (.c (.sl es l'))):=by
 subst h2;subst h3;subst hf;exact .one (.hs h1 rfl (by rw[Cc,As]) .nil)
section
variable {P:Program}{n:Nat}{ops:Array Oper}{draw:Bool}{k d:Nat}{st:St}{pre:REs}{Q:St→Prop}{o:Oper}{f:FuncId}{xs:Array Operand}{ts:Array TypeId}{ids:List Nat}{args:List V}{res:V}{hin hout:List (Nat×AObj)}
theorem kc (hf:aQ P f args hin res hout)
  (hk:kE P n ops draw (k+1) ⟨upd st.e d (some res),updL st.h (outs hout),st.d⟩ ((⟨dH xs.toList,ids++keys hin++keys hout⟩,⟨some (d,some res),outs hout⟩)::pre) Q)
  (hb:eG P f:=by exact rH (by kernel_rfl)) (ho:ops[k]?=some o:=by rfl) (J:o.guard=none:=by rfl) (q:o.op=.call { callee:=.value (.func f),args:=xs,argTypes:=ts }:=by rfl) (hd:o.dst=some d:=by rfl) (I:Nat.blt d n=true:=by rfl)
  (ha:ArgsV st ids xs.toList args:=by repeat (first | exact .nil | (apply Go.AM.ArgsV.cons rfl;(first | exact .refl | exact .one (.c .nl .nil) | exact .one (.c .sn .nil) | exact .one (.hs rfl (by first | rfl | simp) (by first | rfl | (simp;done) | (simp[Go.AM.take_map];done) | exact Go.AM.take_map.symm) .nil) | exact Go.AM.hs_all rfl rfl (by first | rfl | assumption | (simp;done) | (simp;omega)) (by first | rfl | assumption | (simp;done)) | ((first | apply Go.AM.Conv.pa | apply Go.AM.Conv.agg);repeat (first | exact .nil | apply Go.AM.PureL.c .refl | apply Go.AM.PureL.c .nl | apply Go.AM.PureL.c .sn | (apply Go.AM.PureL.hs;rfl;(first | rfl | simp);(first | rfl | (simp;done) | (simp[Go.AM.take_map];done) | exact Go.AM.take_map.symm))))))))
  (hin':dM (fun p=>st.h p.1=some p.2) hin:=by repeat (first | exact trivial | refine⟨rfl,?_⟩)) (hout':dM (fun p=>p.1∈keys hin∨st.h p.1=none) hout:=by repeat (first | exact trivial | refine⟨.inr rfl,?_⟩ | refine⟨.inl (by decide),?_⟩ | refine⟨.inl (by repeat (first | exact List.Mem.head _ | apply List.Mem.tail)),?_⟩)) (hok:callOk args hin=true:=by rfl):kE P n ops draw k st pre Q:=
 k_ (g_ ho J (aKq hin hout hb q hd (iE I) hf ha hin' hout' hok)) hk
theorem kv {x:Operand}{caps:List R}(hf:aQ P f (args++caps.map V.one) hin res hout)
  (hk:kE P n ops draw (k+1) ⟨upd st.e d (some res),updL st.h (outs hout),st.d⟩ ((⟨opr x++dH xs.toList,ids++keys hin++keys hout⟩,⟨some (d,some res),outs hout⟩)::pre) Q)
  (hb:eG P f:=by exact rH (by kernel_rfl)) (ho:ops[k]?=some o:=by rfl) (J:o.guard=none:=by rfl) (q:o.op=.call { callee:=.value x,args:=xs,argTypes:=ts }:=by rfl) (hd:o.dst=some d:=by rfl) (I:Nat.blt d n=true:=by rfl) (hx:opv st x=some (.one (.clo f caps)):=by rfl)
  (ha:ArgsV st ids xs.toList args:=by repeat (first | exact .nil | (apply Go.AM.ArgsV.cons rfl;(first | exact .refl | exact .one (.c .nl .nil) | exact .one (.c .sn .nil) | exact .one (.hs rfl (by first | rfl | simp) (by first | rfl | (simp;done) | (simp[Go.AM.take_map];done) | exact Go.AM.take_map.symm) .nil) | exact Go.AM.hs_all rfl rfl (by first | rfl | assumption | (simp;done) | (simp;omega)) (by first | rfl | assumption | (simp;done)) | ((first | apply Go.AM.Conv.pa | apply Go.AM.Conv.agg);repeat (first | exact .nil | apply Go.AM.PureL.c .refl | apply Go.AM.PureL.c .nl | apply Go.AM.PureL.c .sn | (apply Go.AM.PureL.hs;rfl;(first | rfl | simp);(first | rfl | (simp;done) | (simp[Go.AM.take_map];done) | exact Go.AM.take_map.symm))))))))
  (hin':dM (fun p=>st.h p.1=some p.2) hin:=by repeat (first | exact trivial | refine⟨rfl,?_⟩)) (hout':dM (fun p=>p.1∈keys hin∨st.h p.1=none) hout:=by repeat (first | exact trivial | refine⟨.inr rfl,?_⟩ | refine⟨.inl (by decide),?_⟩ | refine⟨.inl (by repeat (first | exact List.Mem.head _ | apply List.Mem.tail)),?_⟩)) (hok:callOk (args++caps.map V.one) hin=true:=by rfl):kE P n ops draw k st pre Q:=
 k_ (g_ ho J (aKp hin hout hb q hd (iE I) hx hf ha hin' hout' hok)) hk
end
inductive Res where
 | leaf (st:St) (k:Nat) (pre:REs) (ob:List Prop)
 | fork (b:Bool) (x y:Res)
def Res.obs:Res→Prop
 | .leaf _ _ _ ob=>iL ob
 | .fork b x y=>(b=true→x.obs)∧(b=false→y.obs)
def Res.good (ops:Array Oper) (draw:Bool):Res→Bool
 | .leaf _ k pre _=>Nat.beq k ops.size&&(!draw || (fG (pC ops) pre.reverse []&&i7 ops))
 | .fork _ x y=>x.good ops draw&&y.good ops draw
def Res.all (Q:St→Prop):Res→Prop
 | .leaf st _ _ _=>Q st
 | .fork b x y=>(b=true→x.all Q)∧(b=false→y.all Q)
def aU7:Nat→List Nat→Bool
 | _,[]=>false
 | i,x::l=>bif Nat.beq i x then true else aU7 i l
theorem aFx:∀{i:Nat}{l:List Nat},aU7 i l=true↔i∈l
 | i,[]=>by simp[aU7]
 | i,x::l=>by
  simp only[aU7];cases h:Nat.beq i x with
  | true=>have:=ε h;simp[this]
  | false=>
   have:i≠x:=fun e=>by subst e;simp at h
   simp[this,aFx]
def aZs (all:List Oper) (dec:List Nat) (o:Oper):Option Nat:=
 match (match o.guard with | some (j,_)=>(aDf all j).bind fun t=>bif aU7 t dec then none else some t | none=>none) with
 | some t=>some t
 | none=>match o.op with
  | .pick (.tmp t) _ _=>bif aU7 t dec then none else some t
  | _=>none
def oT (P:Program) (tr:Tr) (md nat:Bool) (n:Nat) (all:List Oper) (hs:List (Nat×Hn)) (W:List Nat):Nat→Nat→List Oper→(Nat→Option V)→c7→List Nat→List Nat→REs→List Prop→Option Res
 | 0,_,_,_,_,_,_,_,_=>none
 | _+1,k,[],e,h,d,_,pre,ob=>some (.leaf ⟨e,h,d⟩ k pre ob)
 | m+1,k,o::os,e,h,d,dec,pre,ob=>match aZs all dec o with
  | some t=>match e t with
   | some (.one (.c (.bool b)))=>(oT P tr md nat n all hs W m k (o::os) (upd e t (some (.one (.c (.bool true))))) h d (t::dec) pre ob).bind fun x=>
     (oT P tr md nat n all hs W m k (o::os) (upd e t (some (.one (.c (.bool false))))) h d (t::dec) pre ob).bind fun y=>some (.fork b x y)
   | _=>oT P tr md nat n all hs W m k (o::os) e h d (t::dec) pre ob
  | none=>(axG P tr md nat n all hs k o ⟨e,h,d⟩ ob).bind fun(rd,f,ob1)=>match f with
   | ⟨some (t,v),[]⟩=>bif aU7 t W then oT P tr md nat n all hs W m (k+1) os (upd e t v) h d dec ((rd,⟨some (t,v),[]⟩)::pre) ob1 else none
   | _=>none
section
variable {P:Program}{n:Nat}{tr:Tr}{md nat:Bool}
theorem aD8 {e:Nat→Option V}{t:Nat}{x:Option V}(h:e t=x):upd e t x=e:=by
 funext i;simp only[upd];split
 ·rename_i hb;rw[ε hb,h]
 ·rfl
theorem aRx {ops:Array Oper}{hs:List (Nat×Hn)}{W:List Nat}{draw:Bool}(hw:tr.wf=true) (hT:Tok P tr.flat):∀(m k:Nat) (os:List Oper) (e:Nat→Option V) (h:c7) (d dec:List Nat) (pre:REs) (ob:List Prop) (res:Res),os=ops.toList.drop k→
  oT P tr md nat n ops.toList hs W m k os e h d dec pre ob=some res→res.obs→res.good ops draw=true→∀Q,res.all Q→iL ob∧kE P n ops draw k ⟨e,h,d⟩ pre Q:=by
 intro m
 induction m with
 | zero=>intro k os e h d dec pre ob res _ I;simp[oT] at I
 | succ m O=>
  intro k os e h d dec pre ob res J I ho q Q N;cases os with
  | nil=>
   simp only[oT] at I;cases I;simp only[Res.good,Ac] at q;exact⟨ho,z_ q.1 q.2 N⟩
  | cons o os=>
   have hok:ops[k]?=some o:=by
    have:(ops.toList.drop k)[0]?=some o:=by rw[←J];rfl
    simpa using this
   have Y:os=ops.toList.drop (k+1):=by
    have:os=(ops.toList.drop k).tail:=by rw[←J];rfl
    rw[this,List.tail_drop]
   simp only[oT] at I;split at I
   ·rename_i t _;split at I
    ·rename_i b hb;rw[Ag] at I;obtain⟨x,hx,I⟩:=I;rw[Ag] at I;obtain⟨y,Z,I⟩:=I;cases I;simp only[Res.obs] at ho;simp only[Res.good,Ac] at q;simp only[Res.all] at N;cases b with
     | true=>
      rw[aD8 hb] at hx;exact O _ _ _ _ _ _ _ _ _ J hx (ho.1 rfl) q.1 Q (N.1 rfl)
     | false=>
      rw[aD8 hb] at Z;exact O _ _ _ _ _ _ _ _ _ J Z (ho.2 rfl) q.2 Q (N.2 rfl)
    ·exact O _ _ _ _ _ _ _ _ _ J I ho q Q N
   ·rw[Ag] at I;obtain⟨⟨rd,f,ob1⟩,h1,h2⟩:=I;dsimp only at h2;split at h2
    ·obtain⟨_,h3⟩:=eE h2;obtain⟨g1,g2⟩:=O _ _ _ _ _ _ _ _ _ Y h3 ho q Q N;obtain⟨g3,g4⟩:=aTs hw hT hok h1 g1;refine⟨g3,k_ g4 ?_⟩;simpa only[Eff.apply,aD9] using g2
    ·cases h2
def Res.keep (e0:Nat→Option V) (h0:c7) (d0:List Nat) (W:List Nat):Res→Prop
 | .leaf st _ _ _=>(∀t,t∉W→∀v,e0 t=some v→st.e t=some v)∧st.h=h0∧st.d=d0
 | .fork b x y=>(b=true→x.keep e0 h0 d0 W)∧(b=false→y.keep e0 h0 d0 W)
theorem aIj {all:List Oper}{hs:List (Nat×Hn)}{W:List Nat}{e0:Nat→Option V}:∀(m k:Nat) (os:List Oper) (e:Nat→Option V) (h:c7) (d dec:List Nat) (pre:REs) (ob:List Prop) (res:Res),
  oT P tr md nat n all hs W m k os e h d dec pre ob=some res→(∀t,t∉W→∀v,e0 t=some v→e t=some v)→res.keep e0 h d W:=by
 intro m
 induction m with
 | zero=>intro k os e h d dec pre ob res q;simp[oT] at q
 | succ m I=>
  intro k os e h d dec pre ob res q he;cases os with
  | nil=>
   simp only[oT] at q;cases q;exact⟨he,rfl,rfl⟩
  | cons o os=>
   simp only[oT] at q;split at q
   ·rename_i t _;split at q
    ·rename_i b hb;rw[Ag] at q;obtain⟨x,hx,q⟩:=q;rw[Ag] at q;obtain⟨y,J,q⟩:=q;cases q;refine⟨fun N=>?_,fun O=>?_⟩
     ·subst N;rw[aD8 hb] at hx;exact I _ _ _ _ _ _ _ _ _ hx he
     ·subst O;rw[aD8 hb] at J;exact I _ _ _ _ _ _ _ _ _ J he
    ·exact I _ _ _ _ _ _ _ _ _ q he
   ·rw[Ag] at q;obtain⟨⟨rd,f,Z⟩,h1,h2⟩:=q;dsimp only at h2;split at h2
    ·obtain⟨hm,h3⟩:=eE h2;refine I _ _ _ _ _ _ _ _ _ h3 fun s hs u hu=>?_
     have Y:s≠_:=fun e=>hs (by rw[e];exact aFx.1 hm)
     rw[aS _ _ _ Y];exact he s hs u hu
    ·cases h2
def Res.boolAt (w:Nat):Res→Option Bool
 | .leaf st _ _ _=>match st.e w with
  | some (.one (.c (.bool x)))=>some x
  | _=>none
 | .fork b x y=>(x.boolAt w).bind fun p=>(y.boolAt w).bind fun q=>some (bif b then p else q)
theorem Res.boolAt_all {w:Nat}:∀{r:Res}{x:Bool},r.boolAt w=some x→r.all fun st=>st.e w=some (.one (.c (.bool x)))
 | .leaf st _ _ _,x,h=>by
  simp only[Res.boolAt] at h;split at h
  ·rename_i hx;cases h;exact hx
  ·cases h
 | .fork b p q,x,h=>by
  simp only[Res.boolAt,Ag] at h;obtain⟨u,hu,v,hv,h⟩:=h;cases h;refine⟨fun hb=>?_,fun hb=>?_⟩
  ·subst hb;exact Res.boolAt_all hu
  ·subst hb;exact Res.boolAt_all hv
def sJ (res:Res):List Nat→Option (List (Nat×Option V))
 | []=>some []
 | w::ws=>(sJ res ws).bind fun l=>match res.boolAt w with
  | some x=>some ((w,some (.one (.c (.bool x))))::l)
  | none=>some ((w,none)::l)
def mP (e:Nat→Option V):List (Nat×Option V)→Nat→Option V
 | [],t=>e t
 | (w,v)::l,t=>bif Nat.beq t w then v else mP e l t
theorem zZ {res:Res}{e0:Nat→Option V}{t:Nat}:∀{W:List Nat}{L:List (Nat×Option V)},sJ res W=some L→mP e0 L t=if t∈W then(res.boolAt t).map (fun x=>V.one (.c (.bool x))) else e0 t
 | [],L,h=>by
  simp only[sJ] at h;cases h;simp[mP]
 | w::ws,L,h=>by
  simp only[sJ,Ag] at h;obtain⟨l,hl,h⟩:=h;have I:=zZ (e0:=e0) (t:=t) hl;have J:L=(w,(res.boolAt w).map (fun x=>V.one (.c (.bool x))))::l:=by
   split at h
   ·rename_i x hx;cases h;rw[hx];rfl
   ·rename_i hx;cases h;rw[hx];rfl
  subst J;simp only[mP];by_cases q:t=w
  ·subst q;simp
  ·have hb:Nat.beq t w=false:=by
    cases hb:Nat.beq t w with
    | true=>exact absurd (ε hb) q
    | false=>rfl
   rw[hb,Bs,I];simp[q]
theorem Res.all_mono {Q Q':St→Prop}(h:∀st,Q st→Q' st):∀{r:Res},r.all Q→r.all Q'
 | .leaf st _ _ _,k=>h st k
 | .fork _ _ _,k=>⟨fun hb=>Res.all_mono h (k.1 hb),fun hb=>Res.all_mono h (k.2 hb)⟩
theorem Res.all_forall {α:Type}{Q:α→St→Prop}:∀{r:Res},(∀a,r.all (Q a))→r.all fun st=>∀a,Q a st
 | .leaf _ _ _ _,k=>fun a=>k a
 | .fork _ _ _,k=>⟨fun hb=>Res.all_forall fun a=>(k a).1 hb,fun hb=>Res.all_forall fun a=>(k a).2 hb⟩
theorem Res.all_and {Q Q':St→Prop}:∀{r:Res},r.all Q→r.all Q'→r.all fun st=>Q st∧Q' st
 | .leaf _ _ _ _,h,k=>⟨h,k⟩
 | .fork _ _ _,h,k=>⟨fun hb=>Res.all_and (h.1 hb) (k.1 hb),fun hb=>Res.all_and (h.2 hb) (k.2 hb)⟩
theorem Res.keep_at {e0:Nat→Option V}{h0:c7}{d0 W:List Nat}{t:Nat}{v:V}(ht:t∉W) (hv:e0 t=some v):∀{r:Res},r.keep e0 h0 d0 W→r.all fun st=>st.e t=some v
 | .leaf _ _ _ _,k=>k.1 t ht v hv
 | .fork _ _ _,k=>⟨fun hb=>Res.keep_at ht hv (k.1 hb),fun hb=>Res.keep_at ht hv (k.2 hb)⟩
theorem Res.keep_hd {e0:Nat→Option V}{h0:c7}{d0 W:List Nat}:∀{r:Res},r.keep e0 h0 d0 W→r.all fun st=>st.h=h0∧st.d=d0
 | .leaf _ _ _ _,k=>k.2
 | .fork _ _ _,k=>⟨fun hb=>Res.keep_hd (k.1 hb),fun hb=>Res.keep_hd (k.2 hb)⟩
theorem aQo {res:Res}{e0:Nat→Option V}{h0:c7}{d0 W:List Nat}{L:List (Nat×Option V)}(h:sJ res W=some L) (hk:res.keep e0 h0 d0 W):res.all fun st=>(∀p:Nat×V,mP e0 L p.1=some p.2→st.e p.1=some p.2)∧(st.h=h0∧st.d=d0):=by
 refine Res.all_and (Res.all_forall fun p=>?_) (Res.keep_hd hk);by_cases hv:mP e0 L p.1=some p.2
 ·refine Res.all_mono (fun st h _=>h) (?_:res.all fun st=>st.e p.1=some p.2);rw[zZ h] at hv;by_cases ht:p.1∈W
  ·rw[ξ ht,B5] at hv;obtain⟨x,hx,hv⟩:=hv;rw[←hv];exact Res.boolAt_all hx
  ·rw[φ ht] at hv;exact Res.keep_at ht hv hk
 ·have:∀r:Res,r.all fun st=>mP e0 L p.1=some p.2→st.e p.1=some p.2:=by
   intro r
   induction r with
   | leaf st k pre ob=>exact fun h=>absurd h hv
   | fork b x y q I=>exact⟨fun _=>q,fun _=>I⟩
  exact this res
theorem Sub.weak {kf:List Nat}{q st2:St}(he:∀p:Nat×V,st2.e p.1=some p.2→q.e p.1=some p.2) (hh:q.h=st2.h) (hd:q.d=st2.d):Sub kf st2 q:=by
 intro G n S μ a w _ hs;refine⟨S,μ,⟨?_,hs.size,?_,fun t v e=>?_⟩⟩
 ·rw[←hh];exact hs.inv
 ·rw[←hh,←hd];exact hs.defers
 ·rw[←hh];exact hs.env t v (he (t,v) e)
def aW7:List Oper→List Nat
 | []=>[]
 | o::os=>match o.dst with
  | some t=>t::aW7 os
  | none=>aW7 os
theorem aWu {ro:Option Nat}{ops:Array Oper}{draw:Bool}{st:St}{J:Nat→Option V}{h1:c7}{d1:List Nat}{I:Nat}{q:REs}{N:List Prop}{res:Res}{L:List (Nat×Option V)}{hs:List (Nat×Hn)}{kf:List Nat}{id:Nat}{Q:Exit→St→Prop}(m:Nat) (hm:P.follows .mixedOrders=true) (hw:tr.wf=true) (Y:Tok P tr.flat)
  (g1:vQ P tr md nat n ops.toList hs m 0 ops.toList st.e st.h st.d [] []=some (⟨J,h1,d1⟩,I,q,N))
  (g2:oT P tr md nat n ops.toList hs (aW7 (ops.toList.drop I)) 1000 I (ops.toList.drop I) J h1 d1 [] q N=some res)
  (g3:sJ res (aW7 (ops.toList.drop I))=some L) (ho:res.obs) (hg:res.good ops draw=true) (hq:Q .normal ⟨mP J L,h1,d1⟩):AWp ro P n kf (.region id ops draw) st Q:=by
 have hk:=aIj (P:=P) (tr:=tr) (md:=md) (nat:=nat) (n:=n) (e0:=J) _ _ _ _ _ _ _ _ _ _ g2 (fun _ _ _ h=>h);have Z:=aQo g3 hk;have O:res.all fun st'=>Sub kf ⟨mP J L,h1,d1⟩ st':=Res.all_mono (fun st h=>Sub.weak h.1 h.2.1 h.2.2) Z
 obtain⟨aa,W⟩:=aRx (draw:=draw) hw Y _ _ _ _ _ _ _ _ _ _ rfl g2 ho hg _ O;exact aWt _ hm ((aDq hw Y m 0 _ st.e st.h st.d [] [] _ I q N rfl g1 aa).2 _ W) hq
end
end Go.AM
