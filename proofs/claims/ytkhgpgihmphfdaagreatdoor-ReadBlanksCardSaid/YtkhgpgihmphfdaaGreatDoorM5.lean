/-
  Texts Am23 to Am26 in one.
-/
import Derived.Test.YtkhgpgihmphfdaaGreatDoorM4
import Derived.KernelRfl
open List (drop_zero map_cons take_length)
open Nat (eq_of_beq_eq_true le_of_ble_eq_true zero_add)
namespace Go.AM
open Go
def frc {α:Type}:List α→Option (List α)
 | []=>some []
 | x::xs=>(frc xs).bind fun l=>some (x::l)
theorem kD {α:Type}:∀l:List α,frc l=some l
 | []=>rfl
 | x::xs=>by simp[frc,kD xs]
def tak {α:Type}:Nat→List α→Option (List α)
 | 0,_=>some []
 | _+1,[]=>none
 | k+1,x::xs=>(tak k xs).bind fun l=>some (x::l)
theorem qM {α:Type}:∀{k:Nat}{l r:List α},tak k l=some r→k≤l.length∧l.take k=r
 | 0,l,r,h=>by simp[tak] at h;simp[h]
 | k+1,[],r,h=>by simp[tak] at h
 | k+1,x::xs,r,h=>by
  simp only[tak,Ac] at h;obtain⟨l,h1,h2⟩:=h;cases h2;obtain⟨u,q⟩:=qM h1;exact⟨by simp;omega,by simp[q]⟩
inductive Tr where
 | leaf (o:Option TI)
 | node (k:Nat) (l r:Tr)
def Tr.get:Tr→Nat→Option TI
 | .leaf o,t=>bif Nat.beq t 0 then o else none
 | .node k l r,t=>bif Nat.blt t k then l.get t else r.get (t-k)
def Tr.flat:Tr→TT
 | .leaf o=>[o]
 | .node _ l r=>l.flat++r.flat
def Tr.wf:Tr→Bool
 | .leaf _=>true
 | .node k l r=>Nat.beq k l.flat.length&&(l.wf&&r.wf)
theorem Tr.get_ok:∀{tr:Tr}{t:Nat}{i:TI},tr.wf=true→tr.get t=some i→tr.flat[t]?=some (some i)
 | .leaf o,t,i,_,h=>by
  simp only[Tr.get] at h;cases hb:Nat.beq t 0 with
  | false=>rw[hb] at h;cases h
  | true=>
   rw[hb] at h;have:=δ hb;subst this;simp only[Bt] at h;simp[Tr.flat,h]
 | .node k l r,t,i,hw,h=>by
  simp only[Tr.wf,Ab] at hw;have u:=δ hw.1;simp only[Tr.get] at h;simp only[Tr.flat,B3];cases hb:Nat.blt t k with
  | true=>
   rw[hb] at h;have:t<k:=Ao hb;rw[ξ (by omega)];exact Tr.get_ok hw.2.1 h
  | false=>
   rw[hb] at h;have:¬t<k:=fun q=>by
    have:Nat.blt t k=true:=Nat.ble_eq_true_of_le q;rw[hb] at this;cases this
   rw[ζ (by omega),←u];exact Tr.get_ok hw.2.2 h
def gL:List Prop→Prop
 | []=>True
 | p::l=>p∧gL l
def need (md:Bool) (p:Prop) [Decidable p] (ob:List Prop):Option (List Prop):=bif md then some (p::ob) else bif decide p then some ob else none
theorem aT {md:Bool}{p:Prop} [Decidable p] {ob q:List Prop}(h:need md p ob=some q):gL q→gL ob∧p:=by
 unfold need at h;cases md with
 | true=>cases h;exact fun h=>⟨h.2,h.1⟩
 | false=>
  simp only[Bj] at h;cases hp:decide p with
  | false=>rw[hp] at h;cases h
  | true=>rw[hp] at h;cases h;exact fun h=>⟨h,ω hp⟩
inductive Hn where
 | no
 | id (n:Nat)
 | bv (b:Bool)
 | row (k:Nat) (r:List C)
 | all
 | look (r:Option (List C))
 | c (rows:List (List C))
 | byte (k:Nat) (b:UInt8)
 | pc (res:V)
 | fz
 | rr (r:List R)
 | rowR (k:Nat) (r:List R)
def aLw:List (Nat×Hn)→Nat→Hn
 | [],_=>.no
 | (k,h)::l,i=>bif Nat.beq i k then h else aLw l i
abbrev Ans:=Option (Rd×Eff×List Prop)
def Snd (P:Program) (n:Nat) (o:Oper) (st:St) (ob:List Prop) (r:Ans):Prop:=∀rd f ob',r=some (rd,f,ob')→gL ob'→gL ob∧Step P n o st rd f
def val (o:Oper) (n:Nat) (rd:Rd) (v:V) (h:List (Nat×Option AObj)) (ob:List Prop):Ans:=
 match o.dst with
 | some d=>bif Nat.blt d n then some (rd,⟨some (d,some v),h⟩,ob) else none
 | none=>none
def eff (o:Oper) (rd:Rd) (h:List (Nat×Option AObj)) (ob:List Prop):Ans:=
 match o.dst with
 | none=>some (rd,⟨none,h⟩,ob)
 | some _=>none
def opO (st:St):Operand→Option V
 | .tmp t=>st.e t
 | .const v=>match v with
  | .int k n=>some (.one (.c (.int k n)))
  | .bool b=>some (.one (.c (.bool b)))
  | .string ⟨⟨l⟩⟩=>some (.one (.c (.str l)))
  | .slice none 0 0=>some (.one (.c .nl))
  | .pointer none=>some (.one (.c .np))
  | .map none=>some (.one (.c (.zv 0)))
  | .nilFunc=>some (.one (.c (.zv 1)))
  | .nilIface=>some (.one (.c (.zv 2)))
  | .agg ⟨vs⟩=>(xN vs).bind fun cs=>some (.pa cs)
  | _=>none
 | .func f=>some (.one (.clo f []))
 | .global _=>none
theorem c0 (st:St) (x:Operand):opO st x=opv st x:=by
 cases x with
 | const v=>
  cases v with
  | string s=>obtain⟨⟨l⟩⟩:=s;rfl
  | slice a l c=>
   cases a with
   | some _=>rfl
   | none=>
    cases l with
    | zero=>cases c<;>rfl
    | succ _=>rfl
  | pointer p=>cases p<;>rfl
  | map m=>cases m<;>rfl
  | _=>rfl
 | _=>rfl
def aW1 (rs:List R):Option V:=match iC rs with | some l=>some (.pa l) | none=>some (.ma rs)
theorem aJ8 (rs:List R):aW1 rs=some (aSw rs):=by
 unfold aW1 aSw;cases iC rs<;>rfl
def aEj (i:TI) (rs:List R):Option V:=bif i.k.agg then aW1 rs else match rs with | [r]=>some (.one r) | _=>none
theorem q9 (i:TI) (rs:List R):aEj i rs=jV i rs:=by
 unfold aEj jV;cases i.k.agg
 ·rfl
 ·exact aJ8 rs
def aB3 (i:TI) (l:List C):Option V:=bif i.k.agg then some (.pa l) else match l with | [c]=>some (.one (.c c)) | _=>none
theorem x3 (i:TI) (l:List C):aB3 i l=aEk i l:=by
 unfold aB3 aEk;cases i.k.agg<;>rfl
def pD (v:V):Option (List R):=(fZ v).bind frc
theorem hD (v:V):pD v=fZ v:=by
 unfold pD;cases fZ v with
 | none=>rfl
 | some l=>simp[kD]
theorem dE {α:Type}{b:Bool}{x:Option α}{y:α}(h:(bif b then x else none)=some y):b=true∧x=some y:=by
 cases b
 ·cases h
 ·exact⟨rfl,h⟩
theorem jH {d n:Nat}(h:Nat.blt d n=true):d<n:=Ao h
theorem aS3 {o:Oper}{n:Nat}{rd q:Rd}{v:V}{h:List (Nat×Option AObj)}{ob r:List Prop}{f:Eff}(e:val o n rd v h ob=some (q,f,r)):∃d,o.dst=some d∧d<n∧q=rd∧f=⟨some (d,some v),h⟩∧r=ob:=by
 unfold val at e;split at e
 ·rename_i d u;obtain⟨h1,h2⟩:=dE e;cases h2;exact⟨d,u,jH h1,rfl,rfl,rfl⟩
 ·cases e
theorem aUz {o:Oper}{rd q:Rd}{h:List (Nat×Option AObj)}{ob r:List Prop}{f:Eff}(e:eff o rd h ob=some (q,f,r)):o.dst=none∧q=rd∧f=⟨none,h⟩∧r=ob:=by
 unfold eff at e;split at e
 ·rename_i u;cases e;exact⟨u,rfl,rfl,rfl⟩
 ·cases e
theorem Snd.val {P:Program}{n:Nat}{o:Oper}{st:St}{ob q:List Prop}{rd:Rd}{v:V}{h:List (Nat×Option AObj)}(r:∀d,o.dst=some d→d<n→gL q→gL ob∧Step P n o st rd ⟨some (d,some v),h⟩):Snd P n o st ob (Go.AM.val o n rd v h q):=by
 intro y f u e hc;obtain⟨d,h1,h2,rfl,rfl,rfl⟩:=aS3 e;exact r d h1 h2 hc
theorem Snd.eff {P:Program}{n:Nat}{o:Oper}{st:St}{ob q:List Prop}{rd:Rd}{h:List (Nat×Option AObj)}(r:o.dst=none→gL q→gL ob∧Step P n o st rd ⟨none,h⟩):Snd P n o st ob (Go.AM.eff o rd h q):=by
 intro y f u e hc;obtain⟨h1,rfl,rfl,rfl⟩:=aUz e;exact r h1 hc
theorem Snd.none {P:Program}{n:Nat}{o:Oper}{st:St}{ob:List Prop}:Snd P n o st ob none:=by
 intro rd f q e;cases e
theorem Snd.bind {P:Program}{n:Nat}{o:Oper}{st:St}{ob:List Prop}{α:Type}{x:Option α}{k:α→Ans}(h:∀y,x=some y→Snd P n o st ob (k y)):Snd P n o st ob (x.bind k):=by
 intro rd f q e;rw[Ac] at e;obtain⟨y,h1,h2⟩:=e;exact h y h1 rd f q h2
theorem Snd.cond {P:Program}{n:Nat}{o:Oper}{st:St}{ob:List Prop}{b:Bool}{r:Ans}(h:b=true→Snd P n o st ob r):Snd P n o st ob (bif b then r else Option.none):=by
 cases b
 ·exact Snd.none
 ·exact h rfl
section
variable {P:Program}{n:Nat}{o:Oper}{st:St}{ob:List Prop}{tr:Tr}{md:Bool}
def aDh (o:Oper) (n:Nat) (st:St) (ob:List Prop) (x:Operand):Ans:=(opO st x).bind fun y=>val o n ⟨opr x,[]⟩ y [] ob
theorem aJo {x:Operand}(ho:o.op=.move x):Snd P n o st ob (aDh o n st ob x):=
 Snd.bind fun y hy=>Snd.val fun _ r q hc=>⟨hc,aGs ho r q (by rw[←c0];exact hy)⟩
theorem aAm {x:Operand}(ho:o.op=.assign x):Snd P n o st ob (aDh o n st ob x):=
 Snd.bind fun y hy=>Snd.val fun _ r q hc=>⟨hc,aLh ho r q (by rw[←c0];exact hy)⟩
def aKn (hn:Hn) (b:Bool) (ob:List Prop):Bool×List Prop:=match hn with
 | .bv w=>(w,(b=w)::ob)
 | _=>match b with
  | true=>(true,ob)
  | false=>(false,ob)
theorem pO {hn:Hn}{b w:Bool}{ob q:List Prop}(h:aKn hn b ob=(w,q)):gL q→gL ob∧b=w:=by
 unfold aKn at h;split at h
 ·cases h;exact fun h=>⟨h.2,h.1⟩
 ·cases b<;>(cases h;exact fun h=>⟨h,rfl⟩)
def aOp (o:Oper) (n:Nat) (st:St) (ob:List Prop) (hn:Hn) (c x y:Operand):Ans:=(opO st c).bind fun v=>match v with
 | .one (.c (.bool b))=>match aKn hn b ob with
  | (true,ob')=>(opO st x).bind fun z=>val o n ⟨opr c++opr x,[]⟩ z [] ob'
  | (false,ob')=>(opO st y).bind fun z=>val o n ⟨opr c++opr y,[]⟩ z [] ob'
 | _=>none
theorem aJm {hn:Hn}{c x y:Operand}(ho:o.op=.pick c x y):Snd P n o st ob (aOp o n st ob hn c x y):=by
 refine Snd.bind fun v u=>?_
 rw[c0] at u;split
 ·rename_i b;split
  ·rename_i B ht;refine Snd.bind fun z q=>Snd.val fun _ A r hc=>?_
   rw[c0] at q;obtain⟨h1,h2⟩:=pO ht hc;exact⟨h1,aK9 ho A r u h2 q⟩
  ·rename_i B ht;refine Snd.bind fun z q=>Snd.val fun _ A r hc=>?_
   rw[c0] at q;obtain⟨h1,h2⟩:=pO ht hc;exact⟨h1,aLa ho A r u h2 q⟩
 ·exact Snd.none
def y9 (o:Oper) (n:Nat) (st:St) (ob:List Prop) (x:Operand) (i:Nat):Ans:=(opO st x).bind fun v=>match v with
 | .tup l=>(l[i]?).bind fun z=>val o n ⟨opr x,[]⟩ z [] ob
 | _=>none
theorem y8 {x:Operand}{i:Nat}(ho:o.op=.extract x i):Snd P n o st ob (y9 o n st ob x i):=by
 refine Snd.bind fun v q=>?_
 rw[c0] at q;split
 ·exact Snd.bind fun z u=>Snd.val fun _ y r hc=>⟨hc,aG1 ho y r q u⟩
 ·exact Snd.none
def aJy (tr:Tr) (o:Oper) (n:Nat) (st:St) (ob:List Prop) (id:Nat) (t:TypeId):Ans:=(tr.get t).bind fun i=>(frc (i.zero.map R.c)).bind fun z=>match st.h id with
 | none=>val o n ⟨[],[id]⟩ (.one (.vp id 0)) [(id,some (.var t z))] ob
 | some _=>none
theorem aFb {id:Nat}{t:TypeId}(hw:tr.wf=true) (u:Tok P tr.flat) (ho:o.op=.alloc t):Snd P n o st ob (aJy tr o n st ob id t):=by
 refine Snd.bind fun i hi=>Snd.bind fun z q=>?_
 rw[kD] at q;cases q;split
 ·rename_i hid;exact Snd.val fun _ y r hc=>⟨hc,aPu id u ho y r (Tr.get_ok hw hi) hid⟩
 ·exact Snd.none
def aV4 (o:Oper) (n:Nat) (st:St) (ob:List Prop) (id:Nat) (t:TypeId) (x:Operand):Ans:=(opO st x).bind fun v=>(pD v).bind fun rs=>match st.h id with
 | none=>val o n ⟨opr x,[id]⟩ (.one (.vp id 0)) [(id,some (.var t rs))] ob
 | some _=>none
theorem aM2 {id:Nat}{t:TypeId}{x:Operand}(ho:o.op=.box t x):Snd P n o st ob (aV4 o n st ob id t x):=by
 refine Snd.bind fun v r=>Snd.bind fun rs q=>?_
 rw[c0] at r;rw[hD] at q;split
 ·rename_i hid;exact Snd.val fun _ y u hc=>⟨hc,aXu id ho y u r q hid⟩
 ·exact Snd.none
def aR8 (tr:Tr) (o:Oper) (n:Nat) (st:St) (ob:List Prop) (id:Nat) (t:TypeId) (r:Option Operand):Ans:=match r with
 | some _=>none
 | none=>(tr.get t).bind fun i=>match i.k with
  | .mp _ e=>(tr.get e).bind fun ei=>match st.h id with
   | none=>val o n ⟨[],[id]⟩ (.one (.mr id)) [(id,some (.map ei.k.agg []))] ob
   | some _=>none
  | _=>none
theorem aMy {id:Nat}{t:TypeId}{r:Option Operand}(ho:o.op=.makeMap t r):Snd P n o st ob (aR8 tr o n st ob id t r):=by
 unfold aR8;split
 ·exact Snd.none
 ·refine Snd.bind fun i hi=>?_
  split
  ·refine Snd.bind fun A y=>?_
   split
   ·rename_i hid;exact Snd.val fun _ u q hc=>⟨hc,aGt id _ ho u q hid⟩
   ·exact Snd.none
  ·exact Snd.none
def aTf (hn:Hn) (elems:List (List C)) (k:Nat) (ob:List Prop):Option (List C×List Prop):=match hn with
 | .row _ r=>some (r,(elems[k]?=some r)::ob)
 | _=>match elems[k]? with
  | some r=>some (r,ob)
  | none=>none
theorem yZ {hn:Hn}{elems:List (List C)}{k:Nat}{ob q:List Prop}{r:List C}(h:aTf hn elems k ob=some (r,q)):gL q→gL ob∧elems[k]?=some r:=by
 unfold aTf at h;split at h
 ·cases h;exact fun h=>⟨h.2,h.1⟩
 ·split at h
  ·rename_i h1;cases h;exact fun h=>⟨h,h1⟩
  ·cases h
def aK4 (hn:Hn) (elems:List (List R)) (k:Nat) (ob:List Prop):Option (List R×List Prop):=match hn with
 | .rr r=>some (r,(elems[k]?=some r)::ob)
 | _=>match elems[k]? with
  | some r=>some (r,ob)
  | none=>none
theorem aBb {hn:Hn}{elems:List (List R)}{k:Nat}{ob q:List Prop}{r:List R}(h:aK4 hn elems k ob=some (r,q)):gL q→gL ob∧elems[k]?=some r:=by
 unfold aK4 at h;split at h
 ·cases h;exact fun h=>⟨h.2,h.1⟩
 ·split at h
  ·rename_i h1;cases h;exact fun h=>⟨h,h1⟩
  ·cases h
def aOq (tr:Tr) (md:Bool) (o:Oper) (n:Nat) (st:St) (ob:List Prop) (hn:Hn) (t:TypeId) (x:Operand):Ans:=(tr.get t).bind fun i=>(opO st x).bind fun v=>match v with
 | .one (.vp id off)=>match st.h id with
  | some (.var _ cells)=>bif Nat.ble (off+i.size) cells.length then(tak i.size (cells.drop off)).bind fun rs=>(aEj i rs).bind fun y=>val o n ⟨opr x,[id]⟩ y [] ob else none
  | _=>none
 | .one (.c (.pt l))=>(tak i.size l).bind fun cs=>(aB3 i cs).bind fun y=>val o n ⟨opr x,[]⟩ y [] ob
 | .one (.pas l)=>(tak i.size l).bind fun cs=>(aEj i cs).bind fun y=>val o n ⟨opr x,[]⟩ y [] ob
 | .one (.ep id k fo sz)=>match st.h id with
  | some (.arr _ es elems _)=>(need md (sz=elems.length) ob).bind fun ob1=>(aTf hn elems k ob1).bind fun(r,ob2)=>
   bif Nat.ble (fo+i.size) es then(tak i.size (r.drop fo)).bind fun cs=>(aB3 i cs).bind fun y=>val o n ⟨opr x,[id]⟩ y [] ob2 else none
  | _=>none
 | .one (.rp id k fo sz)=>match st.h id with
  | some (.rarr _ es elems)=>(need md (sz=elems.length) ob).bind fun ob1=>(aK4 hn elems k ob1).bind fun(r,ob2)=>
   bif Nat.ble (fo+i.size) es then(tak i.size (r.drop fo)).bind fun cs=>(aEj i cs).bind fun y=>val o n ⟨opr x,[id]⟩ y [] ob2 else none
  | _=>none
 | _=>none
theorem aJp {hn:Hn}{t:TypeId}{x:Operand}(hw:tr.wf=true) (E:Tok P tr.flat) (ho:o.op=.load t x):Snd P n o st ob (aOq tr md o n st ob hn t x):=by
 refine Snd.bind fun i hi=>Snd.bind fun v B=>?_
 rw[c0] at B
 replace hi:=Tr.get_ok hw hi
 split
 ·rename_i id off;split
  ·rename_i tv cells hh;refine Snd.cond fun hb=>Snd.bind fun rs M=>Snd.bind fun y hy=>Snd.val fun _ A q hc=>⟨hc,?_⟩
   obtain⟨h1,h2⟩:=qM M;rw[q9,←h2] at hy;exact aTv E ho A q hi B hh hb hy
  ·exact Snd.none
 ·rename_i l;refine Snd.bind fun cs u=>Snd.bind fun y hy=>Snd.val fun _ A q hc=>⟨hc,?_⟩
  obtain⟨h1,h2⟩:=qM u;rw[x3,←h2] at hy;exact aGw E ho A q hi B h1 hy
 ·rename_i l;refine Snd.bind fun cs u=>Snd.bind fun y hy=>Snd.val fun _ A q hc=>⟨hc,?_⟩
  obtain⟨h1,h2⟩:=qM u;rw[q9,←h2] at hy;exact aD4 E ho A q hi B h1 hy
 ·rename_i id k fo sz;split
  ·rename_i te es elems fz hh;refine Snd.bind fun O h1=>Snd.bind fun p h2=>?_
   obtain⟨r,U⟩:=p;refine Snd.cond fun I=>Snd.bind fun cs u=>Snd.bind fun y hy=>Snd.val fun _ A q hc=>?_
   obtain⟨g1,g2⟩:=yZ h2 hc;obtain⟨g3,g4⟩:=aT h1 g1;obtain⟨Y,J⟩:=qM u;rw[x3,←J] at hy;exact⟨g3,aGx E ho A q hi B hh g4 g2 (Ao I) hy⟩
  ·exact Snd.none
 ·rename_i id k fo sz;split
  ·rename_i te es elems hh;refine Snd.bind fun O h1=>Snd.bind fun p h2=>?_
   obtain⟨r,U⟩:=p;refine Snd.cond fun I=>Snd.bind fun cs u=>Snd.bind fun y hy=>Snd.val fun _ A q hc=>?_
   obtain⟨g1,g2⟩:=aBb h2 hc;obtain⟨g3,g4⟩:=aT h1 g1;obtain⟨Y,J⟩:=qM u;rw[q9,←J] at hy;exact⟨g3,aGv E ho A q hi B hh g4 g2 (Ao I) hy⟩
  ·exact Snd.none
 ·exact Snd.none
def aSj {α:Type}(l:List α) (off:Nat) (new:List α):Option (List α):=frc (bR l off new)
def aJj (tr:Tr) (md:Bool) (o:Oper) (st:St) (ob:List Prop) (hn:Hn) (t:TypeId) (x y:Operand):Ans:=(tr.get t).bind fun i=>(opO st x).bind fun v=>(opO st y).bind fun u=>(pD u).bind fun rs=>bif Nat.beq rs.length i.size then(match v with
 | .one (.vp id off)=>match st.h id with
  | some (.var tv cells)=>bif Nat.ble (off+i.size) cells.length then(aSj cells off rs).bind fun cs=>eff o ⟨opr x++opr y,[id]⟩ [(id,some (.var tv cs))] ob else none
  | _=>none
 | .one (.ep id k fo sz)=>match st.h id with
  | some (.arr te es elems 0)=>(iC rs).bind fun cs=>(need md (sz=elems.length) ob).bind fun ob1=>(aTf hn elems k ob1).bind fun(r,ob2)=>
   bif Nat.ble (fo+i.size) es then(aSj r fo cs).bind fun r'=>eff o ⟨opr x++opr y,[id]⟩ [(id,some (.arr te es (elems.set k r') 0))] ob2 else none
  | _=>none
 | .one (.rp id k fo sz)=>match st.h id with
  | some (.rarr te es elems)=>(need md (sz=elems.length) ob).bind fun ob1=>(aK4 hn elems k ob1).bind fun(r,ob2)=>
   bif Nat.ble (fo+i.size) es then(aSj r fo rs).bind fun r'=>eff o ⟨opr x++opr y,[id]⟩ [(id,some (.rarr te es (elems.set k r')))] ob2 else none
  | _=>none
 | _=>none) else none
theorem aE5 {hn:Hn}{t:TypeId}{x y:Operand}(hw:tr.wf=true) (M:Tok P tr.flat) (ho:o.op=.store t x y):Snd P n o st ob (aJj tr md o st ob hn t x y):=by
 refine Snd.bind fun i hi=>Snd.bind fun v J=>Snd.bind fun u hu=>Snd.bind fun rs B=>Snd.cond fun hl=>?_
 rw[c0] at J hu;rw[hD] at B
 replace hi:=Tr.get_ok hw hi
 have E:=δ hl;split
 ·rename_i id off;split
  ·rename_i tv cells hh;refine Snd.cond fun hb=>Snd.bind fun cs A=>Snd.eff fun I hc=>⟨hc,?_⟩
   unfold aSj at A;rw[kD] at A;cases A;exact aPm M ho I hi J hu B hh E hb
  ·exact Snd.none
 ·rename_i id k fo sz;split
  ·rename_i te es elems hh;refine Snd.bind fun cs A=>Snd.bind fun U h1=>Snd.bind fun p h2=>?_
   obtain⟨r,Y⟩:=p;refine Snd.cond fun O=>Snd.bind fun r' q=>Snd.eff fun I hc=>?_
   obtain⟨g1,g2⟩:=yZ h2 hc;obtain⟨g3,g4⟩:=aT h1 g1;unfold aSj at q;rw[kD] at q;cases q;refine⟨g3,aD2 M ho I hi J hu B A hh g4 g2 ?_ (Ao O)⟩;have:=mY A;rw[this] at E;simpa using E
  ·exact Snd.none
 ·rename_i id k fo sz;split
  ·rename_i te es elems hh;refine Snd.bind fun U h1=>Snd.bind fun p h2=>?_
   obtain⟨r,Y⟩:=p;refine Snd.cond fun O=>Snd.bind fun r' q=>Snd.eff fun I hc=>?_
   obtain⟨g1,g2⟩:=aBb h2 hc;obtain⟨g3,g4⟩:=aT h1 g1;unfold aSj at q;rw[kD] at q;cases q;exact⟨g3,aD1 M ho I hi J hu B hh g4 g2 E (Ao O)⟩
  ·exact Snd.none
 ·exact Snd.none
def rN (tr:Tr) (md:Bool) (o:Oper) (n:Nat) (st:St) (ob:List Prop) (t:TypeId) (x:Operand) (f:Nat):Ans:=(tr.get t).bind fun i=>match i.k with
 | .st fs=>(fs[f]?).bind fun(foff,ft)=>(tr.get ft).bind fun fi=>bif Nat.ble 1 fi.size then((opO st x).bind fun v=>match v with
  | .one (.vp id off)=>val o n ⟨opr x,[]⟩ (.one (.vp id (off+foff))) [] ob
  | .one (.c (.pt l))=>val o n ⟨opr x,[]⟩ (.one (.c (.pt (l.drop foff)))) [] ob
  | .one (.pas l)=>val o n ⟨opr x,[]⟩ (.one (.pas (l.drop foff))) [] ob
  | .one (.ep id k fo sz)=>match st.h id with
   | some (.arr _ _ elems _)=>(need md (sz=elems.length) ob).bind fun ob1=>val o n ⟨opr x,[id]⟩ (.one (.ep id k (fo+foff) sz)) [] ob1
   | _=>none
  | .one (.rp id k fo sz)=>match st.h id with
   | some (.rarr _ _ elems)=>(need md (sz=elems.length) ob).bind fun ob1=>val o n ⟨opr x,[id]⟩ (.one (.rp id k (fo+foff) sz)) [] ob1
   | _=>none
  | _=>none) else none
 | _=>none
theorem s9 {t:TypeId}{x:Operand}{f:Nat}(hw:tr.wf=true) (B:Tok P tr.flat) (ho:o.op=.fieldAddr t x f):Snd P n o st ob (rN tr md o n st ob t x f):=by
 refine Snd.bind fun i hi=>?_
 replace hi:=Tr.get_ok hw hi
 split
 ·rename_i fs E;refine Snd.bind fun p I=>?_
  obtain⟨M,Y⟩:=p;refine Snd.bind fun O r=>Snd.cond fun U=>Snd.bind fun v A=>?_
  replace r:=Tr.get_ok hw r
  have y:O.size≠0:=by have:=Ao U;omega
  rw[c0] at A;split
  ·exact Snd.val fun _ u q hc=>⟨hc,aD7 B ho u q hi E I r y A⟩
  ·exact Snd.val fun _ u q hc=>⟨hc,aD9 B ho u q hi E I r y A⟩
  ·exact Snd.val fun _ u q hc=>⟨hc,zD B ho u q hi E I r y A⟩
  ·split
   ·rename_i hh;exact Snd.bind fun J h1=>Snd.val fun _ u q hc=>⟨(aT h1 hc).1,aEa B ho u q hi E I r y A hh (aT h1 hc).2⟩
   ·exact Snd.none
  ·split
   ·rename_i hh;exact Snd.bind fun J h1=>Snd.val fun _ u q hc=>⟨(aT h1 hc).1,aD8 B ho u q hi E I r y A hh (aT h1 hc).2⟩
   ·exact Snd.none
  ·exact Snd.none
 ·exact Snd.none
def aJt (tr:Tr) (o:Oper) (n:Nat) (st:St) (ob:List Prop) (t:TypeId) (x:Operand) (f:Nat):Ans:=(tr.get t).bind fun i=>match i.k with
 | .st fs=>(fs[f]?).bind fun(foff,ft)=>(tr.get ft).bind fun fi=>(opO st x).bind fun v=>(pD v).bind fun rs=>
  bif (match v with | .pa _=>true | .ma _=>true | _=>false) then bif Nat.ble (foff+fi.size) rs.length then(tak fi.size (rs.drop foff)).bind fun l=>(aEj fi l).bind fun y=>val o n ⟨opr x,[]⟩ y [] ob else none else none
 | _=>none
theorem aE9 {t:TypeId}{x:Operand}{f:Nat}(hw:tr.wf=true) (I:Tok P tr.flat) (ho:o.op=.field t x f):Snd P n o st ob (aJt tr o n st ob t x f):=by
 refine Snd.bind fun i hi=>?_
 replace hi:=Tr.get_ok hw hi
 split
 ·rename_i fs J;refine Snd.bind fun p M=>?_
  obtain⟨O,Y⟩:=p;refine Snd.bind fun fi q=>Snd.bind fun v u=>Snd.bind fun rs r=>Snd.cond fun A=>Snd.cond fun hl=>Snd.bind fun l B=>Snd.bind fun y hy=>?_
  replace q:=Tr.get_ok hw q
  rw[c0] at u;rw[hD] at r;rw[q9,←(qM B).2] at hy;exact Snd.val fun _ U E hc=>⟨hc,aPq I ho U E hi J M q u (by cases v<;>first | rfl | exact A) r hl hy⟩
 ·exact Snd.none
def atO (hn:Hn) (m:Int) (ob:List Prop):Option (Nat×List Prop):=match hn with
 | .row k _=>some (k,(m=(k:Int))::ob)
 | .rowR k _=>some (k,(m=(k:Int))::ob)
 | _=>match m with
  | .ofNat k=>some (k,ob)
  | .negSucc _=>none
theorem tI {hn:Hn}{m:Int}{k:Nat}{ob q:List Prop}(h:atO hn m ob=some (k,q)):gL q→gL ob∧m=(k:Int):=by
 unfold atO at h;split at h
 ·cases h;exact fun h=>⟨h.2,h.1⟩
 ·cases h;exact fun h=>⟨h.2,h.1⟩
 ·split at h
  ·cases h;exact fun h=>⟨h,rfl⟩
  ·cases h
def aW2 (a b:Nat):Option Nat:=match a with
 | 0=>some b
 | a+1=>some (a+1+b)
theorem aJ9 {a b c:Nat}(h:aW2 a b=some c):a+b=c:=by
 unfold aW2 at h;split at h<;>cases h
 ·exact Bb _
 ·rfl
def rM (tr:Tr) (md:Bool) (o:Oper) (n:Nat) (st:St) (ob:List Prop) (hn:Hn) (t:TypeId) (x y:Operand):Ans:=(tr.get t).bind fun i=>match i.k with
 | .sl e=>(tr.get e).bind fun ei=>(opO st x).bind fun v=>(opO st y).bind fun u=>match u with
  | .one (.c (.int _ m))=>(atO hn m ob).bind fun(k,ob1)=>match v with
   | .one (.c (.sl es l))=>bif Nat.beq ei.size es then(aTf hn l k ob1).bind fun(r,ob2)=>val o n ⟨opr x++opr y,[]⟩ (.one (.c (.pt r))) [] ob2 else none
   | .one (.hs id off len sz)=>match st.h id with
    | some (.arr _ es elems _)=>bif Nat.beq ei.size es then(need md (sz=elems.length) ob1).bind fun ob2=>(need md (k<len) ob2).bind fun ob3=>(aW2 off k).bind fun j=>val o n ⟨opr x++opr y,[id]⟩ (.one (.ep id j 0 sz)) [] ob3 else none
    | _=>none
   | .one (.ra id off len sz)=>match st.h id with
    | some (.rarr _ es elems)=>bif Nat.beq ei.size es then(need md (sz=elems.length) ob1).bind fun ob2=>(need md (k<len) ob2).bind fun ob3=>(aW2 off k).bind fun j=>val o n ⟨opr x++opr y,[id]⟩ (.one (.rp id j 0 sz)) [] ob3 else none
    | _=>none
   | .one (.ras n' es l)=>bif Nat.beq ei.size es then(need md (k<n') ob1).bind fun ob2=>match hn with
    | .rowR _ r=>val o n ⟨opr x++opr y,[]⟩ (.one (.pas r)) [] (((l.drop (k*es)).take es=r)::ob2)
    | _=>(frc ((l.drop (k*es)).take es)).bind fun r=>val o n ⟨opr x++opr y,[]⟩ (.one (.pas r)) [] ob2 else none
   | _=>none
  | _=>none
 | .ar m' e=>(tr.get e).bind fun ei=>(opO st x).bind fun v=>(opO st y).bind fun u=>match u with
  | .one (.c (.int _ m))=>(atO hn m ob).bind fun(k,ob1)=>match v with
   | .one (.vp id off)=>(need md (k<m') ob1).bind fun ob2=>val o n ⟨opr x++opr y,[]⟩ (.one (.vp id (off+k*ei.size))) [] ob2
   | _=>none
  | _=>none
 | _=>none
theorem s8 {hn:Hn}{t:TypeId}{x y:Operand}(hw:tr.wf=true) (U:Tok P tr.flat) (ho:o.op=.indexAddr t x y):Snd P n o st ob (rM tr md o n st ob hn t x y):=by
 refine Snd.bind fun i hi=>?_
 replace hi:=Tr.get_ok hw hi
 split
 ·rename_i e J;refine Snd.bind fun ei q=>Snd.bind fun v I=>Snd.bind fun u hu=>?_
  replace q:=Tr.get_ok hw q
  rw[c0] at I hu;split
  ·rename_i kk m;refine Snd.bind fun p hp=>?_
   obtain⟨k,aa⟩:=p;dsimp only;split
   ·rename_i es l;refine Snd.cond fun B=>Snd.bind fun p h2=>?_
    obtain⟨r,O⟩:=p;refine Snd.val fun _ E A hc=>?_
    obtain⟨g1,g2⟩:=yZ h2 hc;obtain⟨g3,g4⟩:=tI hp g1;exact⟨g3,aPp U ho E A hi J q (δ B) I hu g4 g2⟩
   ·rename_i id off len sz;split
    ·rename_i te es elems fz hh;refine Snd.cond fun B=>Snd.bind fun O h2=>Snd.bind fun ab Y=>Snd.bind fun j M=>Snd.val fun _ E A hc=>?_
     have M:=aJ9 M;subst M;obtain⟨g1,g2⟩:=aT Y hc;obtain⟨g3,g4⟩:=aT h2 g1;obtain⟨g5,g6⟩:=tI hp g3;exact⟨g5,aD6 U ho E A hi J q (δ B) I hh g4 hu g6 g2⟩
    ·exact Snd.none
   ·rename_i id off len sz;split
    ·rename_i te es elems hh;refine Snd.cond fun B=>Snd.bind fun O h2=>Snd.bind fun ab Y=>Snd.bind fun j M=>Snd.val fun _ E A hc=>?_
     have M:=aJ9 M;subst M;obtain⟨g1,g2⟩:=aT Y hc;obtain⟨g3,g4⟩:=aT h2 g1;obtain⟨g5,g6⟩:=tI hp g3;exact⟨g5,aD5 U ho E A hi J q (δ B) I hh g4 hu g6 g2⟩
    ·exact Snd.none
   ·rename_i n' es l;refine Snd.cond fun B=>Snd.bind fun O h2=>?_
    have B:=δ B;split
    ·refine Snd.val fun _ E A hc=>?_
     obtain⟨c1,c2⟩:=hc;obtain⟨g1,g2⟩:=aT h2 c2;obtain⟨g3,g4⟩:=tI hp g1;exact⟨g3,qT U ho E A hi J q B I hu g4 g2 c1⟩
    ·refine Snd.bind fun r hr=>Snd.val fun _ E A hc=>?_
     rw[kD] at hr;cases hr;obtain⟨g1,g2⟩:=aT h2 hc;obtain⟨g3,g4⟩:=tI hp g1;exact⟨g3,qT U ho E A hi J q B I hu g4 g2 rfl⟩
   ·exact Snd.none
  ·exact Snd.none
 ·rename_i m' e J;refine Snd.bind fun ei q=>Snd.bind fun v I=>Snd.bind fun u hu=>?_
  replace q:=Tr.get_ok hw q
  rw[c0] at I hu;split
  ·rename_i kk m;refine Snd.bind fun p hp=>?_
   obtain⟨k,aa⟩:=p;dsimp only;split
   ·rename_i id off;refine Snd.bind fun O h2=>Snd.val fun _ E A hc=>?_
    obtain⟨g1,g2⟩:=aT h2 hc;obtain⟨g3,g4⟩:=tI hp g1;exact⟨g3,zC U ho E A hi J q I hu g4 g2⟩
   ·exact Snd.none
  ·exact Snd.none
 ·exact Snd.none
def aV2 (md:Bool) (o:Oper) (n:Nat) (st:St) (ob:List Prop) (x:Operand):Ans:=(opO st x).bind fun v=>match v with
 | .one (.ep id k fo sz)=>match st.h id with
  | some (.arr _ _ elems _)=>(need md (sz=elems.length) ob).bind fun ob1=>val o n ⟨opr x,[id]⟩ (.one (.ep id k fo sz)) [] ob1
  | _=>none
 | .one (.rp id k fo sz)=>match st.h id with
  | some (.rarr _ _ elems)=>(need md (sz=elems.length) ob).bind fun ob1=>val o n ⟨opr x,[id]⟩ (.one (.rp id k fo sz)) [] ob1
  | _=>none
 | v=>bif notNil v then val o n ⟨opr x,[]⟩ v [] ob else none
theorem aMx {x:Operand}(ho:o.op=.nilCheck x):Snd P n o st ob (aV2 md o n st ob x):=by
 refine Snd.bind fun v u=>?_
 rw[c0] at u;split
 ·split
  ·rename_i hh;exact Snd.bind fun y h1=>Snd.val fun _ r q hc=>⟨(aT h1 hc).1,tV ho r q u hh (aT h1 hc).2⟩
  ·exact Snd.none
 ·split
  ·rename_i hh;exact Snd.bind fun y h1=>Snd.val fun _ r q hc=>⟨(aT h1 hc).1,tU ho r q u hh (aT h1 hc).2⟩
  ·exact Snd.none
 ·exact Snd.cond fun h=>Snd.val fun _ r q hc=>⟨hc,aD3 ho r q u h⟩
def qZ (tr:Tr):List (Nat×TypeId)→Option (List (Nat×Nat))
 | []=>some []
 | (off,t)::fs=>(tr.get t).bind fun i=>(qZ tr fs).bind fun l=>some ((off,i.size)::l)
theorem sN {tr:Tr}(hw:tr.wf=true):∀{fs:List (Nat×TypeId)}{l:List (Nat×Nat)},qZ tr fs=some l→kU tr.flat fs=some l
 | [],l,h=>by simpa [qZ,kU] using h
 | (off,t)::fs,l,h=>by
  simp only[qZ,Ac] at h;obtain⟨i,hi,r,q,h⟩:=h;simp only[kU,Tr.get_ok hw hi,sN hw q,h]
def aBp (st:St):List (Nat×Operand)→Option (List (Nat×List R))
 | []=>some []
 | (i,x)::ps=>(opO st x).bind fun v=>(pD v).bind fun rs=>(aBp st ps).bind fun l=>some ((i,rs)::l)
theorem wM (st:St):∀ps:List (Nat×Operand),aBp st ps=oX st ps
 | []=>rfl
 | (i,x)::ps=>by
  simp only[aBp,oX,c0,hD,wM st ps];cases opv st x with
  | none=>rfl
  | some v=>
   simp only[B7];cases fZ v with
   | none=>rfl
   | some rs=>
    simp only[B7];cases oX st ps<;>rfl
def aL8 (st:St):List Operand→Option (List R)
 | []=>some []
 | x::xs=>(opO st x).bind fun v=>match v with
  | .one r=>(aL8 st xs).bind fun l=>some (r::l)
  | _=>none
theorem aC1 (st:St):∀xs:List Operand,aL8 st xs=xR st xs
 | []=>rfl
 | x::xs=>by
  simp only[aL8,xR,c0,aC1 st xs];cases opv st x with
  | none=>rfl
  | some v=>
   simp only[B7];cases v<;>try rfl
   cases xR st xs<;>rfl
def aJx (tr:Tr) (o:Oper) (n:Nat) (st:St) (ob:List Prop) (t:TypeId) (parts:Array (Nat×Operand)):Ans:=(tr.get t).bind fun i=>match i.k with
 | .st fs=>(qZ tr fs).bind fun places=>(aBp st parts.toList).bind fun ps=>(aEr places (i.zero.map R.c) ps).bind fun out=>(frc out).bind fun out=>(aW1 out).bind fun y=>val o n ⟨fB parts.toList,[]⟩ y [] ob
 | _=>none
theorem aFa {t:TypeId}{parts:Array (Nat×Operand)}(hw:tr.wf=true) (B:Tok P tr.flat) (ho:o.op=.build t parts):Snd P n o st ob (aJx tr o n st ob t parts):=by
 refine Snd.bind fun i hi=>?_
 replace hi:=Tr.get_ok hw hi
 split
 ·rename_i fs E;refine Snd.bind fun places q=>Snd.bind fun ps r=>Snd.bind fun out I=>Snd.bind fun J u=>Snd.bind fun y hy=>Snd.val fun _ M A hc=>⟨hc,?_⟩
  replace q:=sN hw q
  rw[wM] at r;rw[kD] at u;cases u;rw[aJ8] at hy;cases hy;exact aPt B ho M A hi E q r I
 ·exact Snd.none
def nH (tr:Tr):Nat→List TypeId→List Nat
 | 0,_=>[]
 | _+1,[]=>[]
 | f+1,t::ts=>match tr.get t with
  | some i=>match i.k with
   | .sl e=>match tr.get e with
    | some ei=>(ei.size+1)::nH tr f ts
    | none=>0::nH tr f ts
   | .st fs=>nH tr f (fs.map (·.2)++ts)
   | _=>0::nH tr f ts
  | none=>0::nH tr f ts
def nrm:List Nat→List C→List C
 | _,[]=>[]
 | [],cs=>cs
 | 0::es,c::cs=>c::nrm es cs
 | (e+1)::es,c::cs=>(match c with | .nl=>.sl e [] | c=>c)::nrm es cs
theorem lL {h:c8}:∀(es:List Nat) (cs:List C),PureL h [] (cs.map R.c) (nrm es cs)
 | es,[]=>by cases es<;>exact .nil
 | [],c::cs=>.of_pure
 | 0::es,c::cs=>.c .refl (lL es cs)
 | (e+1)::es,c::cs=>by
  simp only[nrm,An];split
  ·exact .c .nl (lL es cs)
  ·exact .c .refl (lL es cs)
def aFg:List Nat→List C→Option (List C)
 | _,[]=>some []
 | [],cs=>frc cs
 | 0::es,c::cs=>(aFg es cs).bind fun l=>some (c::l)
 | (e+1)::es,c::cs=>match c with
  | .nl=>(aFg es cs).bind fun l=>some (.sl e []::l)
  | c=>(aFg es cs).bind fun l=>some (c::l)
theorem r3:∀(es:List Nat) (cs:List C),aFg es cs=some (nrm es cs)
 | es,[]=>by cases es with
  | nil=>simp[aFg,nrm]
  | cons e es=>cases e<;>simp[aFg,nrm]
 | [],c::cs=>by simp[aFg,nrm,kD]
 | 0::es,c::cs=>by simp[aFg,nrm,r3 es cs]
 | (e+1)::es,c::cs=>by
  simp only[aFg,nrm,r3 es cs,B7];split<;>rfl
def aGj (st:St) (tys:List Nat) (es:Nat):Nat→List (Nat×Operand)→Option (List (List C))
 | _,[]=>some []
 | k,(i,x)::ps=>bif Nat.beq i k then(opO st x).bind fun v=>(pD v).bind fun rs=>(iC rs).bind fun cs=>bif Nat.beq rs.length es then(aFg tys cs).bind fun cs=>(aGj st tys es (k+1) ps).bind fun l=>some (cs::l) else none else none
theorem aBa {st:St}{q:List Nat}{es:Nat}:∀{ps:List (Nat×Operand)}{k:Nat}{l:List (List C)},aGj st q es k ps=some l→RowsV st es k [] ps l
 | [],k,l,h=>by simp[aGj] at h;subst h;exact .nil
 | (i,x)::ps,k,l,h=>by
  simp only[aGj] at h;obtain⟨h0,h⟩:=dE h;have:=δ h0;subst this;rw[Ac] at h;obtain⟨v,y,h⟩:=h;rw[Ac] at h;obtain⟨rs,u,h⟩:=h;rw[Ac] at h;obtain⟨cs,A,h⟩:=h;obtain⟨hl,h⟩:=dE h;rw[Ac] at h;obtain⟨cs',r,h⟩:=h;rw[r3] at r;cases r;rw[Ac] at h;obtain⟨E,B,h⟩:=h;cases h;rw[c0] at y;rw[hD] at u;have hp:PureL st.h [] rs (nrm q cs):=by rw[mY A];exact lL q cs
  exact .cons (ids:=[]) y u hp hl (aBa B)
def aJk (tr:Tr) (o:Oper) (n:Nat) (st:St) (ob:List Prop) (hn:Hn) (id:Nat) (t:TypeId) (len:Nat) (parts:Array (Nat×Operand)):Ans:=(tr.get t).bind fun i=>match i.k with
 | .sl e=>(tr.get e).bind fun ei=>bif Nat.beq len parts.size&&(Nat.ble (len*ei.size) 16777216&&Nat.ble len 16777216) then(match st.h id with
  | none=>match aGj st (nH tr 300 [e]) ei.size 0 parts.toList with
   | some rows=>match hn with
    | .all=>val o n ⟨fB parts.toList,[id]⟩ (.one (.c (.sl ei.size rows))) [(id,some (.arr e ei.size rows 2))] ob
    | _=>val o n ⟨fB parts.toList,[id]⟩ (.one (.hs id 0 len len)) [(id,some (.arr e ei.size rows 0))] ob
   | none=>(tT st ei.size 0 parts.toList).bind fun rows=>val o n ⟨fB parts.toList,[id]⟩ (.one (.ra id 0 len len)) [(id,some (.rarr e ei.size rows))] ob
  | some _=>none) else none
 | _=>none
theorem aE6 {hn:Hn}{id:Nat}{t:TypeId}{len:Nat}{parts:Array (Nat×Operand)}(hw:tr.wf=true) (B:Tok P tr.flat) (ho:o.op=.buildSlice t len parts):Snd P n o st ob (aJk tr o n st ob hn id t len parts):=by
 refine Snd.bind fun i hi=>?_
 replace hi:=Tr.get_ok hw hi
 split
 ·rename_i e E;refine Snd.bind fun I q=>Snd.cond fun hb=>?_
  replace q:=Tr.get_ok hw q
  simp only[Ab] at hb;split
  ·rename_i hid;split
   ·rename_i rows y;have A:=aBa y;split
    ·exact Snd.val fun _ u r hc=>⟨hc,aK8 id B ho u r hi E q A hb.1 hb.2.1 hb.2.2 hid⟩
    ·exact Snd.val fun _ u r hc=>⟨hc,aGr id B ho u r hi E q A hb.1 hb.2.1 hb.2.2 hid⟩
   ·exact Snd.bind fun rows A=>Snd.val fun _ u r hc=>⟨hc,aK7 id B ho u r hi E q A hb.1 hb.2.1 hb.2.2 hid⟩
  ·exact Snd.none
 ·exact Snd.none
def aJs (o:Oper) (n:Nat) (st:St) (ob:List Prop) (f:Fn) (first caps:Array Operand):Ans:=match f with
 | .func f=>match first.toList with
  | []=>(aL8 st caps.toList).bind fun l=>val o n ⟨bW caps.toList,[]⟩ (.one (.clo f l)) [] ob
  | [x]=>match caps.toList with
   | []=>(opO st x).bind fun v=>match v with
    | .one c=>val o n ⟨opr x,[]⟩ (.one (.mth f c)) [] ob
    | _=>none
   | _=>none
  | _=>none
 | _=>none
theorem toList_nil {α:Type}{a:Array α}(h:a.toList=[]):a= #[]:=by
 cases a;simp at h;simp[h]
theorem aDu {α:Type}{a:Array α}{x:α}(h:a.toList=[x]):a= #[x]:=by
 cases a;simp at h;simp[h]
theorem aJr {f:Fn}{first caps:Array Operand}(ho:o.op=.makeFunc f first caps):Snd P n o st ob (aJs o n st ob f first caps):=by
 unfold aJs;split
 ·rename_i f;split
  ·rename_i h1;have:=toList_nil h1;subst this;refine Snd.bind fun l hl=>Snd.val fun _ r q hc=>⟨hc,sJ ho r q (by rw[←aC1];exact hl)⟩
  ·rename_i x h1;have:=aDu h1;subst this;split
   ·rename_i h2;have:=toList_nil h2;subst this;refine Snd.bind fun v u=>?_
    split
    ·exact Snd.val fun _ r q hc=>⟨hc,wF ho r q (by rw[←c0];exact u)⟩
    ·exact Snd.none
   ·exact Snd.none
  ·exact Snd.none
 ·exact Snd.none
def aSt (st:St) (m:Nat):Option Operand→Option Nat
 | none=>some m
 | some x=>(opO st x).bind fun v=>match v with
  | .one (.c (.int _ (.ofNat k)))=>some k
  | _=>none
theorem lA {m k:Nat}{x:Option Operand}(h:aSt st m x=some k):BndV st x m k:=by
 cases x with
 | none=>cases h;exact .no
 | some x=>
  simp only[aSt,Ac,c0] at h;obtain⟨v,q,h⟩:=h;split at h
  ·cases h;exact .yes q
  ·cases h
def aWv {α:Type}(l:List α) (lo hi:Nat) (low high:Option Operand):Option (List α):=match low,high with
 | none,none=>some l
 | none,some _=>some (l.take hi)
 | some _,none=>some (l.drop lo)
 | some _,some _=>some ((l.take hi).drop lo)
theorem aIs {α:Type}{l r:List α}{lo hi:Nat}{low high:Option Operand}(h1:BndV st low 0 lo) (h2:BndV st high l.length hi) (h:aWv l lo hi low high=some r):r=(l.take hi).drop lo:=by
 cases h1<;>cases h2<;>simp[aWv] at h<;>simp[h]
def aSa (tr:Tr) (md:Bool) (o:Oper) (n:Nat) (st:St) (ob:List Prop) (t:TypeId) (x:Operand) (low high mx:Option Operand):Ans:=match mx with
 | some _=>none
 | none=>(tr.get t).bind fun i=>(opO st x).bind fun v=>match i.k with
  | .sl e=>(tr.get e).bind fun ei=>match v with
   | .one (.c (.sl es l))=>bif Nat.beq ei.size es then(aSt st 0 low).bind fun lo=>(aSt st l.length high).bind fun hi=>(need md (lo≤hi) ob).bind fun ob1=>(need md (hi≤l.length) ob1).bind fun ob2=>
     (aWv l lo hi low high).bind fun r=>val o n ⟨opr x++aMr low++aMr high,[]⟩ (.one (.c (.sl es r))) [] ob2 else none
   | _=>none
  | .str=>match v with
   | .one (.c (.str s))=>(aSt st 0 low).bind fun lo=>(aSt st s.length high).bind fun hi=>(need md (lo≤hi) ob).bind fun ob1=>(need md (hi≤s.length) ob1).bind fun ob2=>
     (aWv s lo hi low high).bind fun r=>val o n ⟨opr x++aMr low++aMr high,[]⟩ (.one (.c (.str r))) [] ob2
   | _=>none
  | _=>none
theorem aM1 {t:TypeId}{x:Operand}{low high O:Option Operand}(hw:tr.wf=true) (U:Tok P tr.flat) (ho:o.op=.slice t x low high O):Snd P n o st ob (aSa tr md o n st ob t x low high O):=by
 unfold aSa;split
 ·exact Snd.none
 ·refine Snd.bind fun i y=>Snd.bind fun v E=>?_
  replace y:=Tr.get_ok hw y
  rw[c0] at E;split
  ·rename_i e I;refine Snd.bind fun ei A=>?_
   replace A:=Tr.get_ok hw A
   split
   ·rename_i es l;refine Snd.cond fun Y=>Snd.bind fun lo q=>Snd.bind fun hi u=>Snd.bind fun aa h1=>Snd.bind fun ab h2=>Snd.bind fun r J=>Snd.val fun _ M B hc=>?_
    obtain⟨g1,g2⟩:=aT h2 hc;obtain⟨g3,g4⟩:=aT h1 g1;rw[aIs (lA q) (lA u) J];exact⟨g3,aXt U ho M B y I A (δ Y) E (lA q) (lA u) g4 g2⟩
   ·exact Snd.none
  ·rename_i I;split
   ·rename_i s;refine Snd.bind fun lo q=>Snd.bind fun hi u=>Snd.bind fun aa h1=>Snd.bind fun ab h2=>Snd.bind fun r J=>Snd.val fun _ M B hc=>?_
    obtain⟨g1,g2⟩:=aT h2 hc;obtain⟨g3,g4⟩:=aT h1 g1;rw[aIs (lA q) (lA u) J];exact⟨g3,aTn U ho M B y I E (lA q) (lA u) g4 g2⟩
   ·exact Snd.none
  ·exact Snd.none
def aJq (tr:Tr) (o:Oper) (n:Nat) (st:St) (ob:List Prop) (hn:Hn) (t:TypeId) (x y:Operand):Ans:=(tr.get t).bind fun i=>match i.k with
 | .str=>(opO st x).bind fun v=>(opO st y).bind fun u=>match v,u with
  | .one (.c (.str s)),.one (.c (.int _ m))=>match hn with
   | .byte k b=>val o n ⟨opr x++opr y,[]⟩ (.one (.c (.int .u8 ((b.toNat:Nat):Int)))) [] ((m=(k:Int)∧s[k]?=some b)::ob)
   | _=>match m with
    | .ofNat k=>(s[k]?).bind fun b=>val o n ⟨opr x++opr y,[]⟩ (.one (.c (.int .u8 ((b.toNat:Nat):Int)))) [] ob
    | _=>none
  | _,_=>none
 | _=>none
theorem aE7 {hn:Hn}{t:TypeId}{x y:Operand}(hw:tr.wf=true) (B:Tok P tr.flat) (ho:o.op=.index t x y):Snd P n o st ob (aJq tr o n st ob hn t x y):=by
 refine Snd.bind fun i hi=>?_
 replace hi:=Tr.get_ok hw hi
 split
 ·rename_i E;refine Snd.bind fun v r=>Snd.bind fun u hu=>?_
  rw[c0] at r hu;split
  ·split
   ·exact Snd.val fun _ A q hc=>⟨hc.2,aNn B ho A q hi E r hu hc.1.1 hc.1.2⟩
   ·split
    ·exact Snd.bind fun b hb=>Snd.val fun _ A q hc=>⟨hc,aNn B ho A q hi E r hu rfl hb⟩
    ·exact Snd.none
  ·exact Snd.none
 ·exact Snd.none
def aHq:List (List C)→Bool
 | []=>true
 | (.str _::_)::r=>aHq r
 | _::_=>false
theorem wQ:∀l:List (List C),aHq l=true↔kX l
 | []=>by simp[aHq,kX]
 | []::r=>by simp[aHq,kX]
 | (c::vs)::r=>by
  cases c<;>simp[aHq,kX];exact wQ r
instance (l:List (List C)):Decidable (kX l):=decidable_of_iff _ (wQ l)
def aL4 (st:St) (agg:Bool):V→Option (List Nat×List (List C))
 | .one (.mr id)=>match st.h id with
  | some (.map a ents)=>bif a==agg then some ([id],ents) else none
  | _=>none
 | .one (.c (.mp a ents))=>bif a==agg then some ([],ents) else none
 | .one (.c (.zv 0))=>some ([],[])
 | _=>none
theorem uN {st:St}{agg:Bool}{v:V}{ids:List Nat}{ents:List (List C)}(h:aL4 st agg v=some (ids,ents)):MapE st ids v agg ents:=by
 unfold aL4 at h;split at h
 ·split at h
  ·rename_i hh;obtain⟨h1,h2⟩:=dE h;cases h2;exact .mr (by rw[hh,eq_of_beq h1])
  ·cases h
 ·obtain⟨h1,h2⟩:=dE h;cases h2;rw[eq_of_beq h1];exact .mp
 ·cases h;exact .nil
 ·cases h
def aQr (md:Bool) (hn:Hn) (k:List UInt8) (ents:List (List C)) (ob:List Prop):Option (Option (List C)×List Prop):=match hn with
 | .look r=>some (r,(jU k ents=r)::ob)
 | _=>bif md then some (jU k ents,ob) else match jU k ents with
  | some r=>some (some r,ob)
  | none=>some (none,ob)
theorem aCg {md:Bool}{hn:Hn}{k:List UInt8}{ents:List (List C)}{ob q:List Prop}{r:Option (List C)}(h:aQr md hn k ents ob=some (r,q)):gL q→gL ob∧jU k ents=r:=by
 unfold aQr at h;split at h
 ·cases h;exact fun h=>⟨h.2,h.1⟩
 ·cases md
  ·simp only[Bj] at h;split at h
   ·rename_i h1;cases h;exact fun h=>⟨h,h1⟩
   ·rename_i h1;cases h;exact fun h=>⟨h,h1⟩
  ·cases h;exact fun h=>⟨h,rfl⟩
def y7 (tr:Tr) (md:Bool) (o:Oper) (n:Nat) (st:St) (ob:List Prop) (hn:Hn) (t:TypeId) (x y:Operand) (ok:Bool):Ans:=(tr.get t).bind fun i=>match i.k with
 | .mp kt et=>(tr.get kt).bind fun ki=>(tr.get et).bind fun ei=>match ki.k with
  | .str=>(opO st x).bind fun v=>(aL4 st ei.k.agg v).bind fun(ids,ents)=>(opO st y).bind fun u=>match u with
   | .one (.c (.str k))=>(need md (kX ents) ob).bind fun ob1=>(aQr md hn k ents ob1).bind fun(r,ob2)=>match ok with
    | true=>val o n ⟨opr x++opr y,ids⟩ (.tup [pK ei r,.one (.c (.bool (aHy r)))]) [] ob2
    | false=>val o n ⟨opr x++opr y,ids⟩ (pK ei r) [] ob2
   | _=>none
  | _=>none
 | _=>none
theorem y6 {hn:Hn}{t:TypeId}{x y:Operand}{ok:Bool}(hw:tr.wf=true) (M:Tok P tr.flat) (ho:o.op=.lookup t x y ok):Snd P n o st ob (y7 tr md o n st ob hn t x y ok):=by
 refine Snd.bind fun i hi=>?_
 replace hi:=Tr.get_ok hw hi
 split
 ·rename_i kt et O;refine Snd.bind fun ki q=>Snd.bind fun ei A=>?_
  replace q:=Tr.get_ok hw q
  replace A:=Tr.get_ok hw A
  split
  ·rename_i E;refine Snd.bind fun v I=>Snd.bind fun p hp=>?_
   obtain⟨ids,ents⟩:=p;refine Snd.bind fun u hu=>?_
   rw[c0] at I hu;split
   ·rename_i k;refine Snd.bind fun U h1=>Snd.bind fun p h2=>?_
    obtain⟨r,Y⟩:=p;dsimp only;split
    ·refine Snd.val fun _ J B hc=>?_
     obtain⟨g1,g2⟩:=aCg h2 hc;obtain⟨g3,g4⟩:=aT h1 g1;have:=tW M ho J B hi O q E A rfl I (uN hp) g4 hu g2;exact⟨g3,by simpa using this⟩
    ·refine Snd.val fun _ J B hc=>?_
     obtain⟨g1,g2⟩:=aCg h2 hc;obtain⟨g3,g4⟩:=aT h1 g1;have:=tW M ho J B hi O q E A rfl I (uN hp) g4 hu g2;exact⟨g3,by simpa using this⟩
   ·exact Snd.none
  ·exact Snd.none
 ·exact Snd.none
def y5 (tr:Tr) (md:Bool) (o:Oper) (n:Nat) (st:St) (ob:List Prop) (w:V) (t:TypeId) (x y:Operand):Ans:=(tr.get t).bind fun i=>match i.k with
 | .mp kt et=>(tr.get kt).bind fun ki=>(tr.get et).bind fun ei=>match ki.k with
  | .str=>(opO st x).bind fun v=>(aL4 st ei.k.agg v).bind fun(ids,ents)=>(opO st y).bind fun u=>match u with
   | .one (.c (.str k))=>(need md (kX ents) ob).bind fun ob1=>val o n ⟨opr x++opr y,ids⟩ w [] ((pK ei (jU k ents)=w)::ob1)
   | _=>none
  | _=>none
 | _=>none
theorem y4 {w:V}{t:TypeId}{x y:Operand}(hw:tr.wf=true) (I:Tok P tr.flat) (ho:o.op=.lookup t x y false):Snd P n o st ob (y5 tr md o n st ob w t x y):=by
 refine Snd.bind fun i hi=>?_
 replace hi:=Tr.get_ok hw hi
 split
 ·rename_i U Y J;refine Snd.bind fun ki q=>Snd.bind fun ei r=>?_
  replace q:=Tr.get_ok hw q
  replace r:=Tr.get_ok hw r
  split
  ·rename_i A;refine Snd.bind fun v B=>Snd.bind fun p hp=>?_
   obtain⟨ids,ents⟩:=p;refine Snd.bind fun u hu=>?_
   rw[c0] at B hu;split
   ·rename_i k;refine Snd.bind fun O h1=>Snd.val fun _ M E hc=>?_
    obtain⟨g3,g4⟩:=aT h1 hc.2;have:=tW I ho M E hi J q A r rfl B (uN hp) g4 hu rfl;refine⟨g3,?_⟩;rw[←hc.1];simpa using this
   ·exact Snd.none
  ·exact Snd.none
 ·exact Snd.none
def vA (tr:Tr) (md:Bool) (o:Oper) (n:Nat) (st:St) (ob:List Prop) (hn:Hn) (t:TypeId) (x y:Operand) (ok:Bool):Ans:=match ok,hn with
 | false,.pc w=>y5 tr md o n st ob w t x y
 | ok,hn=>y7 tr md o n st ob hn t x y ok
theorem aAj {hn:Hn}{t:TypeId}{x y:Operand}{ok:Bool}(hw:tr.wf=true) (q:Tok P tr.flat) (ho:o.op=.lookup t x y ok):Snd P n o st ob (vA tr md o n st ob hn t x y ok):=by
 unfold vA;split
 ·exact y4 hw q ho
 ·exact y6 hw q ho
def aUc (md:Bool) (k:List UInt8) (cs:List C) (ents:List (List C)):Option (List (List C)):=bif md then some (aEg k cs ents) else frc (aEg k cs ents)
theorem aBz (md:Bool) (k:List UInt8) (cs:List C) (ents:List (List C)):aUc md k cs ents=some (aEg k cs ents):=by
 cases md
 ·exact kD _
 ·rfl
def jZ (tr:Tr) (md:Bool) (o:Oper) (st:St) (ob:List Prop) (t:TypeId) (x y z:Operand):Ans:=(tr.get t).bind fun i=>match i.k with
 | .mp kt _=>(tr.get kt).bind fun ki=>match ki.k with
  | .str=>(opO st x).bind fun v=>match v with
   | .one (.mr id)=>match st.h id with
    | some (.map agg ents)=>(opO st y).bind fun u=>match u with
     | .one (.c (.str k))=>(opO st z).bind fun v=>bif (match v with | .one _=>!agg | .pa _=>agg | .ma _=>agg | _=>false) then(pD v).bind fun rs=>
      (need md (kX ents) ob).bind fun ob1=>(aUc md k (aT0 rs) ents).bind fun e'=>eff o ⟨opr x++opr y++opr z,[id]⟩ [(id,some (.map agg e'))] ob1 else none
     | _=>none
    | _=>none
   | _=>none
  | _=>none
 | _=>none
theorem s7 {t:TypeId}{x y z:Operand}(hw:tr.wf=true) (J:Tok P tr.flat) (ho:o.op=.mapUpdate t x y z):Snd P n o st ob (jZ tr md o st ob t x y z):=by
 refine Snd.bind fun i hi=>?_
 replace hi:=Tr.get_ok hw hi
 split
 ·rename_i Y et M;refine Snd.bind fun ki q=>?_
  replace q:=Tr.get_ok hw q
  split
  ·rename_i A;refine Snd.bind fun v B=>?_
   rw[c0] at B;split
   ·rename_i id;split
    ·rename_i agg ents hh;refine Snd.bind fun u hu=>?_
     rw[c0] at hu;split
     ·rename_i k;refine Snd.bind fun z E=>Snd.cond fun I=>Snd.bind fun rs r=>Snd.bind fun U h1=>Snd.bind fun e' he=>Snd.eff fun O hc=>?_
      rw[c0] at E;rw[hD] at r;rw[aBz] at he;cases he;obtain⟨g1,g2⟩:=aT h1 hc;exact⟨g1,zA (ids:=[]) J ho O hi M q A B hh g2 hu E (by cases z<;>first | rfl | exact I) r .ofA⟩
     ·exact Snd.none
    ·exact Snd.none
   ·exact Snd.none
  ·exact Snd.none
 ·exact Snd.none
theorem aAk {t:TypeId}{x y z:Operand}(hw:tr.wf=true) (J:Tok P tr.flat) (ho:o.op=.insert t x y z):Snd P n o st ob (jZ tr md o st ob t x y z):=by
 refine Snd.bind fun i hi=>?_
 replace hi:=Tr.get_ok hw hi
 split
 ·rename_i Y et M;refine Snd.bind fun ki q=>?_
  replace q:=Tr.get_ok hw q
  split
  ·rename_i A;refine Snd.bind fun v B=>?_
   rw[c0] at B;split
   ·rename_i id;split
    ·rename_i agg ents hh;refine Snd.bind fun u hu=>?_
     rw[c0] at hu;split
     ·rename_i k;refine Snd.bind fun z E=>Snd.cond fun I=>Snd.bind fun rs r=>Snd.bind fun U h1=>Snd.bind fun e' he=>Snd.eff fun O hc=>?_
      rw[c0] at E;rw[hD] at r;rw[aBz] at he;cases he;obtain⟨g1,g2⟩:=aT h1 hc;exact⟨g1,aLf (ids:=[]) J ho O hi M q A B hh g2 hu E (by cases z<;>first | rfl | exact I) r .ofA⟩
     ·exact Snd.none
    ·exact Snd.none
   ·exact Snd.none
  ·exact Snd.none
 ·exact Snd.none
end
section
variable {QP:Value→Prop}{P:Program}{n:Nat}{o:Oper}{st:St}{ob:List Prop}{tr:Tr}{md nat:Bool}
def arith (md nat:Bool) (op:BinOp) (a b:Int) (ob:List Prop):Option (Int×List Prop):=match op with
 | .add=>bif nat then(match a,b with | .ofNat x,.ofNat y=>(need md (x+y≤9223372036854775807) ob).bind fun ob1=>some (((x+y:Nat):Int),ob1) | _,_=>none)
  else(need md (-9223372036854775808≤a+b∧a+b≤9223372036854775807) ob).bind fun ob1=>some (a+b,ob1)
 | .sub=>bif nat then(match a,b with | .ofNat x,.ofNat y=>(need md (y≤x∧x≤9223372036854775807) ob).bind fun ob1=>some (((x-y:Nat):Int),ob1) | _,_=>none)
  else(need md (-9223372036854775808≤a-b∧a-b≤9223372036854775807) ob).bind fun ob1=>some (a-b,ob1)
 | .mul=>bif nat then(match a,b with | .ofNat x,.ofNat y=>(need md (x*y≤9223372036854775807) ob).bind fun ob1=>some (((x*y:Nat):Int),ob1) | _,_=>none)
  else(need md (-9223372036854775808≤a*b∧a*b≤9223372036854775807) ob).bind fun ob1=>some (a*b,ob1)
 | .quo=>bif nat then(match a,b with | .ofNat x,.ofNat y=>(need md (x≤9223372036854775807∧1≤y) ob).bind fun ob1=>some (((x/y:Nat):Int),ob1) | _,_=>none)
  else(need md (0≤a∧a≤9223372036854775807∧1≤b) ob).bind fun ob1=>some (a/b,ob1)
 | .rem=>bif nat then(match a,b with | .ofNat x,.ofNat y=>(need md (1≤y) ob).bind fun ob1=>some (((x%y:Nat):Int),ob1) | _,_=>none)
  else(need md (0≤a∧1≤b) ob).bind fun ob1=>some (a%b,ob1)
 | _=>none
theorem s6 {α:Type}{q:List Prop}{x:Option (List Prop)}{r r':α}(h:(x.bind fun u=>some (r,u))=some (r',q)):x=some q∧r'=r:=by
 rw[Ac] at h;obtain⟨u,h1,h2⟩:=h;cases h2;exact⟨h1,rfl⟩
theorem aM5 {op:BinOp}{B ty:TypeId}{x y:Operand}{d:Nat}{a b r:Int}{A:List Prop}(ho:o.op=.binOp op B x y ty) (u:o.dst=some d) (q:d<n) (hx:opv st x=some (I .i64 a)) (hy:opv st y=some (I .i64 b)) (h:arith md nat op a b ob=some (r,A)):
  gL A→gL ob∧Step P n o st ⟨opr x++opr y,[]⟩ ⟨some (d,some (I .i64 r)),[]⟩:=by
 intro hc;unfold arith at h;cases nat<;>cases op<;>simp only[Bt,Bj] at h<;>try (cases h;done)
 ·obtain⟨h1,rfl⟩:=s6 h;obtain⟨g,k⟩:=aT h1 hc;exact⟨g,aTz ho u q hx hy k⟩
 ·obtain⟨h1,rfl⟩:=s6 h;obtain⟨g,k⟩:=aT h1 hc;exact⟨g,aTj ho u q hx hy k⟩
 ·obtain⟨h1,rfl⟩:=s6 h;obtain⟨g,k⟩:=aT h1 hc;exact⟨g,aTu ho u q hx hy k⟩
 ·obtain⟨h1,rfl⟩:=s6 h;obtain⟨g,k⟩:=aT h1 hc;exact⟨g,aNp ho u q hx hy k⟩
 ·obtain⟨h1,rfl⟩:=s6 h;obtain⟨g,k⟩:=aT h1 hc;exact⟨g,aNo ho u q hx hy k⟩
 all_goals cases a<;>cases b<;>simp only at h<;>try (cases h;done)
 ·obtain⟨h1,rfl⟩:=s6 h;obtain⟨g,k⟩:=aT h1 hc;exact⟨g,aTy ho u q hx hy k⟩
 ·obtain⟨h1,rfl⟩:=s6 h;obtain⟨g,k⟩:=aT h1 hc;exact⟨g,aTi ho u q hx hy k⟩
 ·obtain⟨h1,rfl⟩:=s6 h;obtain⟨g,k⟩:=aT h1 hc;exact⟨g,aTt ho u q hx hy k⟩
 ·obtain⟨h1,rfl⟩:=s6 h;obtain⟨g,k⟩:=aT h1 hc;exact⟨g,aTq ho u q hx hy k⟩
 ·obtain⟨h1,rfl⟩:=s6 h;obtain⟨g,k⟩:=aT h1 hc;exact⟨g,aTp ho u q hx hy k⟩
def aYo (op:BinOp) (a b:Int):Option Bool:=match op with
 | .lss=>some (decide (a<b))
 | .leq=>some (decide (a≤b))
 | .gtr=>some (decide (b<a))
 | .geq=>some (decide (b≤a))
 | .eql=>some (decide (a=b))
 | .neq=>some (!decide (a=b))
 | _=>none
theorem aQ6 {op:BinOp}{A ty:TypeId}{x y:Operand}{d:Nat}{k:IntKind}{a b:Int}{r:Bool}(ho:o.op=.binOp op A x y ty) (u:o.dst=some d) (q:d<n) (hx:opv st x=some (I k a)) (hy:opv st y=some (I k b)) (h:aYo op a b=some r):
  Step P n o st ⟨opr x++opr y,[]⟩ ⟨some (d,some (B r)),[]⟩:=by
 unfold aYo at h;cases op<;>simp only at h<;>try (cases h;done)
 ·cases h;exact aXs ho u q hx hy
 ·cases h;exact aXk ho u q hx hy
 ·cases h;exact aXo ho u q hx hy
 ·cases h;exact aXp ho u q hx hy
 ·cases h;exact aXq ho u q hx hy
 ·cases h;exact aXr ho u q hx hy
def aO4 (op:BinOp) (k:IntKind) (a b:Int):Option Int:=match op with
 | .add=>some (k.wrap (a+b))
 | .sub=>some (k.wrap (a-b))
 | .mul=>some (k.wrap (a*b))
 | _=>none
theorem aKi {op:BinOp}{A ty:TypeId}{x y:Operand}{d:Nat}{k:IntKind}{a b r:Int}(ho:o.op=.binOp op A x y ty) (u:o.dst=some d) (q:d<n) (hx:opv st x=some (I k a)) (hy:opv st y=some (I k b)) (h:aO4 op k a b=some r):
  Step P n o st ⟨opr x++opr y,[]⟩ ⟨some (d,some (I k r)),[]⟩:=by
 unfold aO4 at h;cases op<;>simp only at h<;>try (cases h;done)
 ·cases h;exact aPv ho u q hx hy rfl
 ·cases h;exact aPl ho u q hx hy rfl
 ·cases h;exact aPo ho u q hx hy rfl
def aQi:IntKind→Bool
 | .i64=>true
 | _=>false
def aV5 (tr:Tr) (md nat:Bool) (o:Oper) (n:Nat) (st:St) (ob:List Prop) (op:BinOp) (tx:TypeId) (x y:Operand):Ans:=(opO st x).bind fun v=>(opO st y).bind fun u=>match v,u with
 | .one (.c (.int k a)),.one (.c (.int k' b))=>bif decide (k=k') then(match aYo op a b with
   | some r=>val o n ⟨opr x++opr y,[]⟩ (.one (.c (.bool r))) [] ob
   | none=>bif aQi k then(arith md nat op a b ob).bind fun(r,ob1)=>val o n ⟨opr x++opr y,[]⟩ (.one (.c (.int .i64 r))) [] ob1
    else(aO4 op k a b).bind fun r=>val o n ⟨opr x++opr y,[]⟩ (.one (.c (.int k r))) [] ob) else none
 | .one (.c (.str a)),.one (.c (.str b))=>match op with
  | .eql=>val o n ⟨opr x++opr y,[]⟩ (.one (.c (.bool (decide (a=b))))) [] ob
  | .neq=>val o n ⟨opr x++opr y,[]⟩ (.one (.c (.bool (!decide (a=b))))) [] ob
  | .lss=>val o n ⟨opr x++opr y,[]⟩ (.one (.c (.bool (Op.bytesLess a b)))) [] ob
  | .add=>(need md (a.length+b.length≤maxLen) ob).bind fun ob1=>val o n ⟨opr x++opr y,[]⟩ (.one (.c (.str (a++b)))) [] ob1
  | _=>none
 | .one (.c (.bool a)),.one (.c (.bool b))=>(tr.get tx).bind fun i=>match i.k with
  | .bool=>match op with
   | .eql=>val o n ⟨opr x++opr y,[]⟩ (.one (.c (.bool (a==b)))) [] ob
   | .neq=>val o n ⟨opr x++opr y,[]⟩ (.one (.c (.bool (!(a==b))))) [] ob
   | _=>none
  | _=>none
 | v,.one (.c .np)=>(tr.get tx).bind fun i=>match i.k with
  | .pt _=>(wG v).bind fun b=>match op with
   | .eql=>val o n ⟨opr x++opr y,[]⟩ (.one (.c (.bool b))) [] ob
   | .neq=>val o n ⟨opr x++opr y,[]⟩ (.one (.c (.bool (!b)))) [] ob
   | _=>none
  | _=>none
 | v,.one (.c .nl)=>(tr.get tx).bind fun i=>match i.k with
  | .sl _=>(aKv v).bind fun b=>match op with
   | .eql=>val o n ⟨opr x++opr y,[]⟩ (.one (.c (.bool b))) [] ob
   | _=>none
  | _=>none
 | _,_=>none
theorem aM3 {op:BinOp}{M ty:TypeId}{x y:Operand}(hw:tr.wf=true) (I:Tok P tr.flat) (ho:o.op=.binOp op M x y ty):Snd P n o st ob (aV5 tr md nat o n st ob op M x y):=by
 refine Snd.bind fun v B=>Snd.bind fun u hu=>?_
 rw[c0] at B hu;split
 ·rename_i k a k' b;refine Snd.cond fun E=>?_
  have O:=ω E;subst O;split
  ·rename_i r J;exact Snd.val fun _ A q hc=>⟨hc,aQ6 ho A q B hu J⟩
  ·cases hi:aQi k with
   | true=>
    simp only[Bt];cases k<;>simp only[aQi] at hi<;>try (cases hi;done)
    refine Snd.bind fun p hp=>?_
    obtain⟨r,U⟩:=p;exact Snd.val fun _ A q hc=>aM5 ho A q B hu hp hc
   | false=>
    simp only[Bj];exact Snd.bind fun r J=>Snd.val fun _ A q hc=>⟨hc,aKi ho A q B hu J⟩
 ·split
  ·exact Snd.val fun _ A q hc=>⟨hc,aTm ho A q B hu⟩
  ·exact Snd.val fun _ A q hc=>⟨hc,aTk ho A q B hu⟩
  ·exact Snd.val fun _ A q hc=>⟨hc,aTl ho A q B hu⟩
  ·exact Snd.bind fun U h1=>Snd.val fun _ A q hc=>⟨(aT h1 hc).1,aTo ho A q B hu (aT h1 hc).2⟩
  ·exact Snd.none
 ·refine Snd.bind fun i hi=>?_
  replace hi:=Tr.get_ok hw hi
  split
  ·rename_i E;split
   ·exact Snd.val fun _ A q hc=>⟨hc,aTx I ho A q hi E B hu⟩
   ·exact Snd.val fun _ A q hc=>⟨hc,aTw I ho A q hi E B hu⟩
   ·exact Snd.none
  ·exact Snd.none
 ·refine Snd.bind fun i hi=>?_
  replace hi:=Tr.get_ok hw hi
  split
  ·rename_i E;refine Snd.bind fun b hb=>?_
   split
   ·exact Snd.val fun _ A q hc=>⟨hc,aTs I ho A q hi E B hb hu⟩
   ·exact Snd.val fun _ A q hc=>⟨hc,aTr I ho A q hi E B hb hu⟩
   ·exact Snd.none
  ·exact Snd.none
 ·refine Snd.bind fun i hi=>?_
  replace hi:=Tr.get_ok hw hi
  split
  ·rename_i E;refine Snd.bind fun b hb=>?_
   split
   ·exact Snd.val fun _ A q hc=>⟨hc,aPn I ho A q hi E B hb hu⟩
   ·exact Snd.none
  ·exact Snd.none
 ·exact Snd.none
def aZe (md:Bool) (o:Oper) (n:Nat) (st:St) (ob:List Prop) (op:UnOp) (x:Operand):Ans:=(opO st x).bind fun v=>match v with
 | .one (.c (.bool b))=>match op with
  | .not=>val o n ⟨opr x,[]⟩ (.one (.c (.bool (!b)))) [] ob
  | _=>none
 | .one (.c (.int .i64 a))=>match op with
  | .neg=>(need md (-9223372036854775808≤0-a∧0-a≤9223372036854775807) ob).bind fun ob1=>val o n ⟨opr x,[]⟩ (.one (.c (.int .i64 (0-a)))) [] ob1
  | _=>none
 | _=>none
theorem aR7 {op:UnOp}{t:TypeId}{x:Operand}(ho:o.op=.unOp op t x):Snd P n o st ob (aZe md o n st ob op x):=by
 refine Snd.bind fun v r=>?_
 rw[c0] at r;split
 ·split
  ·exact Snd.val fun _ u q hc=>⟨hc,aXj ho u q r⟩
  ·exact Snd.none
 ·split
  ·exact Snd.bind fun y h1=>Snd.val fun _ u q hc=>⟨(aT h1 hc).1,aXl ho u q r (B4 _ (aT h1 hc).2)⟩
  ·exact Snd.none
 ·exact Snd.none
def aV3 (tr:Tr) (md:Bool) (o:Oper) (n:Nat) (st:St) (ob:List Prop) (x:Operand) (t:TypeId):Ans:=(tr.get t).bind fun i=>(opO st x).bind fun v=>match i.k with
 | .sl _=>match v with
  | .one (.c (.sl _ l))=>val o n ⟨opr x,[]⟩ (.one (.c (.int .i64 ((l.length:Nat):Int)))) [] ob
  | .one (.c .nl)=>val o n ⟨opr x,[]⟩ (.one (.c (.int .i64 0))) [] ob
  | .one (.ras n' _ _)=>val o n ⟨opr x,[]⟩ (.one (.c (.int .i64 ((n':Nat):Int)))) [] ob
  | .one (.hs id _ len sz)=>match st.h id with
   | some (.arr _ _ elems _)=>(need md (sz=elems.length) ob).bind fun ob1=>val o n ⟨opr x,[id]⟩ (.one (.c (.int .i64 ((len:Nat):Int)))) [] ob1
   | _=>none
  | .one (.ra id _ len sz)=>match st.h id with
   | some (.rarr _ _ elems)=>(need md (sz=elems.length) ob).bind fun ob1=>val o n ⟨opr x,[id]⟩ (.one (.c (.int .i64 ((len:Nat):Int)))) [] ob1
   | _=>none
  | _=>none
 | .str=>match v with
  | .one (.c (.str s))=>val o n ⟨opr x,[]⟩ (.one (.c (.int .i64 ((s.length:Nat):Int)))) [] ob
  | _=>none
 | .mp _ _=>match v with
  | .one (.mr id)=>match st.h id with
   | some (.map _ ents)=>(need md (kX ents) ob).bind fun ob1=>val o n ⟨opr x,[id]⟩ (.one (.c (.int .i64 ((ents.length:Nat):Int)))) [] ob1
   | _=>none
  | _=>none
 | _=>none
theorem aMz {x:Operand}{t:TypeId}(hw:tr.wf=true) (A:Tok P tr.flat) (ho:o.op=.call { callee:=.builtin .len,args:= #[x],argTypes:= #[t] }):Snd P n o st ob (aV3 tr md o n st ob x t):=by
 refine Snd.bind fun i hi=>Snd.bind fun v y=>?_
 replace hi:=Tr.get_ok hw hi
 rw[c0] at y;split
 ·rename_i u;split
  ·exact Snd.val fun _ r q hc=>⟨hc,aLb A ho r q hi u y⟩
  ·exact Snd.val fun _ r q hc=>⟨hc,aLd A ho r q hi u y⟩
  ·exact Snd.val fun _ r q hc=>⟨hc,aGz A ho r q hi u y⟩
  ·split
   ·rename_i hh;exact Snd.bind fun B h1=>Snd.val fun _ r q hc=>⟨(aT h1 hc).1,aLe A ho r q hi u y hh (aT h1 hc).2⟩
   ·exact Snd.none
  ·split
   ·rename_i hh;exact Snd.bind fun B h1=>Snd.val fun _ r q hc=>⟨(aT h1 hc).1,aLc A ho r q hi u y hh (aT h1 hc).2⟩
   ·exact Snd.none
  ·exact Snd.none
 ·rename_i u;split
  ·exact Snd.val fun _ r q hc=>⟨hc,aGy A ho r q hi u y⟩
  ·exact Snd.none
 ·rename_i u;split
  ·split
   ·rename_i hh;exact Snd.bind fun B h1=>Snd.val fun _ r q hc=>⟨(aT h1 hc).1,aG0 A ho r q hi u y hh (aT h1 hc).2⟩
   ·exact Snd.none
  ·exact Snd.none
 ·exact Snd.none
def aWi (md:Bool) (st:St) (es:Nat) (hn:Hn) (v:V) (ob:List Prop):Option (List Nat×List (List C)×List Prop):=match v with
 | .one (.hs id off len sz)=>match st.h id with
  | some (.arr _ es' elems _)=>bif Nat.beq es' es then(need md (sz=elems.length) ob).bind fun ob1=>(match hn with
   | .all=>some ([id],elems,(off=0∧len=sz)::ob1)
   | .c rows=>some ([id],rows,(rows=(elems.drop off).take len)::ob1)
   | _=>bif Nat.beq off 0&&Nat.beq len sz then some ([id],elems,ob1) else some ([id],(elems.drop off).take len,ob1)) else none
  | _=>none
 | .one (.c (.sl es' l))=>bif Nat.beq es' es then some ([],l,ob) else none
 | .one (.c (.sn es' l))=>bif Nat.beq es' es then some ([],l,ob) else none
 | .one (.c .nl)=>some ([],[],ob)
 | _=>none
theorem tO {es:Nat}{hn:Hn}{v:V}{ids:List Nat}{rows:List (List C)}{r:List Prop}(h:aWi md st es hn v ob=some (ids,rows,r)):gL r→gL ob∧Src st es ids v rows:=by
 intro hc;unfold aWi at h;split at h
 ·rename_i id off len sz;split at h
  ·rename_i te B elems fz hh;obtain⟨h1,q⟩:=dE h;clear h;have:=δ h1;subst this;rw[Ac] at q;obtain⟨E,h2,h⟩:=q;split at h
   ·cases h;obtain⟨⟨rfl,rfl⟩,hc⟩:=hc;obtain⟨g,k⟩:=aT h2 hc;exact⟨g,.all hh k⟩
   ·cases h;obtain⟨u,hc⟩:=hc;obtain⟨g,k⟩:=aT h2 hc;exact⟨g,.hs hh k u⟩
   ·cases hb:Nat.beq off 0&&Nat.beq len sz with
    | true=>
     rw[hb] at h;cases h;obtain⟨g,k⟩:=aT h2 hc;simp only[Ab] at hb;have y:=δ hb.1;have A:=δ hb.2;subst y A;exact⟨g,.all hh k⟩
    | false=>
     rw[hb] at h;cases h;obtain⟨g,k⟩:=aT h2 hc;exact⟨g,.hs hh k rfl⟩
  ·cases h
 ·obtain⟨h1,q⟩:=dE h;clear h;have:=δ h1;subst this;cases q;exact⟨hc,.sl⟩
 ·obtain⟨h1,q⟩:=dE h;clear h;have:=δ h1;subst this;cases q;exact⟨hc,.sn⟩
 ·cases h;exact⟨hc,.nl⟩
 ·cases h
def xZ:List (List C)→Option (List Int)
 | []=>some []
 | [.int .u8 m]::rs=>(xZ rs).bind fun l=>some (m::l)
 | _=>none
theorem xY:∀{rows:List (List C)}{q:List Int},xZ rows=some q→rows=q.map fun m=>[C.int .u8 m]
 | [],q,h=>by simp[xZ] at h;subst h;rfl
 | [.int .u8 m]::rs,q,h=>by
  simp only[xZ,Ac] at h;obtain⟨l,h1,h2⟩:=h;cases h2;rw[xY h1];rfl
def aOs (tr:Tr) (md:Bool) (o:Oper) (n:Nat) (st:St) (ob:List Prop) (hn:Hn) (src dst:TypeId) (x:Operand):Ans:=(tr.get src).bind fun i=>(tr.get dst).bind fun j=>(opO st x).bind fun v=>match j.k with
 | .int k'=>match i.k,v with
  | .int k,.one (.c (.int k2 m))=>bif decide (k2=k) then val o n ⟨opr x,[]⟩ (.one (.c (.int k' (k'.wrap m)))) [] ob else none
  | _,_=>none
 | .str=>match i.k with
  | .sl e=>(tr.get e).bind fun ei=>match ei.k with
   | .int .u8=>(aWi md st 1 hn v ob).bind fun(ids,rows,ob1)=>(xZ rows).bind fun ns=>(frc (ns.map fun m=>UInt8.ofNat m.toNat)).bind fun bs=>val o n ⟨opr x,ids⟩ (.one (.c (.str bs))) [] ob1
   | _=>none
  | _=>none
 | _=>none
theorem aJu {hn:Hn}{src dst:TypeId}{x:Operand}(hw:tr.wf=true) (J:Tok P tr.flat) (ho:o.op=.convert src dst x):Snd P n o st ob (aOs tr md o n st ob hn src dst x):=by
 refine Snd.bind fun i hi=>Snd.bind fun j A=>Snd.bind fun v E=>?_
 replace hi:=Tr.get_ok hw hi
 replace A:=Tr.get_ok hw A
 rw[c0] at E;split
 ·rename_i k' q;split
  ·rename_i k k2 m r;refine Snd.cond fun U=>?_
   have:=ω U;subst this;exact Snd.val fun _ I u hc=>⟨hc,aPr J ho I u hi r A q E⟩
  ·exact Snd.none
 ·rename_i q;split
  ·rename_i e r;refine Snd.bind fun ei y=>?_
   replace y:=Tr.get_ok hw y
   split
   ·rename_i M;refine Snd.bind fun p hp=>?_
    obtain⟨ids,rows,Y⟩:=p;refine Snd.bind fun ns O=>Snd.bind fun bs B=>Snd.val fun _ I u hc=>?_
    rw[kD] at B;cases B;obtain⟨g1,g2⟩:=tO hp hc;exact⟨g1,aPs J ho I u hi r y M A q E g2 (xY O)⟩
   ·exact Snd.none
  ·exact Snd.none
 ·exact Snd.none
def aZd (md:Bool) (a b:List (List C)):Option (List (List C)):=bif md then some (a++b) else frc (a++b)
theorem aRa (md:Bool) (a b:List (List C)):aZd md a b=some (a++b):=by
 cases md
 ·exact kD _
 ·rfl
def aDi (tr:Tr) (md:Bool) (o:Oper) (n:Nat) (st:St) (ob:List Prop) (hn:Hn) (id0:Nat) (x y:Operand) (t:TypeId):Ans:=(tr.get t).bind fun i=>match i.k with
 | .sl e=>(tr.get e).bind fun ei=>match ei with
  | ⟨_,s0,b0,_⟩=>bif Nat.ble 1 s0&&Nat.ble 1 b0 then(opO st x).bind fun v=>(opO st y).bind fun u=>(aWi md st s0 hn u ob).bind fun(ids,rows,ob1)=>(match v with
  | .one (.hs id off len sz)=>match st.h id with
   | some (.arr te es elems fz)=>bif Nat.beq te e&&Nat.beq es s0 then(need md (sz=elems.length) ob1).bind fun ob2=>(need md (off=0∧len=sz) ob2).bind fun ob3=>(need md ((elems.length+rows.length)*b0≤140737488355328) ob3).bind fun ob4=>
     (aZd md elems rows).bind fun l=>match fz with
     | 0=>val o n ⟨opr x++opr y,id::ids⟩ (.one (.hs id 0 (elems.length+rows.length) (elems.length+rows.length))) [(id,some (.arr e s0 l 0))] ob4
     | _+1=>val o n ⟨opr x++opr y,id::ids⟩ (.one (.hs id 0 (elems.length+rows.length) (elems.length+rows.length))) [(id,some (.arr e s0 l 1))] ob4
    else none
   | _=>none
  | .one (.c .nl)=>match st.h id0 with
   | none=>(need md (rows.length*b0≤140737488355328) ob1).bind fun ob2=>val o n ⟨opr x++opr y,id0::ids⟩ (.one (.hs id0 0 rows.length rows.length)) [(id0,some (.arr e s0 rows 0))] ob2
   | some _=>none
  | _=>none) else none
 | _=>none
theorem aAn {hn:Hn}{I:Nat}{x y:Operand}{t:TypeId}(hw:tr.wf=true) (J:Tok P tr.flat) (ho:o.op=.call { callee:=.builtin .append,args:= #[x,y],argTypes:= #[t,t] }):Snd P n o st ob (aDi tr md o n st ob hn I x y t):=by
 refine Snd.bind fun i hi=>?_
 replace hi:=Tr.get_ok hw hi
 split
 ·rename_i e M;refine Snd.bind fun ei q=>?_
  obtain⟨k0,s0,b0,z0⟩:=ei;refine Snd.cond fun hb=>Snd.bind fun v E=>Snd.bind fun u hu=>Snd.bind fun p hp=>?_
  replace q:=Tr.get_ok hw q
  obtain⟨ids,rows,ob1⟩:=p;simp only[Ab] at hb;rw[c0] at E hu;dsimp only;split
  ·rename_i id off len sz;split
   ·rename_i te es elems fz hh;refine Snd.cond fun A=>Snd.bind fun O h2=>Snd.bind fun ob3 U=>Snd.bind fun ob4 Y=>Snd.bind fun l hl=>?_
    simp only[Ab] at A;have e1:=δ A.1;have e2:=δ A.2;subst e1 e2;rw[aRa] at hl;cases hl;split
    ·refine Snd.val fun _ B r hc=>?_
     obtain⟨g1,g2⟩:=aT Y hc;obtain⟨g3,g4,g5⟩:=aT U g1;obtain⟨g6,g7⟩:=aT h2 g3;obtain⟨g8,g9⟩:=tO hp g6;subst g4 g5;exact⟨g8,aBe J ho B r hi M q hb.1 hb.2 E hh g7 hu g9 g2⟩
    ·refine Snd.val fun _ B r hc=>?_
     obtain⟨g1,g2⟩:=aT Y hc;obtain⟨g3,g4,g5⟩:=aT U g1;obtain⟨g6,g7⟩:=aT h2 g3;obtain⟨g8,g9⟩:=tO hp g6;subst g4 g5;exact⟨g8,aBe J ho B r hi M q hb.1 hb.2 E hh g7 hu g9 g2⟩
   ·exact Snd.none
  ·split
   ·rename_i hid;refine Snd.bind fun O h2=>Snd.val fun _ B r hc=>?_
    obtain⟨g1,g2⟩:=aT h2 hc;obtain⟨g3,g4⟩:=tO hp g1;exact⟨g3,aG7 I J ho B r hi M q hb.1 hb.2 E hid hu g4 g2⟩
   ·exact Snd.none
  ·exact Snd.none
 ·exact Snd.none
def yB (tr:Tr) (md:Bool) (o:Oper) (n:Nat) (st:St) (ob:List Prop) (id0:Nat) (x y:Operand) (t:TypeId):Ans:=(tr.get t).bind fun i=>match i.k with
 | .sl e=>(tr.get e).bind fun ei=>match ei with
  | ⟨_,s0,b0,_⟩=>bif Nat.ble 1 s0&&Nat.ble 1 b0 then(opO st x).bind fun v=>(opO st y).bind fun u=>match u with
  | .one (.ra id2 off2 len2 sz2)=>match st.h id2 with
   | some (.rarr _ es2 rows)=>bif Nat.beq es2 s0&&(Nat.beq off2 0&&(Nat.beq len2 rows.length&&(Nat.beq sz2 rows.length&&Nat.blt 0 rows.length))) then(match v with
    | .one (.ra id off len sz)=>match st.h id with
     | some (.rarr te es elems)=>bif Nat.beq te e&&Nat.beq es s0 then(need md (sz=elems.length) ob).bind fun ob2=>(need md (off=0∧len=sz) ob2).bind fun ob3=>(need md ((elems.length+rows.length)*b0≤140737488355328) ob3).bind fun ob4=>
       val o n ⟨opr x++opr y,[id,id2]⟩ (.one (.ra id 0 (elems.length+rows.length) (elems.length+rows.length))) [(id,some (.rarr e s0 (elems++rows)))] ob4 else none
     | _=>none
    | .one (.c .nl)=>match st.h id0 with
     | none=>(need md (rows.length*b0≤140737488355328) ob).bind fun ob2=>val o n ⟨opr x++opr y,[id0,id2]⟩ (.one (.ra id0 0 rows.length rows.length)) [(id0,some (.rarr e s0 rows))] ob2
     | some _=>none
    | _=>none) else none
   | _=>none
  | _=>none
  else none
 | _=>none
theorem yA {E:Nat}{x y:Operand}{t:TypeId}(hw:tr.wf=true) (hT:Tok P tr.flat) (ho:o.op=.call { callee:=.builtin .append,args:= #[x,y],argTypes:= #[t,t] }):Snd P n o st ob (yB tr md o n st ob E x y t):=by
 refine Snd.bind fun i hi=>?_
 replace hi:=Tr.get_ok hw hi
 split
 ·rename_i e hk;refine Snd.bind fun ei q=>?_
  obtain⟨k0,s0,b0,z0⟩:=ei;refine Snd.cond fun hb=>Snd.bind fun v M=>Snd.bind fun u hu=>?_
  replace q:=Tr.get_ok hw q
  simp only[Ab] at hb;rw[c0] at M hu;split
  ·rename_i id2 off2 len2 sz2;split
   ·rename_i te2 es2 rows I;refine Snd.cond fun J=>?_
    simp only[Ab] at J;obtain⟨O,U,Y,c4,B⟩:=J;have O:=δ O;have U:=δ U;have Y:=δ Y;have c4:=δ c4;have B:=jH B;subst O U Y c4;split
    ·rename_i id off len sz;split
     ·rename_i te es elems hh;refine Snd.cond fun r=>Snd.bind fun ob2 h2=>Snd.bind fun ob3 h3=>Snd.bind fun ob4 h4=>Snd.val fun _ hd A hc=>?_
      simp only[Ab] at r;have e1:=δ r.1;have e2:=δ r.2;subst e1;rw[e2] at hh;obtain⟨g1,g2⟩:=aT h4 hc;obtain⟨g3,g4,g5⟩:=aT h3 g1;obtain⟨g6,g7⟩:=aT h2 g3;subst g4 g5;exact⟨g6,aG6 hT ho hd A hi hk q hb.1 hb.2 M hh g7 hu I B g2⟩
     ·exact Snd.none
    ·split
     ·rename_i hid;refine Snd.bind fun ob2 h2=>Snd.val fun _ hd A hc=>?_
      obtain⟨g1,g2⟩:=aT h2 hc;exact⟨g1,aEb E hT ho hd A hi hk q hb.1 hb.2 M hid hu I B g2⟩
     ·exact Snd.none
    ·exact Snd.none
   ·exact Snd.none
  ·exact Snd.none
 ·exact Snd.none
def aWx (P:Program) (f:FuncId):Bool:=match P.funcs[f]? with
 | some fn => !(fn.name == "runtime.NumGoroutine") && fn.body.isSome
 | none=>false
theorem aJg {P:Program}{f:FuncId}(h:aWx P f=true):i7 P f:=by
 unfold aWx at h;split at h
 ·rename_i fn q;simp only[Ab,Bk] at h;refine⟨fn,q,h.1,?_⟩;cases hb:fn.body with
  | none=>rw[hb] at h;cases h.2
  | some _=>rfl
 ·cases h
def aM8 (P:Program) (f:FuncId) (args:List V) (res:V):Prop:=aWx P f=true∧bI P f args [] res []
def qU (st:St):List Nat→List R→List Prop→Option (List Nat×List C×List Prop)
 | _,[],ob=>some ([],[],ob)
 | ty,r::rs,ob=>match r with
  | .c x=>(aFg ty [x]).bind fun y=>match y with
   | [y]=>(qU st ty.tail rs ob).bind fun(ids,cs,ob1)=>some (ids,y::cs,ob1)
   | _=>none
  | .hs id 0 len sz=>match st.h id with
   | some (.arr _ es elems 2)=>(qU st ty.tail rs ob).bind fun(ids,cs,ob1)=>some (id::ids,.sl es elems::cs,(sz=elems.length∧len=elems.length)::ob1)
   | _=>none
  | _=>none
theorem mZ {st:St}:∀{rs:List R}{ty:List Nat}{ob q:List Prop}{ids:List Nat}{cs:List C},qU st ty rs ob=some (ids,cs,q)→gL q→gL ob∧PureL st.h ids rs cs
 | [],ty,ob,q,ids,cs,h,hc=>by
  cases ty<;>(simp only[qU] at h;cases h;exact⟨hc,.nil⟩)
 | r::rs,ty,ob,q,ids,cs,h,hc=>by
  rw[qU.eq_def] at h;dsimp only at h;split at h
  ·rename_i x;rw[Ac] at h;obtain⟨y,hy,h⟩:=h;split at h
   ·rename_i E;rw[Ac] at h;obtain⟨⟨u,A,B⟩,h1,h2⟩:=h;cases h2;obtain⟨g1,g2⟩:=mZ h1 hc;rw[r3] at hy;have hp:=lL (h:=st.h) ty [x];rw[Option.some.inj hy] at hp;cases hp with
    | c hx _=>exact⟨g1,.c hx g2⟩
    | any _=>exact⟨g1,.any g2⟩
   ·cases h
  ·rename_i id len sz;split at h
   ·rename_i te es elems hh;rw[Ac] at h;obtain⟨⟨u,A,B⟩,h1,h2⟩:=h;cases h2;obtain⟨g1,g2⟩:=mZ h1 hc.2;exact⟨g1,.hs hh hc.1.1 (by rw[hc.1.2,B8,Aw]) g2⟩
   ·cases h
  ·cases h
def aQ3 (tr:Tr) (st:St) (v:V) (t:TypeId) (ob:List Prop):Option (List Nat×V×List Prop):=match v with
 | .one r=>(qU st (nH tr 300 [t]) [r] ob).bind fun(ids,cs,ob1)=>match cs with
  | [c]=>some (ids,.one (.c c),ob1)
  | _=>none
 | .pa l=>(aFg (nH tr 300 [t]) l).bind fun l'=>some ([],.pa l',ob)
 | .ma rs=>(qU st (nH tr 300 [t]) rs ob).bind fun(ids,cs,ob1)=>some (ids,.pa cs,ob1)
 | _=>none
theorem aL6 {tr:Tr}{st:St}{v v':V}{t:TypeId}{ob q:List Prop}{ids:List Nat}(h:aQ3 tr st v t ob=some (ids,v',q)) (hc:gL q):(gL ob∧Conv st.h ids v v')∧v'.refs=[]:=by
 unfold aQ3 at h;split at h
 ·rw[Ac] at h;obtain⟨⟨r,u,y⟩,h1,h2⟩:=h;dsimp only at h2;split at h2
  ·cases h2;obtain⟨g1,g2⟩:=mZ h1 hc;exact⟨⟨g1,.one g2⟩,by simp[V.refs,R.refs]⟩
  ·cases h2
 ·rw[Ac] at h;obtain⟨A,h1,h2⟩:=h;cases h2;rw[r3] at h1;cases h1;exact⟨⟨hc,.pa (lL _ _)⟩,by simp[V.refs]⟩
 ·rw[Ac] at h;obtain⟨⟨r,u,y⟩,h1,h2⟩:=h;cases h2;obtain⟨g1,g2⟩:=mZ h1 hc;exact⟨⟨g1,.agg g2⟩,by simp[V.refs]⟩
 ·cases h
def aFd (tr:Tr) (st:St):List Operand→List TypeId→List Prop→Option (List Nat×List V×List Prop)
 | [],_,ob=>some ([],[],ob)
 | x::xs,t::ts,ob=>(opO st x).bind fun v=>(aQ3 tr st v t ob).bind fun(ids1,v',ob1)=>(aFd tr st xs ts ob1).bind fun(ids2,vs,ob2)=>some (ids1++ids2,v'::vs,ob2)
 | _::_,[],_=>none
theorem aDm {tr:Tr}{st:St}:∀{xs:List Operand}{ts:List TypeId}{ob q:List Prop}{ids:List Nat}{l:List V},aFd tr st xs ts ob=some (ids,l,q)→gL q→(gL ob∧ArgsV st ids xs l)∧V.refsL l=[]
 | [],ts,ob,q,ids,l,h,hc=>by
  cases ts<;>(simp only[aFd] at h;cases h;exact⟨⟨hc,.nil⟩,by simp[V.refsL]⟩)
 | x::xs,[],ob,q,ids,l,h,hc=>by simp[aFd] at h
 | x::xs,t::ts,ob,q,ids,l,h,hc=>by
  simp only[aFd,c0,Ac] at h;obtain⟨v,r,⟨u,v',J⟩,h1,⟨y,vs,M⟩,h2,A⟩:=h;cases A;obtain⟨⟨g1,g2⟩,g3⟩:=aDm h2 hc;obtain⟨⟨B,E⟩,I⟩:=aL6 h1 g1;exact⟨⟨B,.cons r E g2⟩,by simp[V.refsL,I,g3]⟩
def aOo (P:Program) (tr:Tr) (o:Oper) (n:Nat) (st:St) (ob:List Prop) (res:V) (f:FuncId) (xs:Array Operand) (ts:Array TypeId):Ans:=(aFd tr st xs.toList ts.toList ob).bind fun(ids,args,ob1)=>val o n ⟨bW xs.toList,ids⟩ res [] (aM8 P f args res::ob1)
theorem aJl {res:V}{f:FuncId}{xs:Array Operand}{ts:Array TypeId}(ho:o.op=.call { callee:=.value (.func f),args:=xs,argTypes:=ts }):Snd P n o st ob (aOo P tr o n st ob res f xs ts):=by
 refine Snd.bind fun p ha=>?_
 obtain⟨ids,args,u⟩:=p;refine Snd.val fun d r q hc=>?_
 obtain⟨⟨g1,g2⟩,g3⟩:=aDm ha hc.2;refine⟨g1,?_⟩;have:=aG5 [] [] (aJg hc.1.1) ho r q hc.1.2 g2 trivial trivial (by simp[fC,g3,keys,gS,subset]);simpa [outs,keys] using this
def aJw (P:Program) (tr:Tr) (md:Bool) (o:Oper) (n:Nat) (st:St) (ob:List Prop) (hn:Hn) (id0:Nat) (c:Call):Ans:=match c.callee with
 | .builtin b=>match b,c.args.toList,c.argTypes.toList with
  | .len,[x],[t]=>aV3 tr md o n st ob x t
  | .append,[x,y],[t,t']=>bif Nat.beq t t' then(match opO st y with | some (.one (.ra _ _ _ _))=>yB tr md o n st ob id0 x y t | _=>aDi tr md o n st ob hn id0 x y t) else none
  | .min,[x,y],[_,_]=>(opO st x).bind fun v=>(opO st y).bind fun u=>match v,u with
   | .one (.c (.int k a)),.one (.c (.int k' b))=>bif decide (k=k') then val o n ⟨opr x++opr y,[]⟩ (.one (.c (.int k (if b<a then b else a)))) [] ob else none
   | _,_=>none
  | .max,[x,y],[_,_]=>(opO st x).bind fun v=>(opO st y).bind fun u=>match v,u with
   | .one (.c (.int k a)),.one (.c (.int k' b))=>bif decide (k=k') then val o n ⟨opr x++opr y,[]⟩ (.one (.c (.int k (if b>a then b else a)))) [] ob else none
   | _,_=>none
  | _,_,_=>none
 | .value (.func f)=>match hn with
  | .pc res=>aOo P tr o n st ob res f c.args c.argTypes
  | _=>none
 | _=>none
theorem arr1 {α:Type}{a:Array α}{x:α}(h:a.toList=[x]):a= #[x]:=by cases a;simp at h;simp[h]
theorem aSv {α:Type}{a:Array α}{x y:α}(h:a.toList=[x,y]):a= #[x,y]:=by cases a;simp at h;simp[h]
theorem aJv {hn:Hn}{I:Nat}{c:Call}(hw:tr.wf=true) (A:Tok P tr.flat) (ho:o.op=.call c):Snd P n o st ob (aJw P tr md o n st ob hn I c):=by
 obtain⟨M,args,O⟩:=c;unfold aJw;dsimp only;split
 ·rename_i b;split
  ·rename_i x t h1 h2;have:=arr1 h1;have:=arr1 h2
   subst_vars
   exact aMz hw A ho
  ·rename_i x y t J h1 h2;have:=aSv h1;have:=aSv h2
   subst_vars
   refine Snd.cond fun ht=>?_
   have:=δ ht;subst this;split
   ·exact yA hw A ho
   ·exact aAn hw A ho
  ·rename_i x y t J h1 h2;have:=aSv h1;have:=aSv h2
   subst_vars
   refine Snd.bind fun v q=>Snd.bind fun u hu=>?_
   rw[c0] at q hu;split
   ·refine Snd.cond fun B=>?_
    have:=ω B;subst this;exact Snd.val fun _ E r hc=>⟨hc,aXm ho E r q hu rfl⟩
   ·exact Snd.none
  ·rename_i x y t J h1 h2;have:=aSv h1;have:=aSv h2
   subst_vars
   refine Snd.bind fun v q=>Snd.bind fun u hu=>?_
   rw[c0] at q hu;split
   ·refine Snd.cond fun B=>?_
    have:=ω B;subst this;exact Snd.val fun _ E r hc=>⟨hc,aXn ho E r q hu rfl⟩
   ·exact Snd.none
  ·exact Snd.none
 ·split
  ·exact aJl ho
  ·exact Snd.none
 ·exact Snd.none
def idO (hn:Hn) (d:Option Nat):Option Nat:=match hn with
 | .id n=>some n
 | _=>match d with
  | some d=>some d
  | none=>none
def aMw (P:Program) (tr:Tr) (md nat:Bool) (n:Nat) (st:St) (hn:Hn) (o:Oper) (ob:List Prop):Ans:=match o.op with
 | .move x=>aDh o n st ob x
 | .assign x=>aDh o n st ob x
 | .pick c x y=>aOp o n st ob hn c x y
 | .alloc t=>(idO hn o.dst).bind fun id=>aJy tr o n st ob id t
 | .box t x=>(idO hn o.dst).bind fun id=>aV4 o n st ob id t x
 | .build t ps=>aJx tr o n st ob t ps
 | .buildSlice t len ps=>(idO hn o.dst).bind fun id=>aJk tr o n st ob hn id t len ps
 | .load t x=>aOq tr md o n st ob hn t x
 | .store t x y=>aJj tr md o st ob hn t x y
 | .nilCheck x=>aV2 md o n st ob x
 | .slice t x l h m=>aSa tr md o n st ob t x l h m
 | .index t x y=>aJq tr o n st ob hn t x y
 | .convert src dst x=>aOs tr md o n st ob hn src dst x
 | .binOp op tx x y _=>aV5 tr md nat o n st ob op tx x y
 | .unOp op _ x=>aZe md o n st ob op x
 | .makeFunc f a b=>aJs o n st ob f a b
 | .makeMap t r=>(idO hn o.dst).bind fun id=>aR8 tr o n st ob id t r
 | .fieldAddr t x f=>rN tr md o n st ob t x f
 | .field t x f=>aJt tr o n st ob t x f
 | .indexAddr t x y=>rM tr md o n st ob hn t x y
 | .lookup t x y ok=>vA tr md o n st ob hn t x y ok
 | .mapUpdate t x y z=>jZ tr md o st ob t x y z
 | .insert t x y z=>jZ tr md o st ob t x y z
 | .extract x i=>y9 o n st ob x i
 | .call c=>(idO hn o.dst).bind fun id=>aJw P tr md o n st ob hn id c
 | _=>none
theorem aDg {hn:Hn}(hw:tr.wf=true) (q:Tok P tr.flat):Snd P n o st ob (aMw P tr md nat n st hn o ob):=by
 unfold aMw;split
 ·rename_i ho;exact aJo ho
 ·rename_i ho;exact aAm ho
 ·rename_i ho;exact aJm ho
 ·rename_i ho;exact Snd.bind fun _ _=>aFb hw q ho
 ·rename_i ho;exact Snd.bind fun _ _=>aM2 ho
 ·rename_i ho;exact aFa hw q ho
 ·rename_i ho;exact Snd.bind fun _ _=>aE6 hw q ho
 ·rename_i ho;exact aJp hw q ho
 ·rename_i ho;exact aE5 hw q ho
 ·rename_i ho;exact aMx ho
 ·rename_i ho;exact aM1 hw q ho
 ·rename_i ho;exact aE7 hw q ho
 ·rename_i ho;exact aJu hw q ho
 ·rename_i ho;exact aM3 hw q ho
 ·rename_i ho;exact aR7 ho
 ·rename_i ho;exact aJr ho
 ·rename_i ho;exact Snd.bind fun _ _=>aMy ho
 ·rename_i ho;exact s9 hw q ho
 ·rename_i ho;exact aE9 hw q ho
 ·rename_i ho;exact s8 hw q ho
 ·rename_i ho;exact aAj hw q ho
 ·rename_i ho;exact s7 hw q ho
 ·rename_i ho;exact aAk hw q ho
 ·rename_i ho;exact y8 ho
 ·rename_i ho;exact Snd.bind fun _ _=>aJv hw q ho
 ·exact Snd.none
theorem Step.freeze {rd:Rd}{q:Option (Nat×Option V)}{id te es z:Nat}{l:List (List C)}(h:Step P n o st rd ⟨q,[(id,some (.arr te es l z))]⟩):Step P n o st rd ⟨q,[(id,some (.arr te es l 2))]⟩:=by
 intro st' ha G S μ a w K Q hs r;refine h st' ha G S μ a w K Q hs fun S1 E u y h1=>?_
 have hh:(Eff.apply ⟨q,[(id,some (.arr te es l z))]⟩ st').h id=some (.arr te es l z):=by
  show iB st'.h [(id,some (.arr te es l z))] id=_;rw[c7,aH]
 obtain⟨S2,A,h2⟩:=h1.freeze hh;refine r S2 A u y ?_;have B:upd (Eff.apply ⟨q,[(id,some (.arr te es l z))]⟩ st').h id (some (.arr te es l 2))=(Eff.apply ⟨q,[(id,some (.arr te es l 2))]⟩ st').h:=by
  show upd (iB st'.h [(id,some (.arr te es l z))]) id _=iB st'.h [(id,some (.arr te es l 2))];rw[c7,c7,nV]
 rw[B] at h2;exact h2
def aYz:Ans→Ans
 | some (rd,⟨dv,[(id,some (.arr te es l _))]⟩,ob')=>some (rd,⟨dv,[(id,some (.arr te es l 2))]⟩,ob')
 | _=>none
theorem aR9 {r:Ans}(h:Snd P n o st ob r):Snd P n o st ob (aYz r):=by
 intro rd f q e hc;unfold aYz at e;split at e
 ·cases e;obtain⟨g1,g2⟩:=h _ _ _ rfl hc;exact⟨g1,g2.freeze⟩
 ·cases e
def aW0 (P:Program) (tr:Tr) (md nat:Bool) (n:Nat) (st:St) (hn:Hn) (o:Oper) (ob:List Prop):Ans:=match hn with
 | .fz=>aYz (aMw P tr md nat n st .no o ob)
 | hn=>aMw P tr md nat n st hn o ob
theorem aJn {hn:Hn}(hw:tr.wf=true) (q:Tok P tr.flat):Snd P n o st ob (aW0 P tr md nat n st hn o ob):=by
 unfold aW0;split
 ·exact aR9 (aDg hw q)
 ·exact aDg hw q
def zY:List Oper→Nat→Option Nat
 | [],_=>none
 | o::os,i=>bif Nat.beq i 0 then o.dst else zY os (i-1)
theorem aCt:∀(os:List Oper) (i:Nat),zY os i=(os[i]?).bind (·.dst)
 | [],i=>by simp[zY]
 | o::os,0=>by simp[zY]
 | o::os,i+1=>by
  have:Nat.beq (i+1) 0=false:=rfl;simp[zY,this,aCt os i]
def axG (P:Program) (tr:Tr) (md nat:Bool) (n:Nat) (all:List Oper) (hs:List (Nat×Hn)) (k:Nat) (o:Oper) (st:St) (ob:List Prop):Ans:=match o.guard with
 | none=>aW0 P tr md nat n st (aLw hs k) o ob
 | some (j,want)=>(zY all j).bind fun t=>(st.e t).bind fun v=>match v with
  | .one (.c (.bool b))=>match aKn (match aLw hs j with | .bv w=>.bv w | _=>.no) b ob with
   | (w,ob1)=>bif w==want then(aW0 P tr md nat n st (aLw hs k) o ob1).bind fun(rd,f,ob2)=>some (⟨t::rd.e,rd.h⟩,f,ob2)
    else match o.dst with
     | some d=>bif Nat.blt d n then some (⟨[t],[]⟩,⟨some (d,some (.tup [])),[]⟩,ob1) else none
     | none=>none
  | .tup []=>match o.dst with
   | some d=>bif Nat.blt d n then some (⟨[t],[]⟩,⟨some (d,some (.tup [])),[]⟩,ob) else none
   | none=>none
  | _=>none
theorem aOr {ops:Array Oper}{hs:List (Nat×Hn)}{k:Nat}{rd:Rd}{f:Eff}{u:List Prop}(hw:tr.wf=true) (I:Tok P tr.flat) (ho:ops[k]?=some o) (h:axG P tr md nat n ops.toList hs k o st ob=some (rd,f,u)):gL u→gL ob∧GStep P n ops k st rd f:=by
 intro hc;unfold axG at h;split at h
 ·rename_i r;obtain⟨h1,h2⟩:=aJn hw I _ _ _ h hc;exact⟨h1,GStep.plain ho r h2⟩
 ·rename_i j want r;rw[Ac] at h;obtain⟨t,ht,h⟩:=h;rw[Ac] at h;obtain⟨v,A,h⟩:=h;have B:(ops[j]?).bind (·.dst)=some t:=by
   rw[aCt] at ht;simpa using ht
  split at h
  ·rename_i b;split at h;rename_i w J y;cases q:w==want with
   | true=>
    rw[q] at h;simp only[Bt] at h;rw[Ac] at h;obtain⟨⟨M,f1,O⟩,h1,h2⟩:=h;cases h2;obtain⟨g1,g2⟩:=aJn hw I _ _ _ h1 hc;obtain⟨g3,g4⟩:=pO y g1;exact⟨g3,GStep.yes ho r B A (g4.trans (eq_of_beq q)) g2⟩
   | false=>
    rw[q] at h;simp only[Bj] at h;split at h
    ·rename_i d E;obtain⟨h1,h2⟩:=dE h;cases h2;obtain⟨g3,g4⟩:=pO y hc;refine⟨g3,GStep.no ho r E (jH h1) B A g4 ?_⟩;cases w<;>cases want<;>first | rfl | (cases q)
    ·cases h
  ·split at h
   ·rename_i d E;obtain⟨h1,h2⟩:=dE h;cases h2;exact⟨hc,GStep.un ho r E (jH h1) B A⟩
   ·cases h
  ·cases h
def tG (P:Program) (tr:Tr) (md nat:Bool) (n:Nat) (all:List Oper) (hs:List (Nat×Hn)):Nat→Nat→List Oper→(Nat→Option V)→c8→List Nat→REs→List Prop→Option (St×Nat×REs×List Prop)
 | 0,k,_,e,h,d,pre,ob=>some (⟨e,h,d⟩,k,pre,ob)
 | _+1,k,[],e,h,d,pre,ob=>some (⟨e,h,d⟩,k,pre,ob)
 | m+1,k,o::os,e,h,d,pre,ob=>(axG P tr md nat n all hs k o ⟨e,h,d⟩ ob).bind fun(rd,f,ob1)=>match f with
  | ⟨some (t,v),[]⟩=>tG P tr md nat n all hs m (k+1) os (upd e t v) h d ((rd,⟨some (t,v),[]⟩)::pre) ob1
  | ⟨some (t,v),[(id,x)]⟩=>tG P tr md nat n all hs m (k+1) os (upd e t v) (upd h id x) d ((rd,⟨some (t,v),[(id,x)]⟩)::pre) ob1
  | ⟨none,[(id,x)]⟩=>tG P tr md nat n all hs m (k+1) os e (upd h id x) d ((rd,⟨none,[(id,x)]⟩)::pre) ob1
  | _=>none
theorem aAl {ops:Array Oper}{hs:List (Nat×Hn)}{draw:Bool}(hw:tr.wf=true) (M:Tok P tr.flat):∀(m k:Nat) (os:List Oper) (e:Nat→Option V) (h:c8) (d:List Nat) (pre:REs) (ob:List Prop) (st':St) (k':Nat) (pre':REs) (u:List Prop),os=ops.toList.drop k→
  tG P tr md nat n ops.toList hs m k os e h d pre ob=some (st',k',pre',u)→gL u→gL ob∧∀Q,iV QP P n ops draw k' st' pre' Q→iV QP P n ops draw k ⟨e,h,d⟩ pre Q:=by
 intro m
 induction m with
 | zero=>
  intro k os e h d pre ob st' k' pre' u _ q hc;simp only[tG] at q;cases q;exact⟨hc,fun Q hq=>hq⟩
 | succ m B=>
  intro k os e h d pre ob st' k' pre' u A q hc;cases os with
  | nil=>
   simp only[tG] at q;cases q;exact⟨hc,fun Q hq=>hq⟩
  | cons o os=>
   have ho:ops[k]?=some o:=by
    have:(ops.toList.drop k)[0]?=some o:=by rw[←A];rfl
    simpa using this
   have r:os=ops.toList.drop (k+1):=by
    have:os=(ops.toList.drop k).tail:=by rw[←A];rfl
    rw[this,List.tail_drop]
   simp only[tG,Ac] at q;obtain⟨⟨rd,f,E⟩,h1,h2⟩:=q;have key:∀{y:St},gL E→y=f.apply ⟨e,h,d⟩→(∀Q,iV QP P n ops draw k' st' pre' Q→iV QP P n ops draw (k+1) y ((rd,f)::pre) Q)→gL ob∧∀Q,iV QP P n ops draw k' st' pre' Q→iV QP P n ops draw k ⟨e,h,d⟩ pre Q:=by
    intro y I J O;obtain⟨g1,g2⟩:=aOr hw M ho h1 I;subst J;exact⟨g1,fun Q hq=>k_ g2 (O Q hq)⟩
   split at h2
   ·rename_i heq;have heq:f=_:=heq;subst heq;obtain⟨g1,g2⟩:=B _ _ _ _ _ _ _ _ _ _ _ r h2 hc;exact key g1 (by simp only[Eff.apply,aAy]) g2
   ·rename_i heq;have heq:f=_:=heq;subst heq;obtain⟨g1,g2⟩:=B _ _ _ _ _ _ _ _ _ _ _ r h2 hc;exact key g1 (by simp only[Eff.apply,c7]) g2
   ·rename_i heq;have heq:f=_:=heq;subst heq;obtain⟨g1,g2⟩:=B _ _ _ _ _ _ _ _ _ _ _ r h2 hc;exact key g1 (by simp only[Eff.apply,c7]) g2
   ·cases h2
end
section
variable {QP:Value→Prop}{ro:Option Nat}{P:Program}{n:Nat}{ops:Array Oper}{draw:Bool}{k k':Nat}{st st':St}{pre pre':REs}{Q:St→Prop}{tr:Tr}{ob:List Prop}
theorem ax_ {hs:List (Nat×Hn)}{md nat:Bool}(m:Nat) (hw:tr.wf=true) (q:Tok P tr.flat) (h:tG P tr md nat n ops.toList hs m k (ops.toList.drop k) st.e st.h st.d pre []=some (st',k',pre',ob)) (hc:gL ob) (r:iV QP P n ops draw k' st' pre' Q):iV QP P n ops draw k st pre Q:=
 (aAl hw q m k _ st.e st.h st.d pre [] st' k' pre' ob rfl h hc).2 Q r
theorem aOt {hs:List (Nat×Hn)}{md nat:Bool}{kf:List Nat}{id:Nat}{Q:Exit→St→Prop}(hm:P.follows .mixedOrders=true) (hw:tr.wf=true) (q:Tok P tr.flat) (h:tG P tr md nat n ops.toList hs 1000 0 ops.toList st.e st.h st.d [] []=some (st',k',pre',ob)) (hc:gL ob)
  (h1:Nat.beq k' ops.size=true) (h2:(!draw || (cR (preds ops) pre'.reverse []&&dU ops))=true) (hq:Q .normal st'):AWp ro P n kf (.region id ops draw) st Q:=
 aC hm ((aAl hw q 1000 0 _ st.e st.h st.d [] [] st' k' pre' ob rfl h hc).2 _ (z_ h1 h2 hq))
end
theorem hs_all {h:c8}{id te es n:Nat}{l q:List (List C)}{fz:Nat}(h1:h id=some (.arr te es l fz)) (r:fz=2) (h2:n=l.length) (u:l=q):Conv h [id] (.one (.hs id 0 n n)) (.one (.c (.sl es q))):=by
 subst h2;subst u;subst r;exact .one (.hs h1 rfl (by rw[B8,Aw]) .nil)
section
variable {QP:Value→Prop}{P:Program}{n:Nat}{ops:Array Oper}{draw:Bool}{k d:Nat}{st:St}{pre:REs}{Q:St→Prop}{o:Oper}{f:FuncId}{xs:Array Operand}{ts:Array TypeId}{ids:List Nat}{args:List V}{res:V}{hin hout:List (Nat×AObj)}
theorem kc (A:bI P f args hin res hout)
  (B:iV QP P n ops draw (k+1) ⟨upd st.e d (some res),iB st.h (outs hout),st.d⟩ ((⟨bW xs.toList,ids++keys hin++keys hout⟩,⟨some (d,some res),outs hout⟩)::pre) Q)
  (hb:i7 P f:=by exact aJg (by kernel_rfl)) (ho:ops[k]?=some o:=by rfl) (E:o.guard=none:=by rfl) (u:o.op=.call { callee:=.value (.func f),args:=xs,argTypes:=ts }:=by rfl) (I:o.dst=some d:=by rfl) (y:Nat.blt d n=true:=by rfl)
  (ha:ArgsV st ids xs.toList args:=by repeat (first | exact .nil | (apply Go.AM.ArgsV.cons rfl;(first | exact .refl | exact .one (.c .nl .nil) | exact .one (.c .sn .nil) | exact .one (.hs rfl (by first | rfl | simp) (by first | rfl | (simp;done) | (simp[Go.AM.take_map];done) | exact Go.AM.take_map.symm) .nil) | exact Go.AM.hs_all rfl rfl (by first | rfl | assumption | (simp;done) | (simp;omega)) (by first | rfl | assumption | (simp;done)) | ((first | apply Go.AM.Conv.pa | apply Go.AM.Conv.agg);repeat (first | exact .nil | apply Go.AM.PureL.c .refl | apply Go.AM.PureL.c .nl | apply Go.AM.PureL.c .sn | (apply Go.AM.PureL.hs;rfl;(first | rfl | simp);(first | rfl | (simp;done) | (simp[Go.AM.take_map];done) | exact Go.AM.take_map.symm))))))))
  (r:gG (fun p=>st.h p.1=some p.2) hin:=by repeat (first | exact trivial | refine⟨rfl,?_⟩)) (q:gG (fun p=>p.1∈keys hin∨st.h p.1=none) hout:=by repeat (first | exact trivial | refine⟨.inr rfl,?_⟩ | refine⟨.inl (by decide),?_⟩ | refine⟨.inl (by repeat (first | exact List.Mem.head _ | apply List.Mem.tail)),?_⟩)) (hok:fC args hin=true:=by rfl):iV QP P n ops draw k st pre Q:=
 k_ (g_ ho E (aG5 hin hout hb u I (jH y) A ha r q hok)) B
theorem kv {x:Operand}{caps:List R}(A:bI P f (args++caps.map V.one) hin res hout)
  (B:iV QP P n ops draw (k+1) ⟨upd st.e d (some res),iB st.h (outs hout),st.d⟩ ((⟨opr x++bW xs.toList,ids++keys hin++keys hout⟩,⟨some (d,some res),outs hout⟩)::pre) Q)
  (hb:i7 P f:=by exact aJg (by kernel_rfl)) (ho:ops[k]?=some o:=by rfl) (E:o.guard=none:=by rfl) (u:o.op=.call { callee:=.value x,args:=xs,argTypes:=ts }:=by rfl) (I:o.dst=some d:=by rfl) (y:Nat.blt d n=true:=by rfl) (hx:opv st x=some (.one (.clo f caps)):=by rfl)
  (ha:ArgsV st ids xs.toList args:=by repeat (first | exact .nil | (apply Go.AM.ArgsV.cons rfl;(first | exact .refl | exact .one (.c .nl .nil) | exact .one (.c .sn .nil) | exact .one (.hs rfl (by first | rfl | simp) (by first | rfl | (simp;done) | (simp[Go.AM.take_map];done) | exact Go.AM.take_map.symm) .nil) | exact Go.AM.hs_all rfl rfl (by first | rfl | assumption | (simp;done) | (simp;omega)) (by first | rfl | assumption | (simp;done)) | ((first | apply Go.AM.Conv.pa | apply Go.AM.Conv.agg);repeat (first | exact .nil | apply Go.AM.PureL.c .refl | apply Go.AM.PureL.c .nl | apply Go.AM.PureL.c .sn | (apply Go.AM.PureL.hs;rfl;(first | rfl | simp);(first | rfl | (simp;done) | (simp[Go.AM.take_map];done) | exact Go.AM.take_map.symm))))))))
  (r:gG (fun p=>st.h p.1=some p.2) hin:=by repeat (first | exact trivial | refine⟨rfl,?_⟩)) (q:gG (fun p=>p.1∈keys hin∨st.h p.1=none) hout:=by repeat (first | exact trivial | refine⟨.inr rfl,?_⟩ | refine⟨.inl (by decide),?_⟩ | refine⟨.inl (by repeat (first | exact List.Mem.head _ | apply List.Mem.tail)),?_⟩)) (hok:fC (args++caps.map V.one) hin=true:=by rfl):iV QP P n ops draw k st pre Q:=
 k_ (g_ ho E (aG3 hin hout hb u I (jH y) hx A ha r q hok)) B
end
inductive Res where
 | leaf (st:St) (k:Nat) (pre:REs) (ob:List Prop)
 | fork (b:Bool) (x y:Res)
def Res.obs:Res→Prop
 | .leaf _ _ _ ob=>gL ob
 | .fork b x y=>(b=true→x.obs)∧(b=false→y.obs)
def Res.good (ops:Array Oper) (draw:Bool):Res→Bool
 | .leaf _ k pre _=>Nat.beq k ops.size&&(!draw || (cR (preds ops) pre.reverse []&&dU ops))
 | .fork _ x y=>x.good ops draw&&y.good ops draw
def Res.all (Q:St→Prop):Res→Prop
 | .leaf st _ _ _=>Q st
 | .fork b x y=>(b=true→x.all Q)∧(b=false→y.all Q)
def aP6:Nat→List Nat→Bool
 | _,[]=>false
 | i,x::l=>bif Nat.beq i x then true else aP6 i l
theorem aB1:∀{i:Nat}{l:List Nat},aP6 i l=true↔i∈l
 | i,[]=>by simp[aP6]
 | i,x::l=>by
  simp only[aP6];cases h:Nat.beq i x with
  | true=>have:=δ h;simp[this]
  | false=>
   have:i≠x:=fun e=>by subst e;simp at h
   simp[this,aB1]
def aUw (all:List Oper) (dec:List Nat) (o:Oper):Option Nat:=
 match (match o.guard with | some (j,_)=>(zY all j).bind fun t=>bif aP6 t dec then none else some t | none=>none) with
 | some t=>some t
 | none=>match o.op with
  | .pick (.tmp t) _ _=>bif aP6 t dec then none else some t
  | _=>none
def nR (P:Program) (tr:Tr) (md nat:Bool) (n:Nat) (all:List Oper) (hs:List (Nat×Hn)) (W:List Nat):Nat→Nat→List Oper→(Nat→Option V)→c8→List Nat→List Nat→REs→List Prop→Option Res
 | 0,_,_,_,_,_,_,_,_=>none
 | _+1,k,[],e,h,d,_,pre,ob=>some (.leaf ⟨e,h,d⟩ k pre ob)
 | m+1,k,o::os,e,h,d,dec,pre,ob=>match aUw all dec o with
  | some t=>match e t with
   | some (.one (.c (.bool b)))=>(nR P tr md nat n all hs W m k (o::os) (upd e t (some (.one (.c (.bool true))))) h d (t::dec) pre ob).bind fun x=>
     (nR P tr md nat n all hs W m k (o::os) (upd e t (some (.one (.c (.bool false))))) h d (t::dec) pre ob).bind fun y=>some (.fork b x y)
   | _=>nR P tr md nat n all hs W m k (o::os) e h d (t::dec) pre ob
  | none=>(axG P tr md nat n all hs k o ⟨e,h,d⟩ ob).bind fun(rd,f,ob1)=>match f with
   | ⟨some (t,v),[]⟩=>bif aP6 t W then nR P tr md nat n all hs W m (k+1) os (upd e t v) h d dec ((rd,⟨some (t,v),[]⟩)::pre) ob1 else none
   | _=>none
section
variable {QP:Value→Prop}{P:Program}{n:Nat}{tr:Tr}{md nat:Bool}
theorem aAx {e:Nat→Option V}{t:Nat}{x:Option V}(h:e t=x):upd e t x=e:=by
 funext i;simp only[upd];split
 ·rename_i hb;rw[δ hb,h]
 ·rfl
theorem aM0 {ops:Array Oper}{hs:List (Nat×Hn)}{W:List Nat}{draw:Bool}(hw:tr.wf=true) (E:Tok P tr.flat):∀(m k:Nat) (os:List Oper) (e:Nat→Option V) (h:c8) (d dec:List Nat) (pre:REs) (ob:List Prop) (res:Res),os=ops.toList.drop k→
  nR P tr md nat n ops.toList hs W m k os e h d dec pre ob=some res→res.obs→res.good ops draw=true→∀Q,res.all Q→gL ob∧iV QP P n ops draw k ⟨e,h,d⟩ pre Q:=by
 intro m
 induction m with
 | zero=>intro k os e h d dec pre ob res _ r;simp[nR] at r
 | succ m A=>
  intro k os e h d dec pre ob res u r ho q Q hq;cases os with
  | nil=>
   simp only[nR] at r;cases r;simp only[Res.good,Ab] at q;exact⟨ho,z_ q.1 q.2 hq⟩
  | cons o os=>
   have hok:ops[k]?=some o:=by
    have:(ops.toList.drop k)[0]?=some o:=by rw[←u];rfl
    simpa using this
   have B:os=ops.toList.drop (k+1):=by
    have:os=(ops.toList.drop k).tail:=by rw[←u];rfl
    rw[this,List.tail_drop]
   simp only[nR] at r;split at r
   ·rename_i t _;split at r
    ·rename_i b hb;rw[Ac] at r;obtain⟨x,hx,r⟩:=r;rw[Ac] at r;obtain⟨y,hy,r⟩:=r;cases r;simp only[Res.obs] at ho;simp only[Res.good,Ab] at q;simp only[Res.all] at hq;cases b with
     | true=>
      rw[aAx hb] at hx;exact A _ _ _ _ _ _ _ _ _ u hx (ho.1 rfl) q.1 Q (hq.1 rfl)
     | false=>
      rw[aAx hb] at hy;exact A _ _ _ _ _ _ _ _ _ u hy (ho.2 rfl) q.2 Q (hq.2 rfl)
    ·exact A _ _ _ _ _ _ _ _ _ u r ho q Q hq
   ·rw[Ac] at r;obtain⟨⟨rd,f,J⟩,h1,h2⟩:=r;dsimp only at h2;split at h2
    ·obtain⟨_,I⟩:=dE h2;obtain⟨g1,g2⟩:=A _ _ _ _ _ _ _ _ _ B I ho q Q hq;obtain⟨g3,g4⟩:=aOr hw E hok h1 g1;refine⟨g3,k_ g4 ?_⟩;simpa only[Eff.apply,aAy] using g2
    ·cases h2
def Res.keep (e0:Nat→Option V) (h0:c8) (d0:List Nat) (W:List Nat):Res→Prop
 | .leaf st _ _ _=>(∀t,t∉W→∀v,e0 t=some v→st.e t=some v)∧st.h=h0∧st.d=d0
 | .fork b x y=>(b=true→x.keep e0 h0 d0 W)∧(b=false→y.keep e0 h0 d0 W)
theorem aE8 {all:List Oper}{hs:List (Nat×Hn)}{W:List Nat}{e0:Nat→Option V}:∀(m k:Nat) (os:List Oper) (e:Nat→Option V) (h:c8) (d dec:List Nat) (pre:REs) (ob:List Prop) (res:Res),
  nR P tr md nat n all hs W m k os e h d dec pre ob=some res→(∀t,t∉W→∀v,e0 t=some v→e t=some v)→res.keep e0 h d W:=by
 intro m
 induction m with
 | zero=>intro k os e h d dec pre ob res q;simp[nR] at q
 | succ m r=>
  intro k os e h d dec pre ob res q he;cases os with
  | nil=>
   simp only[nR] at q;cases q;exact⟨he,rfl,rfl⟩
  | cons o os=>
   simp only[nR] at q;split at q
   ·rename_i t _;split at q
    ·rename_i b hb;rw[Ac] at q;obtain⟨x,hx,q⟩:=q;rw[Ac] at q;obtain⟨y,hy,q⟩:=q;cases q;refine⟨fun A=>?_,fun B=>?_⟩
     ·subst A;rw[aAx hb] at hx;exact r _ _ _ _ _ _ _ _ _ hx he
     ·subst B;rw[aAx hb] at hy;exact r _ _ _ _ _ _ _ _ _ hy he
    ·exact r _ _ _ _ _ _ _ _ _ q he
   ·rw[Ac] at q;obtain⟨⟨rd,f,J⟩,h1,h2⟩:=q;dsimp only at h2;split at h2
    ·obtain⟨hm,I⟩:=dE h2;refine r _ _ _ _ _ _ _ _ _ I fun s hs u hu=>?_
     have E:s≠_:=fun e=>hs (by rw[e];exact aB1.1 hm)
     rw[bJ _ _ _ E];exact he s hs u hu
    ·cases h2
def Res.boolAt (w:Nat):Res→Option Bool
 | .leaf st _ _ _=>match st.e w with
  | some (.one (.c (.bool x)))=>some x
  | _=>none
 | .fork b x y=>(x.boolAt w).bind fun p=>(y.boolAt w).bind fun q=>some (bif b then p else q)
theorem Res.boolAt_all {w:Nat}:∀{r:Res}{x:Bool},r.boolAt w=some x→r.all fun st=>st.e w=some (.one (.c (.bool x)))
 | .leaf st _ _ _,x,h=>by
  simp only[Res.boolAt] at h;split at h
  ·rename_i hx;cases h;exact hx
  ·cases h
 | .fork b p q,x,h=>by
  simp only[Res.boolAt,Ac] at h;obtain⟨u,hu,v,y,h⟩:=h;cases h;refine⟨fun hb=>?_,fun hb=>?_⟩
  ·subst hb;exact Res.boolAt_all hu
  ·subst hb;exact Res.boolAt_all y
def r6 (res:Res):List Nat→Option (List (Nat×Option V))
 | []=>some []
 | w::ws=>(r6 res ws).bind fun l=>match res.boolAt w with
  | some x=>some ((w,some (.one (.c (.bool x))))::l)
  | none=>some ((w,none)::l)
def mB (e:Nat→Option V):List (Nat×Option V)→Nat→Option V
 | [],t=>e t
 | (w,v)::l,t=>bif Nat.beq t w then v else mB e l t
theorem wT {res:Res}{e0:Nat→Option V}{t:Nat}:∀{W:List Nat}{L:List (Nat×Option V)},r6 res W=some L→mB e0 L t=if t∈W then(res.boolAt t).map (fun x=>V.one (.c (.bool x))) else e0 t
 | [],L,h=>by
  simp only[r6] at h;cases h;simp[mB]
 | w::ws,L,h=>by
  simp only[r6,Ac] at h;obtain⟨l,hl,h⟩:=h;have r:=wT (e0:=e0) (t:=t) hl;have u:L=(w,(res.boolAt w).map (fun x=>V.one (.c (.bool x))))::l:=by
   split at h
   ·rename_i x hx;cases h;rw[hx];rfl
   ·rename_i hx;cases h;rw[hx];rfl
  subst u;simp only[mB];by_cases q:t=w
  ·subst q;simp
  ·have hb:Nat.beq t w=false:=by
    cases hb:Nat.beq t w with
    | true=>exact absurd (δ hb) q
    | false=>rfl
   rw[hb,Bj,r];simp[q]
theorem Res.all_mono {Q Q':St→Prop}(h:∀st,Q st→Q' st):∀{r:Res},r.all Q→r.all Q'
 | .leaf st _ _ _,k=>h st k
 | .fork _ _ _,k=>⟨fun hb=>Res.all_mono h (k.1 hb),fun hb=>Res.all_mono h (k.2 hb)⟩
theorem Res.all_forall {α:Type}{Q:α→St→Prop}:∀{r:Res},(∀a,r.all (Q a))→r.all fun st=>∀a,Q a st
 | .leaf _ _ _ _,k=>fun a=>k a
 | .fork _ _ _,k=>⟨fun hb=>Res.all_forall fun a=>(k a).1 hb,fun hb=>Res.all_forall fun a=>(k a).2 hb⟩
theorem Res.all_and {Q Q':St→Prop}:∀{r:Res},r.all Q→r.all Q'→r.all fun st=>Q st∧Q' st
 | .leaf _ _ _ _,h,k=>⟨h,k⟩
 | .fork _ _ _,h,k=>⟨fun hb=>Res.all_and (h.1 hb) (k.1 hb),fun hb=>Res.all_and (h.2 hb) (k.2 hb)⟩
theorem Res.keep_at {e0:Nat→Option V}{h0:c8}{d0 W:List Nat}{t:Nat}{v:V}(ht:t∉W) (q:e0 t=some v):∀{r:Res},r.keep e0 h0 d0 W→r.all fun st=>st.e t=some v
 | .leaf _ _ _ _,k=>k.1 t ht v q
 | .fork _ _ _,k=>⟨fun hb=>Res.keep_at ht q (k.1 hb),fun hb=>Res.keep_at ht q (k.2 hb)⟩
theorem Res.keep_hd {e0:Nat→Option V}{h0:c8}{d0 W:List Nat}:∀{r:Res},r.keep e0 h0 d0 W→r.all fun st=>st.h=h0∧st.d=d0
 | .leaf _ _ _ _,k=>k.2
 | .fork _ _ _,k=>⟨fun hb=>Res.keep_hd (k.1 hb),fun hb=>Res.keep_hd (k.2 hb)⟩
theorem aLp {res:Res}{e0:Nat→Option V}{h0:c8}{d0 W:List Nat}{L:List (Nat×Option V)}(h:r6 res W=some L) (u:res.keep e0 h0 d0 W):res.all fun st=>(∀p:Nat×V,mB e0 L p.1=some p.2→st.e p.1=some p.2)∧(st.h=h0∧st.d=d0):=by
 refine Res.all_and (Res.all_forall fun p=>?_) (Res.keep_hd u);by_cases q:mB e0 L p.1=some p.2
 ·refine Res.all_mono (fun st h _=>h) (?_:res.all fun st=>st.e p.1=some p.2);rw[wT h] at q;by_cases ht:p.1∈W
  ·rw[ξ ht,Option.map_eq_some_iff] at q;obtain⟨x,hx,q⟩:=q;rw[←q];exact Res.boolAt_all hx
  ·rw[ζ ht] at q;exact Res.keep_at ht q u
 ·have:∀r:Res,r.all fun st=>mB e0 L p.1=some p.2→st.e p.1=some p.2:=by
   intro r
   induction r with
   | leaf st k pre ob=>exact fun h=>absurd h q
   | fork b x y A B=>exact⟨fun _=>A,fun _=>B⟩
  exact this res
theorem Sub.weak {kf:List Nat}{q st2:St}(he:∀p:Nat×V,st2.e p.1=some p.2→q.e p.1=some p.2) (hh:q.h=st2.h) (r:q.d=st2.d):Sub kf st2 q:=by
 intro G n S μ a w _ hs;refine⟨S,μ,⟨?_,hs.size,?_,fun t v e=>?_⟩⟩
 ·rw[←hh];exact hs.inv
 ·rw[←hh,←r];exact hs.defers
 ·rw[←hh];exact hs.env t v (he (t,v) e)
def aSs:List Oper→List Nat
 | []=>[]
 | o::os=>match o.dst with
  | some t=>t::aSs os
  | none=>aSs os
theorem aSc {ro:Option Nat}{ops:Array Oper}{draw:Bool}{st:St}{u:Nat→Option V}{h1:c8}{d1:List Nat}{r:Nat}{q:REs}{y:List Prop}{res:Res}{L:List (Nat×Option V)}{hs:List (Nat×Hn)}{kf:List Nat}{id:Nat}{Q:Exit→St→Prop}(m:Nat) (hm:P.follows .mixedOrders=true) (hw:tr.wf=true) (E:Tok P tr.flat)
  (g1:tG P tr md nat n ops.toList hs m 0 ops.toList st.e st.h st.d [] []=some (⟨u,h1,d1⟩,r,q,y))
  (g2:nR P tr md nat n ops.toList hs (aSs (ops.toList.drop r)) 1000 r (ops.toList.drop r) u h1 d1 [] q y=some res)
  (g3:r6 res (aSs (ops.toList.drop r))=some L) (ho:res.obs) (M:res.good ops draw=true) (hq:Q .normal ⟨mB u L,h1,d1⟩):AWp ro P n kf (.region id ops draw) st Q:=by
 have O:=aE8 (P:=P) (tr:=tr) (md:=md) (nat:=nat) (n:=n) (e0:=u) _ _ _ _ _ _ _ _ _ _ g2 (fun _ _ _ h=>h);have I:=aLp g3 O;have A:res.all fun st'=>Sub kf ⟨mB u L,h1,d1⟩ st':=Res.all_mono (fun st h=>Sub.weak h.1 h.2.1 h.2.2) I
 obtain⟨J,B⟩:=aM0 (draw:=draw) hw E _ _ _ _ _ _ _ _ _ _ rfl g2 ho M _ A;exact aSb _ hm ((aAl hw E m 0 _ st.e st.h st.d [] [] _ r q y rfl g1 J).2 _ B) hq
end
end Go.AM
