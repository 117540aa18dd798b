/-
  Texts Am23 to Am26 in one.
-/
import Derived.Test.YtkhgpgihmphfdaaGreatM4
import Derived.KernelRfl
open List (drop_zero map_cons take_length)
open Nat (eq_of_beq_eq_true le_of_ble_eq_true zero_add)
namespace Go.AM
open Go
def frc {α:Type}:List α→Option (List α)
 | []=>some []
 | x::xs=>(frc xs).bind fun l=>some (x::l)
theorem jE {α:Type}:∀l:List α,frc l=some l
 | []=>rfl
 | x::xs=>by simp[frc,jE xs]
def tak {α:Type}:Nat→List α→Option (List α)
 | 0,_=>some []
 | _+1,[]=>none
 | k+1,x::xs=>(tak k xs).bind fun l=>some (x::l)
theorem oS {α:Type}:∀{k:Nat}{l r:List α},tak k l=some r→k≤l.length∧l.take k=r
 | 0,l,r,h=>by simp[tak] at h;simp[h]
 | k+1,[],r,h=>by simp[tak] at h
 | k+1,x::xs,r,h=>by
  simp only[tak,Ab] at h;obtain⟨l,h1,h2⟩:=h;cases h2;obtain⟨q,g⟩:=oS h1;exact⟨by simp;omega,by simp[g]⟩
inductive Tr where
 | leaf (o:Option TI)
 | node (k:Nat) (l r:Tr)
def Tr.get:Tr→Nat→Option TI
 | .leaf o,t=>bif Nat.beq t 0 then o else none
 | .node k l r,t=>bif Nat.blt t k then l.get t else r.get (t-k)
def Tr.flat:Tr→TT
 | .leaf o=>[o]
 | .node _ l r=>l.flat++r.flat
def Tr.wf:Tr→Bool
 | .leaf _=>true
 | .node k l r=>Nat.beq k l.flat.length&&(l.wf&&r.wf)
theorem Tr.get_ok:∀{tr:Tr}{t:Nat}{i:TI},tr.wf=true→tr.get t=some i→tr.flat[t]?=some (some i)
 | .leaf o,t,i,_,h=>by
  simp only[Tr.get] at h;cases hb:Nat.beq t 0 with
  | false=>rw[hb] at h;cases h
  | true=>
   rw[hb] at h;have:=δ hb;subst this;simp only[Bk] at h;simp[Tr.flat,h]
 | .node k l r,t,i,hw,h=>by
  simp only[Tr.wf,ε] at hw;have q:=δ hw.1;simp only[Tr.get] at h;simp only[Tr.flat,B6];cases hb:Nat.blt t k with
  | true=>
   rw[hb] at h;have:t<k:=Am hb;rw[θ (by omega)];exact Tr.get_ok hw.2.1 h
  | false=>
   rw[hb] at h;have:¬t<k:=fun g=>by
    have:Nat.blt t k=true:=Nat.ble_eq_true_of_le g;rw[hb] at this;cases this
   rw[ξ (by omega),←q];exact Tr.get_ok hw.2.2 h
def fX:List Prop→Prop
 | []=>True
 | p::l=>p∧fX l
def need (md:Bool) (p:Prop) [Decidable p] (ob:List Prop):Option (List Prop):=bif md then some (p::ob) else bif decide p then some ob else none
theorem aU {md:Bool}{p:Prop} [Decidable p] {ob g:List Prop}(h:need md p ob=some g):fX g→fX ob∧p:=by
 unfold need at h;cases md with
 | true=>cases h;exact fun h=>⟨h.2,h.1⟩
 | false=>
  simp only[Bi] at h;cases hp:decide p with
  | false=>rw[hp] at h;cases h
  | true=>rw[hp] at h;cases h;exact fun h=>⟨h,κ hp⟩
inductive Hn where
 | no
 | id (n:Nat)
 | bv (b:Bool)
 | row (k:Nat) (r:List C)
 | all
 | look (r:Option (List C))
 | c (rows:List (List C))
 | byte (k:Nat) (b:UInt8)
 | pc (res:V)
 | fz
 | rr (r:List R)
 | rowR (k:Nat) (r:List R)
def aJ8:List (Nat×Hn)→Nat→Hn
 | [],_=>.no
 | (k,h)::l,i=>bif Nat.beq i k then h else aJ8 l i
abbrev Ans:=Option (Rd×Eff×List Prop)
def Snd (P:Program) (n:Nat) (o:Oper) (st:St) (ob:List Prop) (r:Ans):Prop:=∀rd f ob',r=some (rd,f,ob')→fX ob'→fX ob∧Step P n o st rd f
def val (o:Oper) (n:Nat) (rd:Rd) (v:V) (h:List (Nat×Option AObj)) (ob:List Prop):Ans:=
 match o.dst with
 | some d=>bif Nat.blt d n then some (rd,⟨some (d,some v),h⟩,ob) else none
 | none=>none
def eff (o:Oper) (rd:Rd) (h:List (Nat×Option AObj)) (ob:List Prop):Ans:=
 match o.dst with
 | none=>some (rd,⟨none,h⟩,ob)
 | some _=>none
def opO (st:St):Operand→Option V
 | .tmp t=>st.e t
 | .const v=>match v with
  | .int k n=>some (.one (.c (.int k n)))
  | .bool b=>some (.one (.c (.bool b)))
  | .string ⟨⟨l⟩⟩=>some (.one (.c (.str l)))
  | .slice none 0 0=>some (.one (.c .nl))
  | .pointer none=>some (.one (.c .np))
  | .map none=>some (.one (.c (.zv 0)))
  | .nilFunc=>some (.one (.c (.zv 1)))
  | .nilIface=>some (.one (.c (.zv 2)))
  | .agg ⟨vs⟩=>(vT vs).bind fun cs=>some (.pa cs)
  | _=>none
 | .func f=>some (.one (.clo f []))
 | .global _=>none
theorem bW (st:St) (x:Operand):opO st x=opv st x:=by
 cases x with
 | const v=>
  cases v with
  | string s=>obtain⟨⟨l⟩⟩:=s;rfl
  | slice a l c=>
   cases a with
   | some _=>rfl
   | none=>
    cases l with
    | zero=>cases c<;>rfl
    | succ _=>rfl
  | pointer p=>cases p<;>rfl
  | map m=>cases m<;>rfl
  | _=>rfl
 | _=>rfl
def aU5 (rs:List R):Option V:=match gT rs with | some l=>some (.pa l) | none=>some (.ma rs)
theorem aIg (rs:List R):aU5 rs=some (aRh rs):=by
 unfold aU5 aRh;cases gT rs<;>rfl
def aCm (i:TI) (rs:List R):Option V:=bif i.k.agg then aU5 rs else match rs with | [r]=>some (.one r) | _=>none
theorem oH (i:TI) (rs:List R):aCm i rs=iU i rs:=by
 unfold aCm iU;cases i.k.agg
 ·rfl
 ·exact aIg rs
def aAk (i:TI) (l:List C):Option V:=bif i.k.agg then some (.pa l) else match l with | [c]=>some (.one (.c c)) | _=>none
theorem v5 (i:TI) (l:List C):aAk i l=aCn i l:=by
 unfold aAk aCn;cases i.k.agg<;>rfl
def nV (v:V):Option (List R):=(fO v).bind frc
theorem gL (v:V):nV v=fO v:=by
 unfold nV;cases fO v with
 | none=>rfl
 | some l=>simp[jE]
theorem cZ {α:Type}{b:Bool}{x:Option α}{y:α}(h:(bif b then x else none)=some y):b=true∧x=some y:=by
 cases b
 ·cases h
 ·exact⟨rfl,h⟩
theorem eC {d n:Nat}(h:Nat.blt d n=true):d<n:=Am h
theorem aRm {o:Oper}{n:Nat}{rd g:Rd}{v:V}{h:List (Nat×Option AObj)}{ob q:List Prop}{f:Eff}(e:val o n rd v h ob=some (g,f,q)):∃d,o.dst=some d∧d<n∧g=rd∧f=⟨some (d,some v),h⟩∧q=ob:=by
 unfold val at e;split at e
 ·rename_i d u;obtain⟨h1,h2⟩:=cZ e;cases h2;exact⟨d,u,eC h1,rfl,rfl,rfl⟩
 ·cases e
theorem aS8 {o:Oper}{rd g:Rd}{h:List (Nat×Option AObj)}{ob q:List Prop}{f:Eff}(e:eff o rd h ob=some (g,f,q)):o.dst=none∧g=rd∧f=⟨none,h⟩∧q=ob:=by
 unfold eff at e;split at e
 ·rename_i u;cases e;exact⟨u,rfl,rfl,rfl⟩
 ·cases e
theorem Snd.val {P:Program}{n:Nat}{o:Oper}{st:St}{ob g:List Prop}{rd:Rd}{v:V}{h:List (Nat×Option AObj)}(q:∀d,o.dst=some d→d<n→fX g→fX ob∧Step P n o st rd ⟨some (d,some v),h⟩):Snd P n o st ob (Go.AM.val o n rd v h g):=by
 intro y f u e hc;obtain⟨d,h1,h2,rfl,rfl,rfl⟩:=aRm e;exact q d h1 h2 hc
theorem Snd.eff {P:Program}{n:Nat}{o:Oper}{st:St}{ob g:List Prop}{rd:Rd}{h:List (Nat×Option AObj)}(q:o.dst=none→fX g→fX ob∧Step P n o st rd ⟨none,h⟩):Snd P n o st ob (Go.AM.eff o rd h g):=by
 intro y f u e hc;obtain⟨h1,rfl,rfl,rfl⟩:=aS8 e;exact q h1 hc
theorem Snd.none {P:Program}{n:Nat}{o:Oper}{st:St}{ob:List Prop}:Snd P n o st ob none:=by
 intro rd f g e;cases e
theorem Snd.bind {P:Program}{n:Nat}{o:Oper}{st:St}{ob:List Prop}{α:Type}{x:Option α}{k:α→Ans}(h:∀y,x=some y→Snd P n o st ob (k y)):Snd P n o st ob (x.bind k):=by
 intro rd f g e;rw[Ab] at e;obtain⟨y,h1,h2⟩:=e;exact h y h1 rd f g h2
theorem Snd.cond {P:Program}{n:Nat}{o:Oper}{st:St}{ob:List Prop}{b:Bool}{r:Ans}(h:b=true→Snd P n o st ob r):Snd P n o st ob (bif b then r else Option.none):=by
 cases b
 ·exact Snd.none
 ·exact h rfl
section
variable {P:Program}{n:Nat}{o:Oper}{st:St}{ob:List Prop}{tr:Tr}{md:Bool}
def aBn (o:Oper) (n:Nat) (st:St) (ob:List Prop) (x:Operand):Ans:=(opO st x).bind fun y=>val o n ⟨opr x,[]⟩ y [] ob
theorem aHw {x:Operand}(ho:o.op=.move x):Snd P n o st ob (aBn o n st ob x):=
 Snd.bind fun y hy=>Snd.val fun _ q g hc=>⟨hc,aEs ho q g (by rw[←bW];exact hy)⟩
theorem yN {x:Operand}(ho:o.op=.assign x):Snd P n o st ob (aBn o n st ob x):=
 Snd.bind fun y hy=>Snd.val fun _ q g hc=>⟨hc,aJs ho q g (by rw[←bW];exact hy)⟩
def aI1 (hn:Hn) (b:Bool) (ob:List Prop):Bool×List Prop:=match hn with
 | .bv w=>(w,(b=w)::ob)
 | _=>match b with
  | true=>(true,ob)
  | false=>(false,ob)
theorem oB {hn:Hn}{b w:Bool}{ob g:List Prop}(h:aI1 hn b ob=(w,g)):fX g→fX ob∧b=w:=by
 unfold aI1 at h;split at h
 ·cases h;exact fun h=>⟨h.2,h.1⟩
 ·cases b<;>(cases h;exact fun h=>⟨h,rfl⟩)
def aNg (o:Oper) (n:Nat) (st:St) (ob:List Prop) (hn:Hn) (c x y:Operand):Ans:=(opO st c).bind fun v=>match v with
 | .one (.c (.bool b))=>match aI1 hn b ob with
  | (true,ob')=>(opO st x).bind fun z=>val o n ⟨opr c++opr x,[]⟩ z [] ob'
  | (false,ob')=>(opO st y).bind fun z=>val o n ⟨opr c++opr y,[]⟩ z [] ob'
 | _=>none
theorem aHu {hn:Hn}{c x y:Operand}(ho:o.op=.pick c x y):Snd P n o st ob (aNg o n st ob hn c x y):=by
 refine Snd.bind fun v u=>?_
 rw[bW] at u;split
 ·rename_i b;split
  ·rename_i E A;refine Snd.bind fun z g=>Snd.val fun _ B q hc=>?_
   rw[bW] at g;obtain⟨h1,h2⟩:=oB A hc;exact⟨h1,aJk ho B q u h2 g⟩
  ·rename_i E A;refine Snd.bind fun z g=>Snd.val fun _ B q hc=>?_
   rw[bW] at g;obtain⟨h1,h2⟩:=oB A hc;exact⟨h1,aJl ho B q u h2 g⟩
 ·exact Snd.none
def wQ (o:Oper) (n:Nat) (st:St) (ob:List Prop) (x:Operand) (i:Nat):Ans:=(opO st x).bind fun v=>match v with
 | .tup l=>(l[i]?).bind fun z=>val o n ⟨opr x,[]⟩ z [] ob
 | _=>none
theorem wP {x:Operand}{i:Nat}(ho:o.op=.extract x i):Snd P n o st ob (wQ o n st ob x i):=by
 refine Snd.bind fun v g=>?_
 rw[bW] at g;split
 ·exact Snd.bind fun z u=>Snd.val fun _ y q hc=>⟨hc,aE1 ho y q g u⟩
 ·exact Snd.none
def aH6 (tr:Tr) (o:Oper) (n:Nat) (st:St) (ob:List Prop) (id:Nat) (t:TypeId):Ans:=(tr.get t).bind fun i=>(frc (i.zero.map R.c)).bind fun z=>match st.h id with
 | none=>val o n ⟨[],[id]⟩ (.one (.vp id 0)) [(id,some (.var t z))] ob
 | some _=>none
theorem aDi {id:Nat}{t:TypeId}(hw:tr.wf=true) (y:Tok P tr.flat) (ho:o.op=.alloc t):Snd P n o st ob (aH6 tr o n st ob id t):=by
 refine Snd.bind fun i hi=>Snd.bind fun z g=>?_
 rw[jE] at g;cases g;split
 ·rename_i q;exact Snd.val fun _ A u hc=>⟨hc,aOg id y ho A u (Tr.get_ok hw hi) q⟩
 ·exact Snd.none
def aUk (o:Oper) (n:Nat) (st:St) (ob:List Prop) (id:Nat) (t:TypeId) (x:Operand):Ans:=(opO st x).bind fun v=>(nV v).bind fun rs=>match st.h id with
 | none=>val o n ⟨opr x,[id]⟩ (.one (.vp id 0)) [(id,some (.var t rs))] ob
 | some _=>none
theorem aLx {id:Nat}{t:TypeId}{x:Operand}(ho:o.op=.box t x):Snd P n o st ob (aUk o n st ob id t x):=by
 refine Snd.bind fun v q=>Snd.bind fun rs g=>?_
 rw[bW] at q;rw[gL] at g;split
 ·rename_i u;exact Snd.val fun _ A y hc=>⟨hc,aVu id ho A y q g u⟩
 ·exact Snd.none
def aQq (tr:Tr) (o:Oper) (n:Nat) (st:St) (ob:List Prop) (id:Nat) (t:TypeId) (r:Option Operand):Ans:=match r with
 | some _=>none
 | none=>(tr.get t).bind fun i=>match i.k with
  | .mp _ e=>(tr.get e).bind fun ei=>match st.h id with
   | none=>val o n ⟨[],[id]⟩ (.one (.mr id)) [(id,some (.map ei.k.agg []))] ob
   | some _=>none
  | _=>none
theorem aLt {id:Nat}{t:TypeId}{r:Option Operand}(ho:o.op=.makeMap t r):Snd P n o st ob (aQq tr o n st ob id t r):=by
 unfold aQq;split
 ·exact Snd.none
 ·refine Snd.bind fun i hi=>?_
  split
  ·refine Snd.bind fun A y=>?_
   split
   ·rename_i g;exact Snd.val fun _ u q hc=>⟨hc,aEt id _ ho u q g⟩
   ·exact Snd.none
  ·exact Snd.none
def aRt (hn:Hn) (elems:List (List C)) (k:Nat) (ob:List Prop):Option (List C×List Prop):=match hn with
 | .row _ r=>some (r,(elems[k]?=some r)::ob)
 | _=>match elems[k]? with
  | some r=>some (r,ob)
  | none=>none
theorem xI {hn:Hn}{elems:List (List C)}{k:Nat}{ob g:List Prop}{r:List C}(h:aRt hn elems k ob=some (r,g)):fX g→fX ob∧elems[k]?=some r:=by
 unfold aRt at h;split at h
 ·cases h;exact fun h=>⟨h.2,h.1⟩
 ·split at h
  ·rename_i h1;cases h;exact fun h=>⟨h,h1⟩
  ·cases h
def aJg (hn:Hn) (elems:List (List R)) (k:Nat) (ob:List Prop):Option (List R×List Prop):=match hn with
 | .rr r=>some (r,(elems[k]?=some r)::ob)
 | _=>match elems[k]? with
  | some r=>some (r,ob)
  | none=>none
theorem zQ {hn:Hn}{elems:List (List R)}{k:Nat}{ob g:List Prop}{r:List R}(h:aJg hn elems k ob=some (r,g)):fX g→fX ob∧elems[k]?=some r:=by
 unfold aJg at h;split at h
 ·cases h;exact fun h=>⟨h.2,h.1⟩
 ·split at h
  ·rename_i h1;cases h;exact fun h=>⟨h,h1⟩
  ·cases h
def aNh (tr:Tr) (md:Bool) (o:Oper) (n:Nat) (st:St) (ob:List Prop) (hn:Hn) (t:TypeId) (x:Operand):Ans:=(tr.get t).bind fun i=>(opO st x).bind fun v=>match v with
 | .one (.vp id off)=>match st.h id with
  | some (.var _ cells)=>bif Nat.ble (off+i.size) cells.length then(tak i.size (cells.drop off)).bind fun rs=>(aCm i rs).bind fun y=>val o n ⟨opr x,[id]⟩ y [] ob else none
  | _=>none
 | .one (.c (.pt l))=>(tak i.size l).bind fun cs=>(aAk i cs).bind fun y=>val o n ⟨opr x,[]⟩ y [] ob
 | .one (.pas l)=>(tak i.size l).bind fun cs=>(aCm i cs).bind fun y=>val o n ⟨opr x,[]⟩ y [] ob
 | .one (.ep id k fo sz)=>match st.h id with
  | some (.arr _ es elems _)=>(need md (sz=elems.length) ob).bind fun ob1=>(aRt hn elems k ob1).bind fun(r,ob2)=>
   bif Nat.ble (fo+i.size) es then(tak i.size (r.drop fo)).bind fun cs=>(aAk i cs).bind fun y=>val o n ⟨opr x,[id]⟩ y [] ob2 else none
  | _=>none
 | .one (.rp id k fo sz)=>match st.h id with
  | some (.rarr _ es elems)=>(need md (sz=elems.length) ob).bind fun ob1=>(aJg hn elems k ob1).bind fun(r,ob2)=>
   bif Nat.ble (fo+i.size) es then(tak i.size (r.drop fo)).bind fun cs=>(aCm i cs).bind fun y=>val o n ⟨opr x,[id]⟩ y [] ob2 else none
  | _=>none
 | _=>none
theorem aHx {hn:Hn}{t:TypeId}{x:Operand}(hw:tr.wf=true) (B:Tok P tr.flat) (ho:o.op=.load t x):Snd P n o st ob (aNh tr md o n st ob hn t x):=by
 refine Snd.bind fun i hi=>Snd.bind fun v A=>?_
 rw[bW] at A
 replace hi:=Tr.get_ok hw hi
 split
 ·rename_i id off;split
  ·rename_i tv cells hh;refine Snd.cond fun hb=>Snd.bind fun rs Y=>Snd.bind fun y hy=>Snd.val fun _ u g hc=>⟨hc,?_⟩
   obtain⟨h1,h2⟩:=oS Y;rw[oH,←h2] at hy;exact aR8 B ho u g hi A hh hb hy
  ·exact Snd.none
 ·rename_i l;refine Snd.bind fun cs q=>Snd.bind fun y hy=>Snd.val fun _ u g hc=>⟨hc,?_⟩
  obtain⟨h1,h2⟩:=oS q;rw[v5,←h2] at hy;exact aEw B ho u g hi A h1 hy
 ·rename_i l;refine Snd.bind fun cs q=>Snd.bind fun y hy=>Snd.val fun _ u g hc=>⟨hc,?_⟩
  obtain⟨h1,h2⟩:=oS q;rw[oH,←h2] at hy;exact aCa B ho u g hi A h1 hy
 ·rename_i id k fo sz;split
  ·rename_i te es elems fz hh;refine Snd.bind fun aa h1=>Snd.bind fun p h2=>?_
   obtain⟨r,ab⟩:=p;refine Snd.cond fun E=>Snd.bind fun cs q=>Snd.bind fun y hy=>Snd.val fun _ u g hc=>?_
   obtain⟨I,J⟩:=xI h2 hc;obtain⟨M,O⟩:=aU h1 I;obtain⟨h4,U⟩:=oS q;rw[v5,←U] at hy;exact⟨M,aEx B ho u g hi A hh O J (Am E) hy⟩
  ·exact Snd.none
 ·rename_i id k fo sz;split
  ·rename_i te es elems hh;refine Snd.bind fun aa h1=>Snd.bind fun p h2=>?_
   obtain⟨r,ab⟩:=p;refine Snd.cond fun E=>Snd.bind fun cs q=>Snd.bind fun y hy=>Snd.val fun _ u g hc=>?_
   obtain⟨I,J⟩:=zQ h2 hc;obtain⟨M,O⟩:=aU h1 I;obtain⟨h4,U⟩:=oS q;rw[oH,←U] at hy;exact⟨M,aEv B ho u g hi A hh O J (Am E) hy⟩
  ·exact Snd.none
 ·exact Snd.none
def aQ6 {α:Type}(l:List α) (off:Nat) (new:List α):Option (List α):=frc (bQ l off new)
def aHr (tr:Tr) (md:Bool) (o:Oper) (st:St) (ob:List Prop) (hn:Hn) (t:TypeId) (x y:Operand):Ans:=(tr.get t).bind fun i=>(opO st x).bind fun v=>(opO st y).bind fun u=>(nV u).bind fun rs=>bif Nat.beq rs.length i.size then(match v with
 | .one (.vp id off)=>match st.h id with
  | some (.var tv cells)=>bif Nat.ble (off+i.size) cells.length then(aQ6 cells off rs).bind fun cs=>eff o ⟨opr x++opr y,[id]⟩ [(id,some (.var tv cs))] ob else none
  | _=>none
 | .one (.ep id k fo sz)=>match st.h id with
  | some (.arr te es elems 0)=>(gT rs).bind fun cs=>(need md (sz=elems.length) ob).bind fun ob1=>(aRt hn elems k ob1).bind fun(r,ob2)=>
   bif Nat.ble (fo+i.size) es then(aQ6 r fo cs).bind fun r'=>eff o ⟨opr x++opr y,[id]⟩ [(id,some (.arr te es (elems.set k r') 0))] ob2 else none
  | _=>none
 | .one (.rp id k fo sz)=>match st.h id with
  | some (.rarr te es elems)=>(need md (sz=elems.length) ob).bind fun ob1=>(aJg hn elems k ob1).bind fun(r,ob2)=>
   bif Nat.ble (fo+i.size) es then(aQ6 r fo rs).bind fun r'=>eff o ⟨opr x++opr y,[id]⟩ [(id,some (.rarr te es (elems.set k r')))] ob2 else none
  | _=>none
 | _=>none) else none
theorem aDc {hn:Hn}{t:TypeId}{x y:Operand}(hw:tr.wf=true) (J:Tok P tr.flat) (ho:o.op=.store t x y):Snd P n o st ob (aHr tr md o st ob hn t x y):=by
 refine Snd.bind fun i hi=>Snd.bind fun v I=>Snd.bind fun u hu=>Snd.bind fun rs A=>Snd.cond fun hl=>?_
 rw[bW] at I hu;rw[gL] at A
 replace hi:=Tr.get_ok hw hi
 have B:=δ hl;split
 ·rename_i id off;split
  ·rename_i tv cells hh;refine Snd.cond fun hb=>Snd.bind fun cs q=>Snd.eff fun E hc=>⟨hc,?_⟩
   unfold aQ6 at q;rw[jE] at q;cases q;exact aN8 J ho E hi I hu A hh B hb
  ·exact Snd.none
 ·rename_i id k fo sz;split
  ·rename_i te es elems hh;refine Snd.bind fun cs q=>Snd.bind fun ob1 h1=>Snd.bind fun p h2=>?_
   obtain⟨r,ob2⟩:=p;refine Snd.cond fun M=>Snd.bind fun r' g=>Snd.eff fun E hc=>?_
   obtain⟨O,U⟩:=xI h2 hc;obtain⟨Y,g4⟩:=aU h1 O;unfold aQ6 at g;rw[jE] at g;cases g;refine⟨Y,aB8 J ho E hi I hu A q hh g4 U ?_ (Am M)⟩;have:=lZ q;rw[this] at B;simpa using B
  ·exact Snd.none
 ·rename_i id k fo sz;split
  ·rename_i te es elems hh;refine Snd.bind fun ob1 h1=>Snd.bind fun p h2=>?_
   obtain⟨r,ob2⟩:=p;refine Snd.cond fun M=>Snd.bind fun r' g=>Snd.eff fun E hc=>?_
   obtain⟨O,U⟩:=zQ h2 hc;obtain⟨Y,g4⟩:=aU h1 O;unfold aQ6 at g;rw[jE] at g;cases g;exact⟨Y,aB7 J ho E hi I hu A hh g4 U B (Am M)⟩
  ·exact Snd.none
 ·exact Snd.none
def pY (tr:Tr) (md:Bool) (o:Oper) (n:Nat) (st:St) (ob:List Prop) (t:TypeId) (x:Operand) (f:Nat):Ans:=(tr.get t).bind fun i=>match i.k with
 | .st fs=>(fs[f]?).bind fun(foff,ft)=>(tr.get ft).bind fun fi=>bif Nat.ble 1 fi.size then((opO st x).bind fun v=>match v with
  | .one (.vp id off)=>val o n ⟨opr x,[]⟩ (.one (.vp id (off+foff))) [] ob
  | .one (.c (.pt l))=>val o n ⟨opr x,[]⟩ (.one (.c (.pt (l.drop foff)))) [] ob
  | .one (.pas l)=>val o n ⟨opr x,[]⟩ (.one (.pas (l.drop foff))) [] ob
  | .one (.ep id k fo sz)=>match st.h id with
   | some (.arr _ _ elems _)=>(need md (sz=elems.length) ob).bind fun ob1=>val o n ⟨opr x,[id]⟩ (.one (.ep id k (fo+foff) sz)) [] ob1
   | _=>none
  | .one (.rp id k fo sz)=>match st.h id with
   | some (.rarr _ _ elems)=>(need md (sz=elems.length) ob).bind fun ob1=>val o n ⟨opr x,[id]⟩ (.one (.rp id k (fo+foff) sz)) [] ob1
   | _=>none
  | _=>none) else none
 | _=>none
theorem qN {t:TypeId}{x:Operand}{f:Nat}(hw:tr.wf=true) (B:Tok P tr.flat) (ho:o.op=.fieldAddr t x f):Snd P n o st ob (pY tr md o n st ob t x f):=by
 refine Snd.bind fun i hi=>?_
 replace hi:=Tr.get_ok hw hi
 split
 ·rename_i fs E;refine Snd.bind fun p I=>?_
  obtain⟨M,Y⟩:=p;refine Snd.bind fun O q=>Snd.cond fun U=>Snd.bind fun v A=>?_
  replace q:=Tr.get_ok hw q
  have y:O.size≠0:=by have:=Am U;omega
  rw[bW] at A;split
  ·exact Snd.val fun _ u g hc=>⟨hc,aCd B ho u g hi E I q y A⟩
  ·exact Snd.val fun _ u g hc=>⟨hc,aCf B ho u g hi E I q y A⟩
  ·exact Snd.val fun _ u g hc=>⟨hc,xM B ho u g hi E I q y A⟩
  ·split
   ·rename_i hh;exact Snd.bind fun J h1=>Snd.val fun _ u g hc=>⟨(aU h1 hc).1,aCg B ho u g hi E I q y A hh (aU h1 hc).2⟩
   ·exact Snd.none
  ·split
   ·rename_i hh;exact Snd.bind fun J h1=>Snd.val fun _ u g hc=>⟨(aU h1 hc).1,aCe B ho u g hi E I q y A hh (aU h1 hc).2⟩
   ·exact Snd.none
  ·exact Snd.none
 ·exact Snd.none
def aH1 (tr:Tr) (o:Oper) (n:Nat) (st:St) (ob:List Prop) (t:TypeId) (x:Operand) (f:Nat):Ans:=(tr.get t).bind fun i=>match i.k with
 | .st fs=>(fs[f]?).bind fun(foff,ft)=>(tr.get ft).bind fun fi=>(opO st x).bind fun v=>(nV v).bind fun rs=>
  bif (match v with | .pa _=>true | .ma _=>true | _=>false) then bif Nat.ble (foff+fi.size) rs.length then(tak fi.size (rs.drop foff)).bind fun l=>(aCm fi l).bind fun y=>val o n ⟨opr x,[]⟩ y [] ob else none else none
 | _=>none
theorem aDg {t:TypeId}{x:Operand}{f:Nat}(hw:tr.wf=true) (I:Tok P tr.flat) (ho:o.op=.field t x f):Snd P n o st ob (aH1 tr o n st ob t x f):=by
 refine Snd.bind fun i hi=>?_
 replace hi:=Tr.get_ok hw hi
 split
 ·rename_i fs J;refine Snd.bind fun p M=>?_
  obtain⟨O,Y⟩:=p;refine Snd.bind fun fi g=>Snd.bind fun v u=>Snd.bind fun rs q=>Snd.cond fun A=>Snd.cond fun hl=>Snd.bind fun l B=>Snd.bind fun y hy=>?_
  replace g:=Tr.get_ok hw g
  rw[bW] at u;rw[gL] at q;rw[oH,←(oS B).2] at hy;exact Snd.val fun _ U E hc=>⟨hc,aOc I ho U E hi J M g u (by cases v<;>first | rfl | exact A) q hl hy⟩
 ·exact Snd.none
def atO (hn:Hn) (m:Int) (ob:List Prop):Option (Nat×List Prop):=match hn with
 | .row k _=>some (k,(m=(k:Int))::ob)
 | .rowR k _=>some (k,(m=(k:Int))::ob)
 | _=>match m with
  | .ofNat k=>some (k,ob)
  | .negSucc _=>none
theorem rH {hn:Hn}{m:Int}{k:Nat}{ob g:List Prop}(h:atO hn m ob=some (k,g)):fX g→fX ob∧m=(k:Int):=by
 unfold atO at h;split at h
 ·cases h;exact fun h=>⟨h.2,h.1⟩
 ·cases h;exact fun h=>⟨h.2,h.1⟩
 ·split at h
  ·cases h;exact fun h=>⟨h,rfl⟩
  ·cases h
def aU6 (a b:Nat):Option Nat:=match a with
 | 0=>some b
 | a+1=>some (a+1+b)
theorem aIh {a b c:Nat}(h:aU6 a b=some c):a+b=c:=by
 unfold aU6 at h;split at h<;>cases h
 ·exact Ba _
 ·rfl
def pX (tr:Tr) (md:Bool) (o:Oper) (n:Nat) (st:St) (ob:List Prop) (hn:Hn) (t:TypeId) (x y:Operand):Ans:=(tr.get t).bind fun i=>match i.k with
 | .sl e=>(tr.get e).bind fun ei=>(opO st x).bind fun v=>(opO st y).bind fun u=>match u with
  | .one (.c (.int _ m))=>(atO hn m ob).bind fun(k,ob1)=>match v with
   | .one (.c (.sl es l))=>bif Nat.beq ei.size es then(aRt hn l k ob1).bind fun(r,ob2)=>val o n ⟨opr x++opr y,[]⟩ (.one (.c (.pt r))) [] ob2 else none
   | .one (.hs id off len sz)=>match st.h id with
    | some (.arr _ es elems _)=>bif Nat.beq ei.size es then(need md (sz=elems.length) ob1).bind fun ob2=>(need md (k<len) ob2).bind fun ob3=>(aU6 off k).bind fun j=>val o n ⟨opr x++opr y,[id]⟩ (.one (.ep id j 0 sz)) [] ob3 else none
    | _=>none
   | .one (.ra id off len sz)=>match st.h id with
    | some (.rarr _ es elems)=>bif Nat.beq ei.size es then(need md (sz=elems.length) ob1).bind fun ob2=>(need md (k<len) ob2).bind fun ob3=>(aU6 off k).bind fun j=>val o n ⟨opr x++opr y,[id]⟩ (.one (.rp id j 0 sz)) [] ob3 else none
    | _=>none
   | .one (.ras n' es l)=>bif Nat.beq ei.size es then(need md (k<n') ob1).bind fun ob2=>match hn with
    | .rowR _ r=>val o n ⟨opr x++opr y,[]⟩ (.one (.pas r)) [] (((l.drop (k*es)).take es=r)::ob2)
    | _=>(frc ((l.drop (k*es)).take es)).bind fun r=>val o n ⟨opr x++opr y,[]⟩ (.one (.pas r)) [] ob2 else none
   | _=>none
  | _=>none
 | .ar m' e=>(tr.get e).bind fun ei=>(opO st x).bind fun v=>(opO st y).bind fun u=>match u with
  | .one (.c (.int _ m))=>(atO hn m ob).bind fun(k,ob1)=>match v with
   | .one (.vp id off)=>(need md (k<m') ob1).bind fun ob2=>val o n ⟨opr x++opr y,[]⟩ (.one (.vp id (off+k*ei.size))) [] ob2
   | _=>none
  | _=>none
 | _=>none
theorem qM {hn:Hn}{t:TypeId}{x y:Operand}(hw:tr.wf=true) (hT:Tok P tr.flat) (ho:o.op=.indexAddr t x y):Snd P n o st ob (pX tr md o n st ob hn t x y):=by
 refine Snd.bind fun i hi=>?_
 replace hi:=Tr.get_ok hw hi
 split
 ·rename_i e U;refine Snd.bind fun ei g=>Snd.bind fun v O=>Snd.bind fun u hu=>?_
  replace g:=Tr.get_ok hw g
  rw[bW] at O hu;split
  ·rename_i kk m;refine Snd.bind fun p hp=>?_
   obtain⟨k,ob1⟩:=p;dsimp only;split
   ·rename_i es l;refine Snd.cond fun A=>Snd.bind fun p h2=>?_
    obtain⟨r,aa⟩:=p;refine Snd.val fun _ B q hc=>?_
    obtain⟨E,I⟩:=xI h2 hc;obtain⟨J,M⟩:=rH hp E;exact⟨J,aOb hT ho B q hi U g (δ A) O hu M I⟩
   ·rename_i id off len sz;split
    ·rename_i te es elems fz hh;refine Snd.cond fun A=>Snd.bind fun aa h2=>Snd.bind fun ob3 h3=>Snd.bind fun j Y=>Snd.val fun _ B q hc=>?_
     have Y:=aIh Y;subst Y;obtain⟨E,I⟩:=aU h3 hc;obtain⟨J,M⟩:=aU h2 E;obtain⟨g5,g6⟩:=rH hp J;exact⟨g5,aCc hT ho B q hi U g (δ A) O hh M hu g6 I⟩
    ·exact Snd.none
   ·rename_i id off len sz;split
    ·rename_i te es elems hh;refine Snd.cond fun A=>Snd.bind fun aa h2=>Snd.bind fun ob3 h3=>Snd.bind fun j Y=>Snd.val fun _ B q hc=>?_
     have Y:=aIh Y;subst Y;obtain⟨E,I⟩:=aU h3 hc;obtain⟨J,M⟩:=aU h2 E;obtain⟨g5,g6⟩:=rH hp J;exact⟨g5,aCb hT ho B q hi U g (δ A) O hh M hu g6 I⟩
    ·exact Snd.none
   ·rename_i n' es l;refine Snd.cond fun A=>Snd.bind fun aa h2=>?_
    have A:=δ A;split
    ·refine Snd.val fun _ B q hc=>?_
     obtain⟨c1,c2⟩:=hc;obtain⟨E,I⟩:=aU h2 c2;obtain⟨J,M⟩:=rH hp E;exact⟨J,oX hT ho B q hi U g A O hu M I c1⟩
    ·refine Snd.bind fun r hr=>Snd.val fun _ B q hc=>?_
     rw[jE] at hr;cases hr;obtain⟨E,I⟩:=aU h2 hc;obtain⟨J,M⟩:=rH hp E;exact⟨J,oX hT ho B q hi U g A O hu M I rfl⟩
   ·exact Snd.none
  ·exact Snd.none
 ·rename_i m' e U;refine Snd.bind fun ei g=>Snd.bind fun v O=>Snd.bind fun u hu=>?_
  replace g:=Tr.get_ok hw g
  rw[bW] at O hu;split
  ·rename_i kk m;refine Snd.bind fun p hp=>?_
   obtain⟨k,ob1⟩:=p;dsimp only;split
   ·rename_i id off;refine Snd.bind fun aa h2=>Snd.val fun _ B q hc=>?_
    obtain⟨E,I⟩:=aU h2 hc;obtain⟨J,M⟩:=rH hp E;exact⟨J,xL hT ho B q hi U g O hu M I⟩
   ·exact Snd.none
  ·exact Snd.none
 ·exact Snd.none
def aUi (md:Bool) (o:Oper) (n:Nat) (st:St) (ob:List Prop) (x:Operand):Ans:=(opO st x).bind fun v=>match v with
 | .one (.ep id k fo sz)=>match st.h id with
  | some (.arr _ _ elems _)=>(need md (sz=elems.length) ob).bind fun ob1=>val o n ⟨opr x,[id]⟩ (.one (.ep id k fo sz)) [] ob1
  | _=>none
 | .one (.rp id k fo sz)=>match st.h id with
  | some (.rarr _ _ elems)=>(need md (sz=elems.length) ob).bind fun ob1=>val o n ⟨opr x,[id]⟩ (.one (.rp id k fo sz)) [] ob1
  | _=>none
 | v=>bif notNil v then val o n ⟨opr x,[]⟩ v [] ob else none
theorem aLs {x:Operand}(ho:o.op=.nilCheck x):Snd P n o st ob (aUi md o n st ob x):=by
 refine Snd.bind fun v u=>?_
 rw[bW] at u;split
 ·split
  ·rename_i hh;exact Snd.bind fun y h1=>Snd.val fun _ q g hc=>⟨(aU h1 hc).1,rX ho q g u hh (aU h1 hc).2⟩
  ·exact Snd.none
 ·split
  ·rename_i hh;exact Snd.bind fun y h1=>Snd.val fun _ q g hc=>⟨(aU h1 hc).1,rW ho q g u hh (aU h1 hc).2⟩
  ·exact Snd.none
 ·exact Snd.cond fun h=>Snd.val fun _ q g hc=>⟨hc,aB9 ho q g u h⟩
def pA (tr:Tr):List (Nat×TypeId)→Option (List (Nat×Nat))
 | []=>some []
 | (off,t)::fs=>(tr.get t).bind fun i=>(pA tr fs).bind fun l=>some ((off,i.size)::l)
theorem qW {tr:Tr}(hw:tr.wf=true):∀{fs:List (Nat×TypeId)}{l:List (Nat×Nat)},pA tr fs=some l→jU tr.flat fs=some l
 | [],l,h=>by simpa [pA,jU] using h
 | (off,t)::fs,l,h=>by
  simp only[pA,Ab] at h;obtain⟨i,hi,l',g,h⟩:=h;simp only[jU,Tr.get_ok hw hi,qW hw g,h]
def zY (st:St):List (Nat×Operand)→Option (List (Nat×List R))
 | []=>some []
 | (i,x)::ps=>(opO st x).bind fun v=>(nV v).bind fun rs=>(zY st ps).bind fun l=>some ((i,rs)::l)
theorem uT (st:St):∀ps:List (Nat×Operand),zY st ps=nP st ps
 | []=>rfl
 | (i,x)::ps=>by
  simp only[zY,nP,bW,gL,uT st ps];cases opv st x with
  | none=>rfl
  | some v=>
   simp only[Option.bind_some];cases fO v with
   | none=>rfl
   | some rs=>
    simp only[Option.bind_some];cases nP st ps<;>rfl
def aKm (st:St):List Operand→Option (List R)
 | []=>some []
 | x::xs=>(opO st x).bind fun v=>match v with
  | .one r=>(aKm st xs).bind fun l=>some (r::l)
  | _=>none
theorem aA5 (st:St):∀xs:List Operand,aKm st xs=vW st xs
 | []=>rfl
 | x::xs=>by
  simp only[aKm,vW,bW,aA5 st xs];cases opv st x with
  | none=>rfl
  | some v=>
   simp only[Option.bind_some];cases v<;>try rfl
   cases vW st xs<;>rfl
def aH5 (tr:Tr) (o:Oper) (n:Nat) (st:St) (ob:List Prop) (t:TypeId) (parts:Array (Nat×Operand)):Ans:=(tr.get t).bind fun i=>match i.k with
 | .st fs=>(pA tr fs).bind fun places=>(zY st parts.toList).bind fun ps=>(aCv places (i.zero.map R.c) ps).bind fun out=>(frc out).bind fun out=>(aU5 out).bind fun y=>val o n ⟨eQ parts.toList,[]⟩ y [] ob
 | _=>none
theorem aDh {t:TypeId}{parts:Array (Nat×Operand)}(hw:tr.wf=true) (E:Tok P tr.flat) (ho:o.op=.build t parts):Snd P n o st ob (aH5 tr o n st ob t parts):=by
 refine Snd.bind fun i hi=>?_
 replace hi:=Tr.get_ok hw hi
 split
 ·rename_i fs I;refine Snd.bind fun A g=>Snd.bind fun ps q=>Snd.bind fun out J=>Snd.bind fun M u=>Snd.bind fun y hy=>Snd.val fun _ O B hc=>⟨hc,?_⟩
  replace g:=qW hw g
  rw[uT] at q;rw[jE] at u;cases u;rw[aIg] at hy;cases hy;exact aOf E ho O B hi I g q J
 ·exact Snd.none
def mI (tr:Tr):Nat→List TypeId→List Nat
 | 0,_=>[]
 | _+1,[]=>[]
 | f+1,t::ts=>match tr.get t with
  | some i=>match i.k with
   | .sl e=>match tr.get e with
    | some ei=>(ei.size+1)::mI tr f ts
    | none=>0::mI tr f ts
   | .st fs=>mI tr f (fs.map (·.2)++ts)
   | _=>0::mI tr f ts
  | none=>0::mI tr f ts
def nrm:List Nat→List C→List C
 | _,[]=>[]
 | [],cs=>cs
 | 0::es,c::cs=>c::nrm es cs
 | (e+1)::es,c::cs=>(match c with | .nl=>.sl e [] | c=>c)::nrm es cs
theorem kN {h:bX}:∀(es:List Nat) (cs:List C),PureL h [] (cs.map R.c) (nrm es cs)
 | es,[]=>by cases es<;>exact .nil
 | [],c::cs=>.of_pure
 | 0::es,c::cs=>.c .refl (kN es cs)
 | (e+1)::es,c::cs=>by
  simp only[nrm,Be];split
  ·exact .c .nl (kN es cs)
  ·exact .c .refl (kN es cs)
def aDr:List Nat→List C→Option (List C)
 | _,[]=>some []
 | [],cs=>frc cs
 | 0::es,c::cs=>(aDr es cs).bind fun l=>some (c::l)
 | (e+1)::es,c::cs=>match c with
  | .nl=>(aDr es cs).bind fun l=>some (.sl e []::l)
  | c=>(aDr es cs).bind fun l=>some (c::l)
theorem pB:∀(es:List Nat) (cs:List C),aDr es cs=some (nrm es cs)
 | es,[]=>by cases es with
  | nil=>simp[aDr,nrm]
  | cons e es=>cases e<;>simp[aDr,nrm]
 | [],c::cs=>by simp[aDr,nrm,jE]
 | 0::es,c::cs=>by simp[aDr,nrm,pB es cs]
 | (e+1)::es,c::cs=>by
  simp only[aDr,nrm,pB es cs,Option.bind_some];split<;>rfl
def aEn (st:St) (tys:List Nat) (es:Nat):Nat→List (Nat×Operand)→Option (List (List C))
 | _,[]=>some []
 | k,(i,x)::ps=>bif Nat.beq i k then(opO st x).bind fun v=>(nV v).bind fun rs=>(gT rs).bind fun cs=>bif Nat.beq rs.length es then(aDr tys cs).bind fun cs=>(aEn st tys es (k+1) ps).bind fun l=>some (cs::l) else none else none
theorem zP {st:St}{g:List Nat}{es:Nat}:∀{ps:List (Nat×Operand)}{k:Nat}{l:List (List C)},aEn st g es k ps=some l→RowsV st es k [] ps l
 | [],k,l,h=>by simp[aEn] at h;subst h;exact .nil
 | (i,x)::ps,k,l,h=>by
  simp only[aEn] at h;obtain⟨h0,h⟩:=cZ h;have:=δ h0;subst this;rw[Ab] at h;obtain⟨v,y,h⟩:=h;rw[Ab] at h;obtain⟨rs,u,h⟩:=h;rw[Ab] at h;obtain⟨cs,A,h⟩:=h;obtain⟨hl,h⟩:=cZ h;rw[Ab] at h;obtain⟨cs',q,h⟩:=h;rw[pB] at q;cases q;rw[Ab] at h;obtain⟨l',B,h⟩:=h;cases h;rw[bW] at y;rw[gL] at u;have hp:PureL st.h [] rs (nrm g cs):=by rw[lZ A];exact kN g cs
  exact .cons (ids:=[]) y u hp hl (zP B)
def aHs (tr:Tr) (o:Oper) (n:Nat) (st:St) (ob:List Prop) (hn:Hn) (id:Nat) (t:TypeId) (len:Nat) (parts:Array (Nat×Operand)):Ans:=(tr.get t).bind fun i=>match i.k with
 | .sl e=>(tr.get e).bind fun ei=>bif Nat.beq len parts.size&&(Nat.ble (len*ei.size) 16777216&&Nat.ble len 16777216) then(match st.h id with
  | none=>match aEn st (mI tr 300 [e]) ei.size 0 parts.toList with
   | some rows=>match hn with
    | .all=>val o n ⟨eQ parts.toList,[id]⟩ (.one (.c (.sl ei.size rows))) [(id,some (.arr e ei.size rows 2))] ob
    | _=>val o n ⟨eQ parts.toList,[id]⟩ (.one (.hs id 0 len len)) [(id,some (.arr e ei.size rows 0))] ob
   | none=>(rU st ei.size 0 parts.toList).bind fun rows=>val o n ⟨eQ parts.toList,[id]⟩ (.one (.ra id 0 len len)) [(id,some (.rarr e ei.size rows))] ob
  | some _=>none) else none
 | _=>none
theorem aDd {hn:Hn}{id:Nat}{t:TypeId}{len:Nat}{parts:Array (Nat×Operand)}(hw:tr.wf=true) (E:Tok P tr.flat) (ho:o.op=.buildSlice t len parts):Snd P n o st ob (aHs tr o n st ob hn id t len parts):=by
 refine Snd.bind fun i hi=>?_
 replace hi:=Tr.get_ok hw hi
 split
 ·rename_i e I;refine Snd.bind fun J g=>Snd.cond fun hb=>?_
  replace g:=Tr.get_ok hw g
  simp only[ε] at hb;split
  ·rename_i u;split
   ·rename_i rows A;have B:=zP A;split
    ·exact Snd.val fun _ y q hc=>⟨hc,aJj id E ho y q hi I g B hb.1 hb.2.1 hb.2.2 u⟩
    ·exact Snd.val fun _ y q hc=>⟨hc,aEr id E ho y q hi I g B hb.1 hb.2.1 hb.2.2 u⟩
   ·exact Snd.bind fun rows B=>Snd.val fun _ y q hc=>⟨hc,aJi id E ho y q hi I g B hb.1 hb.2.1 hb.2.2 u⟩
  ·exact Snd.none
 ·exact Snd.none
def aH0 (o:Oper) (n:Nat) (st:St) (ob:List Prop) (f:Fn) (first caps:Array Operand):Ans:=match f with
 | .func f=>match first.toList with
  | []=>(aKm st caps.toList).bind fun l=>val o n ⟨bU caps.toList,[]⟩ (.one (.clo f l)) [] ob
  | [x]=>match caps.toList with
   | []=>(opO st x).bind fun v=>match v with
    | .one c=>val o n ⟨opr x,[]⟩ (.one (.mth f c)) [] ob
    | _=>none
   | _=>none
  | _=>none
 | _=>none
theorem toList_nil {α:Type}{a:Array α}(h:a.toList=[]):a= #[]:=by
 cases a;simp at h;simp[h]
theorem aB0 {α:Type}{a:Array α}{x:α}(h:a.toList=[x]):a= #[x]:=by
 cases a;simp at h;simp[h]
theorem aHz {f:Fn}{first caps:Array Operand}(ho:o.op=.makeFunc f first caps):Snd P n o st ob (aH0 o n st ob f first caps):=by
 unfold aH0;split
 ·rename_i f;split
  ·rename_i h1;have:=toList_nil h1;subst this;refine Snd.bind fun l hl=>Snd.val fun _ q g hc=>⟨hc,qS ho q g (by rw[←aA5];exact hl)⟩
  ·rename_i x h1;have:=aB0 h1;subst this;split
   ·rename_i h2;have:=toList_nil h2;subst this;refine Snd.bind fun v u=>?_
    split
    ·exact Snd.val fun _ q g hc=>⟨hc,uO ho q g (by rw[←bW];exact u)⟩
    ·exact Snd.none
   ·exact Snd.none
  ·exact Snd.none
 ·exact Snd.none
def aRf (st:St) (m:Nat):Option Operand→Option Nat
 | none=>some m
 | some x=>(opO st x).bind fun v=>match v with
  | .one (.c (.int _ (.ofNat k)))=>some k
  | _=>none
theorem kE {m k:Nat}{x:Option Operand}(h:aRf st m x=some k):BndV st x m k:=by
 cases x with
 | none=>cases h;exact .no
 | some x=>
  simp only[aRf,Ab,bW] at h;obtain⟨v,g,h⟩:=h;split at h
  ·cases h;exact .yes g
  ·cases h
def aU1 {α:Type}(l:List α) (lo hi:Nat) (low high:Option Operand):Option (List α):=match low,high with
 | none,none=>some l
 | none,some _=>some (l.take hi)
 | some _,none=>some (l.drop lo)
 | some _,some _=>some ((l.take hi).drop lo)
theorem aGk {α:Type}{l r:List α}{lo hi:Nat}{low high:Option Operand}(h1:BndV st low 0 lo) (h2:BndV st high l.length hi) (h:aU1 l lo hi low high=some r):r=(l.take hi).drop lo:=by
 cases h1<;>cases h2<;>simp[aU1] at h<;>simp[h]
def aQs (tr:Tr) (md:Bool) (o:Oper) (n:Nat) (st:St) (ob:List Prop) (t:TypeId) (x:Operand) (low high mx:Option Operand):Ans:=match mx with
 | some _=>none
 | none=>(tr.get t).bind fun i=>(opO st x).bind fun v=>match i.k with
  | .sl e=>(tr.get e).bind fun ei=>match v with
   | .one (.c (.sl es l))=>bif Nat.beq ei.size es then(aRf st 0 low).bind fun lo=>(aRf st l.length high).bind fun hi=>(need md (lo≤hi) ob).bind fun ob1=>(need md (hi≤l.length) ob1).bind fun ob2=>
     (aU1 l lo hi low high).bind fun r=>val o n ⟨opr x++aLm low++aLm high,[]⟩ (.one (.c (.sl es r))) [] ob2 else none
   | _=>none
  | .str=>match v with
   | .one (.c (.str s))=>(aRf st 0 low).bind fun lo=>(aRf st s.length high).bind fun hi=>(need md (lo≤hi) ob).bind fun ob1=>(need md (hi≤s.length) ob1).bind fun ob2=>
     (aU1 s lo hi low high).bind fun r=>val o n ⟨opr x++aLm low++aLm high,[]⟩ (.one (.c (.str r))) [] ob2
   | _=>none
  | _=>none
theorem aLw {t:TypeId}{x:Operand}{low high mx:Option Operand}(hw:tr.wf=true) (hT:Tok P tr.flat) (ho:o.op=.slice t x low high mx):Snd P n o st ob (aQs tr md o n st ob t x low high mx):=by
 unfold aQs;split
 ·exact Snd.none
 ·refine Snd.bind fun i u=>Snd.bind fun v B=>?_
  replace u:=Tr.get_ok hw u
  rw[bW] at B;split
  ·rename_i e E;refine Snd.bind fun ei y=>?_
   replace y:=Tr.get_ok hw y
   split
   ·rename_i es l;refine Snd.cond fun hes=>Snd.bind fun lo g=>Snd.bind fun hi q=>Snd.bind fun ob1 h1=>Snd.bind fun ob2 h2=>Snd.bind fun r I=>Snd.val fun _ J A hc=>?_
    obtain⟨M,O⟩:=aU h2 hc;obtain⟨U,Y⟩:=aU h1 M;rw[aGk (kE g) (kE q) I];exact⟨U,aVt hT ho J A u E y (δ hes) B (kE g) (kE q) Y O⟩
   ·exact Snd.none
  ·rename_i E;split
   ·rename_i s;refine Snd.bind fun lo g=>Snd.bind fun hi q=>Snd.bind fun ob1 h1=>Snd.bind fun ob2 h2=>Snd.bind fun r I=>Snd.val fun _ J A hc=>?_
    obtain⟨M,O⟩:=aU h2 hc;obtain⟨U,Y⟩:=aU h1 M;rw[aGk (kE g) (kE q) I];exact⟨U,aR0 hT ho J A u E B (kE g) (kE q) Y O⟩
   ·exact Snd.none
  ·exact Snd.none
def aHy (tr:Tr) (o:Oper) (n:Nat) (st:St) (ob:List Prop) (hn:Hn) (t:TypeId) (x y:Operand):Ans:=(tr.get t).bind fun i=>match i.k with
 | .str=>(opO st x).bind fun v=>(opO st y).bind fun u=>match v,u with
  | .one (.c (.str s)),.one (.c (.int _ m))=>match hn with
   | .byte k b=>val o n ⟨opr x++opr y,[]⟩ (.one (.c (.int .u8 ((b.toNat:Nat):Int)))) [] ((m=(k:Int)∧s[k]?=some b)::ob)
   | _=>match m with
    | .ofNat k=>(s[k]?).bind fun b=>val o n ⟨opr x++opr y,[]⟩ (.one (.c (.int .u8 ((b.toNat:Nat):Int)))) [] ob
    | _=>none
  | _,_=>none
 | _=>none
theorem aDe {hn:Hn}{t:TypeId}{x y:Operand}(hw:tr.wf=true) (B:Tok P tr.flat) (ho:o.op=.index t x y):Snd P n o st ob (aHy tr o n st ob hn t x y):=by
 refine Snd.bind fun i hi=>?_
 replace hi:=Tr.get_ok hw hi
 split
 ·rename_i E;refine Snd.bind fun v q=>Snd.bind fun u hu=>?_
  rw[bW] at q hu;split
  ·split
   ·exact Snd.val fun _ A g hc=>⟨hc.2,aMm B ho A g hi E q hu hc.1.1 hc.1.2⟩
   ·split
    ·exact Snd.bind fun b hb=>Snd.val fun _ A g hc=>⟨hc,aMm B ho A g hi E q hu rfl hb⟩
    ·exact Snd.none
  ·exact Snd.none
 ·exact Snd.none
def aFl:List (List C)→Bool
 | []=>true
 | (.str _::_)::r=>aFl r
 | _::_=>false
theorem m9:∀l:List (List C),aFl l=true↔jB l
 | []=>by simp[aFl,jB]
 | []::r=>by simp[aFl,jB]
 | (c::vs)::r=>by
  cases c<;>simp[aFl,jB];exact m9 r
instance (l:List (List C)):Decidable (jB l):=decidable_of_iff _ (m9 l)
def aKe (st:St) (agg:Bool):V→Option (List Nat×List (List C))
 | .one (.mr id)=>match st.h id with
  | some (.map a ents)=>bif a==agg then some ([id],ents) else none
  | _=>none
 | .one (.c (.mp a ents))=>bif a==agg then some ([],ents) else none
 | .one (.c (.zv 0))=>some ([],[])
 | _=>none
theorem sR {st:St}{agg:Bool}{v:V}{ids:List Nat}{ents:List (List C)}(h:aKe st agg v=some (ids,ents)):MapE st ids v agg ents:=by
 unfold aKe at h;split at h
 ·split at h
  ·rename_i hh;obtain⟨h1,h2⟩:=cZ h;cases h2;exact .mr (by rw[hh,eq_of_beq h1])
  ·cases h
 ·obtain⟨h1,h2⟩:=cZ h;cases h2;rw[eq_of_beq h1];exact .mp
 ·cases h;exact .nil
 ·cases h
def aPb (md:Bool) (hn:Hn) (k:List UInt8) (ents:List (List C)) (ob:List Prop):Option (Option (List C)×List Prop):=match hn with
 | .look r=>some (r,(iS k ents=r)::ob)
 | _=>bif md then some (iS k ents,ob) else match iS k ents with
  | some r=>some (some r,ob)
  | none=>some (none,ob)
theorem aAu {md:Bool}{hn:Hn}{k:List UInt8}{ents:List (List C)}{ob g:List Prop}{r:Option (List C)}(h:aPb md hn k ents ob=some (r,g)):fX g→fX ob∧iS k ents=r:=by
 unfold aPb at h;split at h
 ·cases h;exact fun h=>⟨h.2,h.1⟩
 ·cases md
  ·simp only[Bi] at h;split at h
   ·rename_i h1;cases h;exact fun h=>⟨h,h1⟩
   ·rename_i h1;cases h;exact fun h=>⟨h,h1⟩
  ·cases h;exact fun h=>⟨h,rfl⟩
def wO (tr:Tr) (md:Bool) (o:Oper) (n:Nat) (st:St) (ob:List Prop) (hn:Hn) (t:TypeId) (x y:Operand) (ok:Bool):Ans:=(tr.get t).bind fun i=>match i.k with
 | .mp kt et=>(tr.get kt).bind fun ki=>(tr.get et).bind fun ei=>match ki.k with
  | .str=>(opO st x).bind fun v=>(aKe st ei.k.agg v).bind fun(ids,ents)=>(opO st y).bind fun u=>match u with
   | .one (.c (.str k))=>(need md (jB ents) ob).bind fun ob1=>(aPb md hn k ents ob1).bind fun(r,ob2)=>match ok with
    | true=>val o n ⟨opr x++opr y,ids⟩ (.tup [o7 ei r,.one (.c (.bool (aFq r)))]) [] ob2
    | false=>val o n ⟨opr x++opr y,ids⟩ (o7 ei r) [] ob2
   | _=>none
  | _=>none
 | _=>none
theorem wN {hn:Hn}{t:TypeId}{x y:Operand}{ok:Bool}(hw:tr.wf=true) (Y:Tok P tr.flat) (ho:o.op=.lookup t x y ok):Snd P n o st ob (wO tr md o n st ob hn t x y ok):=by
 refine Snd.bind fun i hi=>?_
 replace hi:=Tr.get_ok hw hi
 split
 ·rename_i kt et hk;refine Snd.bind fun ki g=>Snd.bind fun ei q=>?_
  replace g:=Tr.get_ok hw g
  replace q:=Tr.get_ok hw q
  split
  ·rename_i B;refine Snd.bind fun v E=>Snd.bind fun p hp=>?_
   obtain⟨ids,ents⟩:=p;refine Snd.bind fun u hu=>?_
   rw[bW] at E hu;split
   ·rename_i k;refine Snd.bind fun ob1 h1=>Snd.bind fun p h2=>?_
    obtain⟨r,ob2⟩:=p;dsimp only;split
    ·refine Snd.val fun _ I A hc=>?_
     obtain⟨J,M⟩:=aAu h2 hc;obtain⟨O,U⟩:=aU h1 J;have:=rY Y ho I A hi hk g B q rfl E (sR hp) U hu M;exact⟨O,by simpa using this⟩
    ·refine Snd.val fun _ I A hc=>?_
     obtain⟨J,M⟩:=aAu h2 hc;obtain⟨O,U⟩:=aU h1 J;have:=rY Y ho I A hi hk g B q rfl E (sR hp) U hu M;exact⟨O,by simpa using this⟩
   ·exact Snd.none
  ·exact Snd.none
 ·exact Snd.none
def wM (tr:Tr) (md:Bool) (o:Oper) (n:Nat) (st:St) (ob:List Prop) (w:V) (t:TypeId) (x y:Operand):Ans:=(tr.get t).bind fun i=>match i.k with
 | .mp kt et=>(tr.get kt).bind fun ki=>(tr.get et).bind fun ei=>match ki.k with
  | .str=>(opO st x).bind fun v=>(aKe st ei.k.agg v).bind fun(ids,ents)=>(opO st y).bind fun u=>match u with
   | .one (.c (.str k))=>(need md (jB ents) ob).bind fun ob1=>val o n ⟨opr x++opr y,ids⟩ w [] ((o7 ei (iS k ents)=w)::ob1)
   | _=>none
  | _=>none
 | _=>none
theorem wL {w:V}{t:TypeId}{x y:Operand}(hw:tr.wf=true) (I:Tok P tr.flat) (ho:o.op=.lookup t x y false):Snd P n o st ob (wM tr md o n st ob w t x y):=by
 refine Snd.bind fun i hi=>?_
 replace hi:=Tr.get_ok hw hi
 split
 ·rename_i kt et J;refine Snd.bind fun ki g=>Snd.bind fun ei q=>?_
  replace g:=Tr.get_ok hw g
  replace q:=Tr.get_ok hw q
  split
  ·rename_i A;refine Snd.bind fun v B=>Snd.bind fun p hp=>?_
   obtain⟨ids,ents⟩:=p;refine Snd.bind fun u hu=>?_
   rw[bW] at B hu;split
   ·rename_i k;refine Snd.bind fun Y h1=>Snd.val fun _ M E hc=>?_
    obtain⟨O,U⟩:=aU h1 hc.2;have:=rY I ho M E hi J g A q rfl B (sR hp) U hu rfl;refine⟨O,?_⟩;rw[←hc.1];simpa using this
   ·exact Snd.none
  ·exact Snd.none
 ·exact Snd.none
def tK (tr:Tr) (md:Bool) (o:Oper) (n:Nat) (st:St) (ob:List Prop) (hn:Hn) (t:TypeId) (x y:Operand) (ok:Bool):Ans:=match ok,hn with
 | false,.pc w=>wM tr md o n st ob w t x y
 | ok,hn=>wO tr md o n st ob hn t x y ok
theorem yK {hn:Hn}{t:TypeId}{x y:Operand}{ok:Bool}(hw:tr.wf=true) (g:Tok P tr.flat) (ho:o.op=.lookup t x y ok):Snd P n o st ob (tK tr md o n st ob hn t x y ok):=by
 unfold tK;split
 ·exact wL hw g ho
 ·exact wN hw g ho
def aSi (md:Bool) (k:List UInt8) (cs:List C) (ents:List (List C)):Option (List (List C)):=bif md then some (sA k cs ents) else frc (sA k cs ents)
theorem aAg (md:Bool) (k:List UInt8) (cs:List C) (ents:List (List C)):aSi md k cs ents=some (sA k cs ents):=by
 cases md
 ·exact jE _
 ·rfl
def j4 (tr:Tr) (md:Bool) (o:Oper) (st:St) (ob:List Prop) (t:TypeId) (x y z:Operand):Ans:=(tr.get t).bind fun i=>match i.k with
 | .mp kt _=>(tr.get kt).bind fun ki=>match ki.k with
  | .str=>(opO st x).bind fun v=>match v with
   | .one (.mr id)=>match st.h id with
    | some (.map agg ents)=>(opO st y).bind fun u=>match u with
     | .one (.c (.str k))=>(opO st z).bind fun v=>bif (match v with | .one _=>!agg | .pa _=>agg | .ma _=>agg | _=>false) then(nV v).bind fun rs=>
      (need md (jB ents) ob).bind fun ob1=>(aSi md k (aE8 rs) ents).bind fun e'=>eff o ⟨opr x++opr y++opr z,[id]⟩ [(id,some (.map agg e'))] ob1 else none
     | _=>none
    | _=>none
   | _=>none
  | _=>none
 | _=>none
theorem qL {t:TypeId}{x y z:Operand}(hw:tr.wf=true) (J:Tok P tr.flat) (ho:o.op=.mapUpdate t x y z):Snd P n o st ob (j4 tr md o st ob t x y z):=by
 refine Snd.bind fun i hi=>?_
 replace hi:=Tr.get_ok hw hi
 split
 ·rename_i kt et M;refine Snd.bind fun ki g=>?_
  replace g:=Tr.get_ok hw g
  split
  ·rename_i A;refine Snd.bind fun v B=>?_
   rw[bW] at B;split
   ·rename_i id;split
    ·rename_i agg ents hh;refine Snd.bind fun u hu=>?_
     rw[bW] at hu;split
     ·rename_i k;refine Snd.bind fun z E=>Snd.cond fun I=>Snd.bind fun rs q=>Snd.bind fun aa h1=>Snd.bind fun e' he=>Snd.eff fun O hc=>?_
      rw[bW] at E;rw[gL] at q;rw[aAg] at he;cases he;obtain⟨U,Y⟩:=aU h1 hc;exact⟨U,xK (ids:=[]) J ho O hi M g A B hh Y hu E (by cases z<;>first | rfl | exact I) q .ofA⟩
     ·exact Snd.none
    ·exact Snd.none
   ·exact Snd.none
  ·exact Snd.none
 ·exact Snd.none
theorem yL {t:TypeId}{x y z:Operand}(hw:tr.wf=true) (J:Tok P tr.flat) (ho:o.op=.insert t x y z):Snd P n o st ob (j4 tr md o st ob t x y z):=by
 refine Snd.bind fun i hi=>?_
 replace hi:=Tr.get_ok hw hi
 split
 ·rename_i kt et M;refine Snd.bind fun ki g=>?_
  replace g:=Tr.get_ok hw g
  split
  ·rename_i A;refine Snd.bind fun v B=>?_
   rw[bW] at B;split
   ·rename_i id;split
    ·rename_i agg ents hh;refine Snd.bind fun u hu=>?_
     rw[bW] at hu;split
     ·rename_i k;refine Snd.bind fun z E=>Snd.cond fun I=>Snd.bind fun rs q=>Snd.bind fun aa h1=>Snd.bind fun e' he=>Snd.eff fun O hc=>?_
      rw[bW] at E;rw[gL] at q;rw[aAg] at he;cases he;obtain⟨U,Y⟩:=aU h1 hc;exact⟨U,aJq (ids:=[]) J ho O hi M g A B hh Y hu E (by cases z<;>first | rfl | exact I) q .ofA⟩
     ·exact Snd.none
    ·exact Snd.none
   ·exact Snd.none
  ·exact Snd.none
 ·exact Snd.none
end
section
variable {QP:Value→Prop}{P:Program}{n:Nat}{o:Oper}{st:St}{ob:List Prop}{tr:Tr}{md nat:Bool}
def arith (md nat:Bool) (op:BinOp) (a b:Int) (ob:List Prop):Option (Int×List Prop):=match op with
 | .add=>bif nat then(match a,b with | .ofNat x,.ofNat y=>(need md (x+y≤9223372036854775807) ob).bind fun ob1=>some (((x+y:Nat):Int),ob1) | _,_=>none)
  else(need md (-9223372036854775808≤a+b∧a+b≤9223372036854775807) ob).bind fun ob1=>some (a+b,ob1)
 | .sub=>bif nat then(match a,b with | .ofNat x,.ofNat y=>(need md (y≤x∧x≤9223372036854775807) ob).bind fun ob1=>some (((x-y:Nat):Int),ob1) | _,_=>none)
  else(need md (-9223372036854775808≤a-b∧a-b≤9223372036854775807) ob).bind fun ob1=>some (a-b,ob1)
 | .mul=>bif nat then(match a,b with | .ofNat x,.ofNat y=>(need md (x*y≤9223372036854775807) ob).bind fun ob1=>some (((x*y:Nat):Int),ob1) | _,_=>none)
  else(need md (-9223372036854775808≤a*b∧a*b≤9223372036854775807) ob).bind fun ob1=>some (a*b,ob1)
 | .quo=>bif nat then(match a,b with | .ofNat x,.ofNat y=>(need md (x≤9223372036854775807∧1≤y) ob).bind fun ob1=>some (((x/y:Nat):Int),ob1) | _,_=>none)
  else(need md (0≤a∧a≤9223372036854775807∧1≤b) ob).bind fun ob1=>some (a/b,ob1)
 | .rem=>bif nat then(match a,b with | .ofNat x,.ofNat y=>(need md (1≤y) ob).bind fun ob1=>some (((x%y:Nat):Int),ob1) | _,_=>none)
  else(need md (0≤a∧1≤b) ob).bind fun ob1=>some (a%b,ob1)
 | _=>none
theorem qK {α:Type}{g:List Prop}{x:Option (List Prop)}{r r':α}(h:(x.bind fun q=>some (r,q))=some (r',g)):x=some g∧r'=r:=by
 rw[Ab] at h;obtain⟨q,h1,h2⟩:=h;cases h2;exact⟨h1,rfl⟩
theorem aL0 {op:BinOp}{B ty:TypeId}{x y:Operand}{d:Nat}{a b r:Int}{A:List Prop}(ho:o.op=.binOp op B x y ty) (u:o.dst=some d) (q:d<n) (hx:opv st x=some (I .i64 a)) (hy:opv st y=some (I .i64 b)) (h:arith md nat op a b ob=some (r,A)):
  fX A→fX ob∧Step P n o st ⟨opr x++opr y,[]⟩ ⟨some (d,some (I .i64 r)),[]⟩:=by
 intro hc;unfold arith at h;cases nat<;>cases op<;>simp only[Bk,Bi] at h<;>try (cases h;done)
 ·obtain⟨h1,rfl⟩:=qK h;obtain⟨g,k⟩:=aU h1 hc;exact⟨g,aSc ho u q hx hy k⟩
 ·obtain⟨h1,rfl⟩:=qK h;obtain⟨g,k⟩:=aU h1 hc;exact⟨g,aRw ho u q hx hy k⟩
 ·obtain⟨h1,rfl⟩:=qK h;obtain⟨g,k⟩:=aU h1 hc;exact⟨g,aR7 ho u q hx hy k⟩
 ·obtain⟨h1,rfl⟩:=qK h;obtain⟨g,k⟩:=aU h1 hc;exact⟨g,aMo ho u q hx hy k⟩
 ·obtain⟨h1,rfl⟩:=qK h;obtain⟨g,k⟩:=aU h1 hc;exact⟨g,aMn ho u q hx hy k⟩
 all_goals cases a<;>cases b<;>simp only at h<;>try (cases h;done)
 ·obtain⟨h1,rfl⟩:=qK h;obtain⟨g,k⟩:=aU h1 hc;exact⟨g,aSb ho u q hx hy k⟩
 ·obtain⟨h1,rfl⟩:=qK h;obtain⟨g,k⟩:=aU h1 hc;exact⟨g,aRv ho u q hx hy k⟩
 ·obtain⟨h1,rfl⟩:=qK h;obtain⟨g,k⟩:=aU h1 hc;exact⟨g,aR6 ho u q hx hy k⟩
 ·obtain⟨h1,rfl⟩:=qK h;obtain⟨g,k⟩:=aU h1 hc;exact⟨g,aR3 ho u q hx hy k⟩
 ·obtain⟨h1,rfl⟩:=qK h;obtain⟨g,k⟩:=aU h1 hc;exact⟨g,aR2 ho u q hx hy k⟩
def aWc (op:BinOp) (a b:Int):Option Bool:=match op with
 | .lss=>some (decide (a<b))
 | .leq=>some (decide (a≤b))
 | .gtr=>some (decide (b<a))
 | .geq=>some (decide (b≤a))
 | .eql=>some (decide (a=b))
 | .neq=>some (!decide (a=b))
 | _=>none
theorem aPm {op:BinOp}{u ty:TypeId}{x y:Operand}{d:Nat}{k:IntKind}{a b:Int}{r:Bool}(ho:o.op=.binOp op u x y ty) (q:o.dst=some d) (g:d<n) (hx:opv st x=some (I k a)) (hy:opv st y=some (I k b)) (h:aWc op a b=some r):
  Step P n o st ⟨opr x++opr y,[]⟩ ⟨some (d,some (B r)),[]⟩:=by
 unfold aWc at h;cases op<;>simp only at h<;>try (cases h;done)
 ·cases h;exact aVs ho q g hx hy
 ·cases h;exact aVk ho q g hx hy
 ·cases h;exact aVo ho q g hx hy
 ·cases h;exact aVp ho q g hx hy
 ·cases h;exact aVq ho q g hx hy
 ·cases h;exact aVr ho q g hx hy
def aNt (op:BinOp) (k:IntKind) (a b:Int):Option Int:=match op with
 | .add=>some (k.wrap (a+b))
 | .sub=>some (k.wrap (a-b))
 | .mul=>some (k.wrap (a*b))
 | _=>none
theorem aIv {op:BinOp}{u ty:TypeId}{x y:Operand}{d:Nat}{k:IntKind}{a b r:Int}(ho:o.op=.binOp op u x y ty) (q:o.dst=some d) (g:d<n) (hx:opv st x=some (I k a)) (hy:opv st y=some (I k b)) (h:aNt op k a b=some r):
  Step P n o st ⟨opr x++opr y,[]⟩ ⟨some (d,some (I k r)),[]⟩:=by
 unfold aNt at h;cases op<;>simp only at h<;>try (cases h;done)
 ·cases h;exact aOh ho q g hx hy rfl
 ·cases h;exact aN7 ho q g hx hy rfl
 ·cases h;exact aOa ho q g hx hy rfl
def aO8:IntKind→Bool
 | .i64=>true
 | _=>false
def aUl (tr:Tr) (md nat:Bool) (o:Oper) (n:Nat) (st:St) (ob:List Prop) (op:BinOp) (tx:TypeId) (x y:Operand):Ans:=(opO st x).bind fun v=>(opO st y).bind fun u=>match v,u with
 | .one (.c (.int k a)),.one (.c (.int k' b))=>bif decide (k=k') then(match aWc op a b with
   | some r=>val o n ⟨opr x++opr y,[]⟩ (.one (.c (.bool r))) [] ob
   | none=>bif aO8 k then(arith md nat op a b ob).bind fun(r,ob1)=>val o n ⟨opr x++opr y,[]⟩ (.one (.c (.int .i64 r))) [] ob1
    else(aNt op k a b).bind fun r=>val o n ⟨opr x++opr y,[]⟩ (.one (.c (.int k r))) [] ob) else none
 | .one (.c (.str a)),.one (.c (.str b))=>match op with
  | .eql=>val o n ⟨opr x++opr y,[]⟩ (.one (.c (.bool (decide (a=b))))) [] ob
  | .neq=>val o n ⟨opr x++opr y,[]⟩ (.one (.c (.bool (!decide (a=b))))) [] ob
  | .lss=>val o n ⟨opr x++opr y,[]⟩ (.one (.c (.bool (Op.bytesLess a b)))) [] ob
  | .add=>(need md (a.length+b.length≤maxLen) ob).bind fun ob1=>val o n ⟨opr x++opr y,[]⟩ (.one (.c (.str (a++b)))) [] ob1
  | _=>none
 | .one (.c (.bool a)),.one (.c (.bool b))=>(tr.get tx).bind fun i=>match i.k with
  | .bool=>match op with
   | .eql=>val o n ⟨opr x++opr y,[]⟩ (.one (.c (.bool (a==b)))) [] ob
   | .neq=>val o n ⟨opr x++opr y,[]⟩ (.one (.c (.bool (!(a==b))))) [] ob
   | _=>none
  | _=>none
 | v,.one (.c .np)=>(tr.get tx).bind fun i=>match i.k with
  | .pt _=>(uP v).bind fun b=>match op with
   | .eql=>val o n ⟨opr x++opr y,[]⟩ (.one (.c (.bool b))) [] ob
   | .neq=>val o n ⟨opr x++opr y,[]⟩ (.one (.c (.bool (!b)))) [] ob
   | _=>none
  | _=>none
 | v,.one (.c .nl)=>(tr.get tx).bind fun i=>match i.k with
  | .sl _=>(aI7 v).bind fun b=>match op with
   | .eql=>val o n ⟨opr x++opr y,[]⟩ (.one (.c (.bool b))) [] ob
   | _=>none
  | _=>none
 | _,_=>none
theorem aLy {op:BinOp}{J ty:TypeId}{x y:Operand}(hw:tr.wf=true) (E:Tok P tr.flat) (ho:o.op=.binOp op J x y ty):Snd P n o st ob (aUl tr md nat o n st ob op J x y):=by
 refine Snd.bind fun v A=>Snd.bind fun u hu=>?_
 rw[bW] at A hu;split
 ·rename_i k a k' b;refine Snd.cond fun B=>?_
  have M:=κ B;subst M;split
  ·rename_i r I;exact Snd.val fun _ q g hc=>⟨hc,aPm ho q g A hu I⟩
  ·cases hi:aO8 k with
   | true=>
    simp only[Bk];cases k<;>simp only[aO8] at hi<;>try (cases hi;done)
    refine Snd.bind fun p hp=>?_
    obtain⟨r,O⟩:=p;exact Snd.val fun _ q g hc=>aL0 ho q g A hu hp hc
   | false=>
    simp only[Bi];exact Snd.bind fun r I=>Snd.val fun _ q g hc=>⟨hc,aIv ho q g A hu I⟩
 ·split
  ·exact Snd.val fun _ q g hc=>⟨hc,aRz ho q g A hu⟩
  ·exact Snd.val fun _ q g hc=>⟨hc,aRx ho q g A hu⟩
  ·exact Snd.val fun _ q g hc=>⟨hc,aRy ho q g A hu⟩
  ·exact Snd.bind fun O h1=>Snd.val fun _ q g hc=>⟨(aU h1 hc).1,aR1 ho q g A hu (aU h1 hc).2⟩
  ·exact Snd.none
 ·refine Snd.bind fun i hi=>?_
  replace hi:=Tr.get_ok hw hi
  split
  ·rename_i B;split
   ·exact Snd.val fun _ q g hc=>⟨hc,aSa E ho q g hi B A hu⟩
   ·exact Snd.val fun _ q g hc=>⟨hc,aR9 E ho q g hi B A hu⟩
   ·exact Snd.none
  ·exact Snd.none
 ·refine Snd.bind fun i hi=>?_
  replace hi:=Tr.get_ok hw hi
  split
  ·rename_i B;refine Snd.bind fun b hb=>?_
   split
   ·exact Snd.val fun _ q g hc=>⟨hc,aR5 E ho q g hi B A hb hu⟩
   ·exact Snd.val fun _ q g hc=>⟨hc,aR4 E ho q g hi B A hb hu⟩
   ·exact Snd.none
  ·exact Snd.none
 ·refine Snd.bind fun i hi=>?_
  replace hi:=Tr.get_ok hw hi
  split
  ·rename_i B;refine Snd.bind fun b hb=>?_
   split
   ·exact Snd.val fun _ q g hc=>⟨hc,aN9 E ho q g hi B A hb hu⟩
   ·exact Snd.none
  ·exact Snd.none
 ·exact Snd.none
def aW3 (md:Bool) (o:Oper) (n:Nat) (st:St) (ob:List Prop) (op:UnOp) (x:Operand):Ans:=(opO st x).bind fun v=>match v with
 | .one (.c (.bool b))=>match op with
  | .not=>val o n ⟨opr x,[]⟩ (.one (.c (.bool (!b)))) [] ob
  | _=>none
 | .one (.c (.int .i64 a))=>match op with
  | .neg=>(need md (-9223372036854775808≤0-a∧0-a≤9223372036854775807) ob).bind fun ob1=>val o n ⟨opr x,[]⟩ (.one (.c (.int .i64 (0-a)))) [] ob1
  | _=>none
 | _=>none
theorem aQp {op:UnOp}{t:TypeId}{x:Operand}(ho:o.op=.unOp op t x):Snd P n o st ob (aW3 md o n st ob op x):=by
 refine Snd.bind fun v q=>?_
 rw[bW] at q;split
 ·split
  ·exact Snd.val fun _ u g hc=>⟨hc,aVj ho u g q⟩
  ·exact Snd.none
 ·split
  ·exact Snd.bind fun y h1=>Snd.val fun _ u g hc=>⟨(aU h1 hc).1,aVl ho u g q (Bz _ (aU h1 hc).2)⟩
  ·exact Snd.none
 ·exact Snd.none
def aUj (tr:Tr) (md:Bool) (o:Oper) (n:Nat) (st:St) (ob:List Prop) (x:Operand) (t:TypeId):Ans:=(tr.get t).bind fun i=>(opO st x).bind fun v=>match i.k with
 | .sl _=>match v with
  | .one (.c (.sl _ l))=>val o n ⟨opr x,[]⟩ (.one (.c (.int .i64 ((l.length:Nat):Int)))) [] ob
  | .one (.c .nl)=>val o n ⟨opr x,[]⟩ (.one (.c (.int .i64 0))) [] ob
  | .one (.ras n' _ _)=>val o n ⟨opr x,[]⟩ (.one (.c (.int .i64 ((n':Nat):Int)))) [] ob
  | .one (.hs id _ len sz)=>match st.h id with
   | some (.arr _ _ elems _)=>(need md (sz=elems.length) ob).bind fun ob1=>val o n ⟨opr x,[id]⟩ (.one (.c (.int .i64 ((len:Nat):Int)))) [] ob1
   | _=>none
  | .one (.ra id _ len sz)=>match st.h id with
   | some (.rarr _ _ elems)=>(need md (sz=elems.length) ob).bind fun ob1=>val o n ⟨opr x,[id]⟩ (.one (.c (.int .i64 ((len:Nat):Int)))) [] ob1
   | _=>none
  | _=>none
 | .str=>match v with
  | .one (.c (.str s))=>val o n ⟨opr x,[]⟩ (.one (.c (.int .i64 ((s.length:Nat):Int)))) [] ob
  | _=>none
 | .mp _ _=>match v with
  | .one (.mr id)=>match st.h id with
   | some (.map _ ents)=>(need md (jB ents) ob).bind fun ob1=>val o n ⟨opr x,[id]⟩ (.one (.c (.int .i64 ((ents.length:Nat):Int)))) [] ob1
   | _=>none
  | _=>none
 | _=>none
theorem aLu {x:Operand}{t:TypeId}(hw:tr.wf=true) (A:Tok P tr.flat) (ho:o.op=.call { callee:=.builtin .len,args:= #[x],argTypes:= #[t] }):Snd P n o st ob (aUj tr md o n st ob x t):=by
 refine Snd.bind fun i hi=>Snd.bind fun v y=>?_
 replace hi:=Tr.get_ok hw hi
 rw[bW] at y;split
 ·rename_i u;split
  ·exact Snd.val fun _ q g hc=>⟨hc,aJm A ho q g hi u y⟩
  ·exact Snd.val fun _ q g hc=>⟨hc,aJo A ho q g hi u y⟩
  ·exact Snd.val fun _ q g hc=>⟨hc,aEz A ho q g hi u y⟩
  ·split
   ·rename_i hh;exact Snd.bind fun B h1=>Snd.val fun _ q g hc=>⟨(aU h1 hc).1,aJp A ho q g hi u y hh (aU h1 hc).2⟩
   ·exact Snd.none
  ·split
   ·rename_i hh;exact Snd.bind fun B h1=>Snd.val fun _ q g hc=>⟨(aU h1 hc).1,aJn A ho q g hi u y hh (aU h1 hc).2⟩
   ·exact Snd.none
  ·exact Snd.none
 ·rename_i u;split
  ·exact Snd.val fun _ q g hc=>⟨hc,aEy A ho q g hi u y⟩
  ·exact Snd.none
 ·rename_i u;split
  ·split
   ·rename_i hh;exact Snd.bind fun B h1=>Snd.val fun _ q g hc=>⟨(aU h1 hc).1,aE0 A ho q g hi u y hh (aU h1 hc).2⟩
   ·exact Snd.none
  ·exact Snd.none
 ·exact Snd.none
def aUu (md:Bool) (st:St) (es:Nat) (hn:Hn) (v:V) (ob:List Prop):Option (List Nat×List (List C)×List Prop):=match v with
 | .one (.hs id off len sz)=>match st.h id with
  | some (.arr _ es' elems _)=>bif Nat.beq es' es then(need md (sz=elems.length) ob).bind fun ob1=>(match hn with
   | .all=>some ([id],elems,(off=0∧len=sz)::ob1)
   | .c rows=>some ([id],rows,(rows=(elems.drop off).take len)::ob1)
   | _=>bif Nat.beq off 0&&Nat.beq len sz then some ([id],elems,ob1) else some ([id],(elems.drop off).take len,ob1)) else none
  | _=>none
 | .one (.c (.sl es' l))=>bif Nat.beq es' es then some ([],l,ob) else none
 | .one (.c (.sn es' l))=>bif Nat.beq es' es then some ([],l,ob) else none
 | .one (.c .nl)=>some ([],[],ob)
 | _=>none
theorem rN {es:Nat}{hn:Hn}{v:V}{ids:List Nat}{rows:List (List C)}{u:List Prop}(h:aUu md st es hn v ob=some (ids,rows,u)):fX u→fX ob∧Src st es ids v rows:=by
 intro hc;unfold aUu at h;split at h
 ·rename_i id off len sz;split at h
  ·rename_i te E elems fz hh;obtain⟨h1,q⟩:=cZ h;clear h;have:=δ h1;subst this;rw[Ab] at q;obtain⟨I,h2,h⟩:=q;split at h
   ·cases h;obtain⟨⟨rfl,rfl⟩,hc⟩:=hc;obtain⟨g,k⟩:=aU h2 hc;exact⟨g,.all hh k⟩
   ·cases h;obtain⟨y,hc⟩:=hc;obtain⟨g,k⟩:=aU h2 hc;exact⟨g,.hs hh k y⟩
   ·cases hb:Nat.beq off 0&&Nat.beq len sz with
    | true=>
     rw[hb] at h;cases h;obtain⟨g,k⟩:=aU h2 hc;simp only[ε] at hb;have A:=δ hb.1;have B:=δ hb.2;subst A B;exact⟨g,.all hh k⟩
    | false=>
     rw[hb] at h;cases h;obtain⟨g,k⟩:=aU h2 hc;exact⟨g,.hs hh k rfl⟩
  ·cases h
 ·obtain⟨h1,q⟩:=cZ h;clear h;have:=δ h1;subst this;cases q;exact⟨hc,.sl⟩
 ·obtain⟨h1,q⟩:=cZ h;clear h;have:=δ h1;subst this;cases q;exact⟨hc,.sn⟩
 ·cases h;exact⟨hc,.nl⟩
 ·cases h
def wG:List (List C)→Option (List Int)
 | []=>some []
 | [.int .u8 m]::rs=>(wG rs).bind fun l=>some (m::l)
 | _=>none
theorem wF:∀{rows:List (List C)}{g:List Int},wG rows=some g→rows=g.map fun m=>[C.int .u8 m]
 | [],g,h=>by simp[wG] at h;subst h;rfl
 | [.int .u8 m]::rs,g,h=>by
  simp only[wG,Ab] at h;obtain⟨l,h1,h2⟩:=h;cases h2;rw[wF h1];rfl
def aNj (tr:Tr) (md:Bool) (o:Oper) (n:Nat) (st:St) (ob:List Prop) (hn:Hn) (src dst:TypeId) (x:Operand):Ans:=(tr.get src).bind fun i=>(tr.get dst).bind fun j=>(opO st x).bind fun v=>match j.k with
 | .int k'=>match i.k,v with
  | .int k,.one (.c (.int k2 m))=>bif decide (k2=k) then val o n ⟨opr x,[]⟩ (.one (.c (.int k' (k'.wrap m)))) [] ob else none
  | _,_=>none
 | .str=>match i.k with
  | .sl e=>(tr.get e).bind fun ei=>match ei.k with
   | .int .u8=>(aUu md st 1 hn v ob).bind fun(ids,rows,ob1)=>(wG rows).bind fun ns=>(frc (ns.map fun m=>UInt8.ofNat m.toNat)).bind fun bs=>val o n ⟨opr x,ids⟩ (.one (.c (.str bs))) [] ob1
   | _=>none
  | _=>none
 | _=>none
theorem aH2 {hn:Hn}{src dst:TypeId}{x:Operand}(hw:tr.wf=true) (J:Tok P tr.flat) (ho:o.op=.convert src dst x):Snd P n o st ob (aNj tr md o n st ob hn src dst x):=by
 refine Snd.bind fun i hi=>Snd.bind fun j A=>Snd.bind fun v E=>?_
 replace hi:=Tr.get_ok hw hi
 replace A:=Tr.get_ok hw A
 rw[bW] at E;split
 ·rename_i k' g;split
  ·rename_i k k2 m q;refine Snd.cond fun U=>?_
   have:=κ U;subst this;exact Snd.val fun _ I u hc=>⟨hc,aOd J ho I u hi q A g E⟩
  ·exact Snd.none
 ·rename_i g;split
  ·rename_i e q;refine Snd.bind fun ei y=>?_
   replace y:=Tr.get_ok hw y
   split
   ·rename_i M;refine Snd.bind fun p hp=>?_
    obtain⟨ids,rows,ob1⟩:=p;refine Snd.bind fun ns O=>Snd.bind fun bs B=>Snd.val fun _ I u hc=>?_
    rw[jE] at B;cases B;obtain⟨Y,g2⟩:=rN hp hc;exact⟨Y,aOe J ho I u hi q y M A g E g2 (wF O)⟩
   ·exact Snd.none
  ·exact Snd.none
 ·exact Snd.none
def aW2 (md:Bool) (a b:List (List C)):Option (List (List C)):=bif md then some (a++b) else frc (a++b)
theorem aPn (md:Bool) (a b:List (List C)):aW2 md a b=some (a++b):=by
 cases md
 ·exact jE _
 ·rfl
def aBo (tr:Tr) (md:Bool) (o:Oper) (n:Nat) (st:St) (ob:List Prop) (hn:Hn) (id0:Nat) (x y:Operand) (t:TypeId):Ans:=(tr.get t).bind fun i=>match i.k with
 | .sl e=>(tr.get e).bind fun ei=>match ei with
  | ⟨_,s0,b0,_⟩=>bif Nat.ble 1 s0&&Nat.ble 1 b0 then(opO st x).bind fun v=>(opO st y).bind fun u=>(aUu md st s0 hn u ob).bind fun(ids,rows,ob1)=>(match v with
  | .one (.hs id off len sz)=>match st.h id with
   | some (.arr te es elems fz)=>bif Nat.beq te e&&Nat.beq es s0 then(need md (sz=elems.length) ob1).bind fun ob2=>(need md (off=0∧len=sz) ob2).bind fun ob3=>(need md ((elems.length+rows.length)*b0≤140737488355328) ob3).bind fun ob4=>
     (aW2 md elems rows).bind fun l=>match fz with
     | 0=>val o n ⟨opr x++opr y,id::ids⟩ (.one (.hs id 0 (elems.length+rows.length) (elems.length+rows.length))) [(id,some (.arr e s0 l 0))] ob4
     | _+1=>val o n ⟨opr x++opr y,id::ids⟩ (.one (.hs id 0 (elems.length+rows.length) (elems.length+rows.length))) [(id,some (.arr e s0 l 1))] ob4
    else none
   | _=>none
  | .one (.c .nl)=>match st.h id0 with
   | none=>(need md (rows.length*b0≤140737488355328) ob1).bind fun ob2=>val o n ⟨opr x++opr y,id0::ids⟩ (.one (.hs id0 0 rows.length rows.length)) [(id0,some (.arr e s0 rows 0))] ob2
   | some _=>none
  | _=>none) else none
 | _=>none
theorem yO {hn:Hn}{U:Nat}{x y:Operand}{t:TypeId}(hw:tr.wf=true) (Y:Tok P tr.flat) (ho:o.op=.call { callee:=.builtin .append,args:= #[x,y],argTypes:= #[t,t] }):Snd P n o st ob (aBo tr md o n st ob hn U x y t):=by
 refine Snd.bind fun i hi=>?_
 replace hi:=Tr.get_ok hw hi
 split
 ·rename_i e hk;refine Snd.bind fun ei g=>?_
  obtain⟨k0,s0,b0,z0⟩:=ei;refine Snd.cond fun hb=>Snd.bind fun v O=>Snd.bind fun u hu=>Snd.bind fun p hp=>?_
  replace g:=Tr.get_ok hw g
  obtain⟨ids,rows,ob1⟩:=p;simp only[ε] at hb;rw[bW] at O hu;dsimp only;split
  ·rename_i id off len sz;split
   ·rename_i te es elems fz hh;refine Snd.cond fun A=>Snd.bind fun ob2 h2=>Snd.bind fun ob3 h3=>Snd.bind fun ob4 h4=>Snd.bind fun l hl=>?_
    simp only[ε] at A;have e1:=δ A.1;have e2:=δ A.2;subst e1 e2;rw[aPn] at hl;cases hl;split
    ·refine Snd.val fun _ B q hc=>?_
     obtain⟨E,I⟩:=aU h4 hc;obtain⟨J,M,g5⟩:=aU h3 E;obtain⟨g6,g7⟩:=aU h2 J;obtain⟨g8,g9⟩:=rN hp g6;subst M g5;exact⟨g8,zT Y ho B q hi hk g hb.1 hb.2 O hh g7 hu g9 I⟩
    ·refine Snd.val fun _ B q hc=>?_
     obtain⟨E,I⟩:=aU h4 hc;obtain⟨J,M,g5⟩:=aU h3 E;obtain⟨g6,g7⟩:=aU h2 J;obtain⟨g8,g9⟩:=rN hp g6;subst M g5;exact⟨g8,zT Y ho B q hi hk g hb.1 hb.2 O hh g7 hu g9 I⟩
   ·exact Snd.none
  ·split
   ·rename_i hid;refine Snd.bind fun ob2 h2=>Snd.val fun _ B q hc=>?_
    obtain⟨E,I⟩:=aU h2 hc;obtain⟨J,M⟩:=rN hp E;exact⟨J,aE7 U Y ho B q hi hk g hb.1 hb.2 O hid hu M I⟩
   ·exact Snd.none
  ·exact Snd.none
 ·exact Snd.none
def wS (tr:Tr) (md:Bool) (o:Oper) (n:Nat) (st:St) (ob:List Prop) (id0:Nat) (x y:Operand) (t:TypeId):Ans:=(tr.get t).bind fun i=>match i.k with
 | .sl e=>(tr.get e).bind fun ei=>match ei with
  | ⟨_,s0,b0,_⟩=>bif Nat.ble 1 s0&&Nat.ble 1 b0 then(opO st x).bind fun v=>(opO st y).bind fun u=>match u with
  | .one (.ra id2 off2 len2 sz2)=>match st.h id2 with
   | some (.rarr _ es2 rows)=>bif Nat.beq es2 s0&&(Nat.beq off2 0&&(Nat.beq len2 rows.length&&(Nat.beq sz2 rows.length&&Nat.blt 0 rows.length))) then(match v with
    | .one (.ra id off len sz)=>match st.h id with
     | some (.rarr te es elems)=>bif Nat.beq te e&&Nat.beq es s0 then(need md (sz=elems.length) ob).bind fun ob2=>(need md (off=0∧len=sz) ob2).bind fun ob3=>(need md ((elems.length+rows.length)*b0≤140737488355328) ob3).bind fun ob4=>
       val o n ⟨opr x++opr y,[id,id2]⟩ (.one (.ra id 0 (elems.length+rows.length) (elems.length+rows.length))) [(id,some (.rarr e s0 (elems++rows)))] ob4 else none
     | _=>none
    | .one (.c .nl)=>match st.h id0 with
     | none=>(need md (rows.length*b0≤140737488355328) ob).bind fun ob2=>val o n ⟨opr x++opr y,[id0,id2]⟩ (.one (.ra id0 0 rows.length rows.length)) [(id0,some (.rarr e s0 rows))] ob2
     | some _=>none
    | _=>none) else none
   | _=>none
  | _=>none
  else none
 | _=>none
theorem wR {E:Nat}{x y:Operand}{t:TypeId}(hw:tr.wf=true) (hT:Tok P tr.flat) (ho:o.op=.call { callee:=.builtin .append,args:= #[x,y],argTypes:= #[t,t] }):Snd P n o st ob (wS tr md o n st ob E x y t):=by
 refine Snd.bind fun i hi=>?_
 replace hi:=Tr.get_ok hw hi
 split
 ·rename_i e hk;refine Snd.bind fun ei g=>?_
  obtain⟨k0,s0,b0,z0⟩:=ei;refine Snd.cond fun hb=>Snd.bind fun v M=>Snd.bind fun u hu=>?_
  replace g:=Tr.get_ok hw g
  simp only[ε] at hb;rw[bW] at M hu;split
  ·rename_i id2 off2 len2 sz2;split
   ·rename_i te2 es2 rows I;refine Snd.cond fun J=>?_
    simp only[ε] at J;obtain⟨O,U,Y,c4,B⟩:=J;have O:=δ O;have U:=δ U;have Y:=δ Y;have c4:=δ c4;have B:=eC B;subst O U Y c4;split
    ·rename_i id off len sz;split
     ·rename_i te es elems hh;refine Snd.cond fun q=>Snd.bind fun ob2 h2=>Snd.bind fun ob3 h3=>Snd.bind fun ob4 h4=>Snd.val fun _ hd A hc=>?_
      simp only[ε] at q;have e1:=δ q.1;have e2:=δ q.2;subst e1;rw[e2] at hh;obtain⟨g1,g2⟩:=aU h4 hc;obtain⟨g3,g4,g5⟩:=aU h3 g1;obtain⟨g6,g7⟩:=aU h2 g3;subst g4 g5;exact⟨g6,aE6 hT ho hd A hi hk g hb.1 hb.2 M hh g7 hu I B g2⟩
     ·exact Snd.none
    ·split
     ·rename_i hid;refine Snd.bind fun ob2 h2=>Snd.val fun _ hd A hc=>?_
      obtain⟨g1,g2⟩:=aU h2 hc;exact⟨g1,aCh E hT ho hd A hi hk g hb.1 hb.2 M hid hu I B g2⟩
     ·exact Snd.none
    ·exact Snd.none
   ·exact Snd.none
  ·exact Snd.none
 ·exact Snd.none
def aU2 (P:Program) (f:FuncId):Bool:=match P.funcs[f]? with
 | some fn => !(fn.name == "runtime.NumGoroutine") && fn.body.isSome
 | none=>false
theorem aC8 {P:Program}{f:FuncId}(h:aU2 P f=true):fG P f:=by
 unfold aU2 at h;split at h
 ·rename_i fn g;simp only[ε,Bm] at h;refine⟨fn,g,h.1,?_⟩;cases hb:fn.body with
  | none=>rw[hb] at h;cases h.2
  | some _=>rfl
 ·cases h
def aL4 (P:Program) (f:FuncId) (args:List V) (res:V):Prop:=aU2 P f=true∧aV P f args [] res []
def oY (st:St):List Nat→List R→List Prop→Option (List Nat×List C×List Prop)
 | _,[],ob=>some ([],[],ob)
 | ty,r::rs,ob=>match r with
  | .c x=>(aDr ty [x]).bind fun y=>match y with
   | [y]=>(oY st ty.tail rs ob).bind fun(ids,cs,ob1)=>some (ids,y::cs,ob1)
   | _=>none
  | .hs id 0 len sz=>match st.h id with
   | some (.arr _ es elems 2)=>(oY st ty.tail rs ob).bind fun(ids,cs,ob1)=>some (id::ids,.sl es elems::cs,(sz=elems.length∧len=elems.length)::ob1)
   | _=>none
  | _=>none
theorem m5 {st:St}:∀{rs:List R}{ty:List Nat}{ob g:List Prop}{ids:List Nat}{cs:List C},oY st ty rs ob=some (ids,cs,g)→fX g→fX ob∧PureL st.h ids rs cs
 | [],ty,ob,g,ids,cs,h,hc=>by
  cases ty<;>(simp only[oY] at h;cases h;exact⟨hc,.nil⟩)
 | r::rs,ty,ob,g,ids,cs,h,hc=>by
  rw[oY.eq_def] at h;dsimp only at h;split at h
  ·rename_i x;rw[Ab] at h;obtain⟨y,hy,h⟩:=h;split at h
   ·rename_i I;rw[Ab] at h;obtain⟨⟨A,B,E⟩,h1,h2⟩:=h;cases h2;obtain⟨q,u⟩:=m5 h1 hc;rw[pB] at hy;have hp:=kN (h:=st.h) ty [x];rw[Option.some.inj hy] at hp;cases hp with
    | c hx _=>exact⟨q,.c hx u⟩
    | any _=>exact⟨q,.any u⟩
   ·cases h
  ·rename_i id len sz;split at h
   ·rename_i te es elems hh;rw[Ab] at h;obtain⟨⟨A,B,E⟩,h1,h2⟩:=h;cases h2;obtain⟨q,u⟩:=m5 h1 hc.2;exact⟨q,.hs hh hc.1.1 (by rw[hc.1.2,B0,Ao]) u⟩
   ·cases h
  ·cases h
def aPj (tr:Tr) (st:St) (v:V) (t:TypeId) (ob:List Prop):Option (List Nat×V×List Prop):=match v with
 | .one r=>(oY st (mI tr 300 [t]) [r] ob).bind fun(ids,cs,ob1)=>match cs with
  | [c]=>some (ids,.one (.c c),ob1)
  | _=>none
 | .pa l=>(aDr (mI tr 300 [t]) l).bind fun l'=>some ([],.pa l',ob)
 | .ma rs=>(oY st (mI tr 300 [t]) rs ob).bind fun(ids,cs,ob1)=>some (ids,.pa cs,ob1)
 | _=>none
theorem aKj {tr:Tr}{st:St}{v v':V}{t:TypeId}{ob g:List Prop}{ids:List Nat}(h:aPj tr st v t ob=some (ids,v',g)) (hc:fX g):(fX ob∧Conv st.h ids v v')∧v'.refs=[]:=by
 unfold aPj at h;split at h
 ·rw[Ab] at h;obtain⟨⟨q,A,B⟩,h1,h2⟩:=h;dsimp only at h2;split at h2
  ·cases h2;obtain⟨u,y⟩:=m5 h1 hc;exact⟨⟨u,.one y⟩,by simp[V.refs,R.refs]⟩
  ·cases h2
 ·rw[Ab] at h;obtain⟨l',h1,h2⟩:=h;cases h2;rw[pB] at h1;cases h1;exact⟨⟨hc,.pa (kN _ _)⟩,by simp[V.refs]⟩
 ·rw[Ab] at h;obtain⟨⟨q,A,B⟩,h1,h2⟩:=h;cases h2;obtain⟨u,y⟩:=m5 h1 hc;exact⟨⟨u,.agg y⟩,by simp[V.refs]⟩
 ·cases h
def aDl (tr:Tr) (st:St):List Operand→List TypeId→List Prop→Option (List Nat×List V×List Prop)
 | [],_,ob=>some ([],[],ob)
 | x::xs,t::ts,ob=>(opO st x).bind fun v=>(aPj tr st v t ob).bind fun(ids1,v',ob1)=>(aDl tr st xs ts ob1).bind fun(ids2,vs,ob2)=>some (ids1++ids2,v'::vs,ob2)
 | _::_,[],_=>none
theorem aBr {tr:Tr}{st:St}:∀{xs:List Operand}{ts:List TypeId}{ob g:List Prop}{ids:List Nat}{l:List V},aDl tr st xs ts ob=some (ids,l,g)→fX g→(fX ob∧ArgsV st ids xs l)∧V.refsL l=[]
 | [],ts,ob,g,ids,l,h,hc=>by
  cases ts<;>(simp only[aDl] at h;cases h;exact⟨⟨hc,.nil⟩,by simp[V.refsL]⟩)
 | x::xs,[],ob,g,ids,l,h,hc=>by simp[aDl] at h
 | x::xs,t::ts,ob,g,ids,l,h,hc=>by
  simp only[aDl,bW,Ab] at h;obtain⟨v,q,⟨u,v',U⟩,h1,⟨y,vs,Y⟩,h2,A⟩:=h;cases A;obtain⟨⟨B,E⟩,I⟩:=aBr h2 hc;obtain⟨⟨J,M⟩,O⟩:=aKj h1 B;exact⟨⟨J,.cons q M E⟩,by simp[V.refsL,O,I]⟩
def aNf (P:Program) (tr:Tr) (o:Oper) (n:Nat) (st:St) (ob:List Prop) (res:V) (f:FuncId) (xs:Array Operand) (ts:Array TypeId):Ans:=(aDl tr st xs.toList ts.toList ob).bind fun(ids,args,ob1)=>val o n ⟨bU xs.toList,ids⟩ res [] (aL4 P f args res::ob1)
theorem aHt {res:V}{f:FuncId}{xs:Array Operand}{ts:Array TypeId}(ho:o.op=.call { callee:=.value (.func f),args:=xs,argTypes:=ts }):Snd P n o st ob (aNf P tr o n st ob res f xs ts):=by
 refine Snd.bind fun p ha=>?_
 obtain⟨ids,args,B⟩:=p;refine Snd.val fun d q g hc=>?_
 obtain⟨⟨u,y⟩,A⟩:=aBr ha hc.2;refine⟨u,?_⟩;have:=aE5 [] [] (aC8 hc.1.1) ho q g hc.1.2 y trivial trivial (by simp[dU,A,keys,eG,subset]);simpa [outs,keys] using this
def aH4 (P:Program) (tr:Tr) (md:Bool) (o:Oper) (n:Nat) (st:St) (ob:List Prop) (hn:Hn) (id0:Nat) (c:Call):Ans:=match c.callee with
 | .builtin b=>match b,c.args.toList,c.argTypes.toList with
  | .len,[x],[t]=>aUj tr md o n st ob x t
  | .append,[x,y],[t,t']=>bif Nat.beq t t' then(match opO st y with | some (.one (.ra _ _ _ _))=>wS tr md o n st ob id0 x y t | _=>aBo tr md o n st ob hn id0 x y t) else none
  | .min,[x,y],[_,_]=>(opO st x).bind fun v=>(opO st y).bind fun u=>match v,u with
   | .one (.c (.int k a)),.one (.c (.int k' b))=>bif decide (k=k') then val o n ⟨opr x++opr y,[]⟩ (.one (.c (.int k (if b<a then b else a)))) [] ob else none
   | _,_=>none
  | .max,[x,y],[_,_]=>(opO st x).bind fun v=>(opO st y).bind fun u=>match v,u with
   | .one (.c (.int k a)),.one (.c (.int k' b))=>bif decide (k=k') then val o n ⟨opr x++opr y,[]⟩ (.one (.c (.int k (if b>a then b else a)))) [] ob else none
   | _,_=>none
  | _,_,_=>none
 | .value (.func f)=>match hn with
  | .pc res=>aNf P tr o n st ob res f c.args c.argTypes
  | _=>none
 | _=>none
theorem arr1 {α:Type}{a:Array α}{x:α}(h:a.toList=[x]):a= #[x]:=by cases a;simp at h;simp[h]
theorem aRg {α:Type}{a:Array α}{x y:α}(h:a.toList=[x,y]):a= #[x,y]:=by cases a;simp at h;simp[h]
theorem aH3 {hn:Hn}{I:Nat}{c:Call}(hw:tr.wf=true) (A:Tok P tr.flat) (ho:o.op=.call c):Snd P n o st ob (aH4 P tr md o n st ob hn I c):=by
 obtain⟨O,args,U⟩:=c;unfold aH4;dsimp only;split
 ·rename_i b;split
  ·rename_i x t h1 h2;have:=arr1 h1;have:=arr1 h2
   subst_vars
   exact aLu hw A ho
  ·rename_i x y t J h1 h2;have:=aRg h1;have:=aRg h2
   subst_vars
   refine Snd.cond fun M=>?_
   have:=δ M;subst this;split
   ·exact wR hw A ho
   ·exact yO hw A ho
  ·rename_i x y t J h1 h2;have:=aRg h1;have:=aRg h2
   subst_vars
   refine Snd.bind fun v g=>Snd.bind fun u hu=>?_
   rw[bW] at g hu;split
   ·refine Snd.cond fun B=>?_
    have:=κ B;subst this;exact Snd.val fun _ E q hc=>⟨hc,aVm ho E q g hu rfl⟩
   ·exact Snd.none
  ·rename_i x y t J h1 h2;have:=aRg h1;have:=aRg h2
   subst_vars
   refine Snd.bind fun v g=>Snd.bind fun u hu=>?_
   rw[bW] at g hu;split
   ·refine Snd.cond fun B=>?_
    have:=κ B;subst this;exact Snd.val fun _ E q hc=>⟨hc,aVn ho E q g hu rfl⟩
   ·exact Snd.none
  ·exact Snd.none
 ·split
  ·exact aHt ho
  ·exact Snd.none
 ·exact Snd.none
def idO (hn:Hn) (d:Option Nat):Option Nat:=match hn with
 | .id n=>some n
 | _=>match d with
  | some d=>some d
  | none=>none
def aLr (P:Program) (tr:Tr) (md nat:Bool) (n:Nat) (st:St) (hn:Hn) (o:Oper) (ob:List Prop):Ans:=match o.op with
 | .move x=>aBn o n st ob x
 | .assign x=>aBn o n st ob x
 | .pick c x y=>aNg o n st ob hn c x y
 | .alloc t=>(idO hn o.dst).bind fun id=>aH6 tr o n st ob id t
 | .box t x=>(idO hn o.dst).bind fun id=>aUk o n st ob id t x
 | .build t ps=>aH5 tr o n st ob t ps
 | .buildSlice t len ps=>(idO hn o.dst).bind fun id=>aHs tr o n st ob hn id t len ps
 | .load t x=>aNh tr md o n st ob hn t x
 | .store t x y=>aHr tr md o st ob hn t x y
 | .nilCheck x=>aUi md o n st ob x
 | .slice t x l h m=>aQs tr md o n st ob t x l h m
 | .index t x y=>aHy tr o n st ob hn t x y
 | .convert src dst x=>aNj tr md o n st ob hn src dst x
 | .binOp op tx x y _=>aUl tr md nat o n st ob op tx x y
 | .unOp op _ x=>aW3 md o n st ob op x
 | .makeFunc f a b=>aH0 o n st ob f a b
 | .makeMap t r=>(idO hn o.dst).bind fun id=>aQq tr o n st ob id t r
 | .fieldAddr t x f=>pY tr md o n st ob t x f
 | .field t x f=>aH1 tr o n st ob t x f
 | .indexAddr t x y=>pX tr md o n st ob hn t x y
 | .lookup t x y ok=>tK tr md o n st ob hn t x y ok
 | .mapUpdate t x y z=>j4 tr md o st ob t x y z
 | .insert t x y z=>j4 tr md o st ob t x y z
 | .extract x i=>wQ o n st ob x i
 | .call c=>(idO hn o.dst).bind fun id=>aH4 P tr md o n st ob hn id c
 | _=>none
theorem aBm {hn:Hn}(hw:tr.wf=true) (g:Tok P tr.flat):Snd P n o st ob (aLr P tr md nat n st hn o ob):=by
 unfold aLr;split
 ·rename_i ho;exact aHw ho
 ·rename_i ho;exact yN ho
 ·rename_i ho;exact aHu ho
 ·rename_i ho;exact Snd.bind fun _ _=>aDi hw g ho
 ·rename_i ho;exact Snd.bind fun _ _=>aLx ho
 ·rename_i ho;exact aDh hw g ho
 ·rename_i ho;exact Snd.bind fun _ _=>aDd hw g ho
 ·rename_i ho;exact aHx hw g ho
 ·rename_i ho;exact aDc hw g ho
 ·rename_i ho;exact aLs ho
 ·rename_i ho;exact aLw hw g ho
 ·rename_i ho;exact aDe hw g ho
 ·rename_i ho;exact aH2 hw g ho
 ·rename_i ho;exact aLy hw g ho
 ·rename_i ho;exact aQp ho
 ·rename_i ho;exact aHz ho
 ·rename_i ho;exact Snd.bind fun _ _=>aLt ho
 ·rename_i ho;exact qN hw g ho
 ·rename_i ho;exact aDg hw g ho
 ·rename_i ho;exact qM hw g ho
 ·rename_i ho;exact yK hw g ho
 ·rename_i ho;exact qL hw g ho
 ·rename_i ho;exact yL hw g ho
 ·rename_i ho;exact wP ho
 ·rename_i ho;exact Snd.bind fun _ _=>aH3 hw g ho
 ·exact Snd.none
theorem Step.freeze {rd:Rd}{g:Option (Nat×Option V)}{id te es z:Nat}{l:List (List C)}(h:Step P n o st rd ⟨g,[(id,some (.arr te es l z))]⟩):Step P n o st rd ⟨g,[(id,some (.arr te es l 2))]⟩:=by
 intro st' ha G S μ a w K Q hs q;refine h st' ha G S μ a w K Q hs fun S1 E u y h1=>?_
 have hh:(Eff.apply ⟨g,[(id,some (.arr te es l z))]⟩ st').h id=some (.arr te es l z):=by
  show fC st'.h [(id,some (.arr te es l z))] id=_;rw[bY,aH]
 obtain⟨S2,A,h2⟩:=h1.freeze hh;refine q S2 A u y ?_;have B:upd (Eff.apply ⟨g,[(id,some (.arr te es l z))]⟩ st').h id (some (.arr te es l 2))=(Eff.apply ⟨g,[(id,some (.arr te es l 2))]⟩ st').h:=by
  show upd (fC st'.h [(id,some (.arr te es l z))]) id _=fC st'.h [(id,some (.arr te es l 2))];rw[bY,bY,mX]
 rw[B] at h2;exact h2
def aWo:Ans→Ans
 | some (rd,⟨dv,[(id,some (.arr te es l _))]⟩,ob')=>some (rd,⟨dv,[(id,some (.arr te es l 2))]⟩,ob')
 | _=>none
theorem aQr {r:Ans}(h:Snd P n o st ob r):Snd P n o st ob (aWo r):=by
 intro rd f u e hc;unfold aWo at e;split at e
 ·cases e;obtain⟨g,q⟩:=h _ _ _ rfl hc;exact⟨g,q.freeze⟩
 ·cases e
def aU4 (P:Program) (tr:Tr) (md nat:Bool) (n:Nat) (st:St) (hn:Hn) (o:Oper) (ob:List Prop):Ans:=match hn with
 | .fz=>aWo (aLr P tr md nat n st .no o ob)
 | hn=>aLr P tr md nat n st hn o ob
theorem aHv {hn:Hn}(hw:tr.wf=true) (g:Tok P tr.flat):Snd P n o st ob (aU4 P tr md nat n st hn o ob):=by
 unfold aU4;split
 ·exact aQr (aBm hw g)
 ·exact aBm hw g
def yC:List Oper→Nat→Option Nat
 | [],_=>none
 | o::os,i=>bif Nat.beq i 0 then o.dst else yC os (i-1)
theorem aA2:∀(os:List Oper) (i:Nat),yC os i=(os[i]?).bind (·.dst)
 | [],i=>by simp[yC]
 | o::os,0=>by simp[yC]
 | o::os,i+1=>by
  have:Nat.beq (i+1) 0=false:=rfl;simp[yC,this,aA2 os i]
def axG (P:Program) (tr:Tr) (md nat:Bool) (n:Nat) (all:List Oper) (hs:List (Nat×Hn)) (k:Nat) (o:Oper) (st:St) (ob:List Prop):Ans:=match o.guard with
 | none=>aU4 P tr md nat n st (aJ8 hs k) o ob
 | some (j,want)=>(yC all j).bind fun t=>(st.e t).bind fun v=>match v with
  | .one (.c (.bool b))=>match aI1 (match aJ8 hs j with | .bv w=>.bv w | _=>.no) b ob with
   | (w,ob1)=>bif w==want then(aU4 P tr md nat n st (aJ8 hs k) o ob1).bind fun(rd,f,ob2)=>some (⟨t::rd.e,rd.h⟩,f,ob2)
    else match o.dst with
     | some d=>bif Nat.blt d n then some (⟨[t],[]⟩,⟨some (d,some (.tup [])),[]⟩,ob1) else none
     | none=>none
  | .tup []=>match o.dst with
   | some d=>bif Nat.blt d n then some (⟨[t],[]⟩,⟨some (d,some (.tup [])),[]⟩,ob) else none
   | none=>none
  | _=>none
theorem aNi {ops:Array Oper}{hs:List (Nat×Hn)}{k:Nat}{rd:Rd}{f:Eff}{u:List Prop}(hw:tr.wf=true) (M:Tok P tr.flat) (ho:ops[k]?=some o) (h:axG P tr md nat n ops.toList hs k o st ob=some (rd,f,u)):fX u→fX ob∧GStep P n ops k st rd f:=by
 intro hc;unfold axG at h;split at h
 ·rename_i q;obtain⟨h1,h2⟩:=aHv hw M _ _ _ h hc;exact⟨h1,GStep.plain ho q h2⟩
 ·rename_i j want q;rw[Ab] at h;obtain⟨t,O,h⟩:=h;rw[Ab] at h;obtain⟨v,A,h⟩:=h;have B:(ops[j]?).bind (·.dst)=some t:=by
   rw[aA2] at O;simpa using O
  split at h
  ·rename_i b;split at h;rename_i w aa y;cases g:w==want with
   | true=>
    rw[g] at h;simp only[Bk] at h;rw[Ab] at h;obtain⟨⟨ab,f1,ac⟩,h1,h2⟩:=h;cases h2;obtain⟨U,Y⟩:=aHv hw M _ _ _ h1 hc;obtain⟨E,I⟩:=oB y U;exact⟨E,GStep.yes ho q B A (I.trans (eq_of_beq g)) Y⟩
   | false=>
    rw[g] at h;simp only[Bi] at h;split at h
    ·rename_i d J;obtain⟨h1,h2⟩:=cZ h;cases h2;obtain⟨E,I⟩:=oB y hc;refine⟨E,GStep.no ho q J (eC h1) B A I ?_⟩;cases w<;>cases want<;>first | rfl | (cases g)
    ·cases h
  ·split at h
   ·rename_i d J;obtain⟨h1,h2⟩:=cZ h;cases h2;exact⟨hc,GStep.un ho q J (eC h1) B A⟩
   ·cases h
  ·cases h
def rF (P:Program) (tr:Tr) (md nat:Bool) (n:Nat) (all:List Oper) (hs:List (Nat×Hn)):Nat→Nat→List Oper→(Nat→Option V)→bX→List Nat→REs→List Prop→Option (St×Nat×REs×List Prop)
 | 0,k,_,e,h,d,pre,ob=>some (⟨e,h,d⟩,k,pre,ob)
 | _+1,k,[],e,h,d,pre,ob=>some (⟨e,h,d⟩,k,pre,ob)
 | m+1,k,o::os,e,h,d,pre,ob=>(axG P tr md nat n all hs k o ⟨e,h,d⟩ ob).bind fun(rd,f,ob1)=>match f with
  | ⟨some (t,v),[]⟩=>rF P tr md nat n all hs m (k+1) os (upd e t v) h d ((rd,⟨some (t,v),[]⟩)::pre) ob1
  | ⟨some (t,v),[(id,x)]⟩=>rF P tr md nat n all hs m (k+1) os (upd e t v) (upd h id x) d ((rd,⟨some (t,v),[(id,x)]⟩)::pre) ob1
  | ⟨none,[(id,x)]⟩=>rF P tr md nat n all hs m (k+1) os e (upd h id x) d ((rd,⟨none,[(id,x)]⟩)::pre) ob1
  | _=>none
theorem yM {ops:Array Oper}{hs:List (Nat×Hn)}{draw:Bool}(hw:tr.wf=true) (U:Tok P tr.flat):∀(m k:Nat) (os:List Oper) (e:Nat→Option V) (h:bX) (d:List Nat) (pre:REs) (ob:List Prop) (st':St) (k':Nat) (pre':REs) (A:List Prop),os=ops.toList.drop k→
  rF P tr md nat n ops.toList hs m k os e h d pre ob=some (st',k',pre',A)→fX A→fX ob∧∀Q,i7 QP P n ops draw k' st' pre' Q→i7 QP P n ops draw k ⟨e,h,d⟩ pre Q:=by
 intro m
 induction m with
 | zero=>
  intro k os e h d pre ob st' k' pre' A _ g hc;simp only[rF] at g;cases g;exact⟨hc,fun Q hq=>hq⟩
 | succ m I=>
  intro k os e h d pre ob st' k' pre' A E g hc;cases os with
  | nil=>
   simp only[rF] at g;cases g;exact⟨hc,fun Q hq=>hq⟩
  | cons o os=>
   have ho:ops[k]?=some o:=by
    have:(ops.toList.drop k)[0]?=some o:=by rw[←E];rfl
    simpa using this
   have q:os=ops.toList.drop (k+1):=by
    have:os=(ops.toList.drop k).tail:=by rw[←E];rfl
    rw[this,List.tail_drop]
   simp only[rF,Ab] at g;obtain⟨⟨rd,f,J⟩,h1,h2⟩:=g;have key:∀{B:St},fX J→B=f.apply ⟨e,h,d⟩→(∀Q,i7 QP P n ops draw k' st' pre' Q→i7 QP P n ops draw (k+1) B ((rd,f)::pre) Q)→fX ob∧∀Q,i7 QP P n ops draw k' st' pre' Q→i7 QP P n ops draw k ⟨e,h,d⟩ pre Q:=by
    intro B M O Y;obtain⟨u,y⟩:=aNi hw U ho h1 M;subst O;exact⟨u,fun Q hq=>k_ y (Y Q hq)⟩
   split at h2
   ·rename_i heq;have heq:f=_:=heq;subst heq;obtain⟨u,y⟩:=I _ _ _ _ _ _ _ _ _ _ _ q h2 hc;exact key u (by simp only[Eff.apply,zA]) y
   ·rename_i heq;have heq:f=_:=heq;subst heq;obtain⟨u,y⟩:=I _ _ _ _ _ _ _ _ _ _ _ q h2 hc;exact key u (by simp only[Eff.apply,bY]) y
   ·rename_i heq;have heq:f=_:=heq;subst heq;obtain⟨u,y⟩:=I _ _ _ _ _ _ _ _ _ _ _ q h2 hc;exact key u (by simp only[Eff.apply,bY]) y
   ·cases h2
end
section
variable {QP:Value→Prop}{ro:Option Nat}{P:Program}{n:Nat}{ops:Array Oper}{draw:Bool}{k k':Nat}{st st':St}{pre pre':REs}{Q:St→Prop}{tr:Tr}{ob:List Prop}
theorem ax_ {hs:List (Nat×Hn)}{md nat:Bool}(m:Nat) (hw:tr.wf=true) (g:Tok P tr.flat) (h:rF P tr md nat n ops.toList hs m k (ops.toList.drop k) st.e st.h st.d pre []=some (st',k',pre',ob)) (hc:fX ob) (q:i7 QP P n ops draw k' st' pre' Q):i7 QP P n ops draw k st pre Q:=
 (yM hw g m k _ st.e st.h st.d pre [] st' k' pre' ob rfl h hc).2 Q q
theorem aNk {hs:List (Nat×Hn)}{md nat:Bool}{kf:List Nat}{id:Nat}{Q:Exit→St→Prop}(hm:P.follows .mixedOrders=true) (hw:tr.wf=true) (g:Tok P tr.flat) (h:rF P tr md nat n ops.toList hs 1000 0 ops.toList st.e st.h st.d [] []=some (st',k',pre',ob)) (hc:fX ob)
  (h1:Nat.beq k' ops.size=true) (h2:(!draw || (cK (preds ops) pre'.reverse []&&dM ops))=true) (hq:Q .normal st'):AWp ro P n kf (.region id ops draw) st Q:=
 aC hm ((yM hw g 1000 0 _ st.e st.h st.d [] [] st' k' pre' ob rfl h hc).2 _ (z_ h1 h2 hq))
end
theorem hs_all {h:bX}{id te es n:Nat}{l l':List (List C)}{fz:Nat}(h1:h id=some (.arr te es l fz)) (g:fz=2) (h2:n=l.length) (q:l=l'):Conv h [id] (.one (.hs id 0 n n)) (.one (.c (.sl es l'))):=by
 subst h2;subst q;subst g;exact .one (.hs h1 rfl (by rw[B0,Ao]) .nil)
section
variable {QP:Value→Prop}{P:Program}{n:Nat}{ops:Array Oper}{draw:Bool}{k d:Nat}{st:St}{pre:REs}{Q:St→Prop}{o:Oper}{f:FuncId}{xs:Array Operand}{ts:Array TypeId}{ids:List Nat}{args:List V}{res:V}{hin hout:List (Nat×AObj)}
theorem kc (A:aV P f args hin res hout)
  (B:i7 QP P n ops draw (k+1) ⟨upd st.e d (some res),fC st.h (outs hout),st.d⟩ ((⟨bU xs.toList,ids++keys hin++keys hout⟩,⟨some (d,some res),outs hout⟩)::pre) Q)
  (hb:fG P f:=by exact aC8 (by kernel_rfl)) (ho:ops[k]?=some o:=by rfl) (E:o.guard=none:=by rfl) (u:o.op=.call { callee:=.value (.func f),args:=xs,argTypes:=ts }:=by rfl) (I:o.dst=some d:=by rfl) (y:Nat.blt d n=true:=by rfl)
  (ha:ArgsV st ids xs.toList args:=by repeat (first | exact .nil | (apply Go.AM.ArgsV.cons rfl;(first | exact .refl | exact .one (.c .nl .nil) | exact .one (.c .sn .nil) | exact .one (.hs rfl (by first | rfl | simp) (by first | rfl | (simp;done) | (simp[Go.AM.take_map];done) | exact Go.AM.take_map.symm) .nil) | exact Go.AM.hs_all rfl rfl (by first | rfl | assumption | (simp;done) | (simp;omega)) (by first | rfl | assumption | (simp;done)) | ((first | apply Go.AM.Conv.pa | apply Go.AM.Conv.agg);repeat (first | exact .nil | apply Go.AM.PureL.c .refl | apply Go.AM.PureL.c .nl | apply Go.AM.PureL.c .sn | (apply Go.AM.PureL.hs;rfl;(first | rfl | simp);(first | rfl | (simp;done) | (simp[Go.AM.take_map];done) | exact Go.AM.take_map.symm))))))))
  (q:eF (fun p=>st.h p.1=some p.2) hin:=by repeat (first | exact trivial | refine⟨rfl,?_⟩)) (g:eF (fun p=>p.1∈keys hin∨st.h p.1=none) hout:=by repeat (first | exact trivial | refine⟨.inr rfl,?_⟩ | refine⟨.inl (by decide),?_⟩ | refine⟨.inl (by repeat (first | exact List.Mem.head _ | apply List.Mem.tail)),?_⟩)) (hok:dU args hin=true:=by rfl):i7 QP P n ops draw k st pre Q:=
 k_ (g_ ho E (aE5 hin hout hb u I (eC y) A ha q g hok)) B
theorem kv {x:Operand}{caps:List R}(A:aV P f (args++caps.map V.one) hin res hout)
  (B:i7 QP P n ops draw (k+1) ⟨upd st.e d (some res),fC st.h (outs hout),st.d⟩ ((⟨opr x++bU xs.toList,ids++keys hin++keys hout⟩,⟨some (d,some res),outs hout⟩)::pre) Q)
  (hb:fG P f:=by exact aC8 (by kernel_rfl)) (ho:ops[k]?=some o:=by rfl) (E:o.guard=none:=by rfl) (u:o.op=.call { callee:=.value x,args:=xs,argTypes:=ts }:=by rfl) (I:o.dst=some d:=by rfl) (y:Nat.blt d n=true:=by rfl) (hx:opv st x=some (.one (.clo f caps)):=by rfl)
  (ha:ArgsV st ids xs.toList args:=by repeat (first | exact .nil | (apply Go.AM.ArgsV.cons rfl;(first | exact .refl | exact .one (.c .nl .nil) | exact .one (.c .sn .nil) | exact .one (.hs rfl (by first | rfl | simp) (by first | rfl | (simp;done) | (simp[Go.AM.take_map];done) | exact Go.AM.take_map.symm) .nil) | exact Go.AM.hs_all rfl rfl (by first | rfl | assumption | (simp;done) | (simp;omega)) (by first | rfl | assumption | (simp;done)) | ((first | apply Go.AM.Conv.pa | apply Go.AM.Conv.agg);repeat (first | exact .nil | apply Go.AM.PureL.c .refl | apply Go.AM.PureL.c .nl | apply Go.AM.PureL.c .sn | (apply Go.AM.PureL.hs;rfl;(first | rfl | simp);(first | rfl | (simp;done) | (simp[Go.AM.take_map];done) | exact Go.AM.take_map.symm))))))))
  (q:eF (fun p=>st.h p.1=some p.2) hin:=by repeat (first | exact trivial | refine⟨rfl,?_⟩)) (g:eF (fun p=>p.1∈keys hin∨st.h p.1=none) hout:=by repeat (first | exact trivial | refine⟨.inr rfl,?_⟩ | refine⟨.inl (by decide),?_⟩ | refine⟨.inl (by repeat (first | exact List.Mem.head _ | apply List.Mem.tail)),?_⟩)) (hok:dU (args++caps.map V.one) hin=true:=by rfl):i7 QP P n ops draw k st pre Q:=
 k_ (g_ ho E (aE3 hin hout hb u I (eC y) hx A ha q g hok)) B
end
inductive Res where
 | leaf (st:St) (k:Nat) (pre:REs) (ob:List Prop)
 | fork (b:Bool) (x y:Res)
def Res.obs:Res→Prop
 | .leaf _ _ _ ob=>fX ob
 | .fork b x y=>(b=true→x.obs)∧(b=false→y.obs)
def Res.good (ops:Array Oper) (draw:Bool):Res→Bool
 | .leaf _ k pre _=>Nat.beq k ops.size&&(!draw || (cK (preds ops) pre.reverse []&&dM ops))
 | .fork _ x y=>x.good ops draw&&y.good ops draw
def Res.all (Q:St→Prop):Res→Prop
 | .leaf st _ _ _=>Q st
 | .fork b x y=>(b=true→x.all Q)∧(b=false→y.all Q)
def aOt:Nat→List Nat→Bool
 | _,[]=>false
 | i,x::l=>bif Nat.beq i x then true else aOt i l
theorem aAi:∀{i:Nat}{l:List Nat},aOt i l=true↔i∈l
 | i,[]=>by simp[aOt]
 | i,x::l=>by
  simp only[aOt];cases h:Nat.beq i x with
  | true=>have:=δ h;simp[this]
  | false=>
   have:i≠x:=fun e=>by subst e;simp at h
   simp[this,aAi]
def aS4 (all:List Oper) (dec:List Nat) (o:Oper):Option Nat:=
 match (match o.guard with | some (j,_)=>(yC all j).bind fun t=>bif aOt t dec then none else some t | none=>none) with
 | some t=>some t
 | none=>match o.op with
  | .pick (.tmp t) _ _=>bif aOt t dec then none else some t
  | _=>none
def mS (P:Program) (tr:Tr) (md nat:Bool) (n:Nat) (all:List Oper) (hs:List (Nat×Hn)) (W:List Nat):Nat→Nat→List Oper→(Nat→Option V)→bX→List Nat→List Nat→REs→List Prop→Option Res
 | 0,_,_,_,_,_,_,_,_=>none
 | _+1,k,[],e,h,d,_,pre,ob=>some (.leaf ⟨e,h,d⟩ k pre ob)
 | m+1,k,o::os,e,h,d,dec,pre,ob=>match aS4 all dec o with
  | some t=>match e t with
   | some (.one (.c (.bool b)))=>(mS P tr md nat n all hs W m k (o::os) (upd e t (some (.one (.c (.bool true))))) h d (t::dec) pre ob).bind fun x=>
     (mS P tr md nat n all hs W m k (o::os) (upd e t (some (.one (.c (.bool false))))) h d (t::dec) pre ob).bind fun y=>some (.fork b x y)
   | _=>mS P tr md nat n all hs W m k (o::os) e h d (t::dec) pre ob
  | none=>(axG P tr md nat n all hs k o ⟨e,h,d⟩ ob).bind fun(rd,f,ob1)=>match f with
   | ⟨some (t,v),[]⟩=>bif aOt t W then mS P tr md nat n all hs W m (k+1) os (upd e t v) h d dec ((rd,⟨some (t,v),[]⟩)::pre) ob1 else none
   | _=>none
section
variable {QP:Value→Prop}{P:Program}{n:Nat}{tr:Tr}{md nat:Bool}
theorem yZ {e:Nat→Option V}{t:Nat}{x:Option V}(h:e t=x):upd e t x=e:=by
 funext i;simp only[upd];split
 ·rename_i hb;rw[δ hb,h]
 ·rfl
theorem aLv {ops:Array Oper}{hs:List (Nat×Hn)}{W:List Nat}{draw:Bool}(hw:tr.wf=true) (E:Tok P tr.flat):∀(m k:Nat) (os:List Oper) (e:Nat→Option V) (h:bX) (d dec:List Nat) (pre:REs) (ob:List Prop) (res:Res),os=ops.toList.drop k→
  mS P tr md nat n ops.toList hs W m k os e h d dec pre ob=some res→res.obs→res.good ops draw=true→∀Q,res.all Q→fX ob∧i7 QP P n ops draw k ⟨e,h,d⟩ pre Q:=by
 intro m
 induction m with
 | zero=>intro k os e h d dec pre ob res _ q;simp[mS] at q
 | succ m A=>
  intro k os e h d dec pre ob res u q ho g Q hq;cases os with
  | nil=>
   simp only[mS] at q;cases q;simp only[Res.good,ε] at g;exact⟨ho,z_ g.1 g.2 hq⟩
  | cons o os=>
   have hok:ops[k]?=some o:=by
    have:(ops.toList.drop k)[0]?=some o:=by rw[←u];rfl
    simpa using this
   have B:os=ops.toList.drop (k+1):=by
    have:os=(ops.toList.drop k).tail:=by rw[←u];rfl
    rw[this,List.tail_drop]
   simp only[mS] at q;split at q
   ·rename_i t _;split at q
    ·rename_i b hb;rw[Ab] at q;obtain⟨x,hx,q⟩:=q;rw[Ab] at q;obtain⟨y,hy,q⟩:=q;cases q;simp only[Res.obs] at ho;simp only[Res.good,ε] at g;simp only[Res.all] at hq;cases b with
     | true=>
      rw[yZ hb] at hx;exact A _ _ _ _ _ _ _ _ _ u hx (ho.1 rfl) g.1 Q (hq.1 rfl)
     | false=>
      rw[yZ hb] at hy;exact A _ _ _ _ _ _ _ _ _ u hy (ho.2 rfl) g.2 Q (hq.2 rfl)
    ·exact A _ _ _ _ _ _ _ _ _ u q ho g Q hq
   ·rw[Ab] at q;obtain⟨⟨rd,f,Y⟩,h1,h2⟩:=q;dsimp only at h2;split at h2
    ·obtain⟨_,I⟩:=cZ h2;obtain⟨J,M⟩:=A _ _ _ _ _ _ _ _ _ B I ho g Q hq;obtain⟨O,U⟩:=aNi hw E hok h1 J;refine⟨O,k_ U ?_⟩;simpa only[Eff.apply,zA] using M
    ·cases h2
def Res.keep (e0:Nat→Option V) (h0:bX) (d0:List Nat) (W:List Nat):Res→Prop
 | .leaf st _ _ _=>(∀t,t∉W→∀v,e0 t=some v→st.e t=some v)∧st.h=h0∧st.d=d0
 | .fork b x y=>(b=true→x.keep e0 h0 d0 W)∧(b=false→y.keep e0 h0 d0 W)
theorem aDf {all:List Oper}{hs:List (Nat×Hn)}{W:List Nat}{e0:Nat→Option V}:∀(m k:Nat) (os:List Oper) (e:Nat→Option V) (h:bX) (d dec:List Nat) (pre:REs) (ob:List Prop) (res:Res),
  mS P tr md nat n all hs W m k os e h d dec pre ob=some res→(∀t,t∉W→∀v,e0 t=some v→e t=some v)→res.keep e0 h d W:=by
 intro m
 induction m with
 | zero=>intro k os e h d dec pre ob res g;simp[mS] at g
 | succ m q=>
  intro k os e h d dec pre ob res g he;cases os with
  | nil=>
   simp only[mS] at g;cases g;exact⟨he,rfl,rfl⟩
  | cons o os=>
   simp only[mS] at g;split at g
   ·rename_i t _;split at g
    ·rename_i b hb;rw[Ab] at g;obtain⟨x,hx,g⟩:=g;rw[Ab] at g;obtain⟨y,hy,g⟩:=g;cases g;refine⟨fun A=>?_,fun B=>?_⟩
     ·subst A;rw[yZ hb] at hx;exact q _ _ _ _ _ _ _ _ _ hx he
     ·subst B;rw[yZ hb] at hy;exact q _ _ _ _ _ _ _ _ _ hy he
    ·exact q _ _ _ _ _ _ _ _ _ g he
   ·rw[Ab] at g;obtain⟨⟨rd,f,J⟩,h1,h2⟩:=g;dsimp only at h2;split at h2
    ·obtain⟨hm,I⟩:=cZ h2;refine q _ _ _ _ _ _ _ _ _ I fun s hs u hu=>?_
     have E:s≠_:=fun e=>hs (by rw[e];exact aAi.1 hm)
     rw[aW _ _ _ E];exact he s hs u hu
    ·cases h2
def Res.boolAt (w:Nat):Res→Option Bool
 | .leaf st _ _ _=>match st.e w with
  | some (.one (.c (.bool x)))=>some x
  | _=>none
 | .fork b x y=>(x.boolAt w).bind fun p=>(y.boolAt w).bind fun q=>some (bif b then p else q)
theorem Res.boolAt_all {w:Nat}:∀{r:Res}{x:Bool},r.boolAt w=some x→r.all fun st=>st.e w=some (.one (.c (.bool x)))
 | .leaf st _ _ _,x,h=>by
  simp only[Res.boolAt] at h;split at h
  ·rename_i hx;cases h;exact hx
  ·cases h
 | .fork b p q,x,h=>by
  simp only[Res.boolAt,Ab] at h;obtain⟨u,hu,v,g,h⟩:=h;cases h;refine⟨fun hb=>?_,fun hb=>?_⟩
  ·subst hb;exact Res.boolAt_all hu
  ·subst hb;exact Res.boolAt_all g
def pD (res:Res):List Nat→Option (List (Nat×Option V))
 | []=>some []
 | w::ws=>(pD res ws).bind fun l=>match res.boolAt w with
  | some x=>some ((w,some (.one (.c (.bool x))))::l)
  | none=>some ((w,none)::l)
def kX (e:Nat→Option V):List (Nat×Option V)→Nat→Option V
 | [],t=>e t
 | (w,v)::l,t=>bif Nat.beq t w then v else kX e l t
theorem uW {res:Res}{e0:Nat→Option V}{t:Nat}:∀{W:List Nat}{L:List (Nat×Option V)},pD res W=some L→kX e0 L t=if t∈W then(res.boolAt t).map (fun x=>V.one (.c (.bool x))) else e0 t
 | [],L,h=>by
  simp only[pD] at h;cases h;simp[kX]
 | w::ws,L,h=>by
  simp only[pD,Ab] at h;obtain⟨l,hl,h⟩:=h;have q:=uW (e0:=e0) (t:=t) hl;have u:L=(w,(res.boolAt w).map (fun x=>V.one (.c (.bool x))))::l:=by
   split at h
   ·rename_i x hx;cases h;rw[hx];rfl
   ·rename_i hx;cases h;rw[hx];rfl
  subst u;simp only[kX];by_cases g:t=w
  ·subst g;simp
  ·have hb:Nat.beq t w=false:=by
    cases hb:Nat.beq t w with
    | true=>exact absurd (δ hb) g
    | false=>rfl
   rw[hb,Bi,q];simp[g]
theorem Res.all_mono {Q Q':St→Prop}(h:∀st,Q st→Q' st):∀{r:Res},r.all Q→r.all Q'
 | .leaf st _ _ _,k=>h st k
 | .fork _ _ _,k=>⟨fun hb=>Res.all_mono h (k.1 hb),fun hb=>Res.all_mono h (k.2 hb)⟩
theorem Res.all_forall {α:Type}{Q:α→St→Prop}:∀{r:Res},(∀a,r.all (Q a))→r.all fun st=>∀a,Q a st
 | .leaf _ _ _ _,k=>fun a=>k a
 | .fork _ _ _,k=>⟨fun hb=>Res.all_forall fun a=>(k a).1 hb,fun hb=>Res.all_forall fun a=>(k a).2 hb⟩
theorem Res.all_and {Q Q':St→Prop}:∀{r:Res},r.all Q→r.all Q'→r.all fun st=>Q st∧Q' st
 | .leaf _ _ _ _,h,k=>⟨h,k⟩
 | .fork _ _ _,h,k=>⟨fun hb=>Res.all_and (h.1 hb) (k.1 hb),fun hb=>Res.all_and (h.2 hb) (k.2 hb)⟩
theorem Res.keep_at {e0:Nat→Option V}{h0:bX}{d0 W:List Nat}{t:Nat}{v:V}(g:t∉W) (q:e0 t=some v):∀{r:Res},r.keep e0 h0 d0 W→r.all fun st=>st.e t=some v
 | .leaf _ _ _ _,k=>k.1 t g v q
 | .fork _ _ _,k=>⟨fun hb=>Res.keep_at g q (k.1 hb),fun hb=>Res.keep_at g q (k.2 hb)⟩
theorem Res.keep_hd {e0:Nat→Option V}{h0:bX}{d0 W:List Nat}:∀{r:Res},r.keep e0 h0 d0 W→r.all fun st=>st.h=h0∧st.d=d0
 | .leaf _ _ _ _,k=>k.2
 | .fork _ _ _,k=>⟨fun hb=>Res.keep_hd (k.1 hb),fun hb=>Res.keep_hd (k.2 hb)⟩
theorem aJz {res:Res}{e0:Nat→Option V}{h0:bX}{d0 W:List Nat}{L:List (Nat×Option V)}(h:pD res W=some L) (u:res.keep e0 h0 d0 W):res.all fun st=>(∀p:Nat×V,kX e0 L p.1=some p.2→st.e p.1=some p.2)∧(st.h=h0∧st.d=d0):=by
 refine Res.all_and (Res.all_forall fun p=>?_) (Res.keep_hd u);by_cases g:kX e0 L p.1=some p.2
 ·refine Res.all_mono (fun st h _=>h) (?_:res.all fun st=>st.e p.1=some p.2);rw[uW h] at g;by_cases q:p.1∈W
  ·rw[θ q,Option.map_eq_some_iff] at g;obtain⟨x,hx,g⟩:=g;rw[←g];exact Res.boolAt_all hx
  ·rw[ξ q] at g;exact Res.keep_at q g u
 ·have:∀r:Res,r.all fun st=>kX e0 L p.1=some p.2→st.e p.1=some p.2:=by
   intro r
   induction r with
   | leaf st k pre ob=>exact fun h=>absurd h g
   | fork b x y A B=>exact⟨fun _=>A,fun _=>B⟩
  exact this res
theorem Sub.weak {kf:List Nat}{g st2:St}(he:∀p:Nat×V,st2.e p.1=some p.2→g.e p.1=some p.2) (hh:g.h=st2.h) (q:g.d=st2.d):Sub kf st2 g:=by
 intro G n S μ a w _ hs;refine⟨S,μ,⟨?_,hs.size,?_,fun t v e=>?_⟩⟩
 ·rw[←hh];exact hs.inv
 ·rw[←hh,←q];exact hs.defers
 ·rw[←hh];exact hs.env t v (he (t,v) e)
def aRe:List Oper→List Nat
 | []=>[]
 | o::os=>match o.dst with
  | some t=>t::aRe os
  | none=>aRe os
theorem aQu {ro:Option Nat}{ops:Array Oper}{draw:Bool}{st:St}{u:Nat→Option V}{h1:bX}{d1:List Nat}{q:Nat}{g:REs}{y:List Prop}{res:Res}{L:List (Nat×Option V)}{hs:List (Nat×Hn)}{kf:List Nat}{id:Nat}{Q:Exit→St→Prop}(m:Nat) (hm:P.follows .mixedOrders=true) (hw:tr.wf=true) (E:Tok P tr.flat)
  (O:rF P tr md nat n ops.toList hs m 0 ops.toList st.e st.h st.d [] []=some (⟨u,h1,d1⟩,q,g,y))
  (I:mS P tr md nat n ops.toList hs (aRe (ops.toList.drop q)) 1000 q (ops.toList.drop q) u h1 d1 [] g y=some res)
  (U:pD res (aRe (ops.toList.drop q))=some L) (ho:res.obs) (Y:res.good ops draw=true) (hq:Q .normal ⟨kX u L,h1,d1⟩):AWp ro P n kf (.region id ops draw) st Q:=by
 have hk:=aDf (P:=P) (tr:=tr) (md:=md) (nat:=nat) (n:=n) (e0:=u) _ _ _ _ _ _ _ _ _ _ I (fun _ _ _ h=>h);have J:=aJz U hk;have A:res.all fun st'=>Sub kf ⟨kX u L,h1,d1⟩ st':=Res.all_mono (fun st h=>Sub.weak h.1 h.2.1 h.2.2) J
 obtain⟨M,B⟩:=aLv (draw:=draw) hw E _ _ _ _ _ _ _ _ _ _ rfl I ho Y _ A;exact aQt _ hm ((yM hw E m 0 _ st.e st.h st.d [] [] _ q g y rfl O M).2 _ B) hq
end
end Go.AM
