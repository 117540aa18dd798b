/-
  Texts Am23 to Am26 in one.
-/
import Derived.Test.YtpmheldmadendaaGreatDoorM4
import Derived.KernelRfl
open List (drop_zero map_cons take_length)
open Nat (eq_of_beq_eq_true le_of_ble_eq_true zero_add)
namespace Go.AM
open Go
def frc {α:Type}:List α→Option (List α)
 | []=>some []
 | x::xs=>(frc xs).bind fun l=>some (x::l)
theorem j5 {α:Type}:∀l:List α,frc l=some l
 | []=>rfl
 | x::xs=>by simp[frc,j5 xs]
def tak {α:Type}:Nat→List α→Option (List α)
 | 0,_=>some []
 | _+1,[]=>none
 | k+1,x::xs=>(tak k xs).bind fun l=>some (x::l)
theorem pB {α:Type}:∀{k:Nat}{l r:List α},tak k l=some r→k≤l.length∧l.take k=r
 | 0,l,r,h=>by simp[tak] at h;simp[h]
 | k+1,[],r,h=>by simp[tak] at h
 | k+1,x::xs,r,h=>by
  simp only[tak,Ab] at h;obtain⟨l,h1,h2⟩:=h;cases h2;obtain⟨j,c⟩:=pB h1;exact⟨by simp;omega,by simp[c]⟩
inductive Tr where
 | leaf (o:Option TI)
 | node (k:Nat) (l r:Tr)
def Tr.get:Tr→Nat→Option TI
 | .leaf o,t=>bif Nat.beq t 0 then o else none
 | .node k l r,t=>bif Nat.blt t k then l.get t else r.get (t-k)
def Tr.flat:Tr→TT
 | .leaf o=>[o]
 | .node _ l r=>l.flat++r.flat
def Tr.wf:Tr→Bool
 | .leaf _=>true
 | .node k l r=>Nat.beq k l.flat.length&&(l.wf&&r.wf)
theorem Tr.get_ok:∀{tr:Tr}{t:Nat}{i:TI},tr.wf=true→tr.get t=some i→tr.flat[t]?=some (some i)
 | .leaf o,t,i,_,h=>by
  simp only[Tr.get] at h;cases hb:Nat.beq t 0 with
  | false=>rw[hb] at h;cases h
  | true=>
   rw[hb] at h;have:=δ hb;subst this;simp only[Bp] at h;simp[Tr.flat,h]
 | .node k l r,t,i,hw,h=>by
  simp only[Tr.wf,τ] at hw;have j:=δ hw.1;simp only[Tr.get] at h;simp only[Tr.flat,B2];cases hb:Nat.blt t k with
  | true=>
   rw[hb] at h;have:t<k:=Al hb;rw[θ (by omega)];exact Tr.get_ok hw.2.1 h
  | false=>
   rw[hb] at h;have:¬t<k:=fun c=>by
    have:Nat.blt t k=true:=Nat.ble_eq_true_of_le c;rw[hb] at this;cases this
   rw[ξ (by omega),←j];exact Tr.get_ok hw.2.2 h
def fQ:List Prop→Prop
 | []=>True
 | p::l=>p∧fQ l
def need (md:Bool) (p:Prop) [Decidable p] (ob:List Prop):Option (List Prop):=bif md then some (p::ob) else bif decide p then some ob else none
theorem aS {md:Bool}{p:Prop} [Decidable p] {ob c:List Prop}(h:need md p ob=some c):fQ c→fQ ob∧p:=by
 unfold need at h;cases md with
 | true=>cases h;exact fun h=>⟨h.2,h.1⟩
 | false=>
  simp only[Bh] at h;cases hp:decide p with
  | false=>rw[hp] at h;cases h
  | true=>rw[hp] at h;cases h;exact fun h=>⟨h,χ hp⟩
inductive Hn where
 | no
 | id (n:Nat)
 | bv (b:Bool)
 | row (k:Nat) (r:List C)
 | all
 | look (r:Option (List C))
 | c (rows:List (List C))
 | byte (k:Nat) (b:UInt8)
 | pc (res:V)
 | fz
 | rr (r:List R)
 | rowR (k:Nat) (r:List R)
def aIr:List (Nat×Hn)→Nat→Hn
 | [],_=>.no
 | (k,h)::l,i=>bif Nat.beq i k then h else aIr l i
abbrev Ans:=Option (Rd×Eff×List Prop)
def Snd (P:Program) (n:Nat) (o:Oper) (st:St) (ob:List Prop) (r:Ans):Prop:=∀rd f ob',r=some (rd,f,ob')→fQ ob'→fQ ob∧Step P n o st rd f
def val (o:Oper) (n:Nat) (rd:Rd) (v:V) (h:List (Nat×Option AObj)) (ob:List Prop):Ans:=
 match o.dst with
 | some d=>bif Nat.blt d n then some (rd,⟨some (d,some v),h⟩,ob) else none
 | none=>none
def eff (o:Oper) (rd:Rd) (h:List (Nat×Option AObj)) (ob:List Prop):Ans:=
 match o.dst with
 | none=>some (rd,⟨none,h⟩,ob)
 | some _=>none
def opO (st:St):Operand→Option V
 | .tmp t=>st.e t
 | .const v=>match v with
  | .int k n=>some (.one (.c (.int k n)))
  | .bool b=>some (.one (.c (.bool b)))
  | .string ⟨⟨l⟩⟩=>some (.one (.c (.str l)))
  | .slice none 0 0=>some (.one (.c .nl))
  | .pointer none=>some (.one (.c .np))
  | .map none=>some (.one (.c (.zv 0)))
  | .nilFunc=>some (.one (.c (.zv 1)))
  | .nilIface=>some (.one (.c (.zv 2)))
  | .agg ⟨vs⟩=>(uZ vs).bind fun cs=>some (.pa cs)
  | _=>none
 | .func f=>some (.one (.clo f []))
 | .global _=>none
theorem bX (st:St) (x:Operand):opO st x=opv st x:=by
 cases x with
 | const v=>
  cases v with
  | string s=>obtain⟨⟨l⟩⟩:=s;rfl
  | slice a l c=>
   cases a with
   | some _=>rfl
   | none=>
    cases l with
    | zero=>cases c<;>rfl
    | succ _=>rfl
  | pointer p=>cases p<;>rfl
  | map m=>cases m<;>rfl
  | _=>rfl
 | _=>rfl
def aRp (rs:List R):Option V:=match gQ rs with | some l=>some (.pa l) | none=>some (.ma rs)
theorem aG5 (rs:List R):aRp rs=some (aOf rs):=by
 unfold aRp aOf;cases gQ rs<;>rfl
def aBz (i:TI) (rs:List R):Option V:=bif i.k.agg then aRp rs else match rs with | [r]=>some (.one r) | _=>none
theorem oM (i:TI) (rs:List R):aBz i rs=iS i rs:=by
 unfold aBz iS;cases i.k.agg
 ·rfl
 ·exact aG5 rs
def zE (i:TI) (l:List C):Option V:=bif i.k.agg then some (.pa l) else match l with | [c]=>some (.one (.c c)) | _=>none
theorem uM (i:TI) (l:List C):zE i l=aB0 i l:=by
 unfold zE aB0;cases i.k.agg<;>rfl
def nW (v:V):Option (List R):=(fF v).bind frc
theorem gI (v:V):nW v=fF v:=by
 unfold nW;cases fF v with
 | none=>rfl
 | some l=>simp[j5]
theorem cT {α:Type}{b:Bool}{x:Option α}{y:α}(h:(bif b then x else none)=some y):b=true∧x=some y:=by
 cases b
 ·cases h
 ·exact⟨rfl,h⟩
theorem iF {d n:Nat}(h:Nat.blt d n=true):d<n:=Al h
theorem aOk {o:Oper}{n:Nat}{rd c:Rd}{v:V}{h:List (Nat×Option AObj)}{ob j:List Prop}{f:Eff}(e:val o n rd v h ob=some (c,f,j)):∃d,o.dst=some d∧d<n∧c=rd∧f=⟨some (d,some v),h⟩∧j=ob:=by
 unfold val at e;split at e
 ·rename_i d q;obtain⟨h1,h2⟩:=cT e;cases h2;exact⟨d,q,iF h1,rfl,rfl,rfl⟩
 ·cases e
theorem aPw {o:Oper}{rd c:Rd}{h:List (Nat×Option AObj)}{ob j:List Prop}{f:Eff}(e:eff o rd h ob=some (c,f,j)):o.dst=none∧c=rd∧f=⟨none,h⟩∧j=ob:=by
 unfold eff at e;split at e
 ·rename_i q;cases e;exact⟨q,rfl,rfl,rfl⟩
 ·cases e
theorem Snd.val {P:Program}{n:Nat}{o:Oper}{st:St}{ob c:List Prop}{rd:Rd}{v:V}{h:List (Nat×Option AObj)}(j:∀d,o.dst=some d→d<n→fQ c→fQ ob∧Step P n o st rd ⟨some (d,some v),h⟩):Snd P n o st ob (Go.AM.val o n rd v h c):=by
 intro r f q e hc;obtain⟨d,h1,h2,rfl,rfl,rfl⟩:=aOk e;exact j d h1 h2 hc
theorem Snd.eff {P:Program}{n:Nat}{o:Oper}{st:St}{ob c:List Prop}{rd:Rd}{h:List (Nat×Option AObj)}(j:o.dst=none→fQ c→fQ ob∧Step P n o st rd ⟨none,h⟩):Snd P n o st ob (Go.AM.eff o rd h c):=by
 intro r f q e hc;obtain⟨h1,rfl,rfl,rfl⟩:=aPw e;exact j h1 hc
theorem Snd.none {P:Program}{n:Nat}{o:Oper}{st:St}{ob:List Prop}:Snd P n o st ob none:=by
 intro rd f c e;cases e
theorem Snd.bind {P:Program}{n:Nat}{o:Oper}{st:St}{ob:List Prop}{α:Type}{x:Option α}{k:α→Ans}(h:∀y,x=some y→Snd P n o st ob (k y)):Snd P n o st ob (x.bind k):=by
 intro rd f c e;rw[Ab] at e;obtain⟨y,h1,h2⟩:=e;exact h y h1 rd f c h2
theorem Snd.cond {P:Program}{n:Nat}{o:Oper}{st:St}{ob:List Prop}{b:Bool}{r:Ans}(h:b=true→Snd P n o st ob r):Snd P n o st ob (bif b then r else Option.none):=by
 cases b
 ·exact Snd.none
 ·exact h rfl
section
variable {P:Program}{n:Nat}{o:Oper}{st:St}{ob:List Prop}{tr:Tr}{md:Bool}
def aAz (o:Oper) (n:Nat) (st:St) (ob:List Prop) (x:Operand):Ans:=(opO st x).bind fun y=>val o n ⟨opr x,[]⟩ y [] ob
theorem aGl {x:Operand}(ho:o.op=.move x):Snd P n o st ob (aAz o n st ob x):=
 Snd.bind fun y hy=>Snd.val fun _ j c hc=>⟨hc,aDx ho j c (by rw[←bX];exact hy)⟩
theorem xZ {x:Operand}(ho:o.op=.assign x):Snd P n o st ob (aAz o n st ob x):=
 Snd.bind fun y hy=>Snd.val fun _ j c hc=>⟨hc,aId ho j c (by rw[←bX];exact hy)⟩
def aHp (hn:Hn) (b:Bool) (ob:List Prop):Bool×List Prop:=match hn with
 | .bv w=>(w,(b=w)::ob)
 | _=>match b with
  | true=>(true,ob)
  | false=>(false,ob)
theorem oE {hn:Hn}{b w:Bool}{ob c:List Prop}(h:aHp hn b ob=(w,c)):fQ c→fQ ob∧b=w:=by
 unfold aHp at h;split at h
 ·cases h;exact fun h=>⟨h.2,h.1⟩
 ·cases b<;>(cases h;exact fun h=>⟨h,rfl⟩)
def aK4 (o:Oper) (n:Nat) (st:St) (ob:List Prop) (hn:Hn) (c x y:Operand):Ans:=(opO st c).bind fun v=>match v with
 | .one (.c (.bool b))=>match aHp hn b ob with
  | (true,ob')=>(opO st x).bind fun z=>val o n ⟨opr c++opr x,[]⟩ z [] ob'
  | (false,ob')=>(opO st y).bind fun z=>val o n ⟨opr c++opr y,[]⟩ z [] ob'
 | _=>none
theorem aGj {hn:Hn}{c x y:Operand}(ho:o.op=.pick c x y):Snd P n o st ob (aK4 o n st ob hn c x y):=by
 refine Snd.bind fun v r=>?_
 rw[bX] at r;split
 ·rename_i b;split
  ·rename_i A ht;refine Snd.bind fun z j=>Snd.val fun _ u q hc=>?_
   rw[bX] at j;obtain⟨h1,h2⟩:=oE ht hc;exact⟨h1,aH5 ho u q r h2 j⟩
  ·rename_i A ht;refine Snd.bind fun z j=>Snd.val fun _ u q hc=>?_
   rw[bX] at j;obtain⟨h1,h2⟩:=oE ht hc;exact⟨h1,aH6 ho u q r h2 j⟩
 ·exact Snd.none
def vW (o:Oper) (n:Nat) (st:St) (ob:List Prop) (x:Operand) (i:Nat):Ans:=(opO st x).bind fun v=>match v with
 | .tup l=>(l[i]?).bind fun z=>val o n ⟨opr x,[]⟩ z [] ob
 | _=>none
theorem vV {x:Operand}{i:Nat}(ho:o.op=.extract x i):Snd P n o st ob (vW o n st ob x i):=by
 refine Snd.bind fun v c=>?_
 rw[bX] at c;split
 ·exact Snd.bind fun z q=>Snd.val fun _ r j hc=>⟨hc,aD6 ho r j c q⟩
 ·exact Snd.none
def aGv (tr:Tr) (o:Oper) (n:Nat) (st:St) (ob:List Prop) (id:Nat) (t:TypeId):Ans:=(tr.get t).bind fun i=>(frc (i.zero.map R.c)).bind fun z=>match st.h id with
 | none=>val o n ⟨[],[id]⟩ (.one (.vp id 0)) [(id,some (.var t z))] ob
 | some _=>none
theorem aCt {id:Nat}{t:TypeId}(hw:tr.wf=true) (q:Tok P tr.flat) (ho:o.op=.alloc t):Snd P n o st ob (aGv tr o n st ob id t):=by
 refine Snd.bind fun i hi=>Snd.bind fun z c=>?_
 rw[j5] at c;cases c;split
 ·rename_i hid;exact Snd.val fun _ r j hc=>⟨hc,aL0 id q ho r j (Tr.get_ok hw hi) hid⟩
 ·exact Snd.none
def aQz (o:Oper) (n:Nat) (st:St) (ob:List Prop) (id:Nat) (t:TypeId) (x:Operand):Ans:=(opO st x).bind fun v=>(nW v).bind fun rs=>match st.h id with
 | none=>val o n ⟨opr x,[id]⟩ (.one (.vp id 0)) [(id,some (.var t rs))] ob
 | some _=>none
theorem aJ5 {id:Nat}{t:TypeId}{x:Operand}(ho:o.op=.box t x):Snd P n o st ob (aQz o n st ob id t x):=by
 refine Snd.bind fun v j=>Snd.bind fun rs c=>?_
 rw[bX] at j;rw[gI] at c;split
 ·rename_i hid;exact Snd.val fun _ r q hc=>⟨hc,aSe id ho r q j c hid⟩
 ·exact Snd.none
def aNk (tr:Tr) (o:Oper) (n:Nat) (st:St) (ob:List Prop) (id:Nat) (t:TypeId) (r:Option Operand):Ans:=match r with
 | some _=>none
 | none=>(tr.get t).bind fun i=>match i.k with
  | .mp _ e=>(tr.get e).bind fun ei=>match st.h id with
   | none=>val o n ⟨[],[id]⟩ (.one (.mr id)) [(id,some (.map ei.k.agg []))] ob
   | some _=>none
  | _=>none
theorem aJ1 {id:Nat}{t:TypeId}{r:Option Operand}(ho:o.op=.makeMap t r):Snd P n o st ob (aNk tr o n st ob id t r):=by
 unfold aNk;split
 ·exact Snd.none
 ·refine Snd.bind fun i hi=>?_
  split
  ·refine Snd.bind fun u q=>?_
   split
   ·rename_i hid;exact Snd.val fun _ j c hc=>⟨hc,aDy id _ ho j c hid⟩
   ·exact Snd.none
  ·exact Snd.none
def aOs (hn:Hn) (elems:List (List C)) (k:Nat) (ob:List Prop):Option (List C×List Prop):=match hn with
 | .row _ r=>some (r,(elems[k]?=some r)::ob)
 | _=>match elems[k]? with
  | some r=>some (r,ob)
  | none=>none
theorem wM {hn:Hn}{elems:List (List C)}{k:Nat}{ob c:List Prop}{r:List C}(h:aOs hn elems k ob=some (r,c)):fQ c→fQ ob∧elems[k]?=some r:=by
 unfold aOs at h;split at h
 ·cases h;exact fun h=>⟨h.2,h.1⟩
 ·split at h
  ·rename_i h1;cases h;exact fun h=>⟨h,h1⟩
  ·cases h
def aH1 (hn:Hn) (elems:List (List R)) (k:Nat) (ob:List Prop):Option (List R×List Prop):=match hn with
 | .rr r=>some (r,(elems[k]?=some r)::ob)
 | _=>match elems[k]? with
  | some r=>some (r,ob)
  | none=>none
theorem yJ {hn:Hn}{elems:List (List R)}{k:Nat}{ob c:List Prop}{r:List R}(h:aH1 hn elems k ob=some (r,c)):fQ c→fQ ob∧elems[k]?=some r:=by
 unfold aH1 at h;split at h
 ·cases h;exact fun h=>⟨h.2,h.1⟩
 ·split at h
  ·rename_i h1;cases h;exact fun h=>⟨h,h1⟩
  ·cases h
def aK5 (tr:Tr) (md:Bool) (o:Oper) (n:Nat) (st:St) (ob:List Prop) (hn:Hn) (t:TypeId) (x:Operand):Ans:=(tr.get t).bind fun i=>(opO st x).bind fun v=>match v with
 | .one (.vp id off)=>match st.h id with
  | some (.var _ cells)=>bif Nat.ble (off+i.size) cells.length then(tak i.size (cells.drop off)).bind fun rs=>(aBz i rs).bind fun y=>val o n ⟨opr x,[id]⟩ y [] ob else none
  | _=>none
 | .one (.c (.pt l))=>(tak i.size l).bind fun cs=>(zE i cs).bind fun y=>val o n ⟨opr x,[]⟩ y [] ob
 | .one (.pas l)=>(tak i.size l).bind fun cs=>(aBz i cs).bind fun y=>val o n ⟨opr x,[]⟩ y [] ob
 | .one (.ep id k fo sz)=>match st.h id with
  | some (.arr _ es elems _)=>(need md (sz=elems.length) ob).bind fun ob1=>(aOs hn elems k ob1).bind fun(r,ob2)=>
   bif Nat.ble (fo+i.size) es then(tak i.size (r.drop fo)).bind fun cs=>(zE i cs).bind fun y=>val o n ⟨opr x,[id]⟩ y [] ob2 else none
  | _=>none
 | .one (.rp id k fo sz)=>match st.h id with
  | some (.rarr _ es elems)=>(need md (sz=elems.length) ob).bind fun ob1=>(aH1 hn elems k ob1).bind fun(r,ob2)=>
   bif Nat.ble (fo+i.size) es then(tak i.size (r.drop fo)).bind fun cs=>(aBz i cs).bind fun y=>val o n ⟨opr x,[id]⟩ y [] ob2 else none
  | _=>none
 | _=>none
theorem aGm {hn:Hn}{t:TypeId}{x:Operand}(hw:tr.wf=true) (A:Tok P tr.flat) (ho:o.op=.load t x):Snd P n o st ob (aK5 tr md o n st ob hn t x):=by
 refine Snd.bind fun i hi=>Snd.bind fun v u=>?_
 rw[bX] at u
 replace hi:=Tr.get_ok hw hi
 split
 ·rename_i id off;split
  ·rename_i tv cells hh;refine Snd.cond fun hb=>Snd.bind fun rs I=>Snd.bind fun y hy=>Snd.val fun _ q c hc=>⟨hc,?_⟩
   obtain⟨h1,h2⟩:=pB I;rw[oM,←h2] at hy;exact aO8 A ho q c hi u hh hb hy
  ·exact Snd.none
 ·rename_i l;refine Snd.bind fun cs j=>Snd.bind fun y hy=>Snd.val fun _ q c hc=>⟨hc,?_⟩
  obtain⟨h1,h2⟩:=pB j;rw[uM,←h2] at hy;exact aD1 A ho q c hi u h1 hy
 ·rename_i l;refine Snd.bind fun cs j=>Snd.bind fun y hy=>Snd.val fun _ q c hc=>⟨hc,?_⟩
  obtain⟨h1,h2⟩:=pB j;rw[oM,←h2] at hy;exact aBk A ho q c hi u h1 hy
 ·rename_i id k fo sz;split
  ·rename_i te es elems fz hh;refine Snd.bind fun J h1=>Snd.bind fun p h2=>?_
   obtain⟨r,M⟩:=p;refine Snd.cond fun B=>Snd.bind fun cs j=>Snd.bind fun y hy=>Snd.val fun _ q c hc=>?_
   obtain⟨g1,g2⟩:=wM h2 hc;obtain⟨g3,g4⟩:=aS h1 g1;obtain⟨O,E⟩:=pB j;rw[uM,←E] at hy;exact⟨g3,aD2 A ho q c hi u hh g4 g2 (Al B) hy⟩
  ·exact Snd.none
 ·rename_i id k fo sz;split
  ·rename_i te es elems hh;refine Snd.bind fun J h1=>Snd.bind fun p h2=>?_
   obtain⟨r,M⟩:=p;refine Snd.cond fun B=>Snd.bind fun cs j=>Snd.bind fun y hy=>Snd.val fun _ q c hc=>?_
   obtain⟨g1,g2⟩:=yJ h2 hc;obtain⟨g3,g4⟩:=aS h1 g1;obtain⟨O,E⟩:=pB j;rw[oM,←E] at hy;exact⟨g3,aD0 A ho q c hi u hh g4 g2 (Al B) hy⟩
  ·exact Snd.none
 ·exact Snd.none
def aNx {α:Type}(l:List α) (off:Nat) (new:List α):Option (List α):=frc (bQ l off new)
def aGg (tr:Tr) (md:Bool) (o:Oper) (st:St) (ob:List Prop) (hn:Hn) (t:TypeId) (x y:Operand):Ans:=(tr.get t).bind fun i=>(opO st x).bind fun v=>(opO st y).bind fun u=>(nW u).bind fun rs=>bif Nat.beq rs.length i.size then(match v with
 | .one (.vp id off)=>match st.h id with
  | some (.var tv cells)=>bif Nat.ble (off+i.size) cells.length then(aNx cells off rs).bind fun cs=>eff o ⟨opr x++opr y,[id]⟩ [(id,some (.var tv cs))] ob else none
  | _=>none
 | .one (.ep id k fo sz)=>match st.h id with
  | some (.arr te es elems 0)=>(gQ rs).bind fun cs=>(need md (sz=elems.length) ob).bind fun ob1=>(aOs hn elems k ob1).bind fun(r,ob2)=>
   bif Nat.ble (fo+i.size) es then(aNx r fo cs).bind fun r'=>eff o ⟨opr x++opr y,[id]⟩ [(id,some (.arr te es (elems.set k r') 0))] ob2 else none
  | _=>none
 | .one (.rp id k fo sz)=>match st.h id with
  | some (.rarr te es elems)=>(need md (sz=elems.length) ob).bind fun ob1=>(aH1 hn elems k ob1).bind fun(r,ob2)=>
   bif Nat.ble (fo+i.size) es then(aNx r fo rs).bind fun r'=>eff o ⟨opr x++opr y,[id]⟩ [(id,some (.rarr te es (elems.set k r')))] ob2 else none
  | _=>none
 | _=>none) else none
theorem aCn {hn:Hn}{t:TypeId}{x y:Operand}(hw:tr.wf=true) (I:Tok P tr.flat) (ho:o.op=.store t x y):Snd P n o st ob (aGg tr md o st ob hn t x y):=by
 refine Snd.bind fun i hi=>Snd.bind fun v E=>Snd.bind fun u hu=>Snd.bind fun rs q=>Snd.cond fun hl=>?_
 rw[bX] at E hu;rw[gI] at q
 replace hi:=Tr.get_ok hw hi
 have A:=δ hl;split
 ·rename_i id off;split
  ·rename_i tv cells hh;refine Snd.cond fun hb=>Snd.bind fun cs j=>Snd.eff fun B hc=>⟨hc,?_⟩
   unfold aNx at j;rw[j5] at j;cases j;exact aLr I ho B hi E hu q hh A hb
  ·exact Snd.none
 ·rename_i id k fo sz;split
  ·rename_i te es elems hh;refine Snd.bind fun cs j=>Snd.bind fun M h1=>Snd.bind fun p h2=>?_
   obtain⟨r,O⟩:=p;refine Snd.cond fun J=>Snd.bind fun r' c=>Snd.eff fun B hc=>?_
   obtain⟨g1,g2⟩:=wM h2 hc;obtain⟨g3,g4⟩:=aS h1 g1;unfold aNx at c;rw[j5] at c;cases c;refine⟨g3,aBi I ho B hi E hu q j hh g4 g2 ?_ (Al J)⟩;have:=mC j;rw[this] at A;simpa using A
  ·exact Snd.none
 ·rename_i id k fo sz;split
  ·rename_i te es elems hh;refine Snd.bind fun M h1=>Snd.bind fun p h2=>?_
   obtain⟨r,O⟩:=p;refine Snd.cond fun J=>Snd.bind fun r' c=>Snd.eff fun B hc=>?_
   obtain⟨g1,g2⟩:=yJ h2 hc;obtain⟨g3,g4⟩:=aS h1 g1;unfold aNx at c;rw[j5] at c;cases c;exact⟨g3,aBh I ho B hi E hu q hh g4 g2 A (Al J)⟩
  ·exact Snd.none
 ·exact Snd.none
def qN (tr:Tr) (md:Bool) (o:Oper) (n:Nat) (st:St) (ob:List Prop) (t:TypeId) (x:Operand) (f:Nat):Ans:=(tr.get t).bind fun i=>match i.k with
 | .st fs=>(fs[f]?).bind fun(foff,ft)=>(tr.get ft).bind fun fi=>bif Nat.ble 1 fi.size then((opO st x).bind fun v=>match v with
  | .one (.vp id off)=>val o n ⟨opr x,[]⟩ (.one (.vp id (off+foff))) [] ob
  | .one (.c (.pt l))=>val o n ⟨opr x,[]⟩ (.one (.c (.pt (l.drop foff)))) [] ob
  | .one (.pas l)=>val o n ⟨opr x,[]⟩ (.one (.pas (l.drop foff))) [] ob
  | .one (.ep id k fo sz)=>match st.h id with
   | some (.arr _ _ elems _)=>(need md (sz=elems.length) ob).bind fun ob1=>val o n ⟨opr x,[id]⟩ (.one (.ep id k (fo+foff) sz)) [] ob1
   | _=>none
  | .one (.rp id k fo sz)=>match st.h id with
   | some (.rarr _ _ elems)=>(need md (sz=elems.length) ob).bind fun ob1=>val o n ⟨opr x,[id]⟩ (.one (.rp id k (fo+foff) sz)) [] ob1
   | _=>none
  | _=>none) else none
 | _=>none
theorem qV {t:TypeId}{x:Operand}{f:Nat}(hw:tr.wf=true) (y:Tok P tr.flat) (ho:o.op=.fieldAddr t x f):Snd P n o st ob (qN tr md o n st ob t x f):=by
 refine Snd.bind fun i hi=>?_
 replace hi:=Tr.get_ok hw hi
 split
 ·rename_i fs A;refine Snd.bind fun p B=>?_
  obtain⟨I,O⟩:=p;refine Snd.bind fun J j=>Snd.cond fun M=>Snd.bind fun v u=>?_
  replace j:=Tr.get_ok hw j
  have r:J.size≠0:=by have:=Al M;omega
  rw[bX] at u;split
  ·exact Snd.val fun _ q c hc=>⟨hc,aBn y ho q c hi A B j r u⟩
  ·exact Snd.val fun _ q c hc=>⟨hc,aBp y ho q c hi A B j r u⟩
  ·exact Snd.val fun _ q c hc=>⟨hc,wP y ho q c hi A B j r u⟩
  ·split
   ·rename_i hh;exact Snd.bind fun E h1=>Snd.val fun _ q c hc=>⟨(aS h1 hc).1,aBq y ho q c hi A B j r u hh (aS h1 hc).2⟩
   ·exact Snd.none
  ·split
   ·rename_i hh;exact Snd.bind fun E h1=>Snd.val fun _ q c hc=>⟨(aS h1 hc).1,aBo y ho q c hi A B j r u hh (aS h1 hc).2⟩
   ·exact Snd.none
  ·exact Snd.none
 ·exact Snd.none
def aGq (tr:Tr) (o:Oper) (n:Nat) (st:St) (ob:List Prop) (t:TypeId) (x:Operand) (f:Nat):Ans:=(tr.get t).bind fun i=>match i.k with
 | .st fs=>(fs[f]?).bind fun(foff,ft)=>(tr.get ft).bind fun fi=>(opO st x).bind fun v=>(nW v).bind fun rs=>
  bif (match v with | .pa _=>true | .ma _=>true | _=>false) then bif Nat.ble (foff+fi.size) rs.length then(tak fi.size (rs.drop foff)).bind fun l=>(aBz fi l).bind fun y=>val o n ⟨opr x,[]⟩ y [] ob else none else none
 | _=>none
theorem aCr {t:TypeId}{x:Operand}{f:Nat}(hw:tr.wf=true) (B:Tok P tr.flat) (ho:o.op=.field t x f):Snd P n o st ob (aGq tr o n st ob t x f):=by
 refine Snd.bind fun i hi=>?_
 replace hi:=Tr.get_ok hw hi
 split
 ·rename_i fs E;refine Snd.bind fun p I=>?_
  obtain⟨J,O⟩:=p;refine Snd.bind fun U c=>Snd.bind fun v q=>Snd.bind fun rs j=>Snd.cond fun r=>Snd.cond fun hl=>Snd.bind fun l u=>Snd.bind fun y hy=>?_
  replace c:=Tr.get_ok hw c
  rw[bX] at q;rw[gI] at j;rw[oM,←(pB u).2] at hy;exact Snd.val fun _ M A hc=>⟨hc,aLw B ho M A hi E I c q (by cases v<;>first | rfl | exact r) j hl hy⟩
 ·exact Snd.none
def atO (hn:Hn) (m:Int) (ob:List Prop):Option (Nat×List Prop):=match hn with
 | .row k _=>some (k,(m=(k:Int))::ob)
 | .rowR k _=>some (k,(m=(k:Int))::ob)
 | _=>match m with
  | .ofNat k=>some (k,ob)
  | .negSucc _=>none
theorem rI {hn:Hn}{m:Int}{k:Nat}{ob c:List Prop}(h:atO hn m ob=some (k,c)):fQ c→fQ ob∧m=(k:Int):=by
 unfold atO at h;split at h
 ·cases h;exact fun h=>⟨h.2,h.1⟩
 ·cases h;exact fun h=>⟨h.2,h.1⟩
 ·split at h
  ·cases h;exact fun h=>⟨h,rfl⟩
  ·cases h
def aRq (a b:Nat):Option Nat:=match a with
 | 0=>some b
 | a+1=>some (a+1+b)
theorem aG6 {a b c:Nat}(h:aRq a b=some c):a+b=c:=by
 unfold aRq at h;split at h<;>cases h
 ·exact Bb _
 ·rfl
def qM (tr:Tr) (md:Bool) (o:Oper) (n:Nat) (st:St) (ob:List Prop) (hn:Hn) (t:TypeId) (x y:Operand):Ans:=(tr.get t).bind fun i=>match i.k with
 | .sl e=>(tr.get e).bind fun ei=>(opO st x).bind fun v=>(opO st y).bind fun u=>match u with
  | .one (.c (.int _ m))=>(atO hn m ob).bind fun(k,ob1)=>match v with
   | .one (.c (.sl es l))=>bif Nat.beq ei.size es then(aOs hn l k ob1).bind fun(r,ob2)=>val o n ⟨opr x++opr y,[]⟩ (.one (.c (.pt r))) [] ob2 else none
   | .one (.hs id off len sz)=>match st.h id with
    | some (.arr _ es elems _)=>bif Nat.beq ei.size es then(need md (sz=elems.length) ob1).bind fun ob2=>(need md (k<len) ob2).bind fun ob3=>(aRq off k).bind fun j=>val o n ⟨opr x++opr y,[id]⟩ (.one (.ep id j 0 sz)) [] ob3 else none
    | _=>none
   | .one (.ra id off len sz)=>match st.h id with
    | some (.rarr _ es elems)=>bif Nat.beq ei.size es then(need md (sz=elems.length) ob1).bind fun ob2=>(need md (k<len) ob2).bind fun ob3=>(aRq off k).bind fun j=>val o n ⟨opr x++opr y,[id]⟩ (.one (.rp id j 0 sz)) [] ob3 else none
    | _=>none
   | .one (.ras n' es l)=>bif Nat.beq ei.size es then(need md (k<n') ob1).bind fun ob2=>match hn with
    | .rowR _ r=>val o n ⟨opr x++opr y,[]⟩ (.one (.pas r)) [] (((l.drop (k*es)).take es=r)::ob2)
    | _=>(frc ((l.drop (k*es)).take es)).bind fun r=>val o n ⟨opr x++opr y,[]⟩ (.one (.pas r)) [] ob2 else none
   | _=>none
  | _=>none
 | .ar m' e=>(tr.get e).bind fun ei=>(opO st x).bind fun v=>(opO st y).bind fun u=>match u with
  | .one (.c (.int _ m))=>(atO hn m ob).bind fun(k,ob1)=>match v with
   | .one (.vp id off)=>(need md (k<m') ob1).bind fun ob2=>val o n ⟨opr x++opr y,[]⟩ (.one (.vp id (off+k*ei.size))) [] ob2
   | _=>none
  | _=>none
 | _=>none
theorem qU {hn:Hn}{t:TypeId}{x y:Operand}(hw:tr.wf=true) (O:Tok P tr.flat) (ho:o.op=.indexAddr t x y):Snd P n o st ob (qM tr md o n st ob hn t x y):=by
 refine Snd.bind fun i hi=>?_
 replace hi:=Tr.get_ok hw hi
 split
 ·rename_i e I;refine Snd.bind fun ei c=>Snd.bind fun v E=>Snd.bind fun u hu=>?_
  replace c:=Tr.get_ok hw c
  rw[bX] at E hu;split
  ·rename_i kk m;refine Snd.bind fun p hp=>?_
   obtain⟨k,Y⟩:=p;dsimp only;split
   ·rename_i es l;refine Snd.cond fun A=>Snd.bind fun p h2=>?_
    obtain⟨r,M⟩:=p;refine Snd.val fun _ B q hc=>?_
    obtain⟨g1,g2⟩:=wM h2 hc;obtain⟨g3,g4⟩:=rI hp g1;exact⟨g3,aLv O ho B q hi I c (δ A) E hu g4 g2⟩
   ·rename_i id off len sz;split
    ·rename_i te es elems fz hh;refine Snd.cond fun A=>Snd.bind fun M h2=>Snd.bind fun aa U=>Snd.bind fun j J=>Snd.val fun _ B q hc=>?_
     have J:=aG6 J;subst J;obtain⟨g1,g2⟩:=aS U hc;obtain⟨g3,g4⟩:=aS h2 g1;obtain⟨g5,g6⟩:=rI hp g3;exact⟨g5,aBm O ho B q hi I c (δ A) E hh g4 hu g6 g2⟩
    ·exact Snd.none
   ·rename_i id off len sz;split
    ·rename_i te es elems hh;refine Snd.cond fun A=>Snd.bind fun M h2=>Snd.bind fun aa U=>Snd.bind fun j J=>Snd.val fun _ B q hc=>?_
     have J:=aG6 J;subst J;obtain⟨g1,g2⟩:=aS U hc;obtain⟨g3,g4⟩:=aS h2 g1;obtain⟨g5,g6⟩:=rI hp g3;exact⟨g5,aBl O ho B q hi I c (δ A) E hh g4 hu g6 g2⟩
    ·exact Snd.none
   ·rename_i n' es l;refine Snd.cond fun A=>Snd.bind fun M h2=>?_
    have A:=δ A;split
    ·refine Snd.val fun _ B q hc=>?_
     obtain⟨c1,c2⟩:=hc;obtain⟨g1,g2⟩:=aS h2 c2;obtain⟨g3,g4⟩:=rI hp g1;exact⟨g3,pJ O ho B q hi I c A E hu g4 g2 c1⟩
    ·refine Snd.bind fun r hr=>Snd.val fun _ B q hc=>?_
     rw[j5] at hr;cases hr;obtain⟨g1,g2⟩:=aS h2 hc;obtain⟨g3,g4⟩:=rI hp g1;exact⟨g3,pJ O ho B q hi I c A E hu g4 g2 rfl⟩
   ·exact Snd.none
  ·exact Snd.none
 ·rename_i m' e I;refine Snd.bind fun ei c=>Snd.bind fun v E=>Snd.bind fun u hu=>?_
  replace c:=Tr.get_ok hw c
  rw[bX] at E hu;split
  ·rename_i kk m;refine Snd.bind fun p hp=>?_
   obtain⟨k,Y⟩:=p;dsimp only;split
   ·rename_i id off;refine Snd.bind fun M h2=>Snd.val fun _ B q hc=>?_
    obtain⟨g1,g2⟩:=aS h2 hc;obtain⟨g3,g4⟩:=rI hp g1;exact⟨g3,wO O ho B q hi I c E hu g4 g2⟩
   ·exact Snd.none
  ·exact Snd.none
 ·exact Snd.none
def aQx (md:Bool) (o:Oper) (n:Nat) (st:St) (ob:List Prop) (x:Operand):Ans:=(opO st x).bind fun v=>match v with
 | .one (.ep id k fo sz)=>match st.h id with
  | some (.arr _ _ elems _)=>(need md (sz=elems.length) ob).bind fun ob1=>val o n ⟨opr x,[id]⟩ (.one (.ep id k fo sz)) [] ob1
  | _=>none
 | .one (.rp id k fo sz)=>match st.h id with
  | some (.rarr _ _ elems)=>(need md (sz=elems.length) ob).bind fun ob1=>val o n ⟨opr x,[id]⟩ (.one (.rp id k fo sz)) [] ob1
  | _=>none
 | v=>bif notNil v then val o n ⟨opr x,[]⟩ v [] ob else none
theorem aJ0 {x:Operand}(ho:o.op=.nilCheck x):Snd P n o st ob (aQx md o n st ob x):=by
 refine Snd.bind fun v q=>?_
 rw[bX] at q;split
 ·split
  ·rename_i hh;exact Snd.bind fun r h1=>Snd.val fun _ j c hc=>⟨(aS h1 hc).1,rV ho j c q hh (aS h1 hc).2⟩
  ·exact Snd.none
 ·split
  ·rename_i hh;exact Snd.bind fun r h1=>Snd.val fun _ j c hc=>⟨(aS h1 hc).1,rU ho j c q hh (aS h1 hc).2⟩
  ·exact Snd.none
 ·exact Snd.cond fun h=>Snd.val fun _ j c hc=>⟨hc,aBj ho j c q h⟩
def pO (tr:Tr):List (Nat×TypeId)→Option (List (Nat×Nat))
 | []=>some []
 | (off,t)::fs=>(tr.get t).bind fun i=>(pO tr fs).bind fun l=>some ((off,i.size)::l)
theorem r3 {tr:Tr}(hw:tr.wf=true):∀{fs:List (Nat×TypeId)}{l:List (Nat×Nat)},pO tr fs=some l→jM tr.flat fs=some l
 | [],l,h=>by simpa [pO,jM] using h
 | (off,t)::fs,l,h=>by
  simp only[pO,Ab] at h;obtain⟨i,hi,j,c,h⟩:=h;simp only[jM,Tr.get_ok hw hi,r3 hw c,h]
def yV (st:St):List (Nat×Operand)→Option (List (Nat×List R))
 | []=>some []
 | (i,x)::ps=>(opO st x).bind fun v=>(nW v).bind fun rs=>(yV st ps).bind fun l=>some ((i,rs)::l)
theorem uB (st:St):∀ps:List (Nat×Operand),yV st ps=nT st ps
 | []=>rfl
 | (i,x)::ps=>by
  simp only[yV,nT,bX,gI,uB st ps];cases opv st x with
  | none=>rfl
  | some v=>
   simp only[B8];cases fF v with
   | none=>rfl
   | some rs=>
    simp only[B8];cases nT st ps<;>rfl
def aI1 (st:St):List Operand→Option (List R)
 | []=>some []
 | x::xs=>(opO st x).bind fun v=>match v with
  | .one r=>(aI1 st xs).bind fun l=>some (r::l)
  | _=>none
theorem aAd (st:St):∀xs:List Operand,aI1 st xs=vA st xs
 | []=>rfl
 | x::xs=>by
  simp only[aI1,vA,bX,aAd st xs];cases opv st x with
  | none=>rfl
  | some v=>
   simp only[B8];cases v<;>try rfl
   cases vA st xs<;>rfl
def aGu (tr:Tr) (o:Oper) (n:Nat) (st:St) (ob:List Prop) (t:TypeId) (parts:Array (Nat×Operand)):Ans:=(tr.get t).bind fun i=>match i.k with
 | .st fs=>(pO tr fs).bind fun places=>(yV st parts.toList).bind fun ps=>(aB7 places (i.zero.map R.c) ps).bind fun out=>(frc out).bind fun out=>(aRp out).bind fun y=>val o n ⟨eF parts.toList,[]⟩ y [] ob
 | _=>none
theorem aCs {t:TypeId}{parts:Array (Nat×Operand)}(hw:tr.wf=true) (u:Tok P tr.flat) (ho:o.op=.build t parts):Snd P n o st ob (aGu tr o n st ob t parts):=by
 refine Snd.bind fun i hi=>?_
 replace hi:=Tr.get_ok hw hi
 split
 ·rename_i fs A;refine Snd.bind fun places c=>Snd.bind fun ps j=>Snd.bind fun out B=>Snd.bind fun E q=>Snd.bind fun y hy=>Snd.val fun _ I r hc=>⟨hc,?_⟩
  replace c:=r3 hw c
  rw[uB] at j;rw[j5] at q;cases q;rw[aG5] at hy;cases hy;exact aLz u ho I r hi A c j B
 ·exact Snd.none
def mM (tr:Tr):Nat→List TypeId→List Nat
 | 0,_=>[]
 | _+1,[]=>[]
 | f+1,t::ts=>match tr.get t with
  | some i=>match i.k with
   | .sl e=>match tr.get e with
    | some ei=>(ei.size+1)::mM tr f ts
    | none=>0::mM tr f ts
   | .st fs=>mM tr f (fs.map (·.2)++ts)
   | _=>0::mM tr f ts
  | none=>0::mM tr f ts
def nrm:List Nat→List C→List C
 | _,[]=>[]
 | [],cs=>cs
 | 0::es,c::cs=>c::nrm es cs
 | (e+1)::es,c::cs=>(match c with | .nl=>.sl e [] | c=>c)::nrm es cs
theorem kH {h:bZ}:∀(es:List Nat) (cs:List C),PureL h [] (cs.map R.c) (nrm es cs)
 | es,[]=>by cases es<;>exact .nil
 | [],c::cs=>.of_pure
 | 0::es,c::cs=>.c .refl (kH es cs)
 | (e+1)::es,c::cs=>by
  simp only[nrm,Av];split
  ·exact .c .nl (kH es cs)
  ·exact .c .refl (kH es cs)
def aC0:List Nat→List C→Option (List C)
 | _,[]=>some []
 | [],cs=>frc cs
 | 0::es,c::cs=>(aC0 es cs).bind fun l=>some (c::l)
 | (e+1)::es,c::cs=>match c with
  | .nl=>(aC0 es cs).bind fun l=>some (.sl e []::l)
  | c=>(aC0 es cs).bind fun l=>some (c::l)
theorem pP:∀(es:List Nat) (cs:List C),aC0 es cs=some (nrm es cs)
 | es,[]=>by cases es with
  | nil=>simp[aC0,nrm]
  | cons e es=>cases e<;>simp[aC0,nrm]
 | [],c::cs=>by simp[aC0,nrm,j5]
 | 0::es,c::cs=>by simp[aC0,nrm,pP es cs]
 | (e+1)::es,c::cs=>by
  simp only[aC0,nrm,pP es cs,B8];split<;>rfl
def aDp (st:St) (tys:List Nat) (es:Nat):Nat→List (Nat×Operand)→Option (List (List C))
 | _,[]=>some []
 | k,(i,x)::ps=>bif Nat.beq i k then(opO st x).bind fun v=>(nW v).bind fun rs=>(gQ rs).bind fun cs=>bif Nat.beq rs.length es then(aC0 tys cs).bind fun cs=>(aDp st tys es (k+1) ps).bind fun l=>some (cs::l) else none else none
theorem yI {st:St}{c:List Nat}{es:Nat}:∀{ps:List (Nat×Operand)}{k:Nat}{l:List (List C)},aDp st c es k ps=some l→RowsV st es k [] ps l
 | [],k,l,h=>by simp[aDp] at h;subst h;exact .nil
 | (i,x)::ps,k,l,h=>by
  simp only[aDp] at h;obtain⟨h0,h⟩:=cT h;have:=δ h0;subst this;rw[Ab] at h;obtain⟨v,r,h⟩:=h;rw[Ab] at h;obtain⟨rs,q,h⟩:=h;rw[Ab] at h;obtain⟨cs,u,h⟩:=h;obtain⟨hl,h⟩:=cT h;rw[Ab] at h;obtain⟨cs',j,h⟩:=h;rw[pP] at j;cases j;rw[Ab] at h;obtain⟨A,y,h⟩:=h;cases h;rw[bX] at r;rw[gI] at q;have hp:PureL st.h [] rs (nrm c cs):=by rw[mC u];exact kH c cs
  exact .cons (ids:=[]) r q hp hl (yI y)
def aGh (tr:Tr) (o:Oper) (n:Nat) (st:St) (ob:List Prop) (hn:Hn) (id:Nat) (t:TypeId) (len:Nat) (parts:Array (Nat×Operand)):Ans:=(tr.get t).bind fun i=>match i.k with
 | .sl e=>(tr.get e).bind fun ei=>bif Nat.beq len parts.size&&(Nat.ble (len*ei.size) 16777216&&Nat.ble len 16777216) then(match st.h id with
  | none=>match aDp st (mM tr 300 [e]) ei.size 0 parts.toList with
   | some rows=>match hn with
    | .all=>val o n ⟨eF parts.toList,[id]⟩ (.one (.c (.sl ei.size rows))) [(id,some (.arr e ei.size rows 2))] ob
    | _=>val o n ⟨eF parts.toList,[id]⟩ (.one (.hs id 0 len len)) [(id,some (.arr e ei.size rows 0))] ob
   | none=>(rT st ei.size 0 parts.toList).bind fun rows=>val o n ⟨eF parts.toList,[id]⟩ (.one (.ra id 0 len len)) [(id,some (.rarr e ei.size rows))] ob
  | some _=>none) else none
 | _=>none
theorem aCo {hn:Hn}{id:Nat}{t:TypeId}{len:Nat}{parts:Array (Nat×Operand)}(hw:tr.wf=true) (y:Tok P tr.flat) (ho:o.op=.buildSlice t len parts):Snd P n o st ob (aGh tr o n st ob hn id t len parts):=by
 refine Snd.bind fun i hi=>?_
 replace hi:=Tr.get_ok hw hi
 split
 ·rename_i e A;refine Snd.bind fun B c=>Snd.cond fun hb=>?_
  replace c:=Tr.get_ok hw c
  simp only[τ] at hb;split
  ·rename_i hid;split
   ·rename_i rows r;have u:=yI r;split
    ·exact Snd.val fun _ q j hc=>⟨hc,aH4 id y ho q j hi A c u hb.1 hb.2.1 hb.2.2 hid⟩
    ·exact Snd.val fun _ q j hc=>⟨hc,aDw id y ho q j hi A c u hb.1 hb.2.1 hb.2.2 hid⟩
   ·exact Snd.bind fun rows u=>Snd.val fun _ q j hc=>⟨hc,aH3 id y ho q j hi A c u hb.1 hb.2.1 hb.2.2 hid⟩
  ·exact Snd.none
 ·exact Snd.none
def aGp (o:Oper) (n:Nat) (st:St) (ob:List Prop) (f:Fn) (first caps:Array Operand):Ans:=match f with
 | .func f=>match first.toList with
  | []=>(aI1 st caps.toList).bind fun l=>val o n ⟨bT caps.toList,[]⟩ (.one (.clo f l)) [] ob
  | [x]=>match caps.toList with
   | []=>(opO st x).bind fun v=>match v with
    | .one c=>val o n ⟨opr x,[]⟩ (.one (.mth f c)) [] ob
    | _=>none
   | _=>none
  | _=>none
 | _=>none
theorem toList_nil {α:Type}{a:Array α}(h:a.toList=[]):a= #[]:=by
 cases a;simp at h;simp[h]
theorem aBb {α:Type}{a:Array α}{x:α}(h:a.toList=[x]):a= #[x]:=by
 cases a;simp at h;simp[h]
theorem aGo {f:Fn}{first caps:Array Operand}(ho:o.op=.makeFunc f first caps):Snd P n o st ob (aGp o n st ob f first caps):=by
 unfold aGp;split
 ·rename_i f;split
  ·rename_i h1;have:=toList_nil h1;subst this;refine Snd.bind fun l hl=>Snd.val fun _ j c hc=>⟨hc,qZ ho j c (by rw[←aAd];exact hl)⟩
  ·rename_i x h1;have:=aBb h1;subst this;split
   ·rename_i h2;have:=toList_nil h2;subst this;refine Snd.bind fun v q=>?_
    split
    ·exact Snd.val fun _ j c hc=>⟨hc,u3 ho j c (by rw[←bX];exact q)⟩
    ·exact Snd.none
   ·exact Snd.none
  ·exact Snd.none
 ·exact Snd.none
def aOc (st:St) (m:Nat):Option Operand→Option Nat
 | none=>some m
 | some x=>(opO st x).bind fun v=>match v with
  | .one (.c (.int _ (.ofNat k)))=>some k
  | _=>none
theorem jZ {m k:Nat}{x:Option Operand}(h:aOc st m x=some k):BndV st x m k:=by
 cases x with
 | none=>cases h;exact .no
 | some x=>
  simp only[aOc,Ab,bX] at h;obtain⟨v,c,h⟩:=h;split at h
  ·cases h;exact .yes c
  ·cases h
def aRk {α:Type}(l:List α) (lo hi:Nat) (low high:Option Operand):Option (List α):=match low,high with
 | none,none=>some l
 | none,some _=>some (l.take hi)
 | some _,none=>some (l.drop lo)
 | some _,some _=>some ((l.take hi).drop lo)
theorem aFj {α:Type}{l r:List α}{lo hi:Nat}{low high:Option Operand}(h1:BndV st low 0 lo) (h2:BndV st high l.length hi) (h:aRk l lo hi low high=some r):r=(l.take hi).drop lo:=by
 cases h1<;>cases h2<;>simp[aRk] at h<;>simp[h]
def aNm (tr:Tr) (md:Bool) (o:Oper) (n:Nat) (st:St) (ob:List Prop) (t:TypeId) (x:Operand) (low high mx:Option Operand):Ans:=match mx with
 | some _=>none
 | none=>(tr.get t).bind fun i=>(opO st x).bind fun v=>match i.k with
  | .sl e=>(tr.get e).bind fun ei=>match v with
   | .one (.c (.sl es l))=>bif Nat.beq ei.size es then(aOc st 0 low).bind fun lo=>(aOc st l.length high).bind fun hi=>(need md (lo≤hi) ob).bind fun ob1=>(need md (hi≤l.length) ob1).bind fun ob2=>
     (aRk l lo hi low high).bind fun r=>val o n ⟨opr x++aJu low++aJu high,[]⟩ (.one (.c (.sl es r))) [] ob2 else none
   | _=>none
  | .str=>match v with
   | .one (.c (.str s))=>(aOc st 0 low).bind fun lo=>(aOc st s.length high).bind fun hi=>(need md (lo≤hi) ob).bind fun ob1=>(need md (hi≤s.length) ob1).bind fun ob2=>
     (aRk s lo hi low high).bind fun r=>val o n ⟨opr x++aJu low++aJu high,[]⟩ (.one (.c (.str r))) [] ob2
   | _=>none
  | _=>none
theorem aJ4 {t:TypeId}{x:Operand}{low high J:Option Operand}(hw:tr.wf=true) (M:Tok P tr.flat) (ho:o.op=.slice t x low high J):Snd P n o st ob (aNm tr md o n st ob t x low high J):=by
 unfold aNm;split
 ·exact Snd.none
 ·refine Snd.bind fun i q=>Snd.bind fun v A=>?_
  replace q:=Tr.get_ok hw q
  rw[bX] at A;split
  ·rename_i e B;refine Snd.bind fun ei u=>?_
   replace u:=Tr.get_ok hw u
   split
   ·rename_i es l;refine Snd.cond fun O=>Snd.bind fun lo c=>Snd.bind fun hi j=>Snd.bind fun U h1=>Snd.bind fun Y h2=>Snd.bind fun r E=>Snd.val fun _ I y hc=>?_
    obtain⟨g1,g2⟩:=aS h2 hc;obtain⟨g3,g4⟩:=aS h1 g1;rw[aFj (jZ c) (jZ j) E];exact⟨g3,aSd M ho I y q B u (δ O) A (jZ c) (jZ j) g4 g2⟩
   ·exact Snd.none
  ·rename_i B;split
   ·rename_i s;refine Snd.bind fun lo c=>Snd.bind fun hi j=>Snd.bind fun U h1=>Snd.bind fun Y h2=>Snd.bind fun r E=>Snd.val fun _ I y hc=>?_
    obtain⟨g1,g2⟩:=aS h2 hc;obtain⟨g3,g4⟩:=aS h1 g1;rw[aFj (jZ c) (jZ j) E];exact⟨g3,aO0 M ho I y q B A (jZ c) (jZ j) g4 g2⟩
   ·exact Snd.none
  ·exact Snd.none
def aGn (tr:Tr) (o:Oper) (n:Nat) (st:St) (ob:List Prop) (hn:Hn) (t:TypeId) (x y:Operand):Ans:=(tr.get t).bind fun i=>match i.k with
 | .str=>(opO st x).bind fun v=>(opO st y).bind fun u=>match v,u with
  | .one (.c (.str s)),.one (.c (.int _ m))=>match hn with
   | .byte k b=>val o n ⟨opr x++opr y,[]⟩ (.one (.c (.int .u8 ((b.toNat:Nat):Int)))) [] ((m=(k:Int)∧s[k]?=some b)::ob)
   | _=>match m with
    | .ofNat k=>(s[k]?).bind fun b=>val o n ⟨opr x++opr y,[]⟩ (.one (.c (.int .u8 ((b.toNat:Nat):Int)))) [] ob
    | _=>none
  | _,_=>none
 | _=>none
theorem aCp {hn:Hn}{t:TypeId}{x y:Operand}(hw:tr.wf=true) (r:Tok P tr.flat) (ho:o.op=.index t x y):Snd P n o st ob (aGn tr o n st ob hn t x y):=by
 refine Snd.bind fun i hi=>?_
 replace hi:=Tr.get_ok hw hi
 split
 ·rename_i A;refine Snd.bind fun v j=>Snd.bind fun u hu=>?_
  rw[bX] at j hu;split
  ·split
   ·exact Snd.val fun _ q c hc=>⟨hc.2,aKj r ho q c hi A j hu hc.1.1 hc.1.2⟩
   ·split
    ·exact Snd.bind fun b hb=>Snd.val fun _ q c hc=>⟨hc,aKj r ho q c hi A j hu rfl hb⟩
    ·exact Snd.none
  ·exact Snd.none
 ·exact Snd.none
def aEo:List (List C)→Bool
 | []=>true
 | (.str _::_)::r=>aEo r
 | _::_=>false
theorem uD:∀l:List (List C),aEo l=true↔jO l
 | []=>by simp[aEo,jO]
 | []::r=>by simp[aEo,jO]
 | (c::vs)::r=>by
  cases c<;>simp[aEo,jO];exact uD r
instance (l:List (List C)):Decidable (jO l):=decidable_of_iff _ (uD l)
def aIx (st:St) (agg:Bool):V→Option (List Nat×List (List C))
 | .one (.mr id)=>match st.h id with
  | some (.map a ents)=>bif a==agg then some ([id],ents) else none
  | _=>none
 | .one (.c (.mp a ents))=>bif a==agg then some ([],ents) else none
 | .one (.c (.zv 0))=>some ([],[])
 | _=>none
theorem sM {st:St}{agg:Bool}{v:V}{ids:List Nat}{ents:List (List C)}(h:aIx st agg v=some (ids,ents)):MapE st ids v agg ents:=by
 unfold aIx at h;split at h
 ·split at h
  ·rename_i hh;obtain⟨h1,h2⟩:=cT h;cases h2;exact .mr (by rw[hh,eq_of_beq h1])
  ·cases h
 ·obtain⟨h1,h2⟩:=cT h;cases h2;rw[eq_of_beq h1];exact .mp
 ·cases h;exact .nil
 ·cases h
def aMg (md:Bool) (hn:Hn) (k:List UInt8) (ents:List (List C)) (ob:List Prop):Option (Option (List C)×List Prop):=match hn with
 | .look r=>some (r,(iQ k ents=r)::ob)
 | _=>bif md then some (iQ k ents,ob) else match iQ k ents with
  | some r=>some (some r,ob)
  | none=>some (none,ob)
theorem zT {md:Bool}{hn:Hn}{k:List UInt8}{ents:List (List C)}{ob c:List Prop}{r:Option (List C)}(h:aMg md hn k ents ob=some (r,c)):fQ c→fQ ob∧iQ k ents=r:=by
 unfold aMg at h;split at h
 ·cases h;exact fun h=>⟨h.2,h.1⟩
 ·cases md
  ·simp only[Bh] at h;split at h
   ·rename_i h1;cases h;exact fun h=>⟨h,h1⟩
   ·rename_i h1;cases h;exact fun h=>⟨h,h1⟩
  ·cases h;exact fun h=>⟨h,rfl⟩
def vU (tr:Tr) (md:Bool) (o:Oper) (n:Nat) (st:St) (ob:List Prop) (hn:Hn) (t:TypeId) (x y:Operand) (ok:Bool):Ans:=(tr.get t).bind fun i=>match i.k with
 | .mp kt et=>(tr.get kt).bind fun ki=>(tr.get et).bind fun ei=>match ki.k with
  | .str=>(opO st x).bind fun v=>(aIx st ei.k.agg v).bind fun(ids,ents)=>(opO st y).bind fun u=>match u with
   | .one (.c (.str k))=>(need md (jO ents) ob).bind fun ob1=>(aMg md hn k ents ob1).bind fun(r,ob2)=>match ok with
    | true=>val o n ⟨opr x++opr y,ids⟩ (.tup [oA ei r,.one (.c (.bool (aEt r)))]) [] ob2
    | false=>val o n ⟨opr x++opr y,ids⟩ (oA ei r) [] ob2
   | _=>none
  | _=>none
 | _=>none
theorem vT {hn:Hn}{t:TypeId}{x y:Operand}{ok:Bool}(hw:tr.wf=true) (I:Tok P tr.flat) (ho:o.op=.lookup t x y ok):Snd P n o st ob (vU tr md o n st ob hn t x y ok):=by
 refine Snd.bind fun i hi=>?_
 replace hi:=Tr.get_ok hw hi
 split
 ·rename_i U Y J;refine Snd.bind fun ki c=>Snd.bind fun ei j=>?_
  replace c:=Tr.get_ok hw c
  replace j:=Tr.get_ok hw j
  split
  ·rename_i A;refine Snd.bind fun v B=>Snd.bind fun p hp=>?_
   obtain⟨ids,ents⟩:=p;refine Snd.bind fun u hu=>?_
   rw[bX] at B hu;split
   ·rename_i k;refine Snd.bind fun M h1=>Snd.bind fun p h2=>?_
    obtain⟨r,O⟩:=p;dsimp only;split
    ·refine Snd.val fun _ E q hc=>?_
     obtain⟨g1,g2⟩:=zT h2 hc;obtain⟨g3,g4⟩:=aS h1 g1;have:=rW I ho E q hi J c A j rfl B (sM hp) g4 hu g2;exact⟨g3,by simpa using this⟩
    ·refine Snd.val fun _ E q hc=>?_
     obtain⟨g1,g2⟩:=zT h2 hc;obtain⟨g3,g4⟩:=aS h1 g1;have:=rW I ho E q hi J c A j rfl B (sM hp) g4 hu g2;exact⟨g3,by simpa using this⟩
   ·exact Snd.none
  ·exact Snd.none
 ·exact Snd.none
def vS (tr:Tr) (md:Bool) (o:Oper) (n:Nat) (st:St) (ob:List Prop) (w:V) (t:TypeId) (x y:Operand):Ans:=(tr.get t).bind fun i=>match i.k with
 | .mp kt et=>(tr.get kt).bind fun ki=>(tr.get et).bind fun ei=>match ki.k with
  | .str=>(opO st x).bind fun v=>(aIx st ei.k.agg v).bind fun(ids,ents)=>(opO st y).bind fun u=>match u with
   | .one (.c (.str k))=>(need md (jO ents) ob).bind fun ob1=>val o n ⟨opr x++opr y,ids⟩ w [] ((oA ei (iQ k ents)=w)::ob1)
   | _=>none
  | _=>none
 | _=>none
theorem vR {w:V}{t:TypeId}{x y:Operand}(hw:tr.wf=true) (B:Tok P tr.flat) (ho:o.op=.lookup t x y false):Snd P n o st ob (vS tr md o n st ob w t x y):=by
 refine Snd.bind fun i hi=>?_
 replace hi:=Tr.get_ok hw hi
 split
 ·rename_i M O E;refine Snd.bind fun U c=>Snd.bind fun Y j=>?_
  replace c:=Tr.get_ok hw c
  replace j:=Tr.get_ok hw j
  split
  ·rename_i q;refine Snd.bind fun v r=>Snd.bind fun p hp=>?_
   obtain⟨ids,ents⟩:=p;refine Snd.bind fun u hu=>?_
   rw[bX] at r hu;split
   ·rename_i k;refine Snd.bind fun J h1=>Snd.val fun _ I A hc=>?_
    obtain⟨g3,g4⟩:=aS h1 hc.2;have:=rW B ho I A hi E c q j rfl r (sM hp) g4 hu rfl;refine⟨g3,?_⟩;rw[←hc.1];simpa using this
   ·exact Snd.none
  ·exact Snd.none
 ·exact Snd.none
def sW (tr:Tr) (md:Bool) (o:Oper) (n:Nat) (st:St) (ob:List Prop) (hn:Hn) (t:TypeId) (x y:Operand) (ok:Bool):Ans:=match ok,hn with
 | false,.pc w=>vS tr md o n st ob w t x y
 | ok,hn=>vU tr md o n st ob hn t x y ok
theorem xW {hn:Hn}{t:TypeId}{x y:Operand}{ok:Bool}(hw:tr.wf=true) (c:Tok P tr.flat) (ho:o.op=.lookup t x y ok):Snd P n o st ob (sW tr md o n st ob hn t x y ok):=by
 unfold sW;split
 ·exact vR hw c ho
 ·exact vT hw c ho
def aPg (md:Bool) (k:List UInt8) (cs:List C) (ents:List (List C)):Option (List (List C)):=bif md then some (aBx k cs ents) else frc (aBx k cs ents)
theorem zA (md:Bool) (k:List UInt8) (cs:List C) (ents:List (List C)):aPg md k cs ents=some (aBx k cs ents):=by
 cases md
 ·exact j5 _
 ·rfl
def iX (tr:Tr) (md:Bool) (o:Oper) (st:St) (ob:List Prop) (t:TypeId) (x y z:Operand):Ans:=(tr.get t).bind fun i=>match i.k with
 | .mp kt _=>(tr.get kt).bind fun ki=>match ki.k with
  | .str=>(opO st x).bind fun v=>match v with
   | .one (.mr id)=>match st.h id with
    | some (.map agg ents)=>(opO st y).bind fun u=>match u with
     | .one (.c (.str k))=>(opO st z).bind fun v=>bif (match v with | .one _=>!agg | .pa _=>agg | .ma _=>agg | _=>false) then(nW v).bind fun rs=>
      (need md (jO ents) ob).bind fun ob1=>(aPg md k (aPd rs) ents).bind fun e'=>eff o ⟨opr x++opr y++opr z,[id]⟩ [(id,some (.map agg e'))] ob1 else none
     | _=>none
    | _=>none
   | _=>none
  | _=>none
 | _=>none
theorem qT {t:TypeId}{x y z:Operand}(hw:tr.wf=true) (E:Tok P tr.flat) (ho:o.op=.mapUpdate t x y z):Snd P n o st ob (iX tr md o st ob t x y z):=by
 refine Snd.bind fun i hi=>?_
 replace hi:=Tr.get_ok hw hi
 split
 ·rename_i O U I;refine Snd.bind fun Y c=>?_
  replace c:=Tr.get_ok hw c
  split
  ·rename_i q;refine Snd.bind fun v r=>?_
   rw[bX] at r;split
   ·rename_i id;split
    ·rename_i agg ents hh;refine Snd.bind fun u hu=>?_
     rw[bX] at hu;split
     ·rename_i k;refine Snd.bind fun z A=>Snd.cond fun B=>Snd.bind fun rs j=>Snd.bind fun M h1=>Snd.bind fun e' he=>Snd.eff fun J hc=>?_
      rw[bX] at A;rw[gI] at j;rw[zA] at he;cases he;obtain⟨g1,g2⟩:=aS h1 hc;exact⟨g1,wN (ids:=[]) E ho J hi I c q r hh g2 hu A (by cases z<;>first | rfl | exact B) j .ofA⟩
     ·exact Snd.none
    ·exact Snd.none
   ·exact Snd.none
  ·exact Snd.none
 ·exact Snd.none
theorem xX {t:TypeId}{x y z:Operand}(hw:tr.wf=true) (E:Tok P tr.flat) (ho:o.op=.insert t x y z):Snd P n o st ob (iX tr md o st ob t x y z):=by
 refine Snd.bind fun i hi=>?_
 replace hi:=Tr.get_ok hw hi
 split
 ·rename_i O U I;refine Snd.bind fun Y c=>?_
  replace c:=Tr.get_ok hw c
  split
  ·rename_i q;refine Snd.bind fun v r=>?_
   rw[bX] at r;split
   ·rename_i id;split
    ·rename_i agg ents hh;refine Snd.bind fun u hu=>?_
     rw[bX] at hu;split
     ·rename_i k;refine Snd.bind fun z A=>Snd.cond fun B=>Snd.bind fun rs j=>Snd.bind fun M h1=>Snd.bind fun e' he=>Snd.eff fun J hc=>?_
      rw[bX] at A;rw[gI] at j;rw[zA] at he;cases he;obtain⟨g1,g2⟩:=aS h1 hc;exact⟨g1,aIb (ids:=[]) E ho J hi I c q r hh g2 hu A (by cases z<;>first | rfl | exact B) j .ofA⟩
     ·exact Snd.none
    ·exact Snd.none
   ·exact Snd.none
  ·exact Snd.none
 ·exact Snd.none
end
section
variable {QP:Value→Prop}{P:Program}{n:Nat}{o:Oper}{st:St}{ob:List Prop}{tr:Tr}{md nat:Bool}
def arith (md nat:Bool) (op:BinOp) (a b:Int) (ob:List Prop):Option (Int×List Prop):=match op with
 | .add=>bif nat then(match a,b with | .ofNat x,.ofNat y=>(need md (x+y≤9223372036854775807) ob).bind fun ob1=>some (((x+y:Nat):Int),ob1) | _,_=>none)
  else(need md (-9223372036854775808≤a+b∧a+b≤9223372036854775807) ob).bind fun ob1=>some (a+b,ob1)
 | .sub=>bif nat then(match a,b with | .ofNat x,.ofNat y=>(need md (y≤x∧x≤9223372036854775807) ob).bind fun ob1=>some (((x-y:Nat):Int),ob1) | _,_=>none)
  else(need md (-9223372036854775808≤a-b∧a-b≤9223372036854775807) ob).bind fun ob1=>some (a-b,ob1)
 | .mul=>bif nat then(match a,b with | .ofNat x,.ofNat y=>(need md (x*y≤9223372036854775807) ob).bind fun ob1=>some (((x*y:Nat):Int),ob1) | _,_=>none)
  else(need md (-9223372036854775808≤a*b∧a*b≤9223372036854775807) ob).bind fun ob1=>some (a*b,ob1)
 | .quo=>bif nat then(match a,b with | .ofNat x,.ofNat y=>(need md (x≤9223372036854775807∧1≤y) ob).bind fun ob1=>some (((x/y:Nat):Int),ob1) | _,_=>none)
  else(need md (0≤a∧a≤9223372036854775807∧1≤b) ob).bind fun ob1=>some (a/b,ob1)
 | .rem=>bif nat then(match a,b with | .ofNat x,.ofNat y=>(need md (1≤y) ob).bind fun ob1=>some (((x%y:Nat):Int),ob1) | _,_=>none)
  else(need md (0≤a∧1≤b) ob).bind fun ob1=>some (a%b,ob1)
 | _=>none
theorem qS {α:Type}{c:List Prop}{x:Option (List Prop)}{r r':α}(h:(x.bind fun j=>some (r,j))=some (r',c)):x=some c∧r'=r:=by
 rw[Ab] at h;obtain⟨j,h1,h2⟩:=h;cases h2;exact⟨h1,rfl⟩
theorem aJ7 {op:BinOp}{u ty:TypeId}{x y:Operand}{d:Nat}{a b r:Int}{q:List Prop}(ho:o.op=.binOp op u x y ty) (j:o.dst=some d) (c:d<n) (hx:opv st x=some (I .i64 a)) (hy:opv st y=some (I .i64 b)) (h:arith md nat op a b ob=some (r,q)):
  fQ q→fQ ob∧Step P n o st ⟨opr x++opr y,[]⟩ ⟨some (d,some (I .i64 r)),[]⟩:=by
 intro hc;unfold arith at h;cases nat<;>cases op<;>simp only[Bp,Bh] at h<;>try (cases h;done)
 ·obtain⟨h1,rfl⟩:=qS h;obtain⟨g,k⟩:=aS h1 hc;exact⟨g,aPc ho j c hx hy k⟩
 ·obtain⟨h1,rfl⟩:=qS h;obtain⟨g,k⟩:=aS h1 hc;exact⟨g,aOw ho j c hx hy k⟩
 ·obtain⟨h1,rfl⟩:=qS h;obtain⟨g,k⟩:=aS h1 hc;exact⟨g,aO7 ho j c hx hy k⟩
 ·obtain⟨h1,rfl⟩:=qS h;obtain⟨g,k⟩:=aS h1 hc;exact⟨g,aKl ho j c hx hy k⟩
 ·obtain⟨h1,rfl⟩:=qS h;obtain⟨g,k⟩:=aS h1 hc;exact⟨g,aKk ho j c hx hy k⟩
 all_goals cases a<;>cases b<;>simp only at h<;>try (cases h;done)
 ·obtain⟨h1,rfl⟩:=qS h;obtain⟨g,k⟩:=aS h1 hc;exact⟨g,aPb ho j c hx hy k⟩
 ·obtain⟨h1,rfl⟩:=qS h;obtain⟨g,k⟩:=aS h1 hc;exact⟨g,aOv ho j c hx hy k⟩
 ·obtain⟨h1,rfl⟩:=qS h;obtain⟨g,k⟩:=aS h1 hc;exact⟨g,aO6 ho j c hx hy k⟩
 ·obtain⟨h1,rfl⟩:=qS h;obtain⟨g,k⟩:=aS h1 hc;exact⟨g,aO3 ho j c hx hy k⟩
 ·obtain⟨h1,rfl⟩:=qS h;obtain⟨g,k⟩:=aS h1 hc;exact⟨g,aO2 ho j c hx hy k⟩
def aSr (op:BinOp) (a b:Int):Option Bool:=match op with
 | .lss=>some (decide (a<b))
 | .leq=>some (decide (a≤b))
 | .gtr=>some (decide (b<a))
 | .geq=>some (decide (b≤a))
 | .eql=>some (decide (a=b))
 | .neq=>some (!decide (a=b))
 | _=>none
theorem aMm {op:BinOp}{q ty:TypeId}{x y:Operand}{d:Nat}{k:IntKind}{a b:Int}{r:Bool}(ho:o.op=.binOp op q x y ty) (j:o.dst=some d) (c:d<n) (hx:opv st x=some (I k a)) (hy:opv st y=some (I k b)) (h:aSr op a b=some r):
  Step P n o st ⟨opr x++opr y,[]⟩ ⟨some (d,some (B r)),[]⟩:=by
 unfold aSr at h;cases op<;>simp only at h<;>try (cases h;done)
 ·cases h;exact aSc ho j c hx hy
 ·cases h;exact aR4 ho j c hx hy
 ·cases h;exact aR8 ho j c hx hy
 ·cases h;exact aR9 ho j c hx hy
 ·cases h;exact aSa ho j c hx hy
 ·cases h;exact aSb ho j c hx hy
def aLe (op:BinOp) (k:IntKind) (a b:Int):Option Int:=match op with
 | .add=>some (k.wrap (a+b))
 | .sub=>some (k.wrap (a-b))
 | .mul=>some (k.wrap (a*b))
 | _=>none
theorem aHk {op:BinOp}{q ty:TypeId}{x y:Operand}{d:Nat}{k:IntKind}{a b r:Int}(ho:o.op=.binOp op q x y ty) (j:o.dst=some d) (c:d<n) (hx:opv st x=some (I k a)) (hy:opv st y=some (I k b)) (h:aLe op k a b=some r):
  Step P n o st ⟨opr x++opr y,[]⟩ ⟨some (d,some (I k r)),[]⟩:=by
 unfold aLe at h;cases op<;>simp only at h<;>try (cases h;done)
 ·cases h;exact aL1 ho j c hx hy rfl
 ·cases h;exact aLq ho j c hx hy rfl
 ·cases h;exact aLu ho j c hx hy rfl
def aMc:IntKind→Bool
 | .i64=>true
 | _=>false
def aQ0 (tr:Tr) (md nat:Bool) (o:Oper) (n:Nat) (st:St) (ob:List Prop) (op:BinOp) (tx:TypeId) (x y:Operand):Ans:=(opO st x).bind fun v=>(opO st y).bind fun u=>match v,u with
 | .one (.c (.int k a)),.one (.c (.int k' b))=>bif decide (k=k') then(match aSr op a b with
   | some r=>val o n ⟨opr x++opr y,[]⟩ (.one (.c (.bool r))) [] ob
   | none=>bif aMc k then(arith md nat op a b ob).bind fun(r,ob1)=>val o n ⟨opr x++opr y,[]⟩ (.one (.c (.int .i64 r))) [] ob1
    else(aLe op k a b).bind fun r=>val o n ⟨opr x++opr y,[]⟩ (.one (.c (.int k r))) [] ob) else none
 | .one (.c (.str a)),.one (.c (.str b))=>match op with
  | .eql=>val o n ⟨opr x++opr y,[]⟩ (.one (.c (.bool (decide (a=b))))) [] ob
  | .neq=>val o n ⟨opr x++opr y,[]⟩ (.one (.c (.bool (!decide (a=b))))) [] ob
  | .lss=>val o n ⟨opr x++opr y,[]⟩ (.one (.c (.bool (Op.bytesLess a b)))) [] ob
  | .add=>(need md (a.length+b.length≤maxLen) ob).bind fun ob1=>val o n ⟨opr x++opr y,[]⟩ (.one (.c (.str (a++b)))) [] ob1
  | _=>none
 | .one (.c (.bool a)),.one (.c (.bool b))=>(tr.get tx).bind fun i=>match i.k with
  | .bool=>match op with
   | .eql=>val o n ⟨opr x++opr y,[]⟩ (.one (.c (.bool (a==b)))) [] ob
   | .neq=>val o n ⟨opr x++opr y,[]⟩ (.one (.c (.bool (!(a==b))))) [] ob
   | _=>none
  | _=>none
 | v,.one (.c .np)=>(tr.get tx).bind fun i=>match i.k with
  | .pt _=>(u4 v).bind fun b=>match op with
   | .eql=>val o n ⟨opr x++opr y,[]⟩ (.one (.c (.bool b))) [] ob
   | .neq=>val o n ⟨opr x++opr y,[]⟩ (.one (.c (.bool (!b)))) [] ob
   | _=>none
  | _=>none
 | v,.one (.c .nl)=>(tr.get tx).bind fun i=>match i.k with
  | .sl _=>(aHv v).bind fun b=>match op with
   | .eql=>val o n ⟨opr x++opr y,[]⟩ (.one (.c (.bool b))) [] ob
   | _=>none
  | _=>none
 | _,_=>none
theorem aJ6 {op:BinOp}{I ty:TypeId}{x y:Operand}(hw:tr.wf=true) (B:Tok P tr.flat) (ho:o.op=.binOp op I x y ty):Snd P n o st ob (aQ0 tr md nat o n st ob op I x y):=by
 refine Snd.bind fun v q=>Snd.bind fun u hu=>?_
 rw[bX] at q hu;split
 ·rename_i k a k' b;refine Snd.cond fun A=>?_
  have J:=χ A;subst J;split
  ·rename_i r E;exact Snd.val fun _ j c hc=>⟨hc,aMm ho j c q hu E⟩
  ·cases hi:aMc k with
   | true=>
    simp only[Bp];cases k<;>simp only[aMc] at hi<;>try (cases hi;done)
    refine Snd.bind fun p hp=>?_
    obtain⟨r,M⟩:=p;exact Snd.val fun _ j c hc=>aJ7 ho j c q hu hp hc
   | false=>
    simp only[Bh];exact Snd.bind fun r E=>Snd.val fun _ j c hc=>⟨hc,aHk ho j c q hu E⟩
 ·split
  ·exact Snd.val fun _ j c hc=>⟨hc,aOz ho j c q hu⟩
  ·exact Snd.val fun _ j c hc=>⟨hc,aOx ho j c q hu⟩
  ·exact Snd.val fun _ j c hc=>⟨hc,aOy ho j c q hu⟩
  ·exact Snd.bind fun M h1=>Snd.val fun _ j c hc=>⟨(aS h1 hc).1,aO1 ho j c q hu (aS h1 hc).2⟩
  ·exact Snd.none
 ·refine Snd.bind fun i hi=>?_
  replace hi:=Tr.get_ok hw hi
  split
  ·rename_i A;split
   ·exact Snd.val fun _ j c hc=>⟨hc,aPa B ho j c hi A q hu⟩
   ·exact Snd.val fun _ j c hc=>⟨hc,aO9 B ho j c hi A q hu⟩
   ·exact Snd.none
  ·exact Snd.none
 ·refine Snd.bind fun i hi=>?_
  replace hi:=Tr.get_ok hw hi
  split
  ·rename_i A;refine Snd.bind fun b hb=>?_
   split
   ·exact Snd.val fun _ j c hc=>⟨hc,aO5 B ho j c hi A q hb hu⟩
   ·exact Snd.val fun _ j c hc=>⟨hc,aO4 B ho j c hi A q hb hu⟩
   ·exact Snd.none
  ·exact Snd.none
 ·refine Snd.bind fun i hi=>?_
  replace hi:=Tr.get_ok hw hi
  split
  ·rename_i A;refine Snd.bind fun b hb=>?_
   split
   ·exact Snd.val fun _ j c hc=>⟨hc,aLt B ho j c hi A q hb hu⟩
   ·exact Snd.none
  ·exact Snd.none
 ·exact Snd.none
def aS9 (md:Bool) (o:Oper) (n:Nat) (st:St) (ob:List Prop) (op:UnOp) (x:Operand):Ans:=(opO st x).bind fun v=>match v with
 | .one (.c (.bool b))=>match op with
  | .not=>val o n ⟨opr x,[]⟩ (.one (.c (.bool (!b)))) [] ob
  | _=>none
 | .one (.c (.int .i64 a))=>match op with
  | .neg=>(need md (-9223372036854775808≤0-a∧0-a≤9223372036854775807) ob).bind fun ob1=>val o n ⟨opr x,[]⟩ (.one (.c (.int .i64 (0-a)))) [] ob1
  | _=>none
 | _=>none
theorem aNj {op:UnOp}{t:TypeId}{x:Operand}(ho:o.op=.unOp op t x):Snd P n o st ob (aS9 md o n st ob op x):=by
 refine Snd.bind fun v j=>?_
 rw[bX] at j;split
 ·split
  ·exact Snd.val fun _ q c hc=>⟨hc,aR3 ho q c j⟩
  ·exact Snd.none
 ·split
  ·exact Snd.bind fun r h1=>Snd.val fun _ q c hc=>⟨(aS h1 hc).1,aR5 ho q c j (Bv _ (aS h1 hc).2)⟩
  ·exact Snd.none
 ·exact Snd.none
def aQy (tr:Tr) (md:Bool) (o:Oper) (n:Nat) (st:St) (ob:List Prop) (x:Operand) (t:TypeId):Ans:=(tr.get t).bind fun i=>(opO st x).bind fun v=>match i.k with
 | .sl _=>match v with
  | .one (.c (.sl _ l))=>val o n ⟨opr x,[]⟩ (.one (.c (.int .i64 ((l.length:Nat):Int)))) [] ob
  | .one (.c .nl)=>val o n ⟨opr x,[]⟩ (.one (.c (.int .i64 0))) [] ob
  | .one (.ras n' _ _)=>val o n ⟨opr x,[]⟩ (.one (.c (.int .i64 ((n':Nat):Int)))) [] ob
  | .one (.hs id _ len sz)=>match st.h id with
   | some (.arr _ _ elems _)=>(need md (sz=elems.length) ob).bind fun ob1=>val o n ⟨opr x,[id]⟩ (.one (.c (.int .i64 ((len:Nat):Int)))) [] ob1
   | _=>none
  | .one (.ra id _ len sz)=>match st.h id with
   | some (.rarr _ _ elems)=>(need md (sz=elems.length) ob).bind fun ob1=>val o n ⟨opr x,[id]⟩ (.one (.c (.int .i64 ((len:Nat):Int)))) [] ob1
   | _=>none
  | _=>none
 | .str=>match v with
  | .one (.c (.str s))=>val o n ⟨opr x,[]⟩ (.one (.c (.int .i64 ((s.length:Nat):Int)))) [] ob
  | _=>none
 | .mp _ _=>match v with
  | .one (.mr id)=>match st.h id with
   | some (.map _ ents)=>(need md (jO ents) ob).bind fun ob1=>val o n ⟨opr x,[id]⟩ (.one (.c (.int .i64 ((ents.length:Nat):Int)))) [] ob1
   | _=>none
  | _=>none
 | _=>none
theorem aJ2 {x:Operand}{t:TypeId}(hw:tr.wf=true) (u:Tok P tr.flat) (ho:o.op=.call { callee:=.builtin .len,args:= #[x],argTypes:= #[t] }):Snd P n o st ob (aQy tr md o n st ob x t):=by
 refine Snd.bind fun i hi=>Snd.bind fun v r=>?_
 replace hi:=Tr.get_ok hw hi
 rw[bX] at r;split
 ·rename_i q;split
  ·exact Snd.val fun _ j c hc=>⟨hc,aH7 u ho j c hi q r⟩
  ·exact Snd.val fun _ j c hc=>⟨hc,aH9 u ho j c hi q r⟩
  ·exact Snd.val fun _ j c hc=>⟨hc,aD4 u ho j c hi q r⟩
  ·split
   ·rename_i hh;exact Snd.bind fun y h1=>Snd.val fun _ j c hc=>⟨(aS h1 hc).1,aIa u ho j c hi q r hh (aS h1 hc).2⟩
   ·exact Snd.none
  ·split
   ·rename_i hh;exact Snd.bind fun y h1=>Snd.val fun _ j c hc=>⟨(aS h1 hc).1,aH8 u ho j c hi q r hh (aS h1 hc).2⟩
   ·exact Snd.none
  ·exact Snd.none
 ·rename_i q;split
  ·exact Snd.val fun _ j c hc=>⟨hc,aD3 u ho j c hi q r⟩
  ·exact Snd.none
 ·rename_i q;split
  ·split
   ·rename_i hh;exact Snd.bind fun y h1=>Snd.val fun _ j c hc=>⟨(aS h1 hc).1,aD5 u ho j c hi q r hh (aS h1 hc).2⟩
   ·exact Snd.none
  ·exact Snd.none
 ·exact Snd.none
def aQ8 (md:Bool) (st:St) (es:Nat) (hn:Hn) (v:V) (ob:List Prop):Option (List Nat×List (List C)×List Prop):=match v with
 | .one (.hs id off len sz)=>match st.h id with
  | some (.arr _ es' elems _)=>bif Nat.beq es' es then(need md (sz=elems.length) ob).bind fun ob1=>(match hn with
   | .all=>some ([id],elems,(off=0∧len=sz)::ob1)
   | .c rows=>some ([id],rows,(rows=(elems.drop off).take len)::ob1)
   | _=>bif Nat.beq off 0&&Nat.beq len sz then some ([id],elems,ob1) else some ([id],(elems.drop off).take len,ob1)) else none
  | _=>none
 | .one (.c (.sl es' l))=>bif Nat.beq es' es then some ([],l,ob) else none
 | .one (.c (.sn es' l))=>bif Nat.beq es' es then some ([],l,ob) else none
 | .one (.c .nl)=>some ([],[],ob)
 | _=>none
theorem rQ {es:Nat}{hn:Hn}{v:V}{ids:List Nat}{rows:List (List C)}{j:List Prop}(h:aQ8 md st es hn v ob=some (ids,rows,j)):fQ j→fQ ob∧Src st es ids v rows:=by
 intro hc;unfold aQ8 at h;split at h
 ·rename_i id off len sz;split at h
  ·rename_i te y elems fz hh;obtain⟨h1,c⟩:=cT h;clear h;have:=δ h1;subst this;rw[Ab] at c;obtain⟨A,h2,h⟩:=c;split at h
   ·cases h;obtain⟨⟨rfl,rfl⟩,hc⟩:=hc;obtain⟨g,k⟩:=aS h2 hc;exact⟨g,.all hh k⟩
   ·cases h;obtain⟨q,hc⟩:=hc;obtain⟨g,k⟩:=aS h2 hc;exact⟨g,.hs hh k q⟩
   ·cases hb:Nat.beq off 0&&Nat.beq len sz with
    | true=>
     rw[hb] at h;cases h;obtain⟨g,k⟩:=aS h2 hc;simp only[τ] at hb;have r:=δ hb.1;have u:=δ hb.2;subst r u;exact⟨g,.all hh k⟩
    | false=>
     rw[hb] at h;cases h;obtain⟨g,k⟩:=aS h2 hc;exact⟨g,.hs hh k rfl⟩
  ·cases h
 ·obtain⟨h1,c⟩:=cT h;clear h;have:=δ h1;subst this;cases c;exact⟨hc,.sl⟩
 ·obtain⟨h1,c⟩:=cT h;clear h;have:=δ h1;subst this;cases c;exact⟨hc,.sn⟩
 ·cases h;exact⟨hc,.nl⟩
 ·cases h
def vN:List (List C)→Option (List Int)
 | []=>some []
 | [.int .u8 m]::rs=>(vN rs).bind fun l=>some (m::l)
 | _=>none
theorem vM:∀{rows:List (List C)}{c:List Int},vN rows=some c→rows=c.map fun m=>[C.int .u8 m]
 | [],c,h=>by simp[vN] at h;subst h;rfl
 | [.int .u8 m]::rs,c,h=>by
  simp only[vN,Ab] at h;obtain⟨l,h1,h2⟩:=h;cases h2;rw[vM h1];rfl
def aK7 (tr:Tr) (md:Bool) (o:Oper) (n:Nat) (st:St) (ob:List Prop) (hn:Hn) (src dst:TypeId) (x:Operand):Ans:=(tr.get src).bind fun i=>(tr.get dst).bind fun j=>(opO st x).bind fun v=>match j.k with
 | .int k'=>match i.k,v with
  | .int k,.one (.c (.int k2 m))=>bif decide (k2=k) then val o n ⟨opr x,[]⟩ (.one (.c (.int k' (k'.wrap m)))) [] ob else none
  | _,_=>none
 | .str=>match i.k with
  | .sl e=>(tr.get e).bind fun ei=>match ei.k with
   | .int .u8=>(aQ8 md st 1 hn v ob).bind fun(ids,rows,ob1)=>(vN rows).bind fun ns=>(frc (ns.map fun m=>UInt8.ofNat m.toNat)).bind fun bs=>val o n ⟨opr x,ids⟩ (.one (.c (.str bs))) [] ob1
   | _=>none
  | _=>none
 | _=>none
theorem aGr {hn:Hn}{src dst:TypeId}{x:Operand}(hw:tr.wf=true) (I:Tok P tr.flat) (ho:o.op=.convert src dst x):Snd P n o st ob (aK7 tr md o n st ob hn src dst x):=by
 refine Snd.bind fun i hi=>Snd.bind fun j y=>Snd.bind fun v B=>?_
 replace hi:=Tr.get_ok hw hi
 replace y:=Tr.get_ok hw y
 rw[bX] at B;split
 ·rename_i k' c;split
  ·rename_i k Y m q;refine Snd.cond fun O=>?_
   have:=χ O;subst this;exact Snd.val fun _ E r hc=>⟨hc,aLx I ho E r hi q y c B⟩
  ·exact Snd.none
 ·rename_i c;split
  ·rename_i e q;refine Snd.bind fun ei u=>?_
   replace u:=Tr.get_ok hw u
   split
   ·rename_i J;refine Snd.bind fun p hp=>?_
    obtain⟨ids,rows,U⟩:=p;refine Snd.bind fun ns M=>Snd.bind fun bs A=>Snd.val fun _ E r hc=>?_
    rw[j5] at A;cases A;obtain⟨g1,g2⟩:=rQ hp hc;exact⟨g1,aLy I ho E r hi q u J y c B g2 (vM M)⟩
   ·exact Snd.none
  ·exact Snd.none
 ·exact Snd.none
def aS8 (md:Bool) (a b:List (List C)):Option (List (List C)):=bif md then some (a++b) else frc (a++b)
theorem aMn (md:Bool) (a b:List (List C)):aS8 md a b=some (a++b):=by
 cases md
 ·exact j5 _
 ·rfl
def aA0 (tr:Tr) (md:Bool) (o:Oper) (n:Nat) (st:St) (ob:List Prop) (hn:Hn) (id0:Nat) (x y:Operand) (t:TypeId):Ans:=(tr.get t).bind fun i=>match i.k with
 | .sl e=>(tr.get e).bind fun ei=>match ei with
  | ⟨_,s0,b0,_⟩=>bif Nat.ble 1 s0&&Nat.ble 1 b0 then(opO st x).bind fun v=>(opO st y).bind fun u=>(aQ8 md st s0 hn u ob).bind fun(ids,rows,ob1)=>(match v with
  | .one (.hs id off len sz)=>match st.h id with
   | some (.arr te es elems fz)=>bif Nat.beq te e&&Nat.beq es s0 then(need md (sz=elems.length) ob1).bind fun ob2=>(need md (off=0∧len=sz) ob2).bind fun ob3=>(need md ((elems.length+rows.length)*b0≤140737488355328) ob3).bind fun ob4=>
     (aS8 md elems rows).bind fun l=>match fz with
     | 0=>val o n ⟨opr x++opr y,id::ids⟩ (.one (.hs id 0 (elems.length+rows.length) (elems.length+rows.length))) [(id,some (.arr e s0 l 0))] ob4
     | _+1=>val o n ⟨opr x++opr y,id::ids⟩ (.one (.hs id 0 (elems.length+rows.length) (elems.length+rows.length))) [(id,some (.arr e s0 l 1))] ob4
    else none
   | _=>none
  | .one (.c .nl)=>match st.h id0 with
   | none=>(need md (rows.length*b0≤140737488355328) ob1).bind fun ob2=>val o n ⟨opr x++opr y,id0::ids⟩ (.one (.hs id0 0 rows.length rows.length)) [(id0,some (.arr e s0 rows 0))] ob2
   | some _=>none
  | _=>none) else none
 | _=>none
theorem y0 {hn:Hn}{B:Nat}{x y:Operand}{t:TypeId}(hw:tr.wf=true) (E:Tok P tr.flat) (ho:o.op=.call { callee:=.builtin .append,args:= #[x,y],argTypes:= #[t,t] }):Snd P n o st ob (aA0 tr md o n st ob hn B x y t):=by
 refine Snd.bind fun i hi=>?_
 replace hi:=Tr.get_ok hw hi
 split
 ·rename_i e I;refine Snd.bind fun U c=>?_
  obtain⟨k0,s0,b0,z0⟩:=U;refine Snd.cond fun hb=>Snd.bind fun v A=>Snd.bind fun u hu=>Snd.bind fun p hp=>?_
  replace c:=Tr.get_ok hw c
  obtain⟨ids,rows,ob1⟩:=p;simp only[τ] at hb;rw[bX] at A hu;dsimp only;split
  ·rename_i id off len sz;split
   ·rename_i te es elems fz hh;refine Snd.cond fun q=>Snd.bind fun J h2=>Snd.bind fun ob3 M=>Snd.bind fun ob4 O=>Snd.bind fun l hl=>?_
    simp only[τ] at q;have Y:=δ q.1;have e2:=δ q.2;subst Y e2;rw[aMn] at hl;cases hl;split
    ·refine Snd.val fun _ r j hc=>?_
     obtain⟨g1,g2⟩:=aS O hc;obtain⟨g3,g4,g5⟩:=aS M g1;obtain⟨g6,g7⟩:=aS h2 g3;obtain⟨g8,g9⟩:=rQ hp g6;subst g4 g5;exact⟨g8,yM E ho r j hi I c hb.1 hb.2 A hh g7 hu g9 g2⟩
    ·refine Snd.val fun _ r j hc=>?_
     obtain⟨g1,g2⟩:=aS O hc;obtain⟨g3,g4,g5⟩:=aS M g1;obtain⟨g6,g7⟩:=aS h2 g3;obtain⟨g8,g9⟩:=rQ hp g6;subst g4 g5;exact⟨g8,yM E ho r j hi I c hb.1 hb.2 A hh g7 hu g9 g2⟩
   ·exact Snd.none
  ·split
   ·rename_i hid;refine Snd.bind fun J h2=>Snd.val fun _ r j hc=>?_
    obtain⟨g1,g2⟩:=aS h2 hc;obtain⟨g3,g4⟩:=rQ hp g1;exact⟨g3,aEc B E ho r j hi I c hb.1 hb.2 A hid hu g4 g2⟩
   ·exact Snd.none
  ·exact Snd.none
 ·exact Snd.none
def vY (tr:Tr) (md:Bool) (o:Oper) (n:Nat) (st:St) (ob:List Prop) (id0:Nat) (x y:Operand) (t:TypeId):Ans:=(tr.get t).bind fun i=>match i.k with
 | .sl e=>(tr.get e).bind fun ei=>match ei with
  | ⟨_,s0,b0,_⟩=>bif Nat.ble 1 s0&&Nat.ble 1 b0 then(opO st x).bind fun v=>(opO st y).bind fun u=>match u with
  | .one (.ra id2 off2 len2 sz2)=>match st.h id2 with
   | some (.rarr _ es2 rows)=>bif Nat.beq es2 s0&&(Nat.beq off2 0&&(Nat.beq len2 rows.length&&(Nat.beq sz2 rows.length&&Nat.blt 0 rows.length))) then(match v with
    | .one (.ra id off len sz)=>match st.h id with
     | some (.rarr te es elems)=>bif Nat.beq te e&&Nat.beq es s0 then(need md (sz=elems.length) ob).bind fun ob2=>(need md (off=0∧len=sz) ob2).bind fun ob3=>(need md ((elems.length+rows.length)*b0≤140737488355328) ob3).bind fun ob4=>
       val o n ⟨opr x++opr y,[id,id2]⟩ (.one (.ra id 0 (elems.length+rows.length) (elems.length+rows.length))) [(id,some (.rarr e s0 (elems++rows)))] ob4 else none
     | _=>none
    | .one (.c .nl)=>match st.h id0 with
     | none=>(need md (rows.length*b0≤140737488355328) ob).bind fun ob2=>val o n ⟨opr x++opr y,[id0,id2]⟩ (.one (.ra id0 0 rows.length rows.length)) [(id0,some (.rarr e s0 rows))] ob2
     | some _=>none
    | _=>none) else none
   | _=>none
  | _=>none
  else none
 | _=>none
theorem vX {A:Nat}{x y:Operand}{t:TypeId}(hw:tr.wf=true) (hT:Tok P tr.flat) (ho:o.op=.call { callee:=.builtin .append,args:= #[x,y],argTypes:= #[t,t] }):Snd P n o st ob (vY tr md o n st ob A x y t):=by
 refine Snd.bind fun i hi=>?_
 replace hi:=Tr.get_ok hw hi
 split
 ·rename_i e hk;refine Snd.bind fun ei c=>?_
  obtain⟨k0,s0,b0,z0⟩:=ei;refine Snd.cond fun hb=>Snd.bind fun v I=>Snd.bind fun u hu=>?_
  replace c:=Tr.get_ok hw c
  simp only[τ] at hb;rw[bX] at I hu;split
  ·rename_i id2 off2 len2 sz2;split
   ·rename_i te2 es2 rows B;refine Snd.cond fun E=>?_
    simp only[τ] at E;obtain⟨J,M,O,U,r⟩:=E;have J:=δ J;have M:=δ M;have O:=δ O;have U:=δ U;have r:=iF r;subst J M O U;split
    ·rename_i id off len sz;split
     ·rename_i te es elems hh;refine Snd.cond fun j=>Snd.bind fun ob2 h2=>Snd.bind fun ob3 h3=>Snd.bind fun ob4 h4=>Snd.val fun _ Y q hc=>?_
      simp only[τ] at j;have e1:=δ j.1;have e2:=δ j.2;subst e1;rw[e2] at hh;obtain⟨g1,g2⟩:=aS h4 hc;obtain⟨g3,g4,g5⟩:=aS h3 g1;obtain⟨g6,g7⟩:=aS h2 g3;subst g4 g5;exact⟨g6,aEb hT ho Y q hi hk c hb.1 hb.2 I hh g7 hu B r g2⟩
     ·exact Snd.none
    ·split
     ·rename_i hid;refine Snd.bind fun ob2 h2=>Snd.val fun _ Y q hc=>?_
      obtain⟨g1,g2⟩:=aS h2 hc;exact⟨g1,aBr A hT ho Y q hi hk c hb.1 hb.2 I hid hu B r g2⟩
     ·exact Snd.none
    ·exact Snd.none
   ·exact Snd.none
  ·exact Snd.none
 ·exact Snd.none
def aRm (P:Program) (f:FuncId):Bool:=match P.funcs[f]? with
 | some fn => !(fn.name == "runtime.NumGoroutine") && fn.body.isSome
 | none=>false
theorem aGe {P:Program}{f:FuncId}(h:aRm P f=true):gL P f:=by
 unfold aRm at h;split at h
 ·rename_i fn c;simp only[τ,Be] at h;refine⟨fn,c,h.1,?_⟩;cases hb:fn.body with
  | none=>rw[hb] at h;cases h.2
  | some _=>rfl
 ·cases h
def aKa (P:Program) (f:FuncId) (args:List V) (res:V):Prop:=aRm P f=true∧b8 P f args [] res []
def pK (st:St):List Nat→List R→List Prop→Option (List Nat×List C×List Prop)
 | _,[],ob=>some ([],[],ob)
 | ty,r::rs,ob=>match r with
  | .c x=>(aC0 ty [x]).bind fun y=>match y with
   | [y]=>(pK st ty.tail rs ob).bind fun(ids,cs,ob1)=>some (ids,y::cs,ob1)
   | _=>none
  | .hs id 0 len sz=>match st.h id with
   | some (.arr _ es elems 2)=>(pK st ty.tail rs ob).bind fun(ids,cs,ob1)=>some (id::ids,.sl es elems::cs,(sz=elems.length∧len=elems.length)::ob1)
   | _=>none
  | _=>none
theorem mD {st:St}:∀{rs:List R}{ty:List Nat}{ob j:List Prop}{ids:List Nat}{cs:List C},pK st ty rs ob=some (ids,cs,j)→fQ j→fQ ob∧PureL st.h ids rs cs
 | [],ty,ob,j,ids,cs,h,hc=>by
  cases ty<;>(simp only[pK] at h;cases h;exact⟨hc,.nil⟩)
 | r::rs,ty,ob,j,ids,cs,h,hc=>by
  rw[pK.eq_def] at h;dsimp only at h;split at h
  ·rename_i x;rw[Ab] at h;obtain⟨y,hy,h⟩:=h;split at h
   ·rename_i B;rw[Ab] at h;obtain⟨⟨q,u,A⟩,h1,h2⟩:=h;cases h2;obtain⟨g1,g2⟩:=mD h1 hc;rw[pP] at hy;have hp:=kH (h:=st.h) ty [x];rw[Option.some.inj hy] at hp;cases hp with
    | c hx _=>exact⟨g1,.c hx g2⟩
    | any _=>exact⟨g1,.any g2⟩
   ·cases h
  ·rename_i id len sz;split at h
   ·rename_i te es elems hh;rw[Ab] at h;obtain⟨⟨q,u,A⟩,h1,h2⟩:=h;cases h2;obtain⟨g1,g2⟩:=mD h1 hc.2;exact⟨g1,.hs hh hc.1.1 (by rw[hc.1.2,B5,Aq]) g2⟩
   ·cases h
  ·cases h
def aMk (tr:Tr) (st:St) (v:V) (t:TypeId) (ob:List Prop):Option (List Nat×V×List Prop):=match v with
 | .one r=>(pK st (mM tr 300 [t]) [r] ob).bind fun(ids,cs,ob1)=>match cs with
  | [c]=>some (ids,.one (.c c),ob1)
  | _=>none
 | .pa l=>(aC0 (mM tr 300 [t]) l).bind fun l'=>some ([],.pa l',ob)
 | .ma rs=>(pK st (mM tr 300 [t]) rs ob).bind fun(ids,cs,ob1)=>some (ids,.pa cs,ob1)
 | _=>none
theorem aIz {tr:Tr}{st:St}{v v':V}{t:TypeId}{ob c:List Prop}{ids:List Nat}(h:aMk tr st v t ob=some (ids,v',c)) (hc:fQ c):(fQ ob∧Conv st.h ids v v')∧v'.refs=[]:=by
 unfold aMk at h;split at h
 ·rw[Ab] at h;obtain⟨⟨j,q,r⟩,h1,h2⟩:=h;dsimp only at h2;split at h2
  ·cases h2;obtain⟨g1,g2⟩:=mD h1 hc;exact⟨⟨g1,.one g2⟩,by simp[V.refs,R.refs]⟩
  ·cases h2
 ·rw[Ab] at h;obtain⟨u,h1,h2⟩:=h;cases h2;rw[pP] at h1;cases h1;exact⟨⟨hc,.pa (kH _ _)⟩,by simp[V.refs]⟩
 ·rw[Ab] at h;obtain⟨⟨j,q,r⟩,h1,h2⟩:=h;cases h2;obtain⟨g1,g2⟩:=mD h1 hc;exact⟨⟨g1,.agg g2⟩,by simp[V.refs]⟩
 ·cases h
def aCv (tr:Tr) (st:St):List Operand→List TypeId→List Prop→Option (List Nat×List V×List Prop)
 | [],_,ob=>some ([],[],ob)
 | x::xs,t::ts,ob=>(opO st x).bind fun v=>(aMk tr st v t ob).bind fun(ids1,v',ob1)=>(aCv tr st xs ts ob1).bind fun(ids2,vs,ob2)=>some (ids1++ids2,v'::vs,ob2)
 | _::_,[],_=>none
theorem aA2 {tr:Tr}{st:St}:∀{xs:List Operand}{ts:List TypeId}{ob c:List Prop}{ids:List Nat}{l:List V},aCv tr st xs ts ob=some (ids,l,c)→fQ c→(fQ ob∧ArgsV st ids xs l)∧V.refsL l=[]
 | [],ts,ob,c,ids,l,h,hc=>by
  cases ts<;>(simp only[aCv] at h;cases h;exact⟨⟨hc,.nil⟩,by simp[V.refsL]⟩)
 | x::xs,[],ob,c,ids,l,h,hc=>by simp[aCv] at h
 | x::xs,t::ts,ob,c,ids,l,h,hc=>by
  simp only[aCv,bX,Ab] at h;obtain⟨v,j,⟨q,v',E⟩,h1,⟨r,vs,I⟩,h2,u⟩:=h;cases u;obtain⟨⟨g1,g2⟩,g3⟩:=aA2 h2 hc;obtain⟨⟨y,A⟩,B⟩:=aIz h1 g1;exact⟨⟨y,.cons j A g2⟩,by simp[V.refsL,B,g3]⟩
def aK3 (P:Program) (tr:Tr) (o:Oper) (n:Nat) (st:St) (ob:List Prop) (res:V) (f:FuncId) (xs:Array Operand) (ts:Array TypeId):Ans:=(aCv tr st xs.toList ts.toList ob).bind fun(ids,args,ob1)=>val o n ⟨bT xs.toList,ids⟩ res [] (aKa P f args res::ob1)
theorem aGi {res:V}{f:FuncId}{xs:Array Operand}{ts:Array TypeId}(ho:o.op=.call { callee:=.value (.func f),args:=xs,argTypes:=ts }):Snd P n o st ob (aK3 P tr o n st ob res f xs ts):=by
 refine Snd.bind fun p ha=>?_
 obtain⟨ids,args,q⟩:=p;refine Snd.val fun d j c hc=>?_
 obtain⟨⟨g1,g2⟩,g3⟩:=aA2 ha hc.2;refine⟨g1,?_⟩;have:=aEa [] [] (aGe hc.1.1) ho j c hc.1.2 g2 trivial trivial (by simp[eI,g3,keys,fI,subset]);simpa [outs,keys] using this
def aGt (P:Program) (tr:Tr) (md:Bool) (o:Oper) (n:Nat) (st:St) (ob:List Prop) (hn:Hn) (id0:Nat) (c:Call):Ans:=match c.callee with
 | .builtin b=>match b,c.args.toList,c.argTypes.toList with
  | .len,[x],[t]=>aQy tr md o n st ob x t
  | .append,[x,y],[t,t']=>bif Nat.beq t t' then(match opO st y with | some (.one (.ra _ _ _ _))=>vY tr md o n st ob id0 x y t | _=>aA0 tr md o n st ob hn id0 x y t) else none
  | .min,[x,y],[_,_]=>(opO st x).bind fun v=>(opO st y).bind fun u=>match v,u with
   | .one (.c (.int k a)),.one (.c (.int k' b))=>bif decide (k=k') then val o n ⟨opr x++opr y,[]⟩ (.one (.c (.int k (if b<a then b else a)))) [] ob else none
   | _,_=>none
  | .max,[x,y],[_,_]=>(opO st x).bind fun v=>(opO st y).bind fun u=>match v,u with
   | .one (.c (.int k a)),.one (.c (.int k' b))=>bif decide (k=k') then val o n ⟨opr x++opr y,[]⟩ (.one (.c (.int k (if b>a then b else a)))) [] ob else none
   | _,_=>none
  | _,_,_=>none
 | .value (.func f)=>match hn with
  | .pc res=>aK3 P tr o n st ob res f c.args c.argTypes
  | _=>none
 | _=>none
theorem arr1 {α:Type}{a:Array α}{x:α}(h:a.toList=[x]):a= #[x]:=by cases a;simp at h;simp[h]
theorem aOd {α:Type}{a:Array α}{x y:α}(h:a.toList=[x,y]):a= #[x,y]:=by cases a;simp at h;simp[h]
theorem aGs {hn:Hn}{E:Nat}{c:Call}(hw:tr.wf=true) (r:Tok P tr.flat) (ho:o.op=.call c):Snd P n o st ob (aGt P tr md o n st ob hn E c):=by
 obtain⟨J,args,M⟩:=c;unfold aGt;dsimp only;split
 ·rename_i b;split
  ·rename_i x t h1 h2;have:=arr1 h1;have:=arr1 h2
   subst_vars
   exact aJ2 hw r ho
  ·rename_i x y t I h1 h2;have:=aOd h1;have:=aOd h2
   subst_vars
   refine Snd.cond fun ht=>?_
   have:=δ ht;subst this;split
   ·exact vX hw r ho
   ·exact y0 hw r ho
  ·rename_i x y t I h1 h2;have:=aOd h1;have:=aOd h2
   subst_vars
   refine Snd.bind fun v j=>Snd.bind fun u hu=>?_
   rw[bX] at j hu;split
   ·refine Snd.cond fun A=>?_
    have:=χ A;subst this;exact Snd.val fun _ B q hc=>⟨hc,aR6 ho B q j hu rfl⟩
   ·exact Snd.none
  ·rename_i x y t I h1 h2;have:=aOd h1;have:=aOd h2
   subst_vars
   refine Snd.bind fun v j=>Snd.bind fun u hu=>?_
   rw[bX] at j hu;split
   ·refine Snd.cond fun A=>?_
    have:=χ A;subst this;exact Snd.val fun _ B q hc=>⟨hc,aR7 ho B q j hu rfl⟩
   ·exact Snd.none
  ·exact Snd.none
 ·split
  ·exact aGi ho
  ·exact Snd.none
 ·exact Snd.none
def idO (hn:Hn) (d:Option Nat):Option Nat:=match hn with
 | .id n=>some n
 | _=>match d with
  | some d=>some d
  | none=>none
def aJz (P:Program) (tr:Tr) (md nat:Bool) (n:Nat) (st:St) (hn:Hn) (o:Oper) (ob:List Prop):Ans:=match o.op with
 | .move x=>aAz o n st ob x
 | .assign x=>aAz o n st ob x
 | .pick c x y=>aK4 o n st ob hn c x y
 | .alloc t=>(idO hn o.dst).bind fun id=>aGv tr o n st ob id t
 | .box t x=>(idO hn o.dst).bind fun id=>aQz o n st ob id t x
 | .build t ps=>aGu tr o n st ob t ps
 | .buildSlice t len ps=>(idO hn o.dst).bind fun id=>aGh tr o n st ob hn id t len ps
 | .load t x=>aK5 tr md o n st ob hn t x
 | .store t x y=>aGg tr md o st ob hn t x y
 | .nilCheck x=>aQx md o n st ob x
 | .slice t x l h m=>aNm tr md o n st ob t x l h m
 | .index t x y=>aGn tr o n st ob hn t x y
 | .convert src dst x=>aK7 tr md o n st ob hn src dst x
 | .binOp op tx x y _=>aQ0 tr md nat o n st ob op tx x y
 | .unOp op _ x=>aS9 md o n st ob op x
 | .makeFunc f a b=>aGp o n st ob f a b
 | .makeMap t r=>(idO hn o.dst).bind fun id=>aNk tr o n st ob id t r
 | .fieldAddr t x f=>qN tr md o n st ob t x f
 | .field t x f=>aGq tr o n st ob t x f
 | .indexAddr t x y=>qM tr md o n st ob hn t x y
 | .lookup t x y ok=>sW tr md o n st ob hn t x y ok
 | .mapUpdate t x y z=>iX tr md o st ob t x y z
 | .insert t x y z=>iX tr md o st ob t x y z
 | .extract x i=>vW o n st ob x i
 | .call c=>(idO hn o.dst).bind fun id=>aGt P tr md o n st ob hn id c
 | _=>none
theorem aAy {hn:Hn}(hw:tr.wf=true) (c:Tok P tr.flat):Snd P n o st ob (aJz P tr md nat n st hn o ob):=by
 unfold aJz;split
 ·rename_i ho;exact aGl ho
 ·rename_i ho;exact xZ ho
 ·rename_i ho;exact aGj ho
 ·rename_i ho;exact Snd.bind fun _ _=>aCt hw c ho
 ·rename_i ho;exact Snd.bind fun _ _=>aJ5 ho
 ·rename_i ho;exact aCs hw c ho
 ·rename_i ho;exact Snd.bind fun _ _=>aCo hw c ho
 ·rename_i ho;exact aGm hw c ho
 ·rename_i ho;exact aCn hw c ho
 ·rename_i ho;exact aJ0 ho
 ·rename_i ho;exact aJ4 hw c ho
 ·rename_i ho;exact aCp hw c ho
 ·rename_i ho;exact aGr hw c ho
 ·rename_i ho;exact aJ6 hw c ho
 ·rename_i ho;exact aNj ho
 ·rename_i ho;exact aGo ho
 ·rename_i ho;exact Snd.bind fun _ _=>aJ1 ho
 ·rename_i ho;exact qV hw c ho
 ·rename_i ho;exact aCr hw c ho
 ·rename_i ho;exact qU hw c ho
 ·rename_i ho;exact xW hw c ho
 ·rename_i ho;exact qT hw c ho
 ·rename_i ho;exact xX hw c ho
 ·rename_i ho;exact vV ho
 ·rename_i ho;exact Snd.bind fun _ _=>aGs hw c ho
 ·exact Snd.none
theorem Step.freeze {rd:Rd}{c:Option (Nat×Option V)}{id te es z:Nat}{l:List (List C)}(h:Step P n o st rd ⟨c,[(id,some (.arr te es l z))]⟩):Step P n o st rd ⟨c,[(id,some (.arr te es l 2))]⟩:=by
 intro st' ha G S μ a w K Q hs j;refine h st' ha G S μ a w K Q hs fun S1 A q r h1=>?_
 have hh:(Eff.apply ⟨c,[(id,some (.arr te es l z))]⟩ st').h id=some (.arr te es l z):=by
  show gO st'.h [(id,some (.arr te es l z))] id=_;rw[bY,aJ]
 obtain⟨S2,u,h2⟩:=h1.freeze hh;refine j S2 u q r ?_;have y:upd (Eff.apply ⟨c,[(id,some (.arr te es l z))]⟩ st').h id (some (.arr te es l 2))=(Eff.apply ⟨c,[(id,some (.arr te es l 2))]⟩ st').h:=by
  show upd (gO st'.h [(id,some (.arr te es l z))]) id _=gO st'.h [(id,some (.arr te es l 2))];rw[bY,bY,n9]
 rw[y] at h2;exact h2
def aSv:Ans→Ans
 | some (rd,⟨dv,[(id,some (.arr te es l _))]⟩,ob')=>some (rd,⟨dv,[(id,some (.arr te es l 2))]⟩,ob')
 | _=>none
theorem aNl {r:Ans}(h:Snd P n o st ob r):Snd P n o st ob (aSv r):=by
 intro rd f c e hc;unfold aSv at e;split at e
 ·cases e;obtain⟨g1,g2⟩:=h _ _ _ rfl hc;exact⟨g1,g2.freeze⟩
 ·cases e
def aRo (P:Program) (tr:Tr) (md nat:Bool) (n:Nat) (st:St) (hn:Hn) (o:Oper) (ob:List Prop):Ans:=match hn with
 | .fz=>aSv (aJz P tr md nat n st .no o ob)
 | hn=>aJz P tr md nat n st hn o ob
theorem aGk {hn:Hn}(hw:tr.wf=true) (c:Tok P tr.flat):Snd P n o st ob (aRo P tr md nat n st hn o ob):=by
 unfold aRo;split
 ·exact aNl (aAy hw c)
 ·exact aAy hw c
def xJ:List Oper→Nat→Option Nat
 | [],_=>none
 | o::os,i=>bif Nat.beq i 0 then o.dst else xJ os (i-1)
theorem aAa:∀(os:List Oper) (i:Nat),xJ os i=(os[i]?).bind (·.dst)
 | [],i=>by simp[xJ]
 | o::os,0=>by simp[xJ]
 | o::os,i+1=>by
  have:Nat.beq (i+1) 0=false:=rfl;simp[xJ,this,aAa os i]
def axG (P:Program) (tr:Tr) (md nat:Bool) (n:Nat) (all:List Oper) (hs:List (Nat×Hn)) (k:Nat) (o:Oper) (st:St) (ob:List Prop):Ans:=match o.guard with
 | none=>aRo P tr md nat n st (aIr hs k) o ob
 | some (j,want)=>(xJ all j).bind fun t=>(st.e t).bind fun v=>match v with
  | .one (.c (.bool b))=>match aHp (match aIr hs j with | .bv w=>.bv w | _=>.no) b ob with
   | (w,ob1)=>bif w==want then(aRo P tr md nat n st (aIr hs k) o ob1).bind fun(rd,f,ob2)=>some (⟨t::rd.e,rd.h⟩,f,ob2)
    else match o.dst with
     | some d=>bif Nat.blt d n then some (⟨[t],[]⟩,⟨some (d,some (.tup [])),[]⟩,ob1) else none
     | none=>none
  | .tup []=>match o.dst with
   | some d=>bif Nat.blt d n then some (⟨[t],[]⟩,⟨some (d,some (.tup [])),[]⟩,ob) else none
   | none=>none
  | _=>none
theorem aK6 {ops:Array Oper}{hs:List (Nat×Hn)}{k:Nat}{rd:Rd}{f:Eff}{r:List Prop}(hw:tr.wf=true) (E:Tok P tr.flat) (ho:ops[k]?=some o) (h:axG P tr md nat n ops.toList hs k o st ob=some (rd,f,r)):fQ r→fQ ob∧GStep P n ops k st rd f:=by
 intro hc;unfold axG at h;split at h
 ·rename_i q;obtain⟨h1,h2⟩:=aGk hw E _ _ _ h hc;exact⟨h1,GStep.plain ho q h2⟩
 ·rename_i j want q;rw[Ab] at h;obtain⟨t,ht,h⟩:=h;rw[Ab] at h;obtain⟨v,y,h⟩:=h;have A:(ops[j]?).bind (·.dst)=some t:=by
   rw[aAa] at ht;simpa using ht
  split at h
  ·rename_i b;split at h;rename_i w I u;cases c:w==want with
   | true=>
    rw[c] at h;simp only[Bp] at h;rw[Ab] at h;obtain⟨⟨J,f1,M⟩,h1,h2⟩:=h;cases h2;obtain⟨g1,g2⟩:=aGk hw E _ _ _ h1 hc;obtain⟨g3,g4⟩:=oE u g1;exact⟨g3,GStep.yes ho q A y (g4.trans (eq_of_beq c)) g2⟩
   | false=>
    rw[c] at h;simp only[Bh] at h;split at h
    ·rename_i d B;obtain⟨h1,h2⟩:=cT h;cases h2;obtain⟨g3,g4⟩:=oE u hc;refine⟨g3,GStep.no ho q B (iF h1) A y g4 ?_⟩;cases w<;>cases want<;>first | rfl | (cases c)
    ·cases h
  ·split at h
   ·rename_i d B;obtain⟨h1,h2⟩:=cT h;cases h2;exact⟨hc,GStep.un ho q B (iF h1) A y⟩
   ·cases h
  ·cases h
def rG (P:Program) (tr:Tr) (md nat:Bool) (n:Nat) (all:List Oper) (hs:List (Nat×Hn)):Nat→Nat→List Oper→(Nat→Option V)→bZ→List Nat→REs→List Prop→Option (St×Nat×REs×List Prop)
 | 0,k,_,e,h,d,pre,ob=>some (⟨e,h,d⟩,k,pre,ob)
 | _+1,k,[],e,h,d,pre,ob=>some (⟨e,h,d⟩,k,pre,ob)
 | m+1,k,o::os,e,h,d,pre,ob=>(axG P tr md nat n all hs k o ⟨e,h,d⟩ ob).bind fun(rd,f,ob1)=>match f with
  | ⟨some (t,v),[]⟩=>rG P tr md nat n all hs m (k+1) os (upd e t v) h d ((rd,⟨some (t,v),[]⟩)::pre) ob1
  | ⟨some (t,v),[(id,x)]⟩=>rG P tr md nat n all hs m (k+1) os (upd e t v) (upd h id x) d ((rd,⟨some (t,v),[(id,x)]⟩)::pre) ob1
  | ⟨none,[(id,x)]⟩=>rG P tr md nat n all hs m (k+1) os e (upd h id x) d ((rd,⟨none,[(id,x)]⟩)::pre) ob1
  | _=>none
theorem xY {ops:Array Oper}{hs:List (Nat×Hn)}{draw:Bool}(hw:tr.wf=true) (I:Tok P tr.flat):∀(m k:Nat) (os:List Oper) (e:Nat→Option V) (h:bZ) (d:List Nat) (pre:REs) (ob:List Prop) (st':St) (k':Nat) (pre':REs) (q:List Prop),os=ops.toList.drop k→
  rG P tr md nat n ops.toList hs m k os e h d pre ob=some (st',k',pre',q)→fQ q→fQ ob∧∀Q,hY QP P n ops draw k' st' pre' Q→hY QP P n ops draw k ⟨e,h,d⟩ pre Q:=by
 intro m
 induction m with
 | zero=>
  intro k os e h d pre ob st' k' pre' q _ c hc;simp only[rG] at c;cases c;exact⟨hc,fun Q hq=>hq⟩
 | succ m y=>
  intro k os e h d pre ob st' k' pre' q u c hc;cases os with
  | nil=>
   simp only[rG] at c;cases c;exact⟨hc,fun Q hq=>hq⟩
  | cons o os=>
   have ho:ops[k]?=some o:=by
    have:(ops.toList.drop k)[0]?=some o:=by rw[←u];rfl
    simpa using this
   have j:os=ops.toList.drop (k+1):=by
    have:os=(ops.toList.drop k).tail:=by rw[←u];rfl
    rw[this,List.tail_drop]
   simp only[rG,Ab] at c;obtain⟨⟨rd,f,A⟩,h1,h2⟩:=c;have key:∀{r:St},fQ A→r=f.apply ⟨e,h,d⟩→(∀Q,hY QP P n ops draw k' st' pre' Q→hY QP P n ops draw (k+1) r ((rd,f)::pre) Q)→fQ ob∧∀Q,hY QP P n ops draw k' st' pre' Q→hY QP P n ops draw k ⟨e,h,d⟩ pre Q:=by
    intro r B E J;obtain⟨g1,g2⟩:=aK6 hw I ho h1 B;subst E;exact⟨g1,fun Q hq=>k_ g2 (J Q hq)⟩
   split at h2
   ·rename_i heq;have heq:f=_:=heq;subst heq;obtain⟨g1,g2⟩:=y _ _ _ _ _ _ _ _ _ _ _ j h2 hc;exact key g1 (by simp only[Eff.apply,yA]) g2
   ·rename_i heq;have heq:f=_:=heq;subst heq;obtain⟨g1,g2⟩:=y _ _ _ _ _ _ _ _ _ _ _ j h2 hc;exact key g1 (by simp only[Eff.apply,bY]) g2
   ·rename_i heq;have heq:f=_:=heq;subst heq;obtain⟨g1,g2⟩:=y _ _ _ _ _ _ _ _ _ _ _ j h2 hc;exact key g1 (by simp only[Eff.apply,bY]) g2
   ·cases h2
end
section
variable {QP:Value→Prop}{ro:Option Nat}{P:Program}{n:Nat}{ops:Array Oper}{draw:Bool}{k k':Nat}{st st':St}{pre pre':REs}{Q:St→Prop}{tr:Tr}{ob:List Prop}
theorem ax_ {hs:List (Nat×Hn)}{md nat:Bool}(m:Nat) (hw:tr.wf=true) (c:Tok P tr.flat) (h:rG P tr md nat n ops.toList hs m k (ops.toList.drop k) st.e st.h st.d pre []=some (st',k',pre',ob)) (hc:fQ ob) (j:hY QP P n ops draw k' st' pre' Q):hY QP P n ops draw k st pre Q:=
 (xY hw c m k _ st.e st.h st.d pre [] st' k' pre' ob rfl h hc).2 Q j
theorem aK8 {hs:List (Nat×Hn)}{md nat:Bool}{kf:List Nat}{id:Nat}{Q:Exit→St→Prop}(hm:P.follows .mixedOrders=true) (hw:tr.wf=true) (c:Tok P tr.flat) (h:rG P tr md nat n ops.toList hs 1000 0 ops.toList st.e st.h st.d [] []=some (st',k',pre',ob)) (hc:fQ ob)
  (h1:Nat.beq k' ops.size=true) (h2:(!draw || (cH (preds ops) pre'.reverse []&&dE ops))=true) (hq:Q .normal st'):AWp ro P n kf (.region id ops draw) st Q:=
 aC hm ((xY hw c 1000 0 _ st.e st.h st.d [] [] st' k' pre' ob rfl h hc).2 _ (z_ h1 h2 hq))
end
theorem hs_all {h:bZ}{id te es n:Nat}{l j:List (List C)}{fz:Nat}(h1:h id=some (.arr te es l fz)) (q:fz=2) (h2:n=l.length) (r:l=j):Conv h [id] (.one (.hs id 0 n n)) (.one (.c (.sl es j))):=by
 subst h2;subst r;subst q;exact .one (.hs h1 rfl (by rw[B5,Aq]) .nil)
section
variable {QP:Value→Prop}{P:Program}{n:Nat}{ops:Array Oper}{draw:Bool}{k d:Nat}{st:St}{pre:REs}{Q:St→Prop}{o:Oper}{f:FuncId}{xs:Array Operand}{ts:Array TypeId}{ids:List Nat}{args:List V}{res:V}{hin hout:List (Nat×AObj)}
theorem kc (y:b8 P f args hin res hout)
  (A:hY QP P n ops draw (k+1) ⟨upd st.e d (some res),gO st.h (outs hout),st.d⟩ ((⟨bT xs.toList,ids++keys hin++keys hout⟩,⟨some (d,some res),outs hout⟩)::pre) Q)
  (hb:gL P f:=by exact aGe (by kernel_rfl)) (ho:ops[k]?=some o:=by rfl) (B:o.guard=none:=by rfl) (r:o.op=.call { callee:=.value (.func f),args:=xs,argTypes:=ts }:=by rfl) (E:o.dst=some d:=by rfl) (u:Nat.blt d n=true:=by rfl)
  (ha:ArgsV st ids xs.toList args:=by repeat (first | exact .nil | (apply Go.AM.ArgsV.cons rfl;(first | exact .refl | exact .one (.c .nl .nil) | exact .one (.c .sn .nil) | exact .one (.hs rfl (by first | rfl | simp) (by first | rfl | (simp;done) | (simp[Go.AM.take_map];done) | exact Go.AM.take_map.symm) .nil) | exact Go.AM.hs_all rfl rfl (by first | rfl | assumption | (simp;done) | (simp;omega)) (by first | rfl | assumption | (simp;done)) | ((first | apply Go.AM.Conv.pa | apply Go.AM.Conv.agg);repeat (first | exact .nil | apply Go.AM.PureL.c .refl | apply Go.AM.PureL.c .nl | apply Go.AM.PureL.c .sn | (apply Go.AM.PureL.hs;rfl;(first | rfl | simp);(first | rfl | (simp;done) | (simp[Go.AM.take_map];done) | exact Go.AM.take_map.symm))))))))
  (q:fH (fun p=>st.h p.1=some p.2) hin:=by repeat (first | exact trivial | refine⟨rfl,?_⟩)) (j:fH (fun p=>p.1∈keys hin∨st.h p.1=none) hout:=by repeat (first | exact trivial | refine⟨.inr rfl,?_⟩ | refine⟨.inl (by decide),?_⟩ | refine⟨.inl (by repeat (first | exact List.Mem.head _ | apply List.Mem.tail)),?_⟩)) (hok:eI args hin=true:=by rfl):hY QP P n ops draw k st pre Q:=
 k_ (g_ ho B (aEa hin hout hb r E (iF u) y ha q j hok)) A
theorem kv {x:Operand}{caps:List R}(y:b8 P f (args++caps.map V.one) hin res hout)
  (A:hY QP P n ops draw (k+1) ⟨upd st.e d (some res),gO st.h (outs hout),st.d⟩ ((⟨opr x++bT xs.toList,ids++keys hin++keys hout⟩,⟨some (d,some res),outs hout⟩)::pre) Q)
  (hb:gL P f:=by exact aGe (by kernel_rfl)) (ho:ops[k]?=some o:=by rfl) (B:o.guard=none:=by rfl) (r:o.op=.call { callee:=.value x,args:=xs,argTypes:=ts }:=by rfl) (E:o.dst=some d:=by rfl) (u:Nat.blt d n=true:=by rfl) (hx:opv st x=some (.one (.clo f caps)):=by rfl)
  (ha:ArgsV st ids xs.toList args:=by repeat (first | exact .nil | (apply Go.AM.ArgsV.cons rfl;(first | exact .refl | exact .one (.c .nl .nil) | exact .one (.c .sn .nil) | exact .one (.hs rfl (by first | rfl | simp) (by first | rfl | (simp;done) | (simp[Go.AM.take_map];done) | exact Go.AM.take_map.symm) .nil) | exact Go.AM.hs_all rfl rfl (by first | rfl | assumption | (simp;done) | (simp;omega)) (by first | rfl | assumption | (simp;done)) | ((first | apply Go.AM.Conv.pa | apply Go.AM.Conv.agg);repeat (first | exact .nil | apply Go.AM.PureL.c .refl | apply Go.AM.PureL.c .nl | apply Go.AM.PureL.c .sn | (apply Go.AM.PureL.hs;rfl;(first | rfl | simp);(first | rfl | (simp;done) | (simp[Go.AM.take_map];done) | exact Go.AM.take_map.symm))))))))
  (q:fH (fun p=>st.h p.1=some p.2) hin:=by repeat (first | exact trivial | refine⟨rfl,?_⟩)) (j:fH (fun p=>p.1∈keys hin∨st.h p.1=none) hout:=by repeat (first | exact trivial | refine⟨.inr rfl,?_⟩ | refine⟨.inl (by decide),?_⟩ | refine⟨.inl (by repeat (first | exact List.Mem.head _ | apply List.Mem.tail)),?_⟩)) (hok:eI (args++caps.map V.one) hin=true:=by rfl):hY QP P n ops draw k st pre Q:=
 k_ (g_ ho B (aD8 hin hout hb r E (iF u) hx y ha q j hok)) A
end
inductive Res where
 | leaf (st:St) (k:Nat) (pre:REs) (ob:List Prop)
 | fork (b:Bool) (x y:Res)
def Res.obs:Res→Prop
 | .leaf _ _ _ ob=>fQ ob
 | .fork b x y=>(b=true→x.obs)∧(b=false→y.obs)
def Res.good (ops:Array Oper) (draw:Bool):Res→Bool
 | .leaf _ k pre _=>Nat.beq k ops.size&&(!draw || (cH (preds ops) pre.reverse []&&dE ops))
 | .fork _ x y=>x.good ops draw&&y.good ops draw
def Res.all (Q:St→Prop):Res→Prop
 | .leaf st _ _ _=>Q st
 | .fork b x y=>(b=true→x.all Q)∧(b=false→y.all Q)
def aL5:Nat→List Nat→Bool
 | _,[]=>false
 | i,x::l=>bif Nat.beq i x then true else aL5 i l
theorem zD:∀{i:Nat}{l:List Nat},aL5 i l=true↔i∈l
 | i,[]=>by simp[aL5]
 | i,x::l=>by
  simp only[aL5];cases h:Nat.beq i x with
  | true=>have:=δ h;simp[this]
  | false=>
   have:i≠x:=fun e=>by subst e;simp at h
   simp[this,zD]
def aPu (all:List Oper) (dec:List Nat) (o:Oper):Option Nat:=
 match (match o.guard with | some (j,_)=>(xJ all j).bind fun t=>bif aL5 t dec then none else some t | none=>none) with
 | some t=>some t
 | none=>match o.op with
  | .pick (.tmp t) _ _=>bif aL5 t dec then none else some t
  | _=>none
def mX (P:Program) (tr:Tr) (md nat:Bool) (n:Nat) (all:List Oper) (hs:List (Nat×Hn)) (W:List Nat):Nat→Nat→List Oper→(Nat→Option V)→bZ→List Nat→List Nat→REs→List Prop→Option Res
 | 0,_,_,_,_,_,_,_,_=>none
 | _+1,k,[],e,h,d,_,pre,ob=>some (.leaf ⟨e,h,d⟩ k pre ob)
 | m+1,k,o::os,e,h,d,dec,pre,ob=>match aPu all dec o with
  | some t=>match e t with
   | some (.one (.c (.bool b)))=>(mX P tr md nat n all hs W m k (o::os) (upd e t (some (.one (.c (.bool true))))) h d (t::dec) pre ob).bind fun x=>
     (mX P tr md nat n all hs W m k (o::os) (upd e t (some (.one (.c (.bool false))))) h d (t::dec) pre ob).bind fun y=>some (.fork b x y)
   | _=>mX P tr md nat n all hs W m k (o::os) e h d (t::dec) pre ob
  | none=>(axG P tr md nat n all hs k o ⟨e,h,d⟩ ob).bind fun(rd,f,ob1)=>match f with
   | ⟨some (t,v),[]⟩=>bif aL5 t W then mX P tr md nat n all hs W m (k+1) os (upd e t v) h d dec ((rd,⟨some (t,v),[]⟩)::pre) ob1 else none
   | _=>none
section
variable {QP:Value→Prop}{P:Program}{n:Nat}{tr:Tr}{md nat:Bool}
theorem y9 {e:Nat→Option V}{t:Nat}{x:Option V}(h:e t=x):upd e t x=e:=by
 funext i;simp only[upd];split
 ·rename_i hb;rw[δ hb,h]
 ·rfl
theorem aJ3 {ops:Array Oper}{hs:List (Nat×Hn)}{W:List Nat}{draw:Bool}(hw:tr.wf=true) (A:Tok P tr.flat):∀(m k:Nat) (os:List Oper) (e:Nat→Option V) (h:bZ) (d dec:List Nat) (pre:REs) (ob:List Prop) (res:Res),os=ops.toList.drop k→
  mX P tr md nat n ops.toList hs W m k os e h d dec pre ob=some res→res.obs→res.good ops draw=true→∀Q,res.all Q→fQ ob∧hY QP P n ops draw k ⟨e,h,d⟩ pre Q:=by
 intro m
 induction m with
 | zero=>intro k os e h d dec pre ob res _ j;simp[mX] at j
 | succ m r=>
  intro k os e h d dec pre ob res q j ho c Q hq;cases os with
  | nil=>
   simp only[mX] at j;cases j;simp only[Res.good,τ] at c;exact⟨ho,z_ c.1 c.2 hq⟩
  | cons o os=>
   have hok:ops[k]?=some o:=by
    have:(ops.toList.drop k)[0]?=some o:=by rw[←q];rfl
    simpa using this
   have u:os=ops.toList.drop (k+1):=by
    have:os=(ops.toList.drop k).tail:=by rw[←q];rfl
    rw[this,List.tail_drop]
   simp only[mX] at j;split at j
   ·rename_i t _;split at j
    ·rename_i b hb;rw[Ab] at j;obtain⟨x,hx,j⟩:=j;rw[Ab] at j;obtain⟨y,hy,j⟩:=j;cases j;simp only[Res.obs] at ho;simp only[Res.good,τ] at c;simp only[Res.all] at hq;cases b with
     | true=>
      rw[y9 hb] at hx;exact r _ _ _ _ _ _ _ _ _ q hx (ho.1 rfl) c.1 Q (hq.1 rfl)
     | false=>
      rw[y9 hb] at hy;exact r _ _ _ _ _ _ _ _ _ q hy (ho.2 rfl) c.2 Q (hq.2 rfl)
    ·exact r _ _ _ _ _ _ _ _ _ q j ho c Q hq
   ·rw[Ab] at j;obtain⟨⟨rd,f,E⟩,h1,h2⟩:=j;dsimp only at h2;split at h2
    ·obtain⟨_,B⟩:=cT h2;obtain⟨g1,g2⟩:=r _ _ _ _ _ _ _ _ _ u B ho c Q hq;obtain⟨g3,g4⟩:=aK6 hw A hok h1 g1;refine⟨g3,k_ g4 ?_⟩;simpa only[Eff.apply,yA] using g2
    ·cases h2
def Res.keep (e0:Nat→Option V) (h0:bZ) (d0:List Nat) (W:List Nat):Res→Prop
 | .leaf st _ _ _=>(∀t,t∉W→∀v,e0 t=some v→st.e t=some v)∧st.h=h0∧st.d=d0
 | .fork b x y=>(b=true→x.keep e0 h0 d0 W)∧(b=false→y.keep e0 h0 d0 W)
theorem aCq {all:List Oper}{hs:List (Nat×Hn)}{W:List Nat}{e0:Nat→Option V}:∀(m k:Nat) (os:List Oper) (e:Nat→Option V) (h:bZ) (d dec:List Nat) (pre:REs) (ob:List Prop) (res:Res),
  mX P tr md nat n all hs W m k os e h d dec pre ob=some res→(∀t,t∉W→∀v,e0 t=some v→e t=some v)→res.keep e0 h d W:=by
 intro m
 induction m with
 | zero=>intro k os e h d dec pre ob res c;simp[mX] at c
 | succ m j=>
  intro k os e h d dec pre ob res c he;cases os with
  | nil=>
   simp only[mX] at c;cases c;exact⟨he,rfl,rfl⟩
  | cons o os=>
   simp only[mX] at c;split at c
   ·rename_i t _;split at c
    ·rename_i b hb;rw[Ab] at c;obtain⟨x,hx,c⟩:=c;rw[Ab] at c;obtain⟨y,hy,c⟩:=c;cases c;refine⟨fun q=>?_,fun r=>?_⟩
     ·subst q;rw[y9 hb] at hx;exact j _ _ _ _ _ _ _ _ _ hx he
     ·subst r;rw[y9 hb] at hy;exact j _ _ _ _ _ _ _ _ _ hy he
    ·exact j _ _ _ _ _ _ _ _ _ c he
   ·rw[Ab] at c;obtain⟨⟨rd,f,E⟩,h1,h2⟩:=c;dsimp only at h2;split at h2
    ·obtain⟨hm,B⟩:=cT h2;refine j _ _ _ _ _ _ _ _ _ B fun s hs u hu=>?_
     have A:s≠_:=fun e=>hs (by rw[e];exact zD.1 hm)
     rw[bC _ _ _ A];exact he s hs u hu
    ·cases h2
def Res.boolAt (w:Nat):Res→Option Bool
 | .leaf st _ _ _=>match st.e w with
  | some (.one (.c (.bool x)))=>some x
  | _=>none
 | .fork b x y=>(x.boolAt w).bind fun p=>(y.boolAt w).bind fun q=>some (bif b then p else q)
theorem Res.boolAt_all {w:Nat}:∀{r:Res}{x:Bool},r.boolAt w=some x→r.all fun st=>st.e w=some (.one (.c (.bool x)))
 | .leaf st _ _ _,x,h=>by
  simp only[Res.boolAt] at h;split at h
  ·rename_i hx;cases h;exact hx
  ·cases h
 | .fork b p q,x,h=>by
  simp only[Res.boolAt,Ab] at h;obtain⟨u,hu,v,j,h⟩:=h;cases h;refine⟨fun hb=>?_,fun hb=>?_⟩
  ·subst hb;exact Res.boolAt_all hu
  ·subst hb;exact Res.boolAt_all j
def pU (res:Res):List Nat→Option (List (Nat×Option V))
 | []=>some []
 | w::ws=>(pU res ws).bind fun l=>match res.boolAt w with
  | some x=>some ((w,some (.one (.c (.bool x))))::l)
  | none=>some ((w,none)::l)
def kY (e:Nat→Option V):List (Nat×Option V)→Nat→Option V
 | [],t=>e t
 | (w,v)::l,t=>bif Nat.beq t w then v else kY e l t
theorem uF {res:Res}{e0:Nat→Option V}{t:Nat}:∀{W:List Nat}{L:List (Nat×Option V)},pU res W=some L→kY e0 L t=if t∈W then(res.boolAt t).map (fun x=>V.one (.c (.bool x))) else e0 t
 | [],L,h=>by
  simp only[pU] at h;cases h;simp[kY]
 | w::ws,L,h=>by
  simp only[pU,Ab] at h;obtain⟨l,hl,h⟩:=h;have q:=uF (e0:=e0) (t:=t) hl;have r:L=(w,(res.boolAt w).map (fun x=>V.one (.c (.bool x))))::l:=by
   split at h
   ·rename_i x hx;cases h;rw[hx];rfl
   ·rename_i hx;cases h;rw[hx];rfl
  subst r;simp only[kY];by_cases j:t=w
  ·subst j;simp
  ·have hb:Nat.beq t w=false:=by
    cases hb:Nat.beq t w with
    | true=>exact absurd (δ hb) j
    | false=>rfl
   rw[hb,Bh,q];simp[j]
theorem Res.all_mono {Q Q':St→Prop}(h:∀st,Q st→Q' st):∀{r:Res},r.all Q→r.all Q'
 | .leaf st _ _ _,k=>h st k
 | .fork _ _ _,k=>⟨fun hb=>Res.all_mono h (k.1 hb),fun hb=>Res.all_mono h (k.2 hb)⟩
theorem Res.all_forall {α:Type}{Q:α→St→Prop}:∀{r:Res},(∀a,r.all (Q a))→r.all fun st=>∀a,Q a st
 | .leaf _ _ _ _,k=>fun a=>k a
 | .fork _ _ _,k=>⟨fun hb=>Res.all_forall fun a=>(k a).1 hb,fun hb=>Res.all_forall fun a=>(k a).2 hb⟩
theorem Res.all_and {Q Q':St→Prop}:∀{r:Res},r.all Q→r.all Q'→r.all fun st=>Q st∧Q' st
 | .leaf _ _ _ _,h,k=>⟨h,k⟩
 | .fork _ _ _,h,k=>⟨fun hb=>Res.all_and (h.1 hb) (k.1 hb),fun hb=>Res.all_and (h.2 hb) (k.2 hb)⟩
theorem Res.keep_at {e0:Nat→Option V}{h0:bZ}{d0 W:List Nat}{t:Nat}{v:V}(ht:t∉W) (c:e0 t=some v):∀{r:Res},r.keep e0 h0 d0 W→r.all fun st=>st.e t=some v
 | .leaf _ _ _ _,k=>k.1 t ht v c
 | .fork _ _ _,k=>⟨fun hb=>Res.keep_at ht c (k.1 hb),fun hb=>Res.keep_at ht c (k.2 hb)⟩
theorem Res.keep_hd {e0:Nat→Option V}{h0:bZ}{d0 W:List Nat}:∀{r:Res},r.keep e0 h0 d0 W→r.all fun st=>st.h=h0∧st.d=d0
 | .leaf _ _ _ _,k=>k.2
 | .fork _ _ _,k=>⟨fun hb=>Res.keep_hd (k.1 hb),fun hb=>Res.keep_hd (k.2 hb)⟩
theorem aIk {res:Res}{e0:Nat→Option V}{h0:bZ}{d0 W:List Nat}{L:List (Nat×Option V)}(h:pU res W=some L) (j:res.keep e0 h0 d0 W):res.all fun st=>(∀p:Nat×V,kY e0 L p.1=some p.2→st.e p.1=some p.2)∧(st.h=h0∧st.d=d0):=by
 refine Res.all_and (Res.all_forall fun p=>?_) (Res.keep_hd j);by_cases c:kY e0 L p.1=some p.2
 ·refine Res.all_mono (fun st h _=>h) (?_:res.all fun st=>st.e p.1=some p.2);rw[uF h] at c;by_cases ht:p.1∈W
  ·rw[θ ht,Option.map_eq_some_iff] at c;obtain⟨x,hx,c⟩:=c;rw[←c];exact Res.boolAt_all hx
  ·rw[ξ ht] at c;exact Res.keep_at ht c j
 ·have:∀r:Res,r.all fun st=>kY e0 L p.1=some p.2→st.e p.1=some p.2:=by
   intro r
   induction r with
   | leaf st k pre ob=>exact fun h=>absurd h c
   | fork b x y q u=>exact⟨fun _=>q,fun _=>u⟩
  exact this res
theorem Sub.weak {kf:List Nat}{c st2:St}(he:∀p:Nat×V,st2.e p.1=some p.2→c.e p.1=some p.2) (hh:c.h=st2.h) (j:c.d=st2.d):Sub kf st2 c:=by
 intro G n S μ a w _ hs;refine⟨S,μ,⟨?_,hs.size,?_,fun t v e=>?_⟩⟩
 ·rw[←hh];exact hs.inv
 ·rw[←hh,←j];exact hs.defers
 ·rw[←hh];exact hs.env t v (he (t,v) e)
def aOb:List Oper→List Nat
 | []=>[]
 | o::os=>match o.dst with
  | some t=>t::aOb os
  | none=>aOb os
theorem aNo {ro:Option Nat}{ops:Array Oper}{draw:Bool}{st:St}{q:Nat→Option V}{h1:bZ}{d1:List Nat}{j:Nat}{c:REs}{r:List Prop}{res:Res}{L:List (Nat×Option V)}{hs:List (Nat×Hn)}{kf:List Nat}{id:Nat}{Q:Exit→St→Prop}(m:Nat) (hm:P.follows .mixedOrders=true) (hw:tr.wf=true) (A:Tok P tr.flat)
  (g1:rG P tr md nat n ops.toList hs m 0 ops.toList st.e st.h st.d [] []=some (⟨q,h1,d1⟩,j,c,r))
  (g2:mX P tr md nat n ops.toList hs (aOb (ops.toList.drop j)) 1000 j (ops.toList.drop j) q h1 d1 [] c r=some res)
  (g3:pU res (aOb (ops.toList.drop j))=some L) (ho:res.obs) (I:res.good ops draw=true) (hq:Q .normal ⟨kY q L,h1,d1⟩):AWp ro P n kf (.region id ops draw) st Q:=by
 have J:=aCq (P:=P) (tr:=tr) (md:=md) (nat:=nat) (n:=n) (e0:=q) _ _ _ _ _ _ _ _ _ _ g2 (fun _ _ _ h=>h);have B:=aIk g3 J;have u:res.all fun st'=>Sub kf ⟨kY q L,h1,d1⟩ st':=Res.all_mono (fun st h=>Sub.weak h.1 h.2.1 h.2.2) B
 obtain⟨E,y⟩:=aJ3 (draw:=draw) hw A _ _ _ _ _ _ _ _ _ _ rfl g2 ho I _ u;exact aNn _ hm ((xY hw A m 0 _ st.e st.h st.d [] [] _ j c r rfl g1 E).2 _ y) hq
end
end Go.AM
