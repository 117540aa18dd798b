/-
  Texts Am23 to Am26 in one.
-/
import Derived.Test.YtpmheldmadendaaGreatDoorM4
import Derived.KernelRfl
open List (drop_zero map_cons take_length)
open Nat (eq_of_beq_eq_true le_of_ble_eq_true zero_add)
namespace Go.AM
open Go
def frc {α:Type}:List α→Option (List α)
 | []=>some []
 | x::xs=>(frc xs).bind fun l=>some (x::l)
theorem iD {α:Type}:∀l:List α,frc l=some l
 | []=>rfl
 | x::xs=>by simp[frc,iD xs]
def tak {α:Type}:Nat→List α→Option (List α)
 | 0,_=>some []
 | _+1,[]=>none
 | k+1,x::xs=>(tak k xs).bind fun l=>some (x::l)
theorem nH {α:Type}:∀{k:Nat}{l r:List α},tak k l=some r→k≤l.length∧l.take k=r
 | 0,l,r,h=>by simp[tak] at h;simp[h]
 | k+1,[],r,h=>by simp[tak] at h
 | k+1,x::xs,r,h=>by
  simp only[tak,Ab] at h;obtain⟨l,h1,h2⟩:=h;cases h2;obtain⟨q,c⟩:=nH h1;exact⟨by simp;omega,by simp[c]⟩
inductive Tr where
 | leaf (o:Option TI)
 | node (k:Nat) (l r:Tr)
def Tr.get:Tr→Nat→Option TI
 | .leaf o,t=>bif Nat.beq t 0 then o else none
 | .node k l r,t=>bif Nat.blt t k then l.get t else r.get (t-k)
def Tr.flat:Tr→TT
 | .leaf o=>[o]
 | .node _ l r=>l.flat++r.flat
def Tr.wf:Tr→Bool
 | .leaf _=>true
 | .node k l r=>Nat.beq k l.flat.length&&(l.wf&&r.wf)
theorem Tr.get_ok:∀{tr:Tr}{t:Nat}{i:TI},tr.wf=true→tr.get t=some i→tr.flat[t]?=some (some i)
 | .leaf o,t,i,_,h=>by
  simp only[Tr.get] at h;cases hb:Nat.beq t 0 with
  | false=>rw[hb] at h;cases h
  | true=>
   rw[hb] at h;have:=ω hb;subst this;simp only[Bp] at h;simp[Tr.flat,h]
 | .node k l r,t,i,hw,h=>by
  simp only[Tr.wf,Aa] at hw;have q:=ω hw.1;simp only[Tr.get] at h;simp only[Tr.flat,By];cases hb:Nat.blt t k with
  | true=>
   rw[hb] at h;have:t<k:=Ak hb;rw[ξ (by omega)];exact Tr.get_ok hw.2.1 h
  | false=>
   rw[hb] at h;have:¬t<k:=fun c=>by
    have:Nat.blt t k=true:=Nat.ble_eq_true_of_le c;rw[hb] at this;cases this
   rw[η (by omega),←q];exact Tr.get_ok hw.2.2 h
def eQ:List Prop→Prop
 | []=>True
 | p::l=>p∧eQ l
def need (md:Bool) (p:Prop) [Decidable p] (ob:List Prop):Option (List Prop):=bif md then some (p::ob) else bif decide p then some ob else none
theorem aO {md:Bool}{p:Prop} [Decidable p] {ob c:List Prop}(h:need md p ob=some c):eQ c→eQ ob∧p:=by
 unfold need at h;cases md with
 | true=>cases h;exact fun h=>⟨h.2,h.1⟩
 | false=>
  simp only[Bg] at h;cases hp:decide p with
  | false=>rw[hp] at h;cases h
  | true=>rw[hp] at h;cases h;exact fun h=>⟨h,κ hp⟩
inductive Hn where
 | no
 | id (n:Nat)
 | bv (b:Bool)
 | row (k:Nat) (r:List C)
 | all
 | look (r:Option (List C))
 | c (rows:List (List C))
 | byte (k:Nat) (b:UInt8)
 | pc (res:V)
 | fz
 | rr (r:List R)
 | rowR (k:Nat) (r:List R)
def aG9:List (Nat×Hn)→Nat→Hn
 | [],_=>.no
 | (k,h)::l,i=>bif Nat.beq i k then h else aG9 l i
abbrev Ans:=Option (Rd×Eff×List Prop)
def Snd (P:Program) (n:Nat) (o:Oper) (st:St) (ob:List Prop) (r:Ans):Prop:=∀rd f ob',r=some (rd,f,ob')→eQ ob'→eQ ob∧Step P n o st rd f
def val (o:Oper) (n:Nat) (rd:Rd) (v:V) (h:List (Nat×Option AObj)) (ob:List Prop):Ans:=
 match o.dst with
 | some d=>bif Nat.blt d n then some (rd,⟨some (d,some v),h⟩,ob) else none
 | none=>none
def eff (o:Oper) (rd:Rd) (h:List (Nat×Option AObj)) (ob:List Prop):Ans:=
 match o.dst with
 | none=>some (rd,⟨none,h⟩,ob)
 | some _=>none
def opO (st:St):Operand→Option V
 | .tmp t=>st.e t
 | .const v=>match v with
  | .int k n=>some (.one (.c (.int k n)))
  | .bool b=>some (.one (.c (.bool b)))
  | .string ⟨⟨l⟩⟩=>some (.one (.c (.str l)))
  | .slice none 0 0=>some (.one (.c .nl))
  | .pointer none=>some (.one (.c .np))
  | .map none=>some (.one (.c (.zv 0)))
  | .nilFunc=>some (.one (.c (.zv 1)))
  | .nilIface=>some (.one (.c (.zv 2)))
  | .agg ⟨vs⟩=>(tP vs).bind fun cs=>some (.pa cs)
  | _=>none
 | .func f=>some (.one (.clo f []))
 | .global _=>none
theorem bS (st:St) (x:Operand):opO st x=opv st x:=by
 cases x with
 | const v=>
  cases v with
  | string s=>obtain⟨⟨l⟩⟩:=s;rfl
  | slice a l c=>
   cases a with
   | some _=>rfl
   | none=>
    cases l with
    | zero=>cases c<;>rfl
    | succ _=>rfl
  | pointer p=>cases p<;>rfl
  | map m=>cases m<;>rfl
  | _=>rfl
 | _=>rfl
def aQa (rs:List R):Option V:=match fK rs with | some l=>some (.pa l) | none=>some (.ma rs)
theorem aFk (rs:List R):aQa rs=some (aMr rs):=by
 unfold aQa aMr;cases fK rs<;>rfl
def aAj (i:TI) (rs:List R):Option V:=bif i.k.agg then aQa rs else match rs with | [r]=>some (.one r) | _=>none
theorem n8 (i:TI) (rs:List R):aAj i rs=gX i rs:=by
 unfold aAj gX;cases i.k.agg
 ·rfl
 ·exact aFk rs
def xW (i:TI) (l:List C):Option V:=bif i.k.agg then some (.pa l) else match l with | [c]=>some (.one (.c c)) | _=>none
theorem tB (i:TI) (l:List C):xW i l=aAk i l:=by
 unfold xW aAk;cases i.k.agg<;>rfl
def mR (v:V):Option (List R):=(eG v).bind frc
theorem fG (v:V):mR v=eG v:=by
 unfold mR;cases eG v with
 | none=>rfl
 | some l=>simp[iD]
theorem cI {α:Type}{b:Bool}{x:Option α}{y:α}(h:(bif b then x else none)=some y):b=true∧x=some y:=by
 cases b
 ·cases h
 ·exact⟨rfl,h⟩
theorem eI {d n:Nat}(h:Nat.blt d n=true):d<n:=Ak h
theorem aMw {o:Oper}{n:Nat}{rd c:Rd}{v:V}{h:List (Nat×Option AObj)}{ob q:List Prop}{f:Eff}(e:val o n rd v h ob=some (c,f,q)):∃d,o.dst=some d∧d<n∧c=rd∧f=⟨some (d,some v),h⟩∧q=ob:=by
 unfold val at e;split at e
 ·rename_i d r;obtain⟨h1,h2⟩:=cI e;cases h2;exact⟨d,r,eI h1,rfl,rfl,rfl⟩
 ·cases e
theorem aOa {o:Oper}{rd c:Rd}{h:List (Nat×Option AObj)}{ob q:List Prop}{f:Eff}(e:eff o rd h ob=some (c,f,q)):o.dst=none∧c=rd∧f=⟨none,h⟩∧q=ob:=by
 unfold eff at e;split at e
 ·rename_i r;cases e;exact⟨r,rfl,rfl,rfl⟩
 ·cases e
theorem Snd.val {P:Program}{n:Nat}{o:Oper}{st:St}{ob c:List Prop}{rd:Rd}{v:V}{h:List (Nat×Option AObj)}(q:∀d,o.dst=some d→d<n→eQ c→eQ ob∧Step P n o st rd ⟨some (d,some v),h⟩):Snd P n o st ob (Go.AM.val o n rd v h c):=by
 intro y f r e hc;obtain⟨d,h1,h2,rfl,rfl,rfl⟩:=aMw e;exact q d h1 h2 hc
theorem Snd.eff {P:Program}{n:Nat}{o:Oper}{st:St}{ob c:List Prop}{rd:Rd}{h:List (Nat×Option AObj)}(q:o.dst=none→eQ c→eQ ob∧Step P n o st rd ⟨none,h⟩):Snd P n o st ob (Go.AM.eff o rd h c):=by
 intro y f r e hc;obtain⟨h1,rfl,rfl,rfl⟩:=aOa e;exact q h1 hc
theorem Snd.none {P:Program}{n:Nat}{o:Oper}{st:St}{ob:List Prop}:Snd P n o st ob none:=by
 intro rd f c e;cases e
theorem Snd.bind {P:Program}{n:Nat}{o:Oper}{st:St}{ob:List Prop}{α:Type}{x:Option α}{k:α→Ans}(h:∀y,x=some y→Snd P n o st ob (k y)):Snd P n o st ob (x.bind k):=by
 intro rd f c e;rw[Ab] at e;obtain⟨y,h1,h2⟩:=e;exact h y h1 rd f c h2
theorem Snd.cond {P:Program}{n:Nat}{o:Oper}{st:St}{ob:List Prop}{b:Bool}{r:Ans}(h:b=true→Snd P n o st ob r):Snd P n o st ob (bif b then r else Option.none):=by
 cases b
 ·exact Snd.none
 ·exact h rfl
section
variable {P:Program}{n:Nat}{o:Oper}{st:St}{ob:List Prop}{tr:Tr}{md:Bool}
def zA (o:Oper) (n:Nat) (st:St) (ob:List Prop) (x:Operand):Ans:=(opO st x).bind fun y=>val o n ⟨opr x,[]⟩ y [] ob
theorem aE1 {x:Operand}(ho:o.op=.move x):Snd P n o st ob (zA o n st ob x):=
 Snd.bind fun y hy=>Snd.val fun _ q c hc=>⟨hc,sJ ho q c (by rw[←bS];exact hy)⟩
theorem wM {x:Operand}(ho:o.op=.assign x):Snd P n o st ob (zA o n st ob x):=
 Snd.bind fun y hy=>Snd.val fun _ q c hc=>⟨hc,aGx ho q c (by rw[←bS];exact hy)⟩
def aF7 (hn:Hn) (b:Bool) (ob:List Prop):Bool×List Prop:=match hn with
 | .bv w=>(w,(b=w)::ob)
 | _=>match b with
  | true=>(true,ob)
  | false=>(false,ob)
theorem n1 {hn:Hn}{b w:Bool}{ob c:List Prop}(h:aF7 hn b ob=(w,c)):eQ c→eQ ob∧b=w:=by
 unfold aF7 at h;split at h
 ·cases h;exact fun h=>⟨h.2,h.1⟩
 ·cases b<;>(cases h;exact fun h=>⟨h,rfl⟩)
def aJk (o:Oper) (n:Nat) (st:St) (ob:List Prop) (hn:Hn) (c x y:Operand):Ans:=(opO st c).bind fun v=>match v with
 | .one (.c (.bool b))=>match aF7 hn b ob with
  | (true,ob')=>(opO st x).bind fun z=>val o n ⟨opr c++opr x,[]⟩ z [] ob'
  | (false,ob')=>(opO st y).bind fun z=>val o n ⟨opr c++opr y,[]⟩ z [] ob'
 | _=>none
theorem aEz {hn:Hn}{c x y:Operand}(ho:o.op=.pick c x y):Snd P n o st ob (aJk o n st ob hn c x y):=by
 refine Snd.bind fun v A=>?_
 rw[bS] at A;split
 ·rename_i b;split
  ·rename_i E ht;refine Snd.bind fun z q=>Snd.val fun _ B r hc=>?_
   rw[bS] at q;obtain⟨h1,h2⟩:=n1 ht hc;exact⟨h1,aGp ho B r A h2 q⟩
  ·rename_i E ht;refine Snd.bind fun z q=>Snd.val fun _ B r hc=>?_
   rw[bS] at q;obtain⟨h1,h2⟩:=n1 ht hc;exact⟨h1,aGq ho B r A h2 q⟩
 ·exact Snd.none
def uH (o:Oper) (n:Nat) (st:St) (ob:List Prop) (x:Operand) (i:Nat):Ans:=(opO st x).bind fun v=>match v with
 | .tup l=>(l[i]?).bind fun z=>val o n ⟨opr x,[]⟩ z [] ob
 | _=>none
theorem uG {x:Operand}{i:Nat}(ho:o.op=.extract x i):Snd P n o st ob (uH o n st ob x i):=by
 refine Snd.bind fun v c=>?_
 rw[bS] at c;split
 ·exact Snd.bind fun z r=>Snd.val fun _ y q hc=>⟨hc,aCm ho y q c r⟩
 ·exact Snd.none
def aFb (tr:Tr) (o:Oper) (n:Nat) (st:St) (ob:List Prop) (id:Nat) (t:TypeId):Ans:=(tr.get t).bind fun i=>(frc (i.zero.map R.c)).bind fun z=>match st.h id with
 | none=>val o n ⟨[],[id]⟩ (.one (.vp id 0)) [(id,some (.var t z))] ob
 | some _=>none
theorem aBc {id:Nat}{t:TypeId}(hw:tr.wf=true) (r:Tok P tr.flat) (ho:o.op=.alloc t):Snd P n o st ob (aFb tr o n st ob id t):=by
 refine Snd.bind fun i hi=>Snd.bind fun z c=>?_
 rw[iD] at c;cases c;split
 ·rename_i hid;exact Snd.val fun _ y q hc=>⟨hc,aKg id r ho y q (Tr.get_ok hw hi) hid⟩
 ·exact Snd.none
def aPf (o:Oper) (n:Nat) (st:St) (ob:List Prop) (id:Nat) (t:TypeId) (x:Operand):Ans:=(opO st x).bind fun v=>(mR v).bind fun rs=>match st.h id with
 | none=>val o n ⟨opr x,[id]⟩ (.one (.vp id 0)) [(id,some (.var t rs))] ob
 | some _=>none
theorem aIm {id:Nat}{t:TypeId}{x:Operand}(ho:o.op=.box t x):Snd P n o st ob (aPf o n st ob id t x):=by
 refine Snd.bind fun v q=>Snd.bind fun rs c=>?_
 rw[bS] at q;rw[fG] at c;split
 ·rename_i hid;exact Snd.val fun _ y r hc=>⟨hc,aQy id ho y r q c hid⟩
 ·exact Snd.none
def aLx (tr:Tr) (o:Oper) (n:Nat) (st:St) (ob:List Prop) (id:Nat) (t:TypeId) (r:Option Operand):Ans:=match r with
 | some _=>none
 | none=>(tr.get t).bind fun i=>match i.k with
  | .mp _ e=>(tr.get e).bind fun ei=>match st.h id with
   | none=>val o n ⟨[],[id]⟩ (.one (.mr id)) [(id,some (.map ei.k.agg []))] ob
   | some _=>none
  | _=>none
theorem aIi {id:Nat}{t:TypeId}{r:Option Operand}(ho:o.op=.makeMap t r):Snd P n o st ob (aLx tr o n st ob id t r):=by
 unfold aLx;split
 ·exact Snd.none
 ·refine Snd.bind fun i hi=>?_
  split
  ·refine Snd.bind fun A y=>?_
   split
   ·rename_i hid;exact Snd.val fun _ q c hc=>⟨hc,aCe id _ ho q c hid⟩
   ·exact Snd.none
  ·exact Snd.none
def aM4 (hn:Hn) (elems:List (List C)) (k:Nat) (ob:List Prop):Option (List C×List Prop):=match hn with
 | .row _ r=>some (r,(elems[k]?=some r)::ob)
 | _=>match elems[k]? with
  | some r=>some (r,ob)
  | none=>none
theorem vB {hn:Hn}{elems:List (List C)}{k:Nat}{ob c:List Prop}{r:List C}(h:aM4 hn elems k ob=some (r,c)):eQ c→eQ ob∧elems[k]?=some r:=by
 unfold aM4 at h;split at h
 ·cases h;exact fun h=>⟨h.2,h.1⟩
 ·split at h
  ·rename_i h1;cases h;exact fun h=>⟨h,h1⟩
  ·cases h
def aGk (hn:Hn) (elems:List (List R)) (k:Nat) (ob:List Prop):Option (List R×List Prop):=match hn with
 | .rr r=>some (r,(elems[k]?=some r)::ob)
 | _=>match elems[k]? with
  | some r=>some (r,ob)
  | none=>none
theorem xA {hn:Hn}{elems:List (List R)}{k:Nat}{ob c:List Prop}{r:List R}(h:aGk hn elems k ob=some (r,c)):eQ c→eQ ob∧elems[k]?=some r:=by
 unfold aGk at h;split at h
 ·cases h;exact fun h=>⟨h.2,h.1⟩
 ·split at h
  ·rename_i h1;cases h;exact fun h=>⟨h,h1⟩
  ·cases h
def aJl (tr:Tr) (md:Bool) (o:Oper) (n:Nat) (st:St) (ob:List Prop) (hn:Hn) (t:TypeId) (x:Operand):Ans:=(tr.get t).bind fun i=>(opO st x).bind fun v=>match v with
 | .one (.vp id off)=>match st.h id with
  | some (.var _ cells)=>bif Nat.ble (off+i.size) cells.length then(tak i.size (cells.drop off)).bind fun rs=>(aAj i rs).bind fun y=>val o n ⟨opr x,[id]⟩ y [] ob else none
  | _=>none
 | .one (.c (.pt l))=>(tak i.size l).bind fun cs=>(xW i cs).bind fun y=>val o n ⟨opr x,[]⟩ y [] ob
 | .one (.pas l)=>(tak i.size l).bind fun cs=>(aAj i cs).bind fun y=>val o n ⟨opr x,[]⟩ y [] ob
 | .one (.ep id k fo sz)=>match st.h id with
  | some (.arr _ es elems _)=>(need md (sz=elems.length) ob).bind fun ob1=>(aM4 hn elems k ob1).bind fun(r,ob2)=>
   bif Nat.ble (fo+i.size) es then(tak i.size (r.drop fo)).bind fun cs=>(xW i cs).bind fun y=>val o n ⟨opr x,[id]⟩ y [] ob2 else none
  | _=>none
 | .one (.rp id k fo sz)=>match st.h id with
  | some (.rarr _ es elems)=>(need md (sz=elems.length) ob).bind fun ob1=>(aGk hn elems k ob1).bind fun(r,ob2)=>
   bif Nat.ble (fo+i.size) es then(tak i.size (r.drop fo)).bind fun cs=>(aAj i cs).bind fun y=>val o n ⟨opr x,[id]⟩ y [] ob2 else none
  | _=>none
 | _=>none
theorem aE2 {hn:Hn}{t:TypeId}{x:Operand}(hw:tr.wf=true) (E:Tok P tr.flat) (ho:o.op=.load t x):Snd P n o st ob (aJl tr md o n st ob hn t x):=by
 refine Snd.bind fun i hi=>Snd.bind fun v B=>?_
 rw[bS] at B
 replace hi:=Tr.get_ok hw hi
 split
 ·rename_i id off;split
  ·rename_i tv cells hh;refine Snd.cond fun hb=>Snd.bind fun rs M=>Snd.bind fun y hy=>Snd.val fun _ A c hc=>⟨hc,?_⟩
   obtain⟨h1,h2⟩:=nH M;rw[n8,←h2] at hy;exact aNk E ho A c hi B hh hb hy
  ·exact Snd.none
 ·rename_i l;refine Snd.bind fun cs q=>Snd.bind fun y hy=>Snd.val fun _ A c hc=>⟨hc,?_⟩
  obtain⟨h1,h2⟩:=nH q;rw[tB,←h2] at hy;exact aCh E ho A c hi B h1 hy
 ·rename_i l;refine Snd.bind fun cs q=>Snd.bind fun y hy=>Snd.val fun _ A c hc=>⟨hc,?_⟩
  obtain⟨h1,h2⟩:=nH q;rw[n8,←h2] at hy;exact zV E ho A c hi B h1 hy
 ·rename_i id k fo sz;split
  ·rename_i te es elems fz hh;refine Snd.bind fun O h1=>Snd.bind fun p h2=>?_
   obtain⟨r,U⟩:=p;refine Snd.cond fun I=>Snd.bind fun cs q=>Snd.bind fun y hy=>Snd.val fun _ A c hc=>?_
   obtain⟨g1,g2⟩:=vB h2 hc;obtain⟨g3,g4⟩:=aO h1 g1;obtain⟨Y,J⟩:=nH q;rw[tB,←J] at hy;exact⟨g3,aCi E ho A c hi B hh g4 g2 (Ak I) hy⟩
  ·exact Snd.none
 ·rename_i id k fo sz;split
  ·rename_i te es elems hh;refine Snd.bind fun O h1=>Snd.bind fun p h2=>?_
   obtain⟨r,U⟩:=p;refine Snd.cond fun I=>Snd.bind fun cs q=>Snd.bind fun y hy=>Snd.val fun _ A c hc=>?_
   obtain⟨g1,g2⟩:=xA h2 hc;obtain⟨g3,g4⟩:=aO h1 g1;obtain⟨Y,J⟩:=nH q;rw[n8,←J] at hy;exact⟨g3,aCg E ho A c hi B hh g4 g2 (Ak I) hy⟩
  ·exact Snd.none
 ·exact Snd.none
def aL9 {α:Type}(l:List α) (off:Nat) (new:List α):Option (List α):=frc (bJ l off new)
def aEw (tr:Tr) (md:Bool) (o:Oper) (st:St) (ob:List Prop) (hn:Hn) (t:TypeId) (x y:Operand):Ans:=(tr.get t).bind fun i=>(opO st x).bind fun v=>(opO st y).bind fun u=>(mR u).bind fun rs=>bif Nat.beq rs.length i.size then(match v with
 | .one (.vp id off)=>match st.h id with
  | some (.var tv cells)=>bif Nat.ble (off+i.size) cells.length then(aL9 cells off rs).bind fun cs=>eff o ⟨opr x++opr y,[id]⟩ [(id,some (.var tv cs))] ob else none
  | _=>none
 | .one (.ep id k fo sz)=>match st.h id with
  | some (.arr te es elems 0)=>(fK rs).bind fun cs=>(need md (sz=elems.length) ob).bind fun ob1=>(aM4 hn elems k ob1).bind fun(r,ob2)=>
   bif Nat.ble (fo+i.size) es then(aL9 r fo cs).bind fun r'=>eff o ⟨opr x++opr y,[id]⟩ [(id,some (.arr te es (elems.set k r') 0))] ob2 else none
  | _=>none
 | .one (.rp id k fo sz)=>match st.h id with
  | some (.rarr te es elems)=>(need md (sz=elems.length) ob).bind fun ob1=>(aGk hn elems k ob1).bind fun(r,ob2)=>
   bif Nat.ble (fo+i.size) es then(aL9 r fo rs).bind fun r'=>eff o ⟨opr x++opr y,[id]⟩ [(id,some (.rarr te es (elems.set k r')))] ob2 else none
  | _=>none
 | _=>none) else none
theorem aA6 {hn:Hn}{t:TypeId}{x y:Operand}(hw:tr.wf=true) (J:Tok P tr.flat) (ho:o.op=.store t x y):Snd P n o st ob (aEw tr md o st ob hn t x y):=by
 refine Snd.bind fun i hi=>Snd.bind fun v I=>Snd.bind fun u hu=>Snd.bind fun rs A=>Snd.cond fun hl=>?_
 rw[bS] at I hu;rw[fG] at A
 replace hi:=Tr.get_ok hw hi
 have B:=ω hl;split
 ·rename_i id off;split
  ·rename_i tv cells hh;refine Snd.cond fun hb=>Snd.bind fun cs q=>Snd.eff fun E hc=>⟨hc,?_⟩
   unfold aL9 at q;rw[iD] at q;cases q;exact aJ7 J ho E hi I hu A hh B hb
  ·exact Snd.none
 ·rename_i id k fo sz;split
  ·rename_i te es elems hh;refine Snd.bind fun cs q=>Snd.bind fun O h1=>Snd.bind fun p h2=>?_
   obtain⟨r,U⟩:=p;refine Snd.cond fun M=>Snd.bind fun r' c=>Snd.eff fun E hc=>?_
   obtain⟨g1,g2⟩:=vB h2 hc;obtain⟨g3,g4⟩:=aO h1 g1;unfold aL9 at c;rw[iD] at c;cases c;refine⟨g3,zT J ho E hi I hu A q hh g4 g2 ?_ (Ak M)⟩;have:=kE q;rw[this] at B;simpa using B
  ·exact Snd.none
 ·rename_i id k fo sz;split
  ·rename_i te es elems hh;refine Snd.bind fun O h1=>Snd.bind fun p h2=>?_
   obtain⟨r,U⟩:=p;refine Snd.cond fun M=>Snd.bind fun r' c=>Snd.eff fun E hc=>?_
   obtain⟨g1,g2⟩:=xA h2 hc;obtain⟨g3,g4⟩:=aO h1 g1;unfold aL9 at c;rw[iD] at c;cases c;exact⟨g3,zS J ho E hi I hu A hh g4 g2 B (Ak M)⟩
  ·exact Snd.none
 ·exact Snd.none
def oG (tr:Tr) (md:Bool) (o:Oper) (n:Nat) (st:St) (ob:List Prop) (t:TypeId) (x:Operand) (f:Nat):Ans:=(tr.get t).bind fun i=>match i.k with
 | .st fs=>(fs[f]?).bind fun(foff,ft)=>(tr.get ft).bind fun fi=>bif Nat.ble 1 fi.size then((opO st x).bind fun v=>match v with
  | .one (.vp id off)=>val o n ⟨opr x,[]⟩ (.one (.vp id (off+foff))) [] ob
  | .one (.c (.pt l))=>val o n ⟨opr x,[]⟩ (.one (.c (.pt (l.drop foff)))) [] ob
  | .one (.pas l)=>val o n ⟨opr x,[]⟩ (.one (.pas (l.drop foff))) [] ob
  | .one (.ep id k fo sz)=>match st.h id with
   | some (.arr _ _ elems _)=>(need md (sz=elems.length) ob).bind fun ob1=>val o n ⟨opr x,[id]⟩ (.one (.ep id k (fo+foff) sz)) [] ob1
   | _=>none
  | .one (.rp id k fo sz)=>match st.h id with
   | some (.rarr _ _ elems)=>(need md (sz=elems.length) ob).bind fun ob1=>val o n ⟨opr x,[id]⟩ (.one (.rp id k (fo+foff) sz)) [] ob1
   | _=>none
  | _=>none) else none
 | _=>none
theorem oW {t:TypeId}{x:Operand}{f:Nat}(hw:tr.wf=true) (B:Tok P tr.flat) (ho:o.op=.fieldAddr t x f):Snd P n o st ob (oG tr md o n st ob t x f):=by
 refine Snd.bind fun i hi=>?_
 replace hi:=Tr.get_ok hw hi
 split
 ·rename_i fs E;refine Snd.bind fun p I=>?_
  obtain⟨M,Y⟩:=p;refine Snd.bind fun O q=>Snd.cond fun U=>Snd.bind fun v A=>?_
  replace q:=Tr.get_ok hw q
  have y:O.size≠0:=by have:=Ak U;omega
  rw[bS] at A;split
  ·exact Snd.val fun _ r c hc=>⟨hc,zY B ho r c hi E I q y A⟩
  ·exact Snd.val fun _ r c hc=>⟨hc,aAa B ho r c hi E I q y A⟩
  ·exact Snd.val fun _ r c hc=>⟨hc,vE B ho r c hi E I q y A⟩
  ·split
   ·rename_i hh;exact Snd.bind fun J h1=>Snd.val fun _ r c hc=>⟨(aO h1 hc).1,aAb B ho r c hi E I q y A hh (aO h1 hc).2⟩
   ·exact Snd.none
  ·split
   ·rename_i hh;exact Snd.bind fun J h1=>Snd.val fun _ r c hc=>⟨(aO h1 hc).1,zZ B ho r c hi E I q y A hh (aO h1 hc).2⟩
   ·exact Snd.none
  ·exact Snd.none
 ·exact Snd.none
def aE6 (tr:Tr) (o:Oper) (n:Nat) (st:St) (ob:List Prop) (t:TypeId) (x:Operand) (f:Nat):Ans:=(tr.get t).bind fun i=>match i.k with
 | .st fs=>(fs[f]?).bind fun(foff,ft)=>(tr.get ft).bind fun fi=>(opO st x).bind fun v=>(mR v).bind fun rs=>
  bif (match v with | .pa _=>true | .ma _=>true | _=>false) then bif Nat.ble (foff+fi.size) rs.length then(tak fi.size (rs.drop foff)).bind fun l=>(aAj fi l).bind fun y=>val o n ⟨opr x,[]⟩ y [] ob else none else none
 | _=>none
theorem aBa {t:TypeId}{x:Operand}{f:Nat}(hw:tr.wf=true) (I:Tok P tr.flat) (ho:o.op=.field t x f):Snd P n o st ob (aE6 tr o n st ob t x f):=by
 refine Snd.bind fun i hi=>?_
 replace hi:=Tr.get_ok hw hi
 split
 ·rename_i fs J;refine Snd.bind fun p M=>?_
  obtain⟨O,Y⟩:=p;refine Snd.bind fun fi c=>Snd.bind fun v r=>Snd.bind fun rs q=>Snd.cond fun A=>Snd.cond fun hl=>Snd.bind fun l B=>Snd.bind fun y hy=>?_
  replace c:=Tr.get_ok hw c
  rw[bS] at r;rw[fG] at q;rw[n8,←(nH B).2] at hy;exact Snd.val fun _ U E hc=>⟨hc,aKc I ho U E hi J M c r (by cases v<;>first | rfl | exact A) q hl hy⟩
 ·exact Snd.none
def atO (hn:Hn) (m:Int) (ob:List Prop):Option (Nat×List Prop):=match hn with
 | .row k _=>some (k,(m=(k:Int))::ob)
 | .rowR k _=>some (k,(m=(k:Int))::ob)
 | _=>match m with
  | .ofNat k=>some (k,ob)
  | .negSucc _=>none
theorem pY {hn:Hn}{m:Int}{k:Nat}{ob c:List Prop}(h:atO hn m ob=some (k,c)):eQ c→eQ ob∧m=(k:Int):=by
 unfold atO at h;split at h
 ·cases h;exact fun h=>⟨h.2,h.1⟩
 ·cases h;exact fun h=>⟨h.2,h.1⟩
 ·split at h
  ·cases h;exact fun h=>⟨h,rfl⟩
  ·cases h
def aQb (a b:Nat):Option Nat:=match a with
 | 0=>some b
 | a+1=>some (a+1+b)
theorem aFl {a b c:Nat}(h:aQb a b=some c):a+b=c:=by
 unfold aQb at h;split at h<;>cases h
 ·exact A5 _
 ·rfl
def oF (tr:Tr) (md:Bool) (o:Oper) (n:Nat) (st:St) (ob:List Prop) (hn:Hn) (t:TypeId) (x y:Operand):Ans:=(tr.get t).bind fun i=>match i.k with
 | .sl e=>(tr.get e).bind fun ei=>(opO st x).bind fun v=>(opO st y).bind fun u=>match u with
  | .one (.c (.int _ m))=>(atO hn m ob).bind fun(k,ob1)=>match v with
   | .one (.c (.sl es l))=>bif Nat.beq ei.size es then(aM4 hn l k ob1).bind fun(r,ob2)=>val o n ⟨opr x++opr y,[]⟩ (.one (.c (.pt r))) [] ob2 else none
   | .one (.hs id off len sz)=>match st.h id with
    | some (.arr _ es elems _)=>bif Nat.beq ei.size es then(need md (sz=elems.length) ob1).bind fun ob2=>(need md (k<len) ob2).bind fun ob3=>(aQb off k).bind fun j=>val o n ⟨opr x++opr y,[id]⟩ (.one (.ep id j 0 sz)) [] ob3 else none
    | _=>none
   | .one (.ra id off len sz)=>match st.h id with
    | some (.rarr _ es elems)=>bif Nat.beq ei.size es then(need md (sz=elems.length) ob1).bind fun ob2=>(need md (k<len) ob2).bind fun ob3=>(aQb off k).bind fun j=>val o n ⟨opr x++opr y,[id]⟩ (.one (.rp id j 0 sz)) [] ob3 else none
    | _=>none
   | .one (.ras n' es l)=>bif Nat.beq ei.size es then(need md (k<n') ob1).bind fun ob2=>match hn with
    | .rowR _ r=>val o n ⟨opr x++opr y,[]⟩ (.one (.pas r)) [] (((l.drop (k*es)).take es=r)::ob2)
    | _=>(frc ((l.drop (k*es)).take es)).bind fun r=>val o n ⟨opr x++opr y,[]⟩ (.one (.pas r)) [] ob2 else none
   | _=>none
  | _=>none
 | .ar m' e=>(tr.get e).bind fun ei=>(opO st x).bind fun v=>(opO st y).bind fun u=>match u with
  | .one (.c (.int _ m))=>(atO hn m ob).bind fun(k,ob1)=>match v with
   | .one (.vp id off)=>(need md (k<m') ob1).bind fun ob2=>val o n ⟨opr x++opr y,[]⟩ (.one (.vp id (off+k*ei.size))) [] ob2
   | _=>none
  | _=>none
 | _=>none
theorem oU {hn:Hn}{t:TypeId}{x y:Operand}(hw:tr.wf=true) (O:Tok P tr.flat) (ho:o.op=.indexAddr t x y):Snd P n o st ob (oF tr md o n st ob hn t x y):=by
 refine Snd.bind fun i hi=>?_
 replace hi:=Tr.get_ok hw hi
 split
 ·rename_i e I;refine Snd.bind fun ei c=>Snd.bind fun v E=>Snd.bind fun u hu=>?_
  replace c:=Tr.get_ok hw c
  rw[bS] at E hu;split
  ·rename_i kk m;refine Snd.bind fun p hp=>?_
   obtain⟨k,Y⟩:=p;dsimp only;split
   ·rename_i es l;refine Snd.cond fun A=>Snd.bind fun p h2=>?_
    obtain⟨r,M⟩:=p;refine Snd.val fun _ B q hc=>?_
    obtain⟨g1,g2⟩:=vB h2 hc;obtain⟨g3,g4⟩:=pY hp g1;exact⟨g3,aKb O ho B q hi I c (ω A) E hu g4 g2⟩
   ·rename_i id off len sz;split
    ·rename_i te es elems fz hh;refine Snd.cond fun A=>Snd.bind fun M h2=>Snd.bind fun aa U=>Snd.bind fun j J=>Snd.val fun _ B q hc=>?_
     have J:=aFl J;subst J;obtain⟨g1,g2⟩:=aO U hc;obtain⟨g3,g4⟩:=aO h2 g1;obtain⟨g5,g6⟩:=pY hp g3;exact⟨g5,zX O ho B q hi I c (ω A) E hh g4 hu g6 g2⟩
    ·exact Snd.none
   ·rename_i id off len sz;split
    ·rename_i te es elems hh;refine Snd.cond fun A=>Snd.bind fun M h2=>Snd.bind fun aa U=>Snd.bind fun j J=>Snd.val fun _ B q hc=>?_
     have J:=aFl J;subst J;obtain⟨g1,g2⟩:=aO U hc;obtain⟨g3,g4⟩:=aO h2 g1;obtain⟨g5,g6⟩:=pY hp g3;exact⟨g5,zW O ho B q hi I c (ω A) E hh g4 hu g6 g2⟩
    ·exact Snd.none
   ·rename_i n' es l;refine Snd.cond fun A=>Snd.bind fun M h2=>?_
    have A:=ω A;split
    ·refine Snd.val fun _ B q hc=>?_
     obtain⟨c1,c2⟩:=hc;obtain⟨g1,g2⟩:=aO h2 c2;obtain⟨g3,g4⟩:=pY hp g1;exact⟨g3,nM O ho B q hi I c A E hu g4 g2 c1⟩
    ·refine Snd.bind fun r hr=>Snd.val fun _ B q hc=>?_
     rw[iD] at hr;cases hr;obtain⟨g1,g2⟩:=aO h2 hc;obtain⟨g3,g4⟩:=pY hp g1;exact⟨g3,nM O ho B q hi I c A E hu g4 g2 rfl⟩
   ·exact Snd.none
  ·exact Snd.none
 ·rename_i m' e I;refine Snd.bind fun ei c=>Snd.bind fun v E=>Snd.bind fun u hu=>?_
  replace c:=Tr.get_ok hw c
  rw[bS] at E hu;split
  ·rename_i kk m;refine Snd.bind fun p hp=>?_
   obtain⟨k,Y⟩:=p;dsimp only;split
   ·rename_i id off;refine Snd.bind fun M h2=>Snd.val fun _ B q hc=>?_
    obtain⟨g1,g2⟩:=aO h2 hc;obtain⟨g3,g4⟩:=pY hp g1;exact⟨g3,vD O ho B q hi I c E hu g4 g2⟩
   ·exact Snd.none
  ·exact Snd.none
 ·exact Snd.none
def aPd (md:Bool) (o:Oper) (n:Nat) (st:St) (ob:List Prop) (x:Operand):Ans:=(opO st x).bind fun v=>match v with
 | .one (.ep id k fo sz)=>match st.h id with
  | some (.arr _ _ elems _)=>(need md (sz=elems.length) ob).bind fun ob1=>val o n ⟨opr x,[id]⟩ (.one (.ep id k fo sz)) [] ob1
  | _=>none
 | .one (.rp id k fo sz)=>match st.h id with
  | some (.rarr _ _ elems)=>(need md (sz=elems.length) ob).bind fun ob1=>val o n ⟨opr x,[id]⟩ (.one (.rp id k fo sz)) [] ob1
  | _=>none
 | v=>bif notNil v then val o n ⟨opr x,[]⟩ v [] ob else none
theorem aIh {x:Operand}(ho:o.op=.nilCheck x):Snd P n o st ob (aPd md o n st ob x):=by
 refine Snd.bind fun v r=>?_
 rw[bS] at r;split
 ·split
  ·rename_i hh;exact Snd.bind fun y h1=>Snd.val fun _ q c hc=>⟨(aO h1 hc).1,qO ho q c r hh (aO h1 hc).2⟩
  ·exact Snd.none
 ·split
  ·rename_i hh;exact Snd.bind fun y h1=>Snd.val fun _ q c hc=>⟨(aO h1 hc).1,qN ho q c r hh (aO h1 hc).2⟩
  ·exact Snd.none
 ·exact Snd.cond fun h=>Snd.val fun _ q c hc=>⟨hc,zU ho q c r h⟩
def nQ (tr:Tr):List (Nat×TypeId)→Option (List (Nat×Nat))
 | []=>some []
 | (off,t)::fs=>(tr.get t).bind fun i=>(nQ tr fs).bind fun l=>some ((off,i.size)::l)
theorem pH {tr:Tr}(hw:tr.wf=true):∀{fs:List (Nat×TypeId)}{l:List (Nat×Nat)},nQ tr fs=some l→iS tr.flat fs=some l
 | [],l,h=>by simpa [nQ,iS] using h
 | (off,t)::fs,l,h=>by
  simp only[nQ,Ab] at h;obtain⟨i,hi,q,c,h⟩:=h;simp only[iS,Tr.get_ok hw hi,pH hw c,h]
def xN (st:St):List (Nat×Operand)→Option (List (Nat×List R))
 | []=>some []
 | (i,x)::ps=>(opO st x).bind fun v=>(mR v).bind fun rs=>(xN st ps).bind fun l=>some ((i,rs)::l)
theorem sR (st:St):∀ps:List (Nat×Operand),xN st ps=mL st ps
 | []=>rfl
 | (i,x)::ps=>by
  simp only[xN,mL,bS,fG,sR st ps];cases opv st x with
  | none=>rfl
  | some v=>
   simp only[B6];cases eG v with
   | none=>rfl
   | some rs=>
    simp only[B6];cases mL st ps<;>rfl
def aHm (st:St):List Operand→Option (List R)
 | []=>some []
 | x::xs=>(opO st x).bind fun v=>match v with
  | .one r=>(aHm st xs).bind fun l=>some (r::l)
  | _=>none
theorem yJ (st:St):∀xs:List Operand,aHm st xs=tT st xs
 | []=>rfl
 | x::xs=>by
  simp only[aHm,tT,bS,yJ st xs];cases opv st x with
  | none=>rfl
  | some v=>
   simp only[B6];cases v<;>try rfl
   cases tT st xs<;>rfl
def aFa (tr:Tr) (o:Oper) (n:Nat) (st:St) (ob:List Prop) (t:TypeId) (parts:Array (Nat×Operand)):Ans:=(tr.get t).bind fun i=>match i.k with
 | .st fs=>(nQ tr fs).bind fun places=>(xN st parts.toList).bind fun ps=>(aAr places (i.zero.map R.c) ps).bind fun out=>(frc out).bind fun out=>(aQa out).bind fun y=>val o n ⟨dM parts.toList,[]⟩ y [] ob
 | _=>none
theorem aBb {t:TypeId}{parts:Array (Nat×Operand)}(hw:tr.wf=true) (B:Tok P tr.flat) (ho:o.op=.build t parts):Snd P n o st ob (aFa tr o n st ob t parts):=by
 refine Snd.bind fun i hi=>?_
 replace hi:=Tr.get_ok hw hi
 split
 ·rename_i fs E;refine Snd.bind fun places c=>Snd.bind fun ps q=>Snd.bind fun out I=>Snd.bind fun J r=>Snd.bind fun y hy=>Snd.val fun _ M A hc=>⟨hc,?_⟩
  replace c:=pH hw c
  rw[sR] at q;rw[iD] at r;cases r;rw[aFk] at hy;cases hy;exact aKf B ho M A hi E c q I
 ·exact Snd.none
def kZ (tr:Tr):Nat→List TypeId→List Nat
 | 0,_=>[]
 | _+1,[]=>[]
 | f+1,t::ts=>match tr.get t with
  | some i=>match i.k with
   | .sl e=>match tr.get e with
    | some ei=>(ei.size+1)::kZ tr f ts
    | none=>0::kZ tr f ts
   | .st fs=>kZ tr f (fs.map (·.2)++ts)
   | _=>0::kZ tr f ts
  | none=>0::kZ tr f ts
def nrm:List Nat→List C→List C
 | _,[]=>[]
 | [],cs=>cs
 | 0::es,c::cs=>c::nrm es cs
 | (e+1)::es,c::cs=>(match c with | .nl=>.sl e [] | c=>c)::nrm es cs
theorem jA {h:bW}:∀(es:List Nat) (cs:List C),PureL h [] (cs.map R.c) (nrm es cs)
 | es,[]=>by cases es<;>exact .nil
 | [],c::cs=>.of_pure
 | 0::es,c::cs=>.c .refl (jA es cs)
 | (e+1)::es,c::cs=>by
  simp only[nrm,As];split
  ·exact .c .nl (jA es cs)
  ·exact .c .refl (jA es cs)
def aBi:List Nat→List C→Option (List C)
 | _,[]=>some []
 | [],cs=>frc cs
 | 0::es,c::cs=>(aBi es cs).bind fun l=>some (c::l)
 | (e+1)::es,c::cs=>match c with
  | .nl=>(aBi es cs).bind fun l=>some (.sl e []::l)
  | c=>(aBi es cs).bind fun l=>some (c::l)
theorem nT:∀(es:List Nat) (cs:List C),aBi es cs=some (nrm es cs)
 | es,[]=>by cases es with
  | nil=>simp[aBi,nrm]
  | cons e es=>cases e<;>simp[aBi,nrm]
 | [],c::cs=>by simp[aBi,nrm,iD]
 | 0::es,c::cs=>by simp[aBi,nrm,nT es cs]
 | (e+1)::es,c::cs=>by
  simp only[aBi,nrm,nT es cs,B6];split<;>rfl
def aB6 (st:St) (tys:List Nat) (es:Nat):Nat→List (Nat×Operand)→Option (List (List C))
 | _,[]=>some []
 | k,(i,x)::ps=>bif Nat.beq i k then(opO st x).bind fun v=>(mR v).bind fun rs=>(fK rs).bind fun cs=>bif Nat.beq rs.length es then(aBi tys cs).bind fun cs=>(aB6 st tys es (k+1) ps).bind fun l=>some (cs::l) else none else none
theorem x9 {st:St}{c:List Nat}{es:Nat}:∀{ps:List (Nat×Operand)}{k:Nat}{l:List (List C)},aB6 st c es k ps=some l→RowsV st es k [] ps l
 | [],k,l,h=>by simp[aB6] at h;subst h;exact .nil
 | (i,x)::ps,k,l,h=>by
  simp only[aB6] at h;obtain⟨h0,h⟩:=cI h;have:=ω h0;subst this;rw[Ab] at h;obtain⟨v,y,h⟩:=h;rw[Ab] at h;obtain⟨rs,r,h⟩:=h;rw[Ab] at h;obtain⟨cs,A,h⟩:=h;obtain⟨hl,h⟩:=cI h;rw[Ab] at h;obtain⟨cs',q,h⟩:=h;rw[nT] at q;cases q;rw[Ab] at h;obtain⟨E,B,h⟩:=h;cases h;rw[bS] at y;rw[fG] at r;have hp:PureL st.h [] rs (nrm c cs):=by rw[kE A];exact jA c cs
  exact .cons (ids:=[]) y r hp hl (x9 B)
def aEx (tr:Tr) (o:Oper) (n:Nat) (st:St) (ob:List Prop) (hn:Hn) (id:Nat) (t:TypeId) (len:Nat) (parts:Array (Nat×Operand)):Ans:=(tr.get t).bind fun i=>match i.k with
 | .sl e=>(tr.get e).bind fun ei=>bif Nat.beq len parts.size&&(Nat.ble (len*ei.size) 16777216&&Nat.ble len 16777216) then(match st.h id with
  | none=>match aB6 st (kZ tr 300 [e]) ei.size 0 parts.toList with
   | some rows=>match hn with
    | .all=>val o n ⟨dM parts.toList,[id]⟩ (.one (.c (.sl ei.size rows))) [(id,some (.arr e ei.size rows 2))] ob
    | _=>val o n ⟨dM parts.toList,[id]⟩ (.one (.hs id 0 len len)) [(id,some (.arr e ei.size rows 0))] ob
   | none=>(qM st ei.size 0 parts.toList).bind fun rows=>val o n ⟨dM parts.toList,[id]⟩ (.one (.ra id 0 len len)) [(id,some (.rarr e ei.size rows))] ob
  | some _=>none) else none
 | _=>none
theorem aA7 {hn:Hn}{id:Nat}{t:TypeId}{len:Nat}{parts:Array (Nat×Operand)}(hw:tr.wf=true) (B:Tok P tr.flat) (ho:o.op=.buildSlice t len parts):Snd P n o st ob (aEx tr o n st ob hn id t len parts):=by
 refine Snd.bind fun i hi=>?_
 replace hi:=Tr.get_ok hw hi
 split
 ·rename_i e E;refine Snd.bind fun I c=>Snd.cond fun hb=>?_
  replace c:=Tr.get_ok hw c
  simp only[Aa] at hb;split
  ·rename_i hid;split
   ·rename_i rows y;have A:=x9 y;split
    ·exact Snd.val fun _ r q hc=>⟨hc,aGo id B ho r q hi E c A hb.1 hb.2.1 hb.2.2 hid⟩
    ·exact Snd.val fun _ r q hc=>⟨hc,aCd id B ho r q hi E c A hb.1 hb.2.1 hb.2.2 hid⟩
   ·exact Snd.bind fun rows A=>Snd.val fun _ r q hc=>⟨hc,aGn id B ho r q hi E c A hb.1 hb.2.1 hb.2.2 hid⟩
  ·exact Snd.none
 ·exact Snd.none
def aE5 (o:Oper) (n:Nat) (st:St) (ob:List Prop) (f:Fn) (first caps:Array Operand):Ans:=match f with
 | .func f=>match first.toList with
  | []=>(aHm st caps.toList).bind fun l=>val o n ⟨bO caps.toList,[]⟩ (.one (.clo f l)) [] ob
  | [x]=>match caps.toList with
   | []=>(opO st x).bind fun v=>match v with
    | .one c=>val o n ⟨opr x,[]⟩ (.one (.mth f c)) [] ob
    | _=>none
   | _=>none
  | _=>none
 | _=>none
theorem toList_nil {α:Type}{a:Array α}(h:a.toList=[]):a= #[]:=by
 cases a;simp at h;simp[h]
theorem zL {α:Type}{a:Array α}{x:α}(h:a.toList=[x]):a= #[x]:=by
 cases a;simp at h;simp[h]
theorem aE4 {f:Fn}{first caps:Array Operand}(ho:o.op=.makeFunc f first caps):Snd P n o st ob (aE5 o n st ob f first caps):=by
 unfold aE5;split
 ·rename_i f;split
  ·rename_i h1;have:=toList_nil h1;subst this;refine Snd.bind fun l hl=>Snd.val fun _ q c hc=>⟨hc,lT ho q c (by rw[←yJ];exact hl)⟩
  ·rename_i x h1;have:=zL h1;subst this;split
   ·rename_i h2;have:=toList_nil h2;subst this;refine Snd.bind fun v r=>?_
    split
    ·exact Snd.val fun _ q c hc=>⟨hc,sK ho q c (by rw[←bS];exact r)⟩
    ·exact Snd.none
   ·exact Snd.none
  ·exact Snd.none
 ·exact Snd.none
def aMp (st:St) (m:Nat):Option Operand→Option Nat
 | none=>some m
 | some x=>(opO st x).bind fun v=>match v with
  | .one (.c (.int _ (.ofNat k)))=>some k
  | _=>none
theorem iZ {m k:Nat}{x:Option Operand}(h:aMp st m x=some k):BndV st x m k:=by
 cases x with
 | none=>cases h;exact .no
 | some x=>
  simp only[aMp,Ab,bS] at h;obtain⟨v,c,h⟩:=h;split at h
  ·cases h;exact .yes c
  ·cases h
def aP4 {α:Type}(l:List α) (lo hi:Nat) (low high:Option Operand):Option (List α):=match low,high with
 | none,none=>some l
 | none,some _=>some (l.take hi)
 | some _,none=>some (l.drop lo)
 | some _,some _=>some ((l.take hi).drop lo)
theorem aD5 {α:Type}{l r:List α}{lo hi:Nat}{low high:Option Operand}(h1:BndV st low 0 lo) (h2:BndV st high l.length hi) (h:aP4 l lo hi low high=some r):r=(l.take hi).drop lo:=by
 cases h1<;>cases h2<;>simp[aP4] at h<;>simp[h]
def aLz (tr:Tr) (md:Bool) (o:Oper) (n:Nat) (st:St) (ob:List Prop) (t:TypeId) (x:Operand) (low high mx:Option Operand):Ans:=match mx with
 | some _=>none
 | none=>(tr.get t).bind fun i=>(opO st x).bind fun v=>match i.k with
  | .sl e=>(tr.get e).bind fun ei=>match v with
   | .one (.c (.sl es l))=>bif Nat.beq ei.size es then(aMp st 0 low).bind fun lo=>(aMp st l.length high).bind fun hi=>(need md (lo≤hi) ob).bind fun ob1=>(need md (hi≤l.length) ob1).bind fun ob2=>
     (aP4 l lo hi low high).bind fun r=>val o n ⟨opr x++aIb low++aIb high,[]⟩ (.one (.c (.sl es r))) [] ob2 else none
   | _=>none
  | .str=>match v with
   | .one (.c (.str s))=>(aMp st 0 low).bind fun lo=>(aMp st s.length high).bind fun hi=>(need md (lo≤hi) ob).bind fun ob1=>(need md (hi≤s.length) ob1).bind fun ob2=>
     (aP4 s lo hi low high).bind fun r=>val o n ⟨opr x++aIb low++aIb high,[]⟩ (.one (.c (.str r))) [] ob2
   | _=>none
  | _=>none
theorem aIl {t:TypeId}{x:Operand}{low high O:Option Operand}(hw:tr.wf=true) (U:Tok P tr.flat) (ho:o.op=.slice t x low high O):Snd P n o st ob (aLz tr md o n st ob t x low high O):=by
 unfold aLz;split
 ·exact Snd.none
 ·refine Snd.bind fun i y=>Snd.bind fun v E=>?_
  replace y:=Tr.get_ok hw y
  rw[bS] at E;split
  ·rename_i e I;refine Snd.bind fun ei A=>?_
   replace A:=Tr.get_ok hw A
   split
   ·rename_i es l;refine Snd.cond fun Y=>Snd.bind fun lo c=>Snd.bind fun hi q=>Snd.bind fun aa h1=>Snd.bind fun ab h2=>Snd.bind fun r J=>Snd.val fun _ M B hc=>?_
    obtain⟨g1,g2⟩:=aO h2 hc;obtain⟨g3,g4⟩:=aO h1 g1;rw[aD5 (iZ c) (iZ q) J];exact⟨g3,aQx U ho M B y I A (ω Y) E (iZ c) (iZ q) g4 g2⟩
   ·exact Snd.none
  ·rename_i I;split
   ·rename_i s;refine Snd.bind fun lo c=>Snd.bind fun hi q=>Snd.bind fun aa h1=>Snd.bind fun ab h2=>Snd.bind fun r J=>Snd.val fun _ M B hc=>?_
    obtain⟨g1,g2⟩:=aO h2 hc;obtain⟨g3,g4⟩:=aO h1 g1;rw[aD5 (iZ c) (iZ q) J];exact⟨g3,aNc U ho M B y I E (iZ c) (iZ q) g4 g2⟩
   ·exact Snd.none
  ·exact Snd.none
def aE3 (tr:Tr) (o:Oper) (n:Nat) (st:St) (ob:List Prop) (hn:Hn) (t:TypeId) (x y:Operand):Ans:=(tr.get t).bind fun i=>match i.k with
 | .str=>(opO st x).bind fun v=>(opO st y).bind fun u=>match v,u with
  | .one (.c (.str s)),.one (.c (.int _ m))=>match hn with
   | .byte k b=>val o n ⟨opr x++opr y,[]⟩ (.one (.c (.int .u8 ((b.toNat:Nat):Int)))) [] ((m=(k:Int)∧s[k]?=some b)::ob)
   | _=>match m with
    | .ofNat k=>(s[k]?).bind fun b=>val o n ⟨opr x++opr y,[]⟩ (.one (.c (.int .u8 ((b.toNat:Nat):Int)))) [] ob
    | _=>none
  | _,_=>none
 | _=>none
theorem aA8 {hn:Hn}{t:TypeId}{x y:Operand}(hw:tr.wf=true) (A:Tok P tr.flat) (ho:o.op=.index t x y):Snd P n o st ob (aE3 tr o n st ob hn t x y):=by
 refine Snd.bind fun i hi=>?_
 replace hi:=Tr.get_ok hw hi
 split
 ·rename_i B;refine Snd.bind fun v q=>Snd.bind fun u hu=>?_
  rw[bS] at q hu;split
  ·split
   ·exact Snd.val fun _ r c hc=>⟨hc.2,aIz A ho r c hi B q hu hc.1.1 hc.1.2⟩
   ·split
    ·exact Snd.bind fun b hb=>Snd.val fun _ r c hc=>⟨hc,aIz A ho r c hi B q hu rfl hb⟩
    ·exact Snd.none
  ·exact Snd.none
 ·exact Snd.none
def aC4:List (List C)→Bool
 | []=>true
 | (.str _::_)::r=>aC4 r
 | _::_=>false
theorem sT:∀l:List (List C),aC4 l=true↔iU l
 | []=>by simp[aC4,iU]
 | []::r=>by simp[aC4,iU]
 | (c::vs)::r=>by
  cases c<;>simp[aC4,iU];exact sT r
instance (l:List (List C)):Decidable (iU l):=decidable_of_iff _ (sT l)
def aHf (st:St) (agg:Bool):V→Option (List Nat×List (List C))
 | .one (.mr id)=>match st.h id with
  | some (.map a ents)=>bif a==agg then some ([id],ents) else none
  | _=>none
 | .one (.c (.mp a ents))=>bif a==agg then some ([],ents) else none
 | .one (.c (.zv 0))=>some ([],[])
 | _=>none
theorem r8 {st:St}{agg:Bool}{v:V}{ids:List Nat}{ents:List (List C)}(h:aHf st agg v=some (ids,ents)):MapE st ids v agg ents:=by
 unfold aHf at h;split at h
 ·split at h
  ·rename_i hh;obtain⟨h1,h2⟩:=cI h;cases h2;exact .mr (by rw[hh,eq_of_beq h1])
  ·cases h
 ·obtain⟨h1,h2⟩:=cI h;cases h2;rw[eq_of_beq h1];exact .mp
 ·cases h;exact .nil
 ·cases h
def aKw (md:Bool) (hn:Hn) (k:List UInt8) (ents:List (List C)) (ob:List Prop):Option (Option (List C)×List Prop):=match hn with
 | .look r=>some (r,(gW k ents=r)::ob)
 | _=>bif md then some (gW k ents,ob) else match gW k ents with
  | some r=>some (some r,ob)
  | none=>some (none,ob)
theorem y6 {md:Bool}{hn:Hn}{k:List UInt8}{ents:List (List C)}{ob c:List Prop}{r:Option (List C)}(h:aKw md hn k ents ob=some (r,c)):eQ c→eQ ob∧gW k ents=r:=by
 unfold aKw at h;split at h
 ·cases h;exact fun h=>⟨h.2,h.1⟩
 ·cases md
  ·simp only[Bg] at h;split at h
   ·rename_i h1;cases h;exact fun h=>⟨h,h1⟩
   ·rename_i h1;cases h;exact fun h=>⟨h,h1⟩
  ·cases h;exact fun h=>⟨h,rfl⟩
def uF (tr:Tr) (md:Bool) (o:Oper) (n:Nat) (st:St) (ob:List Prop) (hn:Hn) (t:TypeId) (x y:Operand) (ok:Bool):Ans:=(tr.get t).bind fun i=>match i.k with
 | .mp kt et=>(tr.get kt).bind fun ki=>(tr.get et).bind fun ei=>match ki.k with
  | .str=>(opO st x).bind fun v=>(aHf st ei.k.agg v).bind fun(ids,ents)=>(opO st y).bind fun u=>match u with
   | .one (.c (.str k))=>(need md (iU ents) ob).bind fun ob1=>(aKw md hn k ents ob1).bind fun(r,ob2)=>match ok with
    | true=>val o n ⟨opr x++opr y,ids⟩ (.tup [mY ei r,.one (.c (.bool (aDa r)))]) [] ob2
    | false=>val o n ⟨opr x++opr y,ids⟩ (mY ei r) [] ob2
   | _=>none
  | _=>none
 | _=>none
theorem uE {hn:Hn}{t:TypeId}{x y:Operand}{ok:Bool}(hw:tr.wf=true) (J:Tok P tr.flat) (ho:o.op=.lookup t x y ok):Snd P n o st ob (uF tr md o n st ob hn t x y ok):=by
 refine Snd.bind fun i hi=>?_
 replace hi:=Tr.get_ok hw hi
 split
 ·rename_i Y et M;refine Snd.bind fun ki c=>Snd.bind fun ei q=>?_
  replace c:=Tr.get_ok hw c
  replace q:=Tr.get_ok hw q
  split
  ·rename_i B;refine Snd.bind fun v E=>Snd.bind fun p hp=>?_
   obtain⟨ids,ents⟩:=p;refine Snd.bind fun u hu=>?_
   rw[bS] at E hu;split
   ·rename_i k;refine Snd.bind fun O h1=>Snd.bind fun p h2=>?_
    obtain⟨r,U⟩:=p;dsimp only;split
    ·refine Snd.val fun _ I A hc=>?_
     obtain⟨g1,g2⟩:=y6 h2 hc;obtain⟨g3,g4⟩:=aO h1 g1;have:=qP J ho I A hi M c B q rfl E (r8 hp) g4 hu g2;exact⟨g3,by simpa using this⟩
    ·refine Snd.val fun _ I A hc=>?_
     obtain⟨g1,g2⟩:=y6 h2 hc;obtain⟨g3,g4⟩:=aO h1 g1;have:=qP J ho I A hi M c B q rfl E (r8 hp) g4 hu g2;exact⟨g3,by simpa using this⟩
   ·exact Snd.none
  ·exact Snd.none
 ·exact Snd.none
def uD (tr:Tr) (md:Bool) (o:Oper) (n:Nat) (st:St) (ob:List Prop) (w:V) (t:TypeId) (x y:Operand):Ans:=(tr.get t).bind fun i=>match i.k with
 | .mp kt et=>(tr.get kt).bind fun ki=>(tr.get et).bind fun ei=>match ki.k with
  | .str=>(opO st x).bind fun v=>(aHf st ei.k.agg v).bind fun(ids,ents)=>(opO st y).bind fun u=>match u with
   | .one (.c (.str k))=>(need md (iU ents) ob).bind fun ob1=>val o n ⟨opr x++opr y,ids⟩ w [] ((mY ei (gW k ents)=w)::ob1)
   | _=>none
  | _=>none
 | _=>none
theorem uC {w:V}{t:TypeId}{x y:Operand}(hw:tr.wf=true) (E:Tok P tr.flat) (ho:o.op=.lookup t x y false):Snd P n o st ob (uD tr md o n st ob w t x y):=by
 refine Snd.bind fun i hi=>?_
 replace hi:=Tr.get_ok hw hi
 split
 ·rename_i O U I;refine Snd.bind fun Y c=>Snd.bind fun ei q=>?_
  replace c:=Tr.get_ok hw c
  replace q:=Tr.get_ok hw q
  split
  ·rename_i r;refine Snd.bind fun v A=>Snd.bind fun p hp=>?_
   obtain⟨ids,ents⟩:=p;refine Snd.bind fun u hu=>?_
   rw[bS] at A hu;split
   ·rename_i k;refine Snd.bind fun M h1=>Snd.val fun _ J B hc=>?_
    obtain⟨g3,g4⟩:=aO h1 hc.2;have:=qP E ho J B hi I c r q rfl A (r8 hp) g4 hu rfl;refine⟨g3,?_⟩;rw[←hc.1];simpa using this
   ·exact Snd.none
  ·exact Snd.none
 ·exact Snd.none
def rM (tr:Tr) (md:Bool) (o:Oper) (n:Nat) (st:St) (ob:List Prop) (hn:Hn) (t:TypeId) (x y:Operand) (ok:Bool):Ans:=match ok,hn with
 | false,.pc w=>uD tr md o n st ob w t x y
 | ok,hn=>uF tr md o n st ob hn t x y ok
theorem wJ {hn:Hn}{t:TypeId}{x y:Operand}{ok:Bool}(hw:tr.wf=true) (c:Tok P tr.flat) (ho:o.op=.lookup t x y ok):Snd P n o st ob (rM tr md o n st ob hn t x y ok):=by
 unfold rM;split
 ·exact uC hw c ho
 ·exact uE hw c ho
def aNu (md:Bool) (k:List UInt8) (cs:List C) (ents:List (List C)):Option (List (List C)):=bif md then some (aAh k cs ents) else frc (aAh k cs ents)
theorem xT (md:Bool) (k:List UInt8) (cs:List C) (ents:List (List C)):aNu md k cs ents=some (aAh k cs ents):=by
 cases md
 ·exact iD _
 ·rfl
def hJ (tr:Tr) (md:Bool) (o:Oper) (st:St) (ob:List Prop) (t:TypeId) (x y z:Operand):Ans:=(tr.get t).bind fun i=>match i.k with
 | .mp kt _=>(tr.get kt).bind fun ki=>match ki.k with
  | .str=>(opO st x).bind fun v=>match v with
   | .one (.mr id)=>match st.h id with
    | some (.map agg ents)=>(opO st y).bind fun u=>match u with
     | .one (.c (.str k))=>(opO st z).bind fun v=>bif (match v with | .one _=>!agg | .pa _=>agg | .ma _=>agg | _=>false) then(mR v).bind fun rs=>
      (need md (iU ents) ob).bind fun ob1=>(aNu md k (aNp rs) ents).bind fun e'=>eff o ⟨opr x++opr y++opr z,[id]⟩ [(id,some (.map agg e'))] ob1 else none
     | _=>none
    | _=>none
   | _=>none
  | _=>none
 | _=>none
theorem oT {t:TypeId}{x y z:Operand}(hw:tr.wf=true) (I:Tok P tr.flat) (ho:o.op=.mapUpdate t x y z):Snd P n o st ob (hJ tr md o st ob t x y z):=by
 refine Snd.bind fun i hi=>?_
 replace hi:=Tr.get_ok hw hi
 split
 ·rename_i U Y J;refine Snd.bind fun ki c=>?_
  replace c:=Tr.get_ok hw c
  split
  ·rename_i r;refine Snd.bind fun v A=>?_
   rw[bS] at A;split
   ·rename_i id;split
    ·rename_i agg ents hh;refine Snd.bind fun u hu=>?_
     rw[bS] at hu;split
     ·rename_i k;refine Snd.bind fun z B=>Snd.cond fun E=>Snd.bind fun rs q=>Snd.bind fun O h1=>Snd.bind fun e' he=>Snd.eff fun M hc=>?_
      rw[bS] at B;rw[fG] at q;rw[xT] at he;cases he;obtain⟨g1,g2⟩:=aO h1 hc;exact⟨g1,vC (ids:=[]) I ho M hi J c r A hh g2 hu B (by cases z<;>first | rfl | exact E) q .ofA⟩
     ·exact Snd.none
    ·exact Snd.none
   ·exact Snd.none
  ·exact Snd.none
 ·exact Snd.none
theorem wK {t:TypeId}{x y z:Operand}(hw:tr.wf=true) (I:Tok P tr.flat) (ho:o.op=.insert t x y z):Snd P n o st ob (hJ tr md o st ob t x y z):=by
 refine Snd.bind fun i hi=>?_
 replace hi:=Tr.get_ok hw hi
 split
 ·rename_i U Y J;refine Snd.bind fun ki c=>?_
  replace c:=Tr.get_ok hw c
  split
  ·rename_i r;refine Snd.bind fun v A=>?_
   rw[bS] at A;split
   ·rename_i id;split
    ·rename_i agg ents hh;refine Snd.bind fun u hu=>?_
     rw[bS] at hu;split
     ·rename_i k;refine Snd.bind fun z B=>Snd.cond fun E=>Snd.bind fun rs q=>Snd.bind fun O h1=>Snd.bind fun e' he=>Snd.eff fun M hc=>?_
      rw[bS] at B;rw[fG] at q;rw[xT] at he;cases he;obtain⟨g1,g2⟩:=aO h1 hc;exact⟨g1,aGv (ids:=[]) I ho M hi J c r A hh g2 hu B (by cases z<;>first | rfl | exact E) q .ofA⟩
     ·exact Snd.none
    ·exact Snd.none
   ·exact Snd.none
  ·exact Snd.none
 ·exact Snd.none
end
section
variable {QP:Value→Prop}{P:Program}{n:Nat}{o:Oper}{st:St}{ob:List Prop}{tr:Tr}{md nat:Bool}
def arith (md nat:Bool) (op:BinOp) (a b:Int) (ob:List Prop):Option (Int×List Prop):=match op with
 | .add=>bif nat then(match a,b with | .ofNat x,.ofNat y=>(need md (x+y≤9223372036854775807) ob).bind fun ob1=>some (((x+y:Nat):Int),ob1) | _,_=>none)
  else(need md (-9223372036854775808≤a+b∧a+b≤9223372036854775807) ob).bind fun ob1=>some (a+b,ob1)
 | .sub=>bif nat then(match a,b with | .ofNat x,.ofNat y=>(need md (y≤x∧x≤9223372036854775807) ob).bind fun ob1=>some (((x-y:Nat):Int),ob1) | _,_=>none)
  else(need md (-9223372036854775808≤a-b∧a-b≤9223372036854775807) ob).bind fun ob1=>some (a-b,ob1)
 | .mul=>bif nat then(match a,b with | .ofNat x,.ofNat y=>(need md (x*y≤9223372036854775807) ob).bind fun ob1=>some (((x*y:Nat):Int),ob1) | _,_=>none)
  else(need md (-9223372036854775808≤a*b∧a*b≤9223372036854775807) ob).bind fun ob1=>some (a*b,ob1)
 | .quo=>bif nat then(match a,b with | .ofNat x,.ofNat y=>(need md (x≤9223372036854775807∧1≤y) ob).bind fun ob1=>some (((x/y:Nat):Int),ob1) | _,_=>none)
  else(need md (0≤a∧a≤9223372036854775807∧1≤b) ob).bind fun ob1=>some (a/b,ob1)
 | .rem=>bif nat then(match a,b with | .ofNat x,.ofNat y=>(need md (1≤y) ob).bind fun ob1=>some (((x%y:Nat):Int),ob1) | _,_=>none)
  else(need md (0≤a∧1≤b) ob).bind fun ob1=>some (a%b,ob1)
 | _=>none
theorem oS {α:Type}{c:List Prop}{x:Option (List Prop)}{r r':α}(h:(x.bind fun q=>some (r,q))=some (r',c)):x=some c∧r'=r:=by
 rw[Ab] at h;obtain⟨q,h1,h2⟩:=h;cases h2;exact⟨h1,rfl⟩
theorem aIo {op:BinOp}{B ty:TypeId}{x y:Operand}{d:Nat}{a b r:Int}{A:List Prop}(ho:o.op=.binOp op B x y ty) (q:o.dst=some d) (c:d<n) (hx:opv st x=some (I .i64 a)) (hy:opv st y=some (I .i64 b)) (h:arith md nat op a b ob=some (r,A)):
  eQ A→eQ ob∧Step P n o st ⟨opr x++opr y,[]⟩ ⟨some (d,some (I .i64 r)),[]⟩:=by
 intro hc;unfold arith at h;cases nat<;>cases op<;>simp only[Bp,Bg] at h<;>try (cases h;done)
 ·obtain⟨h1,rfl⟩:=oS h;obtain⟨g,k⟩:=aO h1 hc;exact⟨g,aNo ho q c hx hy k⟩
 ·obtain⟨h1,rfl⟩:=oS h;obtain⟨g,k⟩:=aO h1 hc;exact⟨g,aM8 ho q c hx hy k⟩
 ·obtain⟨h1,rfl⟩:=oS h;obtain⟨g,k⟩:=aO h1 hc;exact⟨g,aNj ho q c hx hy k⟩
 ·obtain⟨h1,rfl⟩:=oS h;obtain⟨g,k⟩:=aO h1 hc;exact⟨g,aI1 ho q c hx hy k⟩
 ·obtain⟨h1,rfl⟩:=oS h;obtain⟨g,k⟩:=aO h1 hc;exact⟨g,aI0 ho q c hx hy k⟩
 all_goals cases a<;>cases b<;>simp only at h<;>try (cases h;done)
 ·obtain⟨h1,rfl⟩:=oS h;obtain⟨g,k⟩:=aO h1 hc;exact⟨g,aNn ho q c hx hy k⟩
 ·obtain⟨h1,rfl⟩:=oS h;obtain⟨g,k⟩:=aO h1 hc;exact⟨g,aM7 ho q c hx hy k⟩
 ·obtain⟨h1,rfl⟩:=oS h;obtain⟨g,k⟩:=aO h1 hc;exact⟨g,aNi ho q c hx hy k⟩
 ·obtain⟨h1,rfl⟩:=oS h;obtain⟨g,k⟩:=aO h1 hc;exact⟨g,aNf ho q c hx hy k⟩
 ·obtain⟨h1,rfl⟩:=oS h;obtain⟨g,k⟩:=aO h1 hc;exact⟨g,aNe ho q c hx hy k⟩
def aRa (op:BinOp) (a b:Int):Option Bool:=match op with
 | .lss=>some (decide (a<b))
 | .leq=>some (decide (a≤b))
 | .gtr=>some (decide (b<a))
 | .geq=>some (decide (b≤a))
 | .eql=>some (decide (a=b))
 | .neq=>some (!decide (a=b))
 | _=>none
theorem aK4 {op:BinOp}{A ty:TypeId}{x y:Operand}{d:Nat}{k:IntKind}{a b:Int}{r:Bool}(ho:o.op=.binOp op A x y ty) (q:o.dst=some d) (c:d<n) (hx:opv st x=some (I k a)) (hy:opv st y=some (I k b)) (h:aRa op a b=some r):
  Step P n o st ⟨opr x++opr y,[]⟩ ⟨some (d,some (B r)),[]⟩:=by
 unfold aRa at h;cases op<;>simp only at h<;>try (cases h;done)
 ·cases h;exact aQw ho q c hx hy
 ·cases h;exact aQo ho q c hx hy
 ·cases h;exact aQs ho q c hx hy
 ·cases h;exact aQt ho q c hx hy
 ·cases h;exact aQu ho q c hx hy
 ·cases h;exact aQv ho q c hx hy
def aJu (op:BinOp) (k:IntKind) (a b:Int):Option Int:=match op with
 | .add=>some (k.wrap (a+b))
 | .sub=>some (k.wrap (a-b))
 | .mul=>some (k.wrap (a*b))
 | _=>none
theorem aF2 {op:BinOp}{A ty:TypeId}{x y:Operand}{d:Nat}{k:IntKind}{a b r:Int}(ho:o.op=.binOp op A x y ty) (q:o.dst=some d) (c:d<n) (hx:opv st x=some (I k a)) (hy:opv st y=some (I k b)) (h:aJu op k a b=some r):
  Step P n o st ⟨opr x++opr y,[]⟩ ⟨some (d,some (I k r)),[]⟩:=by
 unfold aJu at h;cases op<;>simp only at h<;>try (cases h;done)
 ·cases h;exact aKh ho q c hx hy rfl
 ·cases h;exact aJ6 ho q c hx hy rfl
 ·cases h;exact aKa ho q c hx hy rfl
def aKs:IntKind→Bool
 | .i64=>true
 | _=>false
def aPg (tr:Tr) (md nat:Bool) (o:Oper) (n:Nat) (st:St) (ob:List Prop) (op:BinOp) (tx:TypeId) (x y:Operand):Ans:=(opO st x).bind fun v=>(opO st y).bind fun u=>match v,u with
 | .one (.c (.int k a)),.one (.c (.int k' b))=>bif decide (k=k') then(match aRa op a b with
   | some r=>val o n ⟨opr x++opr y,[]⟩ (.one (.c (.bool r))) [] ob
   | none=>bif aKs k then(arith md nat op a b ob).bind fun(r,ob1)=>val o n ⟨opr x++opr y,[]⟩ (.one (.c (.int .i64 r))) [] ob1
    else(aJu op k a b).bind fun r=>val o n ⟨opr x++opr y,[]⟩ (.one (.c (.int k r))) [] ob) else none
 | .one (.c (.str a)),.one (.c (.str b))=>match op with
  | .eql=>val o n ⟨opr x++opr y,[]⟩ (.one (.c (.bool (decide (a=b))))) [] ob
  | .neq=>val o n ⟨opr x++opr y,[]⟩ (.one (.c (.bool (!decide (a=b))))) [] ob
  | .lss=>val o n ⟨opr x++opr y,[]⟩ (.one (.c (.bool (Op.bytesLess a b)))) [] ob
  | .add=>(need md (a.length+b.length≤maxLen) ob).bind fun ob1=>val o n ⟨opr x++opr y,[]⟩ (.one (.c (.str (a++b)))) [] ob1
  | _=>none
 | .one (.c (.bool a)),.one (.c (.bool b))=>(tr.get tx).bind fun i=>match i.k with
  | .bool=>match op with
   | .eql=>val o n ⟨opr x++opr y,[]⟩ (.one (.c (.bool (a==b)))) [] ob
   | .neq=>val o n ⟨opr x++opr y,[]⟩ (.one (.c (.bool (!(a==b))))) [] ob
   | _=>none
  | _=>none
 | v,.one (.c .np)=>(tr.get tx).bind fun i=>match i.k with
  | .pt _=>(sL v).bind fun b=>match op with
   | .eql=>val o n ⟨opr x++opr y,[]⟩ (.one (.c (.bool b))) [] ob
   | .neq=>val o n ⟨opr x++opr y,[]⟩ (.one (.c (.bool (!b)))) [] ob
   | _=>none
  | _=>none
 | v,.one (.c .nl)=>(tr.get tx).bind fun i=>match i.k with
  | .sl _=>(aGd v).bind fun b=>match op with
   | .eql=>val o n ⟨opr x++opr y,[]⟩ (.one (.c (.bool b))) [] ob
   | _=>none
  | _=>none
 | _,_=>none
theorem aIn {op:BinOp}{J ty:TypeId}{x y:Operand}(hw:tr.wf=true) (E:Tok P tr.flat) (ho:o.op=.binOp op J x y ty):Snd P n o st ob (aPg tr md nat o n st ob op J x y):=by
 refine Snd.bind fun v A=>Snd.bind fun u hu=>?_
 rw[bS] at A hu;split
 ·rename_i k a k' b;refine Snd.cond fun B=>?_
  have M:=κ B;subst M;split
  ·rename_i r I;exact Snd.val fun _ q c hc=>⟨hc,aK4 ho q c A hu I⟩
  ·cases hi:aKs k with
   | true=>
    simp only[Bp];cases k<;>simp only[aKs] at hi<;>try (cases hi;done)
    refine Snd.bind fun p hp=>?_
    obtain⟨r,O⟩:=p;exact Snd.val fun _ q c hc=>aIo ho q c A hu hp hc
   | false=>
    simp only[Bg];exact Snd.bind fun r I=>Snd.val fun _ q c hc=>⟨hc,aF2 ho q c A hu I⟩
 ·split
  ·exact Snd.val fun _ q c hc=>⟨hc,aNb ho q c A hu⟩
  ·exact Snd.val fun _ q c hc=>⟨hc,aM9 ho q c A hu⟩
  ·exact Snd.val fun _ q c hc=>⟨hc,aNa ho q c A hu⟩
  ·exact Snd.bind fun O h1=>Snd.val fun _ q c hc=>⟨(aO h1 hc).1,aNd ho q c A hu (aO h1 hc).2⟩
  ·exact Snd.none
 ·refine Snd.bind fun i hi=>?_
  replace hi:=Tr.get_ok hw hi
  split
  ·rename_i B;split
   ·exact Snd.val fun _ q c hc=>⟨hc,aNm E ho q c hi B A hu⟩
   ·exact Snd.val fun _ q c hc=>⟨hc,aNl E ho q c hi B A hu⟩
   ·exact Snd.none
  ·exact Snd.none
 ·refine Snd.bind fun i hi=>?_
  replace hi:=Tr.get_ok hw hi
  split
  ·rename_i B;refine Snd.bind fun b hb=>?_
   split
   ·exact Snd.val fun _ q c hc=>⟨hc,aNh E ho q c hi B A hb hu⟩
   ·exact Snd.val fun _ q c hc=>⟨hc,aNg E ho q c hi B A hb hu⟩
   ·exact Snd.none
  ·exact Snd.none
 ·refine Snd.bind fun i hi=>?_
  replace hi:=Tr.get_ok hw hi
  split
  ·rename_i B;refine Snd.bind fun b hb=>?_
   split
   ·exact Snd.val fun _ q c hc=>⟨hc,aJ9 E ho q c hi B A hb hu⟩
   ·exact Snd.none
  ·exact Snd.none
 ·exact Snd.none
def aRq (md:Bool) (o:Oper) (n:Nat) (st:St) (ob:List Prop) (op:UnOp) (x:Operand):Ans:=(opO st x).bind fun v=>match v with
 | .one (.c (.bool b))=>match op with
  | .not=>val o n ⟨opr x,[]⟩ (.one (.c (.bool (!b)))) [] ob
  | _=>none
 | .one (.c (.int .i64 a))=>match op with
  | .neg=>(need md (-9223372036854775808≤0-a∧0-a≤9223372036854775807) ob).bind fun ob1=>val o n ⟨opr x,[]⟩ (.one (.c (.int .i64 (0-a)))) [] ob1
  | _=>none
 | _=>none
theorem aLw {op:UnOp}{t:TypeId}{x:Operand}(ho:o.op=.unOp op t x):Snd P n o st ob (aRq md o n st ob op x):=by
 refine Snd.bind fun v q=>?_
 rw[bS] at q;split
 ·split
  ·exact Snd.val fun _ r c hc=>⟨hc,aQn ho r c q⟩
  ·exact Snd.none
 ·split
  ·exact Snd.bind fun y h1=>Snd.val fun _ r c hc=>⟨(aO h1 hc).1,aQp ho r c q (Bt _ (aO h1 hc).2)⟩
  ·exact Snd.none
 ·exact Snd.none
def aPe (tr:Tr) (md:Bool) (o:Oper) (n:Nat) (st:St) (ob:List Prop) (x:Operand) (t:TypeId):Ans:=(tr.get t).bind fun i=>(opO st x).bind fun v=>match i.k with
 | .sl _=>match v with
  | .one (.c (.sl _ l))=>val o n ⟨opr x,[]⟩ (.one (.c (.int .i64 ((l.length:Nat):Int)))) [] ob
  | .one (.c .nl)=>val o n ⟨opr x,[]⟩ (.one (.c (.int .i64 0))) [] ob
  | .one (.ras n' _ _)=>val o n ⟨opr x,[]⟩ (.one (.c (.int .i64 ((n':Nat):Int)))) [] ob
  | .one (.hs id _ len sz)=>match st.h id with
   | some (.arr _ _ elems _)=>(need md (sz=elems.length) ob).bind fun ob1=>val o n ⟨opr x,[id]⟩ (.one (.c (.int .i64 ((len:Nat):Int)))) [] ob1
   | _=>none
  | .one (.ra id _ len sz)=>match st.h id with
   | some (.rarr _ _ elems)=>(need md (sz=elems.length) ob).bind fun ob1=>val o n ⟨opr x,[id]⟩ (.one (.c (.int .i64 ((len:Nat):Int)))) [] ob1
   | _=>none
  | _=>none
 | .str=>match v with
  | .one (.c (.str s))=>val o n ⟨opr x,[]⟩ (.one (.c (.int .i64 ((s.length:Nat):Int)))) [] ob
  | _=>none
 | .mp _ _=>match v with
  | .one (.mr id)=>match st.h id with
   | some (.map _ ents)=>(need md (iU ents) ob).bind fun ob1=>val o n ⟨opr x,[id]⟩ (.one (.c (.int .i64 ((ents.length:Nat):Int)))) [] ob1
   | _=>none
  | _=>none
 | _=>none
theorem aIj {x:Operand}{t:TypeId}(hw:tr.wf=true) (A:Tok P tr.flat) (ho:o.op=.call { callee:=.builtin .len,args:= #[x],argTypes:= #[t] }):Snd P n o st ob (aPe tr md o n st ob x t):=by
 refine Snd.bind fun i hi=>Snd.bind fun v y=>?_
 replace hi:=Tr.get_ok hw hi
 rw[bS] at y;split
 ·rename_i r;split
  ·exact Snd.val fun _ q c hc=>⟨hc,aGr A ho q c hi r y⟩
  ·exact Snd.val fun _ q c hc=>⟨hc,aGt A ho q c hi r y⟩
  ·exact Snd.val fun _ q c hc=>⟨hc,aCk A ho q c hi r y⟩
  ·split
   ·rename_i hh;exact Snd.bind fun B h1=>Snd.val fun _ q c hc=>⟨(aO h1 hc).1,aGu A ho q c hi r y hh (aO h1 hc).2⟩
   ·exact Snd.none
  ·split
   ·rename_i hh;exact Snd.bind fun B h1=>Snd.val fun _ q c hc=>⟨(aO h1 hc).1,aGs A ho q c hi r y hh (aO h1 hc).2⟩
   ·exact Snd.none
  ·exact Snd.none
 ·rename_i r;split
  ·exact Snd.val fun _ q c hc=>⟨hc,aCj A ho q c hi r y⟩
  ·exact Snd.none
 ·rename_i r;split
  ·split
   ·rename_i hh;exact Snd.bind fun B h1=>Snd.val fun _ q c hc=>⟨(aO h1 hc).1,aCl A ho q c hi r y hh (aO h1 hc).2⟩
   ·exact Snd.none
  ·exact Snd.none
 ·exact Snd.none
def aPq (md:Bool) (st:St) (es:Nat) (hn:Hn) (v:V) (ob:List Prop):Option (List Nat×List (List C)×List Prop):=match v with
 | .one (.hs id off len sz)=>match st.h id with
  | some (.arr _ es' elems _)=>bif Nat.beq es' es then(need md (sz=elems.length) ob).bind fun ob1=>(match hn with
   | .all=>some ([id],elems,(off=0∧len=sz)::ob1)
   | .c rows=>some ([id],rows,(rows=(elems.drop off).take len)::ob1)
   | _=>bif Nat.beq off 0&&Nat.beq len sz then some ([id],elems,ob1) else some ([id],(elems.drop off).take len,ob1)) else none
  | _=>none
 | .one (.c (.sl es' l))=>bif Nat.beq es' es then some ([],l,ob) else none
 | .one (.c (.sn es' l))=>bif Nat.beq es' es then some ([],l,ob) else none
 | .one (.c .nl)=>some ([],[],ob)
 | _=>none
theorem qE {es:Nat}{hn:Hn}{v:V}{ids:List Nat}{rows:List (List C)}{q:List Prop}(h:aPq md st es hn v ob=some (ids,rows,q)):eQ q→eQ ob∧Src st es ids v rows:=by
 intro hc;unfold aPq at h;split at h
 ·rename_i id off len sz;split at h
  ·rename_i te B elems fz hh;obtain⟨h1,c⟩:=cI h;clear h;have:=ω h1;subst this;rw[Ab] at c;obtain⟨E,h2,h⟩:=c;split at h
   ·cases h;obtain⟨⟨rfl,rfl⟩,hc⟩:=hc;obtain⟨g,k⟩:=aO h2 hc;exact⟨g,.all hh k⟩
   ·cases h;obtain⟨r,hc⟩:=hc;obtain⟨g,k⟩:=aO h2 hc;exact⟨g,.hs hh k r⟩
   ·cases hb:Nat.beq off 0&&Nat.beq len sz with
    | true=>
     rw[hb] at h;cases h;obtain⟨g,k⟩:=aO h2 hc;simp only[Aa] at hb;have y:=ω hb.1;have A:=ω hb.2;subst y A;exact⟨g,.all hh k⟩
    | false=>
     rw[hb] at h;cases h;obtain⟨g,k⟩:=aO h2 hc;exact⟨g,.hs hh k rfl⟩
  ·cases h
 ·obtain⟨h1,c⟩:=cI h;clear h;have:=ω h1;subst this;cases c;exact⟨hc,.sl⟩
 ·obtain⟨h1,c⟩:=cI h;clear h;have:=ω h1;subst this;cases c;exact⟨hc,.sn⟩
 ·cases h;exact⟨hc,.nl⟩
 ·cases h
def u7:List (List C)→Option (List Int)
 | []=>some []
 | [.int .u8 m]::rs=>(u7 rs).bind fun l=>some (m::l)
 | _=>none
theorem u6:∀{rows:List (List C)}{c:List Int},u7 rows=some c→rows=c.map fun m=>[C.int .u8 m]
 | [],c,h=>by simp[u7] at h;subst h;rfl
 | [.int .u8 m]::rs,c,h=>by
  simp only[u7,Ab] at h;obtain⟨l,h1,h2⟩:=h;cases h2;rw[u6 h1];rfl
def aJn (tr:Tr) (md:Bool) (o:Oper) (n:Nat) (st:St) (ob:List Prop) (hn:Hn) (src dst:TypeId) (x:Operand):Ans:=(tr.get src).bind fun i=>(tr.get dst).bind fun j=>(opO st x).bind fun v=>match j.k with
 | .int k'=>match i.k,v with
  | .int k,.one (.c (.int k2 m))=>bif decide (k2=k) then val o n ⟨opr x,[]⟩ (.one (.c (.int k' (k'.wrap m)))) [] ob else none
  | _,_=>none
 | .str=>match i.k with
  | .sl e=>(tr.get e).bind fun ei=>match ei.k with
   | .int .u8=>(aPq md st 1 hn v ob).bind fun(ids,rows,ob1)=>(u7 rows).bind fun ns=>(frc (ns.map fun m=>UInt8.ofNat m.toNat)).bind fun bs=>val o n ⟨opr x,ids⟩ (.one (.c (.str bs))) [] ob1
   | _=>none
  | _=>none
 | _=>none
theorem aE7 {hn:Hn}{src dst:TypeId}{x:Operand}(hw:tr.wf=true) (J:Tok P tr.flat) (ho:o.op=.convert src dst x):Snd P n o st ob (aJn tr md o n st ob hn src dst x):=by
 refine Snd.bind fun i hi=>Snd.bind fun j A=>Snd.bind fun v E=>?_
 replace hi:=Tr.get_ok hw hi
 replace A:=Tr.get_ok hw A
 rw[bS] at E;split
 ·rename_i k' c;split
  ·rename_i k k2 m q;refine Snd.cond fun U=>?_
   have:=κ U;subst this;exact Snd.val fun _ I r hc=>⟨hc,aKd J ho I r hi q A c E⟩
  ·exact Snd.none
 ·rename_i c;split
  ·rename_i e q;refine Snd.bind fun ei y=>?_
   replace y:=Tr.get_ok hw y
   split
   ·rename_i M;refine Snd.bind fun p hp=>?_
    obtain⟨ids,rows,Y⟩:=p;refine Snd.bind fun ns O=>Snd.bind fun bs B=>Snd.val fun _ I r hc=>?_
    rw[iD] at B;cases B;obtain⟨g1,g2⟩:=qE hp hc;exact⟨g1,aKe J ho I r hi q y M A c E g2 (u6 O)⟩
   ·exact Snd.none
  ·exact Snd.none
 ·exact Snd.none
def aRp (md:Bool) (a b:List (List C)):Option (List (List C)):=bif md then some (a++b) else frc (a++b)
theorem aK5 (md:Bool) (a b:List (List C)):aRp md a b=some (a++b):=by
 cases md
 ·exact iD _
 ·rfl
def zC (tr:Tr) (md:Bool) (o:Oper) (n:Nat) (st:St) (ob:List Prop) (hn:Hn) (id0:Nat) (x y:Operand) (t:TypeId):Ans:=(tr.get t).bind fun i=>match i.k with
 | .sl e=>(tr.get e).bind fun ei=>match ei with
  | ⟨_,s0,b0,_⟩=>bif Nat.ble 1 s0&&Nat.ble 1 b0 then(opO st x).bind fun v=>(opO st y).bind fun u=>(aPq md st s0 hn u ob).bind fun(ids,rows,ob1)=>(match v with
  | .one (.hs id off len sz)=>match st.h id with
   | some (.arr te es elems fz)=>bif Nat.beq te e&&Nat.beq es s0 then(need md (sz=elems.length) ob1).bind fun ob2=>(need md (off=0∧len=sz) ob2).bind fun ob3=>(need md ((elems.length+rows.length)*b0≤140737488355328) ob3).bind fun ob4=>
     (aRp md elems rows).bind fun l=>match fz with
     | 0=>val o n ⟨opr x++opr y,id::ids⟩ (.one (.hs id 0 (elems.length+rows.length) (elems.length+rows.length))) [(id,some (.arr e s0 l 0))] ob4
     | _+1=>val o n ⟨opr x++opr y,id::ids⟩ (.one (.hs id 0 (elems.length+rows.length) (elems.length+rows.length))) [(id,some (.arr e s0 l 1))] ob4
    else none
   | _=>none
  | .one (.c .nl)=>match st.h id0 with
   | none=>(need md (rows.length*b0≤140737488355328) ob1).bind fun ob2=>val o n ⟨opr x++opr y,id0::ids⟩ (.one (.hs id0 0 rows.length rows.length)) [(id0,some (.arr e s0 rows 0))] ob2
   | some _=>none
  | _=>none) else none
 | _=>none
theorem wN {hn:Hn}{E:Nat}{x y:Operand}{t:TypeId}(hw:tr.wf=true) (I:Tok P tr.flat) (ho:o.op=.call { callee:=.builtin .append,args:= #[x,y],argTypes:= #[t,t] }):Snd P n o st ob (zC tr md o n st ob hn E x y t):=by
 refine Snd.bind fun i hi=>?_
 replace hi:=Tr.get_ok hw hi
 split
 ·rename_i e J;refine Snd.bind fun Y c=>?_
  obtain⟨k0,s0,b0,z0⟩:=Y;refine Snd.cond fun hb=>Snd.bind fun v B=>Snd.bind fun u hu=>Snd.bind fun p hp=>?_
  replace c:=Tr.get_ok hw c
  obtain⟨ids,rows,ob1⟩:=p;simp only[Aa] at hb;rw[bS] at B hu;dsimp only;split
  ·rename_i id off len sz;split
   ·rename_i te es elems fz hh;refine Snd.cond fun r=>Snd.bind fun M h2=>Snd.bind fun ob3 O=>Snd.bind fun ob4 U=>Snd.bind fun l hl=>?_
    simp only[Aa] at r;have e1:=ω r.1;have e2:=ω r.2;subst e1 e2;rw[aK5] at hl;cases hl;split
    ·refine Snd.val fun _ A q hc=>?_
     obtain⟨g1,g2⟩:=aO U hc;obtain⟨g3,g4,g5⟩:=aO O g1;obtain⟨g6,g7⟩:=aO h2 g3;obtain⟨g8,g9⟩:=qE hp g6;subst g4 g5;exact⟨g8,xD I ho A q hi J c hb.1 hb.2 B hh g7 hu g9 g2⟩
    ·refine Snd.val fun _ A q hc=>?_
     obtain⟨g1,g2⟩:=aO U hc;obtain⟨g3,g4,g5⟩:=aO O g1;obtain⟨g6,g7⟩:=aO h2 g3;obtain⟨g8,g9⟩:=qE hp g6;subst g4 g5;exact⟨g8,xD I ho A q hi J c hb.1 hb.2 B hh g7 hu g9 g2⟩
   ·exact Snd.none
  ·split
   ·rename_i hid;refine Snd.bind fun M h2=>Snd.val fun _ A q hc=>?_
    obtain⟨g1,g2⟩:=aO h2 hc;obtain⟨g3,g4⟩:=qE hp g1;exact⟨g3,aCs E I ho A q hi J c hb.1 hb.2 B hid hu g4 g2⟩
   ·exact Snd.none
  ·exact Snd.none
 ·exact Snd.none
def uJ (tr:Tr) (md:Bool) (o:Oper) (n:Nat) (st:St) (ob:List Prop) (id0:Nat) (x y:Operand) (t:TypeId):Ans:=(tr.get t).bind fun i=>match i.k with
 | .sl e=>(tr.get e).bind fun ei=>match ei with
  | ⟨_,s0,b0,_⟩=>bif Nat.ble 1 s0&&Nat.ble 1 b0 then(opO st x).bind fun v=>(opO st y).bind fun u=>match u with
  | .one (.ra id2 off2 len2 sz2)=>match st.h id2 with
   | some (.rarr _ es2 rows)=>bif Nat.beq es2 s0&&(Nat.beq off2 0&&(Nat.beq len2 rows.length&&(Nat.beq sz2 rows.length&&Nat.blt 0 rows.length))) then(match v with
    | .one (.ra id off len sz)=>match st.h id with
     | some (.rarr te es elems)=>bif Nat.beq te e&&Nat.beq es s0 then(need md (sz=elems.length) ob).bind fun ob2=>(need md (off=0∧len=sz) ob2).bind fun ob3=>(need md ((elems.length+rows.length)*b0≤140737488355328) ob3).bind fun ob4=>
       val o n ⟨opr x++opr y,[id,id2]⟩ (.one (.ra id 0 (elems.length+rows.length) (elems.length+rows.length))) [(id,some (.rarr e s0 (elems++rows)))] ob4 else none
     | _=>none
    | .one (.c .nl)=>match st.h id0 with
     | none=>(need md (rows.length*b0≤140737488355328) ob).bind fun ob2=>val o n ⟨opr x++opr y,[id0,id2]⟩ (.one (.ra id0 0 rows.length rows.length)) [(id0,some (.rarr e s0 rows))] ob2
     | some _=>none
    | _=>none) else none
   | _=>none
  | _=>none
  else none
 | _=>none
theorem uI {B:Nat}{x y:Operand}{t:TypeId}(hw:tr.wf=true) (hT:Tok P tr.flat) (ho:o.op=.call { callee:=.builtin .append,args:= #[x,y],argTypes:= #[t,t] }):Snd P n o st ob (uJ tr md o n st ob B x y t):=by
 refine Snd.bind fun i hi=>?_
 replace hi:=Tr.get_ok hw hi
 split
 ·rename_i e hk;refine Snd.bind fun ei c=>?_
  obtain⟨k0,s0,b0,z0⟩:=ei;refine Snd.cond fun hb=>Snd.bind fun v J=>Snd.bind fun u hu=>?_
  replace c:=Tr.get_ok hw c
  simp only[Aa] at hb;rw[bS] at J hu;split
  ·rename_i id2 off2 len2 sz2;split
   ·rename_i te2 es2 rows E;refine Snd.cond fun I=>?_
    simp only[Aa] at I;obtain⟨M,O,U,Y,A⟩:=I;have M:=ω M;have O:=ω O;have U:=ω U;have Y:=ω Y;have A:=eI A;subst M O U Y;split
    ·rename_i id off len sz;split
     ·rename_i te es elems hh;refine Snd.cond fun q=>Snd.bind fun ob2 h2=>Snd.bind fun ob3 h3=>Snd.bind fun ob4 h4=>Snd.val fun _ hd r hc=>?_
      simp only[Aa] at q;have e1:=ω q.1;have e2:=ω q.2;subst e1;rw[e2] at hh;obtain⟨g1,g2⟩:=aO h4 hc;obtain⟨g3,g4,g5⟩:=aO h3 g1;obtain⟨g6,g7⟩:=aO h2 g3;subst g4 g5;exact⟨g6,aCr hT ho hd r hi hk c hb.1 hb.2 J hh g7 hu E A g2⟩
     ·exact Snd.none
    ·split
     ·rename_i hid;refine Snd.bind fun ob2 h2=>Snd.val fun _ hd r hc=>?_
      obtain⟨g1,g2⟩:=aO h2 hc;exact⟨g1,aAc B hT ho hd r hi hk c hb.1 hb.2 J hid hu E A g2⟩
     ·exact Snd.none
    ·exact Snd.none
   ·exact Snd.none
  ·exact Snd.none
 ·exact Snd.none
def aP6 (P:Program) (f:FuncId):Bool:=match P.funcs[f]? with
 | some fn => !(fn.name == "runtime.NumGoroutine") && fn.body.isSome
 | none=>false
theorem aA4 {P:Program}{f:FuncId}(h:aP6 P f=true):eH P f:=by
 unfold aP6 at h;split at h
 ·rename_i fn c;simp only[Aa,Bh] at h;refine⟨fn,c,h.1,?_⟩;cases hb:fn.body with
  | none=>rw[hb] at h;cases h.2
  | some _=>rfl
 ·cases h
def aIq (P:Program) (f:FuncId) (args:List V) (res:V):Prop:=aP6 P f=true∧b9 P f args [] res []
def nN (st:St):List Nat→List R→List Prop→Option (List Nat×List C×List Prop)
 | _,[],ob=>some ([],[],ob)
 | ty,r::rs,ob=>match r with
  | .c x=>(aBi ty [x]).bind fun y=>match y with
   | [y]=>(nN st ty.tail rs ob).bind fun(ids,cs,ob1)=>some (ids,y::cs,ob1)
   | _=>none
  | .hs id 0 len sz=>match st.h id with
   | some (.arr _ es elems 2)=>(nN st ty.tail rs ob).bind fun(ids,cs,ob1)=>some (id::ids,.sl es elems::cs,(sz=elems.length∧len=elems.length)::ob1)
   | _=>none
  | _=>none
theorem kF {st:St}:∀{rs:List R}{ty:List Nat}{ob q:List Prop}{ids:List Nat}{cs:List C},nN st ty rs ob=some (ids,cs,q)→eQ q→eQ ob∧PureL st.h ids rs cs
 | [],ty,ob,q,ids,cs,h,hc=>by
  cases ty<;>(simp only[nN] at h;cases h;exact⟨hc,.nil⟩)
 | r::rs,ty,ob,q,ids,cs,h,hc=>by
  rw[nN.eq_def] at h;dsimp only at h;split at h
  ·rename_i x;rw[Ab] at h;obtain⟨y,hy,h⟩:=h;split at h
   ·rename_i I;rw[Ab] at h;obtain⟨⟨A,B,E⟩,h1,h2⟩:=h;cases h2;obtain⟨g1,g2⟩:=kF h1 hc;rw[nT] at hy;have hp:=jA (h:=st.h) ty [x];rw[Option.some.inj hy] at hp;cases hp with
    | c hx _=>exact⟨g1,.c hx g2⟩
    | any _=>exact⟨g1,.any g2⟩
   ·cases h
  ·rename_i id len sz;split at h
   ·rename_i te es elems hh;rw[Ab] at h;obtain⟨⟨A,B,E⟩,h1,h2⟩:=h;cases h2;obtain⟨g1,g2⟩:=kF h1 hc.2;exact⟨g1,.hs hh hc.1.1 (by rw[hc.1.2,B1,Az]) g2⟩
   ·cases h
  ·cases h
def aK2 (tr:Tr) (st:St) (v:V) (t:TypeId) (ob:List Prop):Option (List Nat×V×List Prop):=match v with
 | .one r=>(nN st (kZ tr 300 [t]) [r] ob).bind fun(ids,cs,ob1)=>match cs with
  | [c]=>some (ids,.one (.c c),ob1)
  | _=>none
 | .pa l=>(aBi (kZ tr 300 [t]) l).bind fun l'=>some ([],.pa l',ob)
 | .ma rs=>(nN st (kZ tr 300 [t]) rs ob).bind fun(ids,cs,ob1)=>some (ids,.pa cs,ob1)
 | _=>none
theorem aHk {tr:Tr}{st:St}{v v':V}{t:TypeId}{ob c:List Prop}{ids:List Nat}(h:aK2 tr st v t ob=some (ids,v',c)) (hc:eQ c):(eQ ob∧Conv st.h ids v v')∧v'.refs=[]:=by
 unfold aK2 at h;split at h
 ·rw[Ab] at h;obtain⟨⟨q,r,y⟩,h1,h2⟩:=h;dsimp only at h2;split at h2
  ·cases h2;obtain⟨g1,g2⟩:=kF h1 hc;exact⟨⟨g1,.one g2⟩,by simp[V.refs,R.refs]⟩
  ·cases h2
 ·rw[Ab] at h;obtain⟨A,h1,h2⟩:=h;cases h2;rw[nT] at h1;cases h1;exact⟨⟨hc,.pa (jA _ _)⟩,by simp[V.refs]⟩
 ·rw[Ab] at h;obtain⟨⟨q,r,y⟩,h1,h2⟩:=h;cases h2;obtain⟨g1,g2⟩:=kF h1 hc;exact⟨⟨g1,.agg g2⟩,by simp[V.refs]⟩
 ·cases h
def aBe (tr:Tr) (st:St):List Operand→List TypeId→List Prop→Option (List Nat×List V×List Prop)
 | [],_,ob=>some ([],[],ob)
 | x::xs,t::ts,ob=>(opO st x).bind fun v=>(aK2 tr st v t ob).bind fun(ids1,v',ob1)=>(aBe tr st xs ts ob1).bind fun(ids2,vs,ob2)=>some (ids1++ids2,v'::vs,ob2)
 | _::_,[],_=>none
theorem zF {tr:Tr}{st:St}:∀{xs:List Operand}{ts:List TypeId}{ob c:List Prop}{ids:List Nat}{l:List V},aBe tr st xs ts ob=some (ids,l,c)→eQ c→(eQ ob∧ArgsV st ids xs l)∧V.refsL l=[]
 | [],ts,ob,c,ids,l,h,hc=>by
  cases ts<;>(simp only[aBe] at h;cases h;exact⟨⟨hc,.nil⟩,by simp[V.refsL]⟩)
 | x::xs,[],ob,c,ids,l,h,hc=>by simp[aBe] at h
 | x::xs,t::ts,ob,c,ids,l,h,hc=>by
  simp only[aBe,bS,Ab] at h;obtain⟨v,q,⟨r,v',J⟩,h1,⟨y,vs,M⟩,h2,A⟩:=h;cases A;obtain⟨⟨g1,g2⟩,g3⟩:=zF h2 hc;obtain⟨⟨B,E⟩,I⟩:=aHk h1 g1;exact⟨⟨B,.cons q E g2⟩,by simp[V.refsL,I,g3]⟩
def aJj (P:Program) (tr:Tr) (o:Oper) (n:Nat) (st:St) (ob:List Prop) (res:V) (f:FuncId) (xs:Array Operand) (ts:Array TypeId):Ans:=(aBe tr st xs.toList ts.toList ob).bind fun(ids,args,ob1)=>val o n ⟨bO xs.toList,ids⟩ res [] (aIq P f args res::ob1)
theorem aEy {res:V}{f:FuncId}{xs:Array Operand}{ts:Array TypeId}(ho:o.op=.call { callee:=.value (.func f),args:=xs,argTypes:=ts }):Snd P n o st ob (aJj P tr o n st ob res f xs ts):=by
 refine Snd.bind fun p ha=>?_
 obtain⟨ids,args,r⟩:=p;refine Snd.val fun d q c hc=>?_
 obtain⟨⟨g1,g2⟩,g3⟩:=zF ha hc.2;refine⟨g1,?_⟩;have:=aCq [] [] (aA4 hc.1.1) ho q c hc.1.2 g2 trivial trivial (by simp[dP,g3,keys,eK,subset]);simpa [outs,keys] using this
def aE9 (P:Program) (tr:Tr) (md:Bool) (o:Oper) (n:Nat) (st:St) (ob:List Prop) (hn:Hn) (id0:Nat) (c:Call):Ans:=match c.callee with
 | .builtin b=>match b,c.args.toList,c.argTypes.toList with
  | .len,[x],[t]=>aPe tr md o n st ob x t
  | .append,[x,y],[t,t']=>bif Nat.beq t t' then(match opO st y with | some (.one (.ra _ _ _ _))=>uJ tr md o n st ob id0 x y t | _=>zC tr md o n st ob hn id0 x y t) else none
  | .min,[x,y],[_,_]=>(opO st x).bind fun v=>(opO st y).bind fun u=>match v,u with
   | .one (.c (.int k a)),.one (.c (.int k' b))=>bif decide (k=k') then val o n ⟨opr x++opr y,[]⟩ (.one (.c (.int k (if b<a then b else a)))) [] ob else none
   | _,_=>none
  | .max,[x,y],[_,_]=>(opO st x).bind fun v=>(opO st y).bind fun u=>match v,u with
   | .one (.c (.int k a)),.one (.c (.int k' b))=>bif decide (k=k') then val o n ⟨opr x++opr y,[]⟩ (.one (.c (.int k (if b>a then b else a)))) [] ob else none
   | _,_=>none
  | _,_,_=>none
 | .value (.func f)=>match hn with
  | .pc res=>aJj P tr o n st ob res f c.args c.argTypes
  | _=>none
 | _=>none
theorem arr1 {α:Type}{a:Array α}{x:α}(h:a.toList=[x]):a= #[x]:=by cases a;simp at h;simp[h]
theorem aMq {α:Type}{a:Array α}{x y:α}(h:a.toList=[x,y]):a= #[x,y]:=by cases a;simp at h;simp[h]
theorem aE8 {hn:Hn}{I:Nat}{c:Call}(hw:tr.wf=true) (A:Tok P tr.flat) (ho:o.op=.call c):Snd P n o st ob (aE9 P tr md o n st ob hn I c):=by
 obtain⟨M,args,O⟩:=c;unfold aE9;dsimp only;split
 ·rename_i b;split
  ·rename_i x t h1 h2;have:=arr1 h1;have:=arr1 h2
   subst_vars
   exact aIj hw A ho
  ·rename_i x y t J h1 h2;have:=aMq h1;have:=aMq h2
   subst_vars
   refine Snd.cond fun ht=>?_
   have:=ω ht;subst this;split
   ·exact uI hw A ho
   ·exact wN hw A ho
  ·rename_i x y t J h1 h2;have:=aMq h1;have:=aMq h2
   subst_vars
   refine Snd.bind fun v q=>Snd.bind fun u hu=>?_
   rw[bS] at q hu;split
   ·refine Snd.cond fun B=>?_
    have:=κ B;subst this;exact Snd.val fun _ E r hc=>⟨hc,aQq ho E r q hu rfl⟩
   ·exact Snd.none
  ·rename_i x y t J h1 h2;have:=aMq h1;have:=aMq h2
   subst_vars
   refine Snd.bind fun v q=>Snd.bind fun u hu=>?_
   rw[bS] at q hu;split
   ·refine Snd.cond fun B=>?_
    have:=κ B;subst this;exact Snd.val fun _ E r hc=>⟨hc,aQr ho E r q hu rfl⟩
   ·exact Snd.none
  ·exact Snd.none
 ·split
  ·exact aEy ho
  ·exact Snd.none
 ·exact Snd.none
def idO (hn:Hn) (d:Option Nat):Option Nat:=match hn with
 | .id n=>some n
 | _=>match d with
  | some d=>some d
  | none=>none
def aIg (P:Program) (tr:Tr) (md nat:Bool) (n:Nat) (st:St) (hn:Hn) (o:Oper) (ob:List Prop):Ans:=match o.op with
 | .move x=>zA o n st ob x
 | .assign x=>zA o n st ob x
 | .pick c x y=>aJk o n st ob hn c x y
 | .alloc t=>(idO hn o.dst).bind fun id=>aFb tr o n st ob id t
 | .box t x=>(idO hn o.dst).bind fun id=>aPf o n st ob id t x
 | .build t ps=>aFa tr o n st ob t ps
 | .buildSlice t len ps=>(idO hn o.dst).bind fun id=>aEx tr o n st ob hn id t len ps
 | .load t x=>aJl tr md o n st ob hn t x
 | .store t x y=>aEw tr md o st ob hn t x y
 | .nilCheck x=>aPd md o n st ob x
 | .slice t x l h m=>aLz tr md o n st ob t x l h m
 | .index t x y=>aE3 tr o n st ob hn t x y
 | .convert src dst x=>aJn tr md o n st ob hn src dst x
 | .binOp op tx x y _=>aPg tr md nat o n st ob op tx x y
 | .unOp op _ x=>aRq md o n st ob op x
 | .makeFunc f a b=>aE5 o n st ob f a b
 | .makeMap t r=>(idO hn o.dst).bind fun id=>aLx tr o n st ob id t r
 | .fieldAddr t x f=>oG tr md o n st ob t x f
 | .field t x f=>aE6 tr o n st ob t x f
 | .indexAddr t x y=>oF tr md o n st ob hn t x y
 | .lookup t x y ok=>rM tr md o n st ob hn t x y ok
 | .mapUpdate t x y z=>hJ tr md o st ob t x y z
 | .insert t x y z=>hJ tr md o st ob t x y z
 | .extract x i=>uH o n st ob x i
 | .call c=>(idO hn o.dst).bind fun id=>aE9 P tr md o n st ob hn id c
 | _=>none
theorem yZ {hn:Hn}(hw:tr.wf=true) (c:Tok P tr.flat):Snd P n o st ob (aIg P tr md nat n st hn o ob):=by
 unfold aIg;split
 ·rename_i ho;exact aE1 ho
 ·rename_i ho;exact wM ho
 ·rename_i ho;exact aEz ho
 ·rename_i ho;exact Snd.bind fun _ _=>aBc hw c ho
 ·rename_i ho;exact Snd.bind fun _ _=>aIm ho
 ·rename_i ho;exact aBb hw c ho
 ·rename_i ho;exact Snd.bind fun _ _=>aA7 hw c ho
 ·rename_i ho;exact aE2 hw c ho
 ·rename_i ho;exact aA6 hw c ho
 ·rename_i ho;exact aIh ho
 ·rename_i ho;exact aIl hw c ho
 ·rename_i ho;exact aA8 hw c ho
 ·rename_i ho;exact aE7 hw c ho
 ·rename_i ho;exact aIn hw c ho
 ·rename_i ho;exact aLw ho
 ·rename_i ho;exact aE4 ho
 ·rename_i ho;exact Snd.bind fun _ _=>aIi ho
 ·rename_i ho;exact oW hw c ho
 ·rename_i ho;exact aBa hw c ho
 ·rename_i ho;exact oU hw c ho
 ·rename_i ho;exact wJ hw c ho
 ·rename_i ho;exact oT hw c ho
 ·rename_i ho;exact wK hw c ho
 ·rename_i ho;exact uG ho
 ·rename_i ho;exact Snd.bind fun _ _=>aE8 hw c ho
 ·exact Snd.none
theorem Step.freeze {rd:Rd}{c:Option (Nat×Option V)}{id te es z:Nat}{l:List (List C)}(h:Step P n o st rd ⟨c,[(id,some (.arr te es l z))]⟩):Step P n o st rd ⟨c,[(id,some (.arr te es l 2))]⟩:=by
 intro st' ha G S μ a w K Q hs q;refine h st' ha G S μ a w K Q hs fun S1 E r y h1=>?_
 have hh:(Eff.apply ⟨c,[(id,some (.arr te es l z))]⟩ st').h id=some (.arr te es l z):=by
  show dX st'.h [(id,some (.arr te es l z))] id=_;rw[bU,aH]
 obtain⟨S2,A,h2⟩:=h1.freeze hh;refine q S2 A r y ?_;have B:upd (Eff.apply ⟨c,[(id,some (.arr te es l z))]⟩ st').h id (some (.arr te es l 2))=(Eff.apply ⟨c,[(id,some (.arr te es l 2))]⟩ st').h:=by
  show upd (dX st'.h [(id,some (.arr te es l z))]) id _=dX st'.h [(id,some (.arr te es l 2))];rw[bU,bU,lP]
 rw[B] at h2;exact h2
def aRe:Ans→Ans
 | some (rd,⟨dv,[(id,some (.arr te es l _))]⟩,ob')=>some (rd,⟨dv,[(id,some (.arr te es l 2))]⟩,ob')
 | _=>none
theorem aLy {r:Ans}(h:Snd P n o st ob r):Snd P n o st ob (aRe r):=by
 intro rd f c e hc;unfold aRe at e;split at e
 ·cases e;obtain⟨g1,g2⟩:=h _ _ _ rfl hc;exact⟨g1,g2.freeze⟩
 ·cases e
def aP8 (P:Program) (tr:Tr) (md nat:Bool) (n:Nat) (st:St) (hn:Hn) (o:Oper) (ob:List Prop):Ans:=match hn with
 | .fz=>aRe (aIg P tr md nat n st .no o ob)
 | hn=>aIg P tr md nat n st hn o ob
theorem aE0 {hn:Hn}(hw:tr.wf=true) (c:Tok P tr.flat):Snd P n o st ob (aP8 P tr md nat n st hn o ob):=by
 unfold aP8;split
 ·exact aLy (yZ hw c)
 ·exact yZ hw c
def w9:List Oper→Nat→Option Nat
 | [],_=>none
 | o::os,i=>bif Nat.beq i 0 then o.dst else w9 os (i-1)
theorem yB:∀(os:List Oper) (i:Nat),w9 os i=(os[i]?).bind (·.dst)
 | [],i=>by simp[w9]
 | o::os,0=>by simp[w9]
 | o::os,i+1=>by
  have:Nat.beq (i+1) 0=false:=rfl;simp[w9,this,yB os i]
def axG (P:Program) (tr:Tr) (md nat:Bool) (n:Nat) (all:List Oper) (hs:List (Nat×Hn)) (k:Nat) (o:Oper) (st:St) (ob:List Prop):Ans:=match o.guard with
 | none=>aP8 P tr md nat n st (aG9 hs k) o ob
 | some (j,want)=>(w9 all j).bind fun t=>(st.e t).bind fun v=>match v with
  | .one (.c (.bool b))=>match aF7 (match aG9 hs j with | .bv w=>.bv w | _=>.no) b ob with
   | (w,ob1)=>bif w==want then(aP8 P tr md nat n st (aG9 hs k) o ob1).bind fun(rd,f,ob2)=>some (⟨t::rd.e,rd.h⟩,f,ob2)
    else match o.dst with
     | some d=>bif Nat.blt d n then some (⟨[t],[]⟩,⟨some (d,some (.tup [])),[]⟩,ob1) else none
     | none=>none
  | .tup []=>match o.dst with
   | some d=>bif Nat.blt d n then some (⟨[t],[]⟩,⟨some (d,some (.tup [])),[]⟩,ob) else none
   | none=>none
  | _=>none
theorem aJm {ops:Array Oper}{hs:List (Nat×Hn)}{k:Nat}{rd:Rd}{f:Eff}{r:List Prop}(hw:tr.wf=true) (I:Tok P tr.flat) (ho:ops[k]?=some o) (h:axG P tr md nat n ops.toList hs k o st ob=some (rd,f,r)):eQ r→eQ ob∧GStep P n ops k st rd f:=by
 intro hc;unfold axG at h;split at h
 ·rename_i q;obtain⟨h1,h2⟩:=aE0 hw I _ _ _ h hc;exact⟨h1,GStep.plain ho q h2⟩
 ·rename_i j want q;rw[Ab] at h;obtain⟨t,ht,h⟩:=h;rw[Ab] at h;obtain⟨v,A,h⟩:=h;have B:(ops[j]?).bind (·.dst)=some t:=by
   rw[yB] at ht;simpa using ht
  split at h
  ·rename_i b;split at h;rename_i w J y;cases c:w==want with
   | true=>
    rw[c] at h;simp only[Bp] at h;rw[Ab] at h;obtain⟨⟨M,f1,O⟩,h1,h2⟩:=h;cases h2;obtain⟨g1,g2⟩:=aE0 hw I _ _ _ h1 hc;obtain⟨g3,g4⟩:=n1 y g1;exact⟨g3,GStep.yes ho q B A (g4.trans (eq_of_beq c)) g2⟩
   | false=>
    rw[c] at h;simp only[Bg] at h;split at h
    ·rename_i d E;obtain⟨h1,h2⟩:=cI h;cases h2;obtain⟨g3,g4⟩:=n1 y hc;refine⟨g3,GStep.no ho q E (eI h1) B A g4 ?_⟩;cases w<;>cases want<;>first | rfl | (cases c)
    ·cases h
  ·split at h
   ·rename_i d E;obtain⟨h1,h2⟩:=cI h;cases h2;exact⟨hc,GStep.un ho q E (eI h1) B A⟩
   ·cases h
  ·cases h
def pW (P:Program) (tr:Tr) (md nat:Bool) (n:Nat) (all:List Oper) (hs:List (Nat×Hn)):Nat→Nat→List Oper→(Nat→Option V)→bW→List Nat→REs→List Prop→Option (St×Nat×REs×List Prop)
 | 0,k,_,e,h,d,pre,ob=>some (⟨e,h,d⟩,k,pre,ob)
 | _+1,k,[],e,h,d,pre,ob=>some (⟨e,h,d⟩,k,pre,ob)
 | m+1,k,o::os,e,h,d,pre,ob=>(axG P tr md nat n all hs k o ⟨e,h,d⟩ ob).bind fun(rd,f,ob1)=>match f with
  | ⟨some (t,v),[]⟩=>pW P tr md nat n all hs m (k+1) os (upd e t v) h d ((rd,⟨some (t,v),[]⟩)::pre) ob1
  | ⟨some (t,v),[(id,x)]⟩=>pW P tr md nat n all hs m (k+1) os (upd e t v) (upd h id x) d ((rd,⟨some (t,v),[(id,x)]⟩)::pre) ob1
  | ⟨none,[(id,x)]⟩=>pW P tr md nat n all hs m (k+1) os e (upd h id x) d ((rd,⟨none,[(id,x)]⟩)::pre) ob1
  | _=>none
theorem wL {ops:Array Oper}{hs:List (Nat×Hn)}{draw:Bool}(hw:tr.wf=true) (M:Tok P tr.flat):∀(m k:Nat) (os:List Oper) (e:Nat→Option V) (h:bW) (d:List Nat) (pre:REs) (ob:List Prop) (st':St) (k':Nat) (pre':REs) (r:List Prop),os=ops.toList.drop k→
  pW P tr md nat n ops.toList hs m k os e h d pre ob=some (st',k',pre',r)→eQ r→eQ ob∧∀Q,fX QP P n ops draw k' st' pre' Q→fX QP P n ops draw k ⟨e,h,d⟩ pre Q:=by
 intro m
 induction m with
 | zero=>
  intro k os e h d pre ob st' k' pre' r _ c hc;simp only[pW] at c;cases c;exact⟨hc,fun Q hq=>hq⟩
 | succ m B=>
  intro k os e h d pre ob st' k' pre' r A c hc;cases os with
  | nil=>
   simp only[pW] at c;cases c;exact⟨hc,fun Q hq=>hq⟩
  | cons o os=>
   have ho:ops[k]?=some o:=by
    have:(ops.toList.drop k)[0]?=some o:=by rw[←A];rfl
    simpa using this
   have q:os=ops.toList.drop (k+1):=by
    have:os=(ops.toList.drop k).tail:=by rw[←A];rfl
    rw[this,List.tail_drop]
   simp only[pW,Ab] at c;obtain⟨⟨rd,f,E⟩,h1,h2⟩:=c;have key:∀{y:St},eQ E→y=f.apply ⟨e,h,d⟩→(∀Q,fX QP P n ops draw k' st' pre' Q→fX QP P n ops draw (k+1) y ((rd,f)::pre) Q)→eQ ob∧∀Q,fX QP P n ops draw k' st' pre' Q→fX QP P n ops draw k ⟨e,h,d⟩ pre Q:=by
    intro y I J O;obtain⟨g1,g2⟩:=aJm hw M ho h1 I;subst J;exact⟨g1,fun Q hq=>k_ g2 (O Q hq)⟩
   split at h2
   ·rename_i heq;have heq:f=_:=heq;subst heq;obtain⟨g1,g2⟩:=B _ _ _ _ _ _ _ _ _ _ _ q h2 hc;exact key g1 (by simp only[Eff.apply,wZ]) g2
   ·rename_i heq;have heq:f=_:=heq;subst heq;obtain⟨g1,g2⟩:=B _ _ _ _ _ _ _ _ _ _ _ q h2 hc;exact key g1 (by simp only[Eff.apply,bU]) g2
   ·rename_i heq;have heq:f=_:=heq;subst heq;obtain⟨g1,g2⟩:=B _ _ _ _ _ _ _ _ _ _ _ q h2 hc;exact key g1 (by simp only[Eff.apply,bU]) g2
   ·cases h2
end
section
variable {QP:Value→Prop}{ro:Option Nat}{P:Program}{n:Nat}{ops:Array Oper}{draw:Bool}{k k':Nat}{st st':St}{pre pre':REs}{Q:St→Prop}{tr:Tr}{ob:List Prop}
theorem ax_ {hs:List (Nat×Hn)}{md nat:Bool}(m:Nat) (hw:tr.wf=true) (c:Tok P tr.flat) (h:pW P tr md nat n ops.toList hs m k (ops.toList.drop k) st.e st.h st.d pre []=some (st',k',pre',ob)) (hc:eQ ob) (q:fX QP P n ops draw k' st' pre' Q):fX QP P n ops draw k st pre Q:=
 (wL hw c m k _ st.e st.h st.d pre [] st' k' pre' ob rfl h hc).2 Q q
theorem aJo {hs:List (Nat×Hn)}{md nat:Bool}{kf:List Nat}{id:Nat}{Q:Exit→St→Prop}(hm:P.follows .mixedOrders=true) (hw:tr.wf=true) (c:Tok P tr.flat) (h:pW P tr md nat n ops.toList hs 1000 0 ops.toList st.e st.h st.d [] []=some (st',k',pre',ob)) (hc:eQ ob)
  (h1:Nat.beq k' ops.size=true) (h2:(!draw || (c7 (preds ops) pre'.reverse []&&cS ops))=true) (hq:Q .normal st'):AWp ro P n kf (.region id ops draw) st Q:=
 aC hm ((wL hw c 1000 0 _ st.e st.h st.d [] [] st' k' pre' ob rfl h hc).2 _ (z_ h1 h2 hq))
end
theorem hs_all {h:bW}{id te es n:Nat}{l q:List (List C)}{fz:Nat}(h1:h id=some (.arr te es l fz)) (r:fz=2) (h2:n=l.length) (y:l=q):Conv h [id] (.one (.hs id 0 n n)) (.one (.c (.sl es q))):=by
 subst h2;subst y;subst r;exact .one (.hs h1 rfl (by rw[B1,Az]) .nil)
section
variable {QP:Value→Prop}{P:Program}{n:Nat}{ops:Array Oper}{draw:Bool}{k d:Nat}{st:St}{pre:REs}{Q:St→Prop}{o:Oper}{f:FuncId}{xs:Array Operand}{ts:Array TypeId}{ids:List Nat}{args:List V}{res:V}{hin hout:List (Nat×AObj)}
theorem kc (B:b9 P f args hin res hout)
  (E:fX QP P n ops draw (k+1) ⟨upd st.e d (some res),dX st.h (outs hout),st.d⟩ ((⟨bO xs.toList,ids++keys hin++keys hout⟩,⟨some (d,some res),outs hout⟩)::pre) Q)
  (hb:eH P f:=by exact aA4 (by kernel_rfl)) (ho:ops[k]?=some o:=by rfl) (I:o.guard=none:=by rfl) (y:o.op=.call { callee:=.value (.func f),args:=xs,argTypes:=ts }:=by rfl) (J:o.dst=some d:=by rfl) (A:Nat.blt d n=true:=by rfl)
  (ha:ArgsV st ids xs.toList args:=by repeat (first | exact .nil | (apply Go.AM.ArgsV.cons rfl;(first | exact .refl | exact .one (.c .nl .nil) | exact .one (.c .sn .nil) | exact .one (.hs rfl (by first | rfl | simp) (by first | rfl | (simp;done) | (simp[Go.AM.take_map];done) | exact Go.AM.take_map.symm) .nil) | exact Go.AM.hs_all rfl rfl (by first | rfl | assumption | (simp;done) | (simp;omega)) (by first | rfl | assumption | (simp;done)) | ((first | apply Go.AM.Conv.pa | apply Go.AM.Conv.agg);repeat (first | exact .nil | apply Go.AM.PureL.c .refl | apply Go.AM.PureL.c .nl | apply Go.AM.PureL.c .sn | (apply Go.AM.PureL.hs;rfl;(first | rfl | simp);(first | rfl | (simp;done) | (simp[Go.AM.take_map];done) | exact Go.AM.take_map.symm))))))))
  (r:eN (fun p=>st.h p.1=some p.2) hin:=by repeat (first | exact trivial | refine⟨rfl,?_⟩)) (q:eN (fun p=>p.1∈keys hin∨st.h p.1=none) hout:=by repeat (first | exact trivial | refine⟨.inr rfl,?_⟩ | refine⟨.inl (by decide),?_⟩ | refine⟨.inl (by repeat (first | exact List.Mem.head _ | apply List.Mem.tail)),?_⟩)) (hok:dP args hin=true:=by rfl):fX QP P n ops draw k st pre Q:=
 k_ (g_ ho I (aCq hin hout hb y J (eI A) B ha r q hok)) E
theorem kv {x:Operand}{caps:List R}(B:b9 P f (args++caps.map V.one) hin res hout)
  (E:fX QP P n ops draw (k+1) ⟨upd st.e d (some res),dX st.h (outs hout),st.d⟩ ((⟨opr x++bO xs.toList,ids++keys hin++keys hout⟩,⟨some (d,some res),outs hout⟩)::pre) Q)
  (hb:eH P f:=by exact aA4 (by kernel_rfl)) (ho:ops[k]?=some o:=by rfl) (I:o.guard=none:=by rfl) (y:o.op=.call { callee:=.value x,args:=xs,argTypes:=ts }:=by rfl) (J:o.dst=some d:=by rfl) (A:Nat.blt d n=true:=by rfl) (hx:opv st x=some (.one (.clo f caps)):=by rfl)
  (ha:ArgsV st ids xs.toList args:=by repeat (first | exact .nil | (apply Go.AM.ArgsV.cons rfl;(first | exact .refl | exact .one (.c .nl .nil) | exact .one (.c .sn .nil) | exact .one (.hs rfl (by first | rfl | simp) (by first | rfl | (simp;done) | (simp[Go.AM.take_map];done) | exact Go.AM.take_map.symm) .nil) | exact Go.AM.hs_all rfl rfl (by first | rfl | assumption | (simp;done) | (simp;omega)) (by first | rfl | assumption | (simp;done)) | ((first | apply Go.AM.Conv.pa | apply Go.AM.Conv.agg);repeat (first | exact .nil | apply Go.AM.PureL.c .refl | apply Go.AM.PureL.c .nl | apply Go.AM.PureL.c .sn | (apply Go.AM.PureL.hs;rfl;(first | rfl | simp);(first | rfl | (simp;done) | (simp[Go.AM.take_map];done) | exact Go.AM.take_map.symm))))))))
  (r:eN (fun p=>st.h p.1=some p.2) hin:=by repeat (first | exact trivial | refine⟨rfl,?_⟩)) (q:eN (fun p=>p.1∈keys hin∨st.h p.1=none) hout:=by repeat (first | exact trivial | refine⟨.inr rfl,?_⟩ | refine⟨.inl (by decide),?_⟩ | refine⟨.inl (by repeat (first | exact List.Mem.head _ | apply List.Mem.tail)),?_⟩)) (hok:dP (args++caps.map V.one) hin=true:=by rfl):fX QP P n ops draw k st pre Q:=
 k_ (g_ ho I (aCo hin hout hb y J (eI A) hx B ha r q hok)) E
end
inductive Res where
 | leaf (st:St) (k:Nat) (pre:REs) (ob:List Prop)
 | fork (b:Bool) (x y:Res)
def Res.obs:Res→Prop
 | .leaf _ _ _ ob=>eQ ob
 | .fork b x y=>(b=true→x.obs)∧(b=false→y.obs)
def Res.good (ops:Array Oper) (draw:Bool):Res→Bool
 | .leaf _ k pre _=>Nat.beq k ops.size&&(!draw || (c7 (preds ops) pre.reverse []&&cS ops))
 | .fork _ x y=>x.good ops draw&&y.good ops draw
def Res.all (Q:St→Prop):Res→Prop
 | .leaf st _ _ _=>Q st
 | .fork b x y=>(b=true→x.all Q)∧(b=false→y.all Q)
def aKl:Nat→List Nat→Bool
 | _,[]=>false
 | i,x::l=>bif Nat.beq i x then true else aKl i l
theorem xV:∀{i:Nat}{l:List Nat},aKl i l=true↔i∈l
 | i,[]=>by simp[aKl]
 | i,x::l=>by
  simp only[aKl];cases h:Nat.beq i x with
  | true=>have:=ω h;simp[this]
  | false=>
   have:i≠x:=fun e=>by subst e;simp at h
   simp[this,xV]
def aN9 (all:List Oper) (dec:List Nat) (o:Oper):Option Nat:=
 match (match o.guard with | some (j,_)=>(w9 all j).bind fun t=>bif aKl t dec then none else some t | none=>none) with
 | some t=>some t
 | none=>match o.op with
  | .pick (.tmp t) _ _=>bif aKl t dec then none else some t
  | _=>none
def lK (P:Program) (tr:Tr) (md nat:Bool) (n:Nat) (all:List Oper) (hs:List (Nat×Hn)) (W:List Nat):Nat→Nat→List Oper→(Nat→Option V)→bW→List Nat→List Nat→REs→List Prop→Option Res
 | 0,_,_,_,_,_,_,_,_=>none
 | _+1,k,[],e,h,d,_,pre,ob=>some (.leaf ⟨e,h,d⟩ k pre ob)
 | m+1,k,o::os,e,h,d,dec,pre,ob=>match aN9 all dec o with
  | some t=>match e t with
   | some (.one (.c (.bool b)))=>(lK P tr md nat n all hs W m k (o::os) (upd e t (some (.one (.c (.bool true))))) h d (t::dec) pre ob).bind fun x=>
     (lK P tr md nat n all hs W m k (o::os) (upd e t (some (.one (.c (.bool false))))) h d (t::dec) pre ob).bind fun y=>some (.fork b x y)
   | _=>lK P tr md nat n all hs W m k (o::os) e h d (t::dec) pre ob
  | none=>(axG P tr md nat n all hs k o ⟨e,h,d⟩ ob).bind fun(rd,f,ob1)=>match f with
   | ⟨some (t,v),[]⟩=>bif aKl t W then lK P tr md nat n all hs W m (k+1) os (upd e t v) h d dec ((rd,⟨some (t,v),[]⟩)::pre) ob1 else none
   | _=>none
section
variable {QP:Value→Prop}{P:Program}{n:Nat}{tr:Tr}{md nat:Bool}
theorem wY {e:Nat→Option V}{t:Nat}{x:Option V}(h:e t=x):upd e t x=e:=by
 funext i;simp only[upd];split
 ·rename_i hb;rw[ω hb,h]
 ·rfl
theorem aIk {ops:Array Oper}{hs:List (Nat×Hn)}{W:List Nat}{draw:Bool}(hw:tr.wf=true) (E:Tok P tr.flat):∀(m k:Nat) (os:List Oper) (e:Nat→Option V) (h:bW) (d dec:List Nat) (pre:REs) (ob:List Prop) (res:Res),os=ops.toList.drop k→
  lK P tr md nat n ops.toList hs W m k os e h d dec pre ob=some res→res.obs→res.good ops draw=true→∀Q,res.all Q→eQ ob∧fX QP P n ops draw k ⟨e,h,d⟩ pre Q:=by
 intro m
 induction m with
 | zero=>intro k os e h d dec pre ob res _ q;simp[lK] at q
 | succ m A=>
  intro k os e h d dec pre ob res r q ho c Q hq;cases os with
  | nil=>
   simp only[lK] at q;cases q;simp only[Res.good,Aa] at c;exact⟨ho,z_ c.1 c.2 hq⟩
  | cons o os=>
   have hok:ops[k]?=some o:=by
    have:(ops.toList.drop k)[0]?=some o:=by rw[←r];rfl
    simpa using this
   have B:os=ops.toList.drop (k+1):=by
    have:os=(ops.toList.drop k).tail:=by rw[←r];rfl
    rw[this,List.tail_drop]
   simp only[lK] at q;split at q
   ·rename_i t _;split at q
    ·rename_i b hb;rw[Ab] at q;obtain⟨x,hx,q⟩:=q;rw[Ab] at q;obtain⟨y,hy,q⟩:=q;cases q;simp only[Res.obs] at ho;simp only[Res.good,Aa] at c;simp only[Res.all] at hq;cases b with
     | true=>
      rw[wY hb] at hx;exact A _ _ _ _ _ _ _ _ _ r hx (ho.1 rfl) c.1 Q (hq.1 rfl)
     | false=>
      rw[wY hb] at hy;exact A _ _ _ _ _ _ _ _ _ r hy (ho.2 rfl) c.2 Q (hq.2 rfl)
    ·exact A _ _ _ _ _ _ _ _ _ r q ho c Q hq
   ·rw[Ab] at q;obtain⟨⟨rd,f,J⟩,h1,h2⟩:=q;dsimp only at h2;split at h2
    ·obtain⟨_,I⟩:=cI h2;obtain⟨g1,g2⟩:=A _ _ _ _ _ _ _ _ _ B I ho c Q hq;obtain⟨g3,g4⟩:=aJm hw E hok h1 g1;refine⟨g3,k_ g4 ?_⟩;simpa only[Eff.apply,wZ] using g2
    ·cases h2
def Res.keep (e0:Nat→Option V) (h0:bW) (d0:List Nat) (W:List Nat):Res→Prop
 | .leaf st _ _ _=>(∀t,t∉W→∀v,e0 t=some v→st.e t=some v)∧st.h=h0∧st.d=d0
 | .fork b x y=>(b=true→x.keep e0 h0 d0 W)∧(b=false→y.keep e0 h0 d0 W)
theorem aA9 {all:List Oper}{hs:List (Nat×Hn)}{W:List Nat}{e0:Nat→Option V}:∀(m k:Nat) (os:List Oper) (e:Nat→Option V) (h:bW) (d dec:List Nat) (pre:REs) (ob:List Prop) (res:Res),
  lK P tr md nat n all hs W m k os e h d dec pre ob=some res→(∀t,t∉W→∀v,e0 t=some v→e t=some v)→res.keep e0 h d W:=by
 intro m
 induction m with
 | zero=>intro k os e h d dec pre ob res c;simp[lK] at c
 | succ m q=>
  intro k os e h d dec pre ob res c he;cases os with
  | nil=>
   simp only[lK] at c;cases c;exact⟨he,rfl,rfl⟩
  | cons o os=>
   simp only[lK] at c;split at c
   ·rename_i t _;split at c
    ·rename_i b hb;rw[Ab] at c;obtain⟨x,hx,c⟩:=c;rw[Ab] at c;obtain⟨y,hy,c⟩:=c;cases c;refine⟨fun r=>?_,fun A=>?_⟩
     ·subst r;rw[wY hb] at hx;exact q _ _ _ _ _ _ _ _ _ hx he
     ·subst A;rw[wY hb] at hy;exact q _ _ _ _ _ _ _ _ _ hy he
    ·exact q _ _ _ _ _ _ _ _ _ c he
   ·rw[Ab] at c;obtain⟨⟨rd,f,I⟩,h1,h2⟩:=c;dsimp only at h2;split at h2
    ·obtain⟨hm,E⟩:=cI h2;refine q _ _ _ _ _ _ _ _ _ E fun s hs u hu=>?_
     have B:s≠_:=fun e=>hs (by rw[e];exact xV.1 hm)
     rw[bC _ _ _ B];exact he s hs u hu
    ·cases h2
def Res.boolAt (w:Nat):Res→Option Bool
 | .leaf st _ _ _=>match st.e w with
  | some (.one (.c (.bool x)))=>some x
  | _=>none
 | .fork b x y=>(x.boolAt w).bind fun p=>(y.boolAt w).bind fun q=>some (bif b then p else q)
theorem Res.boolAt_all {w:Nat}:∀{r:Res}{x:Bool},r.boolAt w=some x→r.all fun st=>st.e w=some (.one (.c (.bool x)))
 | .leaf st _ _ _,x,h=>by
  simp only[Res.boolAt] at h;split at h
  ·rename_i hx;cases h;exact hx
  ·cases h
 | .fork b p q,x,h=>by
  simp only[Res.boolAt,Ab] at h;obtain⟨u,hu,v,y,h⟩:=h;cases h;refine⟨fun hb=>?_,fun hb=>?_⟩
  ·subst hb;exact Res.boolAt_all hu
  ·subst hb;exact Res.boolAt_all y
def nW (res:Res):List Nat→Option (List (Nat×Option V))
 | []=>some []
 | w::ws=>(nW res ws).bind fun l=>match res.boolAt w with
  | some x=>some ((w,some (.one (.c (.bool x))))::l)
  | none=>some ((w,none)::l)
def jJ (e:Nat→Option V):List (Nat×Option V)→Nat→Option V
 | [],t=>e t
 | (w,v)::l,t=>bif Nat.beq t w then v else jJ e l t
theorem sV {res:Res}{e0:Nat→Option V}{t:Nat}:∀{W:List Nat}{L:List (Nat×Option V)},nW res W=some L→jJ e0 L t=if t∈W then(res.boolAt t).map (fun x=>V.one (.c (.bool x))) else e0 t
 | [],L,h=>by
  simp only[nW] at h;cases h;simp[jJ]
 | w::ws,L,h=>by
  simp only[nW,Ab] at h;obtain⟨l,hl,h⟩:=h;have r:=sV (e0:=e0) (t:=t) hl;have y:L=(w,(res.boolAt w).map (fun x=>V.one (.c (.bool x))))::l:=by
   split at h
   ·rename_i x hx;cases h;rw[hx];rfl
   ·rename_i hx;cases h;rw[hx];rfl
  subst y;simp only[jJ];by_cases q:t=w
  ·subst q;simp
  ·have hb:Nat.beq t w=false:=by
    cases hb:Nat.beq t w with
    | true=>exact absurd (ω hb) q
    | false=>rfl
   rw[hb,Bg,r];simp[q]
theorem Res.all_mono {Q Q':St→Prop}(h:∀st,Q st→Q' st):∀{r:Res},r.all Q→r.all Q'
 | .leaf st _ _ _,k=>h st k
 | .fork _ _ _,k=>⟨fun hb=>Res.all_mono h (k.1 hb),fun hb=>Res.all_mono h (k.2 hb)⟩
theorem Res.all_forall {α:Type}{Q:α→St→Prop}:∀{r:Res},(∀a,r.all (Q a))→r.all fun st=>∀a,Q a st
 | .leaf _ _ _ _,k=>fun a=>k a
 | .fork _ _ _,k=>⟨fun hb=>Res.all_forall fun a=>(k a).1 hb,fun hb=>Res.all_forall fun a=>(k a).2 hb⟩
theorem Res.all_and {Q Q':St→Prop}:∀{r:Res},r.all Q→r.all Q'→r.all fun st=>Q st∧Q' st
 | .leaf _ _ _ _,h,k=>⟨h,k⟩
 | .fork _ _ _,h,k=>⟨fun hb=>Res.all_and (h.1 hb) (k.1 hb),fun hb=>Res.all_and (h.2 hb) (k.2 hb)⟩
theorem Res.keep_at {e0:Nat→Option V}{h0:bW}{d0 W:List Nat}{t:Nat}{v:V}(ht:t∉W) (c:e0 t=some v):∀{r:Res},r.keep e0 h0 d0 W→r.all fun st=>st.e t=some v
 | .leaf _ _ _ _,k=>k.1 t ht v c
 | .fork _ _ _,k=>⟨fun hb=>Res.keep_at ht c (k.1 hb),fun hb=>Res.keep_at ht c (k.2 hb)⟩
theorem Res.keep_hd {e0:Nat→Option V}{h0:bW}{d0 W:List Nat}:∀{r:Res},r.keep e0 h0 d0 W→r.all fun st=>st.h=h0∧st.d=d0
 | .leaf _ _ _ _,k=>k.2
 | .fork _ _ _,k=>⟨fun hb=>Res.keep_hd (k.1 hb),fun hb=>Res.keep_hd (k.2 hb)⟩
theorem aG2 {res:Res}{e0:Nat→Option V}{h0:bW}{d0 W:List Nat}{L:List (Nat×Option V)}(h:nW res W=some L) (q:res.keep e0 h0 d0 W):res.all fun st=>(∀p:Nat×V,jJ e0 L p.1=some p.2→st.e p.1=some p.2)∧(st.h=h0∧st.d=d0):=by
 refine Res.all_and (Res.all_forall fun p=>?_) (Res.keep_hd q);by_cases c:jJ e0 L p.1=some p.2
 ·refine Res.all_mono (fun st h _=>h) (?_:res.all fun st=>st.e p.1=some p.2);rw[sV h] at c;by_cases ht:p.1∈W
  ·rw[ξ ht,Option.map_eq_some_iff] at c;obtain⟨x,hx,c⟩:=c;rw[←c];exact Res.boolAt_all hx
  ·rw[η ht] at c;exact Res.keep_at ht c q
 ·have:∀r:Res,r.all fun st=>jJ e0 L p.1=some p.2→st.e p.1=some p.2:=by
   intro r
   induction r with
   | leaf st k pre ob=>exact fun h=>absurd h c
   | fork b x y A B=>exact⟨fun _=>A,fun _=>B⟩
  exact this res
theorem Sub.weak {kf:List Nat}{c st2:St}(he:∀p:Nat×V,st2.e p.1=some p.2→c.e p.1=some p.2) (hh:c.h=st2.h) (q:c.d=st2.d):Sub kf st2 c:=by
 intro G n S μ a w _ hs;refine⟨S,μ,⟨?_,hs.size,?_,fun t v e=>?_⟩⟩
 ·rw[←hh];exact hs.inv
 ·rw[←hh,←q];exact hs.defers
 ·rw[←hh];exact hs.env t v (he (t,v) e)
def aMn:List Oper→List Nat
 | []=>[]
 | o::os=>match o.dst with
  | some t=>t::aMn os
  | none=>aMn os
theorem aL1 {ro:Option Nat}{ops:Array Oper}{draw:Bool}{st:St}{r:Nat→Option V}{h1:bW}{d1:List Nat}{q:Nat}{c:REs}{y:List Prop}{res:Res}{L:List (Nat×Option V)}{hs:List (Nat×Hn)}{kf:List Nat}{id:Nat}{Q:Exit→St→Prop}(m:Nat) (hm:P.follows .mixedOrders=true) (hw:tr.wf=true) (E:Tok P tr.flat)
  (g1:pW P tr md nat n ops.toList hs m 0 ops.toList st.e st.h st.d [] []=some (⟨r,h1,d1⟩,q,c,y))
  (g2:lK P tr md nat n ops.toList hs (aMn (ops.toList.drop q)) 1000 q (ops.toList.drop q) r h1 d1 [] c y=some res)
  (g3:nW res (aMn (ops.toList.drop q))=some L) (ho:res.obs) (M:res.good ops draw=true) (hq:Q .normal ⟨jJ r L,h1,d1⟩):AWp ro P n kf (.region id ops draw) st Q:=by
 have O:=aA9 (P:=P) (tr:=tr) (md:=md) (nat:=nat) (n:=n) (e0:=r) _ _ _ _ _ _ _ _ _ _ g2 (fun _ _ _ h=>h);have I:=aG2 g3 O;have A:res.all fun st'=>Sub kf ⟨jJ r L,h1,d1⟩ st':=Res.all_mono (fun st h=>Sub.weak h.1 h.2.1 h.2.2) I
 obtain⟨J,B⟩:=aIk (draw:=draw) hw E _ _ _ _ _ _ _ _ _ _ rfl g2 ho M _ A;exact aL0 _ hm ((wL hw E m 0 _ st.e st.h st.d [] [] _ q c y rfl g1 J).2 _ B) hq
end
end Go.AM
