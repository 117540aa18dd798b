/-
  Texts Am23 to Am26 in one.
-/
import Derived.Test.YtpmheldmadendaaGreatDoorM4
import Derived.KernelRfl
open List (drop_zero map_cons take_length)
open Nat (eq_of_beq_eq_true le_of_ble_eq_true zero_add)
namespace Go.AM
open Go
def frc {α:Type}:List α→Option (List α)
 | []=>some []
 | x::xs=>(frc xs).bind fun l=>some (x::l)
theorem kK {α:Type}:∀l:List α,frc l=some l
 | []=>rfl
 | x::xs=>by simp[frc,kK xs]
def tak {α:Type}:Nat→List α→Option (List α)
 | 0,_=>some []
 | _+1,[]=>none
 | k+1,x::xs=>(tak k xs).bind fun l=>some (x::l)
theorem qU {α:Type}:∀{k:Nat}{l r:List α},tak k l=some r→k≤l.length∧l.take k=r
 | 0,l,r,h=>by simp[tak] at h;simp[h]
 | k+1,[],r,h=>by simp[tak] at h
 | k+1,x::xs,r,h=>by
  simp only[tak,Ag] at h;obtain⟨l,h1,h2⟩:=h;cases h2;obtain⟨u,q⟩:=qU h1;exact⟨by simp;omega,by simp[q]⟩
inductive Tr where
 | leaf (o:Option TI)
 | node (k:Nat) (l r:Tr)
def Tr.get:Tr→Nat→Option TI
 | .leaf o,t=>bif Nat.beq t 0 then o else none
 | .node k l r,t=>bif Nat.blt t k then l.get t else r.get (t-k)
def Tr.flat:Tr→TT
 | .leaf o=>[o]
 | .node _ l r=>l.flat++r.flat
def Tr.wf:Tr→Bool
 | .leaf _=>true
 | .node k l r=>Nat.beq k l.flat.length&&(l.wf&&r.wf)
theorem Tr.get_ok:∀{tr:Tr}{t:Nat}{i:TI},tr.wf=true→tr.get t=some i→tr.flat[t]?=some (some i)
 | .leaf o,t,i,_,h=>by
  simp only[Tr.get] at h;cases hb:Nat.beq t 0 with
  | false=>rw[hb] at h;cases h
  | true=>
   rw[hb] at h;have:=Aa hb;subst this;simp only[Bw] at h;simp[Tr.flat,h]
 | .node k l r,t,i,hw,h=>by
  simp only[Tr.wf,π] at hw;have u:=Aa hw.1;simp only[Tr.get] at h;simp only[Tr.flat,Ca];cases hb:Nat.blt t k with
  | true=>
   rw[hb] at h;have:t<k:=Aq hb;rw[ζ (by omega)];exact Tr.get_ok hw.2.1 h
  | false=>
   rw[hb] at h;have:¬t<k:=fun q=>by
    have:Nat.blt t k=true:=Nat.ble_eq_true_of_le q;rw[hb] at this;cases this
   rw[ξ (by omega),←u];exact Tr.get_ok hw.2.2 h
def hD:List Prop→Prop
 | []=>True
 | p::l=>p∧hD l
def need (md:Bool) (p:Prop) [Decidable p] (ob:List Prop):Option (List Prop):=bif md then some (p::ob) else bif decide p then some ob else none
theorem aX {md:Bool}{p:Prop} [Decidable p] {ob q:List Prop}(h:need md p ob=some q):hD q→hD ob∧p:=by
 unfold need at h;cases md with
 | true=>cases h;exact fun h=>⟨h.2,h.1⟩
 | false=>
  simp only[Bp] at h;cases hp:decide p with
  | false=>rw[hp] at h;cases h
  | true=>rw[hp] at h;cases h;exact fun h=>⟨h,κ hp⟩
inductive Hn where
 | no
 | id (n:Nat)
 | bv (b:Bool)
 | row (k:Nat) (r:List C)
 | all
 | look (r:Option (List C))
 | c (rows:List (List C))
 | byte (k:Nat) (b:UInt8)
 | pc (res:V)
 | fz
 | rr (r:List R)
 | rowR (k:Nat) (r:List R)
def aMt:List (Nat×Hn)→Nat→Hn
 | [],_=>.no
 | (k,h)::l,i=>bif Nat.beq i k then h else aMt l i
abbrev Ans:=Option (Rd×Eff×List Prop)
def Snd (P:Program) (n:Nat) (o:Oper) (st:St) (ob:List Prop) (r:Ans):Prop:=∀rd f ob',r=some (rd,f,ob')→hD ob'→hD ob∧Step P n o st rd f
def val (o:Oper) (n:Nat) (rd:Rd) (v:V) (h:List (Nat×Option AObj)) (ob:List Prop):Ans:=
 match o.dst with
 | some d=>bif Nat.blt d n then some (rd,⟨some (d,some v),h⟩,ob) else none
 | none=>none
def eff (o:Oper) (rd:Rd) (h:List (Nat×Option AObj)) (ob:List Prop):Ans:=
 match o.dst with
 | none=>some (rd,⟨none,h⟩,ob)
 | some _=>none
def opO (st:St):Operand→Option V
 | .tmp t=>st.e t
 | .const v=>match v with
  | .int k n=>some (.one (.c (.int k n)))
  | .bool b=>some (.one (.c (.bool b)))
  | .string ⟨⟨l⟩⟩=>some (.one (.c (.str l)))
  | .slice none 0 0=>some (.one (.c .nl))
  | .pointer none=>some (.one (.c .np))
  | .map none=>some (.one (.c (.zv 0)))
  | .nilFunc=>some (.one (.c (.zv 1)))
  | .nilIface=>some (.one (.c (.zv 2)))
  | .agg ⟨vs⟩=>(xR vs).bind fun cs=>some (.pa cs)
  | _=>none
 | .func f=>some (.one (.clo f []))
 | .global _=>none
theorem cB (st:St) (x:Operand):opO st x=opv st x:=by
 cases x with
 | const v=>
  cases v with
  | string s=>obtain⟨⟨l⟩⟩:=s;rfl
  | slice a l c=>
   cases a with
   | some _=>rfl
   | none=>
    cases l with
    | zero=>cases c<;>rfl
    | succ _=>rfl
  | pointer p=>cases p<;>rfl
  | map m=>cases m<;>rfl
  | _=>rfl
 | _=>rfl
def aYc (rs:List R):Option V:=match iU rs with | some l=>some (.pa l) | none=>some (.ma rs)
theorem aKt (rs:List R):aYc rs=some (aTy rs):=by
 unfold aYc aTy;cases iU rs<;>rfl
def aEt (i:TI) (rs:List R):Option V:=bif i.k.agg then aYc rs else match rs with | [r]=>some (.one r) | _=>none
theorem qG (i:TI) (rs:List R):aEt i rs=k8 i rs:=by
 unfold aEt k8;cases i.k.agg
 ·rfl
 ·exact aKt rs
def aCf (i:TI) (l:List C):Option V:=bif i.k.agg then some (.pa l) else match l with | [c]=>some (.one (.c c)) | _=>none
theorem x5 (i:TI) (l:List C):aCf i l=aEu i l:=by
 unfold aCf aEu;cases i.k.agg<;>rfl
def pL (v:V):Option (List R):=(gK v).bind frc
theorem iK (v:V):pL v=gK v:=by
 unfold pL;cases gK v with
 | none=>rfl
 | some l=>simp[kK]
theorem dL {α:Type}{b:Bool}{x:Option α}{y:α}(h:(bif b then x else none)=some y):b=true∧x=some y:=by
 cases b
 ·cases h
 ·exact⟨rfl,h⟩
theorem j8 {d n:Nat}(h:Nat.blt d n=true):d<n:=Aq h
theorem aT5 {o:Oper}{n:Nat}{rd q:Rd}{v:V}{h:List (Nat×Option AObj)}{ob r:List Prop}{f:Eff}(e:val o n rd v h ob=some (q,f,r)):∃d,o.dst=some d∧d<n∧q=rd∧f=⟨some (d,some v),h⟩∧r=ob:=by
 unfold val at e;split at e
 ·rename_i d hd;obtain⟨h1,h2⟩:=dL e;cases h2;exact⟨d,hd,j8 h1,rfl,rfl,rfl⟩
 ·cases e
theorem aV7 {o:Oper}{rd q:Rd}{h:List (Nat×Option AObj)}{ob r:List Prop}{f:Eff}(e:eff o rd h ob=some (q,f,r)):o.dst=none∧q=rd∧f=⟨none,h⟩∧r=ob:=by
 unfold eff at e;split at e
 ·rename_i hd;cases e;exact⟨hd,rfl,rfl,rfl⟩
 ·cases e
theorem Snd.val {P:Program}{n:Nat}{o:Oper}{st:St}{ob q:List Prop}{rd:Rd}{v:V}{h:List (Nat×Option AObj)}(r:∀d,o.dst=some d→d<n→hD q→hD ob∧Step P n o st rd ⟨some (d,some v),h⟩):Snd P n o st ob (Go.AM.val o n rd v h q):=by
 intro y f u e hc;obtain⟨d,h1,h2,rfl,rfl,rfl⟩:=aT5 e;exact r d h1 h2 hc
theorem Snd.eff {P:Program}{n:Nat}{o:Oper}{st:St}{ob q:List Prop}{rd:Rd}{h:List (Nat×Option AObj)}(r:o.dst=none→hD q→hD ob∧Step P n o st rd ⟨none,h⟩):Snd P n o st ob (Go.AM.eff o rd h q):=by
 intro y f u e hc;obtain⟨h1,rfl,rfl,rfl⟩:=aV7 e;exact r h1 hc
theorem Snd.none {P:Program}{n:Nat}{o:Oper}{st:St}{ob:List Prop}:Snd P n o st ob none:=by
 intro rd f q e;cases e
theorem Snd.bind {P:Program}{n:Nat}{o:Oper}{st:St}{ob:List Prop}{α:Type}{x:Option α}{k:α→Ans}(h:∀y,x=some y→Snd P n o st ob (k y)):Snd P n o st ob (x.bind k):=by
 intro rd f q e;rw[Ag] at e;obtain⟨y,h1,h2⟩:=e;exact h y h1 rd f q h2
theorem Snd.cond {P:Program}{n:Nat}{o:Oper}{st:St}{ob:List Prop}{b:Bool}{r:Ans}(h:b=true→Snd P n o st ob r):Snd P n o st ob (bif b then r else Option.none):=by
 cases b
 ·exact Snd.none
 ·exact h rfl
section
variable {P:Program}{n:Nat}{o:Oper}{st:St}{ob:List Prop}{tr:Tr}{md:Bool}
def aDp (o:Oper) (n:Nat) (st:St) (ob:List Prop) (x:Operand):Ans:=(opO st x).bind fun y=>val o n ⟨opr x,[]⟩ y [] ob
theorem aJ9 {x:Operand}(ho:o.op=.move x):Snd P n o st ob (aDp o n st ob x):=
 Snd.bind fun y hy=>Snd.val fun _ hd q hc=>⟨hc,aGz ho hd q (by rw[←cB];exact hy)⟩
theorem aAz {x:Operand}(ho:o.op=.assign x):Snd P n o st ob (aDp o n st ob x):=
 Snd.bind fun y hy=>Snd.val fun _ hd q hc=>⟨hc,aL4 ho hd q (by rw[←cB];exact hy)⟩
def aLb (hn:Hn) (b:Bool) (ob:List Prop):Bool×List Prop:=match hn with
 | .bv w=>(w,(b=w)::ob)
 | _=>match b with
  | true=>(true,ob)
  | false=>(false,ob)
theorem pW {hn:Hn}{b w:Bool}{ob q:List Prop}(h:aLb hn b ob=(w,q)):hD q→hD ob∧b=w:=by
 unfold aLb at h;split at h
 ·cases h;exact fun h=>⟨h.2,h.1⟩
 ·cases b<;>(cases h;exact fun h=>⟨h,rfl⟩)
def aPy (o:Oper) (n:Nat) (st:St) (ob:List Prop) (hn:Hn) (c x y:Operand):Ans:=(opO st c).bind fun v=>match v with
 | .one (.c (.bool b))=>match aLb hn b ob with
  | (true,ob')=>(opO st x).bind fun z=>val o n ⟨opr c++opr x,[]⟩ z [] ob'
  | (false,ob')=>(opO st y).bind fun z=>val o n ⟨opr c++opr y,[]⟩ z [] ob'
 | _=>none
theorem aJ7 {hn:Hn}{c x y:Operand}(ho:o.op=.pick c x y):Snd P n o st ob (aPy o n st ob hn c x y):=by
 refine Snd.bind fun v hv=>?_
 rw[cB] at hv;split
 ·rename_i b;split
  ·rename_i u ht;refine Snd.bind fun z q=>Snd.val fun _ hd r hc=>?_
   rw[cB] at q;obtain⟨h1,h2⟩:=pW ht hc;exact⟨h1,aLw ho hd r hv h2 q⟩
  ·rename_i u ht;refine Snd.bind fun z q=>Snd.val fun _ hd r hc=>?_
   rw[cB] at q;obtain⟨h1,h2⟩:=pW ht hc;exact⟨h1,aLx ho hd r hv h2 q⟩
 ·exact Snd.none
def yJ (o:Oper) (n:Nat) (st:St) (ob:List Prop) (x:Operand) (i:Nat):Ans:=(opO st x).bind fun v=>match v with
 | .tup l=>(l[i]?).bind fun z=>val o n ⟨opr x,[]⟩ z [] ob
 | _=>none
theorem yI {x:Operand}{i:Nat}(ho:o.op=.extract x i):Snd P n o st ob (yJ o n st ob x i):=by
 refine Snd.bind fun v hv=>?_
 rw[cB] at hv;split
 ·exact Snd.bind fun z r=>Snd.val fun _ hd q hc=>⟨hc,aG8 ho hd q hv r⟩
 ·exact Snd.none
def aKj (tr:Tr) (o:Oper) (n:Nat) (st:St) (ob:List Prop) (id:Nat) (t:TypeId):Ans:=(tr.get t).bind fun i=>(frc (i.zero.map R.c)).bind fun z=>match st.h id with
 | none=>val o n ⟨[],[id]⟩ (.one (.vp id 0)) [(id,some (.var t z))] ob
 | some _=>none
theorem aFm {id:Nat}{t:TypeId}(hw:tr.wf=true) (u:Tok P tr.flat) (ho:o.op=.alloc t):Snd P n o st ob (aKj tr o n st ob id t):=by
 refine Snd.bind fun i hi=>Snd.bind fun z q=>?_
 rw[kK] at q;cases q;split
 ·rename_i hid;exact Snd.val fun _ hd r hc=>⟨hc,aQ1 id u ho hd r (Tr.get_ok hw hi) hid⟩
 ·exact Snd.none
def aXf (o:Oper) (n:Nat) (st:St) (ob:List Prop) (id:Nat) (t:TypeId) (x:Operand):Ans:=(opO st x).bind fun v=>(pL v).bind fun rs=>match st.h id with
 | none=>val o n ⟨opr x,[id]⟩ (.one (.vp id 0)) [(id,some (.var t rs))] ob
 | some _=>none
theorem aOg {id:Nat}{t:TypeId}{x:Operand}(ho:o.op=.box t x):Snd P n o st ob (aXf o n st ob id t x):=by
 refine Snd.bind fun v hv=>Snd.bind fun rs q=>?_
 rw[cB] at hv;rw[iK] at q;split
 ·rename_i hid;exact Snd.val fun _ hd r hc=>⟨hc,aY7 id ho hd r hv q hid⟩
 ·exact Snd.none
def aS4 (tr:Tr) (o:Oper) (n:Nat) (st:St) (ob:List Prop) (id:Nat) (t:TypeId) (r:Option Operand):Ans:=match r with
 | some _=>none
 | none=>(tr.get t).bind fun i=>match i.k with
  | .mp _ e=>(tr.get e).bind fun ei=>match st.h id with
   | none=>val o n ⟨[],[id]⟩ (.one (.mr id)) [(id,some (.map ei.k.agg []))] ob
   | some _=>none
  | _=>none
theorem aOc {id:Nat}{t:TypeId}{r:Option Operand}(ho:o.op=.makeMap t r):Snd P n o st ob (aS4 tr o n st ob id t r):=by
 unfold aS4;split
 ·exact Snd.none
 ·refine Snd.bind fun i hi=>?_
  split
  ·refine Snd.bind fun y u=>?_
   split
   ·rename_i hid;exact Snd.val fun _ hd q hc=>⟨hc,aG0 id _ ho hd q hid⟩
   ·exact Snd.none
  ·exact Snd.none
def aUk (hn:Hn) (elems:List (List C)) (k:Nat) (ob:List Prop):Option (List C×List Prop):=match hn with
 | .row _ r=>some (r,(elems[k]?=some r)::ob)
 | _=>match elems[k]? with
  | some r=>some (r,ob)
  | none=>none
theorem zG {hn:Hn}{elems:List (List C)}{k:Nat}{ob q:List Prop}{r:List C}(h:aUk hn elems k ob=some (r,q)):hD q→hD ob∧elems[k]?=some r:=by
 unfold aUk at h;split at h
 ·cases h;exact fun h=>⟨h.2,h.1⟩
 ·split at h
  ·rename_i h1;cases h;exact fun h=>⟨h,h1⟩
  ·cases h
def aLr (hn:Hn) (elems:List (List R)) (k:Nat) (ob:List Prop):Option (List R×List Prop):=match hn with
 | .rr r=>some (r,(elems[k]?=some r)::ob)
 | _=>match elems[k]? with
  | some r=>some (r,ob)
  | none=>none
theorem aBo {hn:Hn}{elems:List (List R)}{k:Nat}{ob q:List Prop}{r:List R}(h:aLr hn elems k ob=some (r,q)):hD q→hD ob∧elems[k]?=some r:=by
 unfold aLr at h;split at h
 ·cases h;exact fun h=>⟨h.2,h.1⟩
 ·split at h
  ·rename_i h1;cases h;exact fun h=>⟨h,h1⟩
  ·cases h
def aPz (tr:Tr) (md:Bool) (o:Oper) (n:Nat) (st:St) (ob:List Prop) (hn:Hn) (t:TypeId) (x:Operand):Ans:=(tr.get t).bind fun i=>(opO st x).bind fun v=>match v with
 | .one (.vp id off)=>match st.h id with
  | some (.var _ cells)=>bif Nat.ble (off+i.size) cells.length then(tak i.size (cells.drop off)).bind fun rs=>(aEt i rs).bind fun y=>val o n ⟨opr x,[id]⟩ y [] ob else none
  | _=>none
 | .one (.c (.pt l))=>(tak i.size l).bind fun cs=>(aCf i cs).bind fun y=>val o n ⟨opr x,[]⟩ y [] ob
 | .one (.pas l)=>(tak i.size l).bind fun cs=>(aEt i cs).bind fun y=>val o n ⟨opr x,[]⟩ y [] ob
 | .one (.ep id k fo sz)=>match st.h id with
  | some (.arr _ es elems _)=>(need md (sz=elems.length) ob).bind fun ob1=>(aUk hn elems k ob1).bind fun(r,ob2)=>
   bif Nat.ble (fo+i.size) es then(tak i.size (r.drop fo)).bind fun cs=>(aCf i cs).bind fun y=>val o n ⟨opr x,[id]⟩ y [] ob2 else none
  | _=>none
 | .one (.rp id k fo sz)=>match st.h id with
  | some (.rarr _ es elems)=>(need md (sz=elems.length) ob).bind fun ob1=>(aLr hn elems k ob1).bind fun(r,ob2)=>
   bif Nat.ble (fo+i.size) es then(tak i.size (r.drop fo)).bind fun cs=>(aEt i cs).bind fun y=>val o n ⟨opr x,[id]⟩ y [] ob2 else none
  | _=>none
 | _=>none
theorem aKa {hn:Hn}{t:TypeId}{x:Operand}(hw:tr.wf=true) (B:Tok P tr.flat) (ho:o.op=.load t x):Snd P n o st ob (aPz tr md o n st ob hn t x):=by
 refine Snd.bind fun i hi=>Snd.bind fun v hv=>?_
 rw[cB] at hv
 replace hi:=Tr.get_ok hw hi
 split
 ·rename_i id off;split
  ·rename_i tv cells hh;refine Snd.cond fun hb=>Snd.bind fun rs J=>Snd.bind fun y hy=>Snd.val fun _ hd q hc=>⟨hc,?_⟩
   obtain⟨h1,h2⟩:=qU J;rw[qG,←h2] at hy;exact aU0 B ho hd q hi hv hh hb hy
  ·exact Snd.none
 ·rename_i l;refine Snd.bind fun cs u=>Snd.bind fun y hy=>Snd.val fun _ hd q hc=>⟨hc,?_⟩
  obtain⟨h1,h2⟩:=qU u;rw[x5,←h2] at hy;exact aG3 B ho hd q hi hv h1 hy
 ·rename_i l;refine Snd.bind fun cs u=>Snd.bind fun y hy=>Snd.val fun _ hd q hc=>⟨hc,?_⟩
  obtain⟨h1,h2⟩:=qU u;rw[qG,←h2] at hy;exact aEa B ho hd q hi hv h1 hy
 ·rename_i id k fo sz;split
  ·rename_i te es elems fz hh;refine Snd.bind fun M h1=>Snd.bind fun p h2=>?_
   obtain⟨r,O⟩:=p;refine Snd.cond fun E=>Snd.bind fun cs u=>Snd.bind fun y hy=>Snd.val fun _ hd q hc=>?_
   obtain⟨g1,g2⟩:=zG h2 hc;obtain⟨g3,g4⟩:=aX h1 g1;obtain⟨U,I⟩:=qU u;rw[x5,←I] at hy;exact⟨g3,aG4 B ho hd q hi hv hh g4 g2 (Aq E) hy⟩
  ·exact Snd.none
 ·rename_i id k fo sz;split
  ·rename_i te es elems hh;refine Snd.bind fun M h1=>Snd.bind fun p h2=>?_
   obtain⟨r,O⟩:=p;refine Snd.cond fun E=>Snd.bind fun cs u=>Snd.bind fun y hy=>Snd.val fun _ hd q hc=>?_
   obtain⟨g1,g2⟩:=aBo h2 hc;obtain⟨g3,g4⟩:=aX h1 g1;obtain⟨U,I⟩:=qU u;rw[qG,←I] at hy;exact⟨g3,aG2 B ho hd q hi hv hh g4 g2 (Aq E) hy⟩
  ·exact Snd.none
 ·exact Snd.none
def aTh {α:Type}(l:List α) (off:Nat) (new:List α):Option (List α):=frc (bV l off new)
def aJ4 (tr:Tr) (md:Bool) (o:Oper) (st:St) (ob:List Prop) (hn:Hn) (t:TypeId) (x y:Operand):Ans:=(tr.get t).bind fun i=>(opO st x).bind fun v=>(opO st y).bind fun u=>(pL u).bind fun rs=>bif Nat.beq rs.length i.size then(match v with
 | .one (.vp id off)=>match st.h id with
  | some (.var tv cells)=>bif Nat.ble (off+i.size) cells.length then(aTh cells off rs).bind fun cs=>eff o ⟨opr x++opr y,[id]⟩ [(id,some (.var tv cs))] ob else none
  | _=>none
 | .one (.ep id k fo sz)=>match st.h id with
  | some (.arr te es elems 0)=>(iU rs).bind fun cs=>(need md (sz=elems.length) ob).bind fun ob1=>(aUk hn elems k ob1).bind fun(r,ob2)=>
   bif Nat.ble (fo+i.size) es then(aTh r fo cs).bind fun r'=>eff o ⟨opr x++opr y,[id]⟩ [(id,some (.arr te es (elems.set k r') 0))] ob2 else none
  | _=>none
 | .one (.rp id k fo sz)=>match st.h id with
  | some (.rarr te es elems)=>(need md (sz=elems.length) ob).bind fun ob1=>(aLr hn elems k ob1).bind fun(r,ob2)=>
   bif Nat.ble (fo+i.size) es then(aTh r fo rs).bind fun r'=>eff o ⟨opr x++opr y,[id]⟩ [(id,some (.rarr te es (elems.set k r')))] ob2 else none
  | _=>none
 | _=>none) else none
theorem aFg {hn:Hn}{t:TypeId}{x y:Operand}(hw:tr.wf=true) (J:Tok P tr.flat) (ho:o.op=.store t x y):Snd P n o st ob (aJ4 tr md o st ob hn t x y):=by
 refine Snd.bind fun i hi=>Snd.bind fun v hv=>Snd.bind fun u hu=>Snd.bind fun rs E=>Snd.cond fun hl=>?_
 rw[cB] at hv hu;rw[iK] at E
 replace hi:=Tr.get_ok hw hi
 have I:=Aa hl;split
 ·rename_i id off;split
  ·rename_i tv cells hh;refine Snd.cond fun hb=>Snd.bind fun cs B=>Snd.eff fun hd hc=>⟨hc,?_⟩
   unfold aTh at B;rw[kK] at B;cases B;exact aQs J ho hd hi hv hu E hh I hb
  ·exact Snd.none
 ·rename_i id k fo sz;split
  ·rename_i te es elems hh;refine Snd.bind fun cs B=>Snd.bind fun O h1=>Snd.bind fun p h2=>?_
   obtain⟨r,U⟩:=p;refine Snd.cond fun M=>Snd.bind fun r' q=>Snd.eff fun hd hc=>?_
   obtain⟨g1,g2⟩:=zG h2 hc;obtain⟨g3,g4⟩:=aX h1 g1;unfold aTh at q;rw[kK] at q;cases q;refine⟨g3,aD8 J ho hd hi hv hu E B hh g4 g2 ?_ (Aq M)⟩;have:=nN B;rw[this] at I;simpa using I
  ·exact Snd.none
 ·rename_i id k fo sz;split
  ·rename_i te es elems hh;refine Snd.bind fun O h1=>Snd.bind fun p h2=>?_
   obtain⟨r,U⟩:=p;refine Snd.cond fun M=>Snd.bind fun r' q=>Snd.eff fun hd hc=>?_
   obtain⟨g1,g2⟩:=aBo h2 hc;obtain⟨g3,g4⟩:=aX h1 g1;unfold aTh at q;rw[kK] at q;cases q;exact⟨g3,aD7 J ho hd hi hv hu E hh g4 g2 I (Aq M)⟩
  ·exact Snd.none
 ·exact Snd.none
def s6 (tr:Tr) (md:Bool) (o:Oper) (n:Nat) (st:St) (ob:List Prop) (t:TypeId) (x:Operand) (f:Nat):Ans:=(tr.get t).bind fun i=>match i.k with
 | .st fs=>(fs[f]?).bind fun(foff,ft)=>(tr.get ft).bind fun fi=>bif Nat.ble 1 fi.size then((opO st x).bind fun v=>match v with
  | .one (.vp id off)=>val o n ⟨opr x,[]⟩ (.one (.vp id (off+foff))) [] ob
  | .one (.c (.pt l))=>val o n ⟨opr x,[]⟩ (.one (.c (.pt (l.drop foff)))) [] ob
  | .one (.pas l)=>val o n ⟨opr x,[]⟩ (.one (.pas (l.drop foff))) [] ob
  | .one (.ep id k fo sz)=>match st.h id with
   | some (.arr _ _ elems _)=>(need md (sz=elems.length) ob).bind fun ob1=>val o n ⟨opr x,[id]⟩ (.one (.ep id k (fo+foff) sz)) [] ob1
   | _=>none
  | .one (.rp id k fo sz)=>match st.h id with
   | some (.rarr _ _ elems)=>(need md (sz=elems.length) ob).bind fun ob1=>val o n ⟨opr x,[id]⟩ (.one (.rp id k (fo+foff) sz)) [] ob1
   | _=>none
  | _=>none) else none
 | _=>none
theorem sL {t:TypeId}{x:Operand}{f:Nat}(hw:tr.wf=true) (y:Tok P tr.flat) (ho:o.op=.fieldAddr t x f):Snd P n o st ob (s6 tr md o n st ob t x f):=by
 refine Snd.bind fun i hi=>?_
 replace hi:=Tr.get_ok hw hi
 split
 ·rename_i fs B;refine Snd.bind fun p E=>?_
  obtain⟨J,U⟩:=p;refine Snd.bind fun M r=>Snd.cond fun O=>Snd.bind fun v hv=>?_
  replace r:=Tr.get_ok hw r
  have u:M.size≠0:=by have:=Aq O;omega
  rw[cB] at hv;split
  ·exact Snd.val fun _ hd q hc=>⟨hc,aEd y ho hd q hi B E r u hv⟩
  ·exact Snd.val fun _ hd q hc=>⟨hc,aEf y ho hd q hi B E r u hv⟩
  ·exact Snd.val fun _ hd q hc=>⟨hc,zK y ho hd q hi B E r u hv⟩
  ·split
   ·rename_i hh;exact Snd.bind fun I h1=>Snd.val fun _ hd q hc=>⟨(aX h1 hc).1,aEg y ho hd q hi B E r u hv hh (aX h1 hc).2⟩
   ·exact Snd.none
  ·split
   ·rename_i hh;exact Snd.bind fun I h1=>Snd.val fun _ hd q hc=>⟨(aX h1 hc).1,aEe y ho hd q hi B E r u hv hh (aX h1 hc).2⟩
   ·exact Snd.none
  ·exact Snd.none
 ·exact Snd.none
def aKe (tr:Tr) (o:Oper) (n:Nat) (st:St) (ob:List Prop) (t:TypeId) (x:Operand) (f:Nat):Ans:=(tr.get t).bind fun i=>match i.k with
 | .st fs=>(fs[f]?).bind fun(foff,ft)=>(tr.get ft).bind fun fi=>(opO st x).bind fun v=>(pL v).bind fun rs=>
  bif (match v with | .pa _=>true | .ma _=>true | _=>false) then bif Nat.ble (foff+fi.size) rs.length then(tak fi.size (rs.drop foff)).bind fun l=>(aEt fi l).bind fun y=>val o n ⟨opr x,[]⟩ y [] ob else none else none
 | _=>none
theorem aFk {t:TypeId}{x:Operand}{f:Nat}(hw:tr.wf=true) (I:Tok P tr.flat) (ho:o.op=.field t x f):Snd P n o st ob (aKe tr o n st ob t x f):=by
 refine Snd.bind fun i hi=>?_
 replace hi:=Tr.get_ok hw hi
 split
 ·rename_i fs J;refine Snd.bind fun p M=>?_
  obtain⟨O,U⟩:=p;refine Snd.bind fun Y q=>Snd.bind fun v hv=>Snd.bind fun rs r=>Snd.cond fun u=>Snd.cond fun hl=>Snd.bind fun l B=>Snd.bind fun y hy=>?_
  replace q:=Tr.get_ok hw q
  rw[cB] at hv;rw[iK] at r;rw[qG,←(qU B).2] at hy;exact Snd.val fun _ hd E hc=>⟨hc,aQx I ho hd E hi J M q hv (by cases v<;>first | rfl | exact u) r hl hy⟩
 ·exact Snd.none
def atO (hn:Hn) (m:Int) (ob:List Prop):Option (Nat×List Prop):=match hn with
 | .row k _=>some (k,(m=(k:Int))::ob)
 | .rowR k _=>some (k,(m=(k:Int))::ob)
 | _=>match m with
  | .ofNat k=>some (k,ob)
  | .negSucc _=>none
theorem tK {hn:Hn}{m:Int}{k:Nat}{ob q:List Prop}(h:atO hn m ob=some (k,q)):hD q→hD ob∧m=(k:Int):=by
 unfold atO at h;split at h
 ·cases h;exact fun h=>⟨h.2,h.1⟩
 ·cases h;exact fun h=>⟨h.2,h.1⟩
 ·split at h
  ·cases h;exact fun h=>⟨h,rfl⟩
  ·cases h
def aYd (a b:Nat):Option Nat:=match a with
 | 0=>some b
 | a+1=>some (a+1+b)
theorem aKu {a b c:Nat}(h:aYd a b=some c):a+b=c:=by
 unfold aYd at h;split at h<;>cases h
 ·exact Bj _
 ·rfl
def s5 (tr:Tr) (md:Bool) (o:Oper) (n:Nat) (st:St) (ob:List Prop) (hn:Hn) (t:TypeId) (x y:Operand):Ans:=(tr.get t).bind fun i=>match i.k with
 | .sl e=>(tr.get e).bind fun ei=>(opO st x).bind fun v=>(opO st y).bind fun u=>match u with
  | .one (.c (.int _ m))=>(atO hn m ob).bind fun(k,ob1)=>match v with
   | .one (.c (.sl es l))=>bif Nat.beq ei.size es then(aUk hn l k ob1).bind fun(r,ob2)=>val o n ⟨opr x++opr y,[]⟩ (.one (.c (.pt r))) [] ob2 else none
   | .one (.hs id off len sz)=>match st.h id with
    | some (.arr _ es elems _)=>bif Nat.beq ei.size es then(need md (sz=elems.length) ob1).bind fun ob2=>(need md (k<len) ob2).bind fun ob3=>(aYd off k).bind fun j=>val o n ⟨opr x++opr y,[id]⟩ (.one (.ep id j 0 sz)) [] ob3 else none
    | _=>none
   | .one (.ra id off len sz)=>match st.h id with
    | some (.rarr _ es elems)=>bif Nat.beq ei.size es then(need md (sz=elems.length) ob1).bind fun ob2=>(need md (k<len) ob2).bind fun ob3=>(aYd off k).bind fun j=>val o n ⟨opr x++opr y,[id]⟩ (.one (.rp id j 0 sz)) [] ob3 else none
    | _=>none
   | .one (.ras n' es l)=>bif Nat.beq ei.size es then(need md (k<n') ob1).bind fun ob2=>match hn with
    | .rowR _ r=>val o n ⟨opr x++opr y,[]⟩ (.one (.pas r)) [] (((l.drop (k*es)).take es=r)::ob2)
    | _=>(frc ((l.drop (k*es)).take es)).bind fun r=>val o n ⟨opr x++opr y,[]⟩ (.one (.pas r)) [] ob2 else none
   | _=>none
  | _=>none
 | .ar m' e=>(tr.get e).bind fun ei=>(opO st x).bind fun v=>(opO st y).bind fun u=>match u with
  | .one (.c (.int _ m))=>(atO hn m ob).bind fun(k,ob1)=>match v with
   | .one (.vp id off)=>(need md (k<m') ob1).bind fun ob2=>val o n ⟨opr x++opr y,[]⟩ (.one (.vp id (off+k*ei.size))) [] ob2
   | _=>none
  | _=>none
 | _=>none
theorem sK {hn:Hn}{t:TypeId}{x y:Operand}(hw:tr.wf=true) (M:Tok P tr.flat) (ho:o.op=.indexAddr t x y):Snd P n o st ob (s5 tr md o n st ob hn t x y):=by
 refine Snd.bind fun i hi=>?_
 replace hi:=Tr.get_ok hw hi
 split
 ·rename_i e I;refine Snd.bind fun ei q=>Snd.bind fun v hv=>Snd.bind fun u hu=>?_
  replace q:=Tr.get_ok hw q
  rw[cB] at hv hu;split
  ·rename_i kk m;refine Snd.bind fun p hp=>?_
   obtain⟨k,U⟩:=p;dsimp only;split
   ·rename_i es l;refine Snd.cond fun E=>Snd.bind fun p h2=>?_
    obtain⟨r,J⟩:=p;refine Snd.val fun _ hd B hc=>?_
    obtain⟨g1,g2⟩:=zG h2 hc;obtain⟨g3,g4⟩:=tK hp g1;exact⟨g3,aQw M ho hd B hi I q (Aa E) hv hu g4 g2⟩
   ·rename_i id off len sz;split
    ·rename_i te es elems fz hh;refine Snd.cond fun E=>Snd.bind fun J h2=>Snd.bind fun Y O=>Snd.bind fun j hj=>Snd.val fun _ hd B hc=>?_
     have hj:=aKu hj;subst hj;obtain⟨g1,g2⟩:=aX O hc;obtain⟨g3,g4⟩:=aX h2 g1;obtain⟨g5,g6⟩:=tK hp g3;exact⟨g5,aEc M ho hd B hi I q (Aa E) hv hh g4 hu g6 g2⟩
    ·exact Snd.none
   ·rename_i id off len sz;split
    ·rename_i te es elems hh;refine Snd.cond fun E=>Snd.bind fun J h2=>Snd.bind fun Y O=>Snd.bind fun j hj=>Snd.val fun _ hd B hc=>?_
     have hj:=aKu hj;subst hj;obtain⟨g1,g2⟩:=aX O hc;obtain⟨g3,g4⟩:=aX h2 g1;obtain⟨g5,g6⟩:=tK hp g3;exact⟨g5,aEb M ho hd B hi I q (Aa E) hv hh g4 hu g6 g2⟩
    ·exact Snd.none
   ·rename_i n' es l;refine Snd.cond fun E=>Snd.bind fun J h2=>?_
    have E:=Aa E;split
    ·refine Snd.val fun _ hd B hc=>?_
     obtain⟨c1,c2⟩:=hc;obtain⟨g1,g2⟩:=aX h2 c2;obtain⟨g3,g4⟩:=tK hp g1;exact⟨g3,r2 M ho hd B hi I q E hv hu g4 g2 c1⟩
    ·refine Snd.bind fun r hr=>Snd.val fun _ hd B hc=>?_
     rw[kK] at hr;cases hr;obtain⟨g1,g2⟩:=aX h2 hc;obtain⟨g3,g4⟩:=tK hp g1;exact⟨g3,r2 M ho hd B hi I q E hv hu g4 g2 rfl⟩
   ·exact Snd.none
  ·exact Snd.none
 ·rename_i m' e I;refine Snd.bind fun ei q=>Snd.bind fun v hv=>Snd.bind fun u hu=>?_
  replace q:=Tr.get_ok hw q
  rw[cB] at hv hu;split
  ·rename_i kk m;refine Snd.bind fun p hp=>?_
   obtain⟨k,U⟩:=p;dsimp only;split
   ·rename_i id off;refine Snd.bind fun J h2=>Snd.val fun _ hd B hc=>?_
    obtain⟨g1,g2⟩:=aX h2 hc;obtain⟨g3,g4⟩:=tK hp g1;exact⟨g3,zJ M ho hd B hi I q hv hu g4 g2⟩
   ·exact Snd.none
  ·exact Snd.none
 ·exact Snd.none
def aXd (md:Bool) (o:Oper) (n:Nat) (st:St) (ob:List Prop) (x:Operand):Ans:=(opO st x).bind fun v=>match v with
 | .one (.ep id k fo sz)=>match st.h id with
  | some (.arr _ _ elems _)=>(need md (sz=elems.length) ob).bind fun ob1=>val o n ⟨opr x,[id]⟩ (.one (.ep id k fo sz)) [] ob1
  | _=>none
 | .one (.rp id k fo sz)=>match st.h id with
  | some (.rarr _ _ elems)=>(need md (sz=elems.length) ob).bind fun ob1=>val o n ⟨opr x,[id]⟩ (.one (.rp id k fo sz)) [] ob1
  | _=>none
 | v=>bif notNil v then val o n ⟨opr x,[]⟩ v [] ob else none
theorem aOb {x:Operand}(ho:o.op=.nilCheck x):Snd P n o st ob (aXd md o n st ob x):=by
 refine Snd.bind fun v hv=>?_
 rw[cB] at hv;split
 ·split
  ·rename_i hh;exact Snd.bind fun r h1=>Snd.val fun _ hd q hc=>⟨(aX h1 hc).1,tY ho hd q hv hh (aX h1 hc).2⟩
  ·exact Snd.none
 ·split
  ·rename_i hh;exact Snd.bind fun r h1=>Snd.val fun _ hd q hc=>⟨(aX h1 hc).1,tX ho hd q hv hh (aX h1 hc).2⟩
  ·exact Snd.none
 ·exact Snd.cond fun h=>Snd.val fun _ hd q hc=>⟨hc,aD9 ho hd q hv h⟩
def r8 (tr:Tr):List (Nat×TypeId)→Option (List (Nat×Nat))
 | []=>some []
 | (off,t)::fs=>(tr.get t).bind fun i=>(r8 tr fs).bind fun l=>some ((off,i.size)::l)
theorem sT {tr:Tr}(hw:tr.wf=true):∀{fs:List (Nat×TypeId)}{l:List (Nat×Nat)},r8 tr fs=some l→lF tr.flat fs=some l
 | [],l,h=>by simpa [r8,lF] using h
 | (off,t)::fs,l,h=>by
  simp only[r8,Ag] at h;obtain⟨i,hi,r,q,h⟩:=h;simp only[lF,Tr.get_ok hw hi,sT hw q,h]
def aB3 (st:St):List (Nat×Operand)→Option (List (Nat×List R))
 | []=>some []
 | (i,x)::ps=>(opO st x).bind fun v=>(pL v).bind fun rs=>(aB3 st ps).bind fun l=>some ((i,rs)::l)
theorem wO (st:St):∀ps:List (Nat×Operand),aB3 st ps=pH st ps
 | []=>rfl
 | (i,x)::ps=>by
  simp only[aB3,pH,cB,iK,wO st ps];cases opv st x with
  | none=>rfl
  | some v=>
   simp only[Ck];cases gK v with
   | none=>rfl
   | some rs=>
    simp only[Ck];cases pH st ps<;>rfl
def aNa (st:St):List Operand→Option (List R)
 | []=>some []
 | x::xs=>(opO st x).bind fun v=>match v with
  | .one r=>(aNa st xs).bind fun l=>some (r::l)
  | _=>none
theorem aC2 (st:St):∀xs:List Operand,aNa st xs=xT st xs
 | []=>rfl
 | x::xs=>by
  simp only[aNa,xT,cB,aC2 st xs];cases opv st x with
  | none=>rfl
  | some v=>
   simp only[Ck];cases v<;>try rfl
   cases xT st xs<;>rfl
def aKi (tr:Tr) (o:Oper) (n:Nat) (st:St) (ob:List Prop) (t:TypeId) (parts:Array (Nat×Operand)):Ans:=(tr.get t).bind fun i=>match i.k with
 | .st fs=>(r8 tr fs).bind fun places=>(aB3 st parts.toList).bind fun ps=>(aE1 places (i.zero.map R.c) ps).bind fun out=>(frc out).bind fun out=>(aYc out).bind fun y=>val o n ⟨fF parts.toList,[]⟩ y [] ob
 | _=>none
theorem aFl {t:TypeId}{parts:Array (Nat×Operand)}(hw:tr.wf=true) (E:Tok P tr.flat) (ho:o.op=.build t parts):Snd P n o st ob (aKi tr o n st ob t parts):=by
 refine Snd.bind fun i hi=>?_
 replace hi:=Tr.get_ok hw hi
 split
 ·rename_i fs I;refine Snd.bind fun places q=>Snd.bind fun ps r=>Snd.bind fun out J=>Snd.bind fun M u=>Snd.bind fun y hy=>Snd.val fun _ hd B hc=>⟨hc,?_⟩
  replace q:=sT hw q
  rw[wO] at r;rw[kK] at u;cases u;rw[aKt] at hy;cases hy;exact aQ0 E ho hd B hi I q r J
 ·exact Snd.none
def nY (tr:Tr):Nat→List TypeId→List Nat
 | 0,_=>[]
 | _+1,[]=>[]
 | f+1,t::ts=>match tr.get t with
  | some i=>match i.k with
   | .sl e=>match tr.get e with
    | some ei=>(ei.size+1)::nY tr f ts
    | none=>0::nY tr f ts
   | .st fs=>nY tr f (fs.map (·.2)++ts)
   | _=>0::nY tr f ts
  | none=>0::nY tr f ts
def nrm:List Nat→List C→List C
 | _,[]=>[]
 | [],cs=>cs
 | 0::es,c::cs=>c::nrm es cs
 | (e+1)::es,c::cs=>(match c with | .nl=>.sl e [] | c=>c)::nrm es cs
theorem mD {h:cE}:∀(es:List Nat) (cs:List C),PureL h [] (cs.map R.c) (nrm es cs)
 | es,[]=>by cases es<;>exact .nil
 | [],c::cs=>.of_pure
 | 0::es,c::cs=>.c .refl (mD es cs)
 | (e+1)::es,c::cs=>by
  simp only[nrm,Ar];split
  ·exact .c .nl (mD es cs)
  ·exact .c .refl (mD es cs)
def aFt:List Nat→List C→Option (List C)
 | _,[]=>some []
 | [],cs=>frc cs
 | 0::es,c::cs=>(aFt es cs).bind fun l=>some (c::l)
 | (e+1)::es,c::cs=>match c with
  | .nl=>(aFt es cs).bind fun l=>some (.sl e []::l)
  | c=>(aFt es cs).bind fun l=>some (c::l)
theorem rA:∀(es:List Nat) (cs:List C),aFt es cs=some (nrm es cs)
 | es,[]=>by cases es with
  | nil=>simp[aFt,nrm]
  | cons e es=>cases e<;>simp[aFt,nrm]
 | [],c::cs=>by simp[aFt,nrm,kK]
 | 0::es,c::cs=>by simp[aFt,nrm,rA es cs]
 | (e+1)::es,c::cs=>by
  simp only[aFt,nrm,rA es cs,Ck];split<;>rfl
def aGs (st:St) (tys:List Nat) (es:Nat):Nat→List (Nat×Operand)→Option (List (List C))
 | _,[]=>some []
 | k,(i,x)::ps=>bif Nat.beq i k then(opO st x).bind fun v=>(pL v).bind fun rs=>(iU rs).bind fun cs=>bif Nat.beq rs.length es then(aFt tys cs).bind fun cs=>(aGs st tys es (k+1) ps).bind fun l=>some (cs::l) else none else none
theorem aBn {st:St}{q:List Nat}{es:Nat}:∀{ps:List (Nat×Operand)}{k:Nat}{l:List (List C)},aGs st q es k ps=some l→RowsV st es k [] ps l
 | [],k,l,h=>by simp[aGs] at h;subst h;exact .nil
 | (i,x)::ps,k,l,h=>by
  simp only[aGs] at h;obtain⟨h0,h⟩:=dL h;have:=Aa h0;subst this;rw[Ag] at h;obtain⟨v,hv,h⟩:=h;rw[Ag] at h;obtain⟨rs,u,h⟩:=h;rw[Ag] at h;obtain⟨cs,y,h⟩:=h;obtain⟨hl,h⟩:=dL h;rw[Ag] at h;obtain⟨cs',r,h⟩:=h;rw[rA] at r;cases r;rw[Ag] at h;obtain⟨E,B,h⟩:=h;cases h;rw[cB] at hv;rw[iK] at u;have hp:PureL st.h [] rs (nrm q cs):=by rw[nN y];exact mD q cs
  exact .cons (ids:=[]) hv u hp hl (aBn B)
def aJ5 (tr:Tr) (o:Oper) (n:Nat) (st:St) (ob:List Prop) (hn:Hn) (id:Nat) (t:TypeId) (len:Nat) (parts:Array (Nat×Operand)):Ans:=(tr.get t).bind fun i=>match i.k with
 | .sl e=>(tr.get e).bind fun ei=>bif Nat.beq len parts.size&&(Nat.ble (len*ei.size) 16777216&&Nat.ble len 16777216) then(match st.h id with
  | none=>match aGs st (nY tr 300 [e]) ei.size 0 parts.toList with
   | some rows=>match hn with
    | .all=>val o n ⟨fF parts.toList,[id]⟩ (.one (.c (.sl ei.size rows))) [(id,some (.arr e ei.size rows 2))] ob
    | _=>val o n ⟨fF parts.toList,[id]⟩ (.one (.hs id 0 len len)) [(id,some (.arr e ei.size rows 0))] ob
   | none=>(tV st ei.size 0 parts.toList).bind fun rows=>val o n ⟨fF parts.toList,[id]⟩ (.one (.ra id 0 len len)) [(id,some (.rarr e ei.size rows))] ob
  | some _=>none) else none
 | _=>none
theorem aFh {hn:Hn}{id:Nat}{t:TypeId}{len:Nat}{parts:Array (Nat×Operand)}(hw:tr.wf=true) (B:Tok P tr.flat) (ho:o.op=.buildSlice t len parts):Snd P n o st ob (aJ5 tr o n st ob hn id t len parts):=by
 refine Snd.bind fun i hi=>?_
 replace hi:=Tr.get_ok hw hi
 split
 ·rename_i e E;refine Snd.bind fun I q=>Snd.cond fun hb=>?_
  replace q:=Tr.get_ok hw q
  simp only[π] at hb;split
  ·rename_i hid;split
   ·rename_i rows u;have y:=aBn u;split
    ·exact Snd.val fun _ hd r hc=>⟨hc,aLv id B ho hd r hi E q y hb.1 hb.2.1 hb.2.2 hid⟩
    ·exact Snd.val fun _ hd r hc=>⟨hc,aGy id B ho hd r hi E q y hb.1 hb.2.1 hb.2.2 hid⟩
   ·exact Snd.bind fun rows y=>Snd.val fun _ hd r hc=>⟨hc,aLu id B ho hd r hi E q y hb.1 hb.2.1 hb.2.2 hid⟩
  ·exact Snd.none
 ·exact Snd.none
def aKd (o:Oper) (n:Nat) (st:St) (ob:List Prop) (f:Fn) (first caps:Array Operand):Ans:=match f with
 | .func f=>match first.toList with
  | []=>(aNa st caps.toList).bind fun l=>val o n ⟨c7 caps.toList,[]⟩ (.one (.clo f l)) [] ob
  | [x]=>match caps.toList with
   | []=>(opO st x).bind fun v=>match v with
    | .one c=>val o n ⟨opr x,[]⟩ (.one (.mth f c)) [] ob
    | _=>none
   | _=>none
  | _=>none
 | _=>none
theorem toList_nil {α:Type}{a:Array α}(h:a.toList=[]):a= #[]:=by
 cases a;simp at h;simp[h]
theorem aD1 {α:Type}{a:Array α}{x:α}(h:a.toList=[x]):a= #[x]:=by
 cases a;simp at h;simp[h]
theorem aKc {f:Fn}{first caps:Array Operand}(ho:o.op=.makeFunc f first caps):Snd P n o st ob (aKd o n st ob f first caps):=by
 unfold aKd;split
 ·rename_i f;split
  ·rename_i h1;have:=toList_nil h1;subst this;refine Snd.bind fun l hl=>Snd.val fun _ hd q hc=>⟨hc,sP ho hd q (by rw[←aC2];exact hl)⟩
  ·rename_i x h1;have:=aD1 h1;subst this;split
   ·rename_i h2;have:=toList_nil h2;subst this;refine Snd.bind fun v hv=>?_
    split
    ·exact Snd.val fun _ hd q hc=>⟨hc,wG ho hd q (by rw[←cB];exact hv)⟩
    ·exact Snd.none
   ·exact Snd.none
  ·exact Snd.none
 ·exact Snd.none
def aTw (st:St) (m:Nat):Option Operand→Option Nat
 | none=>some m
 | some x=>(opO st x).bind fun v=>match v with
  | .one (.c (.int _ (.ofNat k)))=>some k
  | _=>none
theorem lS {m k:Nat}{x:Option Operand}(h:aTw st m x=some k):BndV st x m k:=by
 cases x with
 | none=>cases h;exact .no
 | some x=>
  simp only[aTw,Ag,cB] at h;obtain⟨v,hv,h⟩:=h;split at h
  ·cases h;exact .yes hv
  ·cases h
def aX7 {α:Type}(l:List α) (lo hi:Nat) (low high:Option Operand):Option (List α):=match low,high with
 | none,none=>some l
 | none,some _=>some (l.take hi)
 | some _,none=>some (l.drop lo)
 | some _,some _=>some ((l.take hi).drop lo)
theorem aI5 {α:Type}{l r:List α}{lo hi:Nat}{low high:Option Operand}(h1:BndV st low 0 lo) (h2:BndV st high l.length hi) (h:aX7 l lo hi low high=some r):r=(l.take hi).drop lo:=by
 cases h1<;>cases h2<;>simp[aX7] at h<;>simp[h]
def aS6 (tr:Tr) (md:Bool) (o:Oper) (n:Nat) (st:St) (ob:List Prop) (t:TypeId) (x:Operand) (low high mx:Option Operand):Ans:=match mx with
 | some _=>none
 | none=>(tr.get t).bind fun i=>(opO st x).bind fun v=>match i.k with
  | .sl e=>(tr.get e).bind fun ei=>match v with
   | .one (.c (.sl es l))=>bif Nat.beq ei.size es then(aTw st 0 low).bind fun lo=>(aTw st l.length high).bind fun hi=>(need md (lo≤hi) ob).bind fun ob1=>(need md (hi≤l.length) ob1).bind fun ob2=>
     (aX7 l lo hi low high).bind fun r=>val o n ⟨opr x++aN4 low++aN4 high,[]⟩ (.one (.c (.sl es r))) [] ob2 else none
   | _=>none
  | .str=>match v with
   | .one (.c (.str s))=>(aTw st 0 low).bind fun lo=>(aTw st s.length high).bind fun hi=>(need md (lo≤hi) ob).bind fun ob1=>(need md (hi≤s.length) ob1).bind fun ob2=>
     (aX7 s lo hi low high).bind fun r=>val o n ⟨opr x++aN4 low++aN4 high,[]⟩ (.one (.c (.str r))) [] ob2
   | _=>none
  | _=>none
theorem aOf {t:TypeId}{x:Operand}{low high M:Option Operand}(hw:tr.wf=true) (O:Tok P tr.flat) (ho:o.op=.slice t x low high M):Snd P n o st ob (aS6 tr md o n st ob t x low high M):=by
 unfold aS6;split
 ·exact Snd.none
 ·refine Snd.bind fun i y=>Snd.bind fun v hv=>?_
  replace y:=Tr.get_ok hw y
  rw[cB] at hv;split
  ·rename_i e I;refine Snd.bind fun ei B=>?_
   replace B:=Tr.get_ok hw B
   split
   ·rename_i es l;refine Snd.cond fun U=>Snd.bind fun lo q=>Snd.bind fun hi u=>Snd.bind fun Y h1=>Snd.bind fun aa h2=>Snd.bind fun r J=>Snd.val fun _ hd E hc=>?_
    obtain⟨g1,g2⟩:=aX h2 hc;obtain⟨g3,g4⟩:=aX h1 g1;rw[aI5 (lS q) (lS u) J];exact⟨g3,aY6 O ho hd E y I B (Aa U) hv (lS q) (lS u) g4 g2⟩
   ·exact Snd.none
  ·rename_i I;split
   ·rename_i s;refine Snd.bind fun lo q=>Snd.bind fun hi u=>Snd.bind fun Y h1=>Snd.bind fun aa h2=>Snd.bind fun r J=>Snd.val fun _ hd E hc=>?_
    obtain⟨g1,g2⟩:=aX h2 hc;obtain⟨g3,g4⟩:=aX h1 g1;rw[aI5 (lS q) (lS u) J];exact⟨g3,aUs O ho hd E y I hv (lS q) (lS u) g4 g2⟩
   ·exact Snd.none
  ·exact Snd.none
def aKb (tr:Tr) (o:Oper) (n:Nat) (st:St) (ob:List Prop) (hn:Hn) (t:TypeId) (x y:Operand):Ans:=(tr.get t).bind fun i=>match i.k with
 | .str=>(opO st x).bind fun v=>(opO st y).bind fun u=>match v,u with
  | .one (.c (.str s)),.one (.c (.int _ m))=>match hn with
   | .byte k b=>val o n ⟨opr x++opr y,[]⟩ (.one (.c (.int .u8 ((b.toNat:Nat):Int)))) [] ((m=(k:Int)∧s[k]?=some b)::ob)
   | _=>match m with
    | .ofNat k=>(s[k]?).bind fun b=>val o n ⟨opr x++opr y,[]⟩ (.one (.c (.int .u8 ((b.toNat:Nat):Int)))) [] ob
    | _=>none
  | _,_=>none
 | _=>none
theorem aFi {hn:Hn}{t:TypeId}{x y:Operand}(hw:tr.wf=true) (r:Tok P tr.flat) (ho:o.op=.index t x y):Snd P n o st ob (aKb tr o n st ob hn t x y):=by
 refine Snd.bind fun i hi=>?_
 replace hi:=Tr.get_ok hw hi
 split
 ·rename_i B;refine Snd.bind fun v hv=>Snd.bind fun u hu=>?_
  rw[cB] at hv hu;split
  ·split
   ·exact Snd.val fun _ hd q hc=>⟨hc.2,aOy r ho hd q hi B hv hu hc.1.1 hc.1.2⟩
   ·split
    ·exact Snd.bind fun b hb=>Snd.val fun _ hd q hc=>⟨hc,aOy r ho hd q hi B hv hu rfl hb⟩
    ·exact Snd.none
  ·exact Snd.none
 ·exact Snd.none
def aH1:List (List C)→Bool
 | []=>true
 | (.str _::_)::r=>aH1 r
 | _::_=>false
theorem wQ:∀l:List (List C),aH1 l=true↔lI l
 | []=>by simp[aH1,lI]
 | []::r=>by simp[aH1,lI]
 | (c::vs)::r=>by
  cases c<;>simp[aH1,lI];exact wQ r
instance (l:List (List C)):Decidable (lI l):=decidable_of_iff _ (wQ l)
def aM0 (st:St) (agg:Bool):V→Option (List Nat×List (List C))
 | .one (.mr id)=>match st.h id with
  | some (.map a ents)=>bif a==agg then some ([id],ents) else none
  | _=>none
 | .one (.c (.mp a ents))=>bif a==agg then some ([],ents) else none
 | .one (.c (.zv 0))=>some ([],[])
 | _=>none
theorem uR {st:St}{agg:Bool}{v:V}{ids:List Nat}{ents:List (List C)}(h:aM0 st agg v=some (ids,ents)):MapE st ids v agg ents:=by
 unfold aM0 at h;split at h
 ·split at h
  ·rename_i hh;obtain⟨h1,h2⟩:=dL h;cases h2;exact .mr (by rw[hh,eq_of_beq h1])
  ·cases h
 ·obtain⟨h1,h2⟩:=dL h;cases h2;rw[eq_of_beq h1];exact .mp
 ·cases h;exact .nil
 ·cases h
def aRo (md:Bool) (hn:Hn) (k:List UInt8) (ents:List (List C)) (ob:List Prop):Option (Option (List C)×List Prop):=match hn with
 | .look r=>some (r,(jY k ents=r)::ob)
 | _=>bif md then some (jY k ents,ob) else match jY k ents with
  | some r=>some (some r,ob)
  | none=>some (none,ob)
theorem aCq {md:Bool}{hn:Hn}{k:List UInt8}{ents:List (List C)}{ob q:List Prop}{r:Option (List C)}(h:aRo md hn k ents ob=some (r,q)):hD q→hD ob∧jY k ents=r:=by
 unfold aRo at h;split at h
 ·cases h;exact fun h=>⟨h.2,h.1⟩
 ·cases md
  ·simp only[Bp] at h;split at h
   ·rename_i h1;cases h;exact fun h=>⟨h,h1⟩
   ·rename_i h1;cases h;exact fun h=>⟨h,h1⟩
  ·cases h;exact fun h=>⟨h,rfl⟩
def yH (tr:Tr) (md:Bool) (o:Oper) (n:Nat) (st:St) (ob:List Prop) (hn:Hn) (t:TypeId) (x y:Operand) (ok:Bool):Ans:=(tr.get t).bind fun i=>match i.k with
 | .mp kt et=>(tr.get kt).bind fun ki=>(tr.get et).bind fun ei=>match ki.k with
  | .str=>(opO st x).bind fun v=>(aM0 st ei.k.agg v).bind fun(ids,ents)=>(opO st y).bind fun u=>match u with
   | .one (.c (.str k))=>(need md (lI ents) ob).bind fun ob1=>(aRo md hn k ents ob1).bind fun(r,ob2)=>match ok with
    | true=>val o n ⟨opr x++opr y,ids⟩ (.tup [pS ei r,.one (.c (.bool (aIa r)))]) [] ob2
    | false=>val o n ⟨opr x++opr y,ids⟩ (pS ei r) [] ob2
   | _=>none
  | _=>none
 | _=>none
theorem yG {hn:Hn}{t:TypeId}{x y:Operand}{ok:Bool}(hw:tr.wf=true) (J:Tok P tr.flat) (ho:o.op=.lookup t x y ok):Snd P n o st ob (yH tr md o n st ob hn t x y ok):=by
 refine Snd.bind fun i hi=>?_
 replace hi:=Tr.get_ok hw hi
 split
 ·rename_i Y et M;refine Snd.bind fun ki q=>Snd.bind fun ei B=>?_
  replace q:=Tr.get_ok hw q
  replace B:=Tr.get_ok hw B
  split
  ·rename_i I;refine Snd.bind fun v hv=>Snd.bind fun p hp=>?_
   obtain⟨ids,ents⟩:=p;refine Snd.bind fun u hu=>?_
   rw[cB] at hv hu;split
   ·rename_i k;refine Snd.bind fun O h1=>Snd.bind fun p h2=>?_
    obtain⟨r,U⟩:=p;dsimp only;split
    ·refine Snd.val fun _ hd E hc=>?_
     obtain⟨g1,g2⟩:=aCq h2 hc;obtain⟨g3,g4⟩:=aX h1 g1;have:=tZ J ho hd E hi M q I B rfl hv (uR hp) g4 hu g2;exact⟨g3,by simpa using this⟩
    ·refine Snd.val fun _ hd E hc=>?_
     obtain⟨g1,g2⟩:=aCq h2 hc;obtain⟨g3,g4⟩:=aX h1 g1;have:=tZ J ho hd E hi M q I B rfl hv (uR hp) g4 hu g2;exact⟨g3,by simpa using this⟩
   ·exact Snd.none
  ·exact Snd.none
 ·exact Snd.none
def yF (tr:Tr) (md:Bool) (o:Oper) (n:Nat) (st:St) (ob:List Prop) (w:V) (t:TypeId) (x y:Operand):Ans:=(tr.get t).bind fun i=>match i.k with
 | .mp kt et=>(tr.get kt).bind fun ki=>(tr.get et).bind fun ei=>match ki.k with
  | .str=>(opO st x).bind fun v=>(aM0 st ei.k.agg v).bind fun(ids,ents)=>(opO st y).bind fun u=>match u with
   | .one (.c (.str k))=>(need md (lI ents) ob).bind fun ob1=>val o n ⟨opr x++opr y,ids⟩ w [] ((pS ei (jY k ents)=w)::ob1)
   | _=>none
  | _=>none
 | _=>none
theorem yE {w:V}{t:TypeId}{x y:Operand}(hw:tr.wf=true) (I:Tok P tr.flat) (ho:o.op=.lookup t x y false):Snd P n o st ob (yF tr md o n st ob w t x y):=by
 refine Snd.bind fun i hi=>?_
 replace hi:=Tr.get_ok hw hi
 split
 ·rename_i O U J;refine Snd.bind fun Y q=>Snd.bind fun ei r=>?_
  replace q:=Tr.get_ok hw q
  replace r:=Tr.get_ok hw r
  split
  ·rename_i B;refine Snd.bind fun v hv=>Snd.bind fun p hp=>?_
   obtain⟨ids,ents⟩:=p;refine Snd.bind fun u hu=>?_
   rw[cB] at hv hu;split
   ·rename_i k;refine Snd.bind fun M h1=>Snd.val fun _ hd E hc=>?_
    obtain⟨g3,g4⟩:=aX h1 hc.2;have:=tZ I ho hd E hi J q B r rfl hv (uR hp) g4 hu rfl;refine⟨g3,?_⟩;rw[←hc.1];simpa using this
   ·exact Snd.none
  ·exact Snd.none
 ·exact Snd.none
def vA (tr:Tr) (md:Bool) (o:Oper) (n:Nat) (st:St) (ob:List Prop) (hn:Hn) (t:TypeId) (x y:Operand) (ok:Bool):Ans:=match ok,hn with
 | false,.pc w=>yF tr md o n st ob w t x y
 | ok,hn=>yH tr md o n st ob hn t x y ok
theorem aAw {hn:Hn}{t:TypeId}{x y:Operand}{ok:Bool}(hw:tr.wf=true) (q:Tok P tr.flat) (ho:o.op=.lookup t x y ok):Snd P n o st ob (vA tr md o n st ob hn t x y ok):=by
 unfold vA;split
 ·exact yE hw q ho
 ·exact yG hw q ho
def aVm (md:Bool) (k:List UInt8) (cs:List C) (ents:List (List C)):Option (List (List C)):=bif md then some (aEq k cs ents) else frc (aEq k cs ents)
theorem aCa (md:Bool) (k:List UInt8) (cs:List C) (ents:List (List C)):aVm md k cs ents=some (aEq k cs ents):=by
 cases md
 ·exact kK _
 ·rfl
def kE (tr:Tr) (md:Bool) (o:Oper) (st:St) (ob:List Prop) (t:TypeId) (x y z:Operand):Ans:=(tr.get t).bind fun i=>match i.k with
 | .mp kt _=>(tr.get kt).bind fun ki=>match ki.k with
  | .str=>(opO st x).bind fun v=>match v with
   | .one (.mr id)=>match st.h id with
    | some (.map agg ents)=>(opO st y).bind fun u=>match u with
     | .one (.c (.str k))=>(opO st z).bind fun v=>bif (match v with | .one _=>!agg | .pa _=>agg | .ma _=>agg | _=>false) then(pL v).bind fun rs=>
      (need md (lI ents) ob).bind fun ob1=>(aVm md k (aU5 rs) ents).bind fun e'=>eff o ⟨opr x++opr y++opr z,[id]⟩ [(id,some (.map agg e'))] ob1 else none
     | _=>none
    | _=>none
   | _=>none
  | _=>none
 | _=>none
theorem sJ {t:TypeId}{x y z:Operand}(hw:tr.wf=true) (J:Tok P tr.flat) (ho:o.op=.mapUpdate t x y z):Snd P n o st ob (kE tr md o st ob t x y z):=by
 refine Snd.bind fun i hi=>?_
 replace hi:=Tr.get_ok hw hi
 split
 ·rename_i U Y M;refine Snd.bind fun ki q=>?_
  replace q:=Tr.get_ok hw q
  split
  ·rename_i B;refine Snd.bind fun v hv=>?_
   rw[cB] at hv;split
   ·rename_i id;split
    ·rename_i agg ents hh;refine Snd.bind fun u hu=>?_
     rw[cB] at hu;split
     ·rename_i k;refine Snd.bind fun z E=>Snd.cond fun I=>Snd.bind fun rs r=>Snd.bind fun O h1=>Snd.bind fun e' he=>Snd.eff fun hd hc=>?_
      rw[cB] at E;rw[iK] at r;rw[aCa] at he;cases he;obtain⟨g1,g2⟩:=aX h1 hc;exact⟨g1,zI (ids:=[]) J ho hd hi M q B hv hh g2 hu E (by cases z<;>first | rfl | exact I) r .ofA⟩
     ·exact Snd.none
    ·exact Snd.none
   ·exact Snd.none
  ·exact Snd.none
 ·exact Snd.none
theorem aAx {t:TypeId}{x y z:Operand}(hw:tr.wf=true) (J:Tok P tr.flat) (ho:o.op=.insert t x y z):Snd P n o st ob (kE tr md o st ob t x y z):=by
 refine Snd.bind fun i hi=>?_
 replace hi:=Tr.get_ok hw hi
 split
 ·rename_i U Y M;refine Snd.bind fun ki q=>?_
  replace q:=Tr.get_ok hw q
  split
  ·rename_i B;refine Snd.bind fun v hv=>?_
   rw[cB] at hv;split
   ·rename_i id;split
    ·rename_i agg ents hh;refine Snd.bind fun u hu=>?_
     rw[cB] at hu;split
     ·rename_i k;refine Snd.bind fun z E=>Snd.cond fun I=>Snd.bind fun rs r=>Snd.bind fun O h1=>Snd.bind fun e' he=>Snd.eff fun hd hc=>?_
      rw[cB] at E;rw[iK] at r;rw[aCa] at he;cases he;obtain⟨g1,g2⟩:=aX h1 hc;exact⟨g1,aL2 (ids:=[]) J ho hd hi M q B hv hh g2 hu E (by cases z<;>first | rfl | exact I) r .ofA⟩
     ·exact Snd.none
    ·exact Snd.none
   ·exact Snd.none
  ·exact Snd.none
 ·exact Snd.none
end
section
variable {QP:Value→Prop}{P:Program}{n:Nat}{o:Oper}{st:St}{ob:List Prop}{tr:Tr}{md nat:Bool}
def arith (md nat:Bool) (op:BinOp) (a b:Int) (ob:List Prop):Option (Int×List Prop):=match op with
 | .add=>bif nat then(match a,b with | .ofNat x,.ofNat y=>(need md (x+y≤9223372036854775807) ob).bind fun ob1=>some (((x+y:Nat):Int),ob1) | _,_=>none)
  else(need md (-9223372036854775808≤a+b∧a+b≤9223372036854775807) ob).bind fun ob1=>some (a+b,ob1)
 | .sub=>bif nat then(match a,b with | .ofNat x,.ofNat y=>(need md (y≤x∧x≤9223372036854775807) ob).bind fun ob1=>some (((x-y:Nat):Int),ob1) | _,_=>none)
  else(need md (-9223372036854775808≤a-b∧a-b≤9223372036854775807) ob).bind fun ob1=>some (a-b,ob1)
 | .mul=>bif nat then(match a,b with | .ofNat x,.ofNat y=>(need md (x*y≤9223372036854775807) ob).bind fun ob1=>some (((x*y:Nat):Int),ob1) | _,_=>none)
  else(need md (-9223372036854775808≤a*b∧a*b≤9223372036854775807) ob).bind fun ob1=>some (a*b,ob1)
 | .quo=>bif nat then(match a,b with | .ofNat x,.ofNat y=>(need md (x≤9223372036854775807∧1≤y) ob).bind fun ob1=>some (((x/y:Nat):Int),ob1) | _,_=>none)
  else(need md (0≤a∧a≤9223372036854775807∧1≤b) ob).bind fun ob1=>some (a/b,ob1)
 | .rem=>bif nat then(match a,b with | .ofNat x,.ofNat y=>(need md (1≤y) ob).bind fun ob1=>some (((x%y:Nat):Int),ob1) | _,_=>none)
  else(need md (0≤a∧1≤b) ob).bind fun ob1=>some (a%b,ob1)
 | _=>none
theorem sI {α:Type}{q:List Prop}{x:Option (List Prop)}{r r':α}(h:(x.bind fun u=>some (r,u))=some (r',q)):x=some q∧r'=r:=by
 rw[Ag] at h;obtain⟨u,h1,h2⟩:=h;cases h2;exact⟨h1,rfl⟩
theorem aOi {op:BinOp}{B ty:TypeId}{x y:Operand}{d:Nat}{a b r:Int}{u:List Prop}(ho:o.op=.binOp op B x y ty) (hd:o.dst=some d) (q:d<n) (hx:opv st x=some (I .i64 a)) (hy:opv st y=some (I .i64 b)) (h:arith md nat op a b ob=some (r,u)):
  hD u→hD ob∧Step P n o st ⟨opr x++opr y,[]⟩ ⟨some (d,some (I .i64 r)),[]⟩:=by
 intro hc;unfold arith at h;cases nat<;>cases op<;>simp only[Bw,Bp] at h<;>try (cases h;done)
 ·obtain⟨h1,rfl⟩:=sI h;obtain⟨g,k⟩:=aX h1 hc;exact⟨g,aU4 ho hd q hx hy k⟩
 ·obtain⟨h1,rfl⟩:=sI h;obtain⟨g,k⟩:=aX h1 hc;exact⟨g,aUo ho hd q hx hy k⟩
 ·obtain⟨h1,rfl⟩:=sI h;obtain⟨g,k⟩:=aX h1 hc;exact⟨g,aUz ho hd q hx hy k⟩
 ·obtain⟨h1,rfl⟩:=sI h;obtain⟨g,k⟩:=aX h1 hc;exact⟨g,aO0 ho hd q hx hy k⟩
 ·obtain⟨h1,rfl⟩:=sI h;obtain⟨g,k⟩:=aX h1 hc;exact⟨g,aOz ho hd q hx hy k⟩
 all_goals cases a<;>cases b<;>simp only at h<;>try (cases h;done)
 ·obtain⟨h1,rfl⟩:=sI h;obtain⟨g,k⟩:=aX h1 hc;exact⟨g,aU3 ho hd q hx hy k⟩
 ·obtain⟨h1,rfl⟩:=sI h;obtain⟨g,k⟩:=aX h1 hc;exact⟨g,aUn ho hd q hx hy k⟩
 ·obtain⟨h1,rfl⟩:=sI h;obtain⟨g,k⟩:=aX h1 hc;exact⟨g,aUy ho hd q hx hy k⟩
 ·obtain⟨h1,rfl⟩:=sI h;obtain⟨g,k⟩:=aX h1 hc;exact⟨g,aUv ho hd q hx hy k⟩
 ·obtain⟨h1,rfl⟩:=sI h;obtain⟨g,k⟩:=aX h1 hc;exact⟨g,aUu ho hd q hx hy k⟩
def aZs (op:BinOp) (a b:Int):Option Bool:=match op with
 | .lss=>some (decide (a<b))
 | .leq=>some (decide (a≤b))
 | .gtr=>some (decide (b<a))
 | .geq=>some (decide (b≤a))
 | .eql=>some (decide (a=b))
 | .neq=>some (!decide (a=b))
 | _=>none
theorem aR3 {op:BinOp}{u ty:TypeId}{x y:Operand}{d:Nat}{k:IntKind}{a b:Int}{r:Bool}(ho:o.op=.binOp op u x y ty) (hd:o.dst=some d) (q:d<n) (hx:opv st x=some (I k a)) (hy:opv st y=some (I k b)) (h:aZs op a b=some r):
  Step P n o st ⟨opr x++opr y,[]⟩ ⟨some (d,some (B r)),[]⟩:=by
 unfold aZs at h;cases op<;>simp only at h<;>try (cases h;done)
 ·cases h;exact aY5 ho hd q hx hy
 ·cases h;exact aYx ho hd q hx hy
 ·cases h;exact aY1 ho hd q hx hy
 ·cases h;exact aY2 ho hd q hx hy
 ·cases h;exact aY3 ho hd q hx hy
 ·cases h;exact aY4 ho hd q hx hy
def aQc (op:BinOp) (k:IntKind) (a b:Int):Option Int:=match op with
 | .add=>some (k.wrap (a+b))
 | .sub=>some (k.wrap (a-b))
 | .mul=>some (k.wrap (a*b))
 | _=>none
theorem aK5 {op:BinOp}{u ty:TypeId}{x y:Operand}{d:Nat}{k:IntKind}{a b r:Int}(ho:o.op=.binOp op u x y ty) (hd:o.dst=some d) (q:d<n) (hx:opv st x=some (I k a)) (hy:opv st y=some (I k b)) (h:aQc op k a b=some r):
  Step P n o st ⟨opr x++opr y,[]⟩ ⟨some (d,some (I k r)),[]⟩:=by
 unfold aQc at h;cases op<;>simp only at h<;>try (cases h;done)
 ·cases h;exact aQ2 ho hd q hx hy rfl
 ·cases h;exact aQr ho hd q hx hy rfl
 ·cases h;exact aQv ho hd q hx hy rfl
def aRk:IntKind→Bool
 | .i64=>true
 | _=>false
def aXg (tr:Tr) (md nat:Bool) (o:Oper) (n:Nat) (st:St) (ob:List Prop) (op:BinOp) (tx:TypeId) (x y:Operand):Ans:=(opO st x).bind fun v=>(opO st y).bind fun u=>match v,u with
 | .one (.c (.int k a)),.one (.c (.int k' b))=>bif decide (k=k') then(match aZs op a b with
   | some r=>val o n ⟨opr x++opr y,[]⟩ (.one (.c (.bool r))) [] ob
   | none=>bif aRk k then(arith md nat op a b ob).bind fun(r,ob1)=>val o n ⟨opr x++opr y,[]⟩ (.one (.c (.int .i64 r))) [] ob1
    else(aQc op k a b).bind fun r=>val o n ⟨opr x++opr y,[]⟩ (.one (.c (.int k r))) [] ob) else none
 | .one (.c (.str a)),.one (.c (.str b))=>match op with
  | .eql=>val o n ⟨opr x++opr y,[]⟩ (.one (.c (.bool (decide (a=b))))) [] ob
  | .neq=>val o n ⟨opr x++opr y,[]⟩ (.one (.c (.bool (!decide (a=b))))) [] ob
  | .lss=>val o n ⟨opr x++opr y,[]⟩ (.one (.c (.bool (Op.bytesLess a b)))) [] ob
  | .add=>(need md (a.length+b.length≤maxLen) ob).bind fun ob1=>val o n ⟨opr x++opr y,[]⟩ (.one (.c (.str (a++b)))) [] ob1
  | _=>none
 | .one (.c (.bool a)),.one (.c (.bool b))=>(tr.get tx).bind fun i=>match i.k with
  | .bool=>match op with
   | .eql=>val o n ⟨opr x++opr y,[]⟩ (.one (.c (.bool (a==b)))) [] ob
   | .neq=>val o n ⟨opr x++opr y,[]⟩ (.one (.c (.bool (!(a==b))))) [] ob
   | _=>none
  | _=>none
 | v,.one (.c .np)=>(tr.get tx).bind fun i=>match i.k with
  | .pt _=>(wH v).bind fun b=>match op with
   | .eql=>val o n ⟨opr x++opr y,[]⟩ (.one (.c (.bool b))) [] ob
   | .neq=>val o n ⟨opr x++opr y,[]⟩ (.one (.c (.bool (!b)))) [] ob
   | _=>none
  | _=>none
 | v,.one (.c .nl)=>(tr.get tx).bind fun i=>match i.k with
  | .sl _=>(aLk v).bind fun b=>match op with
   | .eql=>val o n ⟨opr x++opr y,[]⟩ (.one (.c (.bool b))) [] ob
   | _=>none
  | _=>none
 | _,_=>none
theorem aOh {op:BinOp}{J ty:TypeId}{x y:Operand}(hw:tr.wf=true) (E:Tok P tr.flat) (ho:o.op=.binOp op J x y ty):Snd P n o st ob (aXg tr md nat o n st ob op J x y):=by
 refine Snd.bind fun v hv=>Snd.bind fun u hu=>?_
 rw[cB] at hv hu;split
 ·rename_i k a k' b;refine Snd.cond fun B=>?_
  have M:=κ B;subst M;split
  ·rename_i r I;exact Snd.val fun _ hd q hc=>⟨hc,aR3 ho hd q hv hu I⟩
  ·cases hi:aRk k with
   | true=>
    simp only[Bw];cases k<;>simp only[aRk] at hi<;>try (cases hi;done)
    refine Snd.bind fun p hp=>?_
    obtain⟨r,O⟩:=p;exact Snd.val fun _ hd q hc=>aOi ho hd q hv hu hp hc
   | false=>
    simp only[Bp];exact Snd.bind fun r I=>Snd.val fun _ hd q hc=>⟨hc,aK5 ho hd q hv hu I⟩
 ·split
  ·exact Snd.val fun _ hd q hc=>⟨hc,aUr ho hd q hv hu⟩
  ·exact Snd.val fun _ hd q hc=>⟨hc,aUp ho hd q hv hu⟩
  ·exact Snd.val fun _ hd q hc=>⟨hc,aUq ho hd q hv hu⟩
  ·exact Snd.bind fun O h1=>Snd.val fun _ hd q hc=>⟨(aX h1 hc).1,aUt ho hd q hv hu (aX h1 hc).2⟩
  ·exact Snd.none
 ·refine Snd.bind fun i hi=>?_
  replace hi:=Tr.get_ok hw hi
  split
  ·rename_i B;split
   ·exact Snd.val fun _ hd q hc=>⟨hc,aU2 E ho hd q hi B hv hu⟩
   ·exact Snd.val fun _ hd q hc=>⟨hc,aU1 E ho hd q hi B hv hu⟩
   ·exact Snd.none
  ·exact Snd.none
 ·refine Snd.bind fun i hi=>?_
  replace hi:=Tr.get_ok hw hi
  split
  ·rename_i B;refine Snd.bind fun b hb=>?_
   split
   ·exact Snd.val fun _ hd q hc=>⟨hc,aUx E ho hd q hi B hv hb hu⟩
   ·exact Snd.val fun _ hd q hc=>⟨hc,aUw E ho hd q hi B hv hb hu⟩
   ·exact Snd.none
  ·exact Snd.none
 ·refine Snd.bind fun i hi=>?_
  replace hi:=Tr.get_ok hw hi
  split
  ·rename_i B;refine Snd.bind fun b hb=>?_
   split
   ·exact Snd.val fun _ hd q hc=>⟨hc,aQu E ho hd q hi B hv hb hu⟩
   ·exact Snd.none
  ·exact Snd.none
 ·exact Snd.none
def a0f (md:Bool) (o:Oper) (n:Nat) (st:St) (ob:List Prop) (op:UnOp) (x:Operand):Ans:=(opO st x).bind fun v=>match v with
 | .one (.c (.bool b))=>match op with
  | .not=>val o n ⟨opr x,[]⟩ (.one (.c (.bool (!b)))) [] ob
  | _=>none
 | .one (.c (.int .i64 a))=>match op with
  | .neg=>(need md (-9223372036854775808≤0-a∧0-a≤9223372036854775807) ob).bind fun ob1=>val o n ⟨opr x,[]⟩ (.one (.c (.int .i64 (0-a)))) [] ob1
  | _=>none
 | _=>none
theorem aS3 {op:UnOp}{t:TypeId}{x:Operand}(ho:o.op=.unOp op t x):Snd P n o st ob (a0f md o n st ob op x):=by
 refine Snd.bind fun v hv=>?_
 rw[cB] at hv;split
 ·split
  ·exact Snd.val fun _ hd q hc=>⟨hc,aYw ho hd q hv⟩
  ·exact Snd.none
 ·split
  ·exact Snd.bind fun r h1=>Snd.val fun _ hd q hc=>⟨(aX h1 hc).1,aYy ho hd q hv (B2 _ (aX h1 hc).2)⟩
  ·exact Snd.none
 ·exact Snd.none
def aXe (tr:Tr) (md:Bool) (o:Oper) (n:Nat) (st:St) (ob:List Prop) (x:Operand) (t:TypeId):Ans:=(tr.get t).bind fun i=>(opO st x).bind fun v=>match i.k with
 | .sl _=>match v with
  | .one (.c (.sl _ l))=>val o n ⟨opr x,[]⟩ (.one (.c (.int .i64 ((l.length:Nat):Int)))) [] ob
  | .one (.c .nl)=>val o n ⟨opr x,[]⟩ (.one (.c (.int .i64 0))) [] ob
  | .one (.ras n' _ _)=>val o n ⟨opr x,[]⟩ (.one (.c (.int .i64 ((n':Nat):Int)))) [] ob
  | .one (.hs id _ len sz)=>match st.h id with
   | some (.arr _ _ elems _)=>(need md (sz=elems.length) ob).bind fun ob1=>val o n ⟨opr x,[id]⟩ (.one (.c (.int .i64 ((len:Nat):Int)))) [] ob1
   | _=>none
  | .one (.ra id _ len sz)=>match st.h id with
   | some (.rarr _ _ elems)=>(need md (sz=elems.length) ob).bind fun ob1=>val o n ⟨opr x,[id]⟩ (.one (.c (.int .i64 ((len:Nat):Int)))) [] ob1
   | _=>none
  | _=>none
 | .str=>match v with
  | .one (.c (.str s))=>val o n ⟨opr x,[]⟩ (.one (.c (.int .i64 ((s.length:Nat):Int)))) [] ob
  | _=>none
 | .mp _ _=>match v with
  | .one (.mr id)=>match st.h id with
   | some (.map _ ents)=>(need md (lI ents) ob).bind fun ob1=>val o n ⟨opr x,[id]⟩ (.one (.c (.int .i64 ((ents.length:Nat):Int)))) [] ob1
   | _=>none
  | _=>none
 | _=>none
theorem aOd {x:Operand}{t:TypeId}(hw:tr.wf=true) (u:Tok P tr.flat) (ho:o.op=.call { callee:=.builtin .len,args:= #[x],argTypes:= #[t] }):Snd P n o st ob (aXe tr md o n st ob x t):=by
 refine Snd.bind fun i hi=>Snd.bind fun v hv=>?_
 replace hi:=Tr.get_ok hw hi
 rw[cB] at hv;split
 ·rename_i r;split
  ·exact Snd.val fun _ hd q hc=>⟨hc,aLy u ho hd q hi r hv⟩
  ·exact Snd.val fun _ hd q hc=>⟨hc,aL0 u ho hd q hi r hv⟩
  ·exact Snd.val fun _ hd q hc=>⟨hc,aG6 u ho hd q hi r hv⟩
  ·split
   ·rename_i hh;exact Snd.bind fun y h1=>Snd.val fun _ hd q hc=>⟨(aX h1 hc).1,aL1 u ho hd q hi r hv hh (aX h1 hc).2⟩
   ·exact Snd.none
  ·split
   ·rename_i hh;exact Snd.bind fun y h1=>Snd.val fun _ hd q hc=>⟨(aX h1 hc).1,aLz u ho hd q hi r hv hh (aX h1 hc).2⟩
   ·exact Snd.none
  ·exact Snd.none
 ·rename_i r;split
  ·exact Snd.val fun _ hd q hc=>⟨hc,aG5 u ho hd q hi r hv⟩
  ·exact Snd.none
 ·rename_i r;split
  ·split
   ·rename_i hh;exact Snd.bind fun y h1=>Snd.val fun _ hd q hc=>⟨(aX h1 hc).1,aG7 u ho hd q hi r hv hh (aX h1 hc).2⟩
   ·exact Snd.none
  ·exact Snd.none
 ·exact Snd.none
def aXs (md:Bool) (st:St) (es:Nat) (hn:Hn) (v:V) (ob:List Prop):Option (List Nat×List (List C)×List Prop):=match v with
 | .one (.hs id off len sz)=>match st.h id with
  | some (.arr _ es' elems _)=>bif Nat.beq es' es then(need md (sz=elems.length) ob).bind fun ob1=>(match hn with
   | .all=>some ([id],elems,(off=0∧len=sz)::ob1)
   | .c rows=>some ([id],rows,(rows=(elems.drop off).take len)::ob1)
   | _=>bif Nat.beq off 0&&Nat.beq len sz then some ([id],elems,ob1) else some ([id],(elems.drop off).take len,ob1)) else none
  | _=>none
 | .one (.c (.sl es' l))=>bif Nat.beq es' es then some ([],l,ob) else none
 | .one (.c (.sn es' l))=>bif Nat.beq es' es then some ([],l,ob) else none
 | .one (.c .nl)=>some ([],[],ob)
 | _=>none
theorem tQ {es:Nat}{hn:Hn}{v:V}{ids:List Nat}{rows:List (List C)}{q:List Prop}(h:aXs md st es hn v ob=some (ids,rows,q)):hD q→hD ob∧Src st es ids v rows:=by
 intro hc;unfold aXs at h;split at h
 ·rename_i id off len sz;split at h
  ·rename_i te B elems fz hh;obtain⟨h1,h'⟩:=dL h;clear h;have:=Aa h1;subst this;rw[Ag] at h';obtain⟨E,h2,h⟩:=h';split at h
   ·cases h;obtain⟨⟨rfl,rfl⟩,hc⟩:=hc;obtain⟨g,k⟩:=aX h2 hc;exact⟨g,.all hh k⟩
   ·cases h;obtain⟨r,hc⟩:=hc;obtain⟨g,k⟩:=aX h2 hc;exact⟨g,.hs hh k r⟩
   ·cases hb:Nat.beq off 0&&Nat.beq len sz with
    | true=>
     rw[hb] at h;cases h;obtain⟨g,k⟩:=aX h2 hc;simp only[π] at hb;have u:=Aa hb.1;have y:=Aa hb.2;subst u y;exact⟨g,.all hh k⟩
    | false=>
     rw[hb] at h;cases h;obtain⟨g,k⟩:=aX h2 hc;exact⟨g,.hs hh k rfl⟩
  ·cases h
 ·obtain⟨h1,h'⟩:=dL h;clear h;have:=Aa h1;subst this;cases h';exact⟨hc,.sl⟩
 ·obtain⟨h1,h'⟩:=dL h;clear h;have:=Aa h1;subst this;cases h';exact⟨hc,.sn⟩
 ·cases h;exact⟨hc,.nl⟩
 ·cases h
def y9:List (List C)→Option (List Int)
 | []=>some []
 | [.int .u8 m]::rs=>(y9 rs).bind fun l=>some (m::l)
 | _=>none
theorem y8:∀{rows:List (List C)}{q:List Int},y9 rows=some q→rows=q.map fun m=>[C.int .u8 m]
 | [],q,h=>by simp[y9] at h;subst h;rfl
 | [.int .u8 m]::rs,q,h=>by
  simp only[y9,Ag] at h;obtain⟨l,h1,h2⟩:=h;cases h2;rw[y8 h1];rfl
def aP1 (tr:Tr) (md:Bool) (o:Oper) (n:Nat) (st:St) (ob:List Prop) (hn:Hn) (src dst:TypeId) (x:Operand):Ans:=(tr.get src).bind fun i=>(tr.get dst).bind fun j=>(opO st x).bind fun v=>match j.k with
 | .int k'=>match i.k,v with
  | .int k,.one (.c (.int k2 m))=>bif decide (k2=k) then val o n ⟨opr x,[]⟩ (.one (.c (.int k' (k'.wrap m)))) [] ob else none
  | _,_=>none
 | .str=>match i.k with
  | .sl e=>(tr.get e).bind fun ei=>match ei.k with
   | .int .u8=>(aXs md st 1 hn v ob).bind fun(ids,rows,ob1)=>(y9 rows).bind fun ns=>(frc (ns.map fun m=>UInt8.ofNat m.toNat)).bind fun bs=>val o n ⟨opr x,ids⟩ (.one (.c (.str bs))) [] ob1
   | _=>none
  | _=>none
 | _=>none
theorem aKf {hn:Hn}{src dst:TypeId}{x:Operand}(hw:tr.wf=true) (E:Tok P tr.flat) (ho:o.op=.convert src dst x):Snd P n o st ob (aP1 tr md o n st ob hn src dst x):=by
 refine Snd.bind fun i hi=>Snd.bind fun j hj=>Snd.bind fun v hv=>?_
 replace hi:=Tr.get_ok hw hi
 replace hj:=Tr.get_ok hw hj
 rw[cB] at hv;split
 ·rename_i k' q;split
  ·rename_i k U m r;refine Snd.cond fun M=>?_
   have:=κ M;subst this;exact Snd.val fun _ hd u hc=>⟨hc,aQy E ho hd u hi r hj q hv⟩
  ·exact Snd.none
 ·rename_i q;split
  ·rename_i e r;refine Snd.bind fun Y y=>?_
   replace y:=Tr.get_ok hw y
   split
   ·rename_i I;refine Snd.bind fun p hp=>?_
    obtain⟨ids,rows,O⟩:=p;refine Snd.bind fun ns J=>Snd.bind fun bs B=>Snd.val fun _ hd u hc=>?_
    rw[kK] at B;cases B;obtain⟨g1,g2⟩:=tQ hp hc;exact⟨g1,aQz E ho hd u hi r y I hj q hv g2 (y8 J)⟩
   ·exact Snd.none
  ·exact Snd.none
 ·exact Snd.none
def a0e (md:Bool) (a b:List (List C)):Option (List (List C)):=bif md then some (a++b) else frc (a++b)
theorem aR4 (md:Bool) (a b:List (List C)):a0e md a b=some (a++b):=by
 cases md
 ·exact kK _
 ·rfl
def aDq (tr:Tr) (md:Bool) (o:Oper) (n:Nat) (st:St) (ob:List Prop) (hn:Hn) (id0:Nat) (x y:Operand) (t:TypeId):Ans:=(tr.get t).bind fun i=>match i.k with
 | .sl e=>(tr.get e).bind fun ei=>match ei with
  | ⟨_,s0,b0,_⟩=>bif Nat.ble 1 s0&&Nat.ble 1 b0 then(opO st x).bind fun v=>(opO st y).bind fun u=>(aXs md st s0 hn u ob).bind fun(ids,rows,ob1)=>(match v with
  | .one (.hs id off len sz)=>match st.h id with
   | some (.arr te es elems fz)=>bif Nat.beq te e&&Nat.beq es s0 then(need md (sz=elems.length) ob1).bind fun ob2=>(need md (off=0∧len=sz) ob2).bind fun ob3=>(need md ((elems.length+rows.length)*b0≤140737488355328) ob3).bind fun ob4=>
     (a0e md elems rows).bind fun l=>match fz with
     | 0=>val o n ⟨opr x++opr y,id::ids⟩ (.one (.hs id 0 (elems.length+rows.length) (elems.length+rows.length))) [(id,some (.arr e s0 l 0))] ob4
     | _+1=>val o n ⟨opr x++opr y,id::ids⟩ (.one (.hs id 0 (elems.length+rows.length) (elems.length+rows.length))) [(id,some (.arr e s0 l 1))] ob4
    else none
   | _=>none
  | .one (.c .nl)=>match st.h id0 with
   | none=>(need md (rows.length*b0≤140737488355328) ob1).bind fun ob2=>val o n ⟨opr x++opr y,id0::ids⟩ (.one (.hs id0 0 rows.length rows.length)) [(id0,some (.arr e s0 rows 0))] ob2
   | some _=>none
  | _=>none) else none
 | _=>none
theorem aA0 {hn:Hn}{E:Nat}{x y:Operand}{t:TypeId}(hw:tr.wf=true) (I:Tok P tr.flat) (ho:o.op=.call { callee:=.builtin .append,args:= #[x,y],argTypes:= #[t,t] }):Snd P n o st ob (aDq tr md o n st ob hn E x y t):=by
 refine Snd.bind fun i hi=>?_
 replace hi:=Tr.get_ok hw hi
 split
 ·rename_i e J;refine Snd.bind fun Y q=>?_
  obtain⟨k0,s0,b0,z0⟩:=Y;refine Snd.cond fun hb=>Snd.bind fun v hv=>Snd.bind fun u hu=>Snd.bind fun p hp=>?_
  replace q:=Tr.get_ok hw q
  obtain⟨ids,rows,ob1⟩:=p;simp only[π] at hb;rw[cB] at hv hu;dsimp only;split
  ·rename_i id off len sz;split
   ·rename_i te es elems fz hh;refine Snd.cond fun B=>Snd.bind fun M h2=>Snd.bind fun ob3 O=>Snd.bind fun ob4 U=>Snd.bind fun l hl=>?_
    simp only[π] at B;have e1:=Aa B.1;have e2:=Aa B.2;subst e1 e2;rw[aR4] at hl;cases hl;split
    ·refine Snd.val fun _ hd r hc=>?_
     obtain⟨g1,g2⟩:=aX U hc;obtain⟨g3,g4,g5⟩:=aX O g1;obtain⟨g6,g7⟩:=aX h2 g3;obtain⟨g8,g9⟩:=tQ hp g6;subst g4 g5;exact⟨g8,aBr I ho hd r hi J q hb.1 hb.2 hv hh g7 hu g9 g2⟩
    ·refine Snd.val fun _ hd r hc=>?_
     obtain⟨g1,g2⟩:=aX U hc;obtain⟨g3,g4,g5⟩:=aX O g1;obtain⟨g6,g7⟩:=aX h2 g3;obtain⟨g8,g9⟩:=tQ hp g6;subst g4 g5;exact⟨g8,aBr I ho hd r hi J q hb.1 hb.2 hv hh g7 hu g9 g2⟩
   ·exact Snd.none
  ·split
   ·rename_i hid;refine Snd.bind fun M h2=>Snd.val fun _ hd r hc=>?_
    obtain⟨g1,g2⟩:=aX h2 hc;obtain⟨g3,g4⟩:=tQ hp g1;exact⟨g3,aHe E I ho hd r hi J q hb.1 hb.2 hv hid hu g4 g2⟩
   ·exact Snd.none
  ·exact Snd.none
 ·exact Snd.none
def yL (tr:Tr) (md:Bool) (o:Oper) (n:Nat) (st:St) (ob:List Prop) (id0:Nat) (x y:Operand) (t:TypeId):Ans:=(tr.get t).bind fun i=>match i.k with
 | .sl e=>(tr.get e).bind fun ei=>match ei with
  | ⟨_,s0,b0,_⟩=>bif Nat.ble 1 s0&&Nat.ble 1 b0 then(opO st x).bind fun v=>(opO st y).bind fun u=>match u with
  | .one (.ra id2 off2 len2 sz2)=>match st.h id2 with
   | some (.rarr _ es2 rows)=>bif Nat.beq es2 s0&&(Nat.beq off2 0&&(Nat.beq len2 rows.length&&(Nat.beq sz2 rows.length&&Nat.blt 0 rows.length))) then(match v with
    | .one (.ra id off len sz)=>match st.h id with
     | some (.rarr te es elems)=>bif Nat.beq te e&&Nat.beq es s0 then(need md (sz=elems.length) ob).bind fun ob2=>(need md (off=0∧len=sz) ob2).bind fun ob3=>(need md ((elems.length+rows.length)*b0≤140737488355328) ob3).bind fun ob4=>
       val o n ⟨opr x++opr y,[id,id2]⟩ (.one (.ra id 0 (elems.length+rows.length) (elems.length+rows.length))) [(id,some (.rarr e s0 (elems++rows)))] ob4 else none
     | _=>none
    | .one (.c .nl)=>match st.h id0 with
     | none=>(need md (rows.length*b0≤140737488355328) ob).bind fun ob2=>val o n ⟨opr x++opr y,[id0,id2]⟩ (.one (.ra id0 0 rows.length rows.length)) [(id0,some (.rarr e s0 rows))] ob2
     | some _=>none
    | _=>none) else none
   | _=>none
  | _=>none
  else none
 | _=>none
theorem yK {I:Nat}{x y:Operand}{t:TypeId}(hw:tr.wf=true) (hT:Tok P tr.flat) (ho:o.op=.call { callee:=.builtin .append,args:= #[x,y],argTypes:= #[t,t] }):Snd P n o st ob (yL tr md o n st ob I x y t):=by
 refine Snd.bind fun i hi=>?_
 replace hi:=Tr.get_ok hw hi
 split
 ·rename_i e hk;refine Snd.bind fun ei q=>?_
  obtain⟨k0,s0,b0,z0⟩:=ei;refine Snd.cond fun hb=>Snd.bind fun v hv=>Snd.bind fun u hu=>?_
  replace q:=Tr.get_ok hw q
  simp only[π] at hb;rw[cB] at hv hu;split
  ·rename_i id2 off2 len2 sz2;split
   ·rename_i te2 es2 rows J;refine Snd.cond fun M=>?_
    simp only[π] at M;obtain⟨O,U,Y,c4,E⟩:=M;have O:=Aa O;have U:=Aa U;have Y:=Aa Y;have c4:=Aa c4;have E:=j8 E;subst O U Y c4;split
    ·rename_i id off len sz;split
     ·rename_i te es elems hh;refine Snd.cond fun r=>Snd.bind fun ob2 h2=>Snd.bind fun ob3 h3=>Snd.bind fun ob4 h4=>Snd.val fun _ hd B hc=>?_
      simp only[π] at r;have e1:=Aa r.1;have e2:=Aa r.2;subst e1;rw[e2] at hh;obtain⟨g1,g2⟩:=aX h4 hc;obtain⟨g3,g4,g5⟩:=aX h3 g1;obtain⟨g6,g7⟩:=aX h2 g3;subst g4 g5;exact⟨g6,aHd hT ho hd B hi hk q hb.1 hb.2 hv hh g7 hu J E g2⟩
     ·exact Snd.none
    ·split
     ·rename_i hid;refine Snd.bind fun ob2 h2=>Snd.val fun _ hd B hc=>?_
      obtain⟨g1,g2⟩:=aX h2 hc;exact⟨g1,aEh I hT ho hd B hi hk q hb.1 hb.2 hv hid hu J E g2⟩
     ·exact Snd.none
    ·exact Snd.none
   ·exact Snd.none
  ·exact Snd.none
 ·exact Snd.none
def aX9 (P:Program) (f:FuncId):Bool:=match P.funcs[f]? with
 | some fn => !(fn.name == "runtime.NumGoroutine") && fn.body.isSome
 | none=>false
theorem aJ1 {P:Program}{f:FuncId}(h:aX9 P f=true):iN P f:=by
 unfold aX9 at h;split at h
 ·rename_i fn q;simp only[π,Bm] at h;refine⟨fn,q,h.1,?_⟩;cases hb:fn.body with
  | none=>rw[hb] at h;cases h.2
  | some _=>rfl
 ·cases h
def aOn (P:Program) (f:FuncId) (args:List V) (res:V):Prop:=aX9 P f=true∧b9 P f args [] res []
def r3 (st:St):List Nat→List R→List Prop→Option (List Nat×List C×List Prop)
 | _,[],ob=>some ([],[],ob)
 | ty,r::rs,ob=>match r with
  | .c x=>(aFt ty [x]).bind fun y=>match y with
   | [y]=>(r3 st ty.tail rs ob).bind fun(ids,cs,ob1)=>some (ids,y::cs,ob1)
   | _=>none
  | .hs id 0 len sz=>match st.h id with
   | some (.arr _ es elems 2)=>(r3 st ty.tail rs ob).bind fun(ids,cs,ob1)=>some (id::ids,.sl es elems::cs,(sz=elems.length∧len=elems.length)::ob1)
   | _=>none
  | _=>none
theorem nO {st:St}:∀{rs:List R}{ty:List Nat}{ob q:List Prop}{ids:List Nat}{cs:List C},r3 st ty rs ob=some (ids,cs,q)→hD q→hD ob∧PureL st.h ids rs cs
 | [],ty,ob,q,ids,cs,h,hc=>by
  cases ty<;>(simp only[r3] at h;cases h;exact⟨hc,.nil⟩)
 | r::rs,ty,ob,q,ids,cs,h,hc=>by
  rw[r3.eq_def] at h;dsimp only at h;split at h
  ·rename_i x;rw[Ag] at h;obtain⟨y,hy,h⟩:=h;split at h
   ·rename_i I;rw[Ag] at h;obtain⟨⟨u,B,E⟩,h1,h2⟩:=h;cases h2;obtain⟨g1,g2⟩:=nO h1 hc;rw[rA] at hy;have hp:=mD (h:=st.h) ty [x];rw[Option.some.inj hy] at hp;cases hp with
    | c hx _=>exact⟨g1,.c hx g2⟩
    | any _=>exact⟨g1,.any g2⟩
   ·cases h
  ·rename_i id len sz;split at h
   ·rename_i te es elems hh;rw[Ag] at h;obtain⟨⟨u,B,E⟩,h1,h2⟩:=h;cases h2;obtain⟨g1,g2⟩:=nO h1 hc.2;exact⟨g1,.hs hh hc.1.1 (by rw[hc.1.2,B5,Ax]) g2⟩
   ·cases h
  ·cases h
def aR0 (tr:Tr) (st:St) (v:V) (t:TypeId) (ob:List Prop):Option (List Nat×V×List Prop):=match v with
 | .one r=>(r3 st (nY tr 300 [t]) [r] ob).bind fun(ids,cs,ob1)=>match cs with
  | [c]=>some (ids,.one (.c c),ob1)
  | _=>none
 | .pa l=>(aFt (nY tr 300 [t]) l).bind fun l'=>some ([],.pa l',ob)
 | .ma rs=>(r3 st (nY tr 300 [t]) rs ob).bind fun(ids,cs,ob1)=>some (ids,.pa cs,ob1)
 | _=>none
theorem aM7 {tr:Tr}{st:St}{v v':V}{t:TypeId}{ob q:List Prop}{ids:List Nat}(h:aR0 tr st v t ob=some (ids,v',q)) (hc:hD q):(hD ob∧Conv st.h ids v v')∧v'.refs=[]:=by
 unfold aR0 at h;split at h
 ·rw[Ag] at h;obtain⟨⟨r,u,y⟩,h1,h2⟩:=h;dsimp only at h2;split at h2
  ·cases h2;obtain⟨g1,g2⟩:=nO h1 hc;exact⟨⟨g1,.one g2⟩,by simp[V.refs,R.refs]⟩
  ·cases h2
 ·rw[Ag] at h;obtain⟨B,h1,h2⟩:=h;cases h2;rw[rA] at h1;cases h1;exact⟨⟨hc,.pa (mD _ _)⟩,by simp[V.refs]⟩
 ·rw[Ag] at h;obtain⟨⟨r,u,y⟩,h1,h2⟩:=h;cases h2;obtain⟨g1,g2⟩:=nO h1 hc;exact⟨⟨g1,.agg g2⟩,by simp[V.refs]⟩
 ·cases h
def aFo (tr:Tr) (st:St):List Operand→List TypeId→List Prop→Option (List Nat×List V×List Prop)
 | [],_,ob=>some ([],[],ob)
 | x::xs,t::ts,ob=>(opO st x).bind fun v=>(aR0 tr st v t ob).bind fun(ids1,v',ob1)=>(aFo tr st xs ts ob1).bind fun(ids2,vs,ob2)=>some (ids1++ids2,v'::vs,ob2)
 | _::_,[],_=>none
theorem aDs {tr:Tr}{st:St}:∀{xs:List Operand}{ts:List TypeId}{ob q:List Prop}{ids:List Nat}{l:List V},aFo tr st xs ts ob=some (ids,l,q)→hD q→(hD ob∧ArgsV st ids xs l)∧V.refsL l=[]
 | [],ts,ob,q,ids,l,h,hc=>by
  cases ts<;>(simp only[aFo] at h;cases h;exact⟨⟨hc,.nil⟩,by simp[V.refsL]⟩)
 | x::xs,[],ob,q,ids,l,h,hc=>by simp[aFo] at h
 | x::xs,t::ts,ob,q,ids,l,h,hc=>by
  simp only[aFo,cB,Ag] at h;obtain⟨v,hv,⟨r,v',J⟩,h1,⟨u,vs,M⟩,h2,y⟩:=h;cases y;obtain⟨⟨g1,g2⟩,g3⟩:=aDs h2 hc;obtain⟨⟨B,E⟩,I⟩:=aM7 h1 g1;exact⟨⟨B,.cons hv E g2⟩,by simp[V.refsL,I,g3]⟩
def aPx (P:Program) (tr:Tr) (o:Oper) (n:Nat) (st:St) (ob:List Prop) (res:V) (f:FuncId) (xs:Array Operand) (ts:Array TypeId):Ans:=(aFo tr st xs.toList ts.toList ob).bind fun(ids,args,ob1)=>val o n ⟨c7 xs.toList,ids⟩ res [] (aOn P f args res::ob1)
theorem aJ6 {res:V}{f:FuncId}{xs:Array Operand}{ts:Array TypeId}(ho:o.op=.call { callee:=.value (.func f),args:=xs,argTypes:=ts }):Snd P n o st ob (aPx P tr o n st ob res f xs ts):=by
 refine Snd.bind fun p ha=>?_
 obtain⟨ids,args,r⟩:=p;refine Snd.val fun d hd q hc=>?_
 obtain⟨⟨g1,g2⟩,g3⟩:=aDs ha hc.2;refine⟨g1,?_⟩;have:=aHc [] [] (aJ1 hc.1.1) ho hd q hc.1.2 g2 trivial trivial (by simp[fI,g3,keys,gO,subset]);simpa [outs,keys] using this
def aKh (P:Program) (tr:Tr) (md:Bool) (o:Oper) (n:Nat) (st:St) (ob:List Prop) (hn:Hn) (id0:Nat) (c:Call):Ans:=match c.callee with
 | .builtin b=>match b,c.args.toList,c.argTypes.toList with
  | .len,[x],[t]=>aXe tr md o n st ob x t
  | .append,[x,y],[t,t']=>bif Nat.beq t t' then(match opO st y with | some (.one (.ra _ _ _ _))=>yL tr md o n st ob id0 x y t | _=>aDq tr md o n st ob hn id0 x y t) else none
  | .min,[x,y],[_,_]=>(opO st x).bind fun v=>(opO st y).bind fun u=>match v,u with
   | .one (.c (.int k a)),.one (.c (.int k' b))=>bif decide (k=k') then val o n ⟨opr x++opr y,[]⟩ (.one (.c (.int k (if b<a then b else a)))) [] ob else none
   | _,_=>none
  | .max,[x,y],[_,_]=>(opO st x).bind fun v=>(opO st y).bind fun u=>match v,u with
   | .one (.c (.int k a)),.one (.c (.int k' b))=>bif decide (k=k') then val o n ⟨opr x++opr y,[]⟩ (.one (.c (.int k (if b>a then b else a)))) [] ob else none
   | _,_=>none
  | _,_,_=>none
 | .value (.func f)=>match hn with
  | .pc res=>aPx P tr o n st ob res f c.args c.argTypes
  | _=>none
 | _=>none
theorem arr1 {α:Type}{a:Array α}{x:α}(h:a.toList=[x]):a= #[x]:=by cases a;simp at h;simp[h]
theorem aTx {α:Type}{a:Array α}{x y:α}(h:a.toList=[x,y]):a= #[x,y]:=by cases a;simp at h;simp[h]
theorem aKg {hn:Hn}{E:Nat}{c:Call}(hw:tr.wf=true) (r:Tok P tr.flat) (ho:o.op=.call c):Snd P n o st ob (aKh P tr md o n st ob hn E c):=by
 obtain⟨J,args,M⟩:=c;unfold aKh;dsimp only;split
 ·rename_i b;split
  ·rename_i x t h1 h2;have:=arr1 h1;have:=arr1 h2
   subst_vars
   exact aOd hw r ho
  ·rename_i x y t I h1 h2;have:=aTx h1;have:=aTx h2
   subst_vars
   refine Snd.cond fun ht=>?_
   have:=Aa ht;subst this;split
   ·exact yK hw r ho
   ·exact aA0 hw r ho
  ·rename_i x y t I h1 h2;have:=aTx h1;have:=aTx h2
   subst_vars
   refine Snd.bind fun v hv=>Snd.bind fun u hu=>?_
   rw[cB] at hv hu;split
   ·refine Snd.cond fun B=>?_
    have:=κ B;subst this;exact Snd.val fun _ hd q hc=>⟨hc,aYz ho hd q hv hu rfl⟩
   ·exact Snd.none
  ·rename_i x y t I h1 h2;have:=aTx h1;have:=aTx h2
   subst_vars
   refine Snd.bind fun v hv=>Snd.bind fun u hu=>?_
   rw[cB] at hv hu;split
   ·refine Snd.cond fun B=>?_
    have:=κ B;subst this;exact Snd.val fun _ hd q hc=>⟨hc,aY0 ho hd q hv hu rfl⟩
   ·exact Snd.none
  ·exact Snd.none
 ·split
  ·exact aJ6 ho
  ·exact Snd.none
 ·exact Snd.none
def idO (hn:Hn) (d:Option Nat):Option Nat:=match hn with
 | .id n=>some n
 | _=>match d with
  | some d=>some d
  | none=>none
def aOa (P:Program) (tr:Tr) (md nat:Bool) (n:Nat) (st:St) (hn:Hn) (o:Oper) (ob:List Prop):Ans:=match o.op with
 | .move x=>aDp o n st ob x
 | .assign x=>aDp o n st ob x
 | .pick c x y=>aPy o n st ob hn c x y
 | .alloc t=>(idO hn o.dst).bind fun id=>aKj tr o n st ob id t
 | .box t x=>(idO hn o.dst).bind fun id=>aXf o n st ob id t x
 | .build t ps=>aKi tr o n st ob t ps
 | .buildSlice t len ps=>(idO hn o.dst).bind fun id=>aJ5 tr o n st ob hn id t len ps
 | .load t x=>aPz tr md o n st ob hn t x
 | .store t x y=>aJ4 tr md o st ob hn t x y
 | .nilCheck x=>aXd md o n st ob x
 | .slice t x l h m=>aS6 tr md o n st ob t x l h m
 | .index t x y=>aKb tr o n st ob hn t x y
 | .convert src dst x=>aP1 tr md o n st ob hn src dst x
 | .binOp op tx x y _=>aXg tr md nat o n st ob op tx x y
 | .unOp op _ x=>a0f md o n st ob op x
 | .makeFunc f a b=>aKd o n st ob f a b
 | .makeMap t r=>(idO hn o.dst).bind fun id=>aS4 tr o n st ob id t r
 | .fieldAddr t x f=>s6 tr md o n st ob t x f
 | .field t x f=>aKe tr o n st ob t x f
 | .indexAddr t x y=>s5 tr md o n st ob hn t x y
 | .lookup t x y ok=>vA tr md o n st ob hn t x y ok
 | .mapUpdate t x y z=>kE tr md o st ob t x y z
 | .insert t x y z=>kE tr md o st ob t x y z
 | .extract x i=>yJ o n st ob x i
 | .call c=>(idO hn o.dst).bind fun id=>aKh P tr md o n st ob hn id c
 | _=>none
theorem aDo {hn:Hn}(hw:tr.wf=true) (q:Tok P tr.flat):Snd P n o st ob (aOa P tr md nat n st hn o ob):=by
 unfold aOa;split
 ·rename_i ho;exact aJ9 ho
 ·rename_i ho;exact aAz ho
 ·rename_i ho;exact aJ7 ho
 ·rename_i ho;exact Snd.bind fun _ _=>aFm hw q ho
 ·rename_i ho;exact Snd.bind fun _ _=>aOg ho
 ·rename_i ho;exact aFl hw q ho
 ·rename_i ho;exact Snd.bind fun _ _=>aFh hw q ho
 ·rename_i ho;exact aKa hw q ho
 ·rename_i ho;exact aFg hw q ho
 ·rename_i ho;exact aOb ho
 ·rename_i ho;exact aOf hw q ho
 ·rename_i ho;exact aFi hw q ho
 ·rename_i ho;exact aKf hw q ho
 ·rename_i ho;exact aOh hw q ho
 ·rename_i ho;exact aS3 ho
 ·rename_i ho;exact aKc ho
 ·rename_i ho;exact Snd.bind fun _ _=>aOc ho
 ·rename_i ho;exact sL hw q ho
 ·rename_i ho;exact aFk hw q ho
 ·rename_i ho;exact sK hw q ho
 ·rename_i ho;exact aAw hw q ho
 ·rename_i ho;exact sJ hw q ho
 ·rename_i ho;exact aAx hw q ho
 ·rename_i ho;exact yI ho
 ·rename_i ho;exact Snd.bind fun _ _=>aKg hw q ho
 ·exact Snd.none
theorem Step.freeze {rd:Rd}{q:Option (Nat×Option V)}{id te es z:Nat}{l:List (List C)}(h:Step P n o st rd ⟨q,[(id,some (.arr te es l z))]⟩):Step P n o st rd ⟨q,[(id,some (.arr te es l 2))]⟩:=by
 intro st' ha G S μ a w K Q hs r;refine h st' ha G S μ a w K Q hs fun S1 I u y h1=>?_
 have hh:(Eff.apply ⟨q,[(id,some (.arr te es l z))]⟩ st').h id=some (.arr te es l z):=by
  show iS st'.h [(id,some (.arr te es l z))] id=_;rw[cD,aJ]
 obtain⟨S2,B,h2⟩:=h1.freeze hh;refine r S2 B u y ?_;have E:upd (Eff.apply ⟨q,[(id,some (.arr te es l z))]⟩ st').h id (some (.arr te es l 2))=(Eff.apply ⟨q,[(id,some (.arr te es l 2))]⟩ st').h:=by
  show upd (iS st'.h [(id,some (.arr te es l z))]) id _=iS st'.h [(id,some (.arr te es l 2))];rw[cD,cD,oK]
 rw[E] at h2;exact h2
def aZw:Ans→Ans
 | some (rd,⟨dv,[(id,some (.arr te es l _))]⟩,ob')=>some (rd,⟨dv,[(id,some (.arr te es l 2))]⟩,ob')
 | _=>none
theorem aS5 {r:Ans}(h:Snd P n o st ob r):Snd P n o st ob (aZw r):=by
 intro rd f q e hc;unfold aZw at e;split at e
 ·cases e;obtain⟨g1,g2⟩:=h _ _ _ rfl hc;exact⟨g1,g2.freeze⟩
 ·cases e
def aYb (P:Program) (tr:Tr) (md nat:Bool) (n:Nat) (st:St) (hn:Hn) (o:Oper) (ob:List Prop):Ans:=match hn with
 | .fz=>aZw (aOa P tr md nat n st .no o ob)
 | hn=>aOa P tr md nat n st hn o ob
theorem aJ8 {hn:Hn}(hw:tr.wf=true) (q:Tok P tr.flat):Snd P n o st ob (aYb P tr md nat n st hn o ob):=by
 unfold aYb;split
 ·exact aS5 (aDo hw q)
 ·exact aDo hw q
def aAj:List Oper→Nat→Option Nat
 | [],_=>none
 | o::os,i=>bif Nat.beq i 0 then o.dst else aAj os (i-1)
theorem aCz:∀(os:List Oper) (i:Nat),aAj os i=(os[i]?).bind (·.dst)
 | [],i=>by simp[aAj]
 | o::os,0=>by simp[aAj]
 | o::os,i+1=>by
  have:Nat.beq (i+1) 0=false:=rfl;simp[aAj,this,aCz os i]
def axG (P:Program) (tr:Tr) (md nat:Bool) (n:Nat) (all:List Oper) (hs:List (Nat×Hn)) (k:Nat) (o:Oper) (st:St) (ob:List Prop):Ans:=match o.guard with
 | none=>aYb P tr md nat n st (aMt hs k) o ob
 | some (j,want)=>(aAj all j).bind fun t=>(st.e t).bind fun v=>match v with
  | .one (.c (.bool b))=>match aLb (match aMt hs j with | .bv w=>.bv w | _=>.no) b ob with
   | (w,ob1)=>bif w==want then(aYb P tr md nat n st (aMt hs k) o ob1).bind fun(rd,f,ob2)=>some (⟨t::rd.e,rd.h⟩,f,ob2)
    else match o.dst with
     | some d=>bif Nat.blt d n then some (⟨[t],[]⟩,⟨some (d,some (.tup [])),[]⟩,ob1) else none
     | none=>none
  | .tup []=>match o.dst with
   | some d=>bif Nat.blt d n then some (⟨[t],[]⟩,⟨some (d,some (.tup [])),[]⟩,ob) else none
   | none=>none
  | _=>none
theorem aP0 {ops:Array Oper}{hs:List (Nat×Hn)}{k:Nat}{rd:Rd}{f:Eff}{u:List Prop}(hw:tr.wf=true) (B:Tok P tr.flat) (ho:ops[k]?=some o) (h:axG P tr md nat n ops.toList hs k o st ob=some (rd,f,u)):hD u→hD ob∧GStep P n ops k st rd f:=by
 intro hc;unfold axG at h;split at h
 ·rename_i r;obtain⟨h1,h2⟩:=aJ8 hw B _ _ _ h hc;exact⟨h1,GStep.plain ho r h2⟩
 ·rename_i j want r;rw[Ag] at h;obtain⟨t,ht,h⟩:=h;rw[Ag] at h;obtain⟨v,hv,h⟩:=h;have hj:(ops[j]?).bind (·.dst)=some t:=by
   rw[aCz] at ht;simpa using ht
  split at h
  ·rename_i b;split at h;rename_i w E y;cases q:w==want with
   | true=>
    rw[q] at h;simp only[Bw] at h;rw[Ag] at h;obtain⟨⟨I,f1,J⟩,h1,h2⟩:=h;cases h2;obtain⟨g1,g2⟩:=aJ8 hw B _ _ _ h1 hc;obtain⟨g3,g4⟩:=pW y g1;exact⟨g3,GStep.yes ho r hj hv (g4.trans (eq_of_beq q)) g2⟩
   | false=>
    rw[q] at h;simp only[Bp] at h;split at h
    ·rename_i d hd;obtain⟨h1,h2⟩:=dL h;cases h2;obtain⟨g3,g4⟩:=pW y hc;refine⟨g3,GStep.no ho r hd (j8 h1) hj hv g4 ?_⟩;cases w<;>cases want<;>first | rfl | (cases q)
    ·cases h
  ·split at h
   ·rename_i d hd;obtain⟨h1,h2⟩:=dL h;cases h2;exact⟨hc,GStep.un ho r hd (j8 h1) hj hv⟩
   ·cases h
  ·cases h
def tI (P:Program) (tr:Tr) (md nat:Bool) (n:Nat) (all:List Oper) (hs:List (Nat×Hn)):Nat→Nat→List Oper→(Nat→Option V)→cE→List Nat→REs→List Prop→Option (St×Nat×REs×List Prop)
 | 0,k,_,e,h,d,pre,ob=>some (⟨e,h,d⟩,k,pre,ob)
 | _+1,k,[],e,h,d,pre,ob=>some (⟨e,h,d⟩,k,pre,ob)
 | m+1,k,o::os,e,h,d,pre,ob=>(axG P tr md nat n all hs k o ⟨e,h,d⟩ ob).bind fun(rd,f,ob1)=>match f with
  | ⟨some (t,v),[]⟩=>tI P tr md nat n all hs m (k+1) os (upd e t v) h d ((rd,⟨some (t,v),[]⟩)::pre) ob1
  | ⟨some (t,v),[(id,x)]⟩=>tI P tr md nat n all hs m (k+1) os (upd e t v) (upd h id x) d ((rd,⟨some (t,v),[(id,x)]⟩)::pre) ob1
  | ⟨none,[(id,x)]⟩=>tI P tr md nat n all hs m (k+1) os e (upd h id x) d ((rd,⟨none,[(id,x)]⟩)::pre) ob1
  | _=>none
theorem aAy {ops:Array Oper}{hs:List (Nat×Hn)}{draw:Bool}(hw:tr.wf=true) (O:Tok P tr.flat):∀(m k:Nat) (os:List Oper) (e:Nat→Option V) (h:cE) (d:List Nat) (pre:REs) (ob:List Prop) (st':St) (k':Nat) (pre':REs) (u:List Prop),os=ops.toList.drop k→
  tI P tr md nat n ops.toList hs m k os e h d pre ob=some (st',k',pre',u)→hD u→hD ob∧∀Q,jG QP P n ops draw k' st' pre' Q→jG QP P n ops draw k ⟨e,h,d⟩ pre Q:=by
 intro m
 induction m with
 | zero=>
  intro k os e h d pre ob st' k' pre' u _ q hc;simp only[tI] at q;cases q;exact⟨hc,fun Q hq=>hq⟩
 | succ m E=>
  intro k os e h d pre ob st' k' pre' u B q hc;cases os with
  | nil=>
   simp only[tI] at q;cases q;exact⟨hc,fun Q hq=>hq⟩
  | cons o os=>
   have ho:ops[k]?=some o:=by
    have:(ops.toList.drop k)[0]?=some o:=by rw[←B];rfl
    simpa using this
   have r:os=ops.toList.drop (k+1):=by
    have:os=(ops.toList.drop k).tail:=by rw[←B];rfl
    rw[this,List.tail_drop]
   simp only[tI,Ag] at q;obtain⟨⟨rd,f,I⟩,h1,h2⟩:=q;have key:∀{y:St},hD I→y=f.apply ⟨e,h,d⟩→(∀Q,jG QP P n ops draw k' st' pre' Q→jG QP P n ops draw (k+1) y ((rd,f)::pre) Q)→hD ob∧∀Q,jG QP P n ops draw k' st' pre' Q→jG QP P n ops draw k ⟨e,h,d⟩ pre Q:=by
    intro y J M U;obtain⟨g1,g2⟩:=aP0 hw O ho h1 J;subst M;exact⟨g1,fun Q hq=>k_ g2 (U Q hq)⟩
   split at h2
   ·rename_i heq;have heq:f=_:=heq;subst heq;obtain⟨g1,g2⟩:=E _ _ _ _ _ _ _ _ _ _ _ r h2 hc;exact key g1 (by simp only[Eff.apply,aBb]) g2
   ·rename_i heq;have heq:f=_:=heq;subst heq;obtain⟨g1,g2⟩:=E _ _ _ _ _ _ _ _ _ _ _ r h2 hc;exact key g1 (by simp only[Eff.apply,cD]) g2
   ·rename_i heq;have heq:f=_:=heq;subst heq;obtain⟨g1,g2⟩:=E _ _ _ _ _ _ _ _ _ _ _ r h2 hc;exact key g1 (by simp only[Eff.apply,cD]) g2
   ·cases h2
end
section
variable {QP:Value→Prop}{ro:Option Nat}{P:Program}{n:Nat}{ops:Array Oper}{draw:Bool}{k k':Nat}{st st':St}{pre pre':REs}{Q:St→Prop}{tr:Tr}{ob:List Prop}
theorem ax_ {hs:List (Nat×Hn)}{md nat:Bool}(m:Nat) (hw:tr.wf=true) (q:Tok P tr.flat) (h:tI P tr md nat n ops.toList hs m k (ops.toList.drop k) st.e st.h st.d pre []=some (st',k',pre',ob)) (hc:hD ob) (r:jG QP P n ops draw k' st' pre' Q):jG QP P n ops draw k st pre Q:=
 (aAy hw q m k _ st.e st.h st.d pre [] st' k' pre' ob rfl h hc).2 Q r
theorem aP2 {hs:List (Nat×Hn)}{md nat:Bool}{kf:List Nat}{id:Nat}{Q:Exit→St→Prop}(hm:P.follows .mixedOrders=true) (hw:tr.wf=true) (q:Tok P tr.flat) (h:tI P tr md nat n ops.toList hs 1000 0 ops.toList st.e st.h st.d [] []=some (st',k',pre',ob)) (hc:hD ob)
  (h1:Nat.beq k' ops.size=true) (h2:(!draw || (cZ (preds ops) pre'.reverse []&&dV ops))=true) (hq:Q .normal st'):AWp ro P n kf (.region id ops draw) st Q:=
 aC hm ((aAy hw q 1000 0 _ st.e st.h st.d [] [] st' k' pre' ob rfl h hc).2 _ (z_ h1 h2 hq))
end
theorem hs_all {h:cE}{id te es n:Nat}{l q:List (List C)}{fz:Nat}(h1:h id=some (.arr te es l fz)) (r:fz=2) (h2:n=l.length) (u:l=q):Conv h [id] (.one (.hs id 0 n n)) (.one (.c (.sl es q))):=by
 subst h2;subst u;subst r;exact .one (.hs h1 rfl (by rw[B5,Ax]) .nil)
section
variable {QP:Value→Prop}{P:Program}{n:Nat}{ops:Array Oper}{draw:Bool}{k d:Nat}{st:St}{pre:REs}{Q:St→Prop}{o:Oper}{f:FuncId}{xs:Array Operand}{ts:Array TypeId}{ids:List Nat}{args:List V}{res:V}{hin hout:List (Nat×AObj)}
theorem kc (B:b9 P f args hin res hout)
  (E:jG QP P n ops draw (k+1) ⟨upd st.e d (some res),iS st.h (outs hout),st.d⟩ ((⟨c7 xs.toList,ids++keys hin++keys hout⟩,⟨some (d,some res),outs hout⟩)::pre) Q)
  (hb:iN P f:=by exact aJ1 (by kernel_rfl)) (ho:ops[k]?=some o:=by rfl) (I:o.guard=none:=by rfl) (u:o.op=.call { callee:=.value (.func f),args:=xs,argTypes:=ts }:=by rfl) (hd:o.dst=some d:=by rfl) (y:Nat.blt d n=true:=by rfl)
  (ha:ArgsV st ids xs.toList args:=by repeat (first | exact .nil | (apply Go.AM.ArgsV.cons rfl;(first | exact .refl | exact .one (.c .nl .nil) | exact .one (.c .sn .nil) | exact .one (.hs rfl (by first | rfl | simp) (by first | rfl | (simp;done) | (simp[Go.AM.take_map];done) | exact Go.AM.take_map.symm) .nil) | exact Go.AM.hs_all rfl rfl (by first | rfl | assumption | (simp;done) | (simp;omega)) (by first | rfl | assumption | (simp;done)) | ((first | apply Go.AM.Conv.pa | apply Go.AM.Conv.agg);repeat (first | exact .nil | apply Go.AM.PureL.c .refl | apply Go.AM.PureL.c .nl | apply Go.AM.PureL.c .sn | (apply Go.AM.PureL.hs;rfl;(first | rfl | simp);(first | rfl | (simp;done) | (simp[Go.AM.take_map];done) | exact Go.AM.take_map.symm))))))))
  (r:gN (fun p=>st.h p.1=some p.2) hin:=by repeat (first | exact trivial | refine⟨rfl,?_⟩)) (q:gN (fun p=>p.1∈keys hin∨st.h p.1=none) hout:=by repeat (first | exact trivial | refine⟨.inr rfl,?_⟩ | refine⟨.inl (by decide),?_⟩ | refine⟨.inl (by repeat (first | exact List.Mem.head _ | apply List.Mem.tail)),?_⟩)) (hok:fI args hin=true:=by rfl):jG QP P n ops draw k st pre Q:=
 k_ (g_ ho I (aHc hin hout hb u hd (j8 y) B ha r q hok)) E
theorem kv {x:Operand}{caps:List R}(B:b9 P f (args++caps.map V.one) hin res hout)
  (E:jG QP P n ops draw (k+1) ⟨upd st.e d (some res),iS st.h (outs hout),st.d⟩ ((⟨opr x++c7 xs.toList,ids++keys hin++keys hout⟩,⟨some (d,some res),outs hout⟩)::pre) Q)
  (hb:iN P f:=by exact aJ1 (by kernel_rfl)) (ho:ops[k]?=some o:=by rfl) (I:o.guard=none:=by rfl) (u:o.op=.call { callee:=.value x,args:=xs,argTypes:=ts }:=by rfl) (hd:o.dst=some d:=by rfl) (y:Nat.blt d n=true:=by rfl) (hx:opv st x=some (.one (.clo f caps)):=by rfl)
  (ha:ArgsV st ids xs.toList args:=by repeat (first | exact .nil | (apply Go.AM.ArgsV.cons rfl;(first | exact .refl | exact .one (.c .nl .nil) | exact .one (.c .sn .nil) | exact .one (.hs rfl (by first | rfl | simp) (by first | rfl | (simp;done) | (simp[Go.AM.take_map];done) | exact Go.AM.take_map.symm) .nil) | exact Go.AM.hs_all rfl rfl (by first | rfl | assumption | (simp;done) | (simp;omega)) (by first | rfl | assumption | (simp;done)) | ((first | apply Go.AM.Conv.pa | apply Go.AM.Conv.agg);repeat (first | exact .nil | apply Go.AM.PureL.c .refl | apply Go.AM.PureL.c .nl | apply Go.AM.PureL.c .sn | (apply Go.AM.PureL.hs;rfl;(first | rfl | simp);(first | rfl | (simp;done) | (simp[Go.AM.take_map];done) | exact Go.AM.take_map.symm))))))))
  (r:gN (fun p=>st.h p.1=some p.2) hin:=by repeat (first | exact trivial | refine⟨rfl,?_⟩)) (q:gN (fun p=>p.1∈keys hin∨st.h p.1=none) hout:=by repeat (first | exact trivial | refine⟨.inr rfl,?_⟩ | refine⟨.inl (by decide),?_⟩ | refine⟨.inl (by repeat (first | exact List.Mem.head _ | apply List.Mem.tail)),?_⟩)) (hok:fI (args++caps.map V.one) hin=true:=by rfl):jG QP P n ops draw k st pre Q:=
 k_ (g_ ho I (aHa hin hout hb u hd (j8 y) hx B ha r q hok)) E
end
inductive Res where
 | leaf (st:St) (k:Nat) (pre:REs) (ob:List Prop)
 | fork (b:Bool) (x y:Res)
def Res.obs:Res→Prop
 | .leaf _ _ _ ob=>hD ob
 | .fork b x y=>(b=true→x.obs)∧(b=false→y.obs)
def Res.good (ops:Array Oper) (draw:Bool):Res→Bool
 | .leaf _ k pre _=>Nat.beq k ops.size&&(!draw || (cZ (preds ops) pre.reverse []&&dV ops))
 | .fork _ x y=>x.good ops draw&&y.good ops draw
def Res.all (Q:St→Prop):Res→Prop
 | .leaf st _ _ _=>Q st
 | .fork b x y=>(b=true→x.all Q)∧(b=false→y.all Q)
def aRb:Nat→List Nat→Bool
 | _,[]=>false
 | i,x::l=>bif Nat.beq i x then true else aRb i l
theorem aCc:∀{i:Nat}{l:List Nat},aRb i l=true↔i∈l
 | i,[]=>by simp[aRb]
 | i,x::l=>by
  simp only[aRb];cases h:Nat.beq i x with
  | true=>have:=Aa h;simp[this]
  | false=>
   have:i≠x:=fun e=>by subst e;simp at h
   simp[this,aCc]
def aV4 (all:List Oper) (dec:List Nat) (o:Oper):Option Nat:=
 match (match o.guard with | some (j,_)=>(aAj all j).bind fun t=>bif aRb t dec then none else some t | none=>none) with
 | some t=>some t
 | none=>match o.op with
  | .pick (.tmp t) _ _=>bif aRb t dec then none else some t
  | _=>none
def oF (P:Program) (tr:Tr) (md nat:Bool) (n:Nat) (all:List Oper) (hs:List (Nat×Hn)) (W:List Nat):Nat→Nat→List Oper→(Nat→Option V)→cE→List Nat→List Nat→REs→List Prop→Option Res
 | 0,_,_,_,_,_,_,_,_=>none
 | _+1,k,[],e,h,d,_,pre,ob=>some (.leaf ⟨e,h,d⟩ k pre ob)
 | m+1,k,o::os,e,h,d,dec,pre,ob=>match aV4 all dec o with
  | some t=>match e t with
   | some (.one (.c (.bool b)))=>(oF P tr md nat n all hs W m k (o::os) (upd e t (some (.one (.c (.bool true))))) h d (t::dec) pre ob).bind fun x=>
     (oF P tr md nat n all hs W m k (o::os) (upd e t (some (.one (.c (.bool false))))) h d (t::dec) pre ob).bind fun y=>some (.fork b x y)
   | _=>oF P tr md nat n all hs W m k (o::os) e h d (t::dec) pre ob
  | none=>(axG P tr md nat n all hs k o ⟨e,h,d⟩ ob).bind fun(rd,f,ob1)=>match f with
   | ⟨some (t,v),[]⟩=>bif aRb t W then oF P tr md nat n all hs W m (k+1) os (upd e t v) h d dec ((rd,⟨some (t,v),[]⟩)::pre) ob1 else none
   | _=>none
section
variable {QP:Value→Prop}{P:Program}{n:Nat}{tr:Tr}{md nat:Bool}
theorem aBa {e:Nat→Option V}{t:Nat}{x:Option V}(h:e t=x):upd e t x=e:=by
 funext i;simp only[upd];split
 ·rename_i hb;rw[Aa hb,h]
 ·rfl
theorem aOe {ops:Array Oper}{hs:List (Nat×Hn)}{W:List Nat}{draw:Bool}(hw:tr.wf=true) (I:Tok P tr.flat):∀(m k:Nat) (os:List Oper) (e:Nat→Option V) (h:cE) (d dec:List Nat) (pre:REs) (ob:List Prop) (res:Res),os=ops.toList.drop k→
  oF P tr md nat n ops.toList hs W m k os e h d dec pre ob=some res→res.obs→res.good ops draw=true→∀Q,res.all Q→hD ob∧jG QP P n ops draw k ⟨e,h,d⟩ pre Q:=by
 intro m
 induction m with
 | zero=>intro k os e h d dec pre ob res _ r;simp[oF] at r
 | succ m B=>
  intro k os e h d dec pre ob res u r ho q Q hq;cases os with
  | nil=>
   simp only[oF] at r;cases r;simp only[Res.good,π] at q;exact⟨ho,z_ q.1 q.2 hq⟩
  | cons o os=>
   have hok:ops[k]?=some o:=by
    have:(ops.toList.drop k)[0]?=some o:=by rw[←u];rfl
    simpa using this
   have E:os=ops.toList.drop (k+1):=by
    have:os=(ops.toList.drop k).tail:=by rw[←u];rfl
    rw[this,List.tail_drop]
   simp only[oF] at r;split at r
   ·rename_i t _;split at r
    ·rename_i b hb;rw[Ag] at r;obtain⟨x,hx,r⟩:=r;rw[Ag] at r;obtain⟨y,hy,r⟩:=r;cases r;simp only[Res.obs] at ho;simp only[Res.good,π] at q;simp only[Res.all] at hq;cases b with
     | true=>
      rw[aBa hb] at hx;exact B _ _ _ _ _ _ _ _ _ u hx (ho.1 rfl) q.1 Q (hq.1 rfl)
     | false=>
      rw[aBa hb] at hy;exact B _ _ _ _ _ _ _ _ _ u hy (ho.2 rfl) q.2 Q (hq.2 rfl)
    ·exact B _ _ _ _ _ _ _ _ _ u r ho q Q hq
   ·rw[Ag] at r;obtain⟨⟨rd,f,M⟩,h1,h2⟩:=r;dsimp only at h2;split at h2
    ·obtain⟨_,J⟩:=dL h2;obtain⟨g1,g2⟩:=B _ _ _ _ _ _ _ _ _ E J ho q Q hq;obtain⟨g3,g4⟩:=aP0 hw I hok h1 g1;refine⟨g3,k_ g4 ?_⟩;simpa only[Eff.apply,aBb] using g2
    ·cases h2
def Res.keep (e0:Nat→Option V) (h0:cE) (d0:List Nat) (W:List Nat):Res→Prop
 | .leaf st _ _ _=>(∀t,t∉W→∀v,e0 t=some v→st.e t=some v)∧st.h=h0∧st.d=d0
 | .fork b x y=>(b=true→x.keep e0 h0 d0 W)∧(b=false→y.keep e0 h0 d0 W)
theorem aFj {all:List Oper}{hs:List (Nat×Hn)}{W:List Nat}{e0:Nat→Option V}:∀(m k:Nat) (os:List Oper) (e:Nat→Option V) (h:cE) (d dec:List Nat) (pre:REs) (ob:List Prop) (res:Res),
  oF P tr md nat n all hs W m k os e h d dec pre ob=some res→(∀t,t∉W→∀v,e0 t=some v→e t=some v)→res.keep e0 h d W:=by
 intro m
 induction m with
 | zero=>intro k os e h d dec pre ob res q;simp[oF] at q
 | succ m r=>
  intro k os e h d dec pre ob res q he;cases os with
  | nil=>
   simp only[oF] at q;cases q;exact⟨he,rfl,rfl⟩
  | cons o os=>
   simp only[oF] at q;split at q
   ·rename_i t _;split at q
    ·rename_i b hb;rw[Ag] at q;obtain⟨x,hx,q⟩:=q;rw[Ag] at q;obtain⟨y,hy,q⟩:=q;cases q;refine⟨fun B=>?_,fun E=>?_⟩
     ·subst B;rw[aBa hb] at hx;exact r _ _ _ _ _ _ _ _ _ hx he
     ·subst E;rw[aBa hb] at hy;exact r _ _ _ _ _ _ _ _ _ hy he
    ·exact r _ _ _ _ _ _ _ _ _ q he
   ·rw[Ag] at q;obtain⟨⟨rd,f,M⟩,h1,h2⟩:=q;dsimp only at h2;split at h2
    ·obtain⟨hm,J⟩:=dL h2;refine r _ _ _ _ _ _ _ _ _ J fun s hs u hu=>?_
     have I:s≠_:=fun e=>hs (by rw[e];exact aCc.1 hm)
     rw[bH _ _ _ I];exact he s hs u hu
    ·cases h2
def Res.boolAt (w:Nat):Res→Option Bool
 | .leaf st _ _ _=>match st.e w with
  | some (.one (.c (.bool x)))=>some x
  | _=>none
 | .fork b x y=>(x.boolAt w).bind fun p=>(y.boolAt w).bind fun q=>some (bif b then p else q)
theorem Res.boolAt_all {w:Nat}:∀{r:Res}{x:Bool},r.boolAt w=some x→r.all fun st=>st.e w=some (.one (.c (.bool x)))
 | .leaf st _ _ _,x,h=>by
  simp only[Res.boolAt] at h;split at h
  ·rename_i hx;cases h;exact hx
  ·cases h
 | .fork b p q,x,h=>by
  simp only[Res.boolAt,Ag] at h;obtain⟨u,hu,v,hv,h⟩:=h;cases h;refine⟨fun hb=>?_,fun hb=>?_⟩
  ·subst hb;exact Res.boolAt_all hu
  ·subst hb;exact Res.boolAt_all hv
def rE (res:Res):List Nat→Option (List (Nat×Option V))
 | []=>some []
 | w::ws=>(rE res ws).bind fun l=>match res.boolAt w with
  | some x=>some ((w,some (.one (.c (.bool x))))::l)
  | none=>some ((w,none)::l)
def mR (e:Nat→Option V):List (Nat×Option V)→Nat→Option V
 | [],t=>e t
 | (w,v)::l,t=>bif Nat.beq t w then v else mR e l t
theorem wS {res:Res}{e0:Nat→Option V}{t:Nat}:∀{W:List Nat}{L:List (Nat×Option V)},rE res W=some L→mR e0 L t=if t∈W then(res.boolAt t).map (fun x=>V.one (.c (.bool x))) else e0 t
 | [],L,h=>by
  simp only[rE] at h;cases h;simp[mR]
 | w::ws,L,h=>by
  simp only[rE,Ag] at h;obtain⟨l,hl,h⟩:=h;have r:=wS (e0:=e0) (t:=t) hl;have u:L=(w,(res.boolAt w).map (fun x=>V.one (.c (.bool x))))::l:=by
   split at h
   ·rename_i x hx;cases h;rw[hx];rfl
   ·rename_i hx;cases h;rw[hx];rfl
  subst u;simp only[mR];by_cases q:t=w
  ·subst q;simp
  ·have hb:Nat.beq t w=false:=by
    cases hb:Nat.beq t w with
    | true=>exact absurd (Aa hb) q
    | false=>rfl
   rw[hb,Bp,r];simp[q]
theorem Res.all_mono {Q Q':St→Prop}(h:∀st,Q st→Q' st):∀{r:Res},r.all Q→r.all Q'
 | .leaf st _ _ _,k=>h st k
 | .fork _ _ _,k=>⟨fun hb=>Res.all_mono h (k.1 hb),fun hb=>Res.all_mono h (k.2 hb)⟩
theorem Res.all_forall {α:Type}{Q:α→St→Prop}:∀{r:Res},(∀a,r.all (Q a))→r.all fun st=>∀a,Q a st
 | .leaf _ _ _ _,k=>fun a=>k a
 | .fork _ _ _,k=>⟨fun hb=>Res.all_forall fun a=>(k a).1 hb,fun hb=>Res.all_forall fun a=>(k a).2 hb⟩
theorem Res.all_and {Q Q':St→Prop}:∀{r:Res},r.all Q→r.all Q'→r.all fun st=>Q st∧Q' st
 | .leaf _ _ _ _,h,k=>⟨h,k⟩
 | .fork _ _ _,h,k=>⟨fun hb=>Res.all_and (h.1 hb) (k.1 hb),fun hb=>Res.all_and (h.2 hb) (k.2 hb)⟩
theorem Res.keep_at {e0:Nat→Option V}{h0:cE}{d0 W:List Nat}{t:Nat}{v:V}(ht:t∉W) (hv:e0 t=some v):∀{r:Res},r.keep e0 h0 d0 W→r.all fun st=>st.e t=some v
 | .leaf _ _ _ _,k=>k.1 t ht v hv
 | .fork _ _ _,k=>⟨fun hb=>Res.keep_at ht hv (k.1 hb),fun hb=>Res.keep_at ht hv (k.2 hb)⟩
theorem Res.keep_hd {e0:Nat→Option V}{h0:cE}{d0 W:List Nat}:∀{r:Res},r.keep e0 h0 d0 W→r.all fun st=>st.h=h0∧st.d=d0
 | .leaf _ _ _ _,k=>k.2
 | .fork _ _ _,k=>⟨fun hb=>Res.keep_hd (k.1 hb),fun hb=>Res.keep_hd (k.2 hb)⟩
theorem aMg {res:Res}{e0:Nat→Option V}{h0:cE}{d0 W:List Nat}{L:List (Nat×Option V)}(h:rE res W=some L) (q:res.keep e0 h0 d0 W):res.all fun st=>(∀p:Nat×V,mR e0 L p.1=some p.2→st.e p.1=some p.2)∧(st.h=h0∧st.d=d0):=by
 refine Res.all_and (Res.all_forall fun p=>?_) (Res.keep_hd q);by_cases hv:mR e0 L p.1=some p.2
 ·refine Res.all_mono (fun st h _=>h) (?_:res.all fun st=>st.e p.1=some p.2);rw[wS h] at hv;by_cases ht:p.1∈W
  ·rw[ζ ht,Option.map_eq_some_iff] at hv;obtain⟨x,hx,hv⟩:=hv;rw[←hv];exact Res.boolAt_all hx
  ·rw[ξ ht] at hv;exact Res.keep_at ht hv q
 ·have:∀r:Res,r.all fun st=>mR e0 L p.1=some p.2→st.e p.1=some p.2:=by
   intro r
   induction r with
   | leaf st k pre ob=>exact fun h=>absurd h hv
   | fork b x y u B=>exact⟨fun _=>u,fun _=>B⟩
  exact this res
theorem Sub.weak {kf:List Nat}{q st2:St}(he:∀p:Nat×V,st2.e p.1=some p.2→q.e p.1=some p.2) (hh:q.h=st2.h) (hd:q.d=st2.d):Sub kf st2 q:=by
 intro G n S μ a w _ hs;refine⟨S,μ,⟨?_,hs.size,?_,fun t v e=>?_⟩⟩
 ·rw[←hh];exact hs.inv
 ·rw[←hh,←hd];exact hs.defers
 ·rw[←hh];exact hs.env t v (he (t,v) e)
def aTv:List Oper→List Nat
 | []=>[]
 | o::os=>match o.dst with
  | some t=>t::aTv os
  | none=>aTv os
theorem aS8 {ro:Option Nat}{ops:Array Oper}{draw:Bool}{st:St}{u:Nat→Option V}{h1:cE}{d1:List Nat}{r:Nat}{q:REs}{y:List Prop}{res:Res}{L:List (Nat×Option V)}{hs:List (Nat×Hn)}{kf:List Nat}{id:Nat}{Q:Exit→St→Prop}(m:Nat) (hm:P.follows .mixedOrders=true) (hw:tr.wf=true) (I:Tok P tr.flat)
  (g1:tI P tr md nat n ops.toList hs m 0 ops.toList st.e st.h st.d [] []=some (⟨u,h1,d1⟩,r,q,y))
  (g2:oF P tr md nat n ops.toList hs (aTv (ops.toList.drop r)) 1000 r (ops.toList.drop r) u h1 d1 [] q y=some res)
  (g3:rE res (aTv (ops.toList.drop r))=some L) (ho:res.obs) (O:res.good ops draw=true) (hq:Q .normal ⟨mR u L,h1,d1⟩):AWp ro P n kf (.region id ops draw) st Q:=by
 have U:=aFj (P:=P) (tr:=tr) (md:=md) (nat:=nat) (n:=n) (e0:=u) _ _ _ _ _ _ _ _ _ _ g2 (fun _ _ _ h=>h);have J:=aMg g3 U;have B:res.all fun st'=>Sub kf ⟨mR u L,h1,d1⟩ st':=Res.all_mono (fun st h=>Sub.weak h.1 h.2.1 h.2.2) J
 obtain⟨M,E⟩:=aOe (draw:=draw) hw I _ _ _ _ _ _ _ _ _ _ rfl g2 ho O _ B;exact aS7 _ hm ((aAy hw I m 0 _ st.e st.h st.d [] [] _ r q y rfl g1 M).2 _ E) hq
end
end Go.AM
