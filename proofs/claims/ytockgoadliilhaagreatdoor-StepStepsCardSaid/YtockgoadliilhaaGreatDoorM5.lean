/-
  Texts Am23 to Am26 in one.
-/
import Derived.Test.YtockgoadliilhaaGreatDoorM4
import Derived.KernelRfl
open List (drop_zero map_cons take_length)
open Nat (eq_of_beq_eq_true le_of_ble_eq_true zero_add)
namespace Go.AM
open Go
def frc {α:Type}:List α→Option (List α)
 | []=>some []
 | x::xs=>(frc xs).bind fun l=>some (x::l)
theorem lR {α:Type}:∀l:List α,frc l=some l
 | []=>rfl
 | x::xs=>by simp[frc,lR xs]
def tak {α:Type}:Nat→List α→Option (List α)
 | 0,_=>some []
 | _+1,[]=>none
 | k+1,x::xs=>(tak k xs).bind fun l=>some (x::l)
theorem tO {α:Type}:∀{k:Nat}{l r:List α},tak k l=some r→k≤l.length∧l.take k=r
 | 0,l,r,h=>by simp[tak] at h;simp[h]
 | k+1,[],r,h=>by simp[tak] at h
 | k+1,x::xs,r,h=>by
  simp only[tak,Ak] at h;obtain⟨l,h1,h2⟩:=h;cases h2;obtain⟨h3,h4⟩:=tO h1;exact⟨by simp;omega,by simp[h4]⟩
inductive Tr where
 | leaf (o:Option TI)
 | node (k:Nat) (l r:Tr)
def Tr.get:Tr→Nat→Option TI
 | .leaf o,t=>bif Nat.beq t 0 then o else none
 | .node k l r,t=>bif Nat.blt t k then l.get t else r.get (t-k)
def Tr.flat:Tr→TT
 | .leaf o=>[o]
 | .node _ l r=>l.flat++r.flat
def Tr.wf:Tr→Bool
 | .leaf _=>true
 | .node k l r=>Nat.beq k l.flat.length&&(l.wf&&r.wf)
theorem Tr.get_ok:∀{tr:Tr}{t:Nat}{i:TI},tr.wf=true→tr.get t=some i→tr.flat[t]?=some (some i)
 | .leaf o,t,i,_,h=>by
  simp only[Tr.get] at h;cases hb:Nat.beq t 0 with
  | false=>rw[hb] at h;cases h
  | true=>
   rw[hb] at h;have:=Ab hb;subst this;simp only[Bn] at h;simp[Tr.flat,h]
 | .node k l r,t,i,hw,h=>by
  simp only[Tr.wf,Aj] at hw;have hk:=Ab hw.1;simp only[Tr.get] at h;simp only[Tr.flat,B7];cases hb:Nat.blt t k with
  | true=>
   rw[hb] at h;have:t<k:=Aq hb;rw[ξ (by omega)];exact Tr.get_ok hw.2.1 h
  | false=>
   rw[hb] at h;have:¬t<k:=fun u=>by
    have:Nat.blt t k=true:=Nat.ble_eq_true_of_le u;rw[hb] at this;cases this
   rw[φ (by omega),←hk];exact Tr.get_ok hw.2.2 h
def jC:List Prop→Prop
 | []=>True
 | p::l=>p∧jC l
def jI (md:Bool) (p:Prop) [Decidable p] (ob:List Prop):Option (List Prop):=bif md then some (p::ob) else bif decide p then some ob else none
theorem bI {md:Bool}{p:Prop} [Decidable p] {ob u:List Prop}(h:jI md p ob=some u):jC u→jC ob∧p:=by
 unfold jI at h;cases md with
 | true=>cases h;exact fun h=>⟨h.2,h.1⟩
 | false=>
  simp only[Bs] at h;cases hp:decide p with
  | false=>rw[hp] at h;cases h
  | true=>rw[hp] at h;cases h;exact fun h=>⟨h,ψ hp⟩
inductive Hn where
 | no
 | id (n:Nat)
 | bv (b:Bool)
 | row (k:Nat) (r:List C)
 | all
 | look (r:Option (List C))
 | c (rows:List (List C))
 | byte (k:Nat) (b:UInt8)
 | pc (res:V)
 | fz
 | rr (r:List R)
 | rowR (k:Nat) (r:List R)
def aTr:List (Nat×Hn)→Nat→Hn
 | [],_=>.no
 | (k,h)::l,i=>bif Nat.beq i k then h else aTr l i
abbrev Ans:=Option (Rd×Eff×List Prop)
def Snd (P:Program) (n:Nat) (o:Oper) (st:St) (ob:List Prop) (r:Ans):Prop:=∀rd f ob',r=some (rd,f,ob')→jC ob'→jC ob∧Step P n o st rd f
def val (o:Oper) (n:Nat) (rd:Rd) (v:V) (h:List (Nat×Option AObj)) (ob:List Prop):Ans:=
 match o.dst with
 | some d=>bif Nat.blt d n then some (rd,⟨some (d,some v),h⟩,ob) else none
 | none=>none
def eff (o:Oper) (rd:Rd) (h:List (Nat×Option AObj)) (ob:List Prop):Ans:=
 match o.dst with
 | none=>some (rd,⟨none,h⟩,ob)
 | some _=>none
def opO (st:St):Operand→Option V
 | .tmp t=>st.e t
 | .const v=>match v with
  | .int k n=>some (.one (.c (.int k n)))
  | .bool b=>some (.one (.c (.bool b)))
  | .string ⟨⟨l⟩⟩=>some (.one (.c (.str l)))
  | .slice none 0 0=>some (.one (.c .nl))
  | .pointer none=>some (.one (.c .np))
  | .map none=>some (.one (.c (.zv 0)))
  | .nilFunc=>some (.one (.c (.zv 1)))
  | .nilIface=>some (.one (.c (.zv 2)))
  | _=>none
 | .func f=>some (.one (.clo f []))
 | .global _=>none
theorem dF (st:St) (x:Operand):opO st x=opv st x:=by
 cases x with
 | const v=>
  cases v with
  | string s=>obtain⟨⟨l⟩⟩:=s;rfl
  | slice a l c=>
   cases a with
   | some _=>rfl
   | none=>
    cases l with
    | zero=>cases c<;>rfl
    | succ _=>rfl
  | pointer p=>cases p<;>rfl
  | map m=>cases m<;>rfl
  | _=>rfl
 | _=>rfl
def a4t (rs:List R):Option V:=match jR rs with | some l=>some (.pa l) | none=>some (.ma rs)
theorem aRi (rs:List R):a4t rs=some (a0o rs):=by
 unfold a4t a0o;cases jR rs<;>rfl
def aKf (i:TI) (rs:List R):Option V:=bif i.k.agg then a4t rs else match rs with | [r]=>some (.one r) | _=>none
theorem sT (i:TI) (rs:List R):aKf i rs=pQ i rs:=by
 unfold aKf pQ;cases i.k.agg
 ·rfl
 ·exact aRi rs
def aIa (i:TI) (l:List C):Option V:=bif i.k.agg then some (.pa l) else match l with | [c]=>some (.one (.c c)) | _=>none
theorem aCa (i:TI) (l:List C):aIa i l=aKg i l:=by
 unfold aIa aKg;cases i.k.agg<;>rfl
def qC (v:V):Option (List R):=(j2 v).bind frc
theorem jO (v:V):qC v=j2 v:=by
 unfold qC;cases j2 v with
 | none=>rfl
 | some l=>simp[lR]
theorem fI {α:Type}{b:Bool}{x:Option α}{y:α}(h:(bif b then x else none)=some y):b=true∧x=some y:=by
 cases b
 ·cases h
 ·exact⟨rfl,h⟩
theorem nI {d n:Nat}(h:Nat.blt d n=true):d<n:=Aq h
theorem a0t {o:Oper}{n:Nat}{rd u:Rd}{v:V}{h:List (Nat×Option AObj)}{ob I:List Prop}{f:Eff}(e:val o n rd v h ob=some (u,f,I)):∃d,o.dst=some d∧d<n∧u=rd∧f=⟨some (d,some v),h⟩∧I=ob:=by
 unfold val at e;split at e
 ·rename_i d hd;obtain⟨h1,h2⟩:=fI e;cases h2;exact⟨d,hd,nI h1,rfl,rfl,rfl⟩
 ·cases e
theorem a3c {o:Oper}{rd u:Rd}{h:List (Nat×Option AObj)}{ob I:List Prop}{f:Eff}(e:eff o rd h ob=some (u,f,I)):o.dst=none∧u=rd∧f=⟨none,h⟩∧I=ob:=by
 unfold eff at e;split at e
 ·rename_i hd;cases e;exact⟨hd,rfl,rfl,rfl⟩
 ·cases e
theorem Snd.val {P:Program}{n:Nat}{o:Oper}{st:St}{ob u:List Prop}{rd:Rd}{v:V}{h:List (Nat×Option AObj)}(hk:∀d,o.dst=some d→d<n→jC u→jC ob∧Step P n o st rd ⟨some (d,some v),h⟩):Snd P n o st ob (Go.AM.val o n rd v h u):=by
 intro J f I e hc;obtain⟨d,h1,h2,rfl,rfl,rfl⟩:=a0t e;exact hk d h1 h2 hc
theorem Snd.eff {P:Program}{n:Nat}{o:Oper}{st:St}{ob u:List Prop}{rd:Rd}{h:List (Nat×Option AObj)}(hk:o.dst=none→jC u→jC ob∧Step P n o st rd ⟨none,h⟩):Snd P n o st ob (Go.AM.eff o rd h u):=by
 intro J f I e hc;obtain⟨h1,rfl,rfl,rfl⟩:=a3c e;exact hk h1 hc
theorem Snd.none {P:Program}{n:Nat}{o:Oper}{st:St}{ob:List Prop}:Snd P n o st ob none:=by
 intro rd f u e;cases e
theorem Snd.bind {P:Program}{n:Nat}{o:Oper}{st:St}{ob:List Prop}{α:Type}{x:Option α}{k:α→Ans}(h:∀y,x=some y→Snd P n o st ob (k y)):Snd P n o st ob (x.bind k):=by
 intro rd f u e;rw[Ak] at e;obtain⟨y,h1,h2⟩:=e;exact h y h1 rd f u h2
theorem Snd.cond {P:Program}{n:Nat}{o:Oper}{st:St}{ob:List Prop}{b:Bool}{r:Ans}(h:b=true→Snd P n o st ob r):Snd P n o st ob (bif b then r else Option.none):=by
 cases b
 ·exact Snd.none
 ·exact h rfl
section
variable {P:Program}{n:Nat}{o:Oper}{st:St}{ob:List Prop}{tr:Tr}{md:Bool}
def aI8 (o:Oper) (n:Nat) (st:St) (ob:List Prop) (x:Operand):Ans:=(opO st x).bind fun y=>val o n ⟨opr x,[]⟩ y [] ob
theorem aQ3 {x:Operand}(I:o.op=.move x):Snd P n o st ob (aI8 o n st ob x):=
 Snd.bind fun y J=>Snd.val fun _ hd u hc=>⟨hc,a1w I hd u (by rw[←dF];exact J)⟩
theorem aFl {x:Operand}(I:o.op=.assign x):Snd P n o st ob (aI8 o n st ob x):=
 Snd.bind fun y J=>Snd.val fun _ hd u hc=>⟨hc,aSy I hd u (by rw[←dF];exact J)⟩
def aR9 (hn:Hn) (b:Bool) (ob:List Prop):Bool×List Prop:=match hn with
 | .bv w=>(w,(b=w)::ob)
 | _=>match b with
  | true=>(true,ob)
  | false=>(false,ob)
theorem sD {hn:Hn}{b w:Bool}{ob u:List Prop}(h:aR9 hn b ob=(w,u)):jC u→jC ob∧b=w:=by
 unfold aR9 at h;split at h
 ·cases h;exact fun h=>⟨h.2,h.1⟩
 ·cases b<;>(cases h;exact fun h=>⟨h,rfl⟩)
def aW8 (o:Oper) (n:Nat) (st:St) (ob:List Prop) (hn:Hn) (c x y:Operand):Ans:=(opO st c).bind fun v=>match v with
 | .one (.c (.bool b))=>match aR9 hn b ob with
  | (true,ob')=>(opO st x).bind fun z=>val o n ⟨opr c++opr x,[]⟩ z [] ob'
  | (false,ob')=>(opO st y).bind fun z=>val o n ⟨opr c++opr y,[]⟩ z [] ob'
 | _=>none
theorem aQ1 {hn:Hn}{c x y:Operand}(J:o.op=.pick c x y):Snd P n o st ob (aW8 o n st ob hn c x y):=by
 refine Snd.bind fun v hv=>?_
 rw[dF] at hv;split
 ·rename_i b;split
  ·rename_i N ht;refine Snd.bind fun z u=>Snd.val fun _ hd I hc=>?_
   rw[dF] at u;obtain⟨h1,h2⟩:=sD ht hc;exact⟨h1,aSr J hd I hv h2 u⟩
  ·rename_i N ht;refine Snd.bind fun z u=>Snd.val fun _ hd I hc=>?_
   rw[dF] at u;obtain⟨h1,h2⟩:=sD ht hc;exact⟨h1,aSs J hd I hv h2 u⟩
 ·exact Snd.none
def aDf (o:Oper) (n:Nat) (st:St) (ob:List Prop) (x:Operand) (i:Nat):Ans:=(opO st x).bind fun v=>match v with
 | .tup l=>(l[i]?).bind fun z=>val o n ⟨opr x,[]⟩ z [] ob
 | _=>none
theorem aDe {x:Operand}{i:Nat}(I:o.op=.extract x i):Snd P n o st ob (aDf o n st ob x i):=by
 refine Snd.bind fun v hv=>?_
 rw[dF] at hv;split
 ·exact Snd.bind fun z J=>Snd.val fun _ hd u hc=>⟨hc,aNa I hd u hv J⟩
 ·exact Snd.none
def aRd (tr:Tr) (o:Oper) (n:Nat) (st:St) (ob:List Prop) (id:Nat) (t:TypeId):Ans:=(tr.get t).bind fun i=>(frc (i.zero.map R.c)).bind fun z=>match st.h id with
 | none=>val o n ⟨[],[id]⟩ (.one (.vp id 0)) [(id,some (.var t z))] ob
 | some _=>none
theorem aK0 {id:Nat}{t:TypeId}(hw:tr.wf=true) (J:Tok P tr.flat) (N:o.op=.alloc t):Snd P n o st ob (aRd tr o n st ob id t):=by
 refine Snd.bind fun i hi=>Snd.bind fun z u=>?_
 rw[lR] at u;cases u;split
 ·rename_i hid;exact Snd.val fun _ hd I hc=>⟨hc,aX5 id J N hd I (Tr.get_ok hw hi) hid⟩
 ·exact Snd.none
def a4d (o:Oper) (n:Nat) (st:St) (ob:List Prop) (id:Nat) (t:TypeId) (x:Operand):Ans:=(opO st x).bind fun v=>(qC v).bind fun rs=>match st.h id with
 | none=>val o n ⟨opr x,[id]⟩ (.one (.vp id 0)) [(id,some (.var t rs))] ob
 | some _=>none
theorem aUt {id:Nat}{t:TypeId}{x:Operand}(J:o.op=.box t x):Snd P n o st ob (a4d o n st ob id t x):=by
 refine Snd.bind fun v hv=>Snd.bind fun rs u=>?_
 rw[dF] at hv;rw[jO] at u;split
 ·rename_i hid;exact Snd.val fun _ hd I hc=>⟨hc,a5k id J hd I hv u hid⟩
 ·exact Snd.none
def aZz (tr:Tr) (o:Oper) (n:Nat) (st:St) (ob:List Prop) (id:Nat) (t:TypeId) (r:Option Operand):Ans:=match r with
 | some _=>none
 | none=>(tr.get t).bind fun i=>match i.k with
  | .mp _ e=>(tr.get e).bind fun ei=>match st.h id with
   | none=>val o n ⟨[],[id]⟩ (.one (.mr id)) [(id,some (.map ei.k.agg []))] ob
   | some _=>none
  | _=>none
theorem aUp {id:Nat}{t:TypeId}{r:Option Operand}(I:o.op=.makeMap t r):Snd P n o st ob (aZz tr o n st ob id t r):=by
 unfold aZz;split
 ·exact Snd.none
 ·refine Snd.bind fun i hi=>?_
  split
  ·refine Snd.bind fun N J=>?_
   split
   ·rename_i hid;exact Snd.val fun _ hd u hc=>⟨hc,aM2 id _ I hd u hid⟩
   ·exact Snd.none
  ·exact Snd.none
def a1g (hn:Hn) (elems:List (List C)) (k:Nat) (ob:List Prop):Option (List C×List Prop):=match hn with
 | .row _ r=>some (r,(elems[k]?=some r)::ob)
 | _=>match elems[k]? with
  | some r=>some (r,ob)
  | none=>none
theorem aEp {hn:Hn}{elems:List (List C)}{k:Nat}{ob u:List Prop}{r:List C}(h:a1g hn elems k ob=some (r,u)):jC u→jC ob∧elems[k]?=some r:=by
 unfold a1g at h;split at h
 ·cases h;exact fun h=>⟨h.2,h.1⟩
 ·split at h
  ·rename_i h1;cases h;exact fun h=>⟨h,h1⟩
  ·cases h
def aSl (hn:Hn) (elems:List (List R)) (k:Nat) (ob:List Prop):Option (List R×List Prop):=match hn with
 | .rr r=>some (r,(elems[k]?=some r)::ob)
 | _=>match elems[k]? with
  | some r=>some (r,ob)
  | none=>none
theorem aG1 {hn:Hn}{elems:List (List R)}{k:Nat}{ob u:List Prop}{r:List R}(h:aSl hn elems k ob=some (r,u)):jC u→jC ob∧elems[k]?=some r:=by
 unfold aSl at h;split at h
 ·cases h;exact fun h=>⟨h.2,h.1⟩
 ·split at h
  ·rename_i h1;cases h;exact fun h=>⟨h,h1⟩
  ·cases h
def aW9 (tr:Tr) (md:Bool) (o:Oper) (n:Nat) (st:St) (ob:List Prop) (hn:Hn) (t:TypeId) (x:Operand):Ans:=(tr.get t).bind fun i=>(opO st x).bind fun v=>match v with
 | .one (.vp id off)=>match st.h id with
  | some (.var _ cells)=>bif Nat.ble (off+i.size) cells.length then(tak i.size (cells.drop off)).bind fun rs=>(aKf i rs).bind fun y=>val o n ⟨opr x,[id]⟩ y [] ob else none
  | _=>none
 | .one (.c (.pt l))=>(tak i.size l).bind fun cs=>(aIa i cs).bind fun y=>val o n ⟨opr x,[]⟩ y [] ob
 | .one (.pas l)=>(tak i.size l).bind fun cs=>(aKf i cs).bind fun y=>val o n ⟨opr x,[]⟩ y [] ob
 | .one (.ep id k fo sz)=>match st.h id with
  | some (.arr _ es elems _)=>(jI md (sz=elems.length) ob).bind fun ob1=>(a1g hn elems k ob1).bind fun(r,ob2)=>
   bif Nat.ble (fo+i.size) es then(tak i.size (r.drop fo)).bind fun cs=>(aIa i cs).bind fun y=>val o n ⟨opr x,[id]⟩ y [] ob2 else none
  | _=>none
 | .one (.rp id k fo sz)=>match st.h id with
  | some (.rarr _ es elems)=>(jI md (sz=elems.length) ob).bind fun ob1=>(aSl hn elems k ob1).bind fun(r,ob2)=>
   bif Nat.ble (fo+i.size) es then(tak i.size (r.drop fo)).bind fun cs=>(aKf i cs).bind fun y=>val o n ⟨opr x,[id]⟩ y [] ob2 else none
  | _=>none
 | _=>none
theorem aQ4 {hn:Hn}{t:TypeId}{x:Operand}(hw:tr.wf=true) (N:Tok P tr.flat) (O:o.op=.load t x):Snd P n o st ob (aW9 tr md o n st ob hn t x):=by
 refine Snd.bind fun i hi=>Snd.bind fun v hv=>?_
 rw[dF] at hv
 replace hi:=Tr.get_ok hw hi
 split
 ·rename_i id off;split
  ·rename_i tv cells hh;refine Snd.cond fun hb=>Snd.bind fun rs Y=>Snd.bind fun y u=>Snd.val fun _ hd I hc=>⟨hc,?_⟩
   obtain⟨h1,h2⟩:=tO Y;rw[sT,←h2] at u;exact a1x N O hd I hi hv hh hb u
  ·exact Snd.none
 ·rename_i l;refine Snd.bind fun cs J=>Snd.bind fun y u=>Snd.val fun _ hd I hc=>⟨hc,?_⟩
  obtain⟨h1,h2⟩:=tO J;rw[aCa,←h2] at u;exact aM5 N O hd I hi hv h1 u
 ·rename_i l;refine Snd.bind fun cs J=>Snd.bind fun y u=>Snd.val fun _ hd I hc=>⟨hc,?_⟩
  obtain⟨h1,h2⟩:=tO J;rw[sT,←h2] at u;exact aJw N O hd I hi hv h1 u
 ·rename_i id k fo sz;split
  ·rename_i te es elems fz hh;refine Snd.bind fun Z h1=>Snd.bind fun p h2=>?_
   obtain⟨r,aa⟩:=p;refine Snd.cond fun h3=>Snd.bind fun cs J=>Snd.bind fun y u=>Snd.val fun _ hd I hc=>?_
   obtain⟨g1,g2⟩:=aEp h2 hc;obtain⟨g3,g4⟩:=bI h1 g1;obtain⟨h4,h5⟩:=tO J;rw[aCa,←h5] at u;exact⟨g3,aM6 N O hd I hi hv hh g4 g2 (Aq h3) u⟩
  ·exact Snd.none
 ·rename_i id k fo sz;split
  ·rename_i te es elems hh;refine Snd.bind fun Z h1=>Snd.bind fun p h2=>?_
   obtain⟨r,aa⟩:=p;refine Snd.cond fun h3=>Snd.bind fun cs J=>Snd.bind fun y u=>Snd.val fun _ hd I hc=>?_
   obtain⟨g1,g2⟩:=aG1 h2 hc;obtain⟨g3,g4⟩:=bI h1 g1;obtain⟨h4,h5⟩:=tO J;rw[sT,←h5] at u;exact⟨g3,aM4 N O hd I hi hv hh g4 g2 (Aq h3) u⟩
  ·exact Snd.none
 ·exact Snd.none
def a0g {α:Type}(l:List α) (off:Nat) (new:List α):Option (List α):=frc (cK l off new)
def aQy (tr:Tr) (md:Bool) (o:Oper) (st:St) (ob:List Prop) (hn:Hn) (t:TypeId) (x y:Operand):Ans:=(tr.get t).bind fun i=>(opO st x).bind fun v=>(opO st y).bind fun u=>(qC u).bind fun rs=>bif Nat.beq rs.length i.size then(match v with
 | .one (.vp id off)=>match st.h id with
  | some (.var tv cells)=>bif Nat.ble (off+i.size) cells.length then(a0g cells off rs).bind fun cs=>eff o ⟨opr x++opr y,[id]⟩ [(id,some (.var tv cs))] ob else none
  | _=>none
 | .one (.ep id k fo sz)=>match st.h id with
  | some (.arr te es elems 0)=>(jR rs).bind fun cs=>(jI md (sz=elems.length) ob).bind fun ob1=>(a1g hn elems k ob1).bind fun(r,ob2)=>
   bif Nat.ble (fo+i.size) es then(a0g r fo cs).bind fun r'=>eff o ⟨opr x++opr y,[id]⟩ [(id,some (.arr te es (elems.set k r') 0))] ob2 else none
  | _=>none
 | .one (.rp id k fo sz)=>match st.h id with
  | some (.rarr te es elems)=>(jI md (sz=elems.length) ob).bind fun ob1=>(aSl hn elems k ob1).bind fun(r,ob2)=>
   bif Nat.ble (fo+i.size) es then(a0g r fo rs).bind fun r'=>eff o ⟨opr x++opr y,[id]⟩ [(id,some (.rarr te es (elems.set k r')))] ob2 else none
  | _=>none
 | _=>none) else none
theorem aKu {hn:Hn}{t:TypeId}{x y:Operand}(hw:tr.wf=true) (Y:Tok P tr.flat) (Z:o.op=.store t x y):Snd P n o st ob (aQy tr md o st ob hn t x y):=by
 refine Snd.bind fun i hi=>Snd.bind fun v hv=>Snd.bind fun u hu=>Snd.bind fun rs N=>Snd.cond fun hl=>?_
 rw[dF] at hv hu;rw[jO] at N
 replace hi:=Tr.get_ok hw hi
 have O:=Ab hl;split
 ·rename_i id off;split
  ·rename_i tv cells hh;refine Snd.cond fun hb=>Snd.bind fun cs J=>Snd.eff fun hd hc=>⟨hc,?_⟩
   unfold a0g at J;rw[lR] at J;cases J;exact aXw Y Z hd hi hv hu N hh O hb
  ·exact Snd.none
 ·rename_i id k fo sz;split
  ·rename_i te es elems hh;refine Snd.bind fun cs J=>Snd.bind fun aa h1=>Snd.bind fun p h2=>?_
   obtain⟨r,ab⟩:=p;refine Snd.cond fun h3=>Snd.bind fun r' I=>Snd.eff fun hd hc=>?_
   obtain⟨g1,g2⟩:=aEp h2 hc;obtain⟨g3,g4⟩:=bI h1 g1;unfold a0g at I;rw[lR] at I;cases I;refine⟨g3,aJt Y Z hd hi hv hu N J hh g4 g2 ?_ (Aq h3)⟩;have:=pL J;rw[this] at O;simpa using O
  ·exact Snd.none
 ·rename_i id k fo sz;split
  ·rename_i te es elems hh;refine Snd.bind fun aa h1=>Snd.bind fun p h2=>?_
   obtain⟨r,ab⟩:=p;refine Snd.cond fun h3=>Snd.bind fun r' I=>Snd.eff fun hd hc=>?_
   obtain⟨g1,g2⟩:=aG1 h2 hc;obtain⟨g3,g4⟩:=bI h1 g1;unfold a0g at I;rw[lR] at I;cases I;exact⟨g3,aJs Y Z hd hi hv hu N hh g4 g2 O (Aq h3)⟩
  ·exact Snd.none
 ·exact Snd.none
def vD (tr:Tr) (md:Bool) (o:Oper) (n:Nat) (st:St) (ob:List Prop) (t:TypeId) (x:Operand) (f:Nat):Ans:=(tr.get t).bind fun i=>match i.k with
 | .st fs=>(fs[f]?).bind fun(foff,ft)=>(tr.get ft).bind fun fi=>bif Nat.ble 1 fi.size then((opO st x).bind fun v=>match v with
  | .one (.vp id off)=>val o n ⟨opr x,[]⟩ (.one (.vp id (off+foff))) [] ob
  | .one (.c (.pt l))=>val o n ⟨opr x,[]⟩ (.one (.c (.pt (l.drop foff)))) [] ob
  | .one (.pas l)=>val o n ⟨opr x,[]⟩ (.one (.pas (l.drop foff))) [] ob
  | .one (.ep id k fo sz)=>match st.h id with
   | some (.arr _ _ elems _)=>(jI md (sz=elems.length) ob).bind fun ob1=>val o n ⟨opr x,[id]⟩ (.one (.ep id k (fo+foff) sz)) [] ob1
   | _=>none
  | .one (.rp id k fo sz)=>match st.h id with
   | some (.rarr _ _ elems)=>(jI md (sz=elems.length) ob).bind fun ob1=>val o n ⟨opr x,[id]⟩ (.one (.rp id k (fo+foff) sz)) [] ob1
   | _=>none
  | _=>none) else none
 | _=>none
theorem w3 {t:TypeId}{x:Operand}{f:Nat}(hw:tr.wf=true) (N:Tok P tr.flat) (O:o.op=.fieldAddr t x f):Snd P n o st ob (vD tr md o n st ob t x f):=by
 refine Snd.bind fun i hi=>?_
 replace hi:=Tr.get_ok hw hi
 split
 ·rename_i fs hk;refine Snd.bind fun p hf=>?_
  obtain⟨Z,ft⟩:=p;refine Snd.bind fun fi I=>Snd.cond fun hz=>Snd.bind fun v hv=>?_
  replace I:=Tr.get_ok hw I
  have J:fi.size≠0:=by have:=Aq hz;omega
  rw[dF] at hv;split
  ·exact Snd.val fun _ hd u hc=>⟨hc,aJy N O hd u hi hk hf I J hv⟩
  ·exact Snd.val fun _ hd u hc=>⟨hc,aJ0 N O hd u hi hk hf I J hv⟩
  ·exact Snd.val fun _ hd u hc=>⟨hc,aEu N O hd u hi hk hf I J hv⟩
  ·split
   ·rename_i hh;exact Snd.bind fun Y h1=>Snd.val fun _ hd u hc=>⟨(bI h1 hc).1,aJ1 N O hd u hi hk hf I J hv hh (bI h1 hc).2⟩
   ·exact Snd.none
  ·split
   ·rename_i hh;exact Snd.bind fun Y h1=>Snd.val fun _ hd u hc=>⟨(bI h1 hc).1,aJz N O hd u hi hk hf I J hv hh (bI h1 hc).2⟩
   ·exact Snd.none
  ·exact Snd.none
 ·exact Snd.none
def aQ8 (tr:Tr) (o:Oper) (n:Nat) (st:St) (ob:List Prop) (t:TypeId) (x:Operand) (f:Nat):Ans:=(tr.get t).bind fun i=>match i.k with
 | .st fs=>(fs[f]?).bind fun(foff,ft)=>(tr.get ft).bind fun fi=>(opO st x).bind fun v=>(qC v).bind fun rs=>
  bif (match v with | .pa _=>true | .ma _=>true | _=>false) then bif Nat.ble (foff+fi.size) rs.length then(tak fi.size (rs.drop foff)).bind fun l=>(aKf fi l).bind fun y=>val o n ⟨opr x,[]⟩ y [] ob else none else none
 | _=>none
theorem aKy {t:TypeId}{x:Operand}{f:Nat}(hw:tr.wf=true) (Z:Tok P tr.flat) (ho:o.op=.field t x f):Snd P n o st ob (aQ8 tr o n st ob t x f):=by
 refine Snd.bind fun i hi=>?_
 replace hi:=Tr.get_ok hw hi
 split
 ·rename_i fs hk;refine Snd.bind fun p hf=>?_
  obtain⟨foff,ft⟩:=p;refine Snd.bind fun fi u=>Snd.bind fun v hv=>Snd.bind fun rs I=>Snd.cond fun J=>Snd.cond fun hl=>Snd.bind fun l N=>Snd.bind fun y O=>?_
  replace u:=Tr.get_ok hw u
  rw[dF] at hv;rw[jO] at I;rw[sT,←(tO N).2] at O;exact Snd.val fun _ hd Y hc=>⟨hc,aXz Z ho hd Y hi hk hf u hv (by cases v<;>first | rfl | exact J) I hl O⟩
 ·exact Snd.none
def atO (hn:Hn) (m:Int) (ob:List Prop):Option (Nat×List Prop):=match hn with
 | .row k _=>some (k,(m=(k:Int))::ob)
 | .rowR k _=>some (k,(m=(k:Int))::ob)
 | _=>match m with
  | .ofNat k=>some (k,ob)
  | .negSucc _=>none
theorem xT {hn:Hn}{m:Int}{k:Nat}{ob u:List Prop}(h:atO hn m ob=some (k,u)):jC u→jC ob∧m=(k:Int):=by
 unfold atO at h;split at h
 ·cases h;exact fun h=>⟨h.2,h.1⟩
 ·cases h;exact fun h=>⟨h.2,h.1⟩
 ·split at h
  ·cases h;exact fun h=>⟨h,rfl⟩
  ·cases h
def a4u (a b:Nat):Option Nat:=match a with
 | 0=>some b
 | a+1=>some (a+1+b)
theorem aRj {a b c:Nat}(h:a4u a b=some c):a+b=c:=by
 unfold a4u at h;split at h<;>cases h
 ·exact Bc _
 ·rfl
def vB (tr:Tr) (md:Bool) (o:Oper) (n:Nat) (st:St) (ob:List Prop) (hn:Hn) (t:TypeId) (x y:Operand):Ans:=(tr.get t).bind fun i=>match i.k with
 | .sl e=>(tr.get e).bind fun ei=>(opO st x).bind fun v=>(opO st y).bind fun u=>match u with
  | .one (.c (.int _ m))=>(atO hn m ob).bind fun(k,ob1)=>match v with
   | .one (.c (.sl es l))=>bif Nat.beq ei.size es then(a1g hn l k ob1).bind fun(r,ob2)=>val o n ⟨opr x++opr y,[]⟩ (.one (.c (.pt r))) [] ob2 else none
   | .one (.hs id off len sz)=>match st.h id with
    | some (.arr _ es elems _)=>bif Nat.beq ei.size es then(jI md (sz=elems.length) ob1).bind fun ob2=>(jI md (k<len) ob2).bind fun ob3=>(a4u off k).bind fun j=>val o n ⟨opr x++opr y,[id]⟩ (.one (.ep id j 0 sz)) [] ob3 else none
    | _=>none
   | .one (.ra id off len sz)=>match st.h id with
    | some (.rarr _ es elems)=>bif Nat.beq ei.size es then(jI md (sz=elems.length) ob1).bind fun ob2=>(jI md (k<len) ob2).bind fun ob3=>(a4u off k).bind fun j=>val o n ⟨opr x++opr y,[id]⟩ (.one (.rp id j 0 sz)) [] ob3 else none
    | _=>none
   | .one (.ras n' es l)=>bif Nat.beq ei.size es then(jI md (k<n') ob1).bind fun ob2=>match hn with
    | .rowR _ r=>val o n ⟨opr x++opr y,[]⟩ (.one (.pas r)) [] (((l.drop (k*es)).take es=r)::ob2)
    | _=>(frc ((l.drop (k*es)).take es)).bind fun r=>val o n ⟨opr x++opr y,[]⟩ (.one (.pas r)) [] ob2 else none
   | _=>none
  | _=>none
 | .ar m' e=>(tr.get e).bind fun ei=>(opO st x).bind fun v=>(opO st y).bind fun u=>match u with
  | .one (.c (.int _ m))=>(atO hn m ob).bind fun(k,ob1)=>match v with
   | .one (.vp id off)=>(jI md (k<m') ob1).bind fun ob2=>val o n ⟨opr x++opr y,[]⟩ (.one (.vp id (off+k*ei.size))) [] ob2
   | _=>none
  | _=>none
 | _=>none
theorem vZ {hn:Hn}{t:TypeId}{x y:Operand}(hw:tr.wf=true) (Y:Tok P tr.flat) (Z:o.op=.indexAddr t x y):Snd P n o st ob (vB tr md o n st ob hn t x y):=by
 refine Snd.bind fun i hi=>?_
 replace hi:=Tr.get_ok hw hi
 split
 ·rename_i e hk;refine Snd.bind fun ei I=>Snd.bind fun v hv=>Snd.bind fun u hu=>?_
  replace I:=Tr.get_ok hw I
  rw[dF] at hv hu;split
  ·rename_i kk m;refine Snd.bind fun p hp=>?_
   obtain⟨k,aa⟩:=p;dsimp only;split
   ·rename_i es l;refine Snd.cond fun N=>Snd.bind fun p h2=>?_
    obtain⟨r,O⟩:=p;refine Snd.val fun _ hd J hc=>?_
    obtain⟨g1,g2⟩:=aEp h2 hc;obtain⟨g3,g4⟩:=xT hp g1;exact⟨g3,aXy Y Z hd J hi hk I (Ab N) hv hu g4 g2⟩
   ·rename_i id off len sz;split
    ·rename_i te es elems fz hh;refine Snd.cond fun N=>Snd.bind fun O h2=>Snd.bind fun ab h3=>Snd.bind fun j hj=>Snd.val fun _ hd J hc=>?_
     have hj:=aRj hj;subst hj;obtain⟨g1,g2⟩:=bI h3 hc;obtain⟨g3,g4⟩:=bI h2 g1;obtain⟨g5,g6⟩:=xT hp g3;exact⟨g5,wO Y Z hd J hi hk I (Ab N) hv hh g4 hu g6 g2⟩
    ·exact Snd.none
   ·rename_i id off len sz;split
    ·rename_i te es elems hh;refine Snd.cond fun N=>Snd.bind fun O h2=>Snd.bind fun ab h3=>Snd.bind fun j hj=>Snd.val fun _ hd J hc=>?_
     have hj:=aRj hj;subst hj;obtain⟨g1,g2⟩:=bI h3 hc;obtain⟨g3,g4⟩:=bI h2 g1;obtain⟨g5,g6⟩:=xT hp g3;exact⟨g5,aJx Y Z hd J hi hk I (Ab N) hv hh g4 hu g6 g2⟩
    ·exact Snd.none
   ·rename_i n' es l;refine Snd.cond fun N=>Snd.bind fun O h2=>?_
    have N:=Ab N;split
    ·refine Snd.val fun _ hd J hc=>?_
     obtain⟨c1,c2⟩:=hc;obtain⟨g1,g2⟩:=bI h2 c2;obtain⟨g3,g4⟩:=xT hp g1;exact⟨g3,tZ Y Z hd J hi hk I N hv hu g4 g2 c1⟩
    ·refine Snd.bind fun r hr=>Snd.val fun _ hd J hc=>?_
     rw[lR] at hr;cases hr;obtain⟨g1,g2⟩:=bI h2 hc;obtain⟨g3,g4⟩:=xT hp g1;exact⟨g3,tZ Y Z hd J hi hk I N hv hu g4 g2 rfl⟩
   ·exact Snd.none
  ·exact Snd.none
 ·rename_i m' e hk;refine Snd.bind fun ei I=>Snd.bind fun v hv=>Snd.bind fun u hu=>?_
  replace I:=Tr.get_ok hw I
  rw[dF] at hv hu;split
  ·rename_i kk m;refine Snd.bind fun p hp=>?_
   obtain⟨k,aa⟩:=p;dsimp only;split
   ·rename_i id off;refine Snd.bind fun O h2=>Snd.val fun _ hd J hc=>?_
    obtain⟨g1,g2⟩:=bI h2 hc;obtain⟨g3,g4⟩:=xT hp g1;exact⟨g3,aEt Y Z hd J hi hk I hv hu g4 g2⟩
   ·exact Snd.none
  ·exact Snd.none
 ·exact Snd.none
def a4b (md:Bool) (o:Oper) (n:Nat) (st:St) (ob:List Prop) (x:Operand):Ans:=(opO st x).bind fun v=>match v with
 | .one (.ep id k fo sz)=>match st.h id with
  | some (.arr _ _ elems _)=>(jI md (sz=elems.length) ob).bind fun ob1=>val o n ⟨opr x,[id]⟩ (.one (.ep id k fo sz)) [] ob1
  | _=>none
 | .one (.rp id k fo sz)=>match st.h id with
  | some (.rarr _ _ elems)=>(jI md (sz=elems.length) ob).bind fun ob1=>val o n ⟨opr x,[id]⟩ (.one (.rp id k fo sz)) [] ob1
  | _=>none
 | v=>bif notNil v then val o n ⟨opr x,[]⟩ v [] ob else none
theorem aUo {x:Operand}(I:o.op=.nilCheck x):Snd P n o st ob (a4b md o n st ob x):=by
 refine Snd.bind fun v hv=>?_
 rw[dF] at hv;split
 ·split
  ·rename_i hh;exact Snd.bind fun J h1=>Snd.val fun _ hd u hc=>⟨(bI h1 hc).1,yQ I hd u hv hh (bI h1 hc).2⟩
  ·exact Snd.none
 ·split
  ·rename_i hh;exact Snd.bind fun J h1=>Snd.val fun _ hd u hc=>⟨(bI h1 hc).1,yP I hd u hv hh (bI h1 hc).2⟩
  ·exact Snd.none
 ·exact Snd.cond fun h=>Snd.val fun _ hd u hc=>⟨hc,aJu I hd u hv h⟩
def u7 (tr:Tr):List (Nat×TypeId)→Option (List (Nat×Nat))
 | []=>some []
 | (off,t)::fs=>(tr.get t).bind fun i=>(u7 tr fs).bind fun l=>some ((off,i.size)::l)
theorem wS {tr:Tr}(hw:tr.wf=true):∀{fs:List (Nat×TypeId)}{l:List (Nat×Nat)},u7 tr fs=some l→mN tr.flat fs=some l
 | [],l,h=>by simpa [u7,mN] using h
 | (off,t)::fs,l,h=>by
  simp only[u7,Ak] at h;obtain⟨i,hi,l',u,h⟩:=h;simp only[mN,Tr.get_ok hw hi,wS hw u,h]
def aHl (st:St):List (Nat×Operand)→Option (List (Nat×List R))
 | []=>some []
 | (i,x)::ps=>(opO st x).bind fun v=>(qC v).bind fun rs=>(aHl st ps).bind fun l=>some ((i,rs)::l)
theorem aB0 (st:St):∀ps:List (Nat×Operand),aHl st ps=rX st ps
 | []=>rfl
 | (i,x)::ps=>by
  simp only[aHl,rX,dF,jO,aB0 st ps];cases opv st x with
  | none=>rfl
  | some v=>
   simp only[Cp];cases j2 v with
   | none=>rfl
   | some rs=>
    simp only[Cp];cases rX st ps<;>rfl
def aT8 (st:St):List Operand→Option (List R)
 | []=>some []
 | x::xs=>(opO st x).bind fun v=>match v with
  | .one r=>(aT8 st xs).bind fun l=>some (r::l)
  | _=>none
theorem aIu (st:St):∀xs:List Operand,aT8 st xs=aCo st xs
 | []=>rfl
 | x::xs=>by
  simp only[aT8,aCo,dF,aIu st xs];cases opv st x with
  | none=>rfl
  | some v=>
   simp only[Cp];cases v<;>try rfl
   cases aCo st xs<;>rfl
def aRc (tr:Tr) (o:Oper) (n:Nat) (st:St) (ob:List Prop) (t:TypeId) (parts:Array (Nat×Operand)):Ans:=(tr.get t).bind fun i=>match i.k with
 | .st fs=>(u7 tr fs).bind fun places=>(aHl st parts.toList).bind fun ps=>(aKl places (i.zero.map R.c) ps).bind fun out=>(frc out).bind fun out=>(a4t out).bind fun y=>val o n ⟨iE parts.toList,[]⟩ y [] ob
 | _=>none
theorem aKz {t:TypeId}{parts:Array (Nat×Operand)}(hw:tr.wf=true) (Y:Tok P tr.flat) (Z:o.op=.build t parts):Snd P n o st ob (aRc tr o n st ob t parts):=by
 refine Snd.bind fun i hi=>?_
 replace hi:=Tr.get_ok hw hi
 split
 ·rename_i fs hk;refine Snd.bind fun places u=>Snd.bind fun ps I=>Snd.bind fun out hf=>Snd.bind fun aa J=>Snd.bind fun y N=>Snd.val fun _ hd O hc=>⟨hc,?_⟩
  replace u:=wS hw u
  rw[aB0] at I;rw[lR] at J;cases J;rw[aRi] at N;cases N;exact aX4 Y Z hd O hi hk u I hf
 ·exact Snd.none
def qD (tr:Tr):Nat→List TypeId→List Nat
 | 0,_=>[]
 | _+1,[]=>[]
 | f+1,t::ts=>match tr.get t with
  | some i=>match i.k with
   | .sl e=>match tr.get e with
    | some ei=>(ei.size+1)::qD tr f ts
    | none=>0::qD tr f ts
   | .st fs=>qD tr f (fs.map (·.2)++ts)
   | _=>0::qD tr f ts
  | none=>0::qD tr f ts
def nrm:List Nat→List C→List C
 | _,[]=>[]
 | [],cs=>cs
 | 0::es,c::cs=>c::nrm es cs
 | (e+1)::es,c::cs=>(match c with | .nl=>.sl e [] | c=>c)::nrm es cs
theorem nT {h:dC}:∀(es:List Nat) (cs:List C),PureL h [] (cs.map R.c) (nrm es cs)
 | es,[]=>by cases es<;>exact .nil
 | [],c::cs=>.of_pure
 | 0::es,c::cs=>.c .refl (nT es cs)
 | (e+1)::es,c::cs=>by
  simp only[nrm,Am];split
  ·exact .c .nl (nT es cs)
  ·exact .c .refl (nT es cs)
def aK9:List Nat→List C→Option (List C)
 | _,[]=>some []
 | [],cs=>frc cs
 | 0::es,c::cs=>(aK9 es cs).bind fun l=>some (c::l)
 | (e+1)::es,c::cs=>match c with
  | .nl=>(aK9 es cs).bind fun l=>some (.sl e []::l)
  | c=>(aK9 es cs).bind fun l=>some (c::l)
theorem uD:∀(es:List Nat) (cs:List C),aK9 es cs=some (nrm es cs)
 | es,[]=>by cases es with
  | nil=>simp[aK9,nrm]
  | cons e es=>cases e<;>simp[aK9,nrm]
 | [],c::cs=>by simp[aK9,nrm,lR]
 | 0::es,c::cs=>by simp[aK9,nrm,uD es cs]
 | (e+1)::es,c::cs=>by
  simp only[aK9,nrm,uD es cs,Cp];split<;>rfl
def aMq (st:St) (tys:List Nat) (es:Nat):Nat→List (Nat×Operand)→Option (List (List C))
 | _,[]=>some []
 | k,(i,x)::ps=>bif Nat.beq i k then(opO st x).bind fun v=>(qC v).bind fun rs=>(jR rs).bind fun cs=>bif Nat.beq rs.length es then(aK9 tys cs).bind fun cs=>(aMq st tys es (k+1) ps).bind fun l=>some (cs::l) else none else none
theorem aG0 {st:St}{tys:List Nat}{es:Nat}:∀{ps:List (Nat×Operand)}{k:Nat}{l:List (List C)},aMq st tys es k ps=some l→RowsV st es k [] ps l
 | [],k,l,h=>by simp[aMq] at h;subst h;exact .nil
 | (i,x)::ps,k,l,h=>by
  simp only[aMq] at h;obtain⟨h0,h⟩:=fI h;have:=Ab h0;subst this;rw[Ak] at h;obtain⟨v,hv,h⟩:=h;rw[Ak] at h;obtain⟨rs,I,h⟩:=h;rw[Ak] at h;obtain⟨cs,J,h⟩:=h;obtain⟨hl,h⟩:=fI h;rw[Ak] at h;obtain⟨O,u,h⟩:=h;rw[uD] at u;cases u;rw[Ak] at h;obtain⟨l',N,h⟩:=h;cases h;rw[dF] at hv;rw[jO] at I;have hp:PureL st.h [] rs (nrm tys cs):=by rw[pL J];exact nT tys cs
  exact .cons (ids:=[]) hv I hp hl (aG0 N)
def aQz (tr:Tr) (o:Oper) (n:Nat) (st:St) (ob:List Prop) (hn:Hn) (id:Nat) (t:TypeId) (len:Nat) (parts:Array (Nat×Operand)):Ans:=(tr.get t).bind fun i=>match i.k with
 | .sl e=>(tr.get e).bind fun ei=>bif Nat.beq len parts.size&&(Nat.ble (len*ei.size) 16777216&&Nat.ble len 16777216) then(match st.h id with
  | none=>match aMq st (qD tr 300 [e]) ei.size 0 parts.toList with
   | some rows=>match hn with
    | .all=>val o n ⟨iE parts.toList,[id]⟩ (.one (.c (.sl ei.size rows))) [(id,some (.arr e ei.size rows 2))] ob
    | _=>val o n ⟨iE parts.toList,[id]⟩ (.one (.hs id 0 len len)) [(id,some (.arr e ei.size rows 0))] ob
   | none=>(yN st ei.size 0 parts.toList).bind fun rows=>val o n ⟨iE parts.toList,[id]⟩ (.one (.ra id 0 len len)) [(id,some (.rarr e ei.size rows))] ob
  | some _=>none) else none
 | _=>none
theorem aKv {hn:Hn}{id:Nat}{t:TypeId}{len:Nat}{parts:Array (Nat×Operand)}(hw:tr.wf=true) (O:Tok P tr.flat) (Y:o.op=.buildSlice t len parts):Snd P n o st ob (aQz tr o n st ob hn id t len parts):=by
 refine Snd.bind fun i hi=>?_
 replace hi:=Tr.get_ok hw hi
 split
 ·rename_i e hk;refine Snd.bind fun Z u=>Snd.cond fun hb=>?_
  replace u:=Tr.get_ok hw u
  simp only[Aj] at hb;split
  ·rename_i hid;split
   ·rename_i rows J;have N:=aG0 J;split
    ·exact Snd.val fun _ hd I hc=>⟨hc,aSq id O Y hd I hi hk u N hb.1 hb.2.1 hb.2.2 hid⟩
    ·exact Snd.val fun _ hd I hc=>⟨hc,aM1 id O Y hd I hi hk u N hb.1 hb.2.1 hb.2.2 hid⟩
   ·exact Snd.bind fun rows N=>Snd.val fun _ hd I hc=>⟨hc,aSp id O Y hd I hi hk u N hb.1 hb.2.1 hb.2.2 hid⟩
  ·exact Snd.none
 ·exact Snd.none
def aQ7 (o:Oper) (n:Nat) (st:St) (ob:List Prop) (f:Fn) (first caps:Array Operand):Ans:=match f with
 | .func f=>match first.toList with
  | []=>(aT8 st caps.toList).bind fun l=>val o n ⟨eD caps.toList,[]⟩ (.one (.clo f l)) [] ob
  | [x]=>match caps.toList with
   | []=>(opO st x).bind fun v=>match v with
    | .one c=>val o n ⟨opr x,[]⟩ (.one (.mth f c)) [] ob
    | _=>none
   | _=>none
  | _=>none
 | _=>none
theorem toList_nil {α:Type}{a:Array α}(h:a.toList=[]):a= #[]:=by
 cases a;simp at h;simp[h]
theorem aJp {α:Type}{a:Array α}{x:α}(h:a.toList=[x]):a= #[x]:=by
 cases a;simp at h;simp[h]
theorem aQ6 {f:Fn}{first caps:Array Operand}(I:o.op=.makeFunc f first caps):Snd P n o st ob (aQ7 o n st ob f first caps):=by
 unfold aQ7;split
 ·rename_i f;split
  ·rename_i h1;have:=toList_nil h1;subst this;refine Snd.bind fun l hl=>Snd.val fun _ hd u hc=>⟨hc,aJv I hd u (by rw[←aIu];exact hl)⟩
  ·rename_i x h1;have:=aJp h1;subst this;split
   ·rename_i h2;have:=toList_nil h2;subst this;refine Snd.bind fun v hv=>?_
    split
    ·exact Snd.val fun _ hd u hc=>⟨hc,aBr I hd u (by rw[←dF];exact hv)⟩
    ·exact Snd.none
   ·exact Snd.none
  ·exact Snd.none
 ·exact Snd.none
def a0m (st:St) (m:Nat):Option Operand→Option Nat
 | none=>some m
 | some x=>(opO st x).bind fun v=>match v with
  | .one (.c (.int _ (.ofNat k)))=>some k
  | _=>none
theorem nH {m k:Nat}{x:Option Operand}(h:a0m st m x=some k):BndV st x m k:=by
 cases x with
 | none=>cases h;exact .no
 | some x=>
  simp only[a0m,Ak,dF] at h;obtain⟨v,hv,h⟩:=h;split at h
  ·cases h;exact .yes hv
  ·cases h
def a4r {α:Type}(l:List α) (lo hi:Nat) (low high:Option Operand):Option (List α):=match low,high with
 | none,none=>some l
 | none,some _=>some (l.take hi)
 | some _,none=>some (l.drop lo)
 | some _,some _=>some ((l.take hi).drop lo)
theorem aPy {α:Type}{l r:List α}{lo hi:Nat}{low high:Option Operand}(h1:BndV st low 0 lo) (h2:BndV st high l.length hi) (h:a4r l lo hi low high=some r):r=(l.take hi).drop lo:=by
 cases h1<;>cases h2<;>simp[a4r] at h<;>simp[h]
def aZ1 (tr:Tr) (md:Bool) (o:Oper) (n:Nat) (st:St) (ob:List Prop) (t:TypeId) (x:Operand) (low high mx:Option Operand):Ans:=match mx with
 | some _=>none
 | none=>(tr.get t).bind fun i=>(opO st x).bind fun v=>match i.k with
  | .sl e=>(tr.get e).bind fun ei=>match v with
   | .one (.c (.sl es l))=>bif Nat.beq ei.size es then(a0m st 0 low).bind fun lo=>(a0m st l.length high).bind fun hi=>(jI md (lo≤hi) ob).bind fun ob1=>(jI md (hi≤l.length) ob1).bind fun ob2=>
     (a4r l lo hi low high).bind fun r=>val o n ⟨opr x++aUm low++aUm high,[]⟩ (.one (.c (.sl es r))) [] ob2 else none
   | _=>none
  | .str=>match v with
   | .one (.c (.str s))=>(a0m st 0 low).bind fun lo=>(a0m st s.length high).bind fun hi=>(jI md (lo≤hi) ob).bind fun ob1=>(jI md (hi≤s.length) ob1).bind fun ob2=>
     (a4r s lo hi low high).bind fun r=>val o n ⟨opr x++aUm low++aUm high,[]⟩ (.one (.c (.str r))) [] ob2
   | _=>none
  | _=>none
theorem aUs {t:TypeId}{x:Operand}{low high Z:Option Operand}(hw:tr.wf=true) (hT:Tok P tr.flat) (ho:o.op=.slice t x low high Z):Snd P n o st ob (aZ1 tr md o n st ob t x low high Z):=by
 unfold aZ1;split
 ·exact Snd.none
 ·refine Snd.bind fun i J=>Snd.bind fun v hv=>?_
  replace J:=Tr.get_ok hw J
  rw[dF] at hv;split
  ·rename_i e hk;refine Snd.bind fun ei N=>?_
   replace N:=Tr.get_ok hw N
   split
   ·rename_i es l;refine Snd.cond fun hes=>Snd.bind fun lo u=>Snd.bind fun hi I=>Snd.bind fun ob1 h1=>Snd.bind fun ob2 h2=>Snd.bind fun r Y=>Snd.val fun _ hd O hc=>?_
    obtain⟨g1,g2⟩:=bI h2 hc;obtain⟨g3,g4⟩:=bI h1 g1;rw[aPy (nH u) (nH I) Y];exact⟨g3,a5j hT ho hd O J hk N (Ab hes) hv (nH u) (nH I) g4 g2⟩
   ·exact Snd.none
  ·rename_i hk;split
   ·rename_i s;refine Snd.bind fun lo u=>Snd.bind fun hi I=>Snd.bind fun ob1 h1=>Snd.bind fun ob2 h2=>Snd.bind fun r Y=>Snd.val fun _ hd O hc=>?_
    obtain⟨g1,g2⟩:=bI h2 hc;obtain⟨g3,g4⟩:=bI h1 g1;rw[aPy (nH u) (nH I) Y];exact⟨g3,a1m hT ho hd O J hk hv (nH u) (nH I) g4 g2⟩
   ·exact Snd.none
  ·exact Snd.none
def aQ5 (tr:Tr) (o:Oper) (n:Nat) (st:St) (ob:List Prop) (hn:Hn) (t:TypeId) (x y:Operand):Ans:=(tr.get t).bind fun i=>match i.k with
 | .str=>(opO st x).bind fun v=>(opO st y).bind fun u=>match v,u with
  | .one (.c (.str s)),.one (.c (.int _ m))=>match hn with
   | .byte k b=>val o n ⟨opr x++opr y,[]⟩ (.one (.c (.int .u8 ((b.toNat:Nat):Int)))) [] ((m=(k:Int)∧s[k]?=some b)::ob)
   | _=>match m with
    | .ofNat k=>(s[k]?).bind fun b=>val o n ⟨opr x++opr y,[]⟩ (.one (.c (.int .u8 ((b.toNat:Nat):Int)))) [] ob
    | _=>none
  | _,_=>none
 | _=>none
theorem aKw {hn:Hn}{t:TypeId}{x y:Operand}(hw:tr.wf=true) (J:Tok P tr.flat) (N:o.op=.index t x y):Snd P n o st ob (aQ5 tr o n st ob hn t x y):=by
 refine Snd.bind fun i hi=>?_
 replace hi:=Tr.get_ok hw hi
 split
 ·rename_i hk;refine Snd.bind fun v hv=>Snd.bind fun u hu=>?_
  rw[dF] at hv hu;split
  ·split
   ·exact Snd.val fun _ hd I hc=>⟨hc.2,aVm J N hd I hi hk hv hu hc.1.1 hc.1.2⟩
   ·split
    ·exact Snd.bind fun b hb=>Snd.val fun _ hd I hc=>⟨hc,aVm J N hd I hi hk hv hu rfl hb⟩
    ·exact Snd.none
  ·exact Snd.none
 ·exact Snd.none
def aN9:List (List C)→Bool
 | []=>true
 | (.str _::_)::r=>aN9 r
 | _::_=>false
theorem aB2:∀l:List (List C),aN9 l=true↔lO l
 | []=>by simp[aN9,lO]
 | []::r=>by simp[aN9,lO]
 | (c::vs)::r=>by
  cases c<;>simp[aN9,lO];exact aB2 r
instance (l:List (List C)):Decidable (lO l):=decidable_of_iff _ (aB2 l)
def aT2 (st:St) (agg:Bool):V→Option (List Nat×List (List C))
 | .one (.mr id)=>match st.h id with
  | some (.map a ents)=>bif a==agg then some ([id],ents) else none
  | _=>none
 | .one (.c (.mp a ents))=>bif a==agg then some ([],ents) else none
 | .one (.c (.zv 0))=>some ([],[])
 | _=>none
theorem zW {st:St}{agg:Bool}{v:V}{ids:List Nat}{ents:List (List C)}(h:aT2 st agg v=some (ids,ents)):MapE st ids v agg ents:=by
 unfold aT2 at h;split at h
 ·split at h
  ·rename_i hh;obtain⟨h1,h2⟩:=fI h;cases h2;exact .mr (by rw[hh,eq_of_beq h1])
  ·cases h
 ·obtain⟨h1,h2⟩:=fI h;cases h2;rw[eq_of_beq h1];exact .mp
 ·cases h;exact .nil
 ·cases h
def aYy (md:Bool) (hn:Hn) (k:List UInt8) (ents:List (List C)) (ob:List Prop):Option (Option (List C)×List Prop):=match hn with
 | .look r=>some (r,(jT k ents=r)::ob)
 | _=>bif md then some (jT k ents,ob) else match jT k ents with
  | some r=>some (some r,ob)
  | none=>some (none,ob)
theorem aIk {md:Bool}{hn:Hn}{k:List UInt8}{ents:List (List C)}{ob u:List Prop}{r:Option (List C)}(h:aYy md hn k ents ob=some (r,u)):jC u→jC ob∧jT k ents=r:=by
 unfold aYy at h;split at h
 ·cases h;exact fun h=>⟨h.2,h.1⟩
 ·cases md
  ·simp only[Bs] at h;split at h
   ·rename_i h1;cases h;exact fun h=>⟨h,h1⟩
   ·rename_i h1;cases h;exact fun h=>⟨h,h1⟩
  ·cases h;exact fun h=>⟨h,rfl⟩
def aDd (tr:Tr) (md:Bool) (o:Oper) (n:Nat) (st:St) (ob:List Prop) (hn:Hn) (t:TypeId) (x y:Operand) (ok:Bool):Ans:=(tr.get t).bind fun i=>match i.k with
 | .mp kt et=>(tr.get kt).bind fun ki=>(tr.get et).bind fun ei=>match ki.k with
  | .str=>(opO st x).bind fun v=>(aT2 st ei.k.agg v).bind fun(ids,ents)=>(opO st y).bind fun u=>match u with
   | .one (.c (.str k))=>(jI md (lO ents) ob).bind fun ob1=>(aYy md hn k ents ob1).bind fun(r,ob2)=>match ok with
    | true=>val o n ⟨opr x++opr y,ids⟩ (.tup [sC ei r,.one (.c (.bool (aKe r)))]) [] ob2
    | false=>val o n ⟨opr x++opr y,ids⟩ (sC ei r) [] ob2
   | _=>none
  | _=>none
 | _=>none
theorem aDc {hn:Hn}{t:TypeId}{x y:Operand}{ok:Bool}(hw:tr.wf=true) (Y:Tok P tr.flat) (Z:o.op=.lookup t x y ok):Snd P n o st ob (aDd tr md o n st ob hn t x y ok):=by
 refine Snd.bind fun i hi=>?_
 replace hi:=Tr.get_ok hw hi
 split
 ·rename_i kt et hk;refine Snd.bind fun ki I=>Snd.bind fun ei J=>?_
  replace I:=Tr.get_ok hw I
  replace J:=Tr.get_ok hw J
  split
  ·rename_i O;refine Snd.bind fun v hv=>Snd.bind fun p hp=>?_
   obtain⟨ids,ents⟩:=p;refine Snd.bind fun u hu=>?_
   rw[dF] at hv hu;split
   ·rename_i k;refine Snd.bind fun aa h1=>Snd.bind fun p h2=>?_
    obtain⟨r,ab⟩:=p;dsimp only;split
    ·refine Snd.val fun _ hd N hc=>?_
     obtain⟨g1,g2⟩:=aIk h2 hc;obtain⟨g3,g4⟩:=bI h1 g1;have:=yR Y Z hd N hi hk I O J rfl hv (zW hp) g4 hu g2;exact⟨g3,by simpa using this⟩
    ·refine Snd.val fun _ hd N hc=>?_
     obtain⟨g1,g2⟩:=aIk h2 hc;obtain⟨g3,g4⟩:=bI h1 g1;have:=yR Y Z hd N hi hk I O J rfl hv (zW hp) g4 hu g2;exact⟨g3,by simpa using this⟩
   ·exact Snd.none
  ·exact Snd.none
 ·exact Snd.none
def aDb (tr:Tr) (md:Bool) (o:Oper) (n:Nat) (st:St) (ob:List Prop) (w:V) (t:TypeId) (x y:Operand):Ans:=(tr.get t).bind fun i=>match i.k with
 | .mp kt et=>(tr.get kt).bind fun ki=>(tr.get et).bind fun ei=>match ki.k with
  | .str=>(opO st x).bind fun v=>(aT2 st ei.k.agg v).bind fun(ids,ents)=>(opO st y).bind fun u=>match u with
   | .one (.c (.str k))=>(jI md (lO ents) ob).bind fun ob1=>val o n ⟨opr x++opr y,ids⟩ w [] ((sC ei (jT k ents)=w)::ob1)
   | _=>none
  | _=>none
 | _=>none
theorem aDa {w:V}{t:TypeId}{x y:Operand}(hw:tr.wf=true) (Y:Tok P tr.flat) (Z:o.op=.lookup t x y false):Snd P n o st ob (aDb tr md o n st ob w t x y):=by
 refine Snd.bind fun i hi=>?_
 replace hi:=Tr.get_ok hw hi
 split
 ·rename_i kt et hk;refine Snd.bind fun ki I=>Snd.bind fun ei J=>?_
  replace I:=Tr.get_ok hw I
  replace J:=Tr.get_ok hw J
  split
  ·rename_i N;refine Snd.bind fun v hv=>Snd.bind fun p hp=>?_
   obtain⟨ids,ents⟩:=p;refine Snd.bind fun u hu=>?_
   rw[dF] at hv hu;split
   ·rename_i k;refine Snd.bind fun aa h1=>Snd.val fun _ hd O hc=>?_
    obtain⟨g3,g4⟩:=bI h1 hc.2;have:=yR Y Z hd O hi hk I N J rfl hv (zW hp) g4 hu rfl;refine⟨g3,?_⟩;rw[←hc.1];simpa using this
   ·exact Snd.none
  ·exact Snd.none
 ·exact Snd.none
def aAk (tr:Tr) (md:Bool) (o:Oper) (n:Nat) (st:St) (ob:List Prop) (hn:Hn) (t:TypeId) (x y:Operand) (ok:Bool):Ans:=match ok,hn with
 | false,.pc w=>aDb tr md o n st ob w t x y
 | ok,hn=>aDd tr md o n st ob hn t x y ok
theorem aFi {hn:Hn}{t:TypeId}{x y:Operand}{ok:Bool}(hw:tr.wf=true) (u:Tok P tr.flat) (I:o.op=.lookup t x y ok):Snd P n o st ob (aAk tr md o n st ob hn t x y ok):=by
 unfold aAk;split
 ·exact aDa hw u I
 ·exact aDc hw u I
def a2c (md:Bool) (k:List UInt8) (cs:List C) (ents:List (List C)):Option (List (List C)):=bif md then some (aKa k cs ents) else frc (aKa k cs ents)
theorem aHo (md:Bool) (k:List UInt8) (cs:List C) (ents:List (List C)):a2c md k cs ents=some (aKa k cs ents):=by
 cases md
 ·exact lR _
 ·rfl
def lJ (tr:Tr) (md:Bool) (o:Oper) (st:St) (ob:List Prop) (t:TypeId) (x y z:Operand):Ans:=(tr.get t).bind fun i=>match i.k with
 | .mp kt _=>(tr.get kt).bind fun ki=>match ki.k with
  | .str=>(opO st x).bind fun v=>match v with
   | .one (.mr id)=>match st.h id with
    | some (.map agg ents)=>(opO st y).bind fun u=>match u with
     | .one (.c (.str k))=>(opO st z).bind fun v=>bif (match v with | .one _=>!agg | .pa _=>agg | .ma _=>agg | _=>false) then(qC v).bind fun rs=>
      (jI md (lO ents) ob).bind fun ob1=>(a2c md k (a16 rs) ents).bind fun e'=>eff o ⟨opr x++opr y++opr z,[id]⟩ [(id,some (.map agg e'))] ob1 else none
     | _=>none
    | _=>none
   | _=>none
  | _=>none
 | _=>none
theorem vY {t:TypeId}{x y z:Operand}(hw:tr.wf=true) (Z:Tok P tr.flat) (ho:o.op=.mapUpdate t x y z):Snd P n o st ob (lJ tr md o st ob t x y z):=by
 refine Snd.bind fun i hi=>?_
 replace hi:=Tr.get_ok hw hi
 split
 ·rename_i kt et hk;refine Snd.bind fun ki I=>?_
  replace I:=Tr.get_ok hw I
  split
  ·rename_i N;refine Snd.bind fun v hv=>?_
   rw[dF] at hv;split
   ·rename_i id;split
    ·rename_i agg ents hh;refine Snd.bind fun u hu=>?_
     rw[dF] at hu;split
     ·rename_i k;refine Snd.bind fun z O=>Snd.cond fun Y=>Snd.bind fun rs J=>Snd.bind fun ob1 h1=>Snd.bind fun e' he=>Snd.eff fun hd hc=>?_
      rw[dF] at O;rw[jO] at J;rw[aHo] at he;cases he;obtain⟨g1,g2⟩:=bI h1 hc;exact⟨g1,aEs (ids:=[]) Z ho hd hi hk I N hv hh g2 hu O (by cases z<;>first | rfl | exact Y) J .ofA⟩
     ·exact Snd.none
    ·exact Snd.none
   ·exact Snd.none
  ·exact Snd.none
 ·exact Snd.none
theorem aFj {t:TypeId}{x y z:Operand}(hw:tr.wf=true) (Z:Tok P tr.flat) (ho:o.op=.insert t x y z):Snd P n o st ob (lJ tr md o st ob t x y z):=by
 refine Snd.bind fun i hi=>?_
 replace hi:=Tr.get_ok hw hi
 split
 ·rename_i kt et hk;refine Snd.bind fun ki I=>?_
  replace I:=Tr.get_ok hw I
  split
  ·rename_i N;refine Snd.bind fun v hv=>?_
   rw[dF] at hv;split
   ·rename_i id;split
    ·rename_i agg ents hh;refine Snd.bind fun u hu=>?_
     rw[dF] at hu;split
     ·rename_i k;refine Snd.bind fun z O=>Snd.cond fun Y=>Snd.bind fun rs J=>Snd.bind fun ob1 h1=>Snd.bind fun e' he=>Snd.eff fun hd hc=>?_
      rw[dF] at O;rw[jO] at J;rw[aHo] at he;cases he;obtain⟨g1,g2⟩:=bI h1 hc;exact⟨g1,aSx (ids:=[]) Z ho hd hi hk I N hv hh g2 hu O (by cases z<;>first | rfl | exact Y) J .ofA⟩
     ·exact Snd.none
    ·exact Snd.none
   ·exact Snd.none
  ·exact Snd.none
 ·exact Snd.none
end
section
variable {P:Program}{n:Nat}{o:Oper}{st:St}{ob:List Prop}{tr:Tr}{md nat:Bool}
def arith (md nat:Bool) (op:BinOp) (a b:Int) (ob:List Prop):Option (Int×List Prop):=match op with
 | .add=>bif nat then(match a,b with | .ofNat x,.ofNat y=>(jI md (x+y≤9223372036854775807) ob).bind fun ob1=>some (((x+y:Nat):Int),ob1) | _,_=>none)
  else(jI md (-9223372036854775808≤a+b∧a+b≤9223372036854775807) ob).bind fun ob1=>some (a+b,ob1)
 | .sub=>bif nat then(match a,b with | .ofNat x,.ofNat y=>(jI md (y≤x∧x≤9223372036854775807) ob).bind fun ob1=>some (((x-y:Nat):Int),ob1) | _,_=>none)
  else(jI md (-9223372036854775808≤a-b∧a-b≤9223372036854775807) ob).bind fun ob1=>some (a-b,ob1)
 | .mul=>bif nat then(match a,b with | .ofNat x,.ofNat y=>(jI md (x*y≤9223372036854775807) ob).bind fun ob1=>some (((x*y:Nat):Int),ob1) | _,_=>none)
  else(jI md (-9223372036854775808≤a*b∧a*b≤9223372036854775807) ob).bind fun ob1=>some (a*b,ob1)
 | .quo=>bif nat then(match a,b with | .ofNat x,.ofNat y=>(jI md (x≤9223372036854775807∧1≤y) ob).bind fun ob1=>some (((x/y:Nat):Int),ob1) | _,_=>none)
  else(jI md (0≤a∧a≤9223372036854775807∧1≤b) ob).bind fun ob1=>some (a/b,ob1)
 | .rem=>bif nat then(match a,b with | .ofNat x,.ofNat y=>(jI md (1≤y) ob).bind fun ob1=>some (((x%y:Nat):Int),ob1) | _,_=>none)
  else(jI md (0≤a∧1≤b) ob).bind fun ob1=>some (a%b,ob1)
 | _=>none
theorem vX {α:Type}{u:List Prop}{x:Option (List Prop)}{r r':α}(h:(x.bind fun I=>some (r,I))=some (r',u)):x=some u∧r'=r:=by
 rw[Ak] at h;obtain⟨I,h1,h2⟩:=h;cases h2;exact⟨h1,rfl⟩
theorem aUw {op:BinOp}{Y ty:TypeId}{x y:Operand}{d:Nat}{a b r:Int}{O:List Prop}(J:o.op=.binOp op Y x y ty) (hd:o.dst=some d) (u:d<n) (hx:opv st x=some (I .i64 a)) (N:opv st y=some (I .i64 b)) (h:arith md nat op a b ob=some (r,O)):
  jC O→jC ob∧Step P n o st ⟨opr x++opr y,[]⟩ ⟨some (d,some (I .i64 r)),[]⟩:=by
 intro hc;unfold arith at h;cases nat<;>cases op<;>simp only[Bn,Bs] at h<;>try (cases h;done)
 ·obtain⟨h1,rfl⟩:=vX h;obtain⟨g,k⟩:=bI h1 hc;exact⟨g,a11 J hd u hx N k⟩
 ·obtain⟨h1,rfl⟩:=vX h;obtain⟨g,k⟩:=bI h1 hc;exact⟨g,a1i J hd u hx N k⟩
 ·obtain⟨h1,rfl⟩:=vX h;obtain⟨g,k⟩:=bI h1 hc;exact⟨g,a1v J hd u hx N k⟩
 ·obtain⟨h1,rfl⟩:=vX h;obtain⟨g,k⟩:=bI h1 hc;exact⟨g,aVo J hd u hx N k⟩
 ·obtain⟨h1,rfl⟩:=vX h;obtain⟨g,k⟩:=bI h1 hc;exact⟨g,aVn J hd u hx N k⟩
 all_goals cases a<;>cases b<;>simp only at h<;>try (cases h;done)
 ·obtain⟨h1,rfl⟩:=vX h;obtain⟨g,k⟩:=bI h1 hc;exact⟨g,a10 J hd u hx N k⟩
 ·obtain⟨h1,rfl⟩:=vX h;obtain⟨g,k⟩:=bI h1 hc;exact⟨g,a1h J hd u hx N k⟩
 ·obtain⟨h1,rfl⟩:=vX h;obtain⟨g,k⟩:=bI h1 hc;exact⟨g,a1u J hd u hx N k⟩
 ·obtain⟨h1,rfl⟩:=vX h;obtain⟨g,k⟩:=bI h1 hc;exact⟨g,a1q J hd u hx N k⟩
 ·obtain⟨h1,rfl⟩:=vX h;obtain⟨g,k⟩:=bI h1 hc;exact⟨g,a1o J hd u hx N k⟩
def a5w (op:BinOp) (a b:Int):Option Bool:=match op with
 | .lss=>some (decide (a<b))
 | .leq=>some (decide (a≤b))
 | .gtr=>some (decide (b<a))
 | .geq=>some (decide (b≤a))
 | .eql=>some (decide (a=b))
 | .neq=>some (!decide (a=b))
 | _=>none
theorem aY8 {op:BinOp}{O ty:TypeId}{x y:Operand}{d:Nat}{k:IntKind}{a b:Int}{r:Bool}(J:o.op=.binOp op O x y ty) (hd:o.dst=some d) (u:d<n) (hx:opv st x=some (I k a)) (N:opv st y=some (I k b)) (h:a5w op a b=some r):
  Step P n o st ⟨opr x++opr y,[]⟩ ⟨some (d,some (B r)),[]⟩:=by
 unfold a5w at h;cases op<;>simp only at h<;>try (cases h;done)
 ·cases h;exact a5i J hd u hx N
 ·cases h;exact a5a J hd u hx N
 ·cases h;exact a5e J hd u hx N
 ·cases h;exact a5f J hd u hx N
 ·cases h;exact a5g J hd u hx N
 ·cases h;exact a5h J hd u hx N
def aXh (op:BinOp) (k:IntKind) (a b:Int):Option Int:=match op with
 | .add=>some (k.wrap (a+b))
 | .sub=>some (k.wrap (a-b))
 | .mul=>some (k.wrap (a*b))
 | _=>none
theorem aR5 {op:BinOp}{O ty:TypeId}{x y:Operand}{d:Nat}{k:IntKind}{a b r:Int}(J:o.op=.binOp op O x y ty) (hd:o.dst=some d) (u:d<n) (hx:opv st x=some (I k a)) (N:opv st y=some (I k b)) (h:aXh op k a b=some r):
  Step P n o st ⟨opr x++opr y,[]⟩ ⟨some (d,some (I k r)),[]⟩:=by
 unfold aXh at h;cases op<;>simp only at h<;>try (cases h;done)
 ·cases h;exact aSz J hd u hx N rfl
 ·cases h;exact aSo J hd u hx N rfl
 ·cases h;exact aSt J hd u hx N rfl
def aYq:IntKind→Bool
 | .i64=>true
 | _=>false
def a4e (tr:Tr) (md nat:Bool) (o:Oper) (n:Nat) (st:St) (ob:List Prop) (op:BinOp) (tx:TypeId) (x y:Operand):Ans:=(opO st x).bind fun v=>(opO st y).bind fun u=>match v,u with
 | .one (.c (.int k a)),.one (.c (.int k' b))=>bif decide (k=k') then(match a5w op a b with
   | some r=>val o n ⟨opr x++opr y,[]⟩ (.one (.c (.bool r))) [] ob
   | none=>bif aYq k then(arith md nat op a b ob).bind fun(r,ob1)=>val o n ⟨opr x++opr y,[]⟩ (.one (.c (.int .i64 r))) [] ob1
    else(aXh op k a b).bind fun r=>val o n ⟨opr x++opr y,[]⟩ (.one (.c (.int k r))) [] ob) else none
 | .one (.c (.str a)),.one (.c (.str b))=>match op with
  | .eql=>val o n ⟨opr x++opr y,[]⟩ (.one (.c (.bool (decide (a=b))))) [] ob
  | .neq=>val o n ⟨opr x++opr y,[]⟩ (.one (.c (.bool (!decide (a=b))))) [] ob
  | .lss=>val o n ⟨opr x++opr y,[]⟩ (.one (.c (.bool (Op.bytesLess a b)))) [] ob
  | .add=>(jI md (a.length+b.length≤maxLen) ob).bind fun ob1=>val o n ⟨opr x++opr y,[]⟩ (.one (.c (.str (a++b)))) [] ob1
  | _=>none
 | .one (.c (.bool a)),.one (.c (.bool b))=>(tr.get tx).bind fun i=>match i.k with
  | .bool=>match op with
   | .eql=>val o n ⟨opr x++opr y,[]⟩ (.one (.c (.bool (a==b)))) [] ob
   | .neq=>val o n ⟨opr x++opr y,[]⟩ (.one (.c (.bool (!(a==b))))) [] ob
   | _=>none
  | _=>none
 | v,.one (.c .np)=>(tr.get tx).bind fun i=>match i.k with
  | .pt _=>(aBt v).bind fun b=>match op with
   | .eql=>val o n ⟨opr x++opr y,[]⟩ (.one (.c (.bool b))) [] ob
   | .neq=>val o n ⟨opr x++opr y,[]⟩ (.one (.c (.bool (!b)))) [] ob
   | _=>none
  | _=>none
 | v,.one (.c .nl)=>(tr.get tx).bind fun i=>match i.k with
  | .sl _=>(aSi v).bind fun b=>match op with
   | .eql=>val o n ⟨opr x++opr y,[]⟩ (.one (.c (.bool b))) [] ob
   | _=>none
  | _=>none
 | _,_=>none
theorem aUu {op:BinOp}{Y ty:TypeId}{x y:Operand}(hw:tr.wf=true) (N:Tok P tr.flat) (J:o.op=.binOp op Y x y ty):Snd P n o st ob (a4e tr md nat o n st ob op Y x y):=by
 refine Snd.bind fun v hv=>Snd.bind fun u hu=>?_
 rw[dF] at hv hu;split
 ·rename_i k a k' b;refine Snd.cond fun hk=>?_
  have Z:=ψ hk;subst Z;split
  ·rename_i r O;exact Snd.val fun _ hd I hc=>⟨hc,aY8 J hd I hv hu O⟩
  ·cases hi:aYq k with
   | true=>
    simp only[Bn];cases k<;>simp only[aYq] at hi<;>try (cases hi;done)
    refine Snd.bind fun p hp=>?_
    obtain⟨r,aa⟩:=p;exact Snd.val fun _ hd I hc=>aUw J hd I hv hu hp hc
   | false=>
    simp only[Bs];exact Snd.bind fun r O=>Snd.val fun _ hd I hc=>⟨hc,aR5 J hd I hv hu O⟩
 ·split
  ·exact Snd.val fun _ hd I hc=>⟨hc,a1l J hd I hv hu⟩
  ·exact Snd.val fun _ hd I hc=>⟨hc,a1j J hd I hv hu⟩
  ·exact Snd.val fun _ hd I hc=>⟨hc,a1k J hd I hv hu⟩
  ·exact Snd.bind fun aa h1=>Snd.val fun _ hd I hc=>⟨(bI h1 hc).1,a1n J hd I hv hu (bI h1 hc).2⟩
  ·exact Snd.none
 ·refine Snd.bind fun i hi=>?_
  replace hi:=Tr.get_ok hw hi
  split
  ·rename_i hk;split
   ·exact Snd.val fun _ hd I hc=>⟨hc,a1z N J hd I hi hk hv hu⟩
   ·exact Snd.val fun _ hd I hc=>⟨hc,a1y N J hd I hi hk hv hu⟩
   ·exact Snd.none
  ·exact Snd.none
 ·refine Snd.bind fun i hi=>?_
  replace hi:=Tr.get_ok hw hi
  split
  ·rename_i hk;refine Snd.bind fun b hb=>?_
   split
   ·exact Snd.val fun _ hd I hc=>⟨hc,a1t N J hd I hi hk hv hb hu⟩
   ·exact Snd.val fun _ hd I hc=>⟨hc,a1s N J hd I hi hk hv hb hu⟩
   ·exact Snd.none
  ·exact Snd.none
 ·refine Snd.bind fun i hi=>?_
  replace hi:=Tr.get_ok hw hi
  split
  ·rename_i hk;refine Snd.bind fun b hb=>?_
   split
   ·exact Snd.val fun _ hd I hc=>⟨hc,aXx N J hd I hi hk hv hb hu⟩
   ·exact Snd.none
  ·exact Snd.none
 ·exact Snd.none
def a62 (md:Bool) (o:Oper) (n:Nat) (st:St) (ob:List Prop) (op:UnOp) (x:Operand):Ans:=(opO st x).bind fun v=>match v with
 | .one (.c (.bool b))=>match op with
  | .not=>val o n ⟨opr x,[]⟩ (.one (.c (.bool (!b)))) [] ob
  | _=>none
 | .one (.c (.int .i64 a))=>match op with
  | .neg=>(jI md (-9223372036854775808≤0-a∧0-a≤9223372036854775807) ob).bind fun ob1=>val o n ⟨opr x,[]⟩ (.one (.c (.int .i64 (0-a)))) [] ob1
  | _=>none
 | _=>none
theorem aZy {op:UnOp}{t:TypeId}{x:Operand}(I:o.op=.unOp op t x):Snd P n o st ob (a62 md o n st ob op x):=by
 refine Snd.bind fun v hv=>?_
 rw[dF] at hv;split
 ·split
  ·exact Snd.val fun _ hd u hc=>⟨hc,a48 I hd u hv⟩
  ·exact Snd.none
 ·split
  ·exact Snd.bind fun J h1=>Snd.val fun _ hd u hc=>⟨(bI h1 hc).1,a5b I hd u hv (Ci _ (bI h1 hc).2)⟩
  ·exact Snd.none
 ·exact Snd.none
def a4c (tr:Tr) (md:Bool) (o:Oper) (n:Nat) (st:St) (ob:List Prop) (x:Operand) (t:TypeId):Ans:=(tr.get t).bind fun i=>(opO st x).bind fun v=>match i.k with
 | .sl _=>match v with
  | .one (.c (.sl _ l))=>val o n ⟨opr x,[]⟩ (.one (.c (.int .i64 ((l.length:Nat):Int)))) [] ob
  | .one (.c .nl)=>val o n ⟨opr x,[]⟩ (.one (.c (.int .i64 0))) [] ob
  | .one (.ras n' _ _)=>val o n ⟨opr x,[]⟩ (.one (.c (.int .i64 ((n':Nat):Int)))) [] ob
  | .one (.hs id _ len sz)=>match st.h id with
   | some (.arr _ _ elems _)=>(jI md (sz=elems.length) ob).bind fun ob1=>val o n ⟨opr x,[id]⟩ (.one (.c (.int .i64 ((len:Nat):Int)))) [] ob1
   | _=>none
  | .one (.ra id _ len sz)=>match st.h id with
   | some (.rarr _ _ elems)=>(jI md (sz=elems.length) ob).bind fun ob1=>val o n ⟨opr x,[id]⟩ (.one (.c (.int .i64 ((len:Nat):Int)))) [] ob1
   | _=>none
  | _=>none
 | .str=>match v with
  | .one (.c (.str s))=>val o n ⟨opr x,[]⟩ (.one (.c (.int .i64 ((s.length:Nat):Int)))) [] ob
  | _=>none
 | .mp _ _=>match v with
  | .one (.mr id)=>match st.h id with
   | some (.map _ ents)=>(jI md (lO ents) ob).bind fun ob1=>val o n ⟨opr x,[id]⟩ (.one (.c (.int .i64 ((ents.length:Nat):Int)))) [] ob1
   | _=>none
  | _=>none
 | _=>none
theorem aUq {x:Operand}{t:TypeId}(hw:tr.wf=true) (I:Tok P tr.flat) (J:o.op=.call { callee:=.builtin .len,args:= #[x],argTypes:= #[t] }):Snd P n o st ob (a4c tr md o n st ob x t):=by
 refine Snd.bind fun i hi=>Snd.bind fun v hv=>?_
 replace hi:=Tr.get_ok hw hi
 rw[dF] at hv;split
 ·rename_i hk;split
  ·exact Snd.val fun _ hd u hc=>⟨hc,aSu I J hd u hi hk hv⟩
  ·exact Snd.val fun _ hd u hc=>⟨hc,aSw I J hd u hi hk hv⟩
  ·exact Snd.val fun _ hd u hc=>⟨hc,aM8 I J hd u hi hk hv⟩
  ·split
   ·rename_i hh;exact Snd.bind fun N h1=>Snd.val fun _ hd u hc=>⟨(bI h1 hc).1,aG8 I J hd u hi hk hv hh (bI h1 hc).2⟩
   ·exact Snd.none
  ·split
   ·rename_i hh;exact Snd.bind fun N h1=>Snd.val fun _ hd u hc=>⟨(bI h1 hc).1,aSv I J hd u hi hk hv hh (bI h1 hc).2⟩
   ·exact Snd.none
  ·exact Snd.none
 ·rename_i hk;split
  ·exact Snd.val fun _ hd u hc=>⟨hc,aM7 I J hd u hi hk hv⟩
  ·exact Snd.none
 ·rename_i hk;split
  ·split
   ·rename_i hh;exact Snd.bind fun N h1=>Snd.val fun _ hd u hc=>⟨(bI h1 hc).1,aM9 I J hd u hi hk hv hh (bI h1 hc).2⟩
   ·exact Snd.none
  ·exact Snd.none
 ·exact Snd.none
def a4n (md:Bool) (st:St) (es:Nat) (hn:Hn) (v:V) (ob:List Prop):Option (List Nat×List (List C)×List Prop):=match v with
 | .one (.hs id off len sz)=>match st.h id with
  | some (.arr _ es' elems _)=>bif Nat.beq es' es then(jI md (sz=elems.length) ob).bind fun ob1=>(match hn with
   | .all=>some ([id],elems,(off=0∧len=sz)::ob1)
   | .c rows=>some ([id],rows,(rows=(elems.drop off).take len)::ob1)
   | _=>bif Nat.beq off 0&&Nat.beq len sz then some ([id],elems,ob1) else some ([id],(elems.drop off).take len,ob1)) else none
  | _=>none
 | .one (.c (.sl es' l))=>bif Nat.beq es' es then some ([],l,ob) else none
 | .one (.c (.sn es' l))=>bif Nat.beq es' es then some ([],l,ob) else none
 | .one (.c .nl)=>some ([],[],ob)
 | _=>none
theorem yH {es:Nat}{hn:Hn}{v:V}{ids:List Nat}{rows:List (List C)}{I:List Prop}(h:a4n md st es hn v ob=some (ids,rows,I)):jC I→jC ob∧Src st es ids v rows:=by
 intro hc;unfold a4n at h;split at h
 ·rename_i id off len sz;split at h
  ·rename_i te Y elems fz hh;obtain⟨h1,u⟩:=fI h;clear h;have:=Ab h1;subst this;rw[Ak] at u;obtain⟨Z,h2,h⟩:=u;split at h
   ·cases h;obtain⟨⟨rfl,rfl⟩,hc⟩:=hc;obtain⟨g,k⟩:=bI h2 hc;exact⟨g,.all hh k⟩
   ·cases h;obtain⟨J,hc⟩:=hc;obtain⟨g,k⟩:=bI h2 hc;exact⟨g,.hs hh k J⟩
   ·cases hb:Nat.beq off 0&&Nat.beq len sz with
    | true=>
     rw[hb] at h;cases h;obtain⟨g,k⟩:=bI h2 hc;simp only[Aj] at hb;have N:=Ab hb.1;have O:=Ab hb.2;subst N O;exact⟨g,.all hh k⟩
    | false=>
     rw[hb] at h;cases h;obtain⟨g,k⟩:=bI h2 hc;exact⟨g,.hs hh k rfl⟩
  ·cases h
 ·obtain⟨h1,u⟩:=fI h;clear h;have:=Ab h1;subst this;cases u;exact⟨hc,.sl⟩
 ·obtain⟨h1,u⟩:=fI h;clear h;have:=Ab h1;subst this;cases u;exact⟨hc,.sn⟩
 ·cases h;exact⟨hc,.nl⟩
 ·cases h
def aC4:List (List C)→Option (List Int)
 | []=>some []
 | [.int .u8 m]::rs=>(aC4 rs).bind fun l=>some (m::l)
 | _=>none
theorem aC3:∀{rows:List (List C)}{ns:List Int},aC4 rows=some ns→rows=ns.map fun m=>[C.int .u8 m]
 | [],ns,h=>by simp[aC4] at h;subst h;rfl
 | [.int .u8 m]::rs,ns,h=>by
  simp only[aC4,Ak] at h;obtain⟨l,h1,h2⟩:=h;cases h2;rw[aC3 h1];rfl
def aXb (tr:Tr) (md:Bool) (o:Oper) (n:Nat) (st:St) (ob:List Prop) (hn:Hn) (src dst:TypeId) (x:Operand):Ans:=(tr.get src).bind fun i=>(tr.get dst).bind fun j=>(opO st x).bind fun v=>match j.k with
 | .int k'=>match i.k,v with
  | .int k,.one (.c (.int k2 m))=>bif decide (k2=k) then val o n ⟨opr x,[]⟩ (.one (.c (.int k' (k'.wrap m)))) [] ob else none
  | _,_=>none
 | .str=>match i.k with
  | .sl e=>(tr.get e).bind fun ei=>match ei.k with
   | .int .u8=>(a4n md st 1 hn v ob).bind fun(ids,rows,ob1)=>(aC4 rows).bind fun ns=>(frc (ns.map fun m=>UInt8.ofNat m.toNat)).bind fun bs=>val o n ⟨opr x,ids⟩ (.one (.c (.str bs))) [] ob1
   | _=>none
  | _=>none
 | _=>none
theorem aQ9 {hn:Hn}{src dst:TypeId}{x:Operand}(hw:tr.wf=true) (Y:Tok P tr.flat) (Z:o.op=.convert src dst x):Snd P n o st ob (aXb tr md o n st ob hn src dst x):=by
 refine Snd.bind fun i hi=>Snd.bind fun j hj=>Snd.bind fun v hv=>?_
 replace hi:=Tr.get_ok hw hi
 replace hj:=Tr.get_ok hw hj
 rw[dF] at hv;split
 ·rename_i k' u;split
  ·rename_i k k2 m I;refine Snd.cond fun hk=>?_
   have:=ψ hk;subst this;exact Snd.val fun _ hd J hc=>⟨hc,aX1 Y Z hd J hi I hj u hv⟩
  ·exact Snd.none
 ·rename_i u;split
  ·rename_i e I;refine Snd.bind fun ei N=>?_
   replace N:=Tr.get_ok hw N
   split
   ·rename_i aa;refine Snd.bind fun p hp=>?_
    obtain⟨ids,rows,ac⟩:=p;refine Snd.bind fun ns ab=>Snd.bind fun bs O=>Snd.val fun _ hd J hc=>?_
    rw[lR] at O;cases O;obtain⟨g1,g2⟩:=yH hp hc;exact⟨g1,aX2 Y Z hd J hi I N aa hj u hv g2 (aC3 ab)⟩
   ·exact Snd.none
  ·exact Snd.none
 ·exact Snd.none
def a6w (md:Bool) (a b:List (List C)):Option (List (List C)):=bif md then some (a++b) else frc (a++b)
theorem aY9 (md:Bool) (a b:List (List C)):a6w md a b=some (a++b):=by
 cases md
 ·exact lR _
 ·rfl
def aI9 (tr:Tr) (md:Bool) (o:Oper) (n:Nat) (st:St) (ob:List Prop) (hn:Hn) (id0:Nat) (x y:Operand) (t:TypeId):Ans:=(tr.get t).bind fun i=>match i.k with
 | .sl e=>(tr.get e).bind fun ei=>match ei with
  | ⟨_,s0,b0,_⟩=>bif Nat.ble 1 s0&&Nat.ble 1 b0 then(opO st x).bind fun v=>(opO st y).bind fun u=>(a4n md st s0 hn u ob).bind fun(ids,rows,ob1)=>(match v with
  | .one (.hs id off len sz)=>match st.h id with
   | some (.arr te es elems fz)=>bif Nat.beq te e&&Nat.beq es s0 then(jI md (sz=elems.length) ob1).bind fun ob2=>(jI md (off=0∧len=sz) ob2).bind fun ob3=>(jI md ((elems.length+rows.length)*b0≤140737488355328) ob3).bind fun ob4=>
     (a6w md elems rows).bind fun l=>match fz with
     | 0=>val o n ⟨opr x++opr y,id::ids⟩ (.one (.hs id 0 (elems.length+rows.length) (elems.length+rows.length))) [(id,some (.arr e s0 l 0))] ob4
     | _+1=>val o n ⟨opr x++opr y,id::ids⟩ (.one (.hs id 0 (elems.length+rows.length) (elems.length+rows.length))) [(id,some (.arr e s0 l 1))] ob4
    else none
   | _=>none
  | .one (.c .nl)=>match st.h id0 with
   | none=>(jI md (rows.length*b0≤140737488355328) ob1).bind fun ob2=>val o n ⟨opr x++opr y,id0::ids⟩ (.one (.hs id0 0 rows.length rows.length)) [(id0,some (.arr e s0 rows 0))] ob2
   | some _=>none
  | _=>none) else none
 | _=>none
theorem aFm {hn:Hn}{O:Nat}{x y:Operand}{t:TypeId}(hw:tr.wf=true) (Y:Tok P tr.flat) (Z:o.op=.call { callee:=.builtin .append,args:= #[x,y],argTypes:= #[t,t] }):Snd P n o st ob (aI9 tr md o n st ob hn O x y t):=by
 refine Snd.bind fun i hi=>?_
 replace hi:=Tr.get_ok hw hi
 split
 ·rename_i e hk;refine Snd.bind fun ei I=>?_
  obtain⟨k0,s0,b0,z0⟩:=ei;refine Snd.cond fun hb=>Snd.bind fun v hv=>Snd.bind fun u hu=>Snd.bind fun p hp=>?_
  replace I:=Tr.get_ok hw I
  obtain⟨ids,rows,ob1⟩:=p;simp only[Aj] at hb;rw[dF] at hv hu;dsimp only;split
  ·rename_i id off len sz;split
   ·rename_i te es elems fz hh;refine Snd.cond fun N=>Snd.bind fun aa h2=>Snd.bind fun ob3 h3=>Snd.bind fun ob4 h4=>Snd.bind fun l hl=>?_
    simp only[Aj] at N;have e1:=Ab N.1;have e2:=Ab N.2;subst e1 e2;rw[aY9] at hl;cases hl;split
    ·refine Snd.val fun _ hd J hc=>?_
     obtain⟨g1,g2⟩:=bI h4 hc;obtain⟨g3,g4,g5⟩:=bI h3 g1;obtain⟨g6,g7⟩:=bI h2 g3;obtain⟨g8,g9⟩:=yH hp g6;subst g4 g5;exact⟨g8,aG9 Y Z hd J hi hk I hb.1 hb.2 hv hh g7 hu g9 g2⟩
    ·refine Snd.val fun _ hd J hc=>?_
     obtain⟨g1,g2⟩:=bI h4 hc;obtain⟨g3,g4,g5⟩:=bI h3 g1;obtain⟨g6,g7⟩:=bI h2 g3;obtain⟨g8,g9⟩:=yH hp g6;subst g4 g5;exact⟨g8,aG9 Y Z hd J hi hk I hb.1 hb.2 hv hh g7 hu g9 g2⟩
   ·exact Snd.none
  ·split
   ·rename_i hid;refine Snd.bind fun aa h2=>Snd.val fun _ hd J hc=>?_
    obtain⟨g1,g2⟩:=bI h2 hc;obtain⟨g3,g4⟩:=yH hp g1;exact⟨g3,aNd O Y Z hd J hi hk I hb.1 hb.2 hv hid hu g4 g2⟩
   ·exact Snd.none
  ·exact Snd.none
 ·exact Snd.none
def aDh (tr:Tr) (md:Bool) (o:Oper) (n:Nat) (st:St) (ob:List Prop) (id0:Nat) (x y:Operand) (t:TypeId):Ans:=(tr.get t).bind fun i=>match i.k with
 | .sl e=>(tr.get e).bind fun ei=>match ei with
  | ⟨_,s0,b0,_⟩=>bif Nat.ble 1 s0&&Nat.ble 1 b0 then(opO st x).bind fun v=>(opO st y).bind fun u=>match u with
  | .one (.ra id2 off2 len2 sz2)=>match st.h id2 with
   | some (.rarr _ es2 rows)=>bif Nat.beq es2 s0&&(Nat.beq off2 0&&(Nat.beq len2 rows.length&&(Nat.beq sz2 rows.length&&Nat.blt 0 rows.length))) then(match v with
    | .one (.ra id off len sz)=>match st.h id with
     | some (.rarr te es elems)=>bif Nat.beq te e&&Nat.beq es s0 then(jI md (sz=elems.length) ob).bind fun ob2=>(jI md (off=0∧len=sz) ob2).bind fun ob3=>(jI md ((elems.length+rows.length)*b0≤140737488355328) ob3).bind fun ob4=>
       val o n ⟨opr x++opr y,[id,id2]⟩ (.one (.ra id 0 (elems.length+rows.length) (elems.length+rows.length))) [(id,some (.rarr e s0 (elems++rows)))] ob4 else none
     | _=>none
    | .one (.c .nl)=>match st.h id0 with
     | none=>(jI md (rows.length*b0≤140737488355328) ob).bind fun ob2=>val o n ⟨opr x++opr y,[id0,id2]⟩ (.one (.ra id0 0 rows.length rows.length)) [(id0,some (.rarr e s0 rows))] ob2
     | some _=>none
    | _=>none) else none
   | _=>none
  | _=>none
  else none
 | _=>none
theorem aDg {Y:Nat}{x y:Operand}{t:TypeId}(hw:tr.wf=true) (hT:Tok P tr.flat) (ho:o.op=.call { callee:=.builtin .append,args:= #[x,y],argTypes:= #[t,t] }):Snd P n o st ob (aDh tr md o n st ob Y x y t):=by
 refine Snd.bind fun i hi=>?_
 replace hi:=Tr.get_ok hw hi
 split
 ·rename_i e hk;refine Snd.bind fun ei I=>?_
  obtain⟨k0,s0,b0,z0⟩:=ei;refine Snd.cond fun hb=>Snd.bind fun v hv=>Snd.bind fun u hu=>?_
  replace I:=Tr.get_ok hw I
  simp only[Aj] at hb;rw[dF] at hv hu;split
  ·rename_i id2 off2 len2 sz2;split
   ·rename_i te2 es2 rows Z;refine Snd.cond fun aa=>?_
    simp only[Aj] at aa;obtain⟨c1,c2,c3,c4,O⟩:=aa;have c1:=Ab c1;have c2:=Ab c2;have c3:=Ab c3;have c4:=Ab c4;have O:=nI O;subst c1 c2 c3 c4;split
    ·rename_i id off len sz;split
     ·rename_i te es elems hh;refine Snd.cond fun J=>Snd.bind fun ob2 h2=>Snd.bind fun ob3 h3=>Snd.bind fun ob4 h4=>Snd.val fun _ hd N hc=>?_
      simp only[Aj] at J;have e1:=Ab J.1;have e2:=Ab J.2;subst e1;rw[e2] at hh;obtain⟨g1,g2⟩:=bI h4 hc;obtain⟨g3,g4,g5⟩:=bI h3 g1;obtain⟨g6,g7⟩:=bI h2 g3;subst g4 g5;exact⟨g6,aNc hT ho hd N hi hk I hb.1 hb.2 hv hh g7 hu Z O g2⟩
     ·exact Snd.none
    ·split
     ·rename_i hid;refine Snd.bind fun ob2 h2=>Snd.val fun _ hd N hc=>?_
      obtain⟨g1,g2⟩:=bI h2 hc;exact⟨g1,aJ2 Y hT ho hd N hi hk I hb.1 hb.2 hv hid hu Z O g2⟩
     ·exact Snd.none
    ·exact Snd.none
   ·exact Snd.none
  ·exact Snd.none
 ·exact Snd.none
def a6e (P:Program) (f:FuncId):Bool:=match P.funcs[f]? with
 | some fn => !(fn.name == "runtime.NumGoroutine") && fn.body.isSome
 | none=>false
theorem aR3 {P:Program}{f:FuncId}(h:a6e P f=true):s5 P f:=by
 unfold a6e at h;split at h
 ·rename_i fn hf;simp only[Aj,Bool.not_eq_true'] at h;refine⟨fn,hf,h.1,?_⟩;cases hb:fn.body with
  | none=>rw[hb] at h;cases h.2
  | some _=>rfl
 ·cases h
def aU1 (P:Program) (f:FuncId) (args:List V) (res:V):Prop:=a6e P f=true∧aU P f args [] res []
def u5 (st:St):List Nat→List R→List Prop→Option (List Nat×List C×List Prop)
 | _,[],ob=>some ([],[],ob)
 | ty,r::rs,ob=>match r with
  | .c x=>(aK9 ty [x]).bind fun y=>match y with
   | [y]=>(u5 st ty.tail rs ob).bind fun(ids,cs,ob1)=>some (ids,y::cs,ob1)
   | _=>none
  | .hs id 0 len sz=>match st.h id with
   | some (.arr _ es elems 2)=>(u5 st ty.tail rs ob).bind fun(ids,cs,ob1)=>some (id::ids,.sl es elems::cs,(sz=elems.length∧len=elems.length)::ob1)
   | _=>none
  | _=>none
theorem pM {st:St}:∀{rs:List R}{ty:List Nat}{ob u:List Prop}{ids:List Nat}{cs:List C},u5 st ty rs ob=some (ids,cs,u)→jC u→jC ob∧PureL st.h ids rs cs
 | [],ty,ob,u,ids,cs,h,hc=>by
  cases ty<;>(simp only[u5] at h;cases h;exact⟨hc,.nil⟩)
 | r::rs,ty,ob,u,ids,cs,h,hc=>by
  rw[u5.eq_def] at h;dsimp only at h;split at h
  ·rename_i x;rw[Ak] at h;obtain⟨y,J,h⟩:=h;split at h
   ·rename_i y';rw[Ak] at h;obtain⟨⟨I,N,O⟩,h1,h2⟩:=h;cases h2;obtain⟨g1,g2⟩:=pM h1 hc;rw[uD] at J;have hp:=nT (h:=st.h) ty [x];rw[Option.some.inj J] at hp;cases hp with
    | c hx _=>exact⟨g1,.c hx g2⟩
    | any _=>exact⟨g1,.any g2⟩
   ·cases h
  ·rename_i id len sz;split at h
   ·rename_i te es elems hh;rw[Ak] at h;obtain⟨⟨I,N,O⟩,h1,h2⟩:=h;cases h2;obtain⟨g1,g2⟩:=pM h1 hc.2;exact⟨g1,.hs hh hc.1.1 (by rw[hc.1.2,Cc,Al]) g2⟩
   ·cases h
  ·cases h
def aY7 (tr:Tr) (st:St) (v:V) (t:TypeId) (ob:List Prop):Option (List Nat×V×List Prop):=match v with
 | .one r=>(u5 st (qD tr 300 [t]) [r] ob).bind fun(ids,cs,ob1)=>match cs with
  | [c]=>some (ids,.one (.c c),ob1)
  | _=>none
 | .pa l=>(aK9 (qD tr 300 [t]) l).bind fun l'=>some ([],.pa l',ob)
 | .ma rs=>(u5 st (qD tr 300 [t]) rs ob).bind fun(ids,cs,ob1)=>some (ids,.pa cs,ob1)
 | _=>none
theorem aT7 {tr:Tr}{st:St}{v v':V}{t:TypeId}{ob u:List Prop}{ids:List Nat}(h:aY7 tr st v t ob=some (ids,v',u)) (hc:jC u):(jC ob∧Conv st.h ids v v')∧v'.refs=[]:=by
 unfold aY7 at h;split at h
 ·rw[Ak] at h;obtain⟨⟨I,J,N⟩,h1,h2⟩:=h;dsimp only at h2;split at h2
  ·cases h2;obtain⟨g1,g2⟩:=pM h1 hc;exact⟨⟨g1,.one g2⟩,by simp[V.refs,R.refs]⟩
  ·cases h2
 ·rw[Ak] at h;obtain⟨l',h1,h2⟩:=h;cases h2;rw[uD] at h1;cases h1;exact⟨⟨hc,.pa (nT _ _)⟩,by simp[V.refs]⟩
 ·rw[Ak] at h;obtain⟨⟨I,J,N⟩,h1,h2⟩:=h;cases h2;obtain⟨g1,g2⟩:=pM h1 hc;exact⟨⟨g1,.agg g2⟩,by simp[V.refs]⟩
 ·cases h
def aK1 (tr:Tr) (st:St):List Operand→List TypeId→List Prop→Option (List Nat×List V×List Prop)
 | [],_,ob=>some ([],[],ob)
 | x::xs,t::ts,ob=>(opO st x).bind fun v=>(aY7 tr st v t ob).bind fun(ids1,v',ob1)=>(aK1 tr st xs ts ob1).bind fun(ids2,vs,ob2)=>some (ids1++ids2,v'::vs,ob2)
 | _::_,[],_=>none
theorem aJb {tr:Tr}{st:St}:∀{xs:List Operand}{ts:List TypeId}{ob u:List Prop}{ids:List Nat}{l:List V},aK1 tr st xs ts ob=some (ids,l,u)→jC u→(jC ob∧ArgsV st ids xs l)∧V.refsL l=[]
 | [],ts,ob,u,ids,l,h,hc=>by
  cases ts<;>(simp only[aK1] at h;cases h;exact⟨⟨hc,.nil⟩,by simp[V.refsL]⟩)
 | x::xs,[],ob,u,ids,l,h,hc=>by simp[aK1] at h
 | x::xs,t::ts,ob,u,ids,l,h,hc=>by
  simp only[aK1,dF,Ak] at h;obtain⟨v,hv,⟨I,v',Z⟩,h1,⟨J,vs,aa⟩,h2,h3⟩:=h;cases h3;obtain⟨⟨g1,g2⟩,g3⟩:=aJb h2 hc;obtain⟨⟨N,O⟩,Y⟩:=aT7 h1 g1;exact⟨⟨N,.cons hv O g2⟩,by simp[V.refsL,Y,g3]⟩
def aW7 (P:Program) (tr:Tr) (o:Oper) (n:Nat) (st:St) (ob:List Prop) (res:V) (f:FuncId) (xs:Array Operand) (ts:Array TypeId):Ans:=(aK1 tr st xs.toList ts.toList ob).bind fun(ids,args,ob1)=>val o n ⟨eD xs.toList,ids⟩ res [] (aU1 P f args res::ob1)
theorem aQ0 {res:V}{f:FuncId}{xs:Array Operand}{ts:Array TypeId}(I:o.op=.call { callee:=.value (.func f),args:=xs,argTypes:=ts }):Snd P n o st ob (aW7 P tr o n st ob res f xs ts):=by
 refine Snd.bind fun p ha=>?_
 obtain⟨ids,args,J⟩:=p;refine Snd.val fun d hd u hc=>?_
 obtain⟨⟨g1,g2⟩,g3⟩:=aJb ha hc.2;refine⟨g1,?_⟩;have:=aNb [] [] (aR3 hc.1.1) I hd u hc.1.2 g2 trivial trivial (by simp[lS,g3,keys,dU,subset]);simpa [outs,keys] using this
def aRb (P:Program) (tr:Tr) (md:Bool) (o:Oper) (n:Nat) (st:St) (ob:List Prop) (hn:Hn) (id0:Nat) (c:Call):Ans:=match c.callee with
 | .builtin b=>match b,c.args.toList,c.argTypes.toList with
  | .len,[x],[t]=>a4c tr md o n st ob x t
  | .append,[x,y],[t,t']=>bif Nat.beq t t' then(match opO st y with | some (.one (.ra _ _ _ _))=>aDh tr md o n st ob id0 x y t | _=>aI9 tr md o n st ob hn id0 x y t) else none
  | .min,[x,y],[_,_]=>(opO st x).bind fun v=>(opO st y).bind fun u=>match v,u with
   | .one (.c (.int k a)),.one (.c (.int k' b))=>bif decide (k=k') then val o n ⟨opr x++opr y,[]⟩ (.one (.c (.int k (if b<a then b else a)))) [] ob else none
   | _,_=>none
  | .max,[x,y],[_,_]=>(opO st x).bind fun v=>(opO st y).bind fun u=>match v,u with
   | .one (.c (.int k a)),.one (.c (.int k' b))=>bif decide (k=k') then val o n ⟨opr x++opr y,[]⟩ (.one (.c (.int k (if b>a then b else a)))) [] ob else none
   | _,_=>none
  | _,_,_=>none
 | .value (.func f)=>match hn with
  | .pc res=>aW7 P tr o n st ob res f c.args c.argTypes
  | _=>none
 | _=>none
theorem arr1 {α:Type}{a:Array α}{x:α}(h:a.toList=[x]):a= #[x]:=by cases a;simp at h;simp[h]
theorem a0n {α:Type}{a:Array α}{x y:α}(h:a.toList=[x,y]):a= #[x,y]:=by cases a;simp at h;simp[h]
theorem aRa {hn:Hn}{O:Nat}{c:Call}(hw:tr.wf=true) (N:Tok P tr.flat) (I:o.op=.call c):Snd P n o st ob (aRb P tr md o n st ob hn O c):=by
 obtain⟨Y,args,Z⟩:=c;unfold aRb;dsimp only;split
 ·rename_i b;split
  ·rename_i x t h1 h2;have:=arr1 h1;have:=arr1 h2
   subst_vars
   exact aUq hw N I
  ·rename_i x y t t' h1 h2;have:=a0n h1;have:=a0n h2
   subst_vars
   refine Snd.cond fun ht=>?_
   have:=Ab ht;subst this;split
   ·exact aDg hw N I
   ·exact aFm hw N I
  ·rename_i x y t t' h1 h2;have:=a0n h1;have:=a0n h2
   subst_vars
   refine Snd.bind fun v hv=>Snd.bind fun u hu=>?_
   rw[dF] at hv hu;split
   ·refine Snd.cond fun hk=>?_
    have:=ψ hk;subst this;exact Snd.val fun _ hd J hc=>⟨hc,a5c I hd J hv hu rfl⟩
   ·exact Snd.none
  ·rename_i x y t t' h1 h2;have:=a0n h1;have:=a0n h2
   subst_vars
   refine Snd.bind fun v hv=>Snd.bind fun u hu=>?_
   rw[dF] at hv hu;split
   ·refine Snd.cond fun hk=>?_
    have:=ψ hk;subst this;exact Snd.val fun _ hd J hc=>⟨hc,a5d I hd J hv hu rfl⟩
   ·exact Snd.none
  ·exact Snd.none
 ·split
  ·exact aQ0 I
  ·exact Snd.none
 ·exact Snd.none
def idO (hn:Hn) (d:Option Nat):Option Nat:=match hn with
 | .id n=>some n
 | _=>match d with
  | some d=>some d
  | none=>none
def aUn (P:Program) (tr:Tr) (md nat:Bool) (n:Nat) (st:St) (hn:Hn) (o:Oper) (ob:List Prop):Ans:=match o.op with
 | .move x=>aI8 o n st ob x
 | .assign x=>aI8 o n st ob x
 | .pick c x y=>aW8 o n st ob hn c x y
 | .alloc t=>(idO hn o.dst).bind fun id=>aRd tr o n st ob id t
 | .box t x=>(idO hn o.dst).bind fun id=>a4d o n st ob id t x
 | .build t ps=>aRc tr o n st ob t ps
 | .buildSlice t len ps=>(idO hn o.dst).bind fun id=>aQz tr o n st ob hn id t len ps
 | .load t x=>aW9 tr md o n st ob hn t x
 | .store t x y=>aQy tr md o st ob hn t x y
 | .nilCheck x=>a4b md o n st ob x
 | .slice t x l h m=>aZ1 tr md o n st ob t x l h m
 | .index t x y=>aQ5 tr o n st ob hn t x y
 | .convert src dst x=>aXb tr md o n st ob hn src dst x
 | .binOp op tx x y _=>a4e tr md nat o n st ob op tx x y
 | .unOp op _ x=>a62 md o n st ob op x
 | .makeFunc f a b=>aQ7 o n st ob f a b
 | .makeMap t r=>(idO hn o.dst).bind fun id=>aZz tr o n st ob id t r
 | .fieldAddr t x f=>vD tr md o n st ob t x f
 | .field t x f=>aQ8 tr o n st ob t x f
 | .indexAddr t x y=>vB tr md o n st ob hn t x y
 | .lookup t x y ok=>aAk tr md o n st ob hn t x y ok
 | .mapUpdate t x y z=>lJ tr md o st ob t x y z
 | .insert t x y z=>lJ tr md o st ob t x y z
 | .extract x i=>aDf o n st ob x i
 | .call c=>(idO hn o.dst).bind fun id=>aRb P tr md o n st ob hn id c
 | _=>none
theorem aI7 {hn:Hn}(hw:tr.wf=true) (I:Tok P tr.flat):Snd P n o st ob (aUn P tr md nat n st hn o ob):=by
 unfold aUn;split
 ·rename_i u;exact aQ3 u
 ·rename_i u;exact aFl u
 ·rename_i u;exact aQ1 u
 ·rename_i u;exact Snd.bind fun _ _=>aK0 hw I u
 ·rename_i u;exact Snd.bind fun _ _=>aUt u
 ·rename_i u;exact aKz hw I u
 ·rename_i u;exact Snd.bind fun _ _=>aKv hw I u
 ·rename_i u;exact aQ4 hw I u
 ·rename_i u;exact aKu hw I u
 ·rename_i u;exact aUo u
 ·rename_i u;exact aUs hw I u
 ·rename_i u;exact aKw hw I u
 ·rename_i u;exact aQ9 hw I u
 ·rename_i u;exact aUu hw I u
 ·rename_i u;exact aZy u
 ·rename_i u;exact aQ6 u
 ·rename_i u;exact Snd.bind fun _ _=>aUp u
 ·rename_i u;exact w3 hw I u
 ·rename_i u;exact aKy hw I u
 ·rename_i u;exact vZ hw I u
 ·rename_i u;exact aFi hw I u
 ·rename_i u;exact vY hw I u
 ·rename_i u;exact aFj hw I u
 ·rename_i u;exact aDe u
 ·rename_i u;exact Snd.bind fun _ _=>aRa hw I u
 ·exact Snd.none
theorem Step.freeze {rd:Rd}{u:Option (Nat×Option V)}{id te es z:Nat}{l:List (List C)}(h:Step P n o st rd ⟨u,[(id,some (.arr te es l z))]⟩):Step P n o st rd ⟨u,[(id,some (.arr te es l 2))]⟩:=by
 intro st' ha G S μ a w K Q hs I;refine h st' ha G S μ a w K Q hs fun S1 Z J N h1=>?_
 have hh:(Eff.apply ⟨u,[(id,some (.arr te es l z))]⟩ st').h id=some (.arr te es l z):=by
  show updL st'.h [(id,some (.arr te es l z))] id=_;rw[dO,aM]
 obtain⟨S2,O,h2⟩:=h1.freeze hh;refine I S2 O J N ?_;have Y:upd (Eff.apply ⟨u,[(id,some (.arr te es l z))]⟩ st').h id (some (.arr te es l 2))=(Eff.apply ⟨u,[(id,some (.arr te es l 2))]⟩ st').h:=by
  show upd (updL st'.h [(id,some (.arr te es l z))]) id _=updL st'.h [(id,some (.arr te es l 2))];rw[dO,dO,qQ]
 rw[Y] at h2;exact h2
def a6f:Ans→Ans
 | some (rd,⟨dv,[(id,some (.arr te es l _))]⟩,ob')=>some (rd,⟨dv,[(id,some (.arr te es l 2))]⟩,ob')
 | _=>none
theorem aZ0 {r:Ans}(h:Snd P n o st ob r):Snd P n o st ob (a6f r):=by
 intro rd f u e hc;unfold a6f at e;split at e
 ·cases e;obtain⟨g1,g2⟩:=h _ _ _ rfl hc;exact⟨g1,g2.freeze⟩
 ·cases e
def a4s (P:Program) (tr:Tr) (md nat:Bool) (n:Nat) (st:St) (hn:Hn) (o:Oper) (ob:List Prop):Ans:=match hn with
 | .fz=>a6f (aUn P tr md nat n st .no o ob)
 | hn=>aUn P tr md nat n st hn o ob
theorem aQ2 {hn:Hn}(hw:tr.wf=true) (u:Tok P tr.flat):Snd P n o st ob (a4s P tr md nat n st hn o ob):=by
 unfold a4s;split
 ·exact aZ0 (aI7 hw u)
 ·exact aI7 hw u
def aFe:List Oper→Nat→Option Nat
 | [],_=>none
 | o::os,i=>bif Nat.beq i 0 then o.dst else aFe os (i-1)
theorem aIp:∀(os:List Oper) (i:Nat),aFe os i=(os[i]?).bind (·.dst)
 | [],i=>by simp[aFe]
 | o::os,0=>by simp[aFe]
 | o::os,i+1=>by
  have:Nat.beq (i+1) 0=false:=rfl;simp[aFe,this,aIp os i]
def axG (P:Program) (tr:Tr) (md nat:Bool) (n:Nat) (all:List Oper) (hs:List (Nat×Hn)) (k:Nat) (o:Oper) (st:St) (ob:List Prop):Ans:=match o.guard with
 | none=>a4s P tr md nat n st (aTr hs k) o ob
 | some (j,want)=>(aFe all j).bind fun t=>(st.e t).bind fun v=>match v with
  | .one (.c (.bool b))=>match aR9 (match aTr hs j with | .bv w=>.bv w | _=>.no) b ob with
   | (w,ob1)=>bif w==want then(a4s P tr md nat n st (aTr hs k) o ob1).bind fun(rd,f,ob2)=>some (⟨t::rd.e,rd.h⟩,f,ob2)
    else match o.dst with
     | some d=>bif Nat.blt d n then some (⟨[t],[]⟩,⟨some (d,some (.tup [])),[]⟩,ob1) else none
     | none=>none
  | .tup []=>match o.dst with
   | some d=>bif Nat.blt d n then some (⟨[t],[]⟩,⟨some (d,some (.tup [])),[]⟩,ob) else none
   | none=>none
  | _=>none
theorem aXa {ops:Array Oper}{hs:List (Nat×Hn)}{k:Nat}{rd:Rd}{f:Eff}{N:List Prop}(hw:tr.wf=true) (Y:Tok P tr.flat) (J:ops[k]?=some o) (h:axG P tr md nat n ops.toList hs k o st ob=some (rd,f,N)):jC N→jC ob∧GStep P n ops k st rd f:=by
 intro hc;unfold axG at h;split at h
 ·rename_i I;obtain⟨h1,h2⟩:=aQ2 hw Y _ _ _ h hc;exact⟨h1,GStep.plain J I h2⟩
 ·rename_i j want I;rw[Ak] at h;obtain⟨t,ht,h⟩:=h;rw[Ak] at h;obtain⟨v,hv,h⟩:=h;have hj:(ops[j]?).bind (·.dst)=some t:=by
   rw[aIp] at ht;simpa using ht
  split at h
  ·rename_i b;split at h;rename_i w Z O;cases u:w==want with
   | true=>
    rw[u] at h;simp only[Bn] at h;rw[Ak] at h;obtain⟨⟨aa,f1,ab⟩,h1,h2⟩:=h;cases h2;obtain⟨g1,g2⟩:=aQ2 hw Y _ _ _ h1 hc;obtain⟨g3,g4⟩:=sD O g1;exact⟨g3,GStep.yes J I hj hv (g4.trans (eq_of_beq u)) g2⟩
   | false=>
    rw[u] at h;simp only[Bs] at h;split at h
    ·rename_i d hd;obtain⟨h1,h2⟩:=fI h;cases h2;obtain⟨g3,g4⟩:=sD O hc;refine⟨g3,GStep.no J I hd (nI h1) hj hv g4 ?_⟩;cases w<;>cases want<;>first | rfl | (cases u)
    ·cases h
  ·split at h
   ·rename_i d hd;obtain⟨h1,h2⟩:=fI h;cases h2;exact⟨hc,GStep.un J I hd (nI h1) hj hv⟩
   ·cases h
  ·cases h
def xR (P:Program) (tr:Tr) (md nat:Bool) (n:Nat) (all:List Oper) (hs:List (Nat×Hn)):Nat→Nat→List Oper→(Nat→Option V)→dC→List Nat→REs→List Prop→Option (St×Nat×REs×List Prop)
 | 0,k,_,e,h,d,pre,ob=>some (⟨e,h,d⟩,k,pre,ob)
 | _+1,k,[],e,h,d,pre,ob=>some (⟨e,h,d⟩,k,pre,ob)
 | m+1,k,o::os,e,h,d,pre,ob=>(axG P tr md nat n all hs k o ⟨e,h,d⟩ ob).bind fun(rd,f,ob1)=>match f with
  | ⟨some (t,v),[]⟩=>xR P tr md nat n all hs m (k+1) os (upd e t v) h d ((rd,⟨some (t,v),[]⟩)::pre) ob1
  | ⟨some (t,v),[(id,x)]⟩=>xR P tr md nat n all hs m (k+1) os (upd e t v) (upd h id x) d ((rd,⟨some (t,v),[(id,x)]⟩)::pre) ob1
  | ⟨none,[(id,x)]⟩=>xR P tr md nat n all hs m (k+1) os e (upd h id x) d ((rd,⟨none,[(id,x)]⟩)::pre) ob1
  | _=>none
theorem aFk {ops:Array Oper}{hs:List (Nat×Hn)}{draw:Bool}(hw:tr.wf=true) (hT:Tok P tr.flat):∀(m k:Nat) (os:List Oper) (e:Nat→Option V) (h:dC) (d:List Nat) (pre:REs) (ob:List Prop) (st':St) (k':Nat) (pre':REs) (J:List Prop),os=ops.toList.drop k→
  xR P tr md nat n ops.toList hs m k os e h d pre ob=some (st',k',pre',J)→jC J→jC ob∧∀Q,lW P n ops draw k' st' pre' Q→lW P n ops draw k ⟨e,h,d⟩ pre Q:=by
 intro m
 induction m with
 | zero=>
  intro k os e h d pre ob st' k' pre' J _ u hc;simp only[xR] at u;cases u;exact⟨hc,fun Q N=>N⟩
 | succ m Z=>
  intro k os e h d pre ob st' k' pre' J Y u hc;cases os with
  | nil=>
   simp only[xR] at u;cases u;exact⟨hc,fun Q N=>N⟩
  | cons o os=>
   have ho:ops[k]?=some o:=by
    have:(ops.toList.drop k)[0]?=some o:=by rw[←Y];rfl
    simpa using this
   have I:os=ops.toList.drop (k+1):=by
    have:os=(ops.toList.drop k).tail:=by rw[←Y];rfl
    rw[this,List.tail_drop]
   simp only[xR,Ak] at u;obtain⟨⟨rd,f,aa⟩,h1,h2⟩:=u;have key:∀{O:St},jC aa→O=f.apply ⟨e,h,d⟩→(∀Q,lW P n ops draw k' st' pre' Q→lW P n ops draw (k+1) O ((rd,f)::pre) Q)→jC ob∧∀Q,lW P n ops draw k' st' pre' Q→lW P n ops draw k ⟨e,h,d⟩ pre Q:=by
    intro O ab ac hk;obtain⟨g1,g2⟩:=aXa hw hT ho h1 ab;subst ac;exact⟨g1,fun Q N=>k_ g2 (hk Q N)⟩
   split at h2
   ·rename_i heq;have heq:f=_:=heq;subst heq;obtain⟨g1,g2⟩:=Z _ _ _ _ _ _ _ _ _ _ _ I h2 hc;exact key g1 (by simp only[Eff.apply,aF1]) g2
   ·rename_i heq;have heq:f=_:=heq;subst heq;obtain⟨g1,g2⟩:=Z _ _ _ _ _ _ _ _ _ _ _ I h2 hc;exact key g1 (by simp only[Eff.apply,dO]) g2
   ·rename_i heq;have heq:f=_:=heq;subst heq;obtain⟨g1,g2⟩:=Z _ _ _ _ _ _ _ _ _ _ _ I h2 hc;exact key g1 (by simp only[Eff.apply,dO]) g2
   ·cases h2
end
section
variable {ro:Option Nat}{P:Program}{n:Nat}{ops:Array Oper}{draw:Bool}{k k':Nat}{st st':St}{pre pre':REs}{Q:St→Prop}{tr:Tr}{ob:List Prop}
theorem ax_ {hs:List (Nat×Hn)}{md nat:Bool}(m:Nat) (hw:tr.wf=true) (u:Tok P tr.flat) (h:xR P tr md nat n ops.toList hs m k (ops.toList.drop k) st.e st.h st.d pre []=some (st',k',pre',ob)) (hc:jC ob) (hk:lW P n ops draw k' st' pre' Q):lW P n ops draw k st pre Q:=
 (aFk hw u m k _ st.e st.h st.d pre [] st' k' pre' ob rfl h hc).2 Q hk
theorem aXc {hs:List (Nat×Hn)}{md nat:Bool}{kf:List Nat}{id:Nat}{Q:Exit→St→Prop}(hm:P.follows .mixedOrders=true) (hw:tr.wf=true) (u:Tok P tr.flat) (h:xR P tr md nat n ops.toList hs 1000 0 ops.toList st.e st.h st.d [] []=some (st',k',pre',ob)) (hc:jC ob)
  (h1:Nat.beq k' ops.size=true) (h2:(!draw || (gG (qX ops) pre'.reverse []&&iY ops))=true) (I:Q .normal st'):AWp ro P n kf (.region id ops draw) st Q:=
 aI hm ((aFk hw u 1000 0 _ st.e st.h st.d [] [] st' k' pre' ob rfl h hc).2 _ (z_ h1 h2 I))
end
theorem hs_all {h:dC}{id te es n:Nat}{l l':List (List C)}{fz:Nat}(h1:h id=some (.arr te es l fz)) (hf:fz=2) (h2:n=l.length) (h3:l=l'):Conv h [id] (.one (.hs id 0 n n)) (.one (.c (.sl es l'))):=by
 subst h2;subst h3;subst hf;exact .one (.hs h1 rfl (by rw[Cc,Al]) .nil)
section
variable {P:Program}{n:Nat}{ops:Array Oper}{draw:Bool}{k d:Nat}{st:St}{pre:REs}{Q:St→Prop}{o:Oper}{f:FuncId}{xs:Array Operand}{ts:Array TypeId}{ids:List Nat}{args:List V}{res:V}{hin hout:List (Nat×AObj)}
theorem kc (hf:aU P f args hin res hout)
  (hk:lW P n ops draw (k+1) ⟨upd st.e d (some res),updL st.h (outs hout),st.d⟩ ((⟨eD xs.toList,ids++keys hin++keys hout⟩,⟨some (d,some res),outs hout⟩)::pre) Q)
  (hb:s5 P f:=by exact aR3 (by kernel_rfl)) (J:ops[k]?=some o:=by rfl) (N:o.guard=none:=by rfl) (u:o.op=.call { callee:=.value (.func f),args:=xs,argTypes:=ts }:=by rfl) (hd:o.dst=some d:=by rfl) (I:Nat.blt d n=true:=by rfl)
  (ha:ArgsV st ids xs.toList args:=by repeat (first | exact .nil | (apply Go.AM.ArgsV.cons rfl;(first | exact .refl | exact .one (.c .nl .nil) | exact .one (.c .sn .nil) | exact .one (.hs rfl (by first | rfl | simp) (by first | rfl | (simp;done) | (simp[Go.AM.take_map];done) | exact Go.AM.take_map.symm) .nil) | exact Go.AM.hs_all rfl rfl (by first | rfl | assumption | (simp;done) | (simp;omega)) (by first | rfl | assumption | (simp;done)) | ((first | apply Go.AM.Conv.pa | apply Go.AM.Conv.agg);repeat (first | exact .nil | apply Go.AM.PureL.c .refl | apply Go.AM.PureL.c .nl | apply Go.AM.PureL.c .sn | (apply Go.AM.PureL.hs;rfl;(first | rfl | simp);(first | rfl | (simp;done) | (simp[Go.AM.take_map];done) | exact Go.AM.take_map.symm))))))))
  (hin':fL (fun p=>st.h p.1=some p.2) hin:=by repeat (first | exact trivial | refine⟨rfl,?_⟩)) (hout':fL (fun p=>p.1∈keys hin∨st.h p.1=none) hout:=by repeat (first | exact trivial | refine⟨.inr rfl,?_⟩ | refine⟨.inl (by decide),?_⟩ | refine⟨.inl (by repeat (first | exact List.Mem.head _ | apply List.Mem.tail)),?_⟩)) (hok:lS args hin=true:=by rfl):lW P n ops draw k st pre Q:=
 k_ (g_ J N (aNb hin hout hb u hd (nI I) hf ha hin' hout' hok)) hk
theorem kv {x:Operand}{caps:List R}(hf:aU P f (args++caps.map V.one) hin res hout)
  (hk:lW P n ops draw (k+1) ⟨upd st.e d (some res),updL st.h (outs hout),st.d⟩ ((⟨opr x++eD xs.toList,ids++keys hin++keys hout⟩,⟨some (d,some res),outs hout⟩)::pre) Q)
  (hb:s5 P f:=by exact aR3 (by kernel_rfl)) (J:ops[k]?=some o:=by rfl) (N:o.guard=none:=by rfl) (u:o.op=.call { callee:=.value x,args:=xs,argTypes:=ts }:=by rfl) (hd:o.dst=some d:=by rfl) (I:Nat.blt d n=true:=by rfl) (hx:opv st x=some (.one (.clo f caps)):=by rfl)
  (ha:ArgsV st ids xs.toList args:=by repeat (first | exact .nil | (apply Go.AM.ArgsV.cons rfl;(first | exact .refl | exact .one (.c .nl .nil) | exact .one (.c .sn .nil) | exact .one (.hs rfl (by first | rfl | simp) (by first | rfl | (simp;done) | (simp[Go.AM.take_map];done) | exact Go.AM.take_map.symm) .nil) | exact Go.AM.hs_all rfl rfl (by first | rfl | assumption | (simp;done) | (simp;omega)) (by first | rfl | assumption | (simp;done)) | ((first | apply Go.AM.Conv.pa | apply Go.AM.Conv.agg);repeat (first | exact .nil | apply Go.AM.PureL.c .refl | apply Go.AM.PureL.c .nl | apply Go.AM.PureL.c .sn | (apply Go.AM.PureL.hs;rfl;(first | rfl | simp);(first | rfl | (simp;done) | (simp[Go.AM.take_map];done) | exact Go.AM.take_map.symm))))))))
  (hin':fL (fun p=>st.h p.1=some p.2) hin:=by repeat (first | exact trivial | refine⟨rfl,?_⟩)) (hout':fL (fun p=>p.1∈keys hin∨st.h p.1=none) hout:=by repeat (first | exact trivial | refine⟨.inr rfl,?_⟩ | refine⟨.inl (by decide),?_⟩ | refine⟨.inl (by repeat (first | exact List.Mem.head _ | apply List.Mem.tail)),?_⟩)) (hok:lS (args++caps.map V.one) hin=true:=by rfl):lW P n ops draw k st pre Q:=
 k_ (g_ J N (aX3 hin hout hb u hd (nI I) hx hf ha hin' hout' hok)) hk
end
inductive Res where
 | leaf (st:St) (k:Nat) (pre:REs) (ob:List Prop)
 | fork (b:Bool) (x y:Res)
def Res.obs:Res→Prop
 | .leaf _ _ _ ob=>jC ob
 | .fork b x y=>(b=true→x.obs)∧(b=false→y.obs)
def Res.good (ops:Array Oper) (draw:Bool):Res→Bool
 | .leaf _ k pre _=>Nat.beq k ops.size&&(!draw || (gG (qX ops) pre.reverse []&&iY ops))
 | .fork _ x y=>x.good ops draw&&y.good ops draw
def Res.all (Q:St→Prop):Res→Prop
 | .leaf st _ _ _=>Q st
 | .fork b x y=>(b=true→x.all Q)∧(b=false→y.all Q)
def aYm:Nat→List Nat→Bool
 | _,[]=>false
 | i,x::l=>bif Nat.beq i x then true else aYm i l
theorem aHy:∀{i:Nat}{l:List Nat},aYm i l=true↔i∈l
 | i,[]=>by simp[aYm]
 | i,x::l=>by
  simp only[aYm];cases h:Nat.beq i x with
  | true=>have:=Ab h;simp[this]
  | false=>
   have:i≠x:=fun e=>by subst e;simp at h
   simp[this,aHy]
def a26 (all:List Oper) (dec:List Nat) (o:Oper):Option Nat:=
 match (match o.guard with | some (j,_)=>(aFe all j).bind fun t=>bif aYm t dec then none else some t | none=>none) with
 | some t=>some t
 | none=>match o.op with
  | .pick (.tmp t) _ _=>bif aYm t dec then none else some t
  | _=>none
def qK (P:Program) (tr:Tr) (md nat:Bool) (n:Nat) (all:List Oper) (hs:List (Nat×Hn)) (W:List Nat):Nat→Nat→List Oper→(Nat→Option V)→dC→List Nat→List Nat→REs→List Prop→Option Res
 | 0,_,_,_,_,_,_,_,_=>none
 | _+1,k,[],e,h,d,_,pre,ob=>some (.leaf ⟨e,h,d⟩ k pre ob)
 | m+1,k,o::os,e,h,d,dec,pre,ob=>match a26 all dec o with
  | some t=>match e t with
   | some (.one (.c (.bool b)))=>(qK P tr md nat n all hs W m k (o::os) (upd e t (some (.one (.c (.bool true))))) h d (t::dec) pre ob).bind fun x=>
     (qK P tr md nat n all hs W m k (o::os) (upd e t (some (.one (.c (.bool false))))) h d (t::dec) pre ob).bind fun y=>some (.fork b x y)
   | _=>qK P tr md nat n all hs W m k (o::os) e h d (t::dec) pre ob
  | none=>(axG P tr md nat n all hs k o ⟨e,h,d⟩ ob).bind fun(rd,f,ob1)=>match f with
   | ⟨some (t,v),[]⟩=>bif aYm t W then qK P tr md nat n all hs W m (k+1) os (upd e t v) h d dec ((rd,⟨some (t,v),[]⟩)::pre) ob1 else none
   | _=>none
section
variable {P:Program}{n:Nat}{tr:Tr}{md nat:Bool}
theorem aF0 {e:Nat→Option V}{t:Nat}{x:Option V}(h:e t=x):upd e t x=e:=by
 funext i;simp only[upd];split
 ·rename_i hb;rw[Ab hb,h]
 ·rfl
theorem aUr {ops:Array Oper}{hs:List (Nat×Hn)}{W:List Nat}{draw:Bool}(hw:tr.wf=true) (hT:Tok P tr.flat):∀(m k:Nat) (os:List Oper) (e:Nat→Option V) (h:dC) (d dec:List Nat) (pre:REs) (ob:List Prop) (res:Res),os=ops.toList.drop k→
  qK P tr md nat n ops.toList hs W m k os e h d dec pre ob=some res→res.obs→res.good ops draw=true→∀Q,res.all Q→jC ob∧lW P n ops draw k ⟨e,h,d⟩ pre Q:=by
 intro m
 induction m with
 | zero=>intro k os e h d dec pre ob res _ I;simp[qK] at I
 | succ m Y=>
  intro k os e h d dec pre ob res J I N u Q O;cases os with
  | nil=>
   simp only[qK] at I;cases I;simp only[Res.good,Aj] at u;exact⟨N,z_ u.1 u.2 O⟩
  | cons o os=>
   have hok:ops[k]?=some o:=by
    have:(ops.toList.drop k)[0]?=some o:=by rw[←J];rfl
    simpa using this
   have Z:os=ops.toList.drop (k+1):=by
    have:os=(ops.toList.drop k).tail:=by rw[←J];rfl
    rw[this,List.tail_drop]
   simp only[qK] at I;split at I
   ·rename_i t _;split at I
    ·rename_i b hb;rw[Ak] at I;obtain⟨x,hx,I⟩:=I;rw[Ak] at I;obtain⟨y,hy,I⟩:=I;cases I;simp only[Res.obs] at N;simp only[Res.good,Aj] at u;simp only[Res.all] at O;cases b with
     | true=>
      rw[aF0 hb] at hx;exact Y _ _ _ _ _ _ _ _ _ J hx (N.1 rfl) u.1 Q (O.1 rfl)
     | false=>
      rw[aF0 hb] at hy;exact Y _ _ _ _ _ _ _ _ _ J hy (N.2 rfl) u.2 Q (O.2 rfl)
    ·exact Y _ _ _ _ _ _ _ _ _ J I N u Q O
   ·rw[Ak] at I;obtain⟨⟨rd,f,ob1⟩,h1,h2⟩:=I;dsimp only at h2;split at h2
    ·obtain⟨_,h3⟩:=fI h2;obtain⟨g1,g2⟩:=Y _ _ _ _ _ _ _ _ _ Z h3 N u Q O;obtain⟨g3,g4⟩:=aXa hw hT hok h1 g1;refine⟨g3,k_ g4 ?_⟩;simpa only[Eff.apply,aF1] using g2
    ·cases h2
def Res.keep (e0:Nat→Option V) (h0:dC) (d0:List Nat) (W:List Nat):Res→Prop
 | .leaf st _ _ _=>(∀t,t∉W→∀v,e0 t=some v→st.e t=some v)∧st.h=h0∧st.d=d0
 | .fork b x y=>(b=true→x.keep e0 h0 d0 W)∧(b=false→y.keep e0 h0 d0 W)
theorem aKx {all:List Oper}{hs:List (Nat×Hn)}{W:List Nat}{e0:Nat→Option V}:∀(m k:Nat) (os:List Oper) (e:Nat→Option V) (h:dC) (d dec:List Nat) (pre:REs) (ob:List Prop) (res:Res),
  qK P tr md nat n all hs W m k os e h d dec pre ob=some res→(∀t,t∉W→∀v,e0 t=some v→e t=some v)→res.keep e0 h d W:=by
 intro m
 induction m with
 | zero=>intro k os e h d dec pre ob res I;simp[qK] at I
 | succ m J=>
  intro k os e h d dec pre ob res I he;cases os with
  | nil=>
   simp only[qK] at I;cases I;exact⟨he,rfl,rfl⟩
  | cons o os=>
   simp only[qK] at I;split at I
   ·rename_i t _;split at I
    ·rename_i b hb;rw[Ak] at I;obtain⟨x,hx,I⟩:=I;rw[Ak] at I;obtain⟨y,N,I⟩:=I;cases I;refine⟨fun O=>?_,fun Y=>?_⟩
     ·subst O;rw[aF0 hb] at hx;exact J _ _ _ _ _ _ _ _ _ hx he
     ·subst Y;rw[aF0 hb] at N;exact J _ _ _ _ _ _ _ _ _ N he
    ·exact J _ _ _ _ _ _ _ _ _ I he
   ·rw[Ak] at I;obtain⟨⟨rd,f,aa⟩,h1,h2⟩:=I;dsimp only at h2;split at h2
    ·obtain⟨hm,h3⟩:=fI h2;refine J _ _ _ _ _ _ _ _ _ h3 fun s hs u hu=>?_
     have Z:s≠_:=fun e=>hs (by rw[e];exact aHy.1 hm)
     rw[bJ _ _ _ Z];exact he s hs u hu
    ·cases h2
def Res.boolAt (w:Nat):Res→Option Bool
 | .leaf st _ _ _=>match st.e w with
  | some (.one (.c (.bool x)))=>some x
  | _=>none
 | .fork b x y=>(x.boolAt w).bind fun p=>(y.boolAt w).bind fun q=>some (bif b then p else q)
theorem Res.boolAt_all {w:Nat}:∀{r:Res}{x:Bool},r.boolAt w=some x→r.all fun st=>st.e w=some (.one (.c (.bool x)))
 | .leaf st _ _ _,x,h=>by
  simp only[Res.boolAt] at h;split at h
  ·rename_i hx;cases h;exact hx
  ·cases h
 | .fork b p q,x,h=>by
  simp only[Res.boolAt,Ak] at h;obtain⟨u,hu,v,hv,h⟩:=h;cases h;refine⟨fun hb=>?_,fun hb=>?_⟩
  ·subst hb;exact Res.boolAt_all hu
  ·subst hb;exact Res.boolAt_all hv
def uJ (res:Res):List Nat→Option (List (Nat×Option V))
 | []=>some []
 | w::ws=>(uJ res ws).bind fun l=>match res.boolAt w with
  | some x=>some ((w,some (.one (.c (.bool x))))::l)
  | none=>some ((w,none)::l)
def oG (e:Nat→Option V):List (Nat×Option V)→Nat→Option V
 | [],t=>e t
 | (w,v)::l,t=>bif Nat.beq t w then v else oG e l t
theorem aB4 {res:Res}{e0:Nat→Option V}{t:Nat}:∀{W:List Nat}{L:List (Nat×Option V)},uJ res W=some L→oG e0 L t=if t∈W then(res.boolAt t).map (fun x=>V.one (.c (.bool x))) else e0 t
 | [],L,h=>by
  simp only[uJ] at h;cases h;simp[oG]
 | w::ws,L,h=>by
  simp only[uJ,Ak] at h;obtain⟨l,hl,h⟩:=h;have I:=aB4 (e0:=e0) (t:=t) hl;have J:L=(w,(res.boolAt w).map (fun x=>V.one (.c (.bool x))))::l:=by
   split at h
   ·rename_i x hx;cases h;rw[hx];rfl
   ·rename_i hx;cases h;rw[hx];rfl
  subst J;simp only[oG];by_cases u:t=w
  ·subst u;simp
  ·have hb:Nat.beq t w=false:=by
    cases hb:Nat.beq t w with
    | true=>exact absurd (Ab hb) u
    | false=>rfl
   rw[hb,Bs,I];simp[u]
theorem Res.all_mono {Q Q':St→Prop}(h:∀st,Q st→Q' st):∀{r:Res},r.all Q→r.all Q'
 | .leaf st _ _ _,k=>h st k
 | .fork _ _ _,k=>⟨fun hb=>Res.all_mono h (k.1 hb),fun hb=>Res.all_mono h (k.2 hb)⟩
theorem Res.all_forall {α:Type}{Q:α→St→Prop}:∀{r:Res},(∀a,r.all (Q a))→r.all fun st=>∀a,Q a st
 | .leaf _ _ _ _,k=>fun a=>k a
 | .fork _ _ _,k=>⟨fun hb=>Res.all_forall fun a=>(k a).1 hb,fun hb=>Res.all_forall fun a=>(k a).2 hb⟩
theorem Res.all_and {Q Q':St→Prop}:∀{r:Res},r.all Q→r.all Q'→r.all fun st=>Q st∧Q' st
 | .leaf _ _ _ _,h,k=>⟨h,k⟩
 | .fork _ _ _,h,k=>⟨fun hb=>Res.all_and (h.1 hb) (k.1 hb),fun hb=>Res.all_and (h.2 hb) (k.2 hb)⟩
theorem Res.keep_at {e0:Nat→Option V}{h0:dC}{d0 W:List Nat}{t:Nat}{v:V}(ht:t∉W) (hv:e0 t=some v):∀{r:Res},r.keep e0 h0 d0 W→r.all fun st=>st.e t=some v
 | .leaf _ _ _ _,k=>k.1 t ht v hv
 | .fork _ _ _,k=>⟨fun hb=>Res.keep_at ht hv (k.1 hb),fun hb=>Res.keep_at ht hv (k.2 hb)⟩
theorem Res.keep_hd {e0:Nat→Option V}{h0:dC}{d0 W:List Nat}:∀{r:Res},r.keep e0 h0 d0 W→r.all fun st=>st.h=h0∧st.d=d0
 | .leaf _ _ _ _,k=>k.2
 | .fork _ _ _,k=>⟨fun hb=>Res.keep_hd (k.1 hb),fun hb=>Res.keep_hd (k.2 hb)⟩
theorem aTj {res:Res}{e0:Nat→Option V}{h0:dC}{d0 W:List Nat}{L:List (Nat×Option V)}(h:uJ res W=some L) (hk:res.keep e0 h0 d0 W):res.all fun st=>(∀p:Nat×V,oG e0 L p.1=some p.2→st.e p.1=some p.2)∧(st.h=h0∧st.d=d0):=by
 refine Res.all_and (Res.all_forall fun p=>?_) (Res.keep_hd hk);by_cases hv:oG e0 L p.1=some p.2
 ·refine Res.all_mono (fun st h _=>h) (?_:res.all fun st=>st.e p.1=some p.2);rw[aB4 h] at hv;by_cases ht:p.1∈W
  ·rw[ξ ht,Bq] at hv;obtain⟨x,hx,hv⟩:=hv;rw[←hv];exact Res.boolAt_all hx
  ·rw[φ ht] at hv;exact Res.keep_at ht hv hk
 ·have:∀r:Res,r.all fun st=>oG e0 L p.1=some p.2→st.e p.1=some p.2:=by
   intro r
   induction r with
   | leaf st k pre ob=>exact fun h=>absurd h hv
   | fork b x y u I=>exact⟨fun _=>u,fun _=>I⟩
  exact this res
theorem Sub.weak {kf:List Nat}{u st2:St}(he:∀p:Nat×V,st2.e p.1=some p.2→u.e p.1=some p.2) (hh:u.h=st2.h) (hd:u.d=st2.d):Sub kf st2 u:=by
 intro G n S μ a w _ hs;refine⟨S,μ,⟨?_,hs.size,?_,fun t v e=>?_⟩⟩
 ·rw[←hh];exact hs.inv
 ·rw[←hh,←hd];exact hs.defers
 ·rw[←hh];exact hs.env t v (he (t,v) e)
def a0l:List Oper→List Nat
 | []=>[]
 | o::os=>match o.dst with
  | some t=>t::a0l os
  | none=>a0l os
theorem aZ3 {ro:Option Nat}{ops:Array Oper}{draw:Bool}{st:St}{J:Nat→Option V}{h1:dC}{d1:List Nat}{I:Nat}{u:REs}{N:List Prop}{res:Res}{L:List (Nat×Option V)}{hs:List (Nat×Hn)}{kf:List Nat}{id:Nat}{Q:Exit→St→Prop}(m:Nat) (hm:P.follows .mixedOrders=true) (hw:tr.wf=true) (Z:Tok P tr.flat)
  (g1:xR P tr md nat n ops.toList hs m 0 ops.toList st.e st.h st.d [] []=some (⟨J,h1,d1⟩,I,u,N))
  (g2:qK P tr md nat n ops.toList hs (a0l (ops.toList.drop I)) 1000 I (ops.toList.drop I) J h1 d1 [] u N=some res)
  (g3:uJ res (a0l (ops.toList.drop I))=some L) (ho:res.obs) (hg:res.good ops draw=true) (hq:Q .normal ⟨oG J L,h1,d1⟩):AWp ro P n kf (.region id ops draw) st Q:=by
 have hk:=aKx (P:=P) (tr:=tr) (md:=md) (nat:=nat) (n:=n) (e0:=J) _ _ _ _ _ _ _ _ _ _ g2 (fun _ _ _ h=>h);have aa:=aTj g3 hk;have O:res.all fun st'=>Sub kf ⟨oG J L,h1,d1⟩ st':=Res.all_mono (fun st h=>Sub.weak h.1 h.2.1 h.2.2) aa
 obtain⟨ab,Y⟩:=aUr (draw:=draw) hw Z _ _ _ _ _ _ _ _ _ _ rfl g2 ho hg _ O;exact aZ2 _ hm ((aFk hw Z m 0 _ st.e st.h st.d [] [] _ I u N rfl g1 ab).2 _ Y) hq
end
end Go.AM
