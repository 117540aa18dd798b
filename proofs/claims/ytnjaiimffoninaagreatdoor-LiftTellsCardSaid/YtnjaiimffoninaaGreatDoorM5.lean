/-
  Texts Am23 to Am26 in one.
-/
import Derived.Test.YtnjaiimffoninaaGreatDoorM4
import Derived.KernelRfl
open List (drop_zero map_cons take_length)
open Nat (ble_eq_true_of_le eq_of_beq_eq_true le_of_ble_eq_true zero_add)
namespace Go.AM
open Go
def frc {α:Type}:List α→Option (List α)
 | []=>some []
 | x::xs=>(frc xs).bind fun l=>some (x::l)
theorem lZ {α:Type}:∀l:List α,frc l=some l
 | []=>rfl
 | x::xs=>by simp[frc,lZ xs]
def tak {α:Type}:Nat→List α→Option (List α)
 | 0,_=>some []
 | _+1,[]=>none
 | k+1,x::xs=>(tak k xs).bind fun l=>some (x::l)
theorem tT {α:Type}:∀{k:Nat}{l r:List α},tak k l=some r→k≤l.length∧l.take k=r
 | 0,l,r,h=>by simp[tak] at h;simp[h]
 | k+1,[],r,h=>by simp[tak] at h
 | k+1,x::xs,r,h=>by
  simp only[tak,Aj] at h;obtain⟨l,h1,h2⟩:=h;cases h2;obtain⟨h3,h4⟩:=tT h1;exact⟨by simp;omega,by simp[h4]⟩
inductive Tr where
 | leaf (o:Option TI)
 | node (k:Nat) (l r:Tr)
def Tr.get:Tr→Nat→Option TI
 | .leaf o,t=>bif Nat.beq t 0 then o else none
 | .node k l r,t=>bif Nat.blt t k then l.get t else r.get (t-k)
def Tr.flat:Tr→TT
 | .leaf o=>[o]
 | .node _ l r=>l.flat++r.flat
def Tr.wf:Tr→Bool
 | .leaf _=>true
 | .node k l r=>Nat.beq k l.flat.length&&(l.wf&&r.wf)
theorem Tr.get_ok:∀{tr:Tr}{t:Nat}{i:TI},tr.wf=true→tr.get t=some i→tr.flat[t]?=some (some i)
 | .leaf o,t,i,_,h=>by
  simp only[Tr.get] at h;cases hb:Nat.beq t 0 with
  | false=>rw[hb] at h;cases h
  | true=>
   rw[hb] at h;have:=Aa hb;subst this;simp only[Bv] at h;simp[Tr.flat,h]
 | .node k l r,t,i,hw,h=>by
  simp only[Tr.wf,ζ] at hw;have hk:=Aa hw.1;simp only[Tr.get] at h;simp only[Tr.flat,B7];cases hb:Nat.blt t k with
  | true=>
   rw[hb] at h;have:t<k:=Ak hb;rw[κ (by omega)];exact Tr.get_ok hw.2.1 h
  | false=>
   rw[hb] at h;have:¬t<k:=fun q=>by
    have:Nat.blt t k=true:=Cb q;rw[hb] at this;cases this
   rw[θ (by omega),←hk];exact Tr.get_ok hw.2.2 h
def jD:List Prop→Prop
 | []=>True
 | p::l=>p∧jD l
def jK (md:Bool) (p:Prop) [Decidable p] (ob:List Prop):Option (List Prop):=bif md then some (p::ob) else bif decide p then some ob else none
theorem bB {md:Bool}{p:Prop} [Decidable p] {ob q:List Prop}(h:jK md p ob=some q):jD q→jD ob∧p:=by
 unfold jK at h;cases md with
 | true=>cases h;exact fun h=>⟨h.2,h.1⟩
 | false=>
  simp only[B0] at h;cases hp:decide p with
  | false=>rw[hp] at h;cases h
  | true=>rw[hp] at h;cases h;exact fun h=>⟨h,ψ hp⟩
inductive Hn where
 | no
 | id (n:Nat)
 | bv (b:Bool)
 | row (k:Nat) (r:List C)
 | all
 | look (r:Option (List C))
 | c (rows:List (List C))
 | byte (k:Nat) (b:UInt8)
 | pc (res:V)
 | fz
 | rr (r:List R)
 | rowR (k:Nat) (r:List R)
def aEm:List (Nat×Hn)→Nat→Hn
 | [],_=>.no
 | (k,h)::l,i=>bif Nat.beq i k then h else aEm l i
abbrev Ans:=Option (Rd×Eff×List Prop)
def Snd (P:Program) (n:Nat) (o:Oper) (st:St) (ob:List Prop) (r:Ans):Prop:=∀rd f ob',r=some (rd,f,ob')→jD ob'→jD ob∧Step P n o st rd f
def val (o:Oper) (n:Nat) (rd:Rd) (v:V) (h:List (Nat×Option AObj)) (ob:List Prop):Ans:=
 match o.dst with
 | some d=>bif Nat.blt d n then some (rd,⟨some (d,some v),h⟩,ob) else none
 | none=>none
def eff (o:Oper) (rd:Rd) (h:List (Nat×Option AObj)) (ob:List Prop):Ans:=
 match o.dst with
 | none=>some (rd,⟨none,h⟩,ob)
 | some _=>none
def opO (st:St):Operand→Option V
 | .tmp t=>st.e t
 | .const v=>match v with
  | .int k n=>some (.one (.c (.int k n)))
  | .bool b=>some (.one (.c (.bool b)))
  | .string ⟨⟨l⟩⟩=>some (.one (.c (.str l)))
  | .slice none 0 0=>some (.one (.c .nl))
  | .pointer none=>some (.one (.c .np))
  | .map none=>some (.one (.c (.zv 0)))
  | .nilFunc=>some (.one (.c (.zv 1)))
  | .nilIface=>some (.one (.c (.zv 2)))
  | _=>none
 | .func f=>some (.one (.clo f []))
 | .global _=>none
theorem dS (st:St) (x:Operand):opO st x=opv st x:=by
 cases x with
 | const v=>
  cases v with
  | string s=>obtain⟨⟨l⟩⟩:=s;rfl
  | slice a l c=>
   cases a with
   | some _=>rfl
   | none=>
    cases l with
    | zero=>cases c<;>rfl
    | succ _=>rfl
  | pointer p=>cases p<;>rfl
  | map m=>cases m<;>rfl
  | _=>rfl
 | _=>rfl
def a6y (rs:List R):Option V:=match jV rs with | some l=>some (.pa l) | none=>some (.ma rs)
theorem aSx (rs:List R):a6y rs=some (a10 rs):=by
 unfold a6y a10;cases jV rs<;>rfl
def aMh (i:TI) (rs:List R):Option V:=bif i.k.agg then a6y rs else match rs with | [r]=>some (.one r) | _=>none
theorem tB (i:TI) (rs:List R):aMh i rs=sG i rs:=by
 unfold aMh sG;cases i.k.agg
 ·rfl
 ·exact aSx rs
def aKe (i:TI) (l:List C):Option V:=bif i.k.agg then some (.pa l) else match l with | [c]=>some (.one (.c c)) | _=>none
theorem aEa (i:TI) (l:List C):aKe i l=aMi i l:=by
 unfold aKe aMi;cases i.k.agg<;>rfl
def qC (v:V):Option (List R):=(j0 v).bind frc
theorem jT (v:V):qC v=j0 v:=by
 unfold qC;cases j0 v with
 | none=>rfl
 | some l=>simp[lZ]
theorem fO {α:Type}{b:Bool}{x:Option α}{y:α}(h:(bif b then x else none)=some y):b=true∧x=some y:=by
 cases b
 ·cases h
 ·exact⟨rfl,h⟩
theorem gB {d n:Nat}(h:Nat.blt d n=true):d<n:=Ak h
theorem a2e {o:Oper}{n:Nat}{rd q:Rd}{v:V}{h:List (Nat×Option AObj)}{ob y:List Prop}{f:Eff}(e:val o n rd v h ob=some (q,f,y)):∃d,o.dst=some d∧d<n∧q=rd∧f=⟨some (d,some v),h⟩∧y=ob:=by
 unfold val at e;split at e
 ·rename_i d hd;obtain⟨h1,h2⟩:=fO e;cases h2;exact⟨d,hd,gB h1,rfl,rfl,rfl⟩
 ·cases e
theorem a4u {o:Oper}{rd q:Rd}{h:List (Nat×Option AObj)}{ob y:List Prop}{f:Eff}(e:eff o rd h ob=some (q,f,y)):o.dst=none∧q=rd∧f=⟨none,h⟩∧y=ob:=by
 unfold eff at e;split at e
 ·rename_i hd;cases e;exact⟨hd,rfl,rfl,rfl⟩
 ·cases e
theorem Snd.val {P:Program}{n:Nat}{o:Oper}{st:St}{ob q:List Prop}{rd:Rd}{v:V}{h:List (Nat×Option AObj)}(hk:∀d,o.dst=some d→d<n→jD q→jD ob∧Step P n o st rd ⟨some (d,some v),h⟩):Snd P n o st ob (Go.AM.val o n rd v h q):=by
 intro I f y e hc;obtain⟨d,h1,h2,rfl,rfl,rfl⟩:=a2e e;exact hk d h1 h2 hc
theorem Snd.eff {P:Program}{n:Nat}{o:Oper}{st:St}{ob q:List Prop}{rd:Rd}{h:List (Nat×Option AObj)}(hk:o.dst=none→jD q→jD ob∧Step P n o st rd ⟨none,h⟩):Snd P n o st ob (Go.AM.eff o rd h q):=by
 intro I f y e hc;obtain⟨h1,rfl,rfl,rfl⟩:=a4u e;exact hk h1 hc
theorem Snd.none {P:Program}{n:Nat}{o:Oper}{st:St}{ob:List Prop}:Snd P n o st ob none:=by
 intro rd f q e;cases e
theorem Snd.bind {P:Program}{n:Nat}{o:Oper}{st:St}{ob:List Prop}{α:Type}{x:Option α}{k:α→Ans}(h:∀y,x=some y→Snd P n o st ob (k y)):Snd P n o st ob (x.bind k):=by
 intro rd f q e;rw[Aj] at e;obtain⟨y,h1,h2⟩:=e;exact h y h1 rd f q h2
theorem Snd.cond {P:Program}{n:Nat}{o:Oper}{st:St}{ob:List Prop}{b:Bool}{r:Ans}(h:b=true→Snd P n o st ob r):Snd P n o st ob (bif b then r else Option.none):=by
 cases b
 ·exact Snd.none
 ·exact h rfl
section
variable {P:Program}{n:Nat}{o:Oper}{st:St}{ob:List Prop}{tr:Tr}{md:Bool}
def aLa (o:Oper) (n:Nat) (st:St) (ob:List Prop) (x:Operand):Ans:=(opO st x).bind fun y=>val o n ⟨opr x,[]⟩ y [] ob
theorem aSc {x:Operand}(I:o.op=.move x):Snd P n o st ob (aLa o n st ob x):=
 Snd.bind fun y J=>Snd.val fun _ hd q hc=>⟨hc,a3j I hd q (by rw[←dS];exact J)⟩
theorem aHy {x:Operand}(I:o.op=.assign x):Snd P n o st ob (aLa o n st ob x):=
 Snd.bind fun y J=>Snd.val fun _ hd q hc=>⟨hc,aUf I hd q (by rw[←dS];exact J)⟩
def aTp (hn:Hn) (b:Bool) (ob:List Prop):Bool×List Prop:=match hn with
 | .bv w=>(w,(b=w)::ob)
 | _=>match b with
  | true=>(true,ob)
  | false=>(false,ob)
theorem sM {hn:Hn}{b w:Bool}{ob q:List Prop}(h:aTp hn b ob=(w,q)):jD q→jD ob∧b=w:=by
 unfold aTp at h;split at h
 ·cases h;exact fun h=>⟨h.2,h.1⟩
 ·cases b<;>(cases h;exact fun h=>⟨h,rfl⟩)
def aYf (o:Oper) (n:Nat) (st:St) (ob:List Prop) (hn:Hn) (c x y:Operand):Ans:=(opO st c).bind fun v=>match v with
 | .one (.c (.bool b))=>match aTp hn b ob with
  | (true,ob')=>(opO st x).bind fun z=>val o n ⟨opr c++opr x,[]⟩ z [] ob'
  | (false,ob')=>(opO st y).bind fun z=>val o n ⟨opr c++opr y,[]⟩ z [] ob'
 | _=>none
theorem aSa {hn:Hn}{c x y:Operand}(J:o.op=.pick c x y):Snd P n o st ob (aYf o n st ob hn c x y):=by
 refine Snd.bind fun v I=>?_
 rw[dS] at I;split
 ·rename_i b;split
  ·rename_i O ht;refine Snd.bind fun z hz=>Snd.val fun _ hd q hc=>?_
   rw[dS] at hz;obtain⟨h1,h2⟩:=sM ht hc;exact⟨h1,aT8 J hd q I h2 hz⟩
  ·rename_i O ht;refine Snd.bind fun z hz=>Snd.val fun _ hd q hc=>?_
   rw[dS] at hz;obtain⟨h1,h2⟩:=sM ht hc;exact⟨h1,aT9 J hd q I h2 hz⟩
 ·exact Snd.none
def aFs (o:Oper) (n:Nat) (st:St) (ob:List Prop) (x:Operand) (i:Nat):Ans:=(opO st x).bind fun v=>match v with
 | .tup l=>(l[i]?).bind fun z=>val o n ⟨opr x,[]⟩ z [] ob
 | _=>none
theorem aFr {x:Operand}{i:Nat}(I:o.op=.extract x i):Snd P n o st ob (aFs o n st ob x i):=by
 refine Snd.bind fun v q=>?_
 rw[dS] at q;split
 ·exact Snd.bind fun z hz=>Snd.val fun _ hd y hc=>⟨hc,aOn I hd y q hz⟩
 ·exact Snd.none
def aSm (tr:Tr) (o:Oper) (n:Nat) (st:St) (ob:List Prop) (id:Nat) (t:TypeId):Ans:=(tr.get t).bind fun i=>(frc (i.zero.map R.c)).bind fun z=>match st.h id with
 | none=>val o n ⟨[],[id]⟩ (.one (.vp id 0)) [(id,some (.var t z))] ob
 | some _=>none
theorem aM6 {id:Nat}{t:TypeId}(hw:tr.wf=true) (y:Tok P tr.flat) (I:o.op=.alloc t):Snd P n o st ob (aSm tr o n st ob id t):=by
 refine Snd.bind fun i hi=>Snd.bind fun z hz=>?_
 rw[lZ] at hz;cases hz;split
 ·rename_i hid;exact Snd.val fun _ hd q hc=>⟨hc,aZk id y I hd q (Tr.get_ok hw hi) hid⟩
 ·exact Snd.none
def a5w (o:Oper) (n:Nat) (st:St) (ob:List Prop) (id:Nat) (t:TypeId) (x:Operand):Ans:=(opO st x).bind fun v=>(qC v).bind fun rs=>match st.h id with
 | none=>val o n ⟨opr x,[id]⟩ (.one (.vp id 0)) [(id,some (.var t rs))] ob
 | some _=>none
theorem aWg {id:Nat}{t:TypeId}{x:Operand}(J:o.op=.box t x):Snd P n o st ob (a5w o n st ob id t x):=by
 refine Snd.bind fun v y=>Snd.bind fun rs q=>?_
 rw[dS] at y;rw[jT] at q;split
 ·rename_i hid;exact Snd.val fun _ hd I hc=>⟨hc,a7k id J hd I y q hid⟩
 ·exact Snd.none
def a05 (tr:Tr) (o:Oper) (n:Nat) (st:St) (ob:List Prop) (id:Nat) (t:TypeId) (r:Option Operand):Ans:=match r with
 | some _=>none
 | none=>(tr.get t).bind fun i=>match i.k with
  | .mp _ e=>(tr.get e).bind fun ei=>match st.h id with
   | none=>val o n ⟨[],[id]⟩ (.one (.mr id)) [(id,some (.map ei.k.agg []))] ob
   | some _=>none
  | _=>none
theorem aWc {id:Nat}{t:TypeId}{r:Option Operand}(y:o.op=.makeMap t r):Snd P n o st ob (a05 tr o n st ob id t r):=by
 unfold a05;split
 ·exact Snd.none
 ·refine Snd.bind fun i hi=>?_
  split
  ·refine Snd.bind fun ei I=>?_
   split
   ·rename_i hid;exact Snd.val fun _ hd q hc=>⟨hc,aC3 id _ y hd q hid⟩
   ·exact Snd.none
  ·exact Snd.none
def a2x (hn:Hn) (elems:List (List C)) (k:Nat) (ob:List Prop):Option (List C×List Prop):=match hn with
 | .row _ r=>some (r,(elems[k]?=some r)::ob)
 | _=>match elems[k]? with
  | some r=>some (r,ob)
  | none=>none
theorem aGo {hn:Hn}{elems:List (List C)}{k:Nat}{ob q:List Prop}{r:List C}(h:a2x hn elems k ob=some (r,q)):jD q→jD ob∧elems[k]?=some r:=by
 unfold a2x at h;split at h
 ·cases h;exact fun h=>⟨h.2,h.1⟩
 ·split at h
  ·rename_i h1;cases h;exact fun h=>⟨h,h1⟩
  ·cases h
def aT1 (hn:Hn) (elems:List (List R)) (k:Nat) (ob:List Prop):Option (List R×List Prop):=match hn with
 | .rr r=>some (r,(elems[k]?=some r)::ob)
 | _=>match elems[k]? with
  | some r=>some (r,ob)
  | none=>none
theorem aI6 {hn:Hn}{elems:List (List R)}{k:Nat}{ob q:List Prop}{r:List R}(h:aT1 hn elems k ob=some (r,q)):jD q→jD ob∧elems[k]?=some r:=by
 unfold aT1 at h;split at h
 ·cases h;exact fun h=>⟨h.2,h.1⟩
 ·split at h
  ·rename_i h1;cases h;exact fun h=>⟨h,h1⟩
  ·cases h
def aYg (tr:Tr) (md:Bool) (o:Oper) (n:Nat) (st:St) (ob:List Prop) (hn:Hn) (t:TypeId) (x:Operand):Ans:=(tr.get t).bind fun i=>(opO st x).bind fun v=>match v with
 | .one (.vp id off)=>match st.h id with
  | some (.var _ cells)=>bif Nat.ble (off+i.size) cells.length then(tak i.size (cells.drop off)).bind fun rs=>(aMh i rs).bind fun y=>val o n ⟨opr x,[id]⟩ y [] ob else none
  | _=>none
 | .one (.c (.pt l))=>(tak i.size l).bind fun cs=>(aKe i cs).bind fun y=>val o n ⟨opr x,[]⟩ y [] ob
 | .one (.pas l)=>(tak i.size l).bind fun cs=>(aMh i cs).bind fun y=>val o n ⟨opr x,[]⟩ y [] ob
 | .one (.ep id k fo sz)=>match st.h id with
  | some (.arr _ es elems _)=>(jK md (sz=elems.length) ob).bind fun ob1=>(a2x hn elems k ob1).bind fun(r,ob2)=>
   bif Nat.ble (fo+i.size) es then(tak i.size (r.drop fo)).bind fun cs=>(aKe i cs).bind fun y=>val o n ⟨opr x,[id]⟩ y [] ob2 else none
  | _=>none
 | .one (.rp id k fo sz)=>match st.h id with
  | some (.rarr _ es elems)=>(jK md (sz=elems.length) ob).bind fun ob1=>(aT1 hn elems k ob1).bind fun(r,ob2)=>
   bif Nat.ble (fo+i.size) es then(tak i.size (r.drop fo)).bind fun cs=>(aMh i cs).bind fun y=>val o n ⟨opr x,[id]⟩ y [] ob2 else none
  | _=>none
 | _=>none
theorem aSd {hn:Hn}{t:TypeId}{x:Operand}(hw:tr.wf=true) (Y:Tok P tr.flat) (Z:o.op=.load t x):Snd P n o st ob (aYg tr md o n st ob hn t x):=by
 refine Snd.bind fun i hi=>Snd.bind fun v O=>?_
 rw[dS] at O
 replace hi:=Tr.get_ok hw hi
 split
 ·rename_i id off;split
  ·rename_i tv cells hh;refine Snd.cond fun hb=>Snd.bind fun rs aa=>Snd.bind fun y q=>Snd.val fun _ hd I hc=>⟨hc,?_⟩
   obtain⟨h1,h2⟩:=tT aa;rw[tB,←h2] at q;exact a3k Y Z hd I hi O hh hb q
  ·exact Snd.none
 ·rename_i l;refine Snd.bind fun cs J=>Snd.bind fun y q=>Snd.val fun _ hd I hc=>⟨hc,?_⟩
  obtain⟨h1,h2⟩:=tT J;rw[aEa,←h2] at q;exact aOi Y Z hd I hi O h1 q
 ·rename_i l;refine Snd.bind fun cs J=>Snd.bind fun y q=>Snd.val fun _ hd I hc=>⟨hc,?_⟩
  obtain⟨h1,h2⟩:=tT J;rw[tB,←h2] at q;exact aL1 Y Z hd I hi O h1 q
 ·rename_i id k fo sz;split
  ·rename_i te es elems fz hh;refine Snd.bind fun ab h1=>Snd.bind fun p h2=>?_
   obtain⟨r,ac⟩:=p;refine Snd.cond fun h3=>Snd.bind fun cs J=>Snd.bind fun y q=>Snd.val fun _ hd I hc=>?_
   obtain⟨g1,g2⟩:=aGo h2 hc;obtain⟨g3,g4⟩:=bB h1 g1;obtain⟨h4,h5⟩:=tT J;rw[aEa,←h5] at q;exact⟨g3,aOj Y Z hd I hi O hh g4 g2 (Ak h3) q⟩
  ·exact Snd.none
 ·rename_i id k fo sz;split
  ·rename_i te es elems hh;refine Snd.bind fun ab h1=>Snd.bind fun p h2=>?_
   obtain⟨r,ac⟩:=p;refine Snd.cond fun h3=>Snd.bind fun cs J=>Snd.bind fun y q=>Snd.val fun _ hd I hc=>?_
   obtain⟨g1,g2⟩:=aI6 h2 hc;obtain⟨g3,g4⟩:=bB h1 g1;obtain⟨h4,h5⟩:=tT J;rw[tB,←h5] at q;exact⟨g3,aOh Y Z hd I hi O hh g4 g2 (Ak h3) q⟩
  ·exact Snd.none
 ·exact Snd.none
def a1u {α:Type}(l:List α) (off:Nat) (new:List α):Option (List α):=frc (cV l off new)
def aR7 (tr:Tr) (md:Bool) (o:Oper) (st:St) (ob:List Prop) (hn:Hn) (t:TypeId) (x y:Operand):Ans:=(tr.get t).bind fun i=>(opO st x).bind fun v=>(opO st y).bind fun u=>(qC u).bind fun rs=>bif Nat.beq rs.length i.size then(match v with
 | .one (.vp id off)=>match st.h id with
  | some (.var tv cells)=>bif Nat.ble (off+i.size) cells.length then(a1u cells off rs).bind fun cs=>eff o ⟨opr x++opr y,[id]⟩ [(id,some (.var tv cs))] ob else none
  | _=>none
 | .one (.ep id k fo sz)=>match st.h id with
  | some (.arr te es elems 0)=>(jV rs).bind fun cs=>(jK md (sz=elems.length) ob).bind fun ob1=>(a2x hn elems k ob1).bind fun(r,ob2)=>
   bif Nat.ble (fo+i.size) es then(a1u r fo cs).bind fun r'=>eff o ⟨opr x++opr y,[id]⟩ [(id,some (.arr te es (elems.set k r') 0))] ob2 else none
  | _=>none
 | .one (.rp id k fo sz)=>match st.h id with
  | some (.rarr te es elems)=>(jK md (sz=elems.length) ob).bind fun ob1=>(aT1 hn elems k ob1).bind fun(r,ob2)=>
   bif Nat.ble (fo+i.size) es then(a1u r fo rs).bind fun r'=>eff o ⟨opr x++opr y,[id]⟩ [(id,some (.rarr te es (elems.set k r')))] ob2 else none
  | _=>none
 | _=>none) else none
theorem aM0 {hn:Hn}{t:TypeId}{x y:Operand}(hw:tr.wf=true) (Z:Tok P tr.flat) (ho:o.op=.store t x y):Snd P n o st ob (aR7 tr md o st ob hn t x y):=by
 refine Snd.bind fun i hi=>Snd.bind fun v Y=>Snd.bind fun u hu=>Snd.bind fun rs J=>Snd.cond fun hl=>?_
 rw[dS] at Y hu;rw[jT] at J
 replace hi:=Tr.get_ok hw hi
 have O:=Aa hl;split
 ·rename_i id off;split
  ·rename_i tv cells hh;refine Snd.cond fun hb=>Snd.bind fun cs I=>Snd.eff fun hd hc=>⟨hc,?_⟩
   unfold a1u at I;rw[lZ] at I;cases I;exact aZb Z ho hd hi Y hu J hh O hb
  ·exact Snd.none
 ·rename_i id k fo sz;split
  ·rename_i te es elems hh;refine Snd.bind fun cs I=>Snd.bind fun ob1 h1=>Snd.bind fun p h2=>?_
   obtain⟨r,ob2⟩:=p;refine Snd.cond fun h3=>Snd.bind fun r' q=>Snd.eff fun hd hc=>?_
   obtain⟨g1,g2⟩:=aGo h2 hc;obtain⟨g3,g4⟩:=bB h1 g1;unfold a1u at q;rw[lZ] at q;cases q;refine⟨g3,aLx Z ho hd hi Y hu J I hh g4 g2 ?_ (Ak h3)⟩;have:=pC I;rw[this] at O;simpa using O
  ·exact Snd.none
 ·rename_i id k fo sz;split
  ·rename_i te es elems hh;refine Snd.bind fun ob1 h1=>Snd.bind fun p h2=>?_
   obtain⟨r,ob2⟩:=p;refine Snd.cond fun h3=>Snd.bind fun r' q=>Snd.eff fun hd hc=>?_
   obtain⟨g1,g2⟩:=aI6 h2 hc;obtain⟨g3,g4⟩:=bB h1 g1;unfold a1u at q;rw[lZ] at q;cases q;exact⟨g3,aLw Z ho hd hi Y hu J hh g4 g2 O (Ak h3)⟩
  ·exact Snd.none
 ·exact Snd.none
def vY (tr:Tr) (md:Bool) (o:Oper) (n:Nat) (st:St) (ob:List Prop) (t:TypeId) (x:Operand) (f:Nat):Ans:=(tr.get t).bind fun i=>match i.k with
 | .st fs=>(fs[f]?).bind fun(foff,ft)=>(tr.get ft).bind fun fi=>bif Nat.ble 1 fi.size then((opO st x).bind fun v=>match v with
  | .one (.vp id off)=>val o n ⟨opr x,[]⟩ (.one (.vp id (off+foff))) [] ob
  | .one (.c (.pt l))=>val o n ⟨opr x,[]⟩ (.one (.c (.pt (l.drop foff)))) [] ob
  | .one (.pas l)=>val o n ⟨opr x,[]⟩ (.one (.pas (l.drop foff))) [] ob
  | .one (.ep id k fo sz)=>match st.h id with
   | some (.arr _ _ elems _)=>(jK md (sz=elems.length) ob).bind fun ob1=>val o n ⟨opr x,[id]⟩ (.one (.ep id k (fo+foff) sz)) [] ob1
   | _=>none
  | .one (.rp id k fo sz)=>match st.h id with
   | some (.rarr _ _ elems)=>(jK md (sz=elems.length) ob).bind fun ob1=>val o n ⟨opr x,[id]⟩ (.one (.rp id k (fo+foff) sz)) [] ob1
   | _=>none
  | _=>none) else none
 | _=>none
theorem wU {t:TypeId}{x:Operand}{f:Nat}(hw:tr.wf=true) (O:Tok P tr.flat) (Y:o.op=.fieldAddr t x f):Snd P n o st ob (vY tr md o n st ob t x f):=by
 refine Snd.bind fun i hi=>?_
 replace hi:=Tr.get_ok hw hi
 split
 ·rename_i fs hk;refine Snd.bind fun p Z=>?_
  obtain⟨ab,ft⟩:=p;refine Snd.bind fun fi y=>Snd.cond fun hz=>Snd.bind fun v J=>?_
  replace y:=Tr.get_ok hw y
  have I:fi.size≠0:=by have:=Ak hz;omega
  rw[dS] at J;split
  ·exact Snd.val fun _ hd q hc=>⟨hc,aL3 O Y hd q hi hk Z y I J⟩
  ·exact Snd.val fun _ hd q hc=>⟨hc,aL5 O Y hd q hi hk Z y I J⟩
  ·exact Snd.val fun _ hd q hc=>⟨hc,aGs O Y hd q hi hk Z y I J⟩
  ·split
   ·rename_i hh;exact Snd.bind fun aa h1=>Snd.val fun _ hd q hc=>⟨(bB h1 hc).1,aL6 O Y hd q hi hk Z y I J hh (bB h1 hc).2⟩
   ·exact Snd.none
  ·split
   ·rename_i hh;exact Snd.bind fun aa h1=>Snd.val fun _ hd q hc=>⟨(bB h1 hc).1,aL4 O Y hd q hi hk Z y I J hh (bB h1 hc).2⟩
   ·exact Snd.none
  ·exact Snd.none
 ·exact Snd.none
def aSh (tr:Tr) (o:Oper) (n:Nat) (st:St) (ob:List Prop) (t:TypeId) (x:Operand) (f:Nat):Ans:=(tr.get t).bind fun i=>match i.k with
 | .st fs=>(fs[f]?).bind fun(foff,ft)=>(tr.get ft).bind fun fi=>(opO st x).bind fun v=>(qC v).bind fun rs=>
  bif (match v with | .pa _=>true | .ma _=>true | _=>false) then bif Nat.ble (foff+fi.size) rs.length then(tak fi.size (rs.drop foff)).bind fun l=>(aMh fi l).bind fun y=>val o n ⟨opr x,[]⟩ y [] ob else none else none
 | _=>none
theorem aM4 {t:TypeId}{x:Operand}{f:Nat}(hw:tr.wf=true) (hT:Tok P tr.flat) (ho:o.op=.field t x f):Snd P n o st ob (aSh tr o n st ob t x f):=by
 refine Snd.bind fun i hi=>?_
 replace hi:=Tr.get_ok hw hi
 split
 ·rename_i fs hk;refine Snd.bind fun p hf=>?_
  obtain⟨foff,ft⟩:=p;refine Snd.bind fun fi q=>Snd.bind fun v J=>Snd.bind fun rs I=>Snd.cond fun O=>Snd.cond fun hl=>Snd.bind fun l Y=>Snd.bind fun y Z=>?_
  replace q:=Tr.get_ok hw q
  rw[dS] at J;rw[jT] at I;rw[tB,←(tT Y).2] at Z;exact Snd.val fun _ hd aa hc=>⟨hc,aZe hT ho hd aa hi hk hf q J (by cases v<;>first | rfl | exact O) I hl Z⟩
 ·exact Snd.none
def atO (hn:Hn) (m:Int) (ob:List Prop):Option (Nat×List Prop):=match hn with
 | .row k _=>some (k,(m=(k:Int))::ob)
 | .rowR k _=>some (k,(m=(k:Int))::ob)
 | _=>match m with
  | .ofNat k=>some (k,ob)
  | .negSucc _=>none
theorem yU {hn:Hn}{m:Int}{k:Nat}{ob q:List Prop}(h:atO hn m ob=some (k,q)):jD q→jD ob∧m=(k:Int):=by
 unfold atO at h;split at h
 ·cases h;exact fun h=>⟨h.2,h.1⟩
 ·cases h;exact fun h=>⟨h.2,h.1⟩
 ·split at h
  ·cases h;exact fun h=>⟨h,rfl⟩
  ·cases h
def a6z (a b:Nat):Option Nat:=match a with
 | 0=>some b
 | a+1=>some (a+1+b)
theorem aSy {a b c:Nat}(h:a6z a b=some c):a+b=c:=by
 unfold a6z at h;split at h<;>cases h
 ·exact Be _
 ·rfl
def vW (tr:Tr) (md:Bool) (o:Oper) (n:Nat) (st:St) (ob:List Prop) (hn:Hn) (t:TypeId) (x y:Operand):Ans:=(tr.get t).bind fun i=>match i.k with
 | .sl e=>(tr.get e).bind fun ei=>(opO st x).bind fun v=>(opO st y).bind fun u=>match u with
  | .one (.c (.int _ m))=>(atO hn m ob).bind fun(k,ob1)=>match v with
   | .one (.c (.sl es l))=>bif Nat.beq ei.size es then(a2x hn l k ob1).bind fun(r,ob2)=>val o n ⟨opr x++opr y,[]⟩ (.one (.c (.pt r))) [] ob2 else none
   | .one (.hs id off len sz)=>match st.h id with
    | some (.arr _ es elems _)=>bif Nat.beq ei.size es then(jK md (sz=elems.length) ob1).bind fun ob2=>(jK md (k<len) ob2).bind fun ob3=>(a6z off k).bind fun j=>val o n ⟨opr x++opr y,[id]⟩ (.one (.ep id j 0 sz)) [] ob3 else none
    | _=>none
   | .one (.ra id off len sz)=>match st.h id with
    | some (.rarr _ es elems)=>bif Nat.beq ei.size es then(jK md (sz=elems.length) ob1).bind fun ob2=>(jK md (k<len) ob2).bind fun ob3=>(a6z off k).bind fun j=>val o n ⟨opr x++opr y,[id]⟩ (.one (.rp id j 0 sz)) [] ob3 else none
    | _=>none
   | .one (.ras n' es l)=>bif Nat.beq ei.size es then(jK md (k<n') ob1).bind fun ob2=>match hn with
    | .rowR _ r=>val o n ⟨opr x++opr y,[]⟩ (.one (.pas r)) [] (((l.drop (k*es)).take es=r)::ob2)
    | _=>(frc ((l.drop (k*es)).take es)).bind fun r=>val o n ⟨opr x++opr y,[]⟩ (.one (.pas r)) [] ob2 else none
   | _=>none
  | _=>none
 | .ar m' e=>(tr.get e).bind fun ei=>(opO st x).bind fun v=>(opO st y).bind fun u=>match u with
  | .one (.c (.int _ m))=>(atO hn m ob).bind fun(k,ob1)=>match v with
   | .one (.vp id off)=>(jK md (k<m') ob1).bind fun ob2=>val o n ⟨opr x++opr y,[]⟩ (.one (.vp id (off+k*ei.size))) [] ob2
   | _=>none
  | _=>none
 | _=>none
theorem wT {hn:Hn}{t:TypeId}{x y:Operand}(hw:tr.wf=true) (Z:Tok P tr.flat) (ho:o.op=.indexAddr t x y):Snd P n o st ob (vW tr md o n st ob hn t x y):=by
 refine Snd.bind fun i hi=>?_
 replace hi:=Tr.get_ok hw hi
 split
 ·rename_i e hk;refine Snd.bind fun ei q=>Snd.bind fun v O=>Snd.bind fun u hu=>?_
  replace q:=Tr.get_ok hw q
  rw[dS] at O hu;split
  ·rename_i kk m;refine Snd.bind fun p hp=>?_
   obtain⟨k,ob1⟩:=p;dsimp only;split
   ·rename_i es l;refine Snd.cond fun J=>Snd.bind fun p h2=>?_
    obtain⟨r,Y⟩:=p;refine Snd.val fun _ hd I hc=>?_
    obtain⟨g1,g2⟩:=aGo h2 hc;obtain⟨g3,g4⟩:=yU hp g1;exact⟨g3,aZd Z ho hd I hi hk q (Aa J) O hu g4 g2⟩
   ·rename_i id off len sz;split
    ·rename_i te es elems fz hh;refine Snd.cond fun J=>Snd.bind fun Y h2=>Snd.bind fun ob3 h3=>Snd.bind fun j hj=>Snd.val fun _ hd I hc=>?_
     have hj:=aSy hj;subst hj;obtain⟨g1,g2⟩:=bB h3 hc;obtain⟨g3,g4⟩:=bB h2 g1;obtain⟨g5,g6⟩:=yU hp g3;exact⟨g5,xK Z ho hd I hi hk q (Aa J) O hh g4 hu g6 g2⟩
    ·exact Snd.none
   ·rename_i id off len sz;split
    ·rename_i te es elems hh;refine Snd.cond fun J=>Snd.bind fun Y h2=>Snd.bind fun ob3 h3=>Snd.bind fun j hj=>Snd.val fun _ hd I hc=>?_
     have hj:=aSy hj;subst hj;obtain⟨g1,g2⟩:=bB h3 hc;obtain⟨g3,g4⟩:=bB h2 g1;obtain⟨g5,g6⟩:=yU hp g3;exact⟨g5,aL2 Z ho hd I hi hk q (Aa J) O hh g4 hu g6 g2⟩
    ·exact Snd.none
   ·rename_i n' es l;refine Snd.cond fun J=>Snd.bind fun Y h2=>?_
    have J:=Aa J;split
    ·refine Snd.val fun _ hd I hc=>?_
     obtain⟨c1,c2⟩:=hc;obtain⟨g1,g2⟩:=bB h2 c2;obtain⟨g3,g4⟩:=yU hp g1;exact⟨g3,uA Z ho hd I hi hk q J O hu g4 g2 c1⟩
    ·refine Snd.bind fun r hr=>Snd.val fun _ hd I hc=>?_
     rw[lZ] at hr;cases hr;obtain⟨g1,g2⟩:=bB h2 hc;obtain⟨g3,g4⟩:=yU hp g1;exact⟨g3,uA Z ho hd I hi hk q J O hu g4 g2 rfl⟩
   ·exact Snd.none
  ·exact Snd.none
 ·rename_i m' e hk;refine Snd.bind fun ei q=>Snd.bind fun v O=>Snd.bind fun u hu=>?_
  replace q:=Tr.get_ok hw q
  rw[dS] at O hu;split
  ·rename_i kk m;refine Snd.bind fun p hp=>?_
   obtain⟨k,ob1⟩:=p;dsimp only;split
   ·rename_i id off;refine Snd.bind fun Y h2=>Snd.val fun _ hd I hc=>?_
    obtain⟨g1,g2⟩:=bB h2 hc;obtain⟨g3,g4⟩:=yU hp g1;exact⟨g3,aGr Z ho hd I hi hk q O hu g4 g2⟩
   ·exact Snd.none
  ·exact Snd.none
 ·exact Snd.none
def a5u (md:Bool) (o:Oper) (n:Nat) (st:St) (ob:List Prop) (x:Operand):Ans:=(opO st x).bind fun v=>match v with
 | .one (.ep id k fo sz)=>match st.h id with
  | some (.arr _ _ elems _)=>(jK md (sz=elems.length) ob).bind fun ob1=>val o n ⟨opr x,[id]⟩ (.one (.ep id k fo sz)) [] ob1
  | _=>none
 | .one (.rp id k fo sz)=>match st.h id with
  | some (.rarr _ _ elems)=>(jK md (sz=elems.length) ob).bind fun ob1=>val o n ⟨opr x,[id]⟩ (.one (.rp id k fo sz)) [] ob1
  | _=>none
 | v=>bif notNil v then val o n ⟨opr x,[]⟩ v [] ob else none
theorem aWb {x:Operand}(I:o.op=.nilCheck x):Snd P n o st ob (a5u md o n st ob x):=by
 refine Snd.bind fun v y=>?_
 rw[dS] at y;split
 ·split
  ·rename_i hh;exact Snd.bind fun J h1=>Snd.val fun _ hd q hc=>⟨(bB h1 hc).1,zZ I hd q y hh (bB h1 hc).2⟩
  ·exact Snd.none
 ·split
  ·rename_i hh;exact Snd.bind fun J h1=>Snd.val fun _ hd q hc=>⟨(bB h1 hc).1,zY I hd q y hh (bB h1 hc).2⟩
  ·exact Snd.none
 ·exact Snd.cond fun h=>Snd.val fun _ hd q hc=>⟨hc,aLy I hd q y h⟩
def uE (tr:Tr):List (Nat×TypeId)→Option (List (Nat×Nat))
 | []=>some []
 | (off,t)::fs=>(tr.get t).bind fun i=>(uE tr fs).bind fun l=>some ((off,i.size)::l)
theorem xN {tr:Tr}(hw:tr.wf=true):∀{fs:List (Nat×TypeId)}{l:List (Nat×Nat)},uE tr fs=some l→mM tr.flat fs=some l
 | [],l,h=>by simpa [uE,mM] using h
 | (off,t)::fs,l,h=>by
  simp only[uE,Aj] at h;obtain⟨i,hi,l',q,h⟩:=h;simp only[mM,Tr.get_ok hw hi,xN hw q,h]
def aJo (st:St):List (Nat×Operand)→Option (List (Nat×List R))
 | []=>some []
 | (i,x)::ps=>(opO st x).bind fun v=>(qC v).bind fun rs=>(aJo st ps).bind fun l=>some ((i,rs)::l)
theorem aDe (st:St):∀ps:List (Nat×Operand),aJo st ps=rV st ps
 | []=>rfl
 | (i,x)::ps=>by
  simp only[aJo,rV,dS,jT,aDe st ps];cases opv st x with
  | none=>rfl
  | some v=>
   simp only[Cr];cases j0 v with
   | none=>rfl
   | some rs=>
    simp only[Cr];cases rV st ps<;>rfl
def aVu (st:St):List Operand→Option (List R)
 | []=>some []
 | x::xs=>(opO st x).bind fun v=>match v with
  | .one r=>(aVu st xs).bind fun l=>some (r::l)
  | _=>none
theorem aKz (st:St):∀xs:List Operand,aVu st xs=aE7 st xs
 | []=>rfl
 | x::xs=>by
  simp only[aVu,aE7,dS,aKz st xs];cases opv st x with
  | none=>rfl
  | some v=>
   simp only[Cr];cases v<;>try rfl
   cases aE7 st xs<;>rfl
def aSl (tr:Tr) (o:Oper) (n:Nat) (st:St) (ob:List Prop) (t:TypeId) (parts:Array (Nat×Operand)):Ans:=(tr.get t).bind fun i=>match i.k with
 | .st fs=>(uE tr fs).bind fun places=>(aJo st parts.toList).bind fun ps=>(aMo places (i.zero.map R.c) ps).bind fun out=>(frc out).bind fun out=>(a6y out).bind fun y=>val o n ⟨iG parts.toList,[]⟩ y [] ob
 | _=>none
theorem aM5 {t:TypeId}{parts:Array (Nat×Operand)}(hw:tr.wf=true) (Z:Tok P tr.flat) (ho:o.op=.build t parts):Snd P n o st ob (aSl tr o n st ob t parts):=by
 refine Snd.bind fun i hi=>?_
 replace hi:=Tr.get_ok hw hi
 split
 ·rename_i fs hk;refine Snd.bind fun places q=>Snd.bind fun ps I=>Snd.bind fun out hf=>Snd.bind fun out' J=>Snd.bind fun y O=>Snd.val fun _ hd Y hc=>⟨hc,?_⟩
  replace q:=xN hw q
  rw[aDe] at I;rw[lZ] at J;cases J;rw[aSx] at O;cases O;exact aZj Z ho hd Y hi hk q I hf
 ·exact Snd.none
def qD (tr:Tr):Nat→List TypeId→List Nat
 | 0,_=>[]
 | _+1,[]=>[]
 | f+1,t::ts=>match tr.get t with
  | some i=>match i.k with
   | .sl e=>match tr.get e with
    | some ei=>(ei.size+1)::qD tr f ts
    | none=>0::qD tr f ts
   | .st fs=>qD tr f (fs.map (·.2)++ts)
   | _=>0::qD tr f ts
  | none=>0::qD tr f ts
def nrm:List Nat→List C→List C
 | _,[]=>[]
 | [],cs=>cs
 | 0::es,c::cs=>c::nrm es cs
 | (e+1)::es,c::cs=>(match c with | .nl=>.sl e [] | c=>c)::nrm es cs
theorem nN {h:dD}:∀(es:List Nat) (cs:List C),PureL h [] (cs.map R.c) (nrm es cs)
 | es,[]=>by cases es<;>exact .nil
 | [],c::cs=>.of_pure
 | 0::es,c::cs=>.c .refl (nN es cs)
 | (e+1)::es,c::cs=>by
  simp only[nrm,At];split
  ·exact .c .nl (nN es cs)
  ·exact .c .refl (nN es cs)
def aNb:List Nat→List C→Option (List C)
 | _,[]=>some []
 | [],cs=>frc cs
 | 0::es,c::cs=>(aNb es cs).bind fun l=>some (c::l)
 | (e+1)::es,c::cs=>match c with
  | .nl=>(aNb es cs).bind fun l=>some (.sl e []::l)
  | c=>(aNb es cs).bind fun l=>some (c::l)
theorem uN:∀(es:List Nat) (cs:List C),aNb es cs=some (nrm es cs)
 | es,[]=>by cases es with
  | nil=>simp[aNb,nrm]
  | cons e es=>cases e<;>simp[aNb,nrm]
 | [],c::cs=>by simp[aNb,nrm,lZ]
 | 0::es,c::cs=>by simp[aNb,nrm,uN es cs]
 | (e+1)::es,c::cs=>by
  simp only[aNb,nrm,uN es cs,Cr];split<;>rfl
def aN9 (st:St) (tys:List Nat) (es:Nat):Nat→List (Nat×Operand)→Option (List (List C))
 | _,[]=>some []
 | k,(i,x)::ps=>bif Nat.beq i k then(opO st x).bind fun v=>(qC v).bind fun rs=>(jV rs).bind fun cs=>bif Nat.beq rs.length es then(aNb tys cs).bind fun cs=>(aN9 st tys es (k+1) ps).bind fun l=>some (cs::l) else none else none
theorem aI5 {st:St}{tys:List Nat}{es:Nat}:∀{ps:List (Nat×Operand)}{k:Nat}{l:List (List C)},aN9 st tys es k ps=some l→RowsV st es k [] ps l
 | [],k,l,h=>by simp[aN9] at h;subst h;exact .nil
 | (i,x)::ps,k,l,h=>by
  simp only[aN9] at h;obtain⟨h0,h⟩:=fO h;have:=Aa h0;subst this;rw[Aj] at h;obtain⟨v,I,h⟩:=h;rw[Aj] at h;obtain⟨rs,y,h⟩:=h;rw[Aj] at h;obtain⟨cs,J,h⟩:=h;obtain⟨hl,h⟩:=fO h;rw[Aj] at h;obtain⟨Y,q,h⟩:=h;rw[uN] at q;cases q;rw[Aj] at h;obtain⟨l',O,h⟩:=h;cases h;rw[dS] at I;rw[jT] at y;have hp:PureL st.h [] rs (nrm tys cs):=by rw[pC J];exact nN tys cs
  exact .cons (ids:=[]) I y hp hl (aI5 O)
def aR8 (tr:Tr) (o:Oper) (n:Nat) (st:St) (ob:List Prop) (hn:Hn) (id:Nat) (t:TypeId) (len:Nat) (parts:Array (Nat×Operand)):Ans:=(tr.get t).bind fun i=>match i.k with
 | .sl e=>(tr.get e).bind fun ei=>bif Nat.beq len parts.size&&(Nat.ble (len*ei.size) 16777216&&Nat.ble len 16777216) then(match st.h id with
  | none=>match aN9 st (qD tr 300 [e]) ei.size 0 parts.toList with
   | some rows=>match hn with
    | .all=>val o n ⟨iG parts.toList,[id]⟩ (.one (.c (.sl ei.size rows))) [(id,some (.arr e ei.size rows 2))] ob
    | _=>val o n ⟨iG parts.toList,[id]⟩ (.one (.hs id 0 len len)) [(id,some (.arr e ei.size rows 0))] ob
   | none=>(zW st ei.size 0 parts.toList).bind fun rows=>val o n ⟨iG parts.toList,[id]⟩ (.one (.ra id 0 len len)) [(id,some (.rarr e ei.size rows))] ob
  | some _=>none) else none
 | _=>none
theorem aM1 {hn:Hn}{id:Nat}{t:TypeId}{len:Nat}{parts:Array (Nat×Operand)}(hw:tr.wf=true) (O:Tok P tr.flat) (Y:o.op=.buildSlice t len parts):Snd P n o st ob (aR8 tr o n st ob hn id t len parts):=by
 refine Snd.bind fun i hi=>?_
 replace hi:=Tr.get_ok hw hi
 split
 ·rename_i e hk;refine Snd.bind fun ei q=>Snd.cond fun hb=>?_
  replace q:=Tr.get_ok hw q
  simp only[ζ] at hb;split
  ·rename_i hid;split
   ·rename_i rows I;have J:=aI5 I;split
    ·exact Snd.val fun _ hd y hc=>⟨hc,aT7 id O Y hd y hi hk q J hb.1 hb.2.1 hb.2.2 hid⟩
    ·exact Snd.val fun _ hd y hc=>⟨hc,aOg id O Y hd y hi hk q J hb.1 hb.2.1 hb.2.2 hid⟩
   ·exact Snd.bind fun rows J=>Snd.val fun _ hd y hc=>⟨hc,aT6 id O Y hd y hi hk q J hb.1 hb.2.1 hb.2.2 hid⟩
  ·exact Snd.none
 ·exact Snd.none
def aSg (o:Oper) (n:Nat) (st:St) (ob:List Prop) (f:Fn) (first caps:Array Operand):Ans:=match f with
 | .func f=>match first.toList with
  | []=>(aVu st caps.toList).bind fun l=>val o n ⟨dF caps.toList,[]⟩ (.one (.clo f l)) [] ob
  | [x]=>match caps.toList with
   | []=>(opO st x).bind fun v=>match v with
    | .one c=>val o n ⟨opr x,[]⟩ (.one (.mth f c)) [] ob
    | _=>none
   | _=>none
  | _=>none
 | _=>none
theorem toList_nil {α:Type}{a:Array α}(h:a.toList=[]):a= #[]:=by
 cases a;simp at h;simp[h]
theorem aLq {α:Type}{a:Array α}{x:α}(h:a.toList=[x]):a= #[x]:=by
 cases a;simp at h;simp[h]
theorem aSf {f:Fn}{first caps:Array Operand}(y:o.op=.makeFunc f first caps):Snd P n o st ob (aSg o n st ob f first caps):=by
 unfold aSg;split
 ·rename_i f;split
  ·rename_i h1;have:=toList_nil h1;subst this;refine Snd.bind fun l hl=>Snd.val fun _ hd q hc=>⟨hc,aL0 y hd q (by rw[←aKz];exact hl)⟩
  ·rename_i x h1;have:=aLq h1;subst this;split
   ·rename_i h2;have:=toList_nil h2;subst this;refine Snd.bind fun v I=>?_
    split
    ·exact Snd.val fun _ hd q hc=>⟨hc,aC2 y hd q (by rw[←dS];exact I)⟩
    ·exact Snd.none
   ·exact Snd.none
  ·exact Snd.none
 ·exact Snd.none
def a1y (st:St) (m:Nat):Option Operand→Option Nat
 | none=>some m
 | some x=>(opO st x).bind fun v=>match v with
  | .one (.c (.int _ (.ofNat k)))=>some k
  | _=>none
theorem nC {m k:Nat}{x:Option Operand}(h:a1y st m x=some k):BndV st x m k:=by
 cases x with
 | none=>cases h;exact .no
 | some x=>
  simp only[a1y,Aj,dS] at h;obtain⟨v,q,h⟩:=h;split at h
  ·cases h;exact .yes q
  ·cases h
def a6t {α:Type}(l:List α) (lo hi:Nat) (low high:Option Operand):Option (List α):=match low,high with
 | none,none=>some l
 | none,some _=>some (l.take hi)
 | some _,none=>some (l.drop lo)
 | some _,some _=>some ((l.take hi).drop lo)
theorem aRc {α:Type}{l r:List α}{lo hi:Nat}{low high:Option Operand}(h1:BndV st low 0 lo) (h2:BndV st high l.length hi) (h:a6t l lo hi low high=some r):r=(l.take hi).drop lo:=by
 cases h1<;>cases h2<;>simp[a6t] at h<;>simp[h]
def a07 (tr:Tr) (md:Bool) (o:Oper) (n:Nat) (st:St) (ob:List Prop) (t:TypeId) (x:Operand) (low high mx:Option Operand):Ans:=match mx with
 | some _=>none
 | none=>(tr.get t).bind fun i=>(opO st x).bind fun v=>match i.k with
  | .sl e=>(tr.get e).bind fun ei=>match v with
   | .one (.c (.sl es l))=>bif Nat.beq ei.size es then(a1y st 0 low).bind fun lo=>(a1y st l.length high).bind fun hi=>(jK md (lo≤hi) ob).bind fun ob1=>(jK md (hi≤l.length) ob1).bind fun ob2=>
     (a6t l lo hi low high).bind fun r=>val o n ⟨opr x++aV9 low++aV9 high,[]⟩ (.one (.c (.sl es r))) [] ob2 else none
   | _=>none
  | .str=>match v with
   | .one (.c (.str s))=>(a1y st 0 low).bind fun lo=>(a1y st s.length high).bind fun hi=>(jK md (lo≤hi) ob).bind fun ob1=>(jK md (hi≤s.length) ob1).bind fun ob2=>
     (a6t s lo hi low high).bind fun r=>val o n ⟨opr x++aV9 low++aV9 high,[]⟩ (.one (.c (.str r))) [] ob2
   | _=>none
  | _=>none
theorem aWf {t:TypeId}{x:Operand}{low high mx:Option Operand}(hw:tr.wf=true) (hT:Tok P tr.flat) (ho:o.op=.slice t x low high mx):Snd P n o st ob (a07 tr md o n st ob t x low high mx):=by
 unfold a07;split
 ·exact Snd.none
 ·refine Snd.bind fun i I=>Snd.bind fun v Y=>?_
  replace I:=Tr.get_ok hw I
  rw[dS] at Y;split
  ·rename_i e hk;refine Snd.bind fun ei J=>?_
   replace J:=Tr.get_ok hw J
   split
   ·rename_i es l;refine Snd.cond fun hes=>Snd.bind fun lo q=>Snd.bind fun hi y=>Snd.bind fun ob1 h1=>Snd.bind fun ob2 h2=>Snd.bind fun r Z=>Snd.val fun _ hd O hc=>?_
    obtain⟨g1,g2⟩:=bB h2 hc;obtain⟨g3,g4⟩:=bB h1 g1;rw[aRc (nC q) (nC y) Z];exact⟨g3,a7j hT ho hd O I hk J (Aa hes) Y (nC q) (nC y) g4 g2⟩
   ·exact Snd.none
  ·rename_i hk;split
   ·rename_i s;refine Snd.bind fun lo q=>Snd.bind fun hi y=>Snd.bind fun ob1 h1=>Snd.bind fun ob2 h2=>Snd.bind fun r Z=>Snd.val fun _ hd O hc=>?_
    obtain⟨g1,g2⟩:=bB h2 hc;obtain⟨g3,g4⟩:=bB h1 g1;rw[aRc (nC q) (nC y) Z];exact⟨g3,a29 hT ho hd O I hk Y (nC q) (nC y) g4 g2⟩
   ·exact Snd.none
  ·exact Snd.none
def aSe (tr:Tr) (o:Oper) (n:Nat) (st:St) (ob:List Prop) (hn:Hn) (t:TypeId) (x y:Operand):Ans:=(tr.get t).bind fun i=>match i.k with
 | .str=>(opO st x).bind fun v=>(opO st y).bind fun u=>match v,u with
  | .one (.c (.str s)),.one (.c (.int _ m))=>match hn with
   | .byte k b=>val o n ⟨opr x++opr y,[]⟩ (.one (.c (.int .u8 ((b.toNat:Nat):Int)))) [] ((m=(k:Int)∧s[k]?=some b)::ob)
   | _=>match m with
    | .ofNat k=>(s[k]?).bind fun b=>val o n ⟨opr x++opr y,[]⟩ (.one (.c (.int .u8 ((b.toNat:Nat):Int)))) [] ob
    | _=>none
  | _,_=>none
 | _=>none
theorem aM2 {hn:Hn}{t:TypeId}{x y:Operand}(hw:tr.wf=true) (J:Tok P tr.flat) (O:o.op=.index t x y):Snd P n o st ob (aSe tr o n st ob hn t x y):=by
 refine Snd.bind fun i hi=>?_
 replace hi:=Tr.get_ok hw hi
 split
 ·rename_i hk;refine Snd.bind fun v I=>Snd.bind fun u hu=>?_
  rw[dS] at I hu;split
  ·split
   ·exact Snd.val fun _ hd q hc=>⟨hc.2,aW3 J O hd q hi hk I hu hc.1.1 hc.1.2⟩
   ·split
    ·exact Snd.bind fun b hb=>Snd.val fun _ hd q hc=>⟨hc,aW3 J O hd q hi hk I hu rfl hb⟩
    ·exact Snd.none
  ·exact Snd.none
 ·exact Snd.none
def aPk:List (List C)→Bool
 | []=>true
 | (.str _::_)::r=>aPk r
 | _::_=>false
theorem aD3:∀l:List (List C),aPk l=true↔iF l
 | []=>by simp[aPk,iF]
 | []::r=>by simp[aPk,iF]
 | (c::vs)::r=>by
  cases c<;>simp[aPk,iF];exact aD3 r
instance (l:List (List C)):Decidable (iF l):=decidable_of_iff _ (aD3 l)
def aVo (st:St) (agg:Bool):V→Option (List Nat×List (List C))
 | .one (.mr id)=>match st.h id with
  | some (.map a ents)=>bif a==agg then some ([id],ents) else none
  | _=>none
 | .one (.c (.mp a ents))=>bif a==agg then some ([],ents) else none
 | .one (.c (.zv 0))=>some ([],[])
 | _=>none
theorem aBh {st:St}{agg:Bool}{v:V}{ids:List Nat}{ents:List (List C)}(h:aVo st agg v=some (ids,ents)):MapE st ids v agg ents:=by
 unfold aVo at h;split at h
 ·split at h
  ·rename_i hh;obtain⟨h1,h2⟩:=fO h;cases h2;exact .mr (by rw[hh,eq_of_beq h1])
  ·cases h
 ·obtain⟨h1,h2⟩:=fO h;cases h2;rw[eq_of_beq h1];exact .mp
 ·cases h;exact .nil
 ·cases h
def a0a (md:Bool) (hn:Hn) (k:List UInt8) (ents:List (List C)) (ob:List Prop):Option (Option (List C)×List Prop):=match hn with
 | .look r=>some (r,(fT k ents=r)::ob)
 | _=>bif md then some (fT k ents,ob) else match fT k ents with
  | some r=>some (some r,ob)
  | none=>some (none,ob)
theorem aKq {md:Bool}{hn:Hn}{k:List UInt8}{ents:List (List C)}{ob q:List Prop}{r:Option (List C)}(h:a0a md hn k ents ob=some (r,q)):jD q→jD ob∧fT k ents=r:=by
 unfold a0a at h;split at h
 ·cases h;exact fun h=>⟨h.2,h.1⟩
 ·cases md
  ·simp only[B0] at h;split at h
   ·rename_i h1;cases h;exact fun h=>⟨h,h1⟩
   ·rename_i h1;cases h;exact fun h=>⟨h,h1⟩
  ·cases h;exact fun h=>⟨h,rfl⟩
def aFq (tr:Tr) (md:Bool) (o:Oper) (n:Nat) (st:St) (ob:List Prop) (hn:Hn) (t:TypeId) (x y:Operand) (ok:Bool):Ans:=(tr.get t).bind fun i=>match i.k with
 | .mp kt et=>(tr.get kt).bind fun ki=>(tr.get et).bind fun ei=>match ki.k with
  | .str=>(opO st x).bind fun v=>(aVo st ei.k.agg v).bind fun(ids,ents)=>(opO st y).bind fun u=>match u with
   | .one (.c (.str k))=>(jK md (iF ents) ob).bind fun ob1=>(a0a md hn k ents ob1).bind fun(r,ob2)=>match ok with
    | true=>val o n ⟨opr x++opr y,ids⟩ (.tup [oL ei r,.one (.c (.bool (aA2 r)))]) [] ob2
    | false=>val o n ⟨opr x++opr y,ids⟩ (oL ei r) [] ob2
   | _=>none
  | _=>none
 | _=>none
theorem aFp {hn:Hn}{t:TypeId}{x y:Operand}{ok:Bool}(hw:tr.wf=true) (Z:Tok P tr.flat) (ho:o.op=.lookup t x y ok):Snd P n o st ob (aFq tr md o n st ob hn t x y ok):=by
 refine Snd.bind fun i hi=>?_
 replace hi:=Tr.get_ok hw hi
 split
 ·rename_i kt et hk;refine Snd.bind fun ki q=>Snd.bind fun ei I=>?_
  replace q:=Tr.get_ok hw q
  replace I:=Tr.get_ok hw I
  split
  ·rename_i O;refine Snd.bind fun v Y=>Snd.bind fun p hp=>?_
   obtain⟨ids,ents⟩:=p;refine Snd.bind fun u hu=>?_
   rw[dS] at Y hu;split
   ·rename_i k;refine Snd.bind fun ob1 h1=>Snd.bind fun p h2=>?_
    obtain⟨r,ob2⟩:=p;dsimp only;split
    ·refine Snd.val fun _ hd J hc=>?_
     obtain⟨g1,g2⟩:=aKq h2 hc;obtain⟨g3,g4⟩:=bB h1 g1;have:=aAa Z ho hd J hi hk q O I rfl Y (aBh hp) g4 hu g2;exact⟨g3,by simpa using this⟩
    ·refine Snd.val fun _ hd J hc=>?_
     obtain⟨g1,g2⟩:=aKq h2 hc;obtain⟨g3,g4⟩:=bB h1 g1;have:=aAa Z ho hd J hi hk q O I rfl Y (aBh hp) g4 hu g2;exact⟨g3,by simpa using this⟩
   ·exact Snd.none
  ·exact Snd.none
 ·exact Snd.none
def aFo (tr:Tr) (md:Bool) (o:Oper) (n:Nat) (st:St) (ob:List Prop) (w:V) (t:TypeId) (x y:Operand):Ans:=(tr.get t).bind fun i=>match i.k with
 | .mp kt et=>(tr.get kt).bind fun ki=>(tr.get et).bind fun ei=>match ki.k with
  | .str=>(opO st x).bind fun v=>(aVo st ei.k.agg v).bind fun(ids,ents)=>(opO st y).bind fun u=>match u with
   | .one (.c (.str k))=>(jK md (iF ents) ob).bind fun ob1=>val o n ⟨opr x++opr y,ids⟩ w [] ((oL ei (fT k ents)=w)::ob1)
   | _=>none
  | _=>none
 | _=>none
theorem aFn {w:V}{t:TypeId}{x y:Operand}(hw:tr.wf=true) (Z:Tok P tr.flat) (ho:o.op=.lookup t x y false):Snd P n o st ob (aFo tr md o n st ob w t x y):=by
 refine Snd.bind fun i hi=>?_
 replace hi:=Tr.get_ok hw hi
 split
 ·rename_i kt et hk;refine Snd.bind fun ki q=>Snd.bind fun ei I=>?_
  replace q:=Tr.get_ok hw q
  replace I:=Tr.get_ok hw I
  split
  ·rename_i J;refine Snd.bind fun v O=>Snd.bind fun p hp=>?_
   obtain⟨ids,ents⟩:=p;refine Snd.bind fun u hu=>?_
   rw[dS] at O hu;split
   ·rename_i k;refine Snd.bind fun ob1 h1=>Snd.val fun _ hd Y hc=>?_
    obtain⟨g3,g4⟩:=bB h1 hc.2;have:=aAa Z ho hd Y hi hk q J I rfl O (aBh hp) g4 hu rfl;refine⟨g3,?_⟩;rw[←hc.1];simpa using this
   ·exact Snd.none
  ·exact Snd.none
 ·exact Snd.none
def aB0 (tr:Tr) (md:Bool) (o:Oper) (n:Nat) (st:St) (ob:List Prop) (hn:Hn) (t:TypeId) (x y:Operand) (ok:Bool):Ans:=match ok,hn with
 | false,.pc w=>aFo tr md o n st ob w t x y
 | ok,hn=>aFq tr md o n st ob hn t x y ok
theorem aHv {hn:Hn}{t:TypeId}{x y:Operand}{ok:Bool}(hw:tr.wf=true) (q:Tok P tr.flat) (I:o.op=.lookup t x y ok):Snd P n o st ob (aB0 tr md o n st ob hn t x y ok):=by
 unfold aB0;split
 ·exact aFn hw q I
 ·exact aFp hw q I
def a3y (md:Bool) (k:List UInt8) (cs:List C) (ents:List (List C)):Option (List (List C)):=bif md then some (qO k cs ents) else frc (qO k cs ents)
theorem aJ2 (md:Bool) (k:List UInt8) (cs:List C) (ents:List (List C)):a3y md k cs ents=some (qO k cs ents):=by
 cases md
 ·exact lZ _
 ·rfl
def lU (tr:Tr) (md:Bool) (o:Oper) (st:St) (ob:List Prop) (t:TypeId) (x y z:Operand):Ans:=(tr.get t).bind fun i=>match i.k with
 | .mp kt _=>(tr.get kt).bind fun ki=>match ki.k with
  | .str=>(opO st x).bind fun v=>match v with
   | .one (.mr id)=>match st.h id with
    | some (.map agg ents)=>(opO st y).bind fun u=>match u with
     | .one (.c (.str k))=>(opO st z).bind fun v=>bif (match v with | .one _=>!agg | .pa _=>agg | .ma _=>agg | _=>false) then(qC v).bind fun rs=>
      (jK md (iF ents) ob).bind fun ob1=>(a3y md k (a3q rs) ents).bind fun e'=>eff o ⟨opr x++opr y++opr z,[id]⟩ [(id,some (.map agg e'))] ob1 else none
     | _=>none
    | _=>none
   | _=>none
  | _=>none
 | _=>none
theorem wR {t:TypeId}{x y z:Operand}(hw:tr.wf=true) (Z:Tok P tr.flat) (ho:o.op=.mapUpdate t x y z):Snd P n o st ob (lU tr md o st ob t x y z):=by
 refine Snd.bind fun i hi=>?_
 replace hi:=Tr.get_ok hw hi
 split
 ·rename_i kt et hk;refine Snd.bind fun ki q=>?_
  replace q:=Tr.get_ok hw q
  split
  ·rename_i J;refine Snd.bind fun v O=>?_
   rw[dS] at O;split
   ·rename_i id;split
    ·rename_i agg ents hh;refine Snd.bind fun u hu=>?_
     rw[dS] at hu;split
     ·rename_i k;refine Snd.bind fun z hz=>Snd.cond fun Y=>Snd.bind fun rs I=>Snd.bind fun ob1 h1=>Snd.bind fun e' he=>Snd.eff fun hd hc=>?_
      rw[dS] at hz;rw[jT] at I;rw[aJ2] at he;cases he;obtain⟨g1,g2⟩:=bB h1 hc;exact⟨g1,aGq (ids:=[]) Z ho hd hi hk q J O hh g2 hu hz (by cases z<;>first | rfl | exact Y) I .ofA⟩
     ·exact Snd.none
    ·exact Snd.none
   ·exact Snd.none
  ·exact Snd.none
 ·exact Snd.none
theorem aHw {t:TypeId}{x y z:Operand}(hw:tr.wf=true) (Z:Tok P tr.flat) (ho:o.op=.insert t x y z):Snd P n o st ob (lU tr md o st ob t x y z):=by
 refine Snd.bind fun i hi=>?_
 replace hi:=Tr.get_ok hw hi
 split
 ·rename_i kt et hk;refine Snd.bind fun ki q=>?_
  replace q:=Tr.get_ok hw q
  split
  ·rename_i J;refine Snd.bind fun v O=>?_
   rw[dS] at O;split
   ·rename_i id;split
    ·rename_i agg ents hh;refine Snd.bind fun u hu=>?_
     rw[dS] at hu;split
     ·rename_i k;refine Snd.bind fun z hz=>Snd.cond fun Y=>Snd.bind fun rs I=>Snd.bind fun ob1 h1=>Snd.bind fun e' he=>Snd.eff fun hd hc=>?_
      rw[dS] at hz;rw[jT] at I;rw[aJ2] at he;cases he;obtain⟨g1,g2⟩:=bB h1 hc;exact⟨g1,aUe (ids:=[]) Z ho hd hi hk q J O hh g2 hu hz (by cases z<;>first | rfl | exact Y) I .ofA⟩
     ·exact Snd.none
    ·exact Snd.none
   ·exact Snd.none
  ·exact Snd.none
 ·exact Snd.none
end
section
variable {P:Program}{n:Nat}{o:Oper}{st:St}{ob:List Prop}{tr:Tr}{md nat:Bool}
def arith (md nat:Bool) (op:BinOp) (a b:Int) (ob:List Prop):Option (Int×List Prop):=match op with
 | .add=>bif nat then(match a,b with | .ofNat x,.ofNat y=>(jK md (x+y≤9223372036854775807) ob).bind fun ob1=>some (((x+y:Nat):Int),ob1) | _,_=>none)
  else(jK md (-9223372036854775808≤a+b∧a+b≤9223372036854775807) ob).bind fun ob1=>some (a+b,ob1)
 | .sub=>bif nat then(match a,b with | .ofNat x,.ofNat y=>(jK md (y≤x∧x≤9223372036854775807) ob).bind fun ob1=>some (((x-y:Nat):Int),ob1) | _,_=>none)
  else(jK md (-9223372036854775808≤a-b∧a-b≤9223372036854775807) ob).bind fun ob1=>some (a-b,ob1)
 | .mul=>bif nat then(match a,b with | .ofNat x,.ofNat y=>(jK md (x*y≤9223372036854775807) ob).bind fun ob1=>some (((x*y:Nat):Int),ob1) | _,_=>none)
  else(jK md (-9223372036854775808≤a*b∧a*b≤9223372036854775807) ob).bind fun ob1=>some (a*b,ob1)
 | .quo=>bif nat then(match a,b with | .ofNat x,.ofNat y=>(jK md (x≤9223372036854775807∧1≤y) ob).bind fun ob1=>some (((x/y:Nat):Int),ob1) | _,_=>none)
  else(jK md (0≤a∧a≤9223372036854775807∧1≤b) ob).bind fun ob1=>some (a/b,ob1)
 | .rem=>bif nat then(match a,b with | .ofNat x,.ofNat y=>(jK md (1≤y) ob).bind fun ob1=>some (((x%y:Nat):Int),ob1) | _,_=>none)
  else(jK md (0≤a∧1≤b) ob).bind fun ob1=>some (a%b,ob1)
 | _=>none
theorem wQ {α:Type}{q:List Prop}{x:Option (List Prop)}{r r':α}(h:(x.bind fun y=>some (r,y))=some (r',q)):x=some q∧r'=r:=by
 rw[Aj] at h;obtain⟨y,h1,h2⟩:=h;cases h2;exact⟨h1,rfl⟩
theorem aWj {op:BinOp}{Z ty:TypeId}{x y:Operand}{d:Nat}{a b r:Int}{Y:List Prop}(J:o.op=.binOp op Z x y ty) (hd:o.dst=some d) (q:d<n) (hx:opv st x=some (I .i64 a)) (O:opv st y=some (I .i64 b)) (h:arith md nat op a b ob=some (r,Y)):
  jD Y→jD ob∧Step P n o st ⟨opr x++opr y,[]⟩ ⟨some (d,some (I .i64 r)),[]⟩:=by
 intro hc;unfold arith at h;cases nat<;>cases op<;>simp only[Bv,B0] at h<;>try (cases h;done)
 ·obtain⟨h1,rfl⟩:=wQ h;obtain⟨g,k⟩:=bB h1 hc;exact⟨g,a3o J hd q hx O k⟩
 ·obtain⟨h1,rfl⟩:=wQ h;obtain⟨g,k⟩:=bB h1 hc;exact⟨g,a23 J hd q hx O k⟩
 ·obtain⟨h1,rfl⟩:=wQ h;obtain⟨g,k⟩:=bB h1 hc;exact⟨g,a3i J hd q hx O k⟩
 ·obtain⟨h1,rfl⟩:=wQ h;obtain⟨g,k⟩:=bB h1 hc;exact⟨g,aW5 J hd q hx O k⟩
 ·obtain⟨h1,rfl⟩:=wQ h;obtain⟨g,k⟩:=bB h1 hc;exact⟨g,aW4 J hd q hx O k⟩
 all_goals cases a<;>cases b<;>simp only at h<;>try (cases h;done)
 ·obtain⟨h1,rfl⟩:=wQ h;obtain⟨g,k⟩:=bB h1 hc;exact⟨g,a3n J hd q hx O k⟩
 ·obtain⟨h1,rfl⟩:=wQ h;obtain⟨g,k⟩:=bB h1 hc;exact⟨g,a2z J hd q hx O k⟩
 ·obtain⟨h1,rfl⟩:=wQ h;obtain⟨g,k⟩:=bB h1 hc;exact⟨g,a3h J hd q hx O k⟩
 ·obtain⟨h1,rfl⟩:=wQ h;obtain⟨g,k⟩:=bB h1 hc;exact⟨g,a3d J hd q hx O k⟩
 ·obtain⟨h1,rfl⟩:=wQ h;obtain⟨g,k⟩:=bB h1 hc;exact⟨g,a3b J hd q hx O k⟩
def a8c (op:BinOp) (a b:Int):Option Bool:=match op with
 | .lss=>some (decide (a<b))
 | .leq=>some (decide (a≤b))
 | .gtr=>some (decide (b<a))
 | .geq=>some (decide (b≤a))
 | .eql=>some (decide (a=b))
 | .neq=>some (!decide (a=b))
 | _=>none
theorem a0l {op:BinOp}{Y ty:TypeId}{x y:Operand}{d:Nat}{k:IntKind}{a b:Int}{r:Bool}(J:o.op=.binOp op Y x y ty) (hd:o.dst=some d) (q:d<n) (hx:opv st x=some (I k a)) (O:opv st y=some (I k b)) (h:a8c op a b=some r):
  Step P n o st ⟨opr x++opr y,[]⟩ ⟨some (d,some (B r)),[]⟩:=by
 unfold a8c at h;cases op<;>simp only at h<;>try (cases h;done)
 ·cases h;exact a7i J hd q hx O
 ·cases h;exact a7a J hd q hx O
 ·cases h;exact a7e J hd q hx O
 ·cases h;exact a7f J hd q hx O
 ·cases h;exact a7g J hd q hx O
 ·cases h;exact a7h J hd q hx O
def aYo (op:BinOp) (k:IntKind) (a b:Int):Option Int:=match op with
 | .add=>some (k.wrap (a+b))
 | .sub=>some (k.wrap (a-b))
 | .mul=>some (k.wrap (a*b))
 | _=>none
theorem aTk {op:BinOp}{Y ty:TypeId}{x y:Operand}{d:Nat}{k:IntKind}{a b r:Int}(J:o.op=.binOp op Y x y ty) (hd:o.dst=some d) (q:d<n) (hx:opv st x=some (I k a)) (O:opv st y=some (I k b)) (h:aYo op k a b=some r):
  Step P n o st ⟨opr x++opr y,[]⟩ ⟨some (d,some (I k r)),[]⟩:=by
 unfold aYo at h;cases op<;>simp only at h<;>try (cases h;done)
 ·cases h;exact aUg J hd q hx O rfl
 ·cases h;exact aT5 J hd q hx O rfl
 ·cases h;exact aUa J hd q hx O rfl
def aZ4:IntKind→Bool
 | .i64=>true
 | _=>false
def a5x (tr:Tr) (md nat:Bool) (o:Oper) (n:Nat) (st:St) (ob:List Prop) (op:BinOp) (tx:TypeId) (x y:Operand):Ans:=(opO st x).bind fun v=>(opO st y).bind fun u=>match v,u with
 | .one (.c (.int k a)),.one (.c (.int k' b))=>bif decide (k=k') then(match a8c op a b with
   | some r=>val o n ⟨opr x++opr y,[]⟩ (.one (.c (.bool r))) [] ob
   | none=>bif aZ4 k then(arith md nat op a b ob).bind fun(r,ob1)=>val o n ⟨opr x++opr y,[]⟩ (.one (.c (.int .i64 r))) [] ob1
    else(aYo op k a b).bind fun r=>val o n ⟨opr x++opr y,[]⟩ (.one (.c (.int k r))) [] ob) else none
 | .one (.c (.str a)),.one (.c (.str b))=>match op with
  | .eql=>val o n ⟨opr x++opr y,[]⟩ (.one (.c (.bool (decide (a=b))))) [] ob
  | .neq=>val o n ⟨opr x++opr y,[]⟩ (.one (.c (.bool (!decide (a=b))))) [] ob
  | .lss=>val o n ⟨opr x++opr y,[]⟩ (.one (.c (.bool (Op.bytesLess a b)))) [] ob
  | .add=>(jK md (a.length+b.length≤maxLen) ob).bind fun ob1=>val o n ⟨opr x++opr y,[]⟩ (.one (.c (.str (a++b)))) [] ob1
  | _=>none
 | .one (.c (.bool a)),.one (.c (.bool b))=>(tr.get tx).bind fun i=>match i.k with
  | .bool=>match op with
   | .eql=>val o n ⟨opr x++opr y,[]⟩ (.one (.c (.bool (a==b)))) [] ob
   | .neq=>val o n ⟨opr x++opr y,[]⟩ (.one (.c (.bool (!(a==b))))) [] ob
   | _=>none
  | _=>none
 | v,.one (.c .np)=>(tr.get tx).bind fun i=>match i.k with
  | .pt _=>(aC7 v).bind fun b=>match op with
   | .eql=>val o n ⟨opr x++opr y,[]⟩ (.one (.c (.bool b))) [] ob
   | .neq=>val o n ⟨opr x++opr y,[]⟩ (.one (.c (.bool (!b)))) [] ob
   | _=>none
  | _=>none
 | v,.one (.c .nl)=>(tr.get tx).bind fun i=>match i.k with
  | .sl _=>(aTx v).bind fun b=>match op with
   | .eql=>val o n ⟨opr x++opr y,[]⟩ (.one (.c (.bool b))) [] ob
   | _=>none
  | _=>none
 | _,_=>none
theorem aWh {op:BinOp}{Z ty:TypeId}{x y:Operand}(hw:tr.wf=true) (O:Tok P tr.flat) (J:o.op=.binOp op Z x y ty):Snd P n o st ob (a5x tr md nat o n st ob op Z x y):=by
 refine Snd.bind fun v I=>Snd.bind fun u hu=>?_
 rw[dS] at I hu;split
 ·rename_i k a k' b;refine Snd.cond fun hk=>?_
  have aa:=ψ hk;subst aa;split
  ·rename_i r Y;exact Snd.val fun _ hd q hc=>⟨hc,a0l J hd q I hu Y⟩
  ·cases hi:aZ4 k with
   | true=>
    simp only[Bv];cases k<;>simp only[aZ4] at hi<;>try (cases hi;done)
    refine Snd.bind fun p hp=>?_
    obtain⟨r,ab⟩:=p;exact Snd.val fun _ hd q hc=>aWj J hd q I hu hp hc
   | false=>
    simp only[B0];exact Snd.bind fun r Y=>Snd.val fun _ hd q hc=>⟨hc,aTk J hd q I hu Y⟩
 ·split
  ·exact Snd.val fun _ hd q hc=>⟨hc,a27 J hd q I hu⟩
  ·exact Snd.val fun _ hd q hc=>⟨hc,a25 J hd q I hu⟩
  ·exact Snd.val fun _ hd q hc=>⟨hc,a26 J hd q I hu⟩
  ·exact Snd.bind fun ab h1=>Snd.val fun _ hd q hc=>⟨(bB h1 hc).1,a3a J hd q I hu (bB h1 hc).2⟩
  ·exact Snd.none
 ·refine Snd.bind fun i hi=>?_
  replace hi:=Tr.get_ok hw hi
  split
  ·rename_i hk;split
   ·exact Snd.val fun _ hd q hc=>⟨hc,a3m O J hd q hi hk I hu⟩
   ·exact Snd.val fun _ hd q hc=>⟨hc,a3l O J hd q hi hk I hu⟩
   ·exact Snd.none
  ·exact Snd.none
 ·refine Snd.bind fun i hi=>?_
  replace hi:=Tr.get_ok hw hi
  split
  ·rename_i hk;refine Snd.bind fun b hb=>?_
   split
   ·exact Snd.val fun _ hd q hc=>⟨hc,a3g O J hd q hi hk I hb hu⟩
   ·exact Snd.val fun _ hd q hc=>⟨hc,a3f O J hd q hi hk I hb hu⟩
   ·exact Snd.none
  ·exact Snd.none
 ·refine Snd.bind fun i hi=>?_
  replace hi:=Tr.get_ok hw hi
  split
  ·rename_i hk;refine Snd.bind fun b hb=>?_
   split
   ·exact Snd.val fun _ hd q hc=>⟨hc,aZc O J hd q hi hk I hb hu⟩
   ·exact Snd.none
  ·exact Snd.none
 ·exact Snd.none
def a89 (md:Bool) (o:Oper) (n:Nat) (st:St) (ob:List Prop) (op:UnOp) (x:Operand):Ans:=(opO st x).bind fun v=>match v with
 | .one (.c (.bool b))=>match op with
  | .not=>val o n ⟨opr x,[]⟩ (.one (.c (.bool (!b)))) [] ob
  | _=>none
 | .one (.c (.int .i64 a))=>match op with
  | .neg=>(jK md (-9223372036854775808≤0-a∧0-a≤9223372036854775807) ob).bind fun ob1=>val o n ⟨opr x,[]⟩ (.one (.c (.int .i64 (0-a)))) [] ob1
  | _=>none
 | _=>none
theorem a04 {op:UnOp}{t:TypeId}{x:Operand}(I:o.op=.unOp op t x):Snd P n o st ob (a89 md o n st ob op x):=by
 refine Snd.bind fun v y=>?_
 rw[dS] at y;split
 ·split
  ·exact Snd.val fun _ hd q hc=>⟨hc,a69 I hd q y⟩
  ·exact Snd.none
 ·split
  ·exact Snd.bind fun J h1=>Snd.val fun _ hd q hc=>⟨(bB h1 hc).1,a7b I hd q y (Ck _ (bB h1 hc).2)⟩
  ·exact Snd.none
 ·exact Snd.none
def a5v (tr:Tr) (md:Bool) (o:Oper) (n:Nat) (st:St) (ob:List Prop) (x:Operand) (t:TypeId):Ans:=(tr.get t).bind fun i=>(opO st x).bind fun v=>match i.k with
 | .sl _=>match v with
  | .one (.c (.sl _ l))=>val o n ⟨opr x,[]⟩ (.one (.c (.int .i64 ((l.length:Nat):Int)))) [] ob
  | .one (.c .nl)=>val o n ⟨opr x,[]⟩ (.one (.c (.int .i64 0))) [] ob
  | .one (.ras n' _ _)=>val o n ⟨opr x,[]⟩ (.one (.c (.int .i64 ((n':Nat):Int)))) [] ob
  | .one (.hs id _ len sz)=>match st.h id with
   | some (.arr _ _ elems _)=>(jK md (sz=elems.length) ob).bind fun ob1=>val o n ⟨opr x,[id]⟩ (.one (.c (.int .i64 ((len:Nat):Int)))) [] ob1
   | _=>none
  | .one (.ra id _ len sz)=>match st.h id with
   | some (.rarr _ _ elems)=>(jK md (sz=elems.length) ob).bind fun ob1=>val o n ⟨opr x,[id]⟩ (.one (.c (.int .i64 ((len:Nat):Int)))) [] ob1
   | _=>none
  | _=>none
 | .str=>match v with
  | .one (.c (.str s))=>val o n ⟨opr x,[]⟩ (.one (.c (.int .i64 ((s.length:Nat):Int)))) [] ob
  | _=>none
 | .mp _ _=>match v with
  | .one (.mr id)=>match st.h id with
   | some (.map _ ents)=>(jK md (iF ents) ob).bind fun ob1=>val o n ⟨opr x,[id]⟩ (.one (.c (.int .i64 ((ents.length:Nat):Int)))) [] ob1
   | _=>none
  | _=>none
 | _=>none
theorem aWd {x:Operand}{t:TypeId}(hw:tr.wf=true) (I:Tok P tr.flat) (J:o.op=.call { callee:=.builtin .len,args:= #[x],argTypes:= #[t] }):Snd P n o st ob (a5v tr md o n st ob x t):=by
 refine Snd.bind fun i hi=>Snd.bind fun v y=>?_
 replace hi:=Tr.get_ok hw hi
 rw[dS] at y;split
 ·rename_i hk;split
  ·exact Snd.val fun _ hd q hc=>⟨hc,aUb I J hd q hi hk y⟩
  ·exact Snd.val fun _ hd q hc=>⟨hc,aUd I J hd q hi hk y⟩
  ·exact Snd.val fun _ hd q hc=>⟨hc,aOl I J hd q hi hk y⟩
  ·split
   ·rename_i hh;exact Snd.bind fun O h1=>Snd.val fun _ hd q hc=>⟨(bB h1 hc).1,aJd I J hd q hi hk y hh (bB h1 hc).2⟩
   ·exact Snd.none
  ·split
   ·rename_i hh;exact Snd.bind fun O h1=>Snd.val fun _ hd q hc=>⟨(bB h1 hc).1,aUc I J hd q hi hk y hh (bB h1 hc).2⟩
   ·exact Snd.none
  ·exact Snd.none
 ·rename_i hk;split
  ·exact Snd.val fun _ hd q hc=>⟨hc,aOk I J hd q hi hk y⟩
  ·exact Snd.none
 ·rename_i hk;split
  ·split
   ·rename_i hh;exact Snd.bind fun O h1=>Snd.val fun _ hd q hc=>⟨(bB h1 hc).1,aOm I J hd q hi hk y hh (bB h1 hc).2⟩
   ·exact Snd.none
  ·exact Snd.none
 ·exact Snd.none
def a6k (md:Bool) (st:St) (es:Nat) (hn:Hn) (v:V) (ob:List Prop):Option (List Nat×List (List C)×List Prop):=match v with
 | .one (.hs id off len sz)=>match st.h id with
  | some (.arr _ es' elems _)=>bif Nat.beq es' es then(jK md (sz=elems.length) ob).bind fun ob1=>(match hn with
   | .all=>some ([id],elems,(off=0∧len=sz)::ob1)
   | .c rows=>some ([id],rows,(rows=(elems.drop off).take len)::ob1)
   | _=>bif Nat.beq off 0&&Nat.beq len sz then some ([id],elems,ob1) else some ([id],(elems.drop off).take len,ob1)) else none
  | _=>none
 | .one (.c (.sl es' l))=>bif Nat.beq es' es then some ([],l,ob) else none
 | .one (.c (.sn es' l))=>bif Nat.beq es' es then some ([],l,ob) else none
 | .one (.c .nl)=>some ([],[],ob)
 | _=>none
theorem zQ {es:Nat}{hn:Hn}{v:V}{ids:List Nat}{rows:List (List C)}{y:List Prop}(h:a6k md st es hn v ob=some (ids,rows,y)):jD y→jD ob∧Src st es ids v rows:=by
 intro hc;unfold a6k at h;split at h
 ·rename_i id off len sz;split at h
  ·rename_i te O elems fz hh;obtain⟨h1,q⟩:=fO h;clear h;have:=Aa h1;subst this;rw[Aj] at q;obtain⟨Y,h2,h⟩:=q;split at h
   ·cases h;obtain⟨⟨rfl,rfl⟩,hc⟩:=hc;obtain⟨g,k⟩:=bB h2 hc;exact⟨g,.all hh k⟩
   ·cases h;obtain⟨k1,hc⟩:=hc;obtain⟨g,k⟩:=bB h2 hc;exact⟨g,.hs hh k k1⟩
   ·cases hb:Nat.beq off 0&&Nat.beq len sz with
    | true=>
     rw[hb] at h;cases h;obtain⟨g,k⟩:=bB h2 hc;simp only[ζ] at hb;have I:=Aa hb.1;have J:=Aa hb.2;subst I J;exact⟨g,.all hh k⟩
    | false=>
     rw[hb] at h;cases h;obtain⟨g,k⟩:=bB h2 hc;exact⟨g,.hs hh k rfl⟩
  ·cases h
 ·obtain⟨h1,q⟩:=fO h;clear h;have:=Aa h1;subst this;cases q;exact⟨hc,.sl⟩
 ·obtain⟨h1,q⟩:=fO h;clear h;have:=Aa h1;subst this;cases q;exact⟨hc,.sn⟩
 ·cases h;exact⟨hc,.nl⟩
 ·cases h
def aFj:List (List C)→Option (List Int)
 | []=>some []
 | [.int .u8 m]::rs=>(aFj rs).bind fun l=>some (m::l)
 | _=>none
theorem aFi:∀{rows:List (List C)}{ns:List Int},aFj rows=some ns→rows=ns.map fun m=>[C.int .u8 m]
 | [],ns,h=>by simp[aFj] at h;subst h;rfl
 | [.int .u8 m]::rs,ns,h=>by
  simp only[aFj,Aj] at h;obtain⟨l,h1,h2⟩:=h;cases h2;rw[aFi h1];rfl
def aYi (tr:Tr) (md:Bool) (o:Oper) (n:Nat) (st:St) (ob:List Prop) (hn:Hn) (src dst:TypeId) (x:Operand):Ans:=(tr.get src).bind fun i=>(tr.get dst).bind fun j=>(opO st x).bind fun v=>match j.k with
 | .int k'=>match i.k,v with
  | .int k,.one (.c (.int k2 m))=>bif decide (k2=k) then val o n ⟨opr x,[]⟩ (.one (.c (.int k' (k'.wrap m)))) [] ob else none
  | _,_=>none
 | .str=>match i.k with
  | .sl e=>(tr.get e).bind fun ei=>match ei.k with
   | .int .u8=>(a6k md st 1 hn v ob).bind fun(ids,rows,ob1)=>(aFj rows).bind fun ns=>(frc (ns.map fun m=>UInt8.ofNat m.toNat)).bind fun bs=>val o n ⟨opr x,ids⟩ (.one (.c (.str bs))) [] ob1
   | _=>none
  | _=>none
 | _=>none
theorem aSi {hn:Hn}{src dst:TypeId}{x:Operand}(hw:tr.wf=true) (Z:Tok P tr.flat) (ho:o.op=.convert src dst x):Snd P n o st ob (aYi tr md o n st ob hn src dst x):=by
 refine Snd.bind fun i hi=>Snd.bind fun j hj=>Snd.bind fun v Y=>?_
 replace hi:=Tr.get_ok hw hi
 replace hj:=Tr.get_ok hw hj
 rw[dS] at Y;split
 ·rename_i k' q;split
  ·rename_i k k2 m y;refine Snd.cond fun hk=>?_
   have:=ψ hk;subst this;exact Snd.val fun _ hd I hc=>⟨hc,aZg Z ho hd I hi y hj q Y⟩
  ·exact Snd.none
 ·rename_i q;split
  ·rename_i e y;refine Snd.bind fun ei J=>?_
   replace J:=Tr.get_ok hw J
   split
   ·rename_i hek;refine Snd.bind fun p hp=>?_
    obtain⟨ids,rows,ob1⟩:=p;refine Snd.bind fun ns hns=>Snd.bind fun bs O=>Snd.val fun _ hd I hc=>?_
    rw[lZ] at O;cases O;obtain⟨g1,g2⟩:=zQ hp hc;exact⟨g1,aZh Z ho hd I hi y J hek hj q Y g2 (aFi hns)⟩
   ·exact Snd.none
  ·exact Snd.none
 ·exact Snd.none
def a86 (md:Bool) (a b:List (List C)):Option (List (List C)):=bif md then some (a++b) else frc (a++b)
theorem a0m (md:Bool) (a b:List (List C)):a86 md a b=some (a++b):=by
 cases md
 ·exact lZ _
 ·rfl
def aLb (tr:Tr) (md:Bool) (o:Oper) (n:Nat) (st:St) (ob:List Prop) (hn:Hn) (id0:Nat) (x y:Operand) (t:TypeId):Ans:=(tr.get t).bind fun i=>match i.k with
 | .sl e=>(tr.get e).bind fun ei=>match ei with
  | ⟨_,s0,b0,_⟩=>bif Nat.ble 1 s0&&Nat.ble 1 b0 then(opO st x).bind fun v=>(opO st y).bind fun u=>(a6k md st s0 hn u ob).bind fun(ids,rows,ob1)=>(match v with
  | .one (.hs id off len sz)=>match st.h id with
   | some (.arr te es elems fz)=>bif Nat.beq te e&&Nat.beq es s0 then(jK md (sz=elems.length) ob1).bind fun ob2=>(jK md (off=0∧len=sz) ob2).bind fun ob3=>(jK md ((elems.length+rows.length)*b0≤140737488355328) ob3).bind fun ob4=>
     (a86 md elems rows).bind fun l=>match fz with
     | 0=>val o n ⟨opr x++opr y,id::ids⟩ (.one (.hs id 0 (elems.length+rows.length) (elems.length+rows.length))) [(id,some (.arr e s0 l 0))] ob4
     | _+1=>val o n ⟨opr x++opr y,id::ids⟩ (.one (.hs id 0 (elems.length+rows.length) (elems.length+rows.length))) [(id,some (.arr e s0 l 1))] ob4
    else none
   | _=>none
  | .one (.c .nl)=>match st.h id0 with
   | none=>(jK md (rows.length*b0≤140737488355328) ob1).bind fun ob2=>val o n ⟨opr x++opr y,id0::ids⟩ (.one (.hs id0 0 rows.length rows.length)) [(id0,some (.arr e s0 rows 0))] ob2
   | some _=>none
  | _=>none) else none
 | _=>none
theorem aHz {hn:Hn}{Y:Nat}{x y:Operand}{t:TypeId}(hw:tr.wf=true) (Z:Tok P tr.flat) (ho:o.op=.call { callee:=.builtin .append,args:= #[x,y],argTypes:= #[t,t] }):Snd P n o st ob (aLb tr md o n st ob hn Y x y t):=by
 refine Snd.bind fun i hi=>?_
 replace hi:=Tr.get_ok hw hi
 split
 ·rename_i e hk;refine Snd.bind fun ei q=>?_
  obtain⟨k0,s0,b0,z0⟩:=ei;refine Snd.cond fun hb=>Snd.bind fun v O=>Snd.bind fun u hu=>Snd.bind fun p hp=>?_
  replace q:=Tr.get_ok hw q
  obtain⟨ids,rows,ob1⟩:=p;simp only[ζ] at hb;rw[dS] at O hu;dsimp only;split
  ·rename_i id off len sz;split
   ·rename_i te es elems fz hh;refine Snd.cond fun J=>Snd.bind fun ob2 h2=>Snd.bind fun ob3 h3=>Snd.bind fun ob4 h4=>Snd.bind fun l hl=>?_
    simp only[ζ] at J;have e1:=Aa J.1;have e2:=Aa J.2;subst e1 e2;rw[a0m] at hl;cases hl;split
    ·refine Snd.val fun _ hd I hc=>?_
     obtain⟨g1,g2⟩:=bB h4 hc;obtain⟨g3,g4,g5⟩:=bB h3 g1;obtain⟨g6,g7⟩:=bB h2 g3;obtain⟨g8,g9⟩:=zQ hp g6;subst g4 g5;exact⟨g8,aJe Z ho hd I hi hk q hb.1 hb.2 O hh g7 hu g9 g2⟩
    ·refine Snd.val fun _ hd I hc=>?_
     obtain⟨g1,g2⟩:=bB h4 hc;obtain⟨g3,g4,g5⟩:=bB h3 g1;obtain⟨g6,g7⟩:=bB h2 g3;obtain⟨g8,g9⟩:=zQ hp g6;subst g4 g5;exact⟨g8,aJe Z ho hd I hi hk q hb.1 hb.2 O hh g7 hu g9 g2⟩
   ·exact Snd.none
  ·split
   ·rename_i hid;refine Snd.bind fun ob2 h2=>Snd.val fun _ hd I hc=>?_
    obtain⟨g1,g2⟩:=bB h2 hc;obtain⟨g3,g4⟩:=zQ hp g1;exact⟨g3,aOq Y Z ho hd I hi hk q hb.1 hb.2 O hid hu g4 g2⟩
   ·exact Snd.none
  ·exact Snd.none
 ·exact Snd.none
def aFu (tr:Tr) (md:Bool) (o:Oper) (n:Nat) (st:St) (ob:List Prop) (id0:Nat) (x y:Operand) (t:TypeId):Ans:=(tr.get t).bind fun i=>match i.k with
 | .sl e=>(tr.get e).bind fun ei=>match ei with
  | ⟨_,s0,b0,_⟩=>bif Nat.ble 1 s0&&Nat.ble 1 b0 then(opO st x).bind fun v=>(opO st y).bind fun u=>match u with
  | .one (.ra id2 off2 len2 sz2)=>match st.h id2 with
   | some (.rarr _ es2 rows)=>bif Nat.beq es2 s0&&(Nat.beq off2 0&&(Nat.beq len2 rows.length&&(Nat.beq sz2 rows.length&&Nat.blt 0 rows.length))) then(match v with
    | .one (.ra id off len sz)=>match st.h id with
     | some (.rarr te es elems)=>bif Nat.beq te e&&Nat.beq es s0 then(jK md (sz=elems.length) ob).bind fun ob2=>(jK md (off=0∧len=sz) ob2).bind fun ob3=>(jK md ((elems.length+rows.length)*b0≤140737488355328) ob3).bind fun ob4=>
       val o n ⟨opr x++opr y,[id,id2]⟩ (.one (.ra id 0 (elems.length+rows.length) (elems.length+rows.length))) [(id,some (.rarr e s0 (elems++rows)))] ob4 else none
     | _=>none
    | .one (.c .nl)=>match st.h id0 with
     | none=>(jK md (rows.length*b0≤140737488355328) ob).bind fun ob2=>val o n ⟨opr x++opr y,[id0,id2]⟩ (.one (.ra id0 0 rows.length rows.length)) [(id0,some (.rarr e s0 rows))] ob2
     | some _=>none
    | _=>none) else none
   | _=>none
  | _=>none
  else none
 | _=>none
theorem aFt {Y:Nat}{x y:Operand}{t:TypeId}(hw:tr.wf=true) (hT:Tok P tr.flat) (ho:o.op=.call { callee:=.builtin .append,args:= #[x,y],argTypes:= #[t,t] }):Snd P n o st ob (aFu tr md o n st ob Y x y t):=by
 refine Snd.bind fun i hi=>?_
 replace hi:=Tr.get_ok hw hi
 split
 ·rename_i e hk;refine Snd.bind fun ei q=>?_
  obtain⟨k0,s0,b0,z0⟩:=ei;refine Snd.cond fun hb=>Snd.bind fun v hv=>Snd.bind fun u hu=>?_
  replace q:=Tr.get_ok hw q
  simp only[ζ] at hb;rw[dS] at hv hu;split
  ·rename_i id2 off2 len2 sz2;split
   ·rename_i te2 es2 rows Z;refine Snd.cond fun aa=>?_
    simp only[ζ] at aa;obtain⟨c1,c2,c3,c4,O⟩:=aa;have c1:=Aa c1;have c2:=Aa c2;have c3:=Aa c3;have c4:=Aa c4;have O:=gB O;subst c1 c2 c3 c4;split
    ·rename_i id off len sz;split
     ·rename_i te es elems hh;refine Snd.cond fun I=>Snd.bind fun ob2 h2=>Snd.bind fun ob3 h3=>Snd.bind fun ob4 h4=>Snd.val fun _ hd J hc=>?_
      simp only[ζ] at I;have e1:=Aa I.1;have e2:=Aa I.2;subst e1;rw[e2] at hh;obtain⟨g1,g2⟩:=bB h4 hc;obtain⟨g3,g4,g5⟩:=bB h3 g1;obtain⟨g6,g7⟩:=bB h2 g3;subst g4 g5;exact⟨g6,aOp hT ho hd J hi hk q hb.1 hb.2 hv hh g7 hu Z O g2⟩
     ·exact Snd.none
    ·split
     ·rename_i hid;refine Snd.bind fun ob2 h2=>Snd.val fun _ hd J hc=>?_
      obtain⟨g1,g2⟩:=bB h2 hc;exact⟨g1,aL7 Y hT ho hd J hi hk q hb.1 hb.2 hv hid hu Z O g2⟩
     ·exact Snd.none
    ·exact Snd.none
   ·exact Snd.none
  ·exact Snd.none
 ·exact Snd.none
def a6v (P:Program) (f:FuncId):Bool:=match P.funcs[f]? with
 | some fn => !(fn.name == "runtime.NumGoroutine") && fn.body.isSome
 | none=>false
theorem wP {P:Program}{f:FuncId}(h:a6v P f=true):iI P f:=by
 unfold a6v at h;split at h
 ·rename_i fn q;simp only[ζ,B1] at h;refine⟨fn,q,h.1,?_⟩;cases hb:fn.body with
  | none=>rw[hb] at h;cases h.2
  | some _=>rfl
 ·cases h
def aWo (P:Program) (f:FuncId) (args:List V) (res:V):Prop:=a6v P f=true∧aW P f args [] res []
def uC (st:St):List Nat→List R→List Prop→Option (List Nat×List C×List Prop)
 | _,[],ob=>some ([],[],ob)
 | ty,r::rs,ob=>match r with
  | .c x=>(aNb ty [x]).bind fun y=>match y with
   | [y]=>(uC st ty.tail rs ob).bind fun(ids,cs,ob1)=>some (ids,y::cs,ob1)
   | _=>none
  | .hs id 0 len sz=>match st.h id with
   | some (.arr _ es elems 2)=>(uC st ty.tail rs ob).bind fun(ids,cs,ob1)=>some (id::ids,.sl es elems::cs,(sz=elems.length∧len=elems.length)::ob1)
   | _=>none
  | _=>none
theorem pD {st:St}:∀{rs:List R}{ty:List Nat}{ob q:List Prop}{ids:List Nat}{cs:List C},uC st ty rs ob=some (ids,cs,q)→jD q→jD ob∧PureL st.h ids rs cs
 | [],ty,ob,q,ids,cs,h,hc=>by
  cases ty<;>(simp only[uC] at h;cases h;exact⟨hc,.nil⟩)
 | r::rs,ty,ob,q,ids,cs,h,hc=>by
  rw[uC.eq_def] at h;dsimp only at h;split at h
  ·rename_i x;rw[Aj] at h;obtain⟨y,J,h⟩:=h;split at h
   ·rename_i y';rw[Aj] at h;obtain⟨⟨I,O,Y⟩,h1,h2⟩:=h;cases h2;obtain⟨g1,g2⟩:=pD h1 hc;rw[uN] at J;have hp:=nN (h:=st.h) ty [x];rw[Option.some.inj J] at hp;cases hp with
    | c hx _=>exact⟨g1,.c hx g2⟩
    | any _=>exact⟨g1,.any g2⟩
   ·cases h
  ·rename_i id len sz;split at h
   ·rename_i te es elems hh;rw[Aj] at h;obtain⟨⟨I,O,Y⟩,h1,h2⟩:=h;cases h2;obtain⟨g1,g2⟩:=pD h1 hc.2;exact⟨g1,.hs hh hc.1.1 (by rw[hc.1.2,B3,As]) g2⟩
   ·cases h
  ·cases h
def a0j (tr:Tr) (st:St) (v:V) (t:TypeId) (ob:List Prop):Option (List Nat×V×List Prop):=match v with
 | .one r=>(uC st (qD tr 300 [t]) [r] ob).bind fun(ids,cs,ob1)=>match cs with
  | [c]=>some (ids,.one (.c c),ob1)
  | _=>none
 | .pa l=>(aNb (qD tr 300 [t]) l).bind fun l'=>some ([],.pa l',ob)
 | .ma rs=>(uC st (qD tr 300 [t]) rs ob).bind fun(ids,cs,ob1)=>some (ids,.pa cs,ob1)
 | _=>none
theorem aVr {tr:Tr}{st:St}{v v':V}{t:TypeId}{ob q:List Prop}{ids:List Nat}(h:a0j tr st v t ob=some (ids,v',q)) (hc:jD q):(jD ob∧Conv st.h ids v v')∧v'.refs=[]:=by
 unfold a0j at h;split at h
 ·rw[Aj] at h;obtain⟨⟨y,I,J⟩,h1,h2⟩:=h;dsimp only at h2;split at h2
  ·cases h2;obtain⟨g1,g2⟩:=pD h1 hc;exact⟨⟨g1,.one g2⟩,by simp[V.refs,R.refs]⟩
  ·cases h2
 ·rw[Aj] at h;obtain⟨l',h1,h2⟩:=h;cases h2;rw[uN] at h1;cases h1;exact⟨⟨hc,.pa (nN _ _)⟩,by simp[V.refs]⟩
 ·rw[Aj] at h;obtain⟨⟨y,I,J⟩,h1,h2⟩:=h;cases h2;obtain⟨g1,g2⟩:=pD h1 hc;exact⟨⟨g1,.agg g2⟩,by simp[V.refs]⟩
 ·cases h
def aM7 (tr:Tr) (st:St):List Operand→List TypeId→List Prop→Option (List Nat×List V×List Prop)
 | [],_,ob=>some ([],[],ob)
 | x::xs,t::ts,ob=>(opO st x).bind fun v=>(a0j tr st v t ob).bind fun(ids1,v',ob1)=>(aM7 tr st xs ts ob1).bind fun(ids2,vs,ob2)=>some (ids1++ids2,v'::vs,ob2)
 | _::_,[],_=>none
theorem aLc {tr:Tr}{st:St}:∀{xs:List Operand}{ts:List TypeId}{ob q:List Prop}{ids:List Nat}{l:List V},aM7 tr st xs ts ob=some (ids,l,q)→jD q→(jD ob∧ArgsV st ids xs l)∧V.refsL l=[]
 | [],ts,ob,q,ids,l,h,hc=>by
  cases ts<;>(simp only[aM7] at h;cases h;exact⟨⟨hc,.nil⟩,by simp[V.refsL]⟩)
 | x::xs,[],ob,q,ids,l,h,hc=>by simp[aM7] at h
 | x::xs,t::ts,ob,q,ids,l,h,hc=>by
  simp only[aM7,dS,Aj] at h;obtain⟨v,y,⟨I,v',Y⟩,h1,⟨J,vs,Z⟩,h2,h3⟩:=h;cases h3;obtain⟨⟨g1,g2⟩,g3⟩:=aLc h2 hc;obtain⟨⟨k1,k2⟩,O⟩:=aVr h1 g1;exact⟨⟨k1,.cons y k2 g2⟩,by simp[V.refsL,O,g3]⟩
def aYe (P:Program) (tr:Tr) (o:Oper) (n:Nat) (st:St) (ob:List Prop) (res:V) (f:FuncId) (xs:Array Operand) (ts:Array TypeId):Ans:=(aM7 tr st xs.toList ts.toList ob).bind fun(ids,args,ob1)=>val o n ⟨dF xs.toList,ids⟩ res [] (aWo P f args res::ob1)
theorem aR9 {res:V}{f:FuncId}{xs:Array Operand}{ts:Array TypeId}(y:o.op=.call { callee:=.value (.func f),args:=xs,argTypes:=ts }):Snd P n o st ob (aYe P tr o n st ob res f xs ts):=by
 refine Snd.bind fun p ha=>?_
 obtain⟨ids,args,I⟩:=p;refine Snd.val fun d hd q hc=>?_
 obtain⟨⟨g1,g2⟩,g3⟩:=aLc ha hc.2;refine⟨g1,?_⟩;have:=aOo [] [] (wP hc.1.1) y hd q hc.1.2 g2 trivial trivial (by simp[callOk,g3,keys,dI,subset]);simpa [outs,keys] using this
def aSk (P:Program) (tr:Tr) (md:Bool) (o:Oper) (n:Nat) (st:St) (ob:List Prop) (hn:Hn) (id0:Nat) (c:Call):Ans:=match c.callee with
 | .builtin b=>match b,c.args.toList,c.argTypes.toList with
  | .len,[x],[t]=>a5v tr md o n st ob x t
  | .append,[x,y],[t,t']=>bif Nat.beq t t' then(match opO st y with | some (.one (.ra _ _ _ _))=>aFu tr md o n st ob id0 x y t | _=>aLb tr md o n st ob hn id0 x y t) else none
  | .min,[x,y],[_,_]=>(opO st x).bind fun v=>(opO st y).bind fun u=>match v,u with
   | .one (.c (.int k a)),.one (.c (.int k' b))=>bif decide (k=k') then val o n ⟨opr x++opr y,[]⟩ (.one (.c (.int k (if b<a then b else a)))) [] ob else none
   | _,_=>none
  | .max,[x,y],[_,_]=>(opO st x).bind fun v=>(opO st y).bind fun u=>match v,u with
   | .one (.c (.int k a)),.one (.c (.int k' b))=>bif decide (k=k') then val o n ⟨opr x++opr y,[]⟩ (.one (.c (.int k (if b>a then b else a)))) [] ob else none
   | _,_=>none
  | _,_,_=>none
 | .value (.func f)=>match hn with
  | .pc res=>aYe P tr o n st ob res f c.args c.argTypes
  | _=>none
 | _=>none
theorem arr1 {α:Type}{a:Array α}{x:α}(h:a.toList=[x]):a= #[x]:=by cases a;simp at h;simp[h]
theorem a1z {α:Type}{a:Array α}{x y:α}(h:a.toList=[x,y]):a= #[x,y]:=by cases a;simp at h;simp[h]
theorem aSj {hn:Hn}{Y:Nat}{c:Call}(hw:tr.wf=true) (O:Tok P tr.flat) (q:o.op=.call c):Snd P n o st ob (aSk P tr md o n st ob hn Y c):=by
 obtain⟨Z,args,aa⟩:=c;unfold aSk;dsimp only;split
 ·rename_i b;split
  ·rename_i x t h1 h2;have:=arr1 h1;have:=arr1 h2
   subst_vars
   exact aWd hw O q
  ·rename_i x y t t' h1 h2;have:=a1z h1;have:=a1z h2
   subst_vars
   refine Snd.cond fun ht=>?_
   have:=Aa ht;subst this;split
   ·exact aFt hw O q
   ·exact aHz hw O q
  ·rename_i x y t t' h1 h2;have:=a1z h1;have:=a1z h2
   subst_vars
   refine Snd.bind fun v I=>Snd.bind fun u hu=>?_
   rw[dS] at I hu;split
   ·refine Snd.cond fun hk=>?_
    have:=ψ hk;subst this;exact Snd.val fun _ hd J hc=>⟨hc,a7c q hd J I hu rfl⟩
   ·exact Snd.none
  ·rename_i x y t t' h1 h2;have:=a1z h1;have:=a1z h2
   subst_vars
   refine Snd.bind fun v I=>Snd.bind fun u hu=>?_
   rw[dS] at I hu;split
   ·refine Snd.cond fun hk=>?_
    have:=ψ hk;subst this;exact Snd.val fun _ hd J hc=>⟨hc,a7d q hd J I hu rfl⟩
   ·exact Snd.none
  ·exact Snd.none
 ·split
  ·exact aR9 q
  ·exact Snd.none
 ·exact Snd.none
def idO (hn:Hn) (d:Option Nat):Option Nat:=match hn with
 | .id n=>some n
 | _=>match d with
  | some d=>some d
  | none=>none
def aWa (P:Program) (tr:Tr) (md nat:Bool) (n:Nat) (st:St) (hn:Hn) (o:Oper) (ob:List Prop):Ans:=match o.op with
 | .move x=>aLa o n st ob x
 | .assign x=>aLa o n st ob x
 | .pick c x y=>aYf o n st ob hn c x y
 | .alloc t=>(idO hn o.dst).bind fun id=>aSm tr o n st ob id t
 | .box t x=>(idO hn o.dst).bind fun id=>a5w o n st ob id t x
 | .build t ps=>aSl tr o n st ob t ps
 | .buildSlice t len ps=>(idO hn o.dst).bind fun id=>aR8 tr o n st ob hn id t len ps
 | .load t x=>aYg tr md o n st ob hn t x
 | .store t x y=>aR7 tr md o st ob hn t x y
 | .nilCheck x=>a5u md o n st ob x
 | .slice t x l h m=>a07 tr md o n st ob t x l h m
 | .index t x y=>aSe tr o n st ob hn t x y
 | .convert src dst x=>aYi tr md o n st ob hn src dst x
 | .binOp op tx x y _=>a5x tr md nat o n st ob op tx x y
 | .unOp op _ x=>a89 md o n st ob op x
 | .makeFunc f a b=>aSg o n st ob f a b
 | .makeMap t r=>(idO hn o.dst).bind fun id=>a05 tr o n st ob id t r
 | .fieldAddr t x f=>vY tr md o n st ob t x f
 | .field t x f=>aSh tr o n st ob t x f
 | .indexAddr t x y=>vW tr md o n st ob hn t x y
 | .lookup t x y ok=>aB0 tr md o n st ob hn t x y ok
 | .mapUpdate t x y z=>lU tr md o st ob t x y z
 | .insert t x y z=>lU tr md o st ob t x y z
 | .extract x i=>aFs o n st ob x i
 | .call c=>(idO hn o.dst).bind fun id=>aSk P tr md o n st ob hn id c
 | _=>none
theorem aK9 {hn:Hn}(hw:tr.wf=true) (y:Tok P tr.flat):Snd P n o st ob (aWa P tr md nat n st hn o ob):=by
 unfold aWa;split
 ·rename_i q;exact aSc q
 ·rename_i q;exact aHy q
 ·rename_i q;exact aSa q
 ·rename_i q;exact Snd.bind fun _ _=>aM6 hw y q
 ·rename_i q;exact Snd.bind fun _ _=>aWg q
 ·rename_i q;exact aM5 hw y q
 ·rename_i q;exact Snd.bind fun _ _=>aM1 hw y q
 ·rename_i q;exact aSd hw y q
 ·rename_i q;exact aM0 hw y q
 ·rename_i q;exact aWb q
 ·rename_i q;exact aWf hw y q
 ·rename_i q;exact aM2 hw y q
 ·rename_i q;exact aSi hw y q
 ·rename_i q;exact aWh hw y q
 ·rename_i q;exact a04 q
 ·rename_i q;exact aSf q
 ·rename_i q;exact Snd.bind fun _ _=>aWc q
 ·rename_i q;exact wU hw y q
 ·rename_i q;exact aM4 hw y q
 ·rename_i q;exact wT hw y q
 ·rename_i q;exact aHv hw y q
 ·rename_i q;exact wR hw y q
 ·rename_i q;exact aHw hw y q
 ·rename_i q;exact aFr q
 ·rename_i q;exact Snd.bind fun _ _=>aSj hw y q
 ·exact Snd.none
theorem Step.freeze {rd:Rd}{q:Option (Nat×Option V)}{id te es z:Nat}{l:List (List C)}(h:Step P n o st rd ⟨q,[(id,some (.arr te es l z))]⟩):Step P n o st rd ⟨q,[(id,some (.arr te es l 2))]⟩:=by
 intro st' ha G S μ a w K Q hs y;refine h st' ha G S μ a w K Q hs fun S1 Y a1 I h1=>?_
 have hh:(Eff.apply ⟨q,[(id,some (.arr te es l z))]⟩ st').h id=some (.arr te es l z):=by
  show updL st'.h [(id,some (.arr te es l z))] id=_;rw[dG,aI]
 obtain⟨S2,J,h2⟩:=h1.freeze hh;refine y S2 J a1 I ?_;have O:upd (Eff.apply ⟨q,[(id,some (.arr te es l z))]⟩ st').h id (some (.arr te es l 2))=(Eff.apply ⟨q,[(id,some (.arr te es l 2))]⟩ st').h:=by
  show upd (updL st'.h [(id,some (.arr te es l z))]) id _=updL st'.h [(id,some (.arr te es l 2))];rw[dG,dG,mE]
 rw[O] at h2;exact h2
def a8m:Ans→Ans
 | some (rd,⟨dv,[(id,some (.arr te es l _))]⟩,ob')=>some (rd,⟨dv,[(id,some (.arr te es l 2))]⟩,ob')
 | _=>none
theorem a06 {r:Ans}(h:Snd P n o st ob r):Snd P n o st ob (a8m r):=by
 intro rd f q e hc;unfold a8m at e;split at e
 ·cases e;obtain⟨g1,g2⟩:=h _ _ _ rfl hc;exact⟨g1,g2.freeze⟩
 ·cases e
def a6w (P:Program) (tr:Tr) (md nat:Bool) (n:Nat) (st:St) (hn:Hn) (o:Oper) (ob:List Prop):Ans:=match hn with
 | .fz=>a8m (aWa P tr md nat n st .no o ob)
 | hn=>aWa P tr md nat n st hn o ob
theorem aSb {hn:Hn}(hw:tr.wf=true) (q:Tok P tr.flat):Snd P n o st ob (a6w P tr md nat n st hn o ob):=by
 unfold a6w;split
 ·exact a06 (aK9 hw q)
 ·exact aK9 hw q
def aHj:List Oper→Nat→Option Nat
 | [],_=>none
 | o::os,i=>bif Nat.beq i 0 then o.dst else aHj os (i-1)
theorem aKv:∀(os:List Oper) (i:Nat),aHj os i=(os[i]?).bind (·.dst)
 | [],i=>by simp[aHj]
 | o::os,0=>by simp[aHj]
 | o::os,i+1=>by
  have:Nat.beq (i+1) 0=false:=rfl;simp[aHj,this,aKv os i]
def axG (P:Program) (tr:Tr) (md nat:Bool) (n:Nat) (all:List Oper) (hs:List (Nat×Hn)) (k:Nat) (o:Oper) (st:St) (ob:List Prop):Ans:=match o.guard with
 | none=>a6w P tr md nat n st (aEm hs k) o ob
 | some (j,want)=>(aHj all j).bind fun t=>(st.e t).bind fun v=>match v with
  | .one (.c (.bool b))=>match aTp (match aEm hs j with | .bv w=>.bv w | _=>.no) b ob with
   | (w,ob1)=>bif w==want then(a6w P tr md nat n st (aEm hs k) o ob1).bind fun(rd,f,ob2)=>some (⟨t::rd.e,rd.h⟩,f,ob2)
    else match o.dst with
     | some d=>bif Nat.blt d n then some (⟨[t],[]⟩,⟨some (d,some (.tup [])),[]⟩,ob1) else none
     | none=>none
  | .tup []=>match o.dst with
   | some d=>bif Nat.blt d n then some (⟨[t],[]⟩,⟨some (d,some (.tup [])),[]⟩,ob) else none
   | none=>none
  | _=>none
theorem aYh {ops:Array Oper}{hs:List (Nat×Hn)}{k:Nat}{rd:Rd}{f:Eff}{J:List Prop}(hw:tr.wf=true) (Z:Tok P tr.flat) (I:ops[k]?=some o) (h:axG P tr md nat n ops.toList hs k o st ob=some (rd,f,J)):jD J→jD ob∧GStep P n ops k st rd f:=by
 intro hc;unfold axG at h;split at h
 ·rename_i y;obtain⟨h1,h2⟩:=aSb hw Z _ _ _ h hc;exact⟨h1,GStep.plain I y h2⟩
 ·rename_i j want y;rw[Aj] at h;obtain⟨t,ht,h⟩:=h;rw[Aj] at h;obtain⟨v,Y,h⟩:=h;have hj:(ops[j]?).bind (·.dst)=some t:=by
   rw[aKv] at ht;simpa using ht
  split at h
  ·rename_i b;split at h;rename_i w aa O;cases q:w==want with
   | true=>
    rw[q] at h;simp only[Bv] at h;rw[Aj] at h;obtain⟨⟨ab,f1,ac⟩,h1,h2⟩:=h;cases h2;obtain⟨g1,g2⟩:=aSb hw Z _ _ _ h1 hc;obtain⟨g3,g4⟩:=sM O g1;exact⟨g3,GStep.yes I y hj Y (g4.trans (eq_of_beq q)) g2⟩
   | false=>
    rw[q] at h;simp only[B0] at h;split at h
    ·rename_i d hd;obtain⟨h1,h2⟩:=fO h;cases h2;obtain⟨g3,g4⟩:=sM O hc;refine⟨g3,GStep.no I y hd (gB h1) hj Y g4 ?_⟩;cases w<;>cases want<;>first | rfl | (cases q)
    ·cases h
  ·split at h
   ·rename_i d hd;obtain⟨h1,h2⟩:=fO h;cases h2;exact⟨hc,GStep.un I y hd (gB h1) hj Y⟩
   ·cases h
  ·cases h
def yS (P:Program) (tr:Tr) (md nat:Bool) (n:Nat) (all:List Oper) (hs:List (Nat×Hn)):Nat→Nat→List Oper→(Nat→Option V)→dD→List Nat→REs→List Prop→Option (St×Nat×REs×List Prop)
 | 0,k,_,e,h,d,pre,ob=>some (⟨e,h,d⟩,k,pre,ob)
 | _+1,k,[],e,h,d,pre,ob=>some (⟨e,h,d⟩,k,pre,ob)
 | m+1,k,o::os,e,h,d,pre,ob=>(axG P tr md nat n all hs k o ⟨e,h,d⟩ ob).bind fun(rd,f,ob1)=>match f with
  | ⟨some (t,v),[]⟩=>yS P tr md nat n all hs m (k+1) os (upd e t v) h d ((rd,⟨some (t,v),[]⟩)::pre) ob1
  | ⟨some (t,v),[(id,x)]⟩=>yS P tr md nat n all hs m (k+1) os (upd e t v) (upd h id x) d ((rd,⟨some (t,v),[(id,x)]⟩)::pre) ob1
  | ⟨none,[(id,x)]⟩=>yS P tr md nat n all hs m (k+1) os e (upd h id x) d ((rd,⟨none,[(id,x)]⟩)::pre) ob1
  | _=>none
theorem aHx {ops:Array Oper}{hs:List (Nat×Hn)}{draw:Bool}(hw:tr.wf=true) (hT:Tok P tr.flat):∀(m k:Nat) (os:List Oper) (e:Nat→Option V) (h:dD) (d:List Nat) (pre:REs) (ob:List Prop) (st':St) (k':Nat) (pre':REs) (I:List Prop),os=ops.toList.drop k→
  yS P tr md nat n ops.toList hs m k os e h d pre ob=some (st',k',pre',I)→jD I→jD ob∧∀Q,kD P n ops draw k' st' pre' Q→kD P n ops draw k ⟨e,h,d⟩ pre Q:=by
 intro m
 induction m with
 | zero=>
  intro k os e h d pre ob st' k' pre' I _ q hc;simp only[yS] at q;cases q;exact⟨hc,fun Q J=>J⟩
 | succ m Z=>
  intro k os e h d pre ob st' k' pre' I Y q hc;cases os with
  | nil=>
   simp only[yS] at q;cases q;exact⟨hc,fun Q J=>J⟩
  | cons o os=>
   have ho:ops[k]?=some o:=by
    have:(ops.toList.drop k)[0]?=some o:=by rw[←Y];rfl
    simpa using this
   have y:os=ops.toList.drop (k+1):=by
    have:os=(ops.toList.drop k).tail:=by rw[←Y];rfl
    rw[this,List.tail_drop]
   simp only[yS,Aj] at q;obtain⟨⟨rd,f,aa⟩,h1,h2⟩:=q;have key:∀{O:St},jD aa→O=f.apply ⟨e,h,d⟩→(∀Q,kD P n ops draw k' st' pre' Q→kD P n ops draw (k+1) O ((rd,f)::pre) Q)→jD ob∧∀Q,kD P n ops draw k' st' pre' Q→kD P n ops draw k ⟨e,h,d⟩ pre Q:=by
    intro O ab ac hk;obtain⟨g1,g2⟩:=aYh hw hT ho h1 ab;subst ac;exact⟨g1,fun Q J=>k_ g2 (hk Q J)⟩
   split at h2
   ·rename_i heq;have heq:f=_:=heq;subst heq;obtain⟨g1,g2⟩:=Z _ _ _ _ _ _ _ _ _ _ _ y h2 hc;exact key g1 (by simp only[Eff.apply,aIr]) g2
   ·rename_i heq;have heq:f=_:=heq;subst heq;obtain⟨g1,g2⟩:=Z _ _ _ _ _ _ _ _ _ _ _ y h2 hc;exact key g1 (by simp only[Eff.apply,dG]) g2
   ·rename_i heq;have heq:f=_:=heq;subst heq;obtain⟨g1,g2⟩:=Z _ _ _ _ _ _ _ _ _ _ _ y h2 hc;exact key g1 (by simp only[Eff.apply,dG]) g2
   ·cases h2
end
section
variable {ro:Option Nat}{P:Program}{n:Nat}{ops:Array Oper}{draw:Bool}{k k':Nat}{st st':St}{pre pre':REs}{Q:St→Prop}{tr:Tr}{ob:List Prop}
theorem ax_ {hs:List (Nat×Hn)}{md nat:Bool}(m:Nat) (hw:tr.wf=true) (q:Tok P tr.flat) (h:yS P tr md nat n ops.toList hs m k (ops.toList.drop k) st.e st.h st.d pre []=some (st',k',pre',ob)) (hc:jD ob) (hk:kD P n ops draw k' st' pre' Q):kD P n ops draw k st pre Q:=
 (aHx hw q m k _ st.e st.h st.d pre [] st' k' pre' ob rfl h hc).2 Q hk
theorem aYj {hs:List (Nat×Hn)}{md nat:Bool}{kf:List Nat}{id:Nat}{Q:Exit→St→Prop}(hm:P.follows .mixedOrders=true) (hw:tr.wf=true) (q:Tok P tr.flat) (h:yS P tr md nat n ops.toList hs 1000 0 ops.toList st.e st.h st.d [] []=some (st',k',pre',ob)) (hc:jD ob)
  (h1:Nat.beq k' ops.size=true) (h2:(!draw || (gJ (qU ops) pre'.reverse []&&j3 ops))=true) (y:Q .normal st'):AWp ro P n kf (.region id ops draw) st Q:=
 aE hm ((aHx hw q 1000 0 _ st.e st.h st.d [] [] st' k' pre' ob rfl h hc).2 _ (z_ h1 h2 y))
end
theorem hs_all {h:dD}{id te es n:Nat}{l l':List (List C)}{fz:Nat}(h1:h id=some (.arr te es l fz)) (q:fz=2) (h2:n=l.length) (h3:l=l'):Conv h [id] (.one (.hs id 0 n n)) (.one (.c (.sl es l'))):=by
 subst h2;subst h3;subst q;exact .one (.hs h1 rfl (by rw[B3,As]) .nil)
section
variable {P:Program}{n:Nat}{ops:Array Oper}{draw:Bool}{k d:Nat}{st:St}{pre:REs}{Q:St→Prop}{o:Oper}{f:FuncId}{xs:Array Operand}{ts:Array TypeId}{ids:List Nat}{args:List V}{res:V}{hin hout:List (Nat×AObj)}
theorem kc (I:aW P f args hin res hout)
  (hk:kD P n ops draw (k+1) ⟨upd st.e d (some res),updL st.h (outs hout),st.d⟩ ((⟨dF xs.toList,ids++keys hin++keys hout⟩,⟨some (d,some res),outs hout⟩)::pre) Q)
  (hb:iI P f:=by exact wP (by kernel_rfl)) (J:ops[k]?=some o:=by rfl) (O:o.guard=none:=by rfl) (q:o.op=.call { callee:=.value (.func f),args:=xs,argTypes:=ts }:=by rfl) (hd:o.dst=some d:=by rfl) (y:Nat.blt d n=true:=by rfl)
  (ha:ArgsV st ids xs.toList args:=by repeat (first | exact .nil | (apply Go.AM.ArgsV.cons rfl;(first | exact .refl | exact .one (.c .nl .nil) | exact .one (.c .sn .nil) | exact .one (.hs rfl (by first | rfl | simp) (by first | rfl | (simp;done) | (simp[Go.AM.take_map];done) | exact Go.AM.take_map.symm) .nil) | exact Go.AM.hs_all rfl rfl (by first | rfl | assumption | (simp;done) | (simp;omega)) (by first | rfl | assumption | (simp;done)) | ((first | apply Go.AM.Conv.pa | apply Go.AM.Conv.agg);repeat (first | exact .nil | apply Go.AM.PureL.c .refl | apply Go.AM.PureL.c .nl | apply Go.AM.PureL.c .sn | (apply Go.AM.PureL.hs;rfl;(first | rfl | simp);(first | rfl | (simp;done) | (simp[Go.AM.take_map];done) | exact Go.AM.take_map.symm))))))))
  (hin':dU (fun p=>st.h p.1=some p.2) hin:=by repeat (first | exact trivial | refine⟨rfl,?_⟩)) (hout':dU (fun p=>p.1∈keys hin∨st.h p.1=none) hout:=by repeat (first | exact trivial | refine⟨.inr rfl,?_⟩ | refine⟨.inl (by decide),?_⟩ | refine⟨.inl (by repeat (first | exact List.Mem.head _ | apply List.Mem.tail)),?_⟩)) (hok:callOk args hin=true:=by rfl):kD P n ops draw k st pre Q:=
 k_ (g_ J O (aOo hin hout hb q hd (gB y) I ha hin' hout' hok)) hk
theorem kv {x:Operand}{caps:List R}(I:aW P f (args++caps.map V.one) hin res hout)
  (hk:kD P n ops draw (k+1) ⟨upd st.e d (some res),updL st.h (outs hout),st.d⟩ ((⟨opr x++dF xs.toList,ids++keys hin++keys hout⟩,⟨some (d,some res),outs hout⟩)::pre) Q)
  (hb:iI P f:=by exact wP (by kernel_rfl)) (J:ops[k]?=some o:=by rfl) (O:o.guard=none:=by rfl) (q:o.op=.call { callee:=.value x,args:=xs,argTypes:=ts }:=by rfl) (hd:o.dst=some d:=by rfl) (y:Nat.blt d n=true:=by rfl) (hx:opv st x=some (.one (.clo f caps)):=by rfl)
  (ha:ArgsV st ids xs.toList args:=by repeat (first | exact .nil | (apply Go.AM.ArgsV.cons rfl;(first | exact .refl | exact .one (.c .nl .nil) | exact .one (.c .sn .nil) | exact .one (.hs rfl (by first | rfl | simp) (by first | rfl | (simp;done) | (simp[Go.AM.take_map];done) | exact Go.AM.take_map.symm) .nil) | exact Go.AM.hs_all rfl rfl (by first | rfl | assumption | (simp;done) | (simp;omega)) (by first | rfl | assumption | (simp;done)) | ((first | apply Go.AM.Conv.pa | apply Go.AM.Conv.agg);repeat (first | exact .nil | apply Go.AM.PureL.c .refl | apply Go.AM.PureL.c .nl | apply Go.AM.PureL.c .sn | (apply Go.AM.PureL.hs;rfl;(first | rfl | simp);(first | rfl | (simp;done) | (simp[Go.AM.take_map];done) | exact Go.AM.take_map.symm))))))))
  (hin':dU (fun p=>st.h p.1=some p.2) hin:=by repeat (first | exact trivial | refine⟨rfl,?_⟩)) (hout':dU (fun p=>p.1∈keys hin∨st.h p.1=none) hout:=by repeat (first | exact trivial | refine⟨.inr rfl,?_⟩ | refine⟨.inl (by decide),?_⟩ | refine⟨.inl (by repeat (first | exact List.Mem.head _ | apply List.Mem.tail)),?_⟩)) (hok:callOk (args++caps.map V.one) hin=true:=by rfl):kD P n ops draw k st pre Q:=
 k_ (g_ J O (aAb hin hout hb q hd (gB y) hx I ha hin' hout' hok)) hk
theorem km {x:Operand}{recv:R}(I:aW P f (.one recv::args) hin res hout)
  (hk:kD P n ops draw (k+1) ⟨upd st.e d (some res),updL st.h (outs hout),st.d⟩ ((⟨opr x++dF xs.toList,ids++keys hin++keys hout⟩,⟨some (d,some res),outs hout⟩)::pre) Q)
  (hb:iI P f:=by exact wP (by kernel_rfl)) (J:ops[k]?=some o:=by rfl) (O:o.guard=none:=by rfl) (q:o.op=.call { callee:=.value x,args:=xs,argTypes:=ts }:=by rfl) (hd:o.dst=some d:=by rfl) (y:Nat.blt d n=true:=by rfl) (hx:opv st x=some (.one (.mth f recv)):=by rfl)
  (ha:ArgsV st ids xs.toList args:=by repeat (first | exact .nil | (apply Go.AM.ArgsV.cons rfl;(first | exact .refl | exact .one (.c .nl .nil) | exact .one (.c .sn .nil) | exact .one (.hs rfl (by first | rfl | simp) (by first | rfl | (simp;done) | (simp[Go.AM.take_map];done) | exact Go.AM.take_map.symm) .nil) | exact Go.AM.hs_all rfl rfl (by first | rfl | assumption | (simp;done) | (simp;omega)) (by first | rfl | assumption | (simp;done)) | ((first | apply Go.AM.Conv.pa | apply Go.AM.Conv.agg);repeat (first | exact .nil | apply Go.AM.PureL.c .refl | apply Go.AM.PureL.c .nl | apply Go.AM.PureL.c .sn | (apply Go.AM.PureL.hs;rfl;(first | rfl | simp);(first | rfl | (simp;done) | (simp[Go.AM.take_map];done) | exact Go.AM.take_map.symm))))))))
  (hin':dU (fun p=>st.h p.1=some p.2) hin:=by repeat (first | exact trivial | refine⟨rfl,?_⟩)) (hout':dU (fun p=>p.1∈keys hin∨st.h p.1=none) hout:=by repeat (first | exact trivial | refine⟨.inr rfl,?_⟩ | refine⟨.inl (by decide),?_⟩ | refine⟨.inl (by repeat (first | exact List.Mem.head _ | apply List.Mem.tail)),?_⟩)) (hok:callOk (.one recv::args) hin=true:=by rfl):kD P n ops draw k st pre Q:=
 k_ (g_ J O (aZi hin hout hb q hd (gB y) hx I ha hin' hout' hok)) hk
end
inductive Res where
 | leaf (st:St) (k:Nat) (pre:REs) (ob:List Prop)
 | fork (b:Bool) (x y:Res)
def Res.obs:Res→Prop
 | .leaf _ _ _ ob=>jD ob
 | .fork b x y=>(b=true→x.obs)∧(b=false→y.obs)
def Res.good (ops:Array Oper) (draw:Bool):Res→Bool
 | .leaf _ k pre _=>Nat.beq k ops.size&&(!draw || (gJ (qU ops) pre.reverse []&&j3 ops))
 | .fork _ x y=>x.good ops draw&&y.good ops draw
def Res.all (Q:St→Prop):Res→Prop
 | .leaf st _ _ _=>Q st
 | .fork b x y=>(b=true→x.all Q)∧(b=false→y.all Q)
def aZ0:Nat→List Nat→Bool
 | _,[]=>false
 | i,x::l=>bif Nat.beq i x then true else aZ0 i l
theorem aKb:∀{i:Nat}{l:List Nat},aZ0 i l=true↔i∈l
 | i,[]=>by simp[aZ0]
 | i,x::l=>by
  simp only[aZ0];cases h:Nat.beq i x with
  | true=>have:=Aa h;simp[this]
  | false=>
   have:i≠x:=fun e=>by subst e;simp at h
   simp[this,aKb]
def a4n (all:List Oper) (dec:List Nat) (o:Oper):Option Nat:=
 match (match o.guard with | some (j,_)=>(aHj all j).bind fun t=>bif aZ0 t dec then none else some t | none=>none) with
 | some t=>some t
 | none=>match o.op with
  | .pick (.tmp t) _ _=>bif aZ0 t dec then none else some t
  | _=>none
def qK (P:Program) (tr:Tr) (md nat:Bool) (n:Nat) (all:List Oper) (hs:List (Nat×Hn)) (W:List Nat):Nat→Nat→List Oper→(Nat→Option V)→dD→List Nat→List Nat→REs→List Prop→Option Res
 | 0,_,_,_,_,_,_,_,_=>none
 | _+1,k,[],e,h,d,_,pre,ob=>some (.leaf ⟨e,h,d⟩ k pre ob)
 | m+1,k,o::os,e,h,d,dec,pre,ob=>match a4n all dec o with
  | some t=>match e t with
   | some (.one (.c (.bool b)))=>(qK P tr md nat n all hs W m k (o::os) (upd e t (some (.one (.c (.bool true))))) h d (t::dec) pre ob).bind fun x=>
     (qK P tr md nat n all hs W m k (o::os) (upd e t (some (.one (.c (.bool false))))) h d (t::dec) pre ob).bind fun y=>some (.fork b x y)
   | _=>qK P tr md nat n all hs W m k (o::os) e h d (t::dec) pre ob
  | none=>(axG P tr md nat n all hs k o ⟨e,h,d⟩ ob).bind fun(rd,f,ob1)=>match f with
   | ⟨some (t,v),[]⟩=>bif aZ0 t W then qK P tr md nat n all hs W m (k+1) os (upd e t v) h d dec ((rd,⟨some (t,v),[]⟩)::pre) ob1 else none
   | _=>none
section
variable {P:Program}{n:Nat}{tr:Tr}{md nat:Bool}
theorem aIq {e:Nat→Option V}{t:Nat}{x:Option V}(h:e t=x):upd e t x=e:=by
 funext i;simp only[upd];split
 ·rename_i hb;rw[Aa hb,h]
 ·rfl
theorem aWe {ops:Array Oper}{hs:List (Nat×Hn)}{W:List Nat}{draw:Bool}(hw:tr.wf=true) (hT:Tok P tr.flat):∀(m k:Nat) (os:List Oper) (e:Nat→Option V) (h:dD) (d dec:List Nat) (pre:REs) (ob:List Prop) (res:Res),os=ops.toList.drop k→
  qK P tr md nat n ops.toList hs W m k os e h d dec pre ob=some res→res.obs→res.good ops draw=true→∀Q,res.all Q→jD ob∧kD P n ops draw k ⟨e,h,d⟩ pre Q:=by
 intro m
 induction m with
 | zero=>intro k os e h d dec pre ob res _ I;simp[qK] at I
 | succ m Z=>
  intro k os e h d dec pre ob res J I O q Q Y;cases os with
  | nil=>
   simp only[qK] at I;cases I;simp only[Res.good,ζ] at q;exact⟨O,z_ q.1 q.2 Y⟩
  | cons o os=>
   have hok:ops[k]?=some o:=by
    have:(ops.toList.drop k)[0]?=some o:=by rw[←J];rfl
    simpa using this
   have aa:os=ops.toList.drop (k+1):=by
    have:os=(ops.toList.drop k).tail:=by rw[←J];rfl
    rw[this,List.tail_drop]
   simp only[qK] at I;split at I
   ·rename_i t _;split at I
    ·rename_i b hb;rw[Aj] at I;obtain⟨x,hx,I⟩:=I;rw[Aj] at I;obtain⟨y,hy,I⟩:=I;cases I;simp only[Res.obs] at O;simp only[Res.good,ζ] at q;simp only[Res.all] at Y;cases b with
     | true=>
      rw[aIq hb] at hx;exact Z _ _ _ _ _ _ _ _ _ J hx (O.1 rfl) q.1 Q (Y.1 rfl)
     | false=>
      rw[aIq hb] at hy;exact Z _ _ _ _ _ _ _ _ _ J hy (O.2 rfl) q.2 Q (Y.2 rfl)
    ·exact Z _ _ _ _ _ _ _ _ _ J I O q Q Y
   ·rw[Aj] at I;obtain⟨⟨rd,f,ob1⟩,h1,h2⟩:=I;dsimp only at h2;split at h2
    ·obtain⟨_,h3⟩:=fO h2;obtain⟨g1,g2⟩:=Z _ _ _ _ _ _ _ _ _ aa h3 O q Q Y;obtain⟨g3,g4⟩:=aYh hw hT hok h1 g1;refine⟨g3,k_ g4 ?_⟩;simpa only[Eff.apply,aIr] using g2
    ·cases h2
def Res.keep (e0:Nat→Option V) (h0:dD) (d0:List Nat) (W:List Nat):Res→Prop
 | .leaf st _ _ _=>(∀t,t∉W→∀v,e0 t=some v→st.e t=some v)∧st.h=h0∧st.d=d0
 | .fork b x y=>(b=true→x.keep e0 h0 d0 W)∧(b=false→y.keep e0 h0 d0 W)
theorem aM3 {all:List Oper}{hs:List (Nat×Hn)}{W:List Nat}{e0:Nat→Option V}:∀(m k:Nat) (os:List Oper) (e:Nat→Option V) (h:dD) (d dec:List Nat) (pre:REs) (ob:List Prop) (res:Res),
  qK P tr md nat n all hs W m k os e h d dec pre ob=some res→(∀t,t∉W→∀v,e0 t=some v→e t=some v)→res.keep e0 h d W:=by
 intro m
 induction m with
 | zero=>intro k os e h d dec pre ob res q;simp[qK] at q
 | succ m I=>
  intro k os e h d dec pre ob res q he;cases os with
  | nil=>
   simp only[qK] at q;cases q;exact⟨he,rfl,rfl⟩
  | cons o os=>
   simp only[qK] at q;split at q
   ·rename_i t _;split at q
    ·rename_i b hb;rw[Aj] at q;obtain⟨x,hx,q⟩:=q;rw[Aj] at q;obtain⟨y,J,q⟩:=q;cases q;refine⟨fun O=>?_,fun Y=>?_⟩
     ·subst O;rw[aIq hb] at hx;exact I _ _ _ _ _ _ _ _ _ hx he
     ·subst Y;rw[aIq hb] at J;exact I _ _ _ _ _ _ _ _ _ J he
    ·exact I _ _ _ _ _ _ _ _ _ q he
   ·rw[Aj] at q;obtain⟨⟨rd,f,aa⟩,h1,h2⟩:=q;dsimp only at h2;split at h2
    ·obtain⟨hm,h3⟩:=fO h2;refine I _ _ _ _ _ _ _ _ _ h3 fun s hs u hu=>?_
     have Z:s≠_:=fun e=>hs (by rw[e];exact aKb.1 hm)
     rw[aV _ _ _ Z];exact he s hs u hu
    ·cases h2
def Res.boolAt (w:Nat):Res→Option Bool
 | .leaf st _ _ _=>match st.e w with
  | some (.one (.c (.bool x)))=>some x
  | _=>none
 | .fork b x y=>(x.boolAt w).bind fun p=>(y.boolAt w).bind fun q=>some (bif b then p else q)
theorem Res.boolAt_all {w:Nat}:∀{r:Res}{x:Bool},r.boolAt w=some x→r.all fun st=>st.e w=some (.one (.c (.bool x)))
 | .leaf st _ _ _,x,h=>by
  simp only[Res.boolAt] at h;split at h
  ·rename_i hx;cases h;exact hx
  ·cases h
 | .fork b p q,x,h=>by
  simp only[Res.boolAt,Aj] at h;obtain⟨u,hu,v,y,h⟩:=h;cases h;refine⟨fun hb=>?_,fun hb=>?_⟩
  ·subst hb;exact Res.boolAt_all hu
  ·subst hb;exact Res.boolAt_all y
def uS (res:Res):List Nat→Option (List (Nat×Option V))
 | []=>some []
 | w::ws=>(uS res ws).bind fun l=>match res.boolAt w with
  | some x=>some ((w,some (.one (.c (.bool x))))::l)
  | none=>some ((w,none)::l)
def oB (e:Nat→Option V):List (Nat×Option V)→Nat→Option V
 | [],t=>e t
 | (w,v)::l,t=>bif Nat.beq t w then v else oB e l t
theorem aD6 {res:Res}{e0:Nat→Option V}{t:Nat}:∀{W:List Nat}{L:List (Nat×Option V)},uS res W=some L→oB e0 L t=if t∈W then(res.boolAt t).map (fun x=>V.one (.c (.bool x))) else e0 t
 | [],L,h=>by
  simp only[uS] at h;cases h;simp[oB]
 | w::ws,L,h=>by
  simp only[uS,Aj] at h;obtain⟨l,hl,h⟩:=h;have y:=aD6 (e0:=e0) (t:=t) hl;have hL:L=(w,(res.boolAt w).map (fun x=>V.one (.c (.bool x))))::l:=by
   split at h
   ·rename_i x hx;cases h;rw[hx];rfl
   ·rename_i hx;cases h;rw[hx];rfl
  subst hL;simp only[oB];by_cases q:t=w
  ·subst q;simp
  ·have hb:Nat.beq t w=false:=by
    cases hb:Nat.beq t w with
    | true=>exact absurd (Aa hb) q
    | false=>rfl
   rw[hb,B0,y];simp[q]
theorem Res.all_mono {Q Q':St→Prop}(h:∀st,Q st→Q' st):∀{r:Res},r.all Q→r.all Q'
 | .leaf st _ _ _,k=>h st k
 | .fork _ _ _,k=>⟨fun hb=>Res.all_mono h (k.1 hb),fun hb=>Res.all_mono h (k.2 hb)⟩
theorem Res.all_forall {α:Type}{Q:α→St→Prop}:∀{r:Res},(∀a,r.all (Q a))→r.all fun st=>∀a,Q a st
 | .leaf _ _ _ _,k=>fun a=>k a
 | .fork _ _ _,k=>⟨fun hb=>Res.all_forall fun a=>(k a).1 hb,fun hb=>Res.all_forall fun a=>(k a).2 hb⟩
theorem Res.all_and {Q Q':St→Prop}:∀{r:Res},r.all Q→r.all Q'→r.all fun st=>Q st∧Q' st
 | .leaf _ _ _ _,h,k=>⟨h,k⟩
 | .fork _ _ _,h,k=>⟨fun hb=>Res.all_and (h.1 hb) (k.1 hb),fun hb=>Res.all_and (h.2 hb) (k.2 hb)⟩
theorem Res.keep_at {e0:Nat→Option V}{h0:dD}{d0 W:List Nat}{t:Nat}{v:V}(ht:t∉W) (q:e0 t=some v):∀{r:Res},r.keep e0 h0 d0 W→r.all fun st=>st.e t=some v
 | .leaf _ _ _ _,k=>k.1 t ht v q
 | .fork _ _ _,k=>⟨fun hb=>Res.keep_at ht q (k.1 hb),fun hb=>Res.keep_at ht q (k.2 hb)⟩
theorem Res.keep_hd {e0:Nat→Option V}{h0:dD}{d0 W:List Nat}:∀{r:Res},r.keep e0 h0 d0 W→r.all fun st=>st.h=h0∧st.d=d0
 | .leaf _ _ _ _,k=>k.2
 | .fork _ _ _,k=>⟨fun hb=>Res.keep_hd (k.1 hb),fun hb=>Res.keep_hd (k.2 hb)⟩
theorem aU0 {res:Res}{e0:Nat→Option V}{h0:dD}{d0 W:List Nat}{L:List (Nat×Option V)}(h:uS res W=some L) (hk:res.keep e0 h0 d0 W):res.all fun st=>(∀p:Nat×V,oB e0 L p.1=some p.2→st.e p.1=some p.2)∧(st.h=h0∧st.d=d0):=by
 refine Res.all_and (Res.all_forall fun p=>?_) (Res.keep_hd hk);by_cases q:oB e0 L p.1=some p.2
 ·refine Res.all_mono (fun st h _=>h) (?_:res.all fun st=>st.e p.1=some p.2);rw[aD6 h] at q;by_cases ht:p.1∈W
  ·rw[κ ht,Ar] at q;obtain⟨x,hx,q⟩:=q;rw[←q];exact Res.boolAt_all hx
  ·rw[θ ht] at q;exact Res.keep_at ht q hk
 ·have:∀r:Res,r.all fun st=>oB e0 L p.1=some p.2→st.e p.1=some p.2:=by
   intro r
   induction r with
   | leaf st k pre ob=>exact fun h=>absurd h q
   | fork b x y I J=>exact⟨fun _=>I,fun _=>J⟩
  exact this res
theorem Sub.weak {kf:List Nat}{q st2:St}(he:∀p:Nat×V,st2.e p.1=some p.2→q.e p.1=some p.2) (hh:q.h=st2.h) (hd:q.d=st2.d):Sub kf st2 q:=by
 intro G n S μ a w _ hs;refine⟨S,μ,⟨?_,hs.size,?_,fun t v e=>?_⟩⟩
 ·rw[←hh];exact hs.inv
 ·rw[←hh,←hd];exact hs.defers
 ·rw[←hh];exact hs.env t v (he (t,v) e)
def a1x:List Oper→List Nat
 | []=>[]
 | o::os=>match o.dst with
  | some t=>t::a1x os
  | none=>a1x os
theorem a09 {ro:Option Nat}{ops:Array Oper}{draw:Bool}{st:St}{y:Nat→Option V}{h1:dD}{d1:List Nat}{k1:Nat}{q:REs}{I:List Prop}{res:Res}{L:List (Nat×Option V)}{hs:List (Nat×Hn)}{kf:List Nat}{id:Nat}{Q:Exit→St→Prop}(m:Nat) (hm:P.follows .mixedOrders=true) (hw:tr.wf=true) (Y:Tok P tr.flat)
  (g1:yS P tr md nat n ops.toList hs m 0 ops.toList st.e st.h st.d [] []=some (⟨y,h1,d1⟩,k1,q,I))
  (g2:qK P tr md nat n ops.toList hs (a1x (ops.toList.drop k1)) 1000 k1 (ops.toList.drop k1) y h1 d1 [] q I=some res)
  (g3:uS res (a1x (ops.toList.drop k1))=some L) (ho:res.obs) (hg:res.good ops draw=true) (hq:Q .normal ⟨oB y L,h1,d1⟩):AWp ro P n kf (.region id ops draw) st Q:=by
 have hk:=aM3 (P:=P) (tr:=tr) (md:=md) (nat:=nat) (n:=n) (e0:=y) _ _ _ _ _ _ _ _ _ _ g2 (fun _ _ _ h=>h);have Z:=aU0 g3 hk;have J:res.all fun st'=>Sub kf ⟨oB y L,h1,d1⟩ st':=Res.all_mono (fun st h=>Sub.weak h.1 h.2.1 h.2.2) Z
 obtain⟨aa,O⟩:=aWe (draw:=draw) hw Y _ _ _ _ _ _ _ _ _ _ rfl g2 ho hg _ J;exact a08 _ hm ((aHx hw Y m 0 _ st.e st.h st.d [] [] _ k1 q I rfl g1 aa).2 _ O) hq
end
end Go.AM
