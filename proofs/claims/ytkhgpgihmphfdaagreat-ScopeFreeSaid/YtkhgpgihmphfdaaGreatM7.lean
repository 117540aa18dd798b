/-
  Texts La5 to Rd18 in one.
-/
import Derived.Test.YtkhgpgihmphfdaaGreatM6
import Derived.ControlIn
open List (append_assoc cons_append drop_drop drop_eq_getElem_cons drop_length drop_zero foldl_append length_append length_cons length_drop length_map length_nil length_singleton length_take map_append map_cons mem_append mem_cons mem_cons_of_mem mem_cons_self mem_of_mem_take mem_singleton nil_append not_mem_nil take_add_one take_append_drop take_length take_of_length_le take_succ_cons take_zero)
open Nat (add_mul le_refl le_trans lt_irrefl min_eq_left mul_le_mul_right zero_le)
namespace Go.Proofs.YtkhgpgihmphfdaaGreat
open Go Go.AM
set_option maxRecDepth 20000
def zTy:Ty:=.mk 0 0 [] []
theorem aTu (l:List Int) (k:Nat) (g:Fits l) (u:k≤1000):aU Tryz.prog 46 [.one (.c (.sl 1 (l.map xB))),I .i64 k] [] (.one (.c (.sl 1 ((l.take k).map xB)))) []:=by
 unfold Fits at g;refine bC (n:=14) tok Tryz.func46 rfl rfl rfl ?_;refine sg rfl (sg rfl (sk 6 rfl ?_));have hm:(if(k:Int)<(((l.map xB).length:Nat):Int) then(k:Int) else(((l.map xB).length:Nat):Int))=((min l.length k:Nat):Int):=by
  rw[κ];split<;>omega
 rw[hm];have q:(l.map xB).take (min l.length k)=(l.take k).map xB:=by
  rw[←List.map_take];congr 1;by_cases h:k≤l.length
  ·rw[Nat.min_eq_right h]
  ·rw[Cr (by omega),Av (le_refl _),Av (by omega)]
 have hl:((l.map xB).take (min l.length k)).length≤1000:=by rw[Aj];omega
 refine akN 3 [] rfl (az (AWp.sub (Sub.freeze (id:=13) rfl) (aF ?_))) (hc:=⟨by omega,by rw[κ];omega,by omega,trivial⟩);rw[←q];exact⟨.inr rfl,⟨_,_,.tmp rfl .nil,.cons (.one (.hs rfl rfl (by rw[Bv,Ao]) .nil)) .nil,rfl⟩,trivial,rfl⟩
theorem cJ {α:Type}{l:List α}{k:Nat}{x:α}(h:l[k]?=some x):l.take (k+1)=l.take k++[x]:=by rw[Be,h];rfl
def bI (l:List Str):V:=.one (.c (.sl 1 (l.map aR)))
theorem lH (l:List (List C)) (h:l.length≤600000000000):aU Tryz.prog 48 [.one (.c (.sl 1 l))] [] (.one (.hs 710 0 l.length l.length)) [(710,.arr 9 1 l 0)]:=by
 refine bC (n:=8) tok Tryz.func48 rfl rfl rfl ?_;refine sg rfl (aH8 0 rfl (fun hl=>?_) ?_)
 ·subst hl;refine aA (sg rfl (aB rfl (fun _=>sg rfl (AWp.sub (Sub.own (t:=2) (id:=710) 9 1 rfl rfl) ?_)) nofun));exact aF rtT
 ·refine aA (sg rfl (aB rfl nofun (fun _=>aD (sgh [(0,.id 710)] rfl (AWp.sub (st2:=mk [(2,.one (.hs 710 0 l.length l.length))] [(710,.arr 9 1 l 0)]) sl ?_)))));exact aF rtT
def yB (s:Str):List Str→Int→Int
 | [],_=> -1
 | x::l,k=>if s=x then k else yB s l (k+1)
theorem sZ (s:Str):∀(l:List Str) (k:Int),0≤k→(decide (0≤yB s l k)=decide (s∈l))
 | [],k,_=>by simp[yB]
 | x::l,k,g=>by
  rw[yB];split
  ·rename_i h;subst h;simp[g]
  ·rename_i h;rw[sZ s l (k+1) (by omega)];simp[h]
theorem aP2 (l:List Str) (s:Str) (h:l.length≤600000000000):aU Tryz.prog 51 [bI l,Go.AM.T s] [] (I .i64 (yB s l 0)) []:=by
 refine bC (n:=19) tok Tryz.func51 rfl rfl rfl ?_;refine sg rfl (aA (sg rfl ?_));have q:(l.map aR).length=l.length:=κ _;refine aE (aL (fun i:Nat=>mk [(0,bI l),(1,Go.AM.T s),(7,I .i64 ((l.map aR).length:Int)),(8,I .i64 i)] []) (fun i=>i≤l.length∧yB s l 0=yB s (l.drop i) i) (fun i=>l.length-i) 0 ⟨Ac _,rfl⟩ sl ?_);intro i ⟨hi,he⟩;refine sg rfl (aA (aB rfl (fun hb=>?_) (fun hb=>?_)))
 ·have g:=ltD hb q;obtain⟨x,hx⟩:=aM g;have A:=b9 aR hx;have y:l.drop i=x::l.drop (i+1):=by rw[A5 g,(Ag.1 hx).2]
  rw[y,yB] at he;refine aD (aA (aE (sg rfl (sgh [(3,.row i (aR x))] rfl (aB rfl (fun hb=>?_) (fun hb=>?_))))))
  ·have hs:s=x:=χ hb;rw[θ hs] at he;rw[he];exact sg rfl (aF rtT)
  ·have hs:¬s=x:=Ad hb;rw[ξ hs] at he;exact aD (ag [] rfl ⟨i+1,⟨g,he⟩,by dsimp only;omega,sl⟩)
 ·have u:=geD hb q hi;subst u;rw[Cp,yB] at he;rw[he];exact aG (sg rfl (aF rtT))
theorem eZ (l:List Str) (s:Str) (h:l.length≤600000000000):aU Tryz.prog 29 [bI l,Go.AM.T s] [] (B (decide (s∈l))) []:=by
 have hi:=aP2 l s h;refine bC (n:=9) tok Tryz.func29 rfl rfl rfl ?_;refine sg rfl (sgh [(2,.pc (I .i64 (yB s l 0)))] rfl ?_);rw[←sZ s l 0 (by omega)];exact aF rtT
theorem lR (a b:List Str) (h:a.length≤600000000000):aU Tryz.prog 9 [bI a,bI b] [] (B (decide (a=b))) []:=by
 refine bC (n:=26) tok Tryz.func9 rfl rfl rfl ?_;refine sg rfl (aA (sg rfl (aB rfl (fun hb=>?_) (fun hb=>?_))))
 ·have g:¬a=b:=by
   rintro rfl;simp at hb
  refine sg rfl ?_;rw[ψ g];exact aF rtT
 ·have hlen:a.length=b.length:=by
   have:(a.length:Int)=(b.length:Int):=by simpa using hb
   omega
  refine aD (aA (sg rfl (aE ?_)));have u:(a.map aR).length=a.length:=κ _;refine aL (fun i:Nat=>mk [(0,bI a),(1,bI b),(5,I .i64 i)] []) (fun i=>i≤a.length∧a.take i=b.take i) (fun i=>a.length-i) 0 ⟨Ac _,by simp⟩ sl ?_;intro i ⟨hi,he⟩;refine aA (sg rfl (aB rfl (fun hb=>?_) (fun hb=>?_)))
  ·have A:=ltD hb u;obtain⟨x,hx⟩:=aM A;obtain⟨y,hy⟩:=aM (show i<b.length by omega);have M:=b9 aR hx;have O:=b9 aR hy;refine aD (aA (aE (sgh [(2,.row i (aR x)),(6,.row i (aR y))] rfl (aB rfl (fun hb=>?_) (fun hb=>?_)))))
   ·have q:¬x=y:=by simpa using hb
    have g:¬a=b:=by
     rintro rfl;rw[hx] at hy;exact q (Option.some.inj hy)
    rw[ψ g];exact sg rfl (aF rtT)
   ·have q:x=y:=by simpa using hb
    refine aD (ag [] rfl ⟨i+1,⟨A,?_⟩,by dsimp only;omega,sl⟩);rw[cJ hx,cJ hy,he,q]
  ·have E:=geD hb u hi;have J:a=b:=by
    have:=he;rw[E,Ao,Av (by omega)] at this;exact this
   refine aG ?_;rw[φ J];exact sg rfl (aF (rtT (hc:=.refl)))
end Go.Proofs.YtkhgpgihmphfdaaGreat
namespace Go
section
variable {F:Fence}{n:Nat}{P:Program}{b:Frame}{a:Act}{k:List Item}{cs:List Frame}{w:World}{Q:Exit→Act→World→Prop}
theorem c7 {c:Code}:step P (lone (b.atR a (.code (.scope c)::k)) cs w)=.next (lone (b.atR a (.code c:: .inScope c::k)) cs w):=
 step_lone_go (by simp[stepG,stepG.exec,Frame.atR])
theorem iO {c:Code}:step P (lone (b.atR a (.inScope c::k)) cs w)=.next (lone (b.atR a k) cs w):=
 step_lone_go (by simp[stepG,stepG.exec,Frame.atR])
def Exit.noJump (Q:Exit→Act→World→Prop):Exit→Act→World→Prop
 | .goto _,_,_=>False
 | e,a,w=>Q e a w
theorem aB5 {c:Code}(h:c.wpIn F n P (Exit.noJump Q) a w):(Code.scope c).wpIn F n P Q a w:=by
 intro b k cs B hb y;have h0:(lone (b.atR a (.code (.scope c)::k)) cs w).fenced P F:=fenced_calm hb y rfl;obtain⟨e,q,u,hq,g⟩:=h b (.inScope c::k) cs B hb y;cases e with
 | normal=>exact⟨.normal,q,u,hq,.head h0 c7 (StepsIn.trans g (.one (fenced_calm hb y rfl) iO))⟩
 | exit id=>
  have hx:exitTo id (.inScope c::k)=exitTo id k:=by simp[exitTo]
  exact⟨.exit id,q,u,hq,fun k' A=>.head h0 c7 (g.1 k' (by rw[hx];exact A)),
   fun E A=>let ⟨k₁,h1,h2⟩:=g.2 E (by rw[hx];exact A);⟨k₁,h1,.head h0 c7 h2⟩⟩
 | goto l=>exact hq.elim
 | ret=>exact⟨_,q,u,hq,.of_steps (.one h0 c7) g⟩
 | panic I=>exact⟨_,q,u,hq,.of_steps (.one h0 c7) g⟩
 | outgrown=>exact⟨_,q,u,hq,.of_steps (.one h0 c7) g⟩
end
end Go
namespace Go.AM
open Go
section
variable {ro:Option Nat}{P:Program}{n:Nat}{kf:List Nat}{st:St}{Q:Exit→St→Prop}
theorem wY {l:Nat}(h:Q .normal st):AWp ro P n kf (.label l) st Q:=fun _ S μ a w _ _ hs g=>wpIn_label (g _ _ S μ a w h hs)
def aNq (Q:Exit→St→Prop):Exit→St→Prop
 | .goto _,_=>False
 | e,st=>Q e st
theorem aH9 {c:Code}(h:AWp ro P n kf c st (aNq Q)):AWp ro P n kf (.scope c) st Q:=fun G S μ a w Q' g hs u=>
 aB5 (h G S μ a w _ g hs fun ex st' S' μ' y w' q s=>by
  cases ex with
  | goto l=>exact q.elim
  | _=>exact u _ st' S' μ' y w' q s)
end
section
variable {QP:Value→Prop}{P:Program}{n:Nat}{ops:Array Oper}{draw:Bool}{k d:Nat}{st:St}{pre:REs}{Q:St→Prop}{o:Oper}{f:FuncId}{xs:Array Operand}{ts:Array TypeId}{ids:List Nat}{args:List V}{res:V}{hin hout:List (Nat×AObj)}
theorem kvG {x:Operand}{caps:List R}{j t:Nat}{want b:Bool}(B:aU P f (args++caps.map V.one) hin res hout)
  (E:iC QP P n ops draw (k+1) ⟨upd st.e d (some res),fE st.h (outs hout),st.d⟩ ((⟨t::(opr x++bV xs.toList),ids++keys hin++keys hout⟩,⟨some (d,some res),outs hout⟩)::pre) Q)
  (hb:fI P f:=by exact aDe (by kernel_rfl)) (ho:ops[k]?=some o:=by rfl) (I:o.guard=some (j,want):=by rfl) (J:(ops[j]?).bind (·.dst)=some t:=by rfl) (u:st.e t=some (.one (.c (.bool b))):=by rfl) (hw:b=want:=by first | rfl | assumption) (y:o.op=.call { callee:=.value x,args:=xs,argTypes:=ts }:=by rfl) (M:o.dst=some d:=by rfl) (A:Nat.blt d n=true:=by rfl) (hx:opv st x=some (.one (.clo f caps)):=by rfl)
  (ha:ArgsV st ids xs.toList args:=by repeat (first | exact .nil | (apply Go.AM.ArgsV.cons rfl;(first | exact .refl | exact .one (.c .nl .nil) | exact .one (.c .sn .nil) | exact .one (.hs rfl (by first | rfl | simp) (by first | rfl | (simp;done) | (simp[Go.AM.take_map];done) | exact Go.AM.take_map.symm) .nil) | exact Go.AM.hs_all rfl rfl (by first | rfl | assumption | (simp;done) | (simp;omega)) (by first | rfl | assumption | (simp;done)) | ((first | apply Go.AM.Conv.pa | apply Go.AM.Conv.agg);repeat (first | exact .nil | apply Go.AM.PureL.c .refl | apply Go.AM.PureL.c .nl | apply Go.AM.PureL.c .sn | (apply Go.AM.PureL.hs;rfl;(first | rfl | simp);(first | rfl | (simp;done) | (simp[Go.AM.take_map];done) | exact Go.AM.take_map.symm))))))))
  (q:eG (fun p=>st.h p.1=some p.2) hin:=by repeat (first | exact trivial | refine⟨rfl,?_⟩)) (g:eG (fun p=>p.1∈keys hin∨st.h p.1=none) hout:=by repeat (first | exact trivial | refine⟨.inr rfl,?_⟩ | refine⟨.inl (by decide),?_⟩ | refine⟨.inl (by repeat (first | exact List.Mem.head _ | apply List.Mem.tail)),?_⟩)) (hok:dW (args++caps.map V.one) hin=true:=by rfl):iC QP P n ops draw k st pre Q:=
 k_ (GStep.yes ho I J u hw (aE5 hin hout hb y M (eD A) hx B ha q g hok)) E
end
end Go.AM
namespace Go.Proofs.YtkhgpgihmphfdaaGreat
open Go Go.AM
set_option maxRecDepth 20000
set_option maxHeartbeats 4000000
theorem yF (f:FuncId) (p:Nat→Bool) (s:Str) (hl:s.length≤4001) (q:aU2 Tryz.prog f=true) (E:∀c∈s,aU Tryz.prog f [I .u8 (c.toNat:Nat)] [] (B (p c.toNat)) []):aU Tryz.prog 131 [Go.AM.T s,.one (.clo f [])] [] (I .i64 (cD p s)) []:=by
 have O:=fO p s;refine bC (n:=20) tok Tryz.func131 rfl rfl rfl ?_;refine sg rfl (sg rfl (aA (aE (aL (fun j:Nat=>mk [(0,Go.AM.T s),(1,.one (.clo f [])),(5,I .i64 j)] []) (fun j=>j≤cD p s) (fun j=>cD p s-j) 0 (Ac _) sl ?_))));intro j J;by_cases u:j<s.length
 ·obtain⟨d,y⟩:=aM u;have g:=lL p s j J d y;have A:=E d (Af y);have M:decide ((j:Int)<(s.length:Int))=true:=φ (by omega);refine aA (skh 9 [(4,.bv true),(8,.byte j d)] rfl (kvG (caps:=[]) (args:=[I .u8 (d.toNat:Nat)]) (hin:=[]) (hout:=[]) A ?_ (hb:=aDe q)));refine ak 1 [(4,.bv true),(10,.bv true)] rfl (az (aB rfl (fun hb=>?_) (fun hb=>?_)))
  ·exact aD (aE (ag [] rfl ⟨j+1,g.1 hb,by dsimp only;have:=g.1 hb;omega,sl⟩))
  ·have e:j=cD p s:=by
    have:¬j<cD p s:=fun h=>by rw[g.2 h] at hb;cases hb
    omega
   refine aG ?_;rw[←e];exact sg rfl (aF rtT)
 ·have e:j=cD p s:=by omega
  have M:decide ((j:Int)<(s.length:Int))=false:=ψ (by omega);refine aA (sgh [(4,.bv false),(10,.bv false)] rfl (aB rfl (fun hb=>absurd hb (by decide)) (fun _=>aG ?_)));rw[←e];exact sg rfl (aF rtT)
theorem wG (s x:Str):aU Tryz.prog 179 [Go.AM.T s,Go.AM.T x] [] (B (preB x s)) []:=by
 unfold preB;refine bC (n:=18) tok Tryz.func179 rfl rfl rfl ?_;refine sg rfl ?_;by_cases h:x.length≤s.length
 ·have d1:decide ((x.length:Int)≤(s.length:Int))=true:=φ (by omega);rw[φ h,Cq];exact sgh [(5,.bv true),(12,.bv true)] rfl (aF rtT)
 ·have d1:decide ((x.length:Int)≤(s.length:Int))=false:=ψ (by omega);rw[ψ h,Co];exact sgh [(5,.bv false),(12,.bv false)] rfl (aF rtT)
theorem qA (s x:Str):aU Tryz.prog 130 [Go.AM.T s,Go.AM.T x] [] (B (preB x s)) []:=by
 have h:=wG s x;refine bC (n:=8) tok Tryz.func130 rfl rfl rfl ?_;exact sg rfl (sgh [(2,.pc (B (preB x s)))] rfl (aF rtT))
theorem aQi:aU Tryz.prog 185 [] [] (bI pO) []:=by
 refine bC (n:=2) tok Tryz.func185 rfl rfl rfl ?_;exact sg rfl (sgh [(0,.all)] rfl (aF rtT))
theorem aC9:aU Tryz.prog 186 [] [] (bI qJ) []:=by
 refine bC (n:=2) tok Tryz.func186 rfl rfl rfl ?_;exact sg rfl (sgh [(0,.all)] rfl (aF rtT))
def u4 (a b:Int):Int:=if b<a then b else a
def aFl:Str→Int→Int
 | [],k=>k
 | c::s,k=>aFl s (u4 (k*10+((c.toNat:Int)-48)) 2147483648)
theorem aKz (s:Str) (hl:s.length≤4001) (O:∀c∈s,48≤c.toNat∧c.toNat≤57):aU Tryz.prog 181 [Go.AM.T s] [] (I .i64 (aFl s 0)) []:=by
 refine bC (n:=21) tok Tryz.func181 rfl rfl rfl ?_;refine sg rfl (sg rfl (aA (sg rfl (aE (aL (fun p:Nat×Int=>mk [(0,Go.AM.T s),(3,I .i64 p.2),(6,I .i64 (s.length:Nat)),(7,I .i64 p.1)] []) (fun p=>p.1≤s.length∧0≤p.2∧p.2≤2147483648∧aFl (s.drop p.1) p.2=aFl s 0) (fun p=>s.length-p.1) (0,0) ⟨Ac _,by decide,by decide,rfl⟩ sl ?_)))));rintro⟨i,k⟩ ⟨hi,E,J,g⟩;dsimp only at hi E J g ⊢;refine sg rfl (aA (aB rfl (fun hb=>?_) (fun hb=>?_)))
 ·have A:i<s.length:=by have:=χ hb;omega
  obtain⟨d,q⟩:=aM A;obtain⟨g1,g2⟩:=O d (Af q);have M:s.drop i=d::s.drop (i+1):=by
   obtain⟨U,Y⟩:=Ag.1 q;rw[A5 U,Y]
  rw[M,aFl] at g;refine aD ?_;have u:IntKind.wrap .u8 ((d.toNat:Int)-48)=(d.toNat:Int)-48:=by unfold IntKind.wrap;simp[IntKind.bits,IntKind.signed];omega
  have y:IntKind.wrap .i64 ((d.toNat:Int)-48)=(d.toNat:Int)-48:=Bu _ (by omega);refine aA (aE (sg rfl (ag [(4,.byte i d)] rfl ?_ (hc:=⟨⟨by rw[u,y];omega,by rw[u,y];omega⟩,⟨rfl,q⟩,⟨by omega,by omega⟩,trivial⟩))));rw[u,y];refine ag [] rfl ?_;have B:0≤u4 (k*10+((d.toNat:Int)-48)) 2147483648∧u4 (k*10+((d.toNat:Int)-48)) 2147483648≤2147483648:=by unfold u4;split<;>omega
  exact⟨(i+1,u4 (k*10+((d.toNat:Int)-48)) 2147483648),⟨A,B.1,B.2,g⟩,by dsimp only;omega,sl⟩
 ·have e:i=s.length:=by have:=Ad hb;omega
  rw[e,Cp,aFl] at g;rw[←g];exact aG (sg rfl (aF rtT))
theorem aAg:∀s:Str,(∀c∈s,48≤c.toNat∧c.toNat≤57)→aFl s 2147483648=2147483648
 | [],_=>rfl
 | c::s,h=>by
  have:=h c B1;rw[aFl,show u4 (2147483648*10+((c.toNat:Int)-48)) 2147483648=2147483648 by unfold u4;split<;>omega];exact aAg s fun d g=>h d (Bj _ g)
theorem aSr:∀(s:Str) (k:Int),(∀c∈s,48≤c.toNat∧c.toNat≤57)→2147483648≤k→2147483648≤kR s k
 | [],k,_,h=>h
 | c::s,k,hs,h=>by
  have:=hs c B1;rw[kR];split
  ·exact aSr s _ (fun d g=>hs d (Bj _ g)) (by omega)
  ·exact h
theorem aMr:∀(s:Str) (k:Int),(∀c∈s,48≤c.toNat∧c.toNat≤57)→0≤k→k≤2147483647→aFl s k=u4 (kR s k) 2147483648
 | [],k,_,_,h=>by rw[aFl,kR];unfold u4;rw[ξ (by omega)]
 | c::s,k,hs,h0,h=>by
  have h1:=hs c B1;have h2:∀d∈s,48≤d.toNat∧d.toNat≤57:=fun d g=>hs d (Bj _ g)
  rw[aFl,kR,θ (by omega)];by_cases q:k*10+((c.toNat:Int)-48)≤2147483647
  ·rw[show u4 (k*10+((c.toNat:Int)-48)) 2147483648=k*10+((c.toNat:Int)-48) by unfold u4;rw[ξ (by omega)]];exact aMr s _ h2 (by omega) q
  ·rw[show u4 (k*10+((c.toNat:Int)-48)) 2147483648=2147483648 by unfold u4;split<;>omega,aAg s h2];have:=aSr s (k*10+((c.toNat:Int)-48)) h2 (by omega);unfold u4;split<;>omega
theorem aVz (c:Nat):nmQ c 97 122=wiB c 97 122:=by
 unfold nmQ fiB wiB plB;rw[Bp];simp;omega
theorem aVy (c:Nat):nmQ c 65 90=wiB c 65 90:=by
 unfold nmQ fiB wiB plB;rw[Bp];simp;omega
theorem aV0 (c:Nat) (h:wiB c 97 122=true):wiB c 65 90=false:=by
 unfold wiB at *;simp at *;omega
theorem aI0 {c:UInt8}{r:Str}(h:wiB c.toNat 65 90=true) (hs:sgB c.toNat=true):¬(c::r).take (cD sgB (c::r))∈pO:=fun hm=>by
 rw[cD,θ hs,Ax] at hm;have:c=99∨c=100∨c=105∨c=108∨c=111:=by
  unfold pO at hm;simp only[Ar,List.cons.injEq,not_mem_nil,or_false] at hm;rcases hm with⟨h,_⟩ | ⟨h,_⟩ | ⟨h,_⟩ | ⟨h,_⟩ | ⟨h,_⟩ | ⟨h,_⟩ | ⟨h,_⟩<;>simp[h]
 unfold wiB at h;rcases this with rfl | rfl | rfl | rfl | rfl<;>exact absurd h (by decide)
theorem aT3 (c:UInt8):aU Tryz.prog 180 [I .u8 (c.toNat:Nat)] [] (B (dgB c.toNat)) []:=by
 have h:=qC aU0 c;rw[←aV8 c];refine bC (n:=6) tok Tryz.func180 rfl rfl rfl ?_;exact sg rfl (sgh [(1,.pc (I .i64 (Lib.indexByte aU0 c)))] rfl (aF rtT))
def jN:Code→Code | .seq _ b=>b | c=>c
noncomputable def aW6 (c:Code):Code:=jN (jN (jN (jN c)))
def aKf:TE→Int
 | .ok _=>0
 | .error e=>e
theorem aTn (c:UInt8) (r:Str) (hl:r.length≤4000):∃(k0:Int) (t0:Str) (v0:Int),aU Tryz.prog 133 [Go.AM.T (c::r)] [] (.tup [.pa [.int .i64 k0,.str t0,.int .i64 v0,.int .i64 0],I .i64 (aKf (gJ (c::r)))]) []∧∀k t v,gJ (c::r)=.ok (k,t,v)→k0=k∧t0=t∧v0=v:=by
 have hSl:(c::r).length≤4001:=by rw[Aa];omega
 have B:=yF 180 dgB (c::r) hSl (by kernel_rfl) fun d y=>aT3 d
 have hw2:=yF 184 sgB (c::r) hSl (by kernel_rfl) fun d _=>aK5 d
 have E:=aLm c;have J:=aLi c;rw[aVz] at E;rw[aVy] at J;have aa:(c::r).take 1=[c]:=rfl;by_cases y:dgB c.toNat=true
 ·have A:∀d∈(c::r).take (cD dgB (c::r)),48≤d.toNat∧d.toNat≤57:=fun d y=>by
   obtain⟨j,hj⟩:=List.getElem?_of_mem y;rw[Ak] at hj;split at hj
   ·rename_i M;exact χ ((lL dgB (c::r) j (by omega) d hj).2 M)
   ·cases hj
  have u:gJ (c::r)=if 2147483647<kR ((c::r).take (cD dgB (c::r))) 0 then .error 11 else .ok (3,(c::r).take (cD dgB (c::r)),kR ((c::r).take (cD dgB (c::r))) 0):=by rw[gJ,θ y]
  have ab:=aKz ((c::r).take (cD dgB (c::r))) (by rw[Aj];omega) A;rw[aMr _ 0 A (by decide) (by decide)] at ab;have hN1:0<cD dgB (c::r):=by rw[cD,θ y];omega
  have hNl:=fO dgB (c::r);rw[u];clear A u E J hw2 aa;generalize cD dgB (c::r)=N at *;generalize c::r=S at *;generalize hK:kR (S.take N) 0=K at *;refine⟨3,S.take N,u4 K 2147483648,?_,fun k t v h=>?_⟩
  ·refine bC (n:=67) tok Tryz.func133 rfl rfl rfl ?_;refine sg rfl (aA (sk 1 rfl (kc B ?_)));refine kz 1 rfl ?_;have dN:decide ((0:Int)<(N:Int))=true:=φ (by omega);refine sg rfl (aB rfl (fun _=>aA (aC mixed (akN 6 [] rfl (kc ab ?_)))) (fun hb=>absurd (hb.symm.trans dN) (by decide)));refine akN 3 [] rfl (az (aA (sg rfl ?_)));by_cases hk:2147483647<K
   ·rw[θ hk];refine aB rfl (fun _=>?_) (fun hb=>?_)
    ·exact sg rfl (aF (zQ trw))
    ·have:=Ad hb;unfold u4 at this;split at this<;>omega
   ·rw[ξ hk];refine aB rfl (fun hb=>?_) (fun _=>?_)
    ·have:=χ hb;unfold u4 at this;split at this<;>omega
    ·exact aD (sg rfl (aF (zQ trw)))
  ·split at h
   ·cases h
   ·rename_i hk;cases h;exact⟨rfl,rfl,by unfold u4;rw[ξ (by omega)]⟩
 ·have hS1:1≤(c::r).length:=by rw[Aa];omega
  have hN0:cD dgB (c::r)=0:=by rw[cD,ξ y]
  rw[hN0] at B;have u:gJ (c::r)=if wiB c.toNat 97 122=true∨wiB c.toNat 65 90=true then mC (c::r) (wiB c.toNat 65 90) else if n6 (c::r)=[] then .error 10 else .ok (4,n6 (c::r),0):=by rw[gJ,ξ y]
  have ac:= @aI0 c r;have ad:wiB c.toNat 97 122=true∨wiB c.toNat 65 90=true→sgB c.toNat=true:=fun h=>by
   rcases h with h | h
   ·have:=aEj c.toNat;rw[h] at this;simpa using this
   ·have:=aEi c.toNat;rw[h] at this;simpa using this
  have hlu:=aV0 c.toNat;have hsy:n6 (c::r)=(match qJ.find? (fun x=>preB x (c::r)) with | some x=>x | none=>[]):=rfl;rw[u];clear u y;generalize c::r=S at *;generalize wiB c.toNat 97 122=lo at *;generalize wiB c.toNat 65 90=up at *;have kind:∃k:Int,k=if lo=true then 1 else if up=true then 2 else 0:=⟨_,rfl⟩
  obtain⟨U,g⟩:=kind;have pre:∀(l:List C) (e:Int),AWp none Tryz.prog 67 (keys []) (aW6 (Tryz.f133.body.getD .skip)) (mk [(0,Go.AM.T S),(2,.one (.vp 2 0)),(6,I .i64 U)] [(2,.var 167 (aDt.map .c))]) (fun ex st=>(ex=.normal∨ex=.ret)∧Fin tr.flat Tryz.f133 st [] (.tup [.pa l,I .i64 e]) [])→aU Tryz.prog 133 [Go.AM.T S] [] (.tup [.pa l,I .i64 e]) []:=fun l e h=>by
   refine bC (n:=67) tok Tryz.func133 rfl rfl rfl ?_;refine sg rfl (aA (sk 1 rfl (kc B ?_)));refine kz 1 rfl (sg rfl (aB rfl (fun hb=>absurd hb (by decide)) (fun _=>aD (sg rfl (kY (mk [(0,Go.AM.T S),(2,.one (.vp 2 0)),(6,I .i64 U)] [(2,.var 167 (aDt.map .c))]) ?_ h)))));refine aE (sk 2 rfl ?_);rw[aa];refine kc E ?_;refine kz 1 rfl (aB rfl (fun hb=>?_) (fun hb=>?_))
   ·rw[hb,θ rfl] at g;subst g;exact ag [] rfl (.inl ⟨rfl,sl⟩)
   rw[hb,ξ ω] at g;refine sk 2 rfl ?_;rw[aa];refine kc J ?_;refine kz 1 rfl (aB rfl (fun hb=>?_) (fun hb=>?_))
   ·rw[hb,θ rfl] at g;subst g;exact ag [] rfl (.inl ⟨rfl,sl⟩)
   ·rw[hb,ξ ω] at g;subst g;exact aD (.inl ⟨rfl,sl⟩)
  clear E J B hN0;by_cases hn:lo=true∨up=true
  ·rw[θ hn];have ad:=ad hn;have hkp:0<U:=by
    rw[g];rcases hn with h | h
    ·rw[θ h];decide
    ·rw[θ h];split<;>decide
   have hW:=fO sgB S;have hky:=aQi;have hct:=eZ pO (S.take (cD sgB S)) (by decide);have ac:=fun h=>ac h ad
   unfold mC;generalize cD sgB S=N at *;have Y:∃Y:Int,Y=if S.take N∈pO then 5 else U:=⟨_,rfl⟩
   obtain⟨Y,q⟩:=Y;have dk:decide ((0:Int)<U)=true:=φ hkp;refine⟨Y,S.take N,0,pre _ _ ?_,fun k t v h=>?_⟩
   ·refine aA (sg rfl (aB rfl (fun _=>sk 3 rfl (kc hw2 ?_)) (fun hb=>absurd (hb.symm.trans dk) (by decide))));refine kz 4 rfl (kY (mk [(0,Go.AM.T S),(2,.one (.vp 2 0)),(7,.one (.vp 7 0))] [(2,.var 167 (aDt.map .c)),(7,.var 167 [.c (.int .i64 Y),.c (.str (S.take N)),.c (.int .i64 0),.c (.int .i64 0)])]) ?_ ?_)
    ·generalize pO=L at *;refine aA (aC mixed (kc hky ?_));refine akN 2 [] rfl (kc hct ?_);refine az (aB rfl (fun hb=>?_) (fun hb=>?_))
     ·rw[θ (χ hb)] at q;subst q;exact ag [] rfl (.inl ⟨rfl,sl⟩)
     ·rw[ξ (Ad hb)] at q;subst q;exact aD (.inl ⟨rfl,sl⟩)
    ·have hTl:(S.take N).length=N:=by rw[Aj];omega
     generalize S.take N=X at *;refine aA (sg rfl ?_);rw[hTl];refine aB rfl (fun hb=>?_) (fun hb=>?_)
     ·rw[θ (by have:=χ hb;omega)];exact sg rfl (aF (zQ trw))
     ·rw[ξ (by have:=Ad hb;omega)];have e0:aKf (if up=true then(.ok (2,X,0):TE) else if X∈pO then .ok (5,X,0) else .ok (1,X,0))=0:=by
       split
       ·rfl
       ·split<;>rfl
      rw[e0];exact aD (sg rfl (aF (zQ trw)))
   ·split at h
    ·cases h
    split at h
    ·rename_i hu;cases h;rw[ξ (ac hu)] at q;have hl:¬lo=true:=fun hl=>by rw[hlu hl] at hu;cases hu
     exact⟨by rw[q,g,ξ hl,θ hu],rfl,rfl⟩
    ·rename_i hu;split at h
     ·rename_i hm;cases h;rw[θ hm] at q;exact⟨q,rfl,rfl⟩
     ·rename_i hm;cases h;rw[ξ hm] at q;exact⟨by rw[q,g,θ (hn.resolve_right hu)],rfl,rfl⟩
  ·rw[ξ hn];have hk0:U=0:=by rw[g,ξ (fun h=>hn (.inl h)),ξ (fun h=>hn (.inr h))]
   subst hk0;have hsb:=aC9;have h13:qJ.length≤13:=by decide
   refine⟨if n6 S=[] then 0 else 4,n6 S,0,pre _ _ ?_,fun k t v h=>?_⟩
   ·refine aA (sg rfl (aB rfl (fun hb=>absurd hb (by decide)) (fun _=>aD ?_)));have hne:∀x∈qJ,¬x=[]:=by decide
    rw[hsy];clear hsy;generalize qJ=L at *;have hkl:(L.map aR).length=L.length:=κ _;refine aA (aA (aC mixed (kc hsb ?_)));refine kz 2 rfl (aE (aL (fun i:Nat=>mk [(0,Go.AM.T S),(2,.one (.vp 2 0)),(54,.one (.c (.sl 1 (L.map aR)))),(55,I .i64 ((L.map aR).length:Nat)),(56,I .i64 i)] [(2,.var 167 (aDt.map .c))]) (fun i=>i≤L.length∧(L.take i).find? (fun x=>preB x S)=none) (fun i=>L.length-i) 0 ⟨Ac _,rfl⟩ sl ?_));rintro i ⟨hi,O⟩;refine sg rfl (aA (aB rfl (fun hb=>?_) (fun hb=>?_)))
    ·have M:=ltD hb hkl;obtain⟨x,hx⟩:=aM M;have hx':=b9 aR hx;have hpx:=qA S x;refine aD (aA (aE (sgh [(0,.row i (aR x))] rfl (sk 2 rfl (kc hpx ?_)))));refine az (aB rfl (fun hb=>?_) (fun hb=>?_))
     ·rw[lD O hx hb];dsimp only;rw[ξ (hne x (Af hx)),ξ (hne x (Af hx))];exact sg rfl (aF (zQ trw))
     ·exact aD (ag [] rfl ⟨i+1,⟨M,lE O hx hb⟩,by dsimp only;omega,sl⟩)
    ·have hge:=geD hb hkl hi;rw[hge,Ao] at O;rw[O];dsimp only;rw[θ rfl,θ rfl];exact aG (sg rfl (aF (zQ trw)))
   ·split at h
    ·cases h
    ·rename_i hs;cases h;exact⟨ξ hs,rfl,rfl⟩
def blS:Str:=[32,9,10]
theorem aWl (c:UInt8):ixB blS c=blB c.toNat:=j7 (p:=fun c=>ixB blS c=blB c.toNat) (by decide+kernel) c
theorem aFw {s:Str}(h:preB [45,45] s=true):cD neB s=2+cD neB (s.drop 2):=by
 unfold preB at h;rw[π] at h;have h2:=χ h.2
 match s,h2 with
 | a::b::r,h2=>
  have h2:[a,b]=[45,45]:=h2;cases h2;rw[cD,θ (by decide),cD,θ (by decide)];show cD neB r+1+1=2+cD neB r;omega
theorem aWc (c:UInt8):aU Tryz.prog 132 [I .u8 (c.toNat:Nat)] [] (B (neB c.toNat)) []:=by
 have e:(!decide ((c.toNat:Int)=10))=neB c.toNat:=by
  unfold neB;by_cases h:c.toNat=10
  ·rw[φ h,φ (by omega)]
  ·rw[ψ h,ψ (by omega)]
 rw[←e];refine bC (n:=5) tok Tryz.func132 rfl rfl rfl ?_;exact sg rfl (sg rfl (aF rtT))
theorem aNa (S:Str):aU Tryz.prog 86 [Go.AM.T S] [] (aDx (nE S)) []:=by
 refine bC (n:=65) tok Tryz.func86 rfl rfl rfl ?_;refine sg rfl (aH9 ?_);refine aA (sg rfl (aB rfl (fun hb=>?_) (fun hb=>?_)))
 ·unfold nE;rw[θ (by have:=χ hb;omega)];exact sg rfl (aF (aRa trw))
 have hl:S.length≤4000:=by have:=Ad hb;omega
 have hA:nE S=aRc [] (jO S.length 0 (S.drop 0)):=by
  unfold nE;rw[ξ (by omega),Bv];cases jO S.length 0 S<;>rfl
 refine aD (sg rfl (sg rfl (AWp.sub (Sub.own (t:=4) (id:=500) 167 4 rfl rfl) ?_)));refine aA (wY ?_);refine aA (aE (aL (fun p:Nat×Nat×List Tk=>mk [(0,Go.AM.T S),(3,.one (.vp 3 0)),(4,.one (.hs 500 0 p.2.2.length p.2.2.length)),(5,I .i64 p.1)] [(3,.var 38 [.c (.int .i64 0),.c (.int .i64 0)]),(500,.arr 167 4 (p.2.2.map aI) 0)]) (fun p=>p.1≤S.length∧S.length-p.1≤p.2.1∧p.2.2.length+(S.length-p.1)≤S.length∧nE S=aRc p.2.2 (jO p.2.1 p.1 (S.drop p.1))) (fun p=>p.2.1) (0,S.length,[]) ⟨Ac _,by dsimp only;omega,by dsimp only;simp,hA⟩ sl ?_));rintro⟨i,f,out⟩ ⟨hi,hf,U,q⟩;dsimp only at hi hf U q ⊢;have hout:(out.map aI).length=out.length:=κ _;refine aA (sg rfl (aB rfl (fun hb=>?_) (fun hb=>?_)))
 ·have hlt:i<S.length:=by have:=χ hb;omega
  obtain⟨g,rfl⟩:∃g,f=g+1:=⟨f-1,by omega⟩
  obtain⟨c,r,y⟩:∃c r,S.drop i=c::r:=by
   cases h:S.drop i with
   | nil=>
    have:=congrArg List.length h;rw[Bc,length_nil] at this;omega
   | cons c r=>exact⟨c,r,rfl⟩
  have hci:S[i]?=some c:=by
   have:=congrArg (fun l=>l[0]?) y;simpa [Al] using this
  have Y:(c::r).length=S.length-i:=by rw[←y,Bc]
  rw[Aa] at Y;obtain⟨k0,t0,v0,aa,ab⟩:=aTn c r (by omega);have ac:=qC blS c;have J:=aWl c;unfold ixB at J;have ad:=qA (c::r) [45,45];have ae:=yF 132 neB (c::r) (by rw[Aa];omega) (by kernel_rfl) fun d _=>aWc d
  have O:=wM (c::r);have af:= @kQ c r;have ah:= @sK c r;have B:= @aFw (c::r);have u:eM (c::r)=if blB c.toNat=true then 1 else if preB [45,45] (c::r)=true then 2+cD neB ((c::r).drop 2) else 0:=rfl
  rw[y,jO] at q;have M:∀m:Nat,(c::r).drop m=S.drop (i+m):=fun m=>by rw[←y,Ci]
  rw[Aa] at O;refine aD (aE (aA (sg rfl ?_)));rw[y];refine aE (skh 3 [(2,.byte i c)] rfl (kc ac ?_));refine kz 2 rfl ?_;rw[J];by_cases E:blB c.toNat=true
  ·rw[E];rw[θ E] at u;rw[u,θ (by decide),M] at q;exact aB rfl (fun _=>aA (agN [] rfl (aG ⟨(i+1,g,out),⟨by dsimp only;omega,by dsimp only;omega,by dsimp only;omega,q⟩,by dsimp only;omega,sl⟩))) (fun hb=>absurd hb (by decide))
  rw[ξ E] at u;rw[Ck _ |>.mp E];refine aB rfl (fun hb=>absurd hb (by decide)) (fun _=>sk 1 rfl (kc ad ?_));refine kz 1 rfl (aB rfl (fun hb=>?_) (fun hb=>?_))
  ·rw[θ hb,←B hb] at u;have ai:0<cD neB (c::r):=by rw[B hb];omega
   rw[u,θ ai,M] at q;rw[u] at O;generalize cD neB (c::r)=m at *;refine aA (aC mixed (akN 2 [] rfl (kc ae ?_)));exact akN 2 [] rfl (az (aG ⟨(i+m,g,out),⟨by dsimp only;omega,by dsimp only;omega,by dsimp only;omega,q⟩,by dsimp only;omega,sl⟩))
  ·rw[ξ (by rw[hb];exact ω)] at u;rw[ξ (by rw[u];exact Ch 0)] at q;refine aD (sk 3 rfl ?_);rw[y];refine kc aa ?_;generalize gJ (c::r)=o at *;cases o with
   | error e=>
    dsimp only at q;have he:=ah rfl;rw[q];exact kz 6 rfl (aA (sg rfl (aB rfl (fun _=>sg rfl (aF (aRa trw))) (fun hb=>absurd hb (by simp[aKf,he])))))
   | ok p=>
    obtain⟨k,t,v⟩:=p;obtain⟨e1,e2,e3⟩:=ab k t v rfl;subst e1 e2 e3;dsimp only at q;obtain⟨ht1,aj⟩:=af rfl;rw[Aa] at aj;rw[uY,M] at q;refine kz 6 rfl (aA (sg rfl (aB rfl (fun hb=>absurd hb (by simp[aKf])) (fun _=>aD (sg rfl (sgh [(1,.all),(2,.all)] rfl (agN [] rfl ?_)))))));have A:out.map aI++[[.int .i64 k0,.str t0,.int .i64 v0,.int .i64 (i:Int)]]=(out++[(⟨k0,t0,v0,i⟩:Tk)]).map aI:=by simp[aI]
    exact⟨(i+t0.length,g,out++[⟨k0,t0,v0,i⟩]),⟨by dsimp only;omega,by dsimp only;omega,by dsimp only;rw[ζ,Bg];omega,q⟩,by dsimp only;omega,sl (he:=⟨rfl,rfl,Go.AM.hs_ren (by simp) (by simp),rfl,trivial⟩) (hh:=⟨⟨_,rfl,.var rfl⟩,⟨_,rfl,.arrS A⟩,trivial⟩)⟩
 ·have e:i=S.length:=by have:=Ad hb;omega
  have hE:jO f i (S.drop i)=.ok [⟨6,[],0,i⟩]:=by
   rw[e,Cp];cases f<;>rfl
  rw[hE] at q;rw[q];have A:out.map aI++[[.int .i64 6,.str [],.int .i64 0,.int .i64 (i:Int)]]=(out++[(⟨6,[],0,i⟩:Tk)]).map aI:=by simp[aI]
  refine aG (sgh [(4,.all)] rfl ?_);subst e;show AWp _ _ _ _ _ _ (aNq fun ex st=>(ex=.normal∨ex=.ret)∧Fin _ _ st _ (aDx (.ok (out++[⟨6,[],0,(S.length:Int)⟩]))) _);unfold aDx;dsimp only;rw[←A];refine AWp.sub (Sub.freeze (id:=500) rfl) (AWp.sub (cv 2 (out.map aI++[[.int .i64 6,.str [],.int .i64 0,.int .i64 (S.length:Int)]])) ?_);exact aF (aRa trw)
mutual
def tn:Ty→Nat
 | .mk _ _ s a=>1+s.length+tns a
def tns:List Ty→Nat
 | []=>0
 | t::l=>tn t+tns l
end
theorem uB (t:Ty):1≤tn t:=by cases t;rw[tn];omega
theorem aD8:∀l:List Ty,l.length≤tns l
 | []=>Ac _
 | t::l=>by rw[tns,Aa];have:=aD8 l;have:=uB t;omega
theorem n5:∀{l:List Ty}{t:Ty},t∈l→tn t≤tns l
 | u::l,t,h=>by
  rw[tns];rcases Ar.1 h with rfl | h
  ·omega
  ·have:=n5 h;omega
theorem wA (t:Ty) (J:t.args.length≤1000000) (y:∀u∈t.args,aU Tryz.prog 232 [tyV u] [] (tyV u) []):aU Tryz.prog 232 [tyV t] [] (tyV t) []:=by
 obtain⟨f,n,s,a⟩:=t;have y:∀u∈a,aU Tryz.prog 232 [tyV u] [] (tyV u) []:=y;have M:a.length≤1000000:=J;have g:(dA a).length=a.length:=by rw[eY,κ]
 refine bC (n:=22) tok Tryz.func232 rfl rfl rfl ?_;refine sg rfl (sg rfl (AWp.sub (Sub.own (t:=3) (id:=600) 31 4 rfl rfl) ?_));refine aA (sg rfl (aE (aL (fun i:Nat=>mk [(1,.one (.vp 1 0)),(2,.one (.vp 2 0)),(3,.one (.hs 600 0 ((dA a).take i).length ((dA a).take i).length)),(7,.one (.c (.sl 4 (dA a)))),(8,I .i64 ((dA a).length:Int)),(9,I .i64 i)] [(600,.arr 31 4 ((dA a).take i) 0),(1,.var 31 ((cF (.mk f n s a)).map R.c)),(2,.var 31 [.c (.int .i64 0),.c (.int .i64 0),.c (.str []),.c .nl])]) (fun i=>i≤a.length) (fun i=>a.length-i) 0 (Ac _) sl ?_)));intro i hi;have O:((dA a).take i).length=i:=by rw[Aj];omega
 refine sg rfl (aA (aB rfl (fun hb=>?_) (fun hb=>?_)))
 ·have q:=ltD hb g;obtain⟨u,hu⟩:=aM q;have A:(dA a)[i]?=some (cF u):=by rw[eY];exact b9 cF hu
  have hc:=y u (Af hu);have B:(dA a).take (i+1)=(dA a).take i++[cF u]:=by rw[Be,A];rfl
  refine aD (aA (aE (sgh [(0,.row i (cF u))] rfl (aC mixed (ak 2 [] rfl (kc hc ?_))))));refine ak 3 [(3,.all)] rfl (az (ag [] rfl ⟨i+1,q,by dsimp only;omega,?_⟩));dsimp only;rw[B];exact sl
 have E:=geD hb g hi;subst E;rw[show(dA a).take a.length=dA a by rw[←g,Ao]];refine aG (AWp.sub (Sub.freeze (id:=600) rfl) ?_);refine sg rfl (AWp.sub (vp 1 (cF (.mk f n s a))) ?_);exact sg rfl (aF (rtC trw))
mutual
def wfS:Ty→Bool
 | .mk f n s a=>(if f=4 then decide (n=0∧s=[]∧a.length=2) else if f=5 then decide (n=0∧a.length=1) else a.isEmpty)&&aNu a
def aNu:List Ty→Bool
 | []=>true
 | t::l=>wfS t&&aNu l
end
theorem zC:∀{l:List Ty}{t:Ty},aNu l=true→t∈l→wfS t=true
 | u::l,t,h,g=>by
  rw[aNu,π] at h;rcases Ar.1 g with rfl | g
  ·exact h.1
  ·exact zC h.2 g
theorem aD4 {f n:Int}{s:Str}{a:List Ty}(h:wfS (.mk f n s a)=true):a.length≤2∧(∀u∈a,wfS u=true)∧(f=4→n=0∧s=[]∧∃u v,a=[u,v])∧(f=5→n=0∧∃u,a=[u])∧(¬f=4→¬f=5→a=[]):=by
 rw[wfS,π] at h;obtain⟨h1,h2⟩:=h;refine⟨?_,fun u hu=>zC h2 hu,fun g=>?_,fun q=>?_,fun g q=>?_⟩
 ·split at h1
  ·exact Nat.le_of_eq (χ h1).2.2
  ·split at h1
   ·rw[(χ h1).2];omega
   ·rw[List.isEmpty_iff.1 h1];simp
 ·rw[θ g] at h1;obtain⟨y,A,a3⟩:=χ h1
  match a,a3 with
  | [u,v],_=>exact⟨y,A,u,v,rfl⟩
 ·rw[ξ (by omega),θ q] at h1;obtain⟨y,A⟩:=χ h1;exact⟨y,List.length_eq_one_iff.1 A⟩
 ·rw[ξ g,ξ q] at h1;exact List.isEmpty_iff.1 h1
theorem aG1:∀(k:Nat) (t:Ty),tn t≤k→wfS t=true→aU Tryz.prog 232 [tyV t] [] (tyV t) []
 | 0,t,h,_=>by have:=uB t;omega
 | k+1,t,h,hw=>by
  obtain⟨f,n,s,a⟩:=t;obtain⟨h1,h2,_⟩:=aD4 hw;exact wA (.mk f n s a) (show a.length≤_ by omega) fun u hu=>aG1 k u (by have hu:u∈a:=hu;have:=n5 hu;rw[tn] at h;omega) (h2 u hu)
theorem tJ (a b:Ty):aU Tryz.prog 233 [tyV a,tyV b] [] (tyV (qI a b)) []:=by
 refine bC (n:=9) tok Tryz.func233 rfl rfl rfl ?_;exact sg rfl (sgh [(2,.all)] rfl (aF (rtC trw)))
def jR (f:Int) (s:Str) (o:List Str) (x:Str):List Str:=if ¬x∈o∧(¬f=5∨¬x=s) then o++[x] else o
def u3 (f:Int) (s:Str) (o:List Str) (l:List Str):List Str:=l.foldl (jR f s) o
mutual
def tfR:Ty→List Str
 | .mk f _ s a=>if f=2 then [s] else aI3 f s a []
def aI3 (f:Int) (s:Str):List Ty→List Str→List Str
 | [],o=>o
 | t::l,o=>aI3 f s l (u3 f s o (tfR t))
end
def tfL (f:Int) (s:Str) (l:List Ty) (o:List Str):List Str:=l.foldl (fun o t=>u3 f s o (tfR t)) o
theorem rW (f:Int) (s:Str):∀(l:List Ty) (o:List Str),aI3 f s l o=tfL f s l o
 | [],o=>by rw[aI3];rfl
 | t::l,o=>by rw[aI3,rW f s l];rfl
theorem aEa (f:Int) (s:Str) (o:List Str) (x:Str):(jR f s o x).length≤o.length+1:=by
 unfold jR;split
 ·simp
 ·omega
theorem oG (f:Int) (s:Str):∀(l o:List Str),(u3 f s o l).length≤o.length+l.length
 | [],o=>le_refl _
 | x::l,o=>by
  have h1:=oG f s l (jR f s o x);have h2:=aEa f s o x;show(u3 f s (jR f s o x) l).length≤_;rw[Aa];omega
mutual
theorem lW:∀t:Ty,(tfR t).length≤tn t
 | .mk f n s a=>by
  rw[tfR,tn];split
  ·simp;omega
  ·have:=xI f s a [];simp only[length_nil] at this;omega
theorem xI (f:Int) (s:Str):∀(l:List Ty) (o:List Str),(aI3 f s l o).length≤o.length+tns l
 | [],o=>by rw[aI3,tns];exact le_refl _
 | t::l,o=>by
  rw[aI3,tns];have h1:=xI f s l (u3 f s o (tfR t));have h2:=oG f s (tfR t) o;have g:=lW t;omega
end
theorem aEc {f:Int}{s:Str}{o l:List Str}{j:Nat}{x:Str}(h:l[j]?=some x):u3 f s o (l.take (j+1))=jR f s (u3 f s o (l.take j)) x:=by
 unfold u3;rw[Be,h,foldl_append];rfl
theorem aI4 {f:Int}{s:Str}{o:List Str}{l:List Ty}{j:Nat}{x:Ty}(h:l[j]?=some x):tfL f s (l.take (j+1)) o=u3 f s (tfL f s (l.take j) o) (tfR x):=by
 unfold tfL;rw[Be,h,foldl_append];rfl
theorem zG:∀(l:List Ty) (i:Nat),tns (l.take i)≤tns l
 | [],i=>by simp
 | t::l,0=>by rw[B5,tns];omega
 | t::l,i+1=>by rw[Ax,tns,tns];have:=zG l i;omega
theorem mN (t:Ty) (ht:t.args.length≤1000000000) (hL:∀i,(tfL t.form t.name (t.args.take i) []).length≤1000000000) (hU:∀u∈t.args,(tfR u).length≤1000000000) (ih:∀u∈t.args,aU Tryz.prog 214 [tyV u] [] (bI (tfR u)) []):aU Tryz.prog 214 [tyV t] [] (bI (tfR t)) []:=by
 obtain⟨f,n,s,a⟩:=t;have hal:a.length≤1000000000:=ht;have hL:∀i,(tfL f s (a.take i) []).length≤1000000000:=hL;have hU:∀u∈a,(tfR u).length≤1000000000:=hU;have ih:∀u∈a,aU Tryz.prog 214 [tyV u] [] (bI (tfR u)) []:=ih;have aa:(dA a).length=a.length:=by rw[eY,κ]
 rw[tfR];refine bC (n:=50) tok Tryz.func214 rfl rfl rfl ?_;refine sg rfl (aA (sg rfl (aB rfl (fun hb=>?_) (fun hb=>?_))))
 ·have h2:f=2:=χ hb;rw[θ h2];exact sgh [(2,.all)] rfl (aF rtT)
 ·have h2:¬f=2:=Ad hb;rw[ξ h2,rW] at *;refine aD (sg rfl (AWp.sub (Sub.own (t:=3) (id:=600) 9 1 rfl rfl) (AWp.sub (Sub.freeze (id:=600) rfl) ?_)));refine aA (sg rfl (aE (aL (fun i:Nat=>mk [(1,.one (.vp 1 0)),(3,.one (.hs 600 0 (tfL f s (a.take i) []).length (tfL f s (a.take i) []).length)),(15,.one (.c (.sl 4 (dA a)))),(16,I .i64 ((dA a).length:Int)),(17,I .i64 i)] [(600,.arr 9 1 ((tfL f s (a.take i) []).map aR) 2),(1,.var 31 ((cF (.mk f n s a)).map R.c))]) (fun i=>i≤a.length) (fun i=>a.length-i) 0 (Ac _) sl ?_)));intro i hi;refine sg rfl (aA (aB rfl (fun hb=>?_) (fun hb=>?_)))
  ·have ab:=ltD hb aa;obtain⟨u,hu⟩:=aM ab;have hu':(dA a)[i]?=some (cF u):=by rw[eY];exact b9 cF hu
   have hm:=Af hu;have hc:=ih u hm;have hul:=hU u hm;have J:=aI4 (f:=f) (s:=s) (o:=[]) hu;have hol:=hL i;generalize tfL f s (a.take i) []=o at J hol ⊢;have M:((tfR u).map aR).length=(tfR u).length:=κ _;generalize tfR u=g at hc hul J M;refine aD (aA (aE (sgh [(0,.row i (cF u))] rfl (sk 1 rfl (kc hc ?_)))));refine kz 2 rfl (aE (aL (fun j:Nat=>mk [(1,.one (.vp 1 0)),(3,.one (.hs 600 0 (u3 f s o (g.take j)).length (u3 f s o (g.take j)).length)),(15,.one (.c (.sl 4 (dA a)))),(16,I .i64 ((dA a).length:Int)),(17,I .i64 i),(22,bI g),(23,I .i64 ((g.map aR).length:Int)),(24,I .i64 j)] [(600,.arr 9 1 ((u3 f s o (g.take j)).map aR) 2),(1,.var 31 ((cF (.mk f n s a)).map R.c))]) (fun j=>j≤g.length) (fun j=>g.length-j) 0 (Ac _) sl ?_));intro j hj;refine sg rfl (aA (aB rfl (fun hb=>?_) (fun hb=>?_)))
   ·have y:=ltD hb M;obtain⟨x,hx⟩:=aM y;have hx':=b9 aR hx;have A:=aEc (f:=f) (s:=s) (o:=o) hx;have hpl:(u3 f s o (g.take j)).length≤2000000000:=by
     have:=oG f s (g.take j) o;rw[Aj] at this;omega
    generalize u3 f s o (g.take j)=q at A hpl ⊢;have B:=eZ q x (by omega);have hkq:(q.map aR).length=q.length:=κ _;refine aD (aA (aE (sgh [(0,.row j (aR x))] rfl ?_)));by_cases E:x∈q
    ·rw[φ E] at B;have he:jR f s q x=q:=by unfold jR;rw[ξ (fun h=>h.1 E)]
     refine sk 2 rfl (kc B ?_);refine kz 12 rfl (aB rfl nofun (fun _=>aD (ag [] rfl ⟨j+1,y,by dsimp only;omega,?_⟩)));dsimp only;rw[A,he];exact sl
    rw[ψ E] at B;by_cases Y:f=5
    ·have d5:decide (f=5)=true:=φ Y;have d5':(!decide (f=5))=false:=by rw[d5];rfl
     refine sk 2 rfl (kc B ?_);refine ak 12 [(8,.bv false),(13,.bv false)] rfl (az (aB rfl (fun hb=>?_) (fun hb=>?_)))
     ·have O:¬x=s:=by simp at hb;exact hb
      have he:jR f s q x=q++[x]:=by unfold jR;rw[θ ⟨E,.inr O⟩]
      refine ag [(2,.all)] rfl (AWp.sub (Sub.freeze (id:=600) rfl) ?_);refine ag [] rfl ⟨j+1,y,by dsimp only;omega,?_⟩;dsimp only;rw[A,he];exact sl (hh:=⟨⟨_,rfl,.arrS (by rw[Ai];rfl)⟩,⟨_,rfl,.var rfl⟩,trivial⟩)
     ·have O:x=s:=by simp at hb;exact hb
      have he:jR f s q x=q:=by unfold jR;rw[ξ (fun h=>h.2.elim (fun h=>h Y) (fun h=>h O))]
      refine aD (ag [] rfl ⟨j+1,y,by dsimp only;omega,?_⟩);dsimp only;rw[A,he];exact sl
    ·have d5:decide (f=5)=false:=ψ Y;have d5':(!decide (f=5))=true:=by rw[d5];rfl
     have he:jR f s q x=q++[x]:=by unfold jR;rw[θ ⟨E,.inl Y⟩]
     refine sk 2 rfl (kc B ?_);refine ak 12 [(8,.bv true),(13,.bv true)] rfl (az (aB rfl (fun _=>ag [(2,.all)] rfl (AWp.sub (Sub.freeze (id:=600) rfl) ?_)) nofun));refine ag [] rfl ⟨j+1,y,by dsimp only;omega,?_⟩;dsimp only;rw[A,he];exact sl (hh:=⟨⟨_,rfl,.arrS (by rw[Ai];rfl)⟩,⟨_,rfl,.var rfl⟩,trivial⟩)
   have U:=geD hb M hj;subst U;rw[Ao];refine aG (ag [] rfl ⟨i+1,ab,by dsimp only;omega,?_⟩);dsimp only;rw[J];exact sl
  have U:=geD hb aa hi;subst U;rw[Ao];exact aG (sg rfl (aF (rtT (hc:=hs_all rfl rfl (by simp) rfl))))
theorem wB (t:Ty) (q:tn t≤1000000000) (g:∀u,tn u<tn t→aU Tryz.prog 214 [tyV u] [] (bI (tfR u)) []):aU Tryz.prog 214 [tyV t] [] (bI (tfR t)) []:=by
 obtain⟨f,n,s,a⟩:=t;rw[tn] at q g;have y:=aD8 a;refine mN (.mk f n s a) (show a.length≤_ by omega) (fun i=>?_) (fun u hu=>?_) fun u hu=>g u ?_
 ·have h1:=xI f s (a.take i) [];rw[rW] at h1;have h2:=zG a i;simp only[length_nil] at h1;show(tfL f s (a.take i) []).length≤_;omega
 ·have h1:=n5 (show u∈a from hu);have h2:=lW u;omega
 ·have h1:=n5 (show u∈a from hu);omega
theorem aBe:∀(k:Nat) (t:Ty),tn t≤k→tn t≤1000000000→aU Tryz.prog 214 [tyV t] [] (bI (tfR t)) []
 | 0,t,h,_=>by have:=uB t;omega
 | k+1,t,h,hm=>wB t hm fun u hu=>aBe k u (by omega) (by omega)
mutual
def fvm:Ty→Nat
 | .mk f n s a=>max (tfR (.mk f n s a)).length (aUz a)
def aUz:List Ty→Nat
 | []=>0
 | t::l=>max (fvm t) (aUz l)
end
theorem aS0 (t:Ty):(tfR t).length≤fvm t:=by cases t;rw[fvm];exact Nat.le_max_left ..
theorem aAt:∀{l:List Ty}{t:Ty},t∈l→fvm t≤aUz l
 | u::l,t,h=>by
  rw[aUz];rcases Ar.1 h with rfl | h
  ·exact Nat.le_max_left ..
  ·exact le_trans (aAt h) (Nat.le_max_right ..)
theorem aF5 {f n:Int}{s:Str}{a:List Ty}{u:Ty}(h:u∈a):fvm u≤fvm (.mk f n s a):=by
 rw[fvm];exact le_trans (aAt h) (Nat.le_max_right ..)
theorem aEb {f:Int}{s:Str}{L:Nat}:∀{l:List Ty}{o:List Str},(∀u∈l,(tfR u).length≤L)→(tfL f s l o).length≤o.length+l.length*L
 | [],o,_=>by simp[tfL]
 | t::l,o,h=>by
  have h1:=aEb (f:=f) (s:=s) (l:=l) (o:=u3 f s o (tfR t)) fun u hu=>h u (Bj _ hu)
  have h2:=oG f s (tfR t) o;have g:=h t B1;show(tfL f s l (u3 f s o (tfR t))).length≤_;rw[Aa,Nat.succ_mul];omega
theorem aBd:∀(k:Nat) (t:Ty),tn t≤k→wfS t=true→fvm t≤400000000→aU Tryz.prog 214 [tyV t] [] (bI (tfR t)) []
 | 0,t,h,_,_=>by have:=uB t;omega
 | k+1,t,h,hw,q=>by
  obtain⟨f,n,s,a⟩:=t;obtain⟨h1,h2,_⟩:=aD4 hw;have hu:∀u∈a,(tfR u).length≤400000000:=fun u hu=>le_trans (aS0 u) (le_trans (aF5 hu) q)
  refine mN (.mk f n s a) (show a.length≤_ by omega) (fun i=>?_) (fun u g=>le_trans (hu u g) (by decide)) fun u g=>?_
  ·have y:=aEb (f:=f) (s:=s) (l:=a.take i) (o:=[]) fun u g=>hu u (Bx g)
   rw[Aj,length_nil] at y;have A:min i a.length*400000000≤2*400000000:=Au _ (by omega);show(tfL f s (a.take i) []).length≤_;omega
  ·have g:u∈a:=g;exact aBd k u (by have:=n5 g;rw[tn] at h;omega) (h2 u g) (le_trans (aF5 g) q)
def fw (t:Ty):Nat:=if wfS t=true∧fvm t≤tn t then fvm t else tn t
theorem aSz (t:Ty):fw t≤tn t:=by
 unfold fw;split
 ·rename_i h;exact h.2
 ·exact le_refl _
theorem aBf (t:Ty) (h:fw t≤400000000):aU Tryz.prog 214 [tyV t] [] (bI (tfR t)) []:=by
 unfold fw at h;split at h
 ·rename_i g;exact aBd (tn t) t (le_refl _) g.1 h
 ·exact aBe (tn t) t (le_refl _) (by omega)
abbrev PE:=Int×Int
abbrev TR:=Except PE (Ty×List Tk)
def isT (t:Tk) (s:Str):Bool:=decide (t.kind=4)&&decide (t.text=s)
def cE:Str:=[40]
def lZ:Str:=[41]
def aIs (t:Tk):Bool:=decide (t.kind=1) || (decide (t.kind=2) || isT t cE)
def aN0 (s:Str):Ty:=.mk 3 0 s []
def aNz (s:Str):Ty:=.mk 2 0 s []
mutual
def cP:Nat→Nat→List Tk→TR
 | 0,_,_=>.error (12,0)
 | _+1,_,[]=>.error (12,0)
 | f+1,o,t::R=>
  if t.kind=2 then .ok (aN0 t.text,R)
  else if t.kind=1 then .ok (aNz t.text,R)
  else if isT t cE=false then .error (12,t.pl)
  else if 40≤o then .error (13,t.pl)
  else lY (c9 f (o+1) R)
def c9:Nat→Nat→List Tk→TR
 | 0,_,_=>.error (12,0)
 | f+1,o,R=>match cP f o R with
  | .error e=>.error e
  | .ok (x,R1)=>iL f o x R1
def iL:Nat→Nat→Ty→List Tk→TR
 | 0,_,_,_=>.error (12,0)
 | _+1,_,_,[]=>.error (12,0)
 | f+1,o,x,t::R=>
  if aIs t=true then(match cP f o (t::R) with
   | .error e=>.error e
   | .ok (a,R1)=>iL f o (qI x a) R1)
  else if isT t arrow=true then(match c9 f o R with
   | .error e=>.error e
   | .ok (to,R1)=>.ok (aIp x to,R1))
  else .ok (x,t::R)
def lY:TR→TR
 | .error e=>.error e
 | .ok (_,[])=>.error (12,0)
 | .ok (x,t::R)=>if isT t lZ=true then .ok (x,R) else .error (12,t.pl)
end
def mY (R:List Tk):Prop:=∃p e,R=p++[e]∧e.kind=6
theorem mY.ne {R:List Tk}(h:mY R):∃t R',R=t::R':=by
 obtain⟨p,e,rfl,_⟩:=h;cases p with
 | nil=>exact⟨e,[],rfl⟩
 | cons a p=>exact⟨a,p++[e],rfl⟩
theorem mY.tail {t:Tk}{R:List Tk}(h:mY (t::R)) (g:¬t.kind=6):mY R:=by
 obtain⟨p,e,hp,he⟩:=h;cases p with
 | nil=>
  obtain⟨rfl,_⟩:=List.cons.inj hp;exact absurd he g
 | cons a p=>
  obtain⟨_,rfl⟩:=List.cons.inj hp;exact⟨p,e,rfl,he⟩
def wt (R:List Tk):Nat:=(R.map fun t=>t.text.length+6).sum
theorem cB (t:Tk) (R:List Tk):wt (t::R)=t.text.length+6+wt R:=by unfold wt;rw[Bh,List.sum_cons]
theorem bW {t:Tk}{s:Str}(h:isT t s=true):t.kind=4∧t.text=s:=by
 unfold isT at h;rw[π] at h;exact⟨χ h.1,χ h.2⟩
mutual
def nF:Ty→Bool
 | .mk f _ _ a=>!decide (f=5)&&nFs a
def nFs:List Ty→Bool
 | []=>true
 | t::l=>nF t&&nFs l
end
structure TOk (R:List Tk) (m:Nat) (x:Ty) (R':List Tk):Prop where
 e:mY R→mY R'
 s:∃p,R=p++R'∧m≤p.length
 w:wfS x=true∧nF x=true
theorem TOk.len {R R':List Tk}{m:Nat}{x:Ty}(h:TOk R m x R'):R'.length+m≤R.length:=by
 obtain⟨p,rfl,hp⟩:=h.s;rw[ζ];omega
abbrev WF (x:Ty):Prop:=wfS x=true∧nF x=true
theorem u9 {a b:Ty}(ha:WF a) (hb:WF b):WF (qI a b):=by
 unfold qI;refine⟨?_,?_⟩
 ·rw[wfS,θ rfl,aNu,aNu,aNu,ha.1,hb.1];rfl
 ·rw[nF,nFs,nFs,nFs,ha.2,hb.2];rfl
theorem aRk {a b:Ty}(ha:WF a) (hb:WF b):WF (aIp a b):=u9 (u9 ⟨rfl,rfl⟩ ha) hb
theorem aD9 (a b:Ty):tn (qI a b)=1+(tn a+(tn b+0)):=by unfold qI;rw[tn,tns,tns,tns];rfl
theorem aRn (a b:Ty):tn (aIp a b)=5+tn a+tn b:=by
 unfold aIp;rw[aD9,aD9];have:tn (.mk 3 0 arrow [])=3:=by rw[tn,tns];rfl
 rw[this];omega
mutual
theorem gS:∀(f o:Nat) (R:List Tk) (x:Ty) (R':List Tk),cP f o R=.ok (x,R')→TOk R 1 x R'∧tn x+5+wt R'≤wt R
 | 0,_,_,_,_,h=>by rw[cP] at h;cases h
 | _+1,_,[],_,_,h=>by rw[cP] at h;cases h
 | f+1,o,t::R,x,R',h=>by
  rw[cP] at h;rw[cB];by_cases h2:t.kind=2
  ·rw[θ h2] at h;cases h;refine⟨⟨fun he=>he.tail (by omega),⟨[t],rfl,le_refl _⟩,⟨rfl,rfl⟩⟩,?_⟩;unfold aN0;rw[tn,tns];omega
  rw[ξ h2] at h;by_cases h1:t.kind=1
  ·rw[θ h1] at h;cases h;refine⟨⟨fun he=>he.tail (by omega),⟨[t],rfl,le_refl _⟩,⟨rfl,rfl⟩⟩,?_⟩;unfold aNz;rw[tn,tns];omega
  rw[ξ h1] at h;split at h
  ·cases h
  rename_i hp;have hp:=bW (by simpa using hp:isT t cE=true);split at h
  ·cases h
  cases hw:c9 f (o+1) R with
  | error e=>rw[hw,lY] at h;cases h
  | ok y=>
   obtain⟨y,R1⟩:=y;rw[hw] at h;obtain⟨⟨g,⟨p,A,I⟩,B⟩,E⟩:=fD f (o+1) R y R1 hw;cases R1 with
   | nil=>rw[lY] at h;cases h
   | cons u R2=>
    rw[lY] at h;split at h
    ·rename_i hu;have hu:=bW hu;cases h;rw[cB] at E;refine⟨⟨fun he=>(g (he.tail (by omega))).tail (by omega),⟨t::(p++[u]),by rw[A];simp,by simp⟩,B⟩,by omega⟩
    ·cases h
theorem fD:∀(f o:Nat) (R:List Tk) (x:Ty) (R':List Tk),c9 f o R=.ok (x,R')→TOk R 1 x R'∧tn x+5+wt R'≤wt R
 | 0,_,_,_,_,h=>by rw[c9] at h;cases h
 | f+1,o,R,x,R',h=>by
  rw[c9] at h;cases ha:cP f o R with
  | error e=>rw[ha] at h;cases h
  | ok y=>
   obtain⟨y,R1⟩:=y;rw[ha] at h;obtain⟨⟨g,⟨p,A,I⟩,B⟩,E⟩:=gS f o R y R1 ha;obtain⟨⟨J,⟨q,M,k3⟩,O⟩,U⟩:=aIe f o y R1 x R' B h;exact⟨⟨fun he=>J (g he),⟨p++q,by rw[A,M,Am],by rw[ζ];omega⟩,O⟩,by omega⟩
theorem aIe:∀(f o:Nat) (y:Ty) (R:List Tk) (x:Ty) (R':List Tk),WF y→iL f o y R=.ok (x,R')→TOk R 0 x R'∧tn x+wt R'≤tn y+wt R
 | 0,_,_,_,_,_,_,h=>by rw[iL] at h;cases h
 | _+1,_,_,[],_,_,_,h=>by rw[iL] at h;cases h
 | f+1,o,y,t::R,x,R',hy,h=>by
  rw[iL] at h;split at h
  ·cases ha:cP f o (t::R) with
   | error e=>rw[ha] at h;cases h
   | ok a=>
    obtain⟨a,R1⟩:=a;rw[ha] at h;obtain⟨⟨g,⟨p,A,I⟩,B⟩,E⟩:=gS f o (t::R) a R1 ha;obtain⟨⟨J,⟨q,M,k3⟩,O⟩,U⟩:=aIe f o (qI y a) R1 x R' (u9 hy B) h;rw[aD9] at U;exact⟨⟨fun he=>J (g he),⟨p++q,by rw[A,M,Am],Ac _⟩,O⟩,by omega⟩
  split at h
  ·rename_i Y;have Y:=bW Y;cases ha:c9 f o R with
   | error e=>rw[ha] at h;cases h
   | ok a=>
    obtain⟨a,R1⟩:=a;rw[ha] at h;cases h;obtain⟨⟨g,⟨p,A,I⟩,B⟩,E⟩:=fD f o R a R' ha;rw[aRn,cB];exact⟨⟨fun he=>g (he.tail (by omega)),⟨t::p,by rw[A];rfl,Ac _⟩,aRk hy B⟩,by omega⟩
  ·cases h;exact⟨⟨id,⟨[],rfl,le_refl _⟩,hy⟩,le_refl _⟩
end
mutual
theorem eN:∀(f o:Nat) (R:List Tk) (e p:Int),cP f o R=.error (e,p)→¬e=0
 | 0,_,_,_,_,h=>by rw[cP] at h;cases h;decide
 | _+1,_,[],_,_,h=>by rw[cP] at h;cases h;decide
 | f+1,o,t::R,e,p,h=>by
  rw[cP] at h;split at h
  ·cases h
  split at h
  ·cases h
  split at h
  ·cases h;decide
  split at h
  ·cases h;decide
  cases hw:c9 f (o+1) R with
  | error e'=>
   rw[hw,lY] at h;cases h;exact dV f (o+1) R e p hw
  | ok y=>
   obtain⟨y,R1⟩:=y;rw[hw] at h;cases R1 with
   | nil=>rw[lY] at h;cases h;decide
   | cons u R2=>
    rw[lY] at h;split at h
    ·cases h
    ·cases h;decide
theorem dV:∀(f o:Nat) (R:List Tk) (e p:Int),c9 f o R=.error (e,p)→¬e=0
 | 0,_,_,_,_,h=>by rw[c9] at h;cases h;decide
 | f+1,o,R,e,p,h=>by
  rw[c9] at h;cases ha:cP f o R with
  | error e'=>
   rw[ha] at h;cases h;exact eN f o R e p ha
  | ok y=>
   rw[ha] at h;exact aBy f o _ _ e p h
theorem aBy:∀(f o:Nat) (x:Ty) (R:List Tk) (e p:Int),iL f o x R=.error (e,p)→¬e=0
 | 0,_,_,_,_,_,h=>by rw[iL] at h;cases h;decide
 | _+1,_,_,[],_,_,h=>by rw[iL] at h;cases h;decide
 | f+1,o,x,t::R,e,p,h=>by
  rw[iL] at h;split at h
  ·cases ha:cP f o (t::R) with
   | error e'=>
    rw[ha] at h;cases h;exact eN f o (t::R) e p ha
   | ok y=>
    rw[ha] at h;exact aBy f o _ _ e p h
  split at h
  ·cases ha:c9 f o R with
   | error e'=>
    rw[ha] at h;cases h;exact dV f o R e p ha
   | ok y=>
    rw[ha] at h;cases h
  ·cases h
end
theorem aPp (s:Str):aU Tryz.prog 148 [Go.AM.T s] [] (tyV (.mk 2 0 s [])) []:=by
 refine bC (n:=5) tok Tryz.func148 rfl rfl rfl ?_;exact sg rfl (sg rfl (aF (rtC trw)))
theorem aGv (s:Str):aU Tryz.prog 223 [Go.AM.T s] [] (tyV (.mk 3 0 s [])) []:=by
 refine bC (n:=5) tok Tryz.func223 rfl rfl rfl ?_;exact sg rfl (sg rfl (aF (rtC trw)))
def nQ (L:List Tk):V:=.one (.c (.sl 4 (L.map aI)))
def tkV (t:Tk):V:=.pa (aI t)
def xA (x:Ty) (ps vs:C) (i e p:Int):List C:=[.int .i64 x.form,.int .i64 x.n,.str x.name,.sl 4 (dG x),ps,vs,.int .i64 i,.int .i64 e,.int .i64 p]
def xV (L:List Tk):TR→V
 | .ok (x,R)=>.pa (xA x .nl .nl ((L.length-R.length:Nat):Int) 0 0)
 | .error (e,p)=>.pa (xA zTy .nl .nl 0 e p)
theorem qH (L:List Tk) (x:Ty) (R:List Tk):xV L (.ok (x,R))=.pa (xA x .nl .nl ((L.length-R.length:Nat):Int) 0 0):=rfl
theorem wH (t:Tk) (s:Str):aU Tryz.prog 172 [tkV t,Go.AM.T s] [] (B (isT t s)) []:=by
 unfold isT;refine bC (n:=14) tok Tryz.func172 rfl rfl rfl ?_;refine sg rfl ?_;by_cases h:t.kind=4
 ·have d:decide (t.kind=4)=true:=φ h;rw[d,Cq];exact sgh [(3,.bv true),(8,.bv true)] rfl (aF rtT)
 ·have d:decide (t.kind=4)=false:=ψ h;rw[d,Co];exact sgh [(3,.bv false),(8,.bv false)] rfl (aF rtT)
theorem aBj (t:Tk) (e:Int):aU Tryz.prog 174 [tkV t,I .i64 e] [] (.pa (xA zTy .nl .nl 0 e t.pl)) []:=by
 refine bC (n:=10) tok Tryz.func174 rfl rfl rfl ?_;exact sg rfl (sg rfl (aF (rtC trw)))
theorem aM9 (t:Tk):aU Tryz.prog 175 [tkV t] [] (B (aIs t)) []:=by
 have hi:=wH t cE;unfold aIs;refine bC (n:=17) tok Tryz.func175 rfl rfl rfl ?_;refine sg rfl (sk 1 rfl (kc hi ?_));refine kz 1 rfl ?_;by_cases h1:t.kind=1
 ·have d:decide (t.kind=1)=true:=φ h1;rw[d,Bool.true_or];exact sgh [(3,.bv true),(7,.bv true),(8,.bv true),(10,.bv true)] rfl (aF rtT)
 have d:decide (t.kind=1)=false:=ψ h1;rw[d,B0];by_cases h2:t.kind=2
 ·have d2:decide (t.kind=2)=true:=φ h2;rw[d2,Bool.true_or];exact sgh [(3,.bv false),(7,.bv false),(8,.bv true),(10,.bv true)] rfl (aF rtT)
 ·have d2:decide (t.kind=2)=false:=ψ h2;rw[d2,B0];exact sgh [(3,.bv false),(7,.bv false),(8,.bv false),(10,.bv false)] rfl (aF rtT)
structure At (L:List Tk) (i:Nat) (R:List Tk):Prop where
 d:L.drop i=R
 e:mY R
 l:L.length≤4001
theorem At.lt {L:List Tk}{i:Nat}{R:List Tk}(h:At L i R):i+R.length=L.length∧1≤R.length:=by
 obtain⟨t,R',g⟩:=h.e.ne;have:=congrArg List.length h.d;rw[Bc] at this;have h1:1≤R.length:=by rw[g,Aa];omega
 omega
theorem At.get {L:List Tk}{i:Nat}{t:Tk}{R:List Tk}(h:At L i (t::R)):L[i]?=some t:=by
 have:=congrArg (fun l=>l[0]?) h.d;simpa [Al] using this
theorem At.to {L:List Tk}{i:Nat}{R p R':List Tk}(h:At L i R) (hs:R=p++R') (he:mY R'):At L (i+p.length) R'∧L.length-R'.length=i+p.length:=by
 have h1:=h.lt;refine⟨⟨?_,he,h.l⟩,?_⟩
 ·rw[←Ci,h.d,hs,List.drop_left]
 ·rw[hs,ζ] at h1;omega
theorem At.next {L:List Tk}{i:Nat}{t:Tk}{R:List Tk}(h:At L i (t::R)) (g:¬t.kind=6):At L (i+1) R∧L.length-R.length=i+1:=h.to (p:=[t]) rfl (h.e.tail g)
theorem At.ok {L:List Tk}{i m:Nat}{R R':List Tk}{x:Ty}(h:At L i R) (k:TOk R m x R'):At L (L.length-R'.length) R'∧i+m≤L.length-R'.length:=by
 obtain⟨p,hs,hp⟩:=k.s;obtain⟨g,q⟩:=h.to hs (k.e h.e);rw[q];exact⟨g,by omega⟩
def aQ3 (L:List Tk) (f:Nat):Prop:=∀(o:Nat) (R:List Tk) (i:Nat),At L i R→3*R.length≤f→o≤40→aU Tryz.prog 173 [nQ L,I .i64 (i:Nat),I .i64 (o:Nat)] [] (xV L (cP f o R)) []
def aL4 (L:List Tk) (f:Nat):Prop:=∀(o:Nat) (R:List Tk) (i:Nat),At L i R→3*R.length+2≤f→o≤40→aU Tryz.prog 126 [nQ L,I .i64 (i:Nat),I .i64 (o:Nat)] [] (xV L (c9 f o R)) []
theorem aQk (L:List Tk) (f:Nat) (ih:aL4 L f):aQ3 L (f+1):=by
 intro o R i g hf ho;have hkl:(L.map aI).length=L.length:=κ _;have hLl:=g.l;obtain⟨t,R,rfl⟩:=g.e.ne;have J:=g.lt;have M:=g.get;have hti':=b9 aI M;rw[Aa] at J hf;rw[cP];refine bC (n:=89) tok Tryz.func173 rfl rfl rfl ?_;refine sg rfl (aA (sgh [(2,.row i (aI t))] rfl (aB rfl (fun hb=>?_) (fun hb=>?_))))
 ·have h2:t.kind=2:=χ hb;rw[θ h2];obtain⟨_,hn⟩:=g.next (by omega)
  rw[qH,hn];exact aA (agN [(2,.row i (aI t))] rfl (aF (rtC trw)))
 rw[ξ (Ad hb)];refine aD (aA (sgh [(2,.row i (aI t))] rfl (aB rfl (fun hb=>?_) (fun hb=>?_))))
 ·have h1:t.kind=1:=χ hb;rw[θ h1];obtain⟨_,hn⟩:=g.next (by omega)
  rw[qH,hn];exact aA (agN [(2,.row i (aI t))] rfl (aF (rtC trw)))
 rw[ξ (Ad hb)];refine aD ?_;have O:=wH t cE;have U:=aBj t 12;have Y:=aBj t 13;refine skh 4 [(2,.row i (aI t))] rfl (kc O ?_);refine kz 1 rfl (aA (sg rfl ?_));cases hl:isT t cE with
 | false=>
  rw[θ rfl];refine aB rfl (fun _=>skh 4 [(2,.row i (aI t))] rfl (kc U ?_)) (fun hb=>absurd hb (by decide));exact kz 1 rfl (aF (rtC trw))
 | true=>
 rw[ξ (by decide)];refine aB rfl (fun hb=>absurd hb (by decide)) (fun _=>aD (aA (sg rfl (aB rfl (fun hb=>?_) (fun hb=>?_)))))
 ·rw[θ (by have:=χ hb;omega)];refine skh 4 [(2,.row i (aI t))] rfl (kc Y ?_);exact kz 1 rfl (aF (rtC trw))
 have E:¬40≤o:=by have:=Ad hb;omega
 rw[ξ E];refine aD ?_;obtain⟨B,_⟩:=g.next (by rw[(bW hl).1];decide)
 have aa:=ih (o+1) R (i+1) B (by omega) (by omega);have hok:=fD f (o+1) R;have A:=dV f (o+1) R;refine aA (aC mixed (akN 5 [] rfl (kc aa ?_)));generalize c9 f (o+1) R=w at hok A ⊢;cases w with
 | error e=>
  obtain⟨e,p⟩:=e;refine akN 2 [] rfl (az ?_);rw[lY];refine aA (sg rfl ?_);have he:=A e p rfl;exact aB rfl (fun _=>sg rfl (aF (rtC trw))) (fun hb=>absurd hb (by simp[he]))
 | ok y=>
  obtain⟨x,R1⟩:=y;obtain⟨hT,_⟩:=hok x R1 rfl;obtain⟨q,hle⟩:=B.ok hT;obtain⟨u,R3,rfl⟩:=q.e.ne;rw[qH];generalize L.length-(u::R3).length=j at *;have ab:=q.get;have huj':=b9 aI ab;have hj:=q.lt;rw[Aa] at hj;have I:=wH u lZ;have ac:=aBj u 12;refine kz 2 rfl (aA (sg rfl (aB rfl (fun hb=>absurd hb (by decide)) (fun _=>aD (skh 5 [(3,.row j (aI u))] rfl (kc I ?_))))));refine kz 1 rfl (aA (sg rfl ?_));rw[lY];cases hr:isT u lZ with
  | false=>
   rw[ξ (by decide)];refine aB rfl (fun _=>skh 5 [(3,.row j (aI u))] rfl (kc ac ?_)) (fun hb=>absurd hb (by decide));exact kz 1 rfl (aF (rtC trw))
  | true=>
   rw[θ rfl];obtain⟨_,hn⟩:=q.next (by rw[(bW hr).1];decide)
   rw[qH,hn];exact aB rfl (fun hb=>absurd hb (by decide)) (fun _=>aD (aA (agN [] rfl (sg rfl (aF (rtC trw))))))
def zX:List AM.R:=[.c (.int .i64 0),.c (.int .i64 0),.c (.str []),.c .nl,.c .nl,.c .nl,.c (.int .i64 0),.c (.int .i64 0),.c (.int .i64 0)]
theorem aQd (L:List Tk) (f:Nat) (ac:∀g,g≤f→aQ3 L g) (ae:∀g,g≤f→aL4 L g):aL4 L (f+1):=by
 intro o R i Y hf ho;have hkl:(L.map aI).length=L.length:=κ _;have hLl:=Y.l;have O:=ac f (le_refl _) o R i Y (by omega) ho;have hok:=gS f o R;have A:=eN f o R;have af:=Y.lt;rw[c9];refine bC (n:=81) tok Tryz.func126 rfl rfl rfl ?_;refine sg rfl (sk 3 rfl (kc O ?_));generalize cP f o R=w at hok A ⊢;cases w with
 | error e=>
  obtain⟨e,p⟩:=e;have he:=A e p rfl;exact kz 2 rfl (aA (sg rfl (aB rfl (fun _=>sg rfl (aF (rtC trw))) (fun hb=>absurd hb (by simp[he])))))
 | ok y=>
 obtain⟨x,R1⟩:=y;obtain⟨J,_⟩:=hok x R1 rfl;obtain⟨E,hle⟩:=Y.ok J;have hlen:=J.len;have M:=J.w;dsimp only;rw[qH];have key:∃W,W=iL f o x R1:=⟨_,rfl⟩
 obtain⟨W,q⟩:=key;rw[←q];refine kz 2 rfl (aA (sg rfl (aB rfl (fun hb=>absurd hb (by decide)) (fun _=>aD ?_))));obtain⟨u,R2,rfl⟩:=E.e.ne;have U:=E.get;have aa:=b9 aI U;have ad:=aM9 u;refine skh 5 [(3,.row (L.length-(u::R2).length) (aI u))] rfl (kc ad ?_);refine kz 1 rfl ?_;clear hok A O U aa ad J;refine aA (aE (aL (fun p:Ty×List Tk×Nat=>mk [(0,nQ L),(2,I .i64 (o:Nat)),(6,.one (.vp 6 0)),(7,.one (.vp 7 0)),(8,B (aIs (p.2.1.headD ⟨0,[],0,0⟩)))] [(6,.var 154 zX),(7,.var 154 ((xA p.1 .nl .nl ((L.length-p.2.1.length:Nat):Int) 0 0).map .c))]) (fun p=>At L (L.length-p.2.1.length) p.2.1∧WF p.1∧3*p.2.1.length+1≤p.2.2∧p.2.2≤f∧W=iL p.2.2 o p.1 p.2.1) (fun p=>p.2.2) (x,u::R2,f) ⟨E,M,by dsimp only;omega,le_refl _,q⟩ sl ?_));clear q M E hlen hle Y af hf;rintro⟨x,R1,g⟩ ⟨E,M,hg,hgf,q⟩;dsimp only at E M hg hgf q ⊢;obtain⟨u,R2,rfl⟩:=E.e.ne;obtain⟨g,rfl⟩:∃h,g=h+1:=⟨g-1,by omega⟩
 have U:=E.get;have aa:=b9 aI U;have hlt:=E.lt;rw[iL] at q;refine aA (sg rfl (aB rfl (fun hb=>?_) (fun hb=>?_)))
 ·have hb:aIs u=true:=hb;rw[θ hb] at q;have O:=ac g (by omega) o (u::R2) _ E (by omega) ho;have hok:=gS g o (u::R2);have A:=eN g o (u::R2);refine aD (aE (sk 4 rfl (kc O ?_)));generalize cP g o (u::R2)=w at hok A q ⊢;cases w with
  | error e=>
   obtain⟨e,p⟩:=e;have he:=A e p rfl;dsimp only at q;rw[q];exact kz 2 rfl (aA (sg rfl (aB rfl (fun _=>sg rfl (aF (rtC trw))) (fun hb=>absurd hb (by simp[he])))))
  | ok y=>
   obtain⟨a,R3⟩:=y;obtain⟨J,_⟩:=hok a R3 rfl;obtain⟨ab,hle⟩:=E.ok J;have hlen:=J.len;dsimp only at q;rw[qH];obtain⟨v,R4,rfl⟩:=ab.e.ne;have hvj:=ab.get;have hvj':=b9 aI hvj;have hbv:=aM9 v;refine kz 2 rfl (aA (sg rfl (aB rfl (fun hb=>absurd hb (by decide)) (fun _=>aD (sgh [(4,.all)] rfl (aC mixed (ak 5 [(3,.row (L.length-(v::R4).length) (aI v))] rfl (kc hbv ?_))))))));exact kz 1 rfl ⟨(qI x a,v::R4,g),⟨ab,u9 M J.w,by dsimp only;omega,by dsimp only;omega,q⟩,by dsimp only;omega,sl⟩
 ·have hb:aIs u=false:=hb;rw[ξ (by rw[hb];decide)] at q;have hIs:=wH u arrow;refine aG (skh 5 [(3,.row (L.length-(u::R2).length) (aI u))] rfl (kc hIs ?_));refine kz 1 rfl (aA (sg rfl ?_));cases hl:isT u arrow with
  | false=>
   rw[hl,ξ (by decide)] at q;rw[q];exact aB rfl (fun _=>sg rfl (aF (rtC trw))) (fun hb=>absurd hb (by decide))
  | true=>
   rw[hl,θ rfl] at q;obtain⟨hA2,hn⟩:=E.next (by rw[(bW hl).1];decide)
   rw[Aa] at hg;have hty:=ae g (by omega) o R2 _ hA2 (by omega) ho;have hok:=fD g o R2;have A:=dV g o R2;refine aB rfl (fun hb=>absurd hb (by decide)) (fun _=>aD (aA (aC mixed (akN 5 [] rfl (kc hty ?_)))));generalize c9 g o R2=w at hok A q ⊢;cases w with
   | error e=>
    obtain⟨e,p⟩:=e;have he:=A e p rfl;dsimp only at q;rw[q];exact akN 2 [] rfl (az (aA (sg rfl (aB rfl (fun _=>sg rfl (aF (rtC trw))) (fun hb=>absurd hb (by simp[he]))))))
   | ok y=>
    obtain⟨to,R3⟩:=y;dsimp only at q;rw[q,qH,qH];have hfu:=aWg x to;refine akN 2 [] rfl (az (aA (sg rfl (aB rfl (fun hb=>absurd hb (by decide)) (fun _=>aD (aA (aC mixed (akN 4 [] rfl (kc hfu ?_)))))))));exact akN 4 [] rfl (az (aF (rtC trw)))
theorem aMd (L:List Tk):∀f,(∀g,g≤f→aQ3 L g)∧∀g,g≤f→aL4 L g:=by
 intro f
 induction f with
 | zero=>
  refine⟨fun g u o R i y A=>?_,fun g u o R i y A=>?_⟩
  ·have:=y.lt;omega
  ·have:=y.lt;omega
 | succ f q=>
  refine⟨fun g u=>?_,fun g u=>?_⟩
  ·by_cases h:g≤f
   ·exact q.1 g h
   ·rw[show g=f+1 by omega];exact aQk L f (q.2 f (le_refl _))
  ·by_cases h:g≤f
   ·exact q.2 g h
   ·rw[show g=f+1 by omega];exact aQd L f q.1 q.2
def mZ (o:List Str) (s:Str):List Str:=if s∈o then o else o++[s]
def eI (o l:List Str):List Str:=l.foldl mZ o
theorem oJ (o l m:List Str):eI o (l++m)=eI (eI o l) m:=by unfold eI;rw[foldl_append]
theorem aAj {s:Str}:∀(l o:List Str),s∈eI o l↔s∈o∨s∈l
 | [],o=>by unfold eI;simp
 | x::l,o=>by
  show s∈eI (mZ o x) l↔_;rw[aAj l];unfold mZ;split
  ·rename_i h;constructor
   ·rintro(g | g)
    ·exact .inl g
    ·exact .inr (Bj _ g)
   ·rintro(g | g)
    ·exact .inl g
    ·rcases Ar.1 g with rfl | g
     ·exact .inl h
     ·exact .inr g
  ·rw[Ba,As,Ar];exact or_assoc
theorem aJ1 {s:Str}(o l:List Str):eI o (mZ l s)=mZ (eI o l) s:=by
 by_cases h:s∈l
 ·have:s∈eI o l:=(aAj l o).2 (.inr h)
  unfold mZ;rw[θ h,θ this]
 ·unfold mZ;rw[ξ h,oJ];rfl
theorem aFp (o p:List Str):∀l:List Str,eI o (eI p l)=eI (eI o p) l:=by
 intro l
 induction l generalizing p with
 | nil=>rfl
 | cons x l g=>
  show eI o (eI (mZ p x) l)=eI (mZ (eI o p) x) l;rw[g,aJ1]
theorem iV:∀(l o:List Str),(eI o l).length≤o.length+l.length
 | [],o=>le_refl _
 | x::l,o=>by
  have:=iV l (mZ o x);have h1:(mZ o x).length≤o.length+1:=by unfold mZ;split<;>simp
  show(eI (mZ o x) l).length≤_;rw[Aa];omega
mutual
def frA:List Str→Ty→List Str
 | o,.mk f _ s a=>if f=2 then mZ o s else u5 o a
def u5:List Str→List Ty→List Str
 | o,[]=>o
 | o,t::l=>u5 (frA o t) l
end
theorem zH {f:Int}{s:Str}(h:¬f=5):∀(l o:List Str),u3 f s o l=eI o l
 | [],_=>rfl
 | x::l,o=>by
  have:jR f s o x=mZ o x:=by
   unfold jR mZ;by_cases hx:x∈o
   ·rw[θ hx,ξ (fun h=>h.1 hx)]
   ·rw[ξ hx,θ ⟨hx,.inl h⟩]
  show u3 f s (jR f s o x) l=eI (mZ o x) l;rw[this];exact zH h l _
def gA (o:List Str) (l:List Ty):List Str:=l.foldl (fun o t=>eI o (tfR t)) o
theorem aMz (o:List Str):∀(l:List Ty) (p:List Str),eI o (gA p l)=gA (eI o p) l
 | [],_=>rfl
 | t::l,p=>by
  show eI o (gA (eI p (tfR t)) l)=gA (eI (eI o p) (tfR t)) l;rw[aMz o l,aFp]
theorem aMg {f:Int}{s:Str}(h:¬f=5) (l:List Ty) (o:List Str):aI3 f s l o=gA o l:=by
 rw[rW];unfold tfL gA;congr 1;funext o t;exact zH h _ _
mutual
theorem aS1:∀(t:Ty) (o:List Str),nF t=true→frA o t=eI o (tfR t)
 | .mk f n s a,o,h=>by
  rw[nF,π] at h;have g:¬f=5:=by simpa using h.1
  rw[frA,tfR];by_cases h2:f=2
  ·rw[θ h2,θ h2];rfl
  ·rw[ξ h2,ξ h2,aF7 a o h.2,aMg g,aMz];rfl
theorem aF7:∀(l:List Ty) (o:List Str),nFs l=true→u5 o l=gA o l
 | [],_,_=>rfl
 | t::l,o,h=>by
  rw[nFs,π] at h;rw[u5,aS1 t o h.1,aF7 l _ h.2];rfl
end
theorem aF8 (o:List Str) (l:List Ty) (x:Ty):u5 o (l++[x])=frA (u5 o l) x:=by
 induction l generalizing o with
 | nil=>rw[A9,u5,u5,u5]
 | cons t l g=>rw[A1,u5,u5,g]
theorem aRo (t:Ty) (h:nF t=true) (o:List Str):(frA o t).length≤o.length+tn t:=by
 rw[aS1 t o h];have:=iV (tfR t) o;have:=lW t;omega
def oV (l:List Str):V:=.one (.hs 710 0 l.length l.length)
def oO (l:List Str):AObj:=.arr 9 1 (l.map aR) 1
theorem aKd {l:List Ty}{o:List Str}{i:Nat}{x:Ty}(h:l[i]?=some x):u5 o (l.take (i+1))=frA (u5 o (l.take i)) x:=by rw[Be,h];exact aF8 _ _ _
theorem aOt {l:List Ty}(h:nFs l=true):∀u∈l,nF u=true:=by
 induction l with
 | nil=>intro u hu;cases hu
 | cons t l g=>
  rw[nFs,π] at h;intro u hu;rcases Ar.1 hu with rfl | hu
  ·exact h.1
  ·exact g h.2 u hu
theorem aAv:∀(l:List Ty) (o:List Str),nFs l=true→(u5 o l).length≤o.length+tns l
 | [],o,_=>le_refl _
 | t::l,o,h=>by
  rw[nFs,π] at h;rw[u5,tns];have h1:=aRo t h.1 o;have h2:=aAv l (frA o t) h.2;omega
theorem aJy {l:List Ty}(h:nFs l=true) (i:Nat):nFs (l.take i)=true:=by
 induction l generalizing i with
 | nil=>rw[List.take_nil];rfl
 | cons t l g=>
  rw[nFs,π] at h;cases i with
  | zero=>rfl
  | succ i=>rw[Ax,nFs,h.1,g h.2 i];rfl
theorem aMf:∀{l:List Ty}{i:Nat}{x:Ty},l[i]?=some x→tns (l.take i)+tn x≤tns l
 | t::l,0,x,h=>by
  have e:t=x:=by simpa using h
  subst e;rw[B5,tns,tns];omega
 | t::l,i+1,x,h=>by
  have:=aMf (l:=l) (i:=i) (by simpa using h);rw[Ax,tns,tns];omega
theorem aTz:∀(k:Nat) (t:Ty),tn t≤k→wfS t=true→nF t=true→∀o:List Str,o.length+tn t≤1000000→aU Tryz.prog 177 [tyV t,bI [],oV o] [(710,oO o)] (oV (frA o t)) [(710,oO (frA o t))]
 | 0,t,h,_,_=>by have:=uB t;omega
 | k+1,.mk f n s a,h,hw,hn=>by
  intro o ho;obtain⟨w1,M,_⟩:=aD4 hw;rw[nF,π] at hn;have O:¬f=5:=by simpa using hn.1
  rw[tn] at h ho;rw[frA];have Y:(o.map aR).length=o.length:=κ _;have y:(dA a).length=a.length:=by rw[eY,κ]
  refine bC (n:=55) tok Tryz.func177 rfl rfl rfl ?_;refine sg rfl (aA (sg rfl (aB rfl (fun hb=>?_) (fun hb=>?_))))
  ·have h2:f=2:=χ hb;rw[θ h2];have aa:=aHc [] s (by unfold Fits;decide);have ab:=aHc o s (by unfold Fits;omega);refine AWp.sub (Sub.freeze (id:=710) rfl) ?_;refine aA (aA (agF 5 [(3,.pc (B (decide (s∈([]:List Str))))),(8,.pc (B (decide (s∈o))))] rfl rfl rfl ?_));have A:decide (s∈([]:List Str))=false:=ψ (by simp);refine aB rfl (fun hb=>?_) (fun hb=>?_)
   ·have hm:s∈o:=by
     rw[A] at hb;exact χ (show decide (s∈o)=true from hb)
    unfold mZ;rw[θ hm];exact sg rfl (aF rtT)
   ·have hm:¬s∈o:=by
     rw[A] at hb;exact Ad (show decide (s∈o)=false from hb)
    unfold mZ;rw[ξ hm];refine aD (sg rfl (AWp.sub (st2:=mk [(6,oV (o++[s]))] [(710,oO (o++[s]))]) sl ?_));exact aF rtT
  ·have h2:¬f=2:=Ad hb;rw[ξ h2];refine aD ?_;have d5:decide (f=5)=false:=ψ O;refine aA (sg rfl (aB rfl (fun hb=>absurd (hb.symm.trans d5) (by decide)) (fun _=>aD (aA (sg rfl (aE (aL (fun i:Nat=>mk [(1,bI []),(2,oV (u5 o (a.take i))),(3,.one (.vp 3 0)),(8,I .i64 i)] [(3,.var 31 ((cF (.mk f n s a)).map R.c)),(710,oO (u5 o (a.take i)))]) (fun i=>i≤a.length) (fun i=>a.length-i) 0 (Ac _) sl ?_)))))));intro i hi;refine aA (sg rfl (aB rfl (fun hb=>?_) (fun hb=>?_)))
   ·have E:=ltD hb y;obtain⟨u,g⟩:=aM E;have q:=Af g;have U:(dA a)[i]?=some (cF u):=by rw[eY];exact b9 cF g
    have h3:=aMf g;have h4:=aAv (a.take i) o (aJy hn.2 i);have hc:=aTz k u (by have:=n5 q;omega) (M u q) (aOt hn.2 u q) (u5 o (a.take i)) (by omega);rw[←aKd g] at hc;refine aD (aA (aE (aC mixed (ak 7 [(3,.row i (cF u))] rfl (kc hc ?_)))));exact kz 1 rfl (ag [] rfl ⟨i+1,E,by dsimp only;omega,sl⟩)
   ·have J:=geD hb y hi;subst J;rw[Ao];exact aG (sg rfl (aF rtT))
theorem aU9:∀t:Ty,nF t=true→tfR t=frA [] t
 | .mk f n s a,h=>by
  rw[nF,π] at h;have g:¬f=5:=by simpa using h.1
  rw[frA,tfR];by_cases h2:f=2
  ·rw[θ h2,θ h2];rfl
  ·rw[ξ h2,ξ h2,aF7 a [] h.2,aMg g]
theorem aHq (t:Ty) (hw:WF t) (hl:tn t≤1000000):aU Tryz.prog 128 [tyV t] [] (bI (tfR t)) []:=by
 have h0:=aTz (tn t) t (le_refl _) hw.1 hw.2 [] (by rw[length_nil];omega);have h1:=aU.nilArg (pre:=[tyV t,bI []]) (post:=[]) (hin:=[]) h0 rfl;rw[←aU9 t hw.2] at h1;have h2:=h1.plain (by simp);refine bC (n:=5) tok Tryz.func128 rfl rfl rfl ?_;refine sg rfl (sk 1 rfl (kc h2 ?_));exact kz 1 rfl (aF rtT)
theorem aGu (o l:List Str) (ho:o.length+l.length≤1000000000):aU Tryz.prog 127 [oV o,bI l] [(710,oO o)] (oV (eI o l)) [(710,oO (eI o l))]:=by
 have u:(l.map aR).length=l.length:=κ _;refine bC (n:=27) tok Tryz.func127 rfl rfl rfl ?_;refine sg rfl (aA (sg rfl (aE (aL (fun i:Nat=>mk [(0,oV (eI o (l.take i))),(1,bI l),(5,I .i64 i)] [(710,oO (eI o (l.take i)))]) (fun i=>i≤l.length) (fun i=>l.length-i) 0 (Ac _) sl ?_))));intro i hi;refine aA (sg rfl (aB rfl (fun hb=>?_) (fun hb=>?_)))
 ·have q:=ltD hb u;obtain⟨s,hs⟩:=aM q;have J:=b9 aR hs;have g:eI o (l.take (i+1))=mZ (eI o (l.take i)) s:=by rw[Be,hs,oJ];rfl
  have A:(eI o (l.take i)).length≤1000000000:=by
   have:=iV (l.take i) o;rw[Aj] at this;omega
  have y:=aHc (eI o (l.take i)) s (by unfold Fits;omega);generalize eI o (l.take i)=m at g A y ⊢;have E:(m.map aR).length=m.length:=κ _;refine aD (AWp.sub (Sub.freeze (id:=710) rfl) ?_);refine aA (aE (skh 5 [(3,.row i (aR s))] rfl (kc y ?_)));refine kz 1 rfl (aB rfl (fun hb=>?_) (fun hb=>?_))
  ·have hm:¬s∈m:=fun h=>by rw[φ h] at hb;cases hb
   unfold mZ at g;rw[ξ hm] at g;refine ag [(3,.row i (aR s))] rfl (ag [] rfl ⟨i+1,q,by dsimp only;omega,?_⟩);dsimp only;rw[g];exact sl
  ·have hm:s∈m:=by
    by_cases h:s∈m
    ·exact h
    ·rw[ψ h] at hb;cases hb
   unfold mZ at g;rw[θ hm] at g;refine aD (ag [] rfl ⟨i+1,q,by dsimp only;omega,?_⟩);dsimp only;rw[g];exact sl
 ·have B:=geD hb u hi;subst B;rw[Ao];exact aG (sg rfl (aF rtT))
structure Prd where
 cls:Str
 ty:Ty
def aS (p:Prd):List C:=[.str p.cls,.int .i64 p.ty.form,.int .i64 p.ty.n,.str p.ty.name,.sl 4 (dG p.ty)]
def nY:Str:=[44]
def darrow:Str:=[61,62]
def gW:Nat→Bool→List Tk→List Prd→Option (List Prd×List Tk)
 | 0,_,_,_=>none
 | _+1,_,[],_=>none
 | f+1,b,t::R,out=>
  if t.kind=2 then(match cP (3*R.length) (if b=true then 1 else 0) R with
   | .error _=>none
   | .ok (_,[])=>none
   | .ok (x,u::R2)=>if(b&&isT u nY)=true then gW f b R2 (out++[⟨t.text,x⟩]) else some (out++[⟨t.text,x⟩],u::R2))
  else none
abbrev PR:=Except PE (List Prd×List Tk)
def yW (at':Int) (R0:List Tk) (out:List Prd):List Tk→PR
 | []=>.ok ([],R0)
 | u::R=>if isT u darrow=true then(if 16<out.length then .error (2,at') else .ok (out,R)) else .ok ([],R0)
def brP (at':Int) (R0:List Tk) (b:Bool) (out:List Prd):List Tk→PR
 | []=>.ok ([],R0)
 | u::R=>if b=true then(if isT u lZ=true then yW at' R0 out R else .ok ([],R0)) else yW at' R0 out (u::R)
def jQ (at':Int) (R0:List Tk) (b:Bool):Option (List Prd×List Tk)→PR
 | none=>.ok ([],R0)
 | some (out,R1)=>brP at' R0 b out R1
def cU:List Tk→PR
 | []=>.ok ([],[])
 | t::R=>jQ t.pl (t::R) (isT t cE) (gW ((t::R).length+1) (isT t cE) (if isT t cE=true then R else t::R) [])
structure POk (R:List Tk) (out:List Prd) (R':List Tk) (m:Nat):Prop where
 e:mY R→mY R'
 s:∃p,R=p++R'∧m≤p.length
 w:∀p∈out,WF p.ty∧tn p.ty≤wt R
 l:out.length≤R.length
theorem lV {p R:List Tk}:wt R≤wt (p++R):=by unfold wt;rw[Ai,List.sum_append];omega
theorem sI:∀(f:Nat) (b:Bool) (R:List Tk) (out:List Prd) (g:List Prd) (R':List Tk) (W n:Nat),wt R≤W→(∀p∈out,WF p.ty∧tn p.ty≤W)→out.length+R.length≤n→gW f b R out=some (g,R')→
  (mY R→mY R')∧(∃p,R=p++R'∧1≤p.length)∧(∀p∈g,WF p.ty∧tn p.ty≤W)∧g.length≤n
 | 0,_,_,_,_,_,_,_,_,_,_,h=>by rw[gW] at h;cases h
 | _+1,_,[],_,_,_,_,_,_,_,_,h=>by rw[gW] at h;cases h
 | f+1,b,t::R,out,g,R',W,n,J,ho,hn,h=>by
  rw[gW] at h;by_cases h2:t.kind=2
  ·rw[θ h2] at h;have hok:=gS (3*R.length) (if b=true then 1 else 0) R;generalize cP (3*R.length) (if b=true then 1 else 0) R=w at hok h;cases w with
   | error e=>cases h
   | ok y=>
    obtain⟨x,R1⟩:=y;obtain⟨⟨E,⟨p,B,g3⟩,M⟩,O⟩:=hok x R1 rfl;rw[cB] at J;rw[Aa] at hn;have I:R1.length+1≤R.length:=by rw[B,ζ];omega
    have A:∀q∈out++[(⟨t.text,x⟩:Prd)],WF q.ty∧tn q.ty≤W:=fun q hq=>by
     rcases Ba.1 hq with hq | hq
     ·exact ho q hq
     ·rw[As.1 hq];exact⟨M,by show tn x≤W;omega⟩
    cases R1 with
    | nil=>cases h
    | cons u R2=>
     dsimp only at h;split at h
     ·rename_i hc;rw[π] at hc;have hu:=bW hc.2;rw[cB] at O;rw[Aa] at I;obtain⟨U,⟨q,Y,k3⟩,k4,k5⟩:=sI f b R2 (out++[⟨t.text,x⟩]) g R' W n (by omega) A (by rw[ζ,Bg];omega) h;exact⟨fun he=>U ((E (he.tail (by omega))).tail (by omega)),⟨t::(p++u::q),by rw[B,Y];simp,by simp⟩,k4,k5⟩
     ·cases h;exact⟨fun he=>E (he.tail (by omega)),⟨t::p,by rw[B];rfl,by simp⟩,A,by rw[ζ,Bg];omega⟩
  ·rw[ξ h2] at h;cases h
theorem aNj {a:Int}{R0 R1:List Tk}{out g:List Prd}{R':List Tk}(hs:(mY R0→mY R1)∧∃p,R0=p++R1) (ho:∀p∈out,WF p.ty∧tn p.ty≤wt R0) (hl:out.length≤R0.length) (h:yW a R0 out R1=.ok (g,R')):POk R0 g R' 0:=by
 have q:POk R0 [] R0 0:=⟨id,⟨[],rfl,le_refl _⟩,fun p hp=>by(cases hp),Ac _⟩
 cases R1 with
 | nil=>rw[yW] at h;cases h;exact q
 | cons u R=>
  rw[yW] at h;split at h
  ·rename_i hu;split at h
   ·cases h
   ·cases h;obtain⟨h1,p,h2⟩:=hs;exact⟨fun he=>(h1 he).tail (by rw[(bW hu).1];decide),⟨p++[u],by rw[h2];simp,Ac _⟩,ho,hl⟩
  ·cases h;exact q
theorem kP {R:List Tk}{out:List Prd}{R':List Tk}(h:cU R=.ok (out,R')):POk R out R' 0:=by
 have A:POk R [] R 0:=⟨id,⟨[],rfl,le_refl _⟩,fun p hp=>by(cases hp),Ac _⟩
 cases R with
 | nil=>rw[cU] at h;cases h;exact A
 | cons t R=>
  rw[cU] at h;have g:(mY (t::R)→mY (if isT t cE=true then R else t::R))∧(∃p,t::R=p++(if isT t cE=true then R else t::R)):=by
   by_cases hb:isT t cE=true
   ·rw[θ hb];exact⟨fun he=>he.tail (by rw[(bW hb).1];decide),[t],rfl⟩
   ·rw[ξ hb];exact⟨id,[],rfl⟩
  have hw:wt (if isT t cE=true then R else t::R)≤wt (t::R):=by
   split
   ·rw[cB];omega
   ·exact le_refl _
  have hlen:(if isT t cE=true then R else t::R).length≤(t::R).length:=by split<;>simp
  have hok:=sI ((t::R).length+1) (isT t cE) (if isT t cE=true then R else t::R) [];generalize (if isT t cE=true then R else t::R)=Q at g hw hlen hok h;generalize isT t cE=b at hok h;cases hp:gW ((t::R).length+1) b Q [] with
  | none=>rw[hp,jQ] at h;cases h;exact A
  | some y=>
   obtain⟨J,R1⟩:=y;rw[hp,jQ] at h;obtain⟨M,⟨q,O,k3⟩,E,I⟩:=hok J R1 (wt (t::R)) (t::R).length hw (fun p hp=>by cases hp) (by rw[length_nil];omega) hp;obtain⟨h1,p,h2⟩:=g;have B:(mY (t::R)→mY R1)∧∃p,t::R=p++R1:=⟨fun he=>M (h1 he),p++q,by rw[h2,O,Am]⟩
   cases R1 with
   | nil=>rw[brP] at h;cases h;exact A
   | cons u R2=>
    rw[brP] at h;split at h
    ·split at h
     ·rename_i hu;obtain⟨U,Y,h4⟩:=B;exact aNj ⟨fun he=>(U he).tail (by rw[(bW hu).1];decide),Y++[u],by rw[h4];simp⟩ E I h
     ·cases h;exact A
    ·exact aNj B E I h
def prV (L:List Tk):PR→V
 | .ok (ps,R)=>.pa (xA zTy (.sl 5 (ps.map aS)) .nl ((L.length-R.length:Nat):Int) 0 0)
 | .error (e,p)=>.pa (xA zTy .nl .nl 0 e p)
theorem r4 (L:List Tk) (ps:List Prd) (R:List Tk):prV L (.ok (ps,R))=.pa (xA zTy (.sl 5 (ps.map aS)) .nl ((L.length-R.length:Nat):Int) 0 0):=rfl
def nX (i:Int):List AM.R:=[.c (.int .i64 0),.c (.int .i64 0),.c (.str []),.c .nl,.c .nl,.c .nl,.c (.int .i64 i),.c (.int .i64 0),.c (.int .i64 0)]
noncomputable def aW5 (c:Code):Code:=jN (jN (jN (jN (jN (jN (jN (jN (jN c))))))))
theorem aLk (L:List Tk) (R:List Tk) (i:Nat) (hA:At L i R):aU Tryz.prog 125 [nQ L,I .i64 (i:Nat)] [] (prV L (cU R)) []:=by
 have hkl:(L.map aI).length=L.length:=κ _;have hLl:=hA.l;have hti0:=hA.lt;have ab:L.length-R.length=i:=by omega
 obtain⟨t,R,rfl⟩:=hA.e.ne;have hti:=hA.get;have hti':=b9 aI hti;have hIs:=wH t cE;refine bC (n:=100) tok Tryz.func125 rfl rfl rfl ?_;refine sg rfl (sg rfl (sg rfl (sg rfl (skh 4 [(2,.row i (aI t))] rfl (kc hIs ?_)))));refine kz 1 rfl ?_;rw[cU];have hQ:∃(Q:List Tk) (k:Nat) (o:Nat),Q=(if isT t cE=true then R else t::R)∧At L k Q∧(o=if isT t cE=true then 1 else 0)∧k=i+o∧Q.length≤(t::R).length:=by
  by_cases hb:isT t cE=true
  ·obtain⟨h1,_⟩:=hA.next (by rw[(bW hb).1];decide)
   exact⟨R,i+1,1,by rw[θ hb],h1,by rw[θ hb],rfl,by simp⟩
  ·exact⟨t::R,i,0,by rw[ξ hb],hA,by rw[ξ hb],rfl,le_refl _⟩
 obtain⟨Q,k,o,hQ,B,ho,hk,hQl⟩:=hQ;rw[←hQ];refine kY (mk [(0,nQ L),(1,I .i64 (i:Nat)),(4,.one (.vp 4 0)),(5,.one (.vp 5 0)),(6,I .i64 (o:Nat)),(7,I .i64 (k:Nat))] [(4,.var 154 zX),(5,.var 154 (nX i))]) ?_ ?_
 ·refine sg rfl (aB rfl (fun hb=>?_) (fun hb=>?_))
  ·rw[hb,θ rfl] at ho;subst ho hk;exact sg rfl (agN [] rfl (.inl ⟨rfl,sl⟩))
  ·rw[hb,ξ (by decide)] at ho;subst ho hk;exact aD (.inl ⟨rfl,sl⟩)
 clear hQ hIs;have A:o=if isT t cE=true then 1 else 0:=ho
 generalize isT t cE=b at A ⊢;clear ho;have q:∃W:PR,W=jQ t.pl (t::R) b (gW ((t::R).length+1) b Q []):=⟨_,rfl⟩
 obtain⟨W,q⟩:=q;rw[←q];refine sg rfl (AWp.sub (Sub.own (t:=9) (id:=500) 195 5 rfl rfl) ?_);refine aA (aE (aL (fun p:Nat×Nat×List Prd×List Tk=>mk [(0,nQ L),(1,I .i64 (i:Nat)),(4,.one (.vp 4 0)),(5,.one (.vp 5 0)),(6,I .i64 (o:Nat)),(7,I .i64 (p.1:Nat)),(9,.one (.hs 500 0 p.2.2.1.length p.2.2.1.length))] [(4,.var 154 zX),(5,.var 154 (nX i)),(500,.arr 195 5 (p.2.2.1.map aS) 0)]) (fun p=>At L p.1 p.2.2.2∧p.2.2.2.length+1≤p.2.1∧p.2.2.1.length+p.2.2.2.length≤4001∧W=jQ t.pl (t::R) b (gW p.2.1 b p.2.2.2 p.2.2.1)) (fun p=>p.2.1) (k,(t::R).length+1,[],Q) ⟨B,by dsimp only;omega,by dsimp only;rw[length_nil];have:=B.lt;omega,q⟩ sl ?_));clear q B hQl hk;rintro⟨j,f,out,Q⟩ ⟨B,hf,hol,q⟩;dsimp only at B hf hol q ⊢;have hout:(out.map aS).length=out.length:=κ _;obtain⟨f,rfl⟩:∃g,f=g+1:=⟨f-1,by omega⟩
 obtain⟨u,Q,rfl⟩:=B.e.ne;have huj:=B.get;have huj':=b9 aI huj;have hjl:=B.lt;rw[Aa] at hf hol hjl;rw[gW] at q;refine aE (aA (sgh [(2,.row j (aI u))] rfl ?_));by_cases h2:u.kind=2
 case neg=>
  rw[ξ h2,jQ] at q;have d2:(!decide (u.kind=2))=true:=by rw[ψ h2];rfl
  rw[q,r4,ab];exact aB rfl (fun _=>sg rfl (aF (rtC trw))) (fun hb=>absurd (hb.symm.trans d2) (by decide))
 rw[θ h2] at q;have d2:(!decide (u.kind=2))=false:=by rw[φ h2];rfl
 refine aB rfl (fun hb=>absurd (hb.symm.trans d2) (by decide)) (fun _=>aD ?_);obtain⟨hA1,_⟩:=B.next (by omega)
 have hat:=(aMd L (3*Q.length)).1 (3*Q.length) (le_refl _) o Q _ hA1 (le_refl _) (by rw[A];split<;>omega);rw[A] at hat;have hok:=gS (3*Q.length) (if b=true then 1 else 0) Q;have aa:=eN (3*Q.length) (if b=true then 1 else 0) Q;rw[←A] at hat hok aa q;refine aA (aC mixed (akN 4 [] rfl (kc hat ?_)));generalize cP (3*Q.length) o Q=w at hok aa q ⊢;cases w with
 | error e=>
  obtain⟨e,p⟩:=e;have he:=aa e p rfl;dsimp only at q;rw[q,jQ,r4,ab];exact kz 2 rfl (aA (sg rfl (aB rfl (fun _=>sg rfl (aF (rtC trw))) (fun hb=>absurd hb (by simp[he])))))
 | ok y=>
 obtain⟨x,R1⟩:=y;obtain⟨hT,_⟩:=hok x R1 rfl;obtain⟨U,hle⟩:=hA1.ok hT;have hlen:=hT.len;obtain⟨v,R2,rfl⟩:=U.e.ne;rw[qH];dsimp only at q;have hvj:=U.get;have hvj':=b9 aI hvj;have hv2:=U.lt;rw[Aa] at hlen hv2;have hcm:=wH v nY;refine kz 2 rfl (aA (sg rfl (aB rfl (fun hb=>absurd hb (by decide)) (fun _=>aD (aA (agN [(3,.row j (aI u)),(9,.all)] rfl (sg rfl (skh 4 [(2,.row (L.length-(v::R2).length) (aI v))] rfl (kc hcm ?_)))))))));refine kz 1 rfl ?_;have M:out.map aS++[[.str u.text,.int .i64 x.form,.int .i64 x.n,.str x.name,.sl 4 (dG x)]]=(out++[(⟨u.text,x⟩:Prd)]).map aS:=by rw[Ai];rfl
 have Y:((out++[(⟨u.text,x⟩:Prd)]).map aS).length=out.length+1:=by rw[κ,ζ];rfl
 generalize hO:out++[(⟨u.text,x⟩:Prd)]=O at q M Y;have ac:O.length=out.length+1:=by rw[←Y,κ]
 generalize L.length-(v::R2).length=k at *;have E:(bif decide ((o:Int)=0) then true else !isT v nY)= !(b&&isT v nY):=by
  cases b with
  | false=>rw[A];rfl
  | true=>rw[A];rfl
 refine aA (aA (agF 3 [] rfl rfl rfl ?_));by_cases hc:(b&&isT v nY)=true
 ·rw[θ hc] at q;rw[hc] at E;refine aB rfl (fun hb=>absurd (hb.symm.trans E) (by decide)) (fun _=>aD ?_);rw[π] at hc;obtain⟨hA3,_⟩:=U.next (by rw[(bW hc.2).1];decide)
  exact agN [] rfl ⟨(k+1,f,O,R2),⟨hA3,by dsimp only;omega,by dsimp only;omega,q⟩,by dsimp only;omega,sl (he:=⟨rfl,rfl,rfl,rfl,rfl,rfl,Go.AM.hs_ren (by rw[ac,←hout];rfl) (by rw[ac,←hout];rfl),trivial⟩) (hh:=⟨⟨_,rfl,.var rfl⟩,⟨_,rfl,.var rfl⟩,⟨_,rfl,.arrS M⟩,trivial⟩)⟩
 rw[ξ hc,jQ] at q;rw[Ck _ |>.mp hc] at E;refine aB rfl (fun _=>aG (AWp.sub (st2:=mk [(0,nQ L),(1,I .i64 (i:Nat)),(4,.one (.vp 4 0)),(5,.one (.vp 5 0)),(6,I .i64 (o:Nat)),(7,I .i64 (k:Nat)),(9,.one (.hs 500 0 O.length O.length))] [(4,.var 154 zX),(5,.var 154 (nX i)),(500,.arr 195 5 (O.map aS) 0)]) (sl (he:=⟨rfl,rfl,rfl,rfl,rfl,rfl,Go.AM.hs_ren (by rw[ac,←hout];rfl) (by rw[ac,←hout];rfl),trivial⟩) (hh:=⟨⟨_,rfl,.var rfl⟩,⟨_,rfl,.var rfl⟩,⟨_,rfl,.arrS M⟩,trivial⟩)) ?_)) (fun hb=>absurd (hb.symm.trans E) (by decide));clear E hc M hO hcm hout Y;rw[brP] at q;have hmid:∀(m:Nat) (Q:List Tk),At L m Q→W=yW t.pl (t::R) O Q→AWp none Tryz.prog 100 (keys ([]:List (Nat×AObj))) (aW5 (Tryz.f125.body.getD .skip)) (mk [(0,nQ L),(1,I .i64 (i:Nat)),(4,.one (.vp 4 0)),(5,.one (.vp 5 0)),(6,I .i64 (o:Nat)),(7,I .i64 (m:Nat)),(9,.one (.hs 500 0 O.length O.length))] [(4,.var 154 zX),(5,.var 154 (nX i)),(500,.arr 195 5 (O.map aS) 0)]) (fun ex st=>(ex=.normal∨ex=.ret)∧Fin tr.flat Tryz.f125 st [] (prV L W) []):=by
  intro m Q ad J;obtain⟨y,Q,rfl⟩:=ad.e.ne;have hyj:=ad.get;have hyj':=b9 aI hyj;have hda:=wH y darrow;have hB:=aBj t 2;have hml:=ad.lt;rw[yW] at J;refine skh 4 [(2,.row m (aI y))] rfl (kc hda ?_);refine kz 1 rfl (aA (sg rfl ?_));cases hd:isT y darrow with
  | false=>
   rw[hd,ξ (by decide)] at J;rw[J,r4,ab];refine aB rfl (fun _=>sg rfl (AWp.sub (Sub.freeze (id:=500) rfl) ?_)) (fun hb=>absurd hb (by decide));exact aF (rtC trw)
  | true=>
   rw[hd,θ rfl] at J;obtain⟨_,hn⟩:=ad.next (by rw[(bW hd).1];decide)
   refine aB rfl (fun hb=>absurd hb (by decide)) (fun _=>aD (aA (sg rfl (aB rfl (fun hb=>?_) (fun hb=>?_)))))
   ·rw[θ (by have:=χ hb;omega)] at J;rw[J];refine skh 4 [(2,.row i (aI t))] rfl (kc hB ?_);refine kz 1 rfl (AWp.sub (Sub.freeze (id:=500) rfl) ?_);exact aF (rtC trw)
   ·rw[ξ (by have:=Ad hb;omega)] at J;rw[J,r4,hn];refine aD (aA (agN [] rfl (AWp.sub (Sub.freeze (id:=500) rfl) ?_)));exact aF (rtC trw)
 cases b with
 | false=>
  rw[ξ (by decide)] at A q;subst A;refine aA (AWp.cut (mk [(0,nQ L),(1,I .i64 (i:Nat)),(4,.one (.vp 4 0)),(5,.one (.vp 5 0)),(6,I .i64 ((0:Nat):Int)),(7,I .i64 (k:Nat)),(9,.one (.hs 500 0 O.length O.length))] [(4,.var 154 zX),(5,.var 154 (nX i)),(500,.arr 195 5 (O.map aS) 0)]) ?_ (hmid k (v::R2) U q));exact sg rfl (aB rfl (fun hb=>absurd hb (by decide)) (fun _=>aD sl))
 | true=>
  rw[θ rfl] at A q;subst A;have hrp:=wH v lZ;by_cases hr:isT v lZ=true
  ·rw[θ hr] at q;obtain⟨hA3,_⟩:=U.next (by rw[(bW hr).1];decide)
   refine aA (AWp.cut (mk [(0,nQ L),(1,I .i64 (i:Nat)),(4,.one (.vp 4 0)),(5,.one (.vp 5 0)),(6,I .i64 ((1:Nat):Int)),(7,I .i64 ((k+1:Nat):Int)),(9,.one (.hs 500 0 O.length O.length))] [(4,.var 154 zX),(5,.var 154 (nX i)),(500,.arr 195 5 (O.map aS) 0)]) ?_ (hmid (k+1) R2 hA3 q));refine sg rfl (aB rfl (fun _=>skh 4 [(2,.row k (aI v))] rfl (kc hrp ?_)) (fun hb=>absurd hb (by decide)));refine kz 1 rfl ?_;rw[hr];exact aA (sg rfl (aB rfl (fun hb=>absurd hb (by decide)) (fun _=>aD (agN [] rfl sl))))
  ·rw[ξ hr] at q;rw[q,r4,ab];refine aA (sg rfl (aB rfl (fun _=>skh 4 [(2,.row k (aI v))] rfl (kc hrp ?_)) (fun hb=>absurd hb (by decide))));refine kz 1 rfl ?_;rw[Ck _ |>.mp hr];refine aA (sg rfl (aB rfl (fun _=>sg rfl (AWp.sub (Sub.freeze (id:=500) rfl) ?_)) (fun hb=>absurd hb (by decide))));exact aF (rtC trw)
structure Sch where
 vars:List Str
 preds:List Prd
 ty:Ty
def gP (o:List Str) (ps:List Prd):List Str:=ps.foldl (fun o p=>eI o (tfR p.ty)) o
def aQ8 (ps:List Prd) (x:Ty):List Str:=eI (gP [] ps) (tfR x)
abbrev SR:=Except PE (Sch×List Tk)
def n8 (ps:List Prd):TR→SR
 | .error e=>.error e
 | .ok (x,R)=>.ok (⟨aQ8 ps x,ps,x⟩,R)
def n9:PR→SR
 | .error e=>.error e
 | .ok (ps,R)=>n8 ps (c9 (3*R.length+2) 0 R)
def cI (R:List Tk):SR:=n9 (cU R)
theorem y8 (o:List Str) (ps:List Prd) (p:Prd):gP o (ps++[p])=eI (gP o ps) (tfR p.ty):=by unfold gP;rw[foldl_append];rfl
theorem y7 {ps:List Prd}{i:Nat}{p:Prd}(h:ps[i]?=some p):gP [] (ps.take (i+1))=eI (gP [] (ps.take i)) (tfR p.ty):=by rw[Be,h];exact y8 _ _ _
theorem vK {W:Nat}:∀(ps:List Prd) (o:List Str),(∀p∈ps,tn p.ty≤W)→(gP o ps).length≤o.length+ps.length*W
 | [],o,_=>by show o.length≤_;omega
 | p::ps,o,h=>by
  have h1:=vK ps (eI o (tfR p.ty)) fun q hq=>h q (Bj _ hq)
  have h2:=iV (tfR p.ty) o;have g:=lW p.ty;have u:=h p B1;show(gP (eI o (tfR p.ty)) ps).length≤_;rw[Aa,A3];omega
def scV (L:List Tk):SR→V
 | .ok (s,R)=>.pa (xA s.ty (.sl 5 (s.preds.map aS)) (.sl 1 (s.vars.map aR)) ((L.length-R.length:Nat):Int) 0 0)
 | .error (e,p)=>.pa (xA zTy .nl .nl 0 e p)
theorem aMl (L:List Tk) (s:Sch) (R:List Tk):scV L (.ok (s,R))=.pa (xA s.ty (.sl 5 (s.preds.map aS)) (.sl 1 (s.vars.map aR)) ((L.length-R.length:Nat):Int) 0 0):=rfl
theorem aBw {a:Int}{R0 R1:List Tk}{out:List Prd}{e p:Int}(h:yW a R0 out R1=.error (e,p)):¬e=0:=by
 cases R1 with
 | nil=>rw[yW] at h;cases h
 | cons u R=>
  rw[yW] at h;split at h
  ·split at h
   ·cases h;decide
   ·cases h
  ·cases h
theorem iF {R:List Tk}{e p:Int}(h:cU R=.error (e,p)):¬e=0:=by
 cases R with
 | nil=>rw[cU] at h;cases h
 | cons t R=>
  rw[cU] at h;cases hp:gW ((t::R).length+1) (isT t cE) (if isT t cE=true then R else t::R) [] with
  | none=>rw[hp,jQ] at h;cases h
  | some y=>
   obtain⟨g,R1⟩:=y;rw[hp,jQ] at h;cases R1 with
   | nil=>rw[brP] at h;cases h
   | cons u R2=>
    rw[brP] at h;split at h
    ·split at h
     ·exact aBw h
     ·cases h
    ·exact aBw h
theorem n7 {R:List Tk}{e p:Int}(h:cI R=.error (e,p)):¬e=0:=by
 unfold cI at h;cases hp:cU R with
 | error e'=>rw[hp,n9] at h;cases h;exact iF hp
 | ok y=>
  obtain⟨ps,R1⟩:=y;rw[hp,n9] at h;cases hw:c9 (3*R1.length+2) 0 R1 with
  | error e'=>rw[hw,n8] at h;cases h;exact dV _ _ _ _ _ hw
  | ok y=>obtain⟨x,R2⟩:=y;rw[hw,n8] at h;cases h
theorem aHn (L:List Tk) (R:List Tk) (i:Nat) (u:At L i R) (hwt:wt L≤30000):aU Tryz.prog 85 [nQ L,I .i64 (i:Nat)] [] (scV L (cI R)) []:=by
 have hp:=aLk L R i u;have E:= @kP R;have J:= @iF R;unfold cI;refine bC (n:=54) tok Tryz.func85 rfl rfl rfl ?_;refine sg rfl (sk 2 rfl (kc hp ?_));generalize cU R=w at E J ⊢;cases w with
 | error e=>
  obtain⟨e,p⟩:=e;have he:=J rfl;rw[n9];exact kz 2 rfl (aA (sg rfl (aB rfl (fun _=>sg rfl (aF (rtC trw))) (fun hb=>absurd hb (by simp[he])))))
 | ok y=>
 obtain⟨ps,R1⟩:=y;obtain⟨k1,⟨q,k2,_⟩,k3,k4⟩:=E rfl;obtain⟨M,hn1⟩:=u.to k2 (k1 u.e);rw[r4,n9,hn1];generalize i+q.length=j at M;have hty:=(aMd L (3*R1.length+2)).2 (3*R1.length+2) (le_refl _) 0 R1 j M (le_refl _) (by decide);have O:=fD (3*R1.length+2) 0 R1;have U:=dV (3*R1.length+2) 0 R1;have hwR:∀{p Q:List Tk},wt Q≤wt (p++Q):=lV;have A:wt R≤30000:=by
  have:L=L.take i++R:=by rw[←u.d,take_append_drop]
  rw[this] at hwt;exact le_trans lV hwt
 have hwtR1:wt R1≤30000:=by rw[k2] at A;exact le_trans lV A
 have hRl:=u.lt;have hLl:=u.l;refine kz 2 rfl (aA (sg rfl (aB rfl (fun hb=>absurd hb (by decide)) (fun _=>aD (sk 3 rfl (kc hty ?_))))));generalize c9 (3*R1.length+2) 0 R1=w at O U ⊢;cases w with
 | error e=>
  obtain⟨e,p⟩:=e;have he:=U e p rfl;rw[n8];exact kz 2 rfl (aA (sg rfl (aB rfl (fun _=>sg rfl (aF (rtC trw))) (fun hb=>absurd hb (by simp[he])))))
 | ok y=>
 obtain⟨x,R2⟩:=y;obtain⟨hT,hTn⟩:=O x R2 rfl;rw[qH,n8,aMl];dsimp only;generalize ((L.length-R2.length:Nat):Int)=m;have Y:(ps.map aS).length=ps.length:=κ _;refine kz 2 rfl (aA (sg rfl (aB rfl (fun hb=>absurd hb (by decide)) (fun _=>aD (sg rfl (aA (sg rfl (AWp.sub (Sub.ownCell (x:=6) (k:=5) (id:=710) 9 1 rfl rfl rfl) ?_))))))));refine aE (aL (fun k:Nat=>mk [(4,.one (.vp 4 0)),(5,.one (.vp 5 0)),(6,.one (.vp 6 0)),(7,I .i64 (k:Nat))] [(4,.var 154 zX),(5,.var 154 ((xA zTy (.sl 5 (ps.map aS)) .nl (j:Nat) 0 0).map .c)),(6,.var 154 [.c (.int .i64 x.form),.c (.int .i64 x.n),.c (.str x.name),.c (.sl 4 (dG x)),.c (.sl 5 (ps.map aS)),.hs 710 0 (gP [] (ps.take k)).length (gP [] (ps.take k)).length,.c (.int .i64 m),.c (.int .i64 0),.c (.int .i64 0)]),(710,oO (gP [] (ps.take k)))]) (fun k=>k≤ps.length) (fun k=>ps.length-k) 0 (Ac _) sl ?_);intro k hk;refine aA (sg rfl ?_);have hgl:(gP [] (ps.take k)).length≤4001*30000:=by
  have h1:=vK (W:=30000) (ps.take k) [] (fun p hp=>by have:=(k3 p (Bx hp)).2;omega);rw[Aj,length_nil] at h1;have:min k ps.length*30000≤4001*30000:=Au _ (by omega);omega
 refine aB rfl (fun hb=>?_) (fun hb=>?_)
 ·have aa:=ltD hb Y;obtain⟨p,hp⟩:=aM aa;have hp':=b9 aS hp;have hpm:=k3 p (Af hp);have B:=aHq p.ty hpm.1 (by omega);have htf:=lW p.ty;have g:=aGu (gP [] (ps.take k)) (tfR p.ty) (by omega);rw[←y7 hp] at g;refine aD (aA (aE (aC mixed (ak 8 [(5,.row k (aS p))] rfl (kc B ?_)))));refine kc g ?_;exact kz 2 rfl (ag [] rfl ⟨k+1,aa,by dsimp only;omega,sl⟩)
 ·have hge:=geD hb Y hk;subst hge;rw[Ao] at hgl ⊢;have B:=aHq x hT.w (by omega);have htf:=lW x;have g:=aGu (gP [] ps) (tfR x) (by omega);have hsv:aQ8 ps x=eI (gP [] ps) (tfR x):=rfl;rw[hsv];refine aG (sk 4 rfl (kc B ?_));refine kc g ?_;refine kz 2 rfl (sg rfl (AWp.sub (Sub.freeze (id:=710) rfl) ?_));exact aF (rtC trw)
end Go.Proofs.YtkhgpgihmphfdaaGreat
