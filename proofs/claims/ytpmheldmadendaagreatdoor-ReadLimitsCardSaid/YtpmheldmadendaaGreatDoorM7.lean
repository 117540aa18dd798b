/-
  Texts Rd8 to Rd18 in one.
-/
import Derived.Test.YtpmheldmadendaaGreatDoorM6
import Derived.ControlIn
open List (append_assoc cons_append drop_drop drop_eq_getElem_cons drop_length drop_zero foldl_append length_append length_cons length_drop length_map length_nil length_pos_iff length_singleton length_take map_append map_cons mem_append mem_cons mem_cons_of_mem mem_cons_self mem_of_mem_take mem_singleton nil_append sum_cons take_add_one take_append_drop take_length take_succ_cons take_zero)
open Nat (add_mul le_refl le_trans lt_irrefl mul_le_mul_right zero_le)
namespace Go.AM
open Go
section
variable {fn:Func}{st:St}{hin hout:List (Nat×AObj)}{res res2 res3:V}
theorem aN2 {tr:Tr}{a t u:Nat}{i:TI}{id off tv:Nat}{cells:List R}{v v2:V}{ids j:List Nat}(hw:tr.wf=true) (r:fn.results.toList=[.tmp u,.cell a t]:=by rfl) (hi:tr.get t=some i:=by rfl) (ha:st.e a=some (.one (.vp id off)):=by rfl) (hh:st.h id=some (.var tv cells):=by rfl) (hb:Nat.ble (off+i.size) cells.length=true:=by rfl) (y:iS i ((cells.drop off).take i.size)=some v:=by rfl) (hu:st.e u=some v2:=by rfl)
  (hc:Conv st.h ids v res2:=by first | exact .refl | exact .one (.c .nl .nil) | ((first | apply Go.AM.Conv.pa | apply Go.AM.Conv.agg);repeat (first | exact .nil | apply Go.AM.PureL.c .refl | apply Go.AM.PureL.c .nl | (apply Go.AM.PureL.hs;rfl;(first | rfl | assumption | simp);(first | rfl | exact Go.AM.take_all (by first | assumption | rfl | (simp;done)) | exact Go.AM.take_map.symm)))))
  (q:Conv st.h j v2 res:=by exact .refl)
  (ho:fH (fun p=>∃o,st.h p.1=some o∧Ole (fun i=>i) o p.2) hout:=by repeat (first | exact trivial | refine⟨⟨_,rfl,by first | exact Go.AM.Ole.arr | exact Go.AM.Ole.var rfl | exact Go.AM.Ole.varS rfl⟩,?_⟩))
  (hok:(subset (V.tup [res,res2]).refs (keys hout)&&subset (fI hout) (keys hout)&&distinct (keys hout)&&subset (keys hin) (keys hout)&&(hin.all fun p=>p.2.plain)&&(hout.all fun p=>p.2.plain))=true:=by rfl):(Exit.ret=.normal∨Exit.ret=.ret)∧Fin tr.flat fn st hin (.tup [res,res2]) hout:=
 ⟨.inr rfl,⟨[v2,v],[res,res2],by rw[r];exact .tmp hu (.cell ha (Tr.get_ok hw hi) hh hb y .nil),.cons q (.cons hc .nil),rfl⟩,ho,hok⟩
end
end Go.AM
namespace Go.Proofs.YtpmheldmadendaaGreatDoor
open Go Go.AM
set_option maxRecDepth 20000
set_option maxHeartbeats 4000000
abbrev LE:=Except (Int×Int) (List Tk)
def v7 (t:Tk):LE→LE
 | .ok l=>.ok (t::l)
 | .error e=>.error e
def n6:Nat→Nat→Str→LE
 | 0,at',_=>.ok [⟨6,[],0,at'⟩]
 | _+1,at',[]=>.ok [⟨6,[],0,at'⟩]
 | f+1,at',c::r=>
  if 0<k8 (c::r) then n6 f (at'+k8 (c::r)) ((c::r).drop (k8 (c::r)))
  else match o8 (c::r) with
   | .error e=>.error (e,at')
   | .ok (k,t,v)=>v7 ⟨k,t,v,at'⟩ (n6 f (at'+t.length) ((c::r).drop t.length))
def oB (s:Str):LE:=if 4000<s.length then .error (2,0) else n6 s.length 0 s
def aN5 (out:List Tk):LE→LE
 | .ok l=>.ok (out++l)
 | .error e=>.error e
theorem u7 (out:List Tk) (t:Tk) (r:LE):aN5 out (v7 t r)=aN5 (out++[t]) r:=by
 cases r with
 | ok l=>show Except.ok _=Except.ok _;simp
 | error e=>rfl
def atV (e p:Int):V:=.pa [.int .i64 e,.int .i64 p]
def aC1:LE→V
 | .ok l=>.tup [.one (.c (.sl 4 (l.map aG))),atV 0 0]
 | .error (e,p)=>.tup [.one (.c .nl),atV e p]
theorem vP (s:Str):k8 s≤s.length:=by
 unfold k8;cases s with
 | nil=>exact le_refl _
 | cons c r=>
  dsimp only;split
  ·rw[ε];omega
  ·split
   ·rename_i h;have hp:2≤(c::r).length:=by
     unfold preB at h;rw[τ] at h;exact χ h.1
    have:=iT neB ((c::r).drop 2);rw[Bg] at this;omega
   ·exact Ac _
theorem aLj (s:Str) (h:¬rM s=[]):1≤(rM s).length∧(rM s).length≤s.length:=by
 refine⟨Cp.2 h,?_⟩;unfold rM at h ⊢;cases c:tP.find? fun x=>preB x s with
 | none=>rw[c] at h;exact absurd rfl h
 | some x=>
  have:=List.find?_some c;unfold preB at this;rw[τ] at this;exact χ this.1
theorem s7 {c:UInt8}{r:Str}{k:Int}{t:Str}{v:Int}(h:o8 (c::r)=.ok (k,t,v)):1≤t.length∧t.length≤(c::r).length:=by
 have h1:∀p:Nat→Bool,p c.toNat=true→1≤((c::r).take (cU p (c::r))).length∧((c::r).take (cU p (c::r))).length≤(c::r).length:=fun p hp=>by
  have:=iT p (c::r);rw[Am];rw[cU,θ hp] at this ⊢;rw[ε] at this ⊢;omega
 rw[o8] at h;by_cases j:dgB c.toNat=true
 ·rw[θ j] at h;split at h
  ·cases h
  ·cases h;exact h1 _ j
 rw[ξ j] at h;by_cases hn:wiB c.toNat 97 122=true∨wiB c.toNat 65 90=true
 ·rw[θ hn] at h;have hs:sgB c.toNat=true:=by
   rcases hn with h | h
   ·have:=aLl c.toNat;rw[h] at this;simpa using this
   ·have:=aLk c.toNat;rw[h] at this;simpa using this
  unfold s9 at h;split at h
  ·cases h
  split at h
  ·cases h;exact h1 _ hs
  split at h
  ·cases h;exact h1 _ hs
  ·cases h;exact h1 _ hs
 rw[ξ hn] at h;split at h
 ·cases h
 ·rename_i hy;cases h;exact aLj _ hy
theorem s8 {c:UInt8}{r:Str}{e:Int}(h:o8 (c::r)=.error e):¬e=0:=by
 rw[o8] at h;split at h
 ·split at h
  ·cases h;decide
  ·cases h
 split at h
 ·unfold s9 at h;split at h
  ·cases h;decide
  split at h
  ·cases h
  split at h<;>cases h
 split at h
 ·cases h;decide
 ·cases h
theorem aQs (S:Str):b8 Tryz.prog 92 [Go.AM.T S] [] (aC1 (oB S)) []:=by
 refine bM (n:=56) tok Tryz.func92 rfl rfl rfl ?_;refine sg rfl (aA (sg rfl (aB rfl (fun hb=>?_) (fun hb=>?_))))
 ·unfold oB;rw[θ (by have:=χ hb;omega)];exact sg rfl (aE (aN2 trw))
 have hl:S.length≤4000:=by have:=Ad hb;omega
 have hA:oB S=aN5 [] (n6 S.length 0 (S.drop 0)):=by
  unfold oB;rw[ξ (by omega),B5];cases n6 S.length 0 S<;>rfl
 refine aD (sg rfl (sg rfl (AWp.sub (Sub.own (t:=4) (id:=500) 152 4 rfl rfl) ?_)));refine aA (aF (aK (fun p:Nat×Nat×List Tk=>mk [(0,Go.AM.T S),(3,.one (.vp 3 0)),(4,.one (.hs 500 0 p.2.2.length p.2.2.length)),(5,I .i64 p.1)] [(3,.var 32 [.c (.int .i64 0),.c (.int .i64 0)]),(500,.arr 152 4 (p.2.2.map aG) 0)]) (fun p=>p.1≤S.length∧S.length-p.1≤p.2.1∧p.2.2.length+(S.length-p.1)≤S.length∧oB S=aN5 p.2.2 (n6 p.2.1 p.1 (S.drop p.1))) (fun p=>p.2.1) (0,S.length,[]) ⟨Ac _,by dsimp only;omega,by dsimp only;simp,hA⟩ sl ?_));rintro⟨i,f,out⟩ ⟨hi,hf,B,j⟩;dsimp only at hi hf B j ⊢;have hout:(out.map aG).length=out.length:=η _;refine aA (sg rfl (aB rfl (fun hb=>?_) (fun hb=>?_)))
 ·have hlt:i<S.length:=by have:=χ hb;omega
  obtain⟨g,rfl⟩:∃g,f=g+1:=⟨f-1,by omega⟩
  obtain⟨c,r,u⟩:∃c r,S.drop i=c::r:=by
   cases h:S.drop i with
   | nil=>
    have:=congrArg List.length h;rw[Bg,length_nil] at this;omega
   | cons c r=>exact⟨c,r,rfl⟩
  have E:(c::r).length=S.length-i:=by rw[←u,Bg]
  rw[ε] at E;have J:=aM8 c r (by omega);have M:=aQb c r (by omega);have O:=vP (c::r);have U:= @s7 c r;have Y:= @s8 c r;rw[u,n6] at j;refine aD (aF (sk 3 rfl ?_));rw[u];refine kc J ?_;refine kz 1 rfl ?_;have A:∀m:Nat,(c::r).drop m=S.drop (i+m):=fun m=>by rw[←u,Cr]
  rw[ε] at O;refine aA (sg rfl (aB rfl (fun hb=>?_) (fun hb=>?_)))
  ·have y:0<k8 (c::r):=by have:=χ hb;omega
   rw[θ y,A] at j;generalize k8 (c::r)=m at *;exact aA (agN [] rfl (aH ⟨(i+m,g,out),⟨by dsimp only;omega,by dsimp only;omega,by dsimp only;omega,j⟩,by dsimp only;omega,sl⟩))
  ·have y:¬0<k8 (c::r):=by have:=Ad hb;omega
   rw[ξ y] at j;refine aD (sk 3 rfl ?_);rw[u];refine kc M ?_;generalize o8 (c::r)=o at *;cases o with
   | error e=>
    dsimp only at j;have he:=Y rfl;rw[j];exact kz 6 rfl (aA (sg rfl (aB rfl (fun _=>sg rfl (aE (aN2 trw))) (fun hb=>absurd hb (by simp[he])))))
   | ok p=>
    obtain⟨k,t,v⟩:=p;dsimp only at j;obtain⟨ht1,aa⟩:=U rfl;rw[ε] at aa;rw[u7,A] at j;refine kz 6 rfl (aA (sg rfl (aB rfl (fun hb=>absurd hb (by decide)) (fun _=>aD (sg rfl (sgh [(1,.all),(2,.all)] rfl (agN [] rfl ?_)))))));have q:out.map aG++[[.int .i64 k,.str t,.int .i64 v,.int .i64 (i:Int)]]=(out++[(⟨k,t,v,i⟩:Tk)]).map aG:=by simp[aG]
    exact⟨(i+t.length,g,out++[⟨k,t,v,i⟩]),⟨by dsimp only;omega,by dsimp only;omega,by dsimp only;rw[ζ,Bc];omega,j⟩,by dsimp only;omega,sl (he:=⟨rfl,rfl,Go.AM.hs_ren (by simp) (by simp),rfl,trivial⟩) (hh:=⟨⟨_,rfl,.var rfl⟩,⟨_,rfl,.arrS q⟩,trivial⟩)⟩
 ·have e:i=S.length:=by have:=Ad hb;omega
  have hE:n6 f i (S.drop i)=.ok [⟨6,[],0,i⟩]:=by
   rw[e,Ci];cases f<;>rfl
  rw[hE] at j;rw[j];have q:out.map aG++[[.int .i64 6,.str [],.int .i64 0,.int .i64 (i:Int)]]=(out++[(⟨6,[],0,i⟩:Tk)]).map aG:=by simp[aG]
  refine aH (sgh [(4,.all)] rfl ?_);subst e;show AWp _ _ _ _ _ _ (fun ex st=>(ex=.normal∨ex=.ret)∧Fin _ _ st _ (aC1 (.ok (out++[⟨6,[],0,(S.length:Int)⟩]))) _);unfold aC1;dsimp only;rw[←q];refine AWp.sub (Sub.freeze (id:=500) rfl) (AWp.sub (cv 2 (out.map aG++[[.int .i64 6,.str [],.int .i64 0,.int .i64 (S.length:Int)]])) ?_);exact aE (aN2 trw)
end Go.Proofs.YtpmheldmadendaaGreatDoor
namespace Go
section
variable {F:Fence}{n:Nat}{P:Program}{b:Frame}{a:Act}{k:List Item}{cs:List Frame}{w:World}{Q:Exit→Act→World→Prop}
theorem eK {c:Code}:step P (lone (b.atR a (.code (.scope c)::k)) cs w)=.next (lone (b.atR a (.code c:: .inScope c::k)) cs w):=
 step_lone_go (by simp[stepG,stepG.exec,Frame.atR])
theorem rN {c:Code}:step P (lone (b.atR a (.inScope c::k)) cs w)=.next (lone (b.atR a k) cs w):=
 step_lone_go (by simp[stepG,stepG.exec,Frame.atR])
def Exit.noJump (Q:Exit→Act→World→Prop):Exit→Act→World→Prop
 | .goto _,_,_=>False
 | e,a,w=>Q e a w
theorem aBa {c:Code}(h:c.wpIn F n P (Exit.noJump Q) a w):(Code.scope c).wpIn F n P Q a w:=by
 intro b k cs A hb u;have h0:(lone (b.atR a (.code (.scope c)::k)) cs w).fenced P F:=fenced_calm hb u rfl;obtain⟨e,q,r,hq,j⟩:=h b (.inScope c::k) cs A hb u;cases e with
 | normal=>exact⟨.normal,q,r,hq,.head h0 eK (StepsIn.trans j (.one (fenced_calm hb u rfl) rN))⟩
 | exit id=>
  have hx:exitTo id (.inScope c::k)=exitTo id k:=by simp[exitTo]
  exact⟨.exit id,q,r,hq,fun k' y=>.head h0 eK (j.1 k' (by rw[hx];exact y)),
   fun B y=>let ⟨k₁,h1,h2⟩:=j.2 B (by rw[hx];exact y);⟨k₁,h1,.head h0 eK h2⟩⟩
 | goto l=>exact hq.elim
 | ret=>exact⟨_,q,r,hq,.of_steps (.one h0 eK) j⟩
 | panic E=>exact⟨_,q,r,hq,.of_steps (.one h0 eK) j⟩
 | outgrown=>exact⟨_,q,r,hq,.of_steps (.one h0 eK) j⟩
end
end Go
namespace Go.AM
open Go
section
variable {ro:Option Nat}{P:Program}{n:Nat}{kf:List Nat}{st:St}{Q:Exit→St→Prop}
theorem aGx {l:Nat}(h:Q .normal st):AWp ro P n kf (.label l) st Q:=fun _ S μ a w _ _ hs c=>wpIn_label (c _ _ S μ a w h hs)
def aLb (Q:Exit→St→Prop):Exit→St→Prop
 | .goto _,_=>False
 | e,st=>Q e st
theorem aGw {c:Code}(h:AWp ro P n kf c st (aLb Q)):AWp ro P n kf (.scope c) st Q:=fun G S μ a w Q' j hs r=>
 aBa (h G S μ a w _ j hs fun ex st' S' μ' u w' q s=>by
  cases ex with
  | goto l=>exact q.elim
  | _=>exact r _ st' S' μ' u w' q s)
end
section
variable {QP:Value→Prop}{P:Program}{n:Nat}{ops:Array Oper}{draw:Bool}{k d:Nat}{st:St}{pre:REs}{Q:St→Prop}{o:Oper}{f:FuncId}{xs:Array Operand}{ts:Array TypeId}{ids:List Nat}{args:List V}{res:V}{hin hout:List (Nat×AObj)}
theorem kvG {x:Operand}{caps:List R}{j t:Nat}{want b:Bool}(B:b8 P f (args++caps.map V.one) hin res hout)
  (E:hY QP P n ops draw (k+1) ⟨upd st.e d (some res),gO st.h (outs hout),st.d⟩ ((⟨t::(opr x++bT xs.toList),ids++keys hin++keys hout⟩,⟨some (d,some res),outs hout⟩)::pre) Q)
  (hb:gL P f:=by exact aGe (by kernel_rfl)) (ho:ops[k]?=some o:=by rfl) (I:o.guard=some (j,want):=by rfl) (J:(ops[j]?).bind (·.dst)=some t:=by rfl) (u:st.e t=some (.one (.c (.bool b))):=by rfl) (hw:b=want:=by first | rfl | assumption) (y:o.op=.call { callee:=.value x,args:=xs,argTypes:=ts }:=by rfl) (M:o.dst=some d:=by rfl) (A:Nat.blt d n=true:=by rfl) (hx:opv st x=some (.one (.clo f caps)):=by rfl)
  (ha:ArgsV st ids xs.toList args:=by repeat (first | exact .nil | (apply Go.AM.ArgsV.cons rfl;(first | exact .refl | exact .one (.c .nl .nil) | exact .one (.c .sn .nil) | exact .one (.hs rfl (by first | rfl | simp) (by first | rfl | (simp;done) | (simp[Go.AM.take_map];done) | exact Go.AM.take_map.symm) .nil) | exact Go.AM.hs_all rfl rfl (by first | rfl | assumption | (simp;done) | (simp;omega)) (by first | rfl | assumption | (simp;done)) | ((first | apply Go.AM.Conv.pa | apply Go.AM.Conv.agg);repeat (first | exact .nil | apply Go.AM.PureL.c .refl | apply Go.AM.PureL.c .nl | apply Go.AM.PureL.c .sn | (apply Go.AM.PureL.hs;rfl;(first | rfl | simp);(first | rfl | (simp;done) | (simp[Go.AM.take_map];done) | exact Go.AM.take_map.symm))))))))
  (r:fH (fun p=>st.h p.1=some p.2) hin:=by repeat (first | exact trivial | refine⟨rfl,?_⟩)) (q:fH (fun p=>p.1∈keys hin∨st.h p.1=none) hout:=by repeat (first | exact trivial | refine⟨.inr rfl,?_⟩ | refine⟨.inl (by decide),?_⟩ | refine⟨.inl (by repeat (first | exact List.Mem.head _ | apply List.Mem.tail)),?_⟩)) (hok:eI (args++caps.map V.one) hin=true:=by rfl):hY QP P n ops draw k st pre Q:=
 k_ (GStep.yes ho I J u hw (aD8 hin hout hb y M (iF A) hx B ha r q hok)) E
end
end Go.AM
namespace Go.Proofs.YtpmheldmadendaaGreatDoor
open Go Go.AM
set_option maxRecDepth 20000
set_option maxHeartbeats 4000000
theorem xK (f:FuncId) (p:Nat→Bool) (s:Str) (hl:s.length≤4001) (r:aRm Tryz.prog f=true) (E:∀c∈s,b8 Tryz.prog f [I .u8 (c.toNat:Nat)] [] (B (p c.toNat)) []):b8 Tryz.prog 130 [Go.AM.T s,.one (.clo f [])] [] (I .i64 (cU p s)) []:=by
 have O:=iT p s;refine bM (n:=20) tok Tryz.func130 rfl rfl rfl ?_;refine sg rfl (sg rfl (aA (aF (aK (fun j:Nat=>mk [(0,Go.AM.T s),(1,.one (.clo f [])),(5,I .i64 j)] []) (fun j=>j≤cU p s) (fun j=>cU p s-j) 0 (Ac _) sl ?_))));intro j J;by_cases u:j<s.length
 ·obtain⟨d,y⟩:=aN u;have q:=lP p s j J d y;have A:=E d (Ag y);have M:decide ((j:Int)<(s.length:Int))=true:=φ (by omega);refine aA (skh 9 [(4,.bv true),(8,.byte j d)] rfl (kvG (caps:=[]) (args:=[I .u8 (d.toNat:Nat)]) (hin:=[]) (hout:=[]) A ?_ (hb:=aGe r)));refine ak 1 [(4,.bv true),(10,.bv true)] rfl (az (aB rfl (fun hb=>?_) (fun hb=>?_)))
  ·exact aD (aF (ag [] rfl ⟨j+1,q.1 hb,by dsimp only;have:=q.1 hb;omega,sl⟩))
  ·have e:j=cU p s:=by
    have:¬j<cU p s:=fun h=>by rw[q.2 h] at hb;cases hb
    omega
   refine aH ?_;rw[←e];exact sg rfl (aE rtT)
 ·have e:j=cU p s:=by omega
  have M:decide ((j:Int)<(s.length:Int))=false:=ψ (by omega);refine aA (sgh [(4,.bv false),(10,.bv false)] rfl (aB rfl (fun hb=>absurd hb (by decide)) (fun _=>aH ?_)));rw[←e];exact sg rfl (aE rtT)
theorem vI (s x:Str):b8 Tryz.prog 173 [Go.AM.T s,Go.AM.T x] [] (B (preB x s)) []:=by
 unfold preB;refine bM (n:=18) tok Tryz.func173 rfl rfl rfl ?_;refine sg rfl ?_;by_cases h:x.length≤s.length
 ·have d1:decide ((x.length:Int)≤(s.length:Int))=true:=φ (by omega);rw[φ h,Bz];exact sgh [(5,.bv true),(12,.bv true)] rfl (aE rtT)
 ·have d1:decide ((x.length:Int)≤(s.length:Int))=false:=ψ (by omega);rw[ψ h,Bw];exact sgh [(5,.bv false),(12,.bv false)] rfl (aE rtT)
theorem qK (s x:Str):b8 Tryz.prog 129 [Go.AM.T s,Go.AM.T x] [] (B (preB x s)) []:=by
 have h:=vI s x;refine bM (n:=8) tok Tryz.func129 rfl rfl rfl ?_;exact sg rfl (sgh [(2,.pc (B (preB x s)))] rfl (aE rtT))
theorem aNe:b8 Tryz.prog 180 [] [] (cM pW) []:=by
 refine bM (n:=2) tok Tryz.func180 rfl rfl rfl ?_;exact sg rfl (sgh [(0,.all)] rfl (aE rtT))
theorem aCd:b8 Tryz.prog 181 [] [] (cM tP) []:=by
 refine bM (n:=2) tok Tryz.func181 rfl rfl rfl ?_;exact sg rfl (sgh [(0,.all)] rfl (aE rtT))
def tF (a b:Int):Int:=if b<a then b else a
def aEm:Str→Int→Int
 | [],k=>k
 | c::s,k=>aEm s (tF (k*10+((c.toNat:Int)-48)) 2147483648)
theorem aJb (s:Str) (hl:s.length≤4001) (M:∀c∈s,48≤c.toNat∧c.toNat≤57):b8 Tryz.prog 175 [Go.AM.T s] [] (I .i64 (aEm s 0)) []:=by
 refine bM (n:=21) tok Tryz.func175 rfl rfl rfl ?_;refine sg rfl (sg rfl (aA (sg rfl (aF (aK (fun p:Nat×Int=>mk [(0,Go.AM.T s),(3,I .i64 p.2),(6,I .i64 (s.length:Nat)),(7,I .i64 p.1)] []) (fun p=>p.1≤s.length∧0≤p.2∧p.2≤2147483648∧aEm (s.drop p.1) p.2=aEm s 0) (fun p=>s.length-p.1) (0,0) ⟨Ac _,by decide,by decide,rfl⟩ sl ?_)))));rintro⟨i,k⟩ ⟨hi,B,E,j⟩;dsimp only at hi B E j ⊢;refine sg rfl (aA (aB rfl (fun hb=>?_) (fun hb=>?_)))
 ·have y:i<s.length:=by have:=χ hb;omega
  obtain⟨d,q⟩:=aN y;obtain⟨g1,g2⟩:=M d (Ag q);have J:s.drop i=d::s.drop (i+1):=by
   obtain⟨O,U⟩:=Af.1 q;rw[Aw O,U]
  rw[J,aEm] at j;refine aD ?_;have r:IntKind.wrap .u8 ((d.toNat:Int)-48)=(d.toNat:Int)-48:=by unfold IntKind.wrap;simp[IntKind.bits,IntKind.signed];omega
  have u:IntKind.wrap .i64 ((d.toNat:Int)-48)=(d.toNat:Int)-48:=Bv _ (by omega);refine aA (aF (sg rfl (ag [(4,.byte i d)] rfl ?_ (hc:=⟨⟨by rw[r,u];omega,by rw[r,u];omega⟩,⟨rfl,q⟩,⟨by omega,by omega⟩,trivial⟩))));rw[r,u];refine ag [] rfl ?_;have A:0≤tF (k*10+((d.toNat:Int)-48)) 2147483648∧tF (k*10+((d.toNat:Int)-48)) 2147483648≤2147483648:=by unfold tF;split<;>omega
  exact⟨(i+1,tF (k*10+((d.toNat:Int)-48)) 2147483648),⟨y,A.1,A.2,j⟩,by dsimp only;omega,sl⟩
 ·have e:i=s.length:=by have:=Ad hb;omega
  rw[e,Ci,aEm] at j;rw[←j];exact aH (sg rfl (aE rtT))
theorem yY:∀s:Str,(∀c∈s,48≤c.toNat∧c.toNat≤57)→aEm s 2147483648=2147483648
 | [],_=>rfl
 | c::s,h=>by
  have:=h c Bq;rw[aEm,show tF (2147483648*10+((c.toNat:Int)-48)) 2147483648=2147483648 by unfold tF;split<;>omega];exact yY s fun d j=>h d (Ba _ j)
theorem aPn:∀(s:Str) (k:Int),(∀c∈s,48≤c.toNat∧c.toNat≤57)→2147483648≤k→2147483648≤kR s k
 | [],k,_,h=>h
 | c::s,k,hs,h=>by
  have:=hs c Bq;rw[kR];split
  ·exact aPn s _ (fun d j=>hs d (Ba _ j)) (by omega)
  ·exact h
theorem aKn:∀(s:Str) (k:Int),(∀c∈s,48≤c.toNat∧c.toNat≤57)→0≤k→k≤2147483647→aEm s k=tF (kR s k) 2147483648
 | [],k,_,_,h=>by rw[aEm,kR];unfold tF;rw[ξ (by omega)]
 | c::s,k,hs,h0,h=>by
  have h1:=hs c Bq;have h2:∀d∈s,48≤d.toNat∧d.toNat≤57:=fun d j=>hs d (Ba _ j)
  rw[aEm,kR,θ (by omega)];by_cases q:k*10+((c.toNat:Int)-48)≤2147483647
  ·rw[show tF (k*10+((c.toNat:Int)-48)) 2147483648=k*10+((c.toNat:Int)-48) by unfold tF;rw[ξ (by omega)]];exact aKn s _ h2 (by omega) q
  ·rw[show tF (k*10+((c.toNat:Int)-48)) 2147483648=2147483648 by unfold tF;split<;>omega,yY s h2];have:=aPn s (k*10+((c.toNat:Int)-48)) h2 (by omega);unfold tF;split<;>omega
theorem aSj (c:Nat):nmQ c 97 122=wiB c 97 122:=by
 unfold nmQ fiB wiB plB;rw[Bo];simp;omega
theorem aSi (c:Nat):nmQ c 65 90=wiB c 65 90:=by
 unfold nmQ fiB wiB plB;rw[Bo];simp;omega
theorem aSk (c:Nat) (h:wiB c 97 122=true):wiB c 65 90=false:=by
 unfold wiB at *;simp at *;omega
theorem aHn {c:UInt8}{r:Str}(h:wiB c.toNat 65 90=true) (hs:sgB c.toNat=true):¬(c::r).take (cU sgB (c::r))∈pW:=fun hm=>by
 rw[cU,θ hs,A8] at hm;have:c=99∨c=100∨c=105∨c=108∨c=111:=by
  unfold pW at hm;simp only[Ap,List.cons.injEq,List.not_mem_nil,or_false] at hm;rcases hm with⟨h,_⟩ | ⟨h,_⟩ | ⟨h,_⟩ | ⟨h,_⟩ | ⟨h,_⟩ | ⟨h,_⟩ | ⟨h,_⟩<;>simp[h]
 unfold wiB at h;rcases this with rfl | rfl | rfl | rfl | rfl<;>exact absurd h (by decide)
theorem aQn (c:UInt8):b8 Tryz.prog 174 [I .u8 (c.toNat:Nat)] [] (B (dgB c.toNat)) []:=by
 have h:=qL aRi c;rw[←aSp c];refine bM (n:=6) tok Tryz.func174 rfl rfl rfl ?_;exact sg rfl (sgh [(1,.pc (I .i64 (Lib.indexByte aRi c)))] rfl (aE rtT))
def hJ:Code→Code | .seq _ b=>b | c=>c
noncomputable def aTd (c:Code):Code:=hJ (hJ (hJ (hJ c)))
def aIw:TE→Int
 | .ok _=>0
 | .error e=>e
theorem aQc (c:UInt8) (r:Str) (hl:r.length≤4000):∃(k0:Int) (t0:Str) (v0:Int),b8 Tryz.prog 132 [Go.AM.T (c::r)] [] (.tup [.pa [.int .i64 k0,.str t0,.int .i64 v0,.int .i64 0],I .i64 (aIw (o8 (c::r)))]) []∧∀k t v,o8 (c::r)=.ok (k,t,v)→k0=k∧t0=t∧v0=v:=by
 have hSl:(c::r).length≤4001:=by rw[ε];omega
 have E:=xK 174 dgB (c::r) hSl (by kernel_rfl) fun d A=>aQn d
 have hw2:=xK 178 sgB (c::r) hSl (by kernel_rfl) fun d _=>aJe d
 have J:=aJs c;have M:=aJq c;rw[aSj] at J;rw[aSi] at M;have ht1:(c::r).take 1=[c]:=rfl;by_cases A:dgB c.toNat=true
 ·have B:∀d∈(c::r).take (cU dgB (c::r)),48≤d.toNat∧d.toNat≤57:=fun d A=>by
   obtain⟨j,hj⟩:=List.getElem?_of_mem A;rw[Aj] at hj;split at hj
   ·rename_i O;exact χ ((lP dgB (c::r) j (by omega) d hj).2 O)
   ·cases hj
  have y:o8 (c::r)=if 2147483647<kR ((c::r).take (cU dgB (c::r))) 0 then .error 11 else .ok (3,(c::r).take (cU dgB (c::r)),kR ((c::r).take (cU dgB (c::r))) 0):=by rw[o8,θ A]
  have hnum:=aJb ((c::r).take (cU dgB (c::r))) (by rw[Am];omega) B;rw[aKn _ 0 B (by decide) (by decide)] at hnum;have hN1:0<cU dgB (c::r):=by rw[cU,θ A];omega
  have hNl:=iT dgB (c::r);rw[y];clear B y J M hw2 ht1;generalize cU dgB (c::r)=N at *;generalize c::r=S at *;generalize hK:kR (S.take N) 0=K at *;refine⟨3,S.take N,tF K 2147483648,?_,fun k t v h=>?_⟩
  ·refine bM (n:=67) tok Tryz.func132 rfl rfl rfl ?_;refine sg rfl (aA (sk 1 rfl (kc E ?_)));refine kz 1 rfl ?_;have dN:decide ((0:Int)<(N:Int))=true:=φ (by omega);refine sg rfl (aB rfl (fun _=>aA (aC mixed (akN 6 [] rfl (kc hnum ?_)))) (fun hb=>absurd (hb.symm.trans dN) (by decide)));refine akN 3 [] rfl (az (aA (sg rfl ?_)));by_cases hk:2147483647<K
   ·rw[θ hk];refine aB rfl (fun _=>?_) (fun hb=>?_)
    ·exact sg rfl (aE (yH trw))
    ·have:=Ad hb;unfold tF at this;split at this<;>omega
   ·rw[ξ hk];refine aB rfl (fun hb=>?_) (fun _=>?_)
    ·have:=χ hb;unfold tF at this;split at this<;>omega
    ·exact aD (sg rfl (aE (yH trw)))
  ·split at h
   ·cases h
   ·rename_i hk;cases h;exact⟨rfl,rfl,by unfold tF;rw[ξ (by omega)]⟩
 ·have hS1:1≤(c::r).length:=by rw[ε];omega
  have hN0:cU dgB (c::r)=0:=by rw[cU,ξ A]
  rw[hN0] at E;have y:o8 (c::r)=if wiB c.toNat 97 122=true∨wiB c.toNat 65 90=true then s9 (c::r) (wiB c.toNat 65 90) else if rM (c::r)=[] then .error 10 else .ok (4,rM (c::r),0):=by rw[o8,ξ A]
  have hnk:= @aHn c r;have hsg:wiB c.toNat 97 122=true∨wiB c.toNat 65 90=true→sgB c.toNat=true:=fun h=>by
   rcases h with h | h
   ·have:=aLl c.toNat;rw[h] at this;simpa using this
   ·have:=aLk c.toNat;rw[h] at this;simpa using this
  have hlu:=aSk c.toNat;have hsy:rM (c::r)=(match tP.find? (fun x=>preB x (c::r)) with | some x=>x | none=>[]):=rfl;rw[y];clear y A;generalize c::r=S at *;generalize wiB c.toNat 97 122=lo at *;generalize wiB c.toNat 65 90=up at *;have kind:∃k:Int,k=if lo=true then 1 else if up=true then 2 else 0:=⟨_,rfl⟩
  obtain⟨Y,q⟩:=kind;have pre:∀(l:List C) (e:Int),AWp none Tryz.prog 67 (keys []) (aTd (Tryz.f132.body.getD .skip)) (mk [(0,Go.AM.T S),(2,.one (.vp 2 0)),(6,I .i64 Y)] [(2,.var 139 (aCx.map .c))]) (fun ex st=>(ex=.normal∨ex=.ret)∧Fin tr.flat Tryz.f132 st [] (.tup [.pa l,I .i64 e]) [])→b8 Tryz.prog 132 [Go.AM.T S] [] (.tup [.pa l,I .i64 e]) []:=fun l e h=>by
   refine bM (n:=67) tok Tryz.func132 rfl rfl rfl ?_;refine sg rfl (aA (sk 1 rfl (kc E ?_)));refine kz 1 rfl (sg rfl (aB rfl (fun hb=>absurd hb (by decide)) (fun _=>aD (sg rfl (kQ (mk [(0,Go.AM.T S),(2,.one (.vp 2 0)),(6,I .i64 Y)] [(2,.var 139 (aCx.map .c))]) ?_ h)))));refine aF (sk 2 rfl ?_);rw[ht1];refine kc J ?_;refine kz 1 rfl (aB rfl (fun hb=>?_) (fun hb=>?_))
   ·rw[hb,θ rfl] at q;subst q;exact ag [] rfl (.inl ⟨rfl,sl⟩)
   rw[hb,ξ ω] at q;refine sk 2 rfl ?_;rw[ht1];refine kc M ?_;refine kz 1 rfl (aB rfl (fun hb=>?_) (fun hb=>?_))
   ·rw[hb,θ rfl] at q;subst q;exact ag [] rfl (.inl ⟨rfl,sl⟩)
   ·rw[hb,ξ ω] at q;subst q;exact aD (.inl ⟨rfl,sl⟩)
  clear J M E hN0;by_cases hn:lo=true∨up=true
  ·rw[θ hn];have hsg:=hsg hn;have hkp:0<Y:=by
    rw[q];rcases hn with h | h
    ·rw[θ h];decide
    ·rw[θ h];split<;>decide
   have hW:=iT sgB S;have hky:=aNe;have hct:=nN pW (S.take (cU sgB S)) (by decide);have hnk:=fun h=>hnk h hsg
   unfold s9;generalize cU sgB S=N at *;have k5:∃k5:Int,k5=if S.take N∈pW then 5 else Y:=⟨_,rfl⟩
   obtain⟨k5,u⟩:=k5;have dk:decide ((0:Int)<Y)=true:=φ hkp;refine⟨k5,S.take N,0,pre _ _ ?_,fun k t v h=>?_⟩
   ·refine aA (sg rfl (aB rfl (fun _=>sk 3 rfl (kc hw2 ?_)) (fun hb=>absurd (hb.symm.trans dk) (by decide))));refine kz 4 rfl (kQ (mk [(0,Go.AM.T S),(2,.one (.vp 2 0)),(7,.one (.vp 7 0))] [(2,.var 139 (aCx.map .c)),(7,.var 139 [.c (.int .i64 k5),.c (.str (S.take N)),.c (.int .i64 0),.c (.int .i64 0)])]) ?_ ?_)
    ·generalize pW=L at *;refine aA (aC mixed (kc hky ?_));refine akN 2 [] rfl (kc hct ?_);refine az (aB rfl (fun hb=>?_) (fun hb=>?_))
     ·rw[θ (χ hb)] at u;subst u;exact ag [] rfl (.inl ⟨rfl,sl⟩)
     ·rw[ξ (Ad hb)] at u;subst u;exact aD (.inl ⟨rfl,sl⟩)
    ·have hTl:(S.take N).length=N:=by rw[Am];omega
     generalize S.take N=X at *;refine aA (sg rfl ?_);rw[hTl];refine aB rfl (fun hb=>?_) (fun hb=>?_)
     ·rw[θ (by have:=χ hb;omega)];exact sg rfl (aE (yH trw))
     ·rw[ξ (by have:=Ad hb;omega)];have e0:aIw (if up=true then(.ok (2,X,0):TE) else if X∈pW then .ok (5,X,0) else .ok (1,X,0))=0:=by
       split
       ·rfl
       ·split<;>rfl
      rw[e0];exact aD (sg rfl (aE (yH trw)))
   ·split at h
    ·cases h
    split at h
    ·rename_i hu;cases h;rw[ξ (hnk hu)] at u;have hl:¬lo=true:=fun hl=>by rw[hlu hl] at hu;cases hu
     exact⟨by rw[u,q,ξ hl,θ hu],rfl,rfl⟩
    ·rename_i hu;split at h
     ·rename_i hm;cases h;rw[θ hm] at u;exact⟨u,rfl,rfl⟩
     ·rename_i hm;cases h;rw[ξ hm] at u;exact⟨by rw[u,q,θ (hn.resolve_right hu)],rfl,rfl⟩
  ·rw[ξ hn];have hk0:Y=0:=by rw[q,ξ (fun h=>hn (.inl h)),ξ (fun h=>hn (.inr h))]
   subst hk0;have hsb:=aCd;have h13:tP.length≤13:=by decide
   refine⟨if rM S=[] then 0 else 4,rM S,0,pre _ _ ?_,fun k t v h=>?_⟩
   ·refine aA (sg rfl (aB rfl (fun hb=>absurd hb (by decide)) (fun _=>aD ?_)));have hne:∀x∈tP,¬x=[]:=by decide
    rw[hsy];clear hsy;generalize tP=L at *;have hkl:(L.map bE).length=L.length:=η _;refine aA (aA (aC mixed (kc hsb ?_)));refine kz 2 rfl (aF (aK (fun i:Nat=>mk [(0,Go.AM.T S),(2,.one (.vp 2 0)),(54,.one (.c (.sl 1 (L.map bE)))),(55,I .i64 ((L.map bE).length:Nat)),(56,I .i64 i)] [(2,.var 139 (aCx.map .c))]) (fun i=>i≤L.length∧(L.take i).find? (fun x=>preB x S)=none) (fun i=>L.length-i) 0 ⟨Ac _,rfl⟩ sl ?_));rintro i ⟨hi,U⟩;refine sg rfl (aA (aB rfl (fun hb=>?_) (fun hb=>?_)))
    ·have O:=ltD hb hkl;obtain⟨x,hx⟩:=aN O;have hx':=aY bE hx;have hpx:=qK S x;refine aD (aA (aF (sgh [(0,.row i (bE x))] rfl (sk 2 rfl (kc hpx ?_)))));refine az (aB rfl (fun hb=>?_) (fun hb=>?_))
     ·rw[lE U hx hb];dsimp only;rw[ξ (hne x (Ag hx)),ξ (hne x (Ag hx))];exact sg rfl (aE (yH trw))
     ·exact aD (ag [] rfl ⟨i+1,⟨O,lF U hx hb⟩,by dsimp only;omega,sl⟩)
    ·have hge:=geD hb hkl hi;rw[hge,Aq] at U;rw[U];dsimp only;rw[θ rfl,θ rfl];exact aH (sg rfl (aE (yH trw)))
   ·split at h
    ·cases h
    ·rename_i hs;cases h;exact⟨ξ hs,rfl,rfl⟩
def blS:Str:=[32,9,10]
theorem aSu (c:UInt8):ixB blS c=blB c.toNat:=kN (p:=fun c=>ixB blS c=blB c.toNat) (by decide+kernel) c
theorem aEw {s:Str}(h:preB [45,45] s=true):cU neB s=2+cU neB (s.drop 2):=by
 unfold preB at h;rw[τ] at h;have h2:=χ h.2
 match s,h2 with
 | a::b::r,h2=>
  have h2:[a,b]=[45,45]:=h2;cases h2;rw[cU,θ (by decide),cU,θ (by decide)];show cU neB r+1+1=2+cU neB r;omega
theorem aSs (c:UInt8):b8 Tryz.prog 131 [I .u8 (c.toNat:Nat)] [] (B (neB c.toNat)) []:=by
 have e:(!decide ((c.toNat:Int)=10))=neB c.toNat:=by
  unfold neB;by_cases h:c.toNat=10
  ·rw[φ h,φ (by omega)]
  ·rw[ψ h,ψ (by omega)]
 rw[←e];refine bM (n:=5) tok Tryz.func131 rfl rfl rfl ?_;exact sg rfl (sg rfl (aE rtT))
theorem aK0 (S:Str):b8 Tryz.prog 79 [Go.AM.T S] [] (aC1 (oB S)) []:=by
 refine bM (n:=65) tok Tryz.func79 rfl rfl rfl ?_;refine sg rfl (aGw ?_);refine aA (sg rfl (aB rfl (fun hb=>?_) (fun hb=>?_)))
 ·unfold oB;rw[θ (by have:=χ hb;omega)];exact sg rfl (aE (aN2 trw))
 have hl:S.length≤4000:=by have:=Ad hb;omega
 have hA:oB S=aN5 [] (n6 S.length 0 (S.drop 0)):=by
  unfold oB;rw[ξ (by omega),B5];cases n6 S.length 0 S<;>rfl
 refine aD (sg rfl (sg rfl (AWp.sub (Sub.own (t:=4) (id:=500) 139 4 rfl rfl) ?_)));refine aA (aGx ?_);refine aA (aF (aK (fun p:Nat×Nat×List Tk=>mk [(0,Go.AM.T S),(3,.one (.vp 3 0)),(4,.one (.hs 500 0 p.2.2.length p.2.2.length)),(5,I .i64 p.1)] [(3,.var 32 [.c (.int .i64 0),.c (.int .i64 0)]),(500,.arr 139 4 (p.2.2.map aG) 0)]) (fun p=>p.1≤S.length∧S.length-p.1≤p.2.1∧p.2.2.length+(S.length-p.1)≤S.length∧oB S=aN5 p.2.2 (n6 p.2.1 p.1 (S.drop p.1))) (fun p=>p.2.1) (0,S.length,[]) ⟨Ac _,by dsimp only;omega,by dsimp only;simp,hA⟩ sl ?_));rintro⟨i,f,out⟩ ⟨hi,hf,U,j⟩;dsimp only at hi hf U j ⊢;have hout:(out.map aG).length=out.length:=η _;refine aA (sg rfl (aB rfl (fun hb=>?_) (fun hb=>?_)))
 ·have hlt:i<S.length:=by have:=χ hb;omega
  obtain⟨g,rfl⟩:∃g,f=g+1:=⟨f-1,by omega⟩
  obtain⟨c,r,u⟩:∃c r,S.drop i=c::r:=by
   cases h:S.drop i with
   | nil=>
    have:=congrArg List.length h;rw[Bg,length_nil] at this;omega
   | cons c r=>exact⟨c,r,rfl⟩
  have hci:S[i]?=some c:=by
   have:=congrArg (fun l=>l[0]?) u;simpa [Ak] using this
  have Y:(c::r).length=S.length-i:=by rw[←u,Bg]
  rw[ε] at Y;obtain⟨O,t0,v0,aa,ab⟩:=aQc c r (by omega);have ac:=qL blS c;have E:=aSu c;unfold ixB at E;have ad:=qK (c::r) [45,45];have ae:=xK 131 neB (c::r) (by rw[ε];omega) (by kernel_rfl) fun d _=>aSs d
  have M:=vP (c::r);have af:= @s7 c r;have ah:= @s8 c r;have A:= @aEw (c::r);have q:k8 (c::r)=if blB c.toNat=true then 1 else if preB [45,45] (c::r)=true then 2+cU neB ((c::r).drop 2) else 0:=rfl
  rw[u,n6] at j;have J:∀m:Nat,(c::r).drop m=S.drop (i+m):=fun m=>by rw[←u,Cr]
  rw[ε] at M;refine aD (aF (aA (sg rfl ?_)));rw[u];refine aF (skh 3 [(2,.byte i c)] rfl (kc ac ?_));refine kz 2 rfl ?_;rw[E];by_cases B:blB c.toNat=true
  ·rw[B];rw[θ B] at q;rw[q,θ (by decide),J] at j;exact aB rfl (fun _=>aA (agN [] rfl (aH ⟨(i+1,g,out),⟨by dsimp only;omega,by dsimp only;omega,by dsimp only;omega,j⟩,by dsimp only;omega,sl⟩))) (fun hb=>absurd hb (by decide))
  rw[ξ B] at q;rw[B9 _ |>.mp B];refine aB rfl (fun hb=>absurd hb (by decide)) (fun _=>sk 1 rfl (kc ad ?_));refine kz 1 rfl (aB rfl (fun hb=>?_) (fun hb=>?_))
  ·rw[θ hb,←A hb] at q;have ai:0<cU neB (c::r):=by rw[A hb];omega
   rw[q,θ ai,J] at j;rw[q] at M;generalize cU neB (c::r)=m at *;refine aA (aC mixed (akN 2 [] rfl (kc ae ?_)));exact akN 2 [] rfl (az (aH ⟨(i+m,g,out),⟨by dsimp only;omega,by dsimp only;omega,by dsimp only;omega,j⟩,by dsimp only;omega,sl⟩))
  ·rw[ξ (by rw[hb];exact ω)] at q;rw[ξ (by rw[q];exact lt_irrefl 0)] at j;refine aD (sk 3 rfl ?_);rw[u];refine kc aa ?_;generalize o8 (c::r)=o at *;cases o with
   | error e=>
    dsimp only at j;have he:=ah rfl;rw[j];exact kz 6 rfl (aA (sg rfl (aB rfl (fun _=>sg rfl (aE (aN2 trw))) (fun hb=>absurd hb (by simp[aIw,he])))))
   | ok p=>
    obtain⟨k,t,v⟩:=p;obtain⟨e1,e2,e3⟩:=ab k t v rfl;subst e1 e2 e3;dsimp only at j;obtain⟨ht1,aj⟩:=af rfl;rw[ε] at aj;rw[u7,J] at j;refine kz 6 rfl (aA (sg rfl (aB rfl (fun hb=>absurd hb (by simp[aIw])) (fun _=>aD (sg rfl (sgh [(1,.all),(2,.all)] rfl (agN [] rfl ?_)))))));have y:out.map aG++[[.int .i64 O,.str t0,.int .i64 v0,.int .i64 (i:Int)]]=(out++[(⟨O,t0,v0,i⟩:Tk)]).map aG:=by simp[aG]
    exact⟨(i+t0.length,g,out++[⟨O,t0,v0,i⟩]),⟨by dsimp only;omega,by dsimp only;omega,by dsimp only;rw[ζ,Bc];omega,j⟩,by dsimp only;omega,sl (he:=⟨rfl,rfl,Go.AM.hs_ren (by simp) (by simp),rfl,trivial⟩) (hh:=⟨⟨_,rfl,.var rfl⟩,⟨_,rfl,.arrS y⟩,trivial⟩)⟩
 ·have e:i=S.length:=by have:=Ad hb;omega
  have hE:n6 f i (S.drop i)=.ok [⟨6,[],0,i⟩]:=by
   rw[e,Ci];cases f<;>rfl
  rw[hE] at j;rw[j];have y:out.map aG++[[.int .i64 6,.str [],.int .i64 0,.int .i64 (i:Int)]]=(out++[(⟨6,[],0,i⟩:Tk)]).map aG:=by simp[aG]
  refine aH (sgh [(4,.all)] rfl ?_);subst e;show AWp _ _ _ _ _ _ (aLb fun ex st=>(ex=.normal∨ex=.ret)∧Fin _ _ st _ (aC1 (.ok (out++[⟨6,[],0,(S.length:Int)⟩]))) _);unfold aC1;dsimp only;rw[←y];refine AWp.sub (Sub.freeze (id:=500) rfl) (AWp.sub (cv 2 (out.map aG++[[.int .i64 6,.str [],.int .i64 0,.int .i64 (S.length:Int)]])) ?_);exact aE (aN2 trw)
abbrev PE:=Int×Int
abbrev TR:=Except PE (Ty×List Tk)
def isT (t:Tk) (s:Str):Bool:=decide (t.kind=4)&&decide (t.text=s)
def c8:Str:=[40]
def nE:Str:=[41]
def aHg (t:Tk):Bool:=decide (t.kind=1) || (decide (t.kind=2) || isT t c8)
def aOo (s:Str):Ty:=.mk 3 0 s []
def aOl (s:Str):Ty:=.mk 2 0 s []
mutual
def cX:Nat→Nat→List Tk→TR
 | 0,_,_=>.error (12,0)
 | _+1,_,[]=>.error (12,0)
 | f+1,o,t::R=>
  if t.kind=2 then .ok (aOo t.text,R)
  else if t.kind=1 then .ok (aOl t.text,R)
  else if isT t c8=false then .error (12,t.pl)
  else if 40≤o then .error (13,t.pl)
  else pC (cD f (o+1) R)
def cD:Nat→Nat→List Tk→TR
 | 0,_,_=>.error (12,0)
 | f+1,o,R=>match cX f o R with
  | .error e=>.error e
  | .ok (x,R1)=>kV f o x R1
def kV:Nat→Nat→Ty→List Tk→TR
 | 0,_,_,_=>.error (12,0)
 | _+1,_,_,[]=>.error (12,0)
 | f+1,o,x,t::R=>
  if aHg t=true then(match cX f o (t::R) with
   | .error e=>.error e
   | .ok (a,R1)=>kV f o (kZ x a) R1)
  else if isT t arrow=true then(match cD f o R with
   | .error e=>.error e
   | .ok (to,R1)=>.ok (aCz x to,R1))
  else .ok (x,t::R)
def pC:TR→TR
 | .error e=>.error e
 | .ok (_,[])=>.error (12,0)
 | .ok (x,t::R)=>if isT t nE=true then .ok (x,R) else .error (12,t.pl)
end
def mZ (R:List Tk):Prop:=∃p e,R=p++[e]∧e.kind=6
theorem mZ.ne {R:List Tk}(h:mZ R):∃t R',R=t::R':=by
 obtain⟨p,e,rfl,_⟩:=h;cases p with
 | nil=>exact⟨e,[],rfl⟩
 | cons a p=>exact⟨a,p++[e],rfl⟩
theorem mZ.tail {t:Tk}{R:List Tk}(h:mZ (t::R)) (c:¬t.kind=6):mZ R:=by
 obtain⟨p,e,hp,he⟩:=h;cases p with
 | nil=>
  obtain⟨rfl,_⟩:=List.cons.inj hp;exact absurd he c
 | cons a p=>
  obtain⟨_,rfl⟩:=List.cons.inj hp;exact⟨p,e,rfl,he⟩
def wt (R:List Tk):Nat:=(R.map fun t=>t.text.length+6).sum
theorem fR (t:Tk) (R:List Tk):wt (t::R)=t.text.length+6+wt R:=by unfold wt;rw[Av,B3]
theorem bU {t:Tk}{s:Str}(h:isT t s=true):t.kind=4∧t.text=s:=by
 unfold isT at h;rw[τ] at h;exact⟨χ h.1,χ h.2⟩
mutual
def nF:Ty→Bool
 | .mk f _ _ a=>!decide (f=5)&&nFs a
def nFs:List Ty→Bool
 | []=>true
 | t::l=>nF t&&nFs l
end
structure TOk (R:List Tk) (m:Nat) (x:Ty) (R':List Tk):Prop where
 e:mZ R→mZ R'
 s:∃p,R=p++R'∧m≤p.length
 w:wfS x=true∧nF x=true
theorem TOk.len {R R':List Tk}{m:Nat}{x:Ty}(h:TOk R m x R'):R'.length+m≤R.length:=by
 obtain⟨p,rfl,hp⟩:=h.s;rw[ζ];omega
abbrev WF (x:Ty):Prop:=wfS x=true∧nF x=true
theorem tN {a b:Ty}(ha:WF a) (hb:WF b):WF (kZ a b):=by
 unfold kZ;refine⟨?_,?_⟩
 ·rw[wfS,θ rfl,aLf,aLf,aLf,ha.1,hb.1];rfl
 ·rw[nF,nFs,nFs,nFs,ha.2,hb.2];rfl
theorem aOj {a b:Ty}(ha:WF a) (hb:WF b):WF (aCz a b):=tN (tN ⟨rfl,rfl⟩ ha) hb
theorem aDc (a b:Ty):tn (kZ a b)=1+(tn a+(tn b+0)):=by unfold kZ;rw[tn,tns,tns,tns];rfl
theorem aOm (a b:Ty):tn (aCz a b)=5+tn a+tn b:=by
 unfold aCz;rw[aDc,aDc];have:tn (.mk 3 0 arrow [])=3:=by rw[tn,tns];rfl
 rw[this];omega
mutual
theorem gN:∀(f o:Nat) (R:List Tk) (x:Ty) (R':List Tk),cX f o R=.ok (x,R')→TOk R 1 x R'∧tn x+5+wt R'≤wt R
 | 0,_,_,_,_,h=>by rw[cX] at h;cases h
 | _+1,_,[],_,_,h=>by rw[cX] at h;cases h
 | f+1,o,t::R,x,R',h=>by
  rw[cX] at h;rw[fR];by_cases h2:t.kind=2
  ·rw[θ h2] at h;cases h;refine⟨⟨fun he=>he.tail (by omega),⟨[t],rfl,le_refl _⟩,⟨rfl,rfl⟩⟩,?_⟩;unfold aOo;rw[tn,tns];omega
  rw[ξ h2] at h;by_cases h1:t.kind=1
  ·rw[θ h1] at h;cases h;refine⟨⟨fun he=>he.tail (by omega),⟨[t],rfl,le_refl _⟩,⟨rfl,rfl⟩⟩,?_⟩;unfold aOl;rw[tn,tns];omega
  rw[ξ h1] at h;split at h
  ·cases h
  rename_i hp;have hp:=bU (by simpa using hp:isT t c8=true);split at h
  ·cases h
  cases hw:cD f (o+1) R with
  | error e=>rw[hw,pC] at h;cases h
  | ok y=>
   obtain⟨y,R1⟩:=y;rw[hw] at h;obtain⟨⟨g1,⟨p,g2,g3⟩,g4⟩,g5⟩:=eS f (o+1) R y R1 hw;cases R1 with
   | nil=>rw[pC] at h;cases h
   | cons u R2=>
    rw[pC] at h;split at h
    ·rename_i hu;have hu:=bU hu;cases h;rw[fR] at g5;refine⟨⟨fun he=>(g1 (he.tail (by omega))).tail (by omega),⟨t::(p++[u]),by rw[g2];simp,by simp⟩,g4⟩,by omega⟩
    ·cases h
theorem eS:∀(f o:Nat) (R:List Tk) (x:Ty) (R':List Tk),cD f o R=.ok (x,R')→TOk R 1 x R'∧tn x+5+wt R'≤wt R
 | 0,_,_,_,_,h=>by rw[cD] at h;cases h
 | f+1,o,R,x,R',h=>by
  rw[cD] at h;cases ha:cX f o R with
  | error e=>rw[ha] at h;cases h
  | ok y=>
   obtain⟨y,R1⟩:=y;rw[ha] at h;obtain⟨⟨g1,⟨p,g2,g3⟩,g4⟩,g5⟩:=gN f o R y R1 ha;obtain⟨⟨c,⟨q,j,B⟩,r⟩,A⟩:=aG0 f o y R1 x R' g4 h;exact⟨⟨fun he=>c (g1 he),⟨p++q,by rw[g2,j,As],by rw[ζ];omega⟩,r⟩,by omega⟩
theorem aG0:∀(f o:Nat) (y:Ty) (R:List Tk) (x:Ty) (R':List Tk),WF y→kV f o y R=.ok (x,R')→TOk R 0 x R'∧tn x+wt R'≤tn y+wt R
 | 0,_,_,_,_,_,_,h=>by rw[kV] at h;cases h
 | _+1,_,_,[],_,_,_,h=>by rw[kV] at h;cases h
 | f+1,o,y,t::R,x,R',hy,h=>by
  rw[kV] at h;split at h
  ·cases ha:cX f o (t::R) with
   | error e=>rw[ha] at h;cases h
   | ok a=>
    obtain⟨a,R1⟩:=a;rw[ha] at h;obtain⟨⟨g1,⟨p,g2,g3⟩,g4⟩,g5⟩:=gN f o (t::R) a R1 ha;obtain⟨⟨c,⟨q,j,B⟩,r⟩,A⟩:=aG0 f o (kZ y a) R1 x R' (tN hy g4) h;rw[aDc] at A;exact⟨⟨fun he=>c (g1 he),⟨p++q,by rw[g2,j,As],Ac _⟩,r⟩,by omega⟩
  split at h
  ·rename_i ht;have ht:=bU ht;cases ha:cD f o R with
   | error e=>rw[ha] at h;cases h
   | ok a=>
    obtain⟨a,R1⟩:=a;rw[ha] at h;cases h;obtain⟨⟨g1,⟨p,g2,g3⟩,g4⟩,g5⟩:=eS f o R a R' ha;rw[aOm,fR];exact⟨⟨fun he=>g1 (he.tail (by omega)),⟨t::p,by rw[g2];rfl,Ac _⟩,aOj hy g4⟩,by omega⟩
  ·cases h;exact⟨⟨id,⟨[],rfl,le_refl _⟩,hy⟩,le_refl _⟩
end
mutual
theorem dP:∀(f o:Nat) (R:List Tk) (e p:Int),cX f o R=.error (e,p)→¬e=0
 | 0,_,_,_,_,h=>by rw[cX] at h;cases h;decide
 | _+1,_,[],_,_,h=>by rw[cX] at h;cases h;decide
 | f+1,o,t::R,e,p,h=>by
  rw[cX] at h;split at h
  ·cases h
  split at h
  ·cases h
  split at h
  ·cases h;decide
  split at h
  ·cases h;decide
  cases hw:cD f (o+1) R with
  | error e'=>
   rw[hw,pC] at h;cases h;exact dJ f (o+1) R e p hw
  | ok y=>
   obtain⟨y,R1⟩:=y;rw[hw] at h;cases R1 with
   | nil=>rw[pC] at h;cases h;decide
   | cons u R2=>
    rw[pC] at h;split at h
    ·cases h
    ·cases h;decide
theorem dJ:∀(f o:Nat) (R:List Tk) (e p:Int),cD f o R=.error (e,p)→¬e=0
 | 0,_,_,_,_,h=>by rw[cD] at h;cases h;decide
 | f+1,o,R,e,p,h=>by
  rw[cD] at h;cases ha:cX f o R with
  | error e'=>
   rw[ha] at h;cases h;exact dP f o R e p ha
  | ok y=>
   rw[ha] at h;exact aA3 f o _ _ e p h
theorem aA3:∀(f o:Nat) (x:Ty) (R:List Tk) (e p:Int),kV f o x R=.error (e,p)→¬e=0
 | 0,_,_,_,_,_,h=>by rw[kV] at h;cases h;decide
 | _+1,_,_,[],_,_,h=>by rw[kV] at h;cases h;decide
 | f+1,o,x,t::R,e,p,h=>by
  rw[kV] at h;split at h
  ·cases ha:cX f o (t::R) with
   | error e'=>
    rw[ha] at h;cases h;exact dP f o (t::R) e p ha
   | ok y=>
    rw[ha] at h;exact aA3 f o _ _ e p h
  split at h
  ·cases ha:cD f o R with
   | error e'=>
    rw[ha] at h;cases h;exact dJ f o R e p ha
   | ok y=>
    rw[ha] at h;cases h
  ·cases h
end
theorem aMp (s:Str):b8 Tryz.prog 111 [Go.AM.T s] [] (tyV (.mk 2 0 s [])) []:=by
 refine bM (n:=5) tok Tryz.func111 rfl rfl rfl ?_;exact sg rfl (sg rfl (aE (rtC trw)))
theorem aFq (s:Str):b8 Tryz.prog 240 [Go.AM.T s] [] (tyV (.mk 3 0 s [])) []:=by
 refine bM (n:=5) tok Tryz.func240 rfl rfl rfl ?_;exact sg rfl (sg rfl (aE (rtC trw)))
def nB (L:List Tk):V:=.one (.c (.sl 4 (L.map aG)))
def tkV (t:Tk):V:=.pa (aG t)
def uW (x:Ty) (ps vs:C) (i e p:Int):List C:=[.int .i64 x.form,.int .i64 x.n,.str x.name,.sl 4 (cK x),ps,vs,.int .i64 i,.int .i64 e,.int .i64 p]
def xV (L:List Tk):TR→V
 | .ok (x,R)=>.pa (uW x .nl .nl ((L.length-R.length:Nat):Int) 0 0)
 | .error (e,p)=>.pa (uW zTy .nl .nl 0 e p)
theorem qO (L:List Tk) (x:Ty) (R:List Tk):xV L (.ok (x,R))=.pa (uW x .nl .nl ((L.length-R.length:Nat):Int) 0 0):=rfl
theorem vL (t:Tk) (s:Str):b8 Tryz.prog 196 [tkV t,Go.AM.T s] [] (B (isT t s)) []:=by
 unfold isT;refine bM (n:=14) tok Tryz.func196 rfl rfl rfl ?_;refine sg rfl ?_;by_cases h:t.kind=4
 ·have d:decide (t.kind=4)=true:=φ h;rw[d,Bz];exact sgh [(3,.bv true),(8,.bv true)] rfl (aE rtT)
 ·have d:decide (t.kind=4)=false:=ψ h;rw[d,Bw];exact sgh [(3,.bv false),(8,.bv false)] rfl (aE rtT)
theorem aAt (t:Tk) (e:Int):b8 Tryz.prog 197 [tkV t,I .i64 e] [] (.pa (uW zTy .nl .nl 0 e t.pl)) []:=by
 refine bM (n:=10) tok Tryz.func197 rfl rfl rfl ?_;exact sg rfl (sg rfl (aE (rtC trw)))
theorem aKz (t:Tk):b8 Tryz.prog 228 [tkV t] [] (B (aHg t)) []:=by
 have hi:=vL t c8;unfold aHg;refine bM (n:=17) tok Tryz.func228 rfl rfl rfl ?_;refine sg rfl (sk 1 rfl (kc hi ?_));refine kz 1 rfl ?_;by_cases h1:t.kind=1
 ·have d:decide (t.kind=1)=true:=φ h1;rw[d,Bx];exact sgh [(3,.bv true),(7,.bv true),(8,.bv true),(10,.bv true)] rfl (aE rtT)
 have d:decide (t.kind=1)=false:=ψ h1;rw[d,Az];by_cases h2:t.kind=2
 ·have d2:decide (t.kind=2)=true:=φ h2;rw[d2,Bx];exact sgh [(3,.bv false),(7,.bv false),(8,.bv true),(10,.bv true)] rfl (aE rtT)
 ·have d2:decide (t.kind=2)=false:=ψ h2;rw[d2,Az];exact sgh [(3,.bv false),(7,.bv false),(8,.bv false),(10,.bv false)] rfl (aE rtT)
structure At (L:List Tk) (i:Nat) (R:List Tk):Prop where
 d:L.drop i=R
 e:mZ R
 l:L.length≤4001
theorem At.lt {L:List Tk}{i:Nat}{R:List Tk}(h:At L i R):i+R.length=L.length∧1≤R.length:=by
 obtain⟨t,R',c⟩:=h.e.ne;have:=congrArg List.length h.d;rw[Bg] at this;have h1:1≤R.length:=by rw[c,ε];omega
 omega
theorem At.get {L:List Tk}{i:Nat}{t:Tk}{R:List Tk}(h:At L i (t::R)):L[i]?=some t:=by
 have:=congrArg (fun l=>l[0]?) h.d;simpa [Ak] using this
theorem At.to {L:List Tk}{i:Nat}{R p R':List Tk}(h:At L i R) (hs:R=p++R') (he:mZ R'):At L (i+p.length) R'∧L.length-R'.length=i+p.length:=by
 have h1:=h.lt;refine⟨⟨?_,he,h.l⟩,?_⟩
 ·rw[←Cr,h.d,hs,List.drop_left]
 ·rw[hs,ζ] at h1;omega
theorem At.next {L:List Tk}{i:Nat}{t:Tk}{R:List Tk}(h:At L i (t::R)) (c:¬t.kind=6):At L (i+1) R∧L.length-R.length=i+1:=h.to (p:=[t]) rfl (h.e.tail c)
theorem At.ok {L:List Tk}{i m:Nat}{R R':List Tk}{x:Ty}(h:At L i R) (k:TOk R m x R'):At L (L.length-R'.length) R'∧i+m≤L.length-R'.length:=by
 obtain⟨p,hs,hp⟩:=k.s;obtain⟨g1,g2⟩:=h.to hs (k.e h.e);rw[g2];exact⟨g1,by omega⟩
def aNv (L:List Tk) (f:Nat):Prop:=∀(o:Nat) (R:List Tk) (i:Nat),At L i R→3*R.length≤f→o≤40→b8 Tryz.prog 161 [nB L,I .i64 (i:Nat),I .i64 (o:Nat)] [] (xV L (cX f o R)) []
def aJ8 (L:List Tk) (f:Nat):Prop:=∀(o:Nat) (R:List Tk) (i:Nat),At L i R→3*R.length+2≤f→o≤40→b8 Tryz.prog 198 [nB L,I .i64 (i:Nat),I .i64 (o:Nat)] [] (xV L (cD f o R)) []
theorem aNf (L:List Tk) (f:Nat) (ih:aJ8 L f):aNv L (f+1):=by
 intro o R i c hf ho;have hkl:(L.map aG).length=L.length:=η _;have hLl:=c.l;obtain⟨t,R,rfl⟩:=c.e.ne;have I:=c.lt;have J:=c.get;have hti':=aY aG J;rw[ε] at I hf;rw[cX];refine bM (n:=89) tok Tryz.func161 rfl rfl rfl ?_;refine sg rfl (aA (sgh [(2,.row i (aG t))] rfl (aB rfl (fun hb=>?_) (fun hb=>?_))))
 ·have h2:t.kind=2:=χ hb;rw[θ h2];obtain⟨_,hn⟩:=c.next (by omega)
  rw[qO,hn];exact aA (agN [(2,.row i (aG t))] rfl (aE (rtC trw)))
 rw[ξ (Ad hb)];refine aD (aA (sgh [(2,.row i (aG t))] rfl (aB rfl (fun hb=>?_) (fun hb=>?_))))
 ·have h1:t.kind=1:=χ hb;rw[θ h1];obtain⟨_,hn⟩:=c.next (by omega)
  rw[qO,hn];exact aA (agN [(2,.row i (aG t))] rfl (aE (rtC trw)))
 rw[ξ (Ad hb)];refine aD ?_;have M:=vL t c8;have O:=aAt t 12;have U:=aAt t 13;refine skh 4 [(2,.row i (aG t))] rfl (kc M ?_);refine kz 1 rfl (aA (sg rfl ?_));cases hl:isT t c8 with
 | false=>
  rw[θ rfl];refine aB rfl (fun _=>skh 4 [(2,.row i (aG t))] rfl (kc O ?_)) (fun hb=>absurd hb (by decide));exact kz 1 rfl (aE (rtC trw))
 | true=>
 rw[ξ (by decide)];refine aB rfl (fun hb=>absurd hb (by decide)) (fun _=>aD (aA (sg rfl (aB rfl (fun hb=>?_) (fun hb=>?_)))))
 ·rw[θ (by have:=χ hb;omega)];refine skh 4 [(2,.row i (aG t))] rfl (kc U ?_);exact kz 1 rfl (aE (rtC trw))
 have B:¬40≤o:=by have:=Ad hb;omega
 rw[ξ B];refine aD ?_;obtain⟨A,_⟩:=c.next (by rw[(bU hl).1];decide)
 have Y:=ih (o+1) R (i+1) A (by omega) (by omega);have hok:=eS f (o+1) R;have r:=dJ f (o+1) R;refine aA (aC mixed (akN 5 [] rfl (kc Y ?_)));generalize cD f (o+1) R=w at hok r ⊢;cases w with
 | error e=>
  obtain⟨e,p⟩:=e;refine akN 2 [] rfl (az ?_);rw[pC];refine aA (sg rfl ?_);have he:=r e p rfl;exact aB rfl (fun _=>sg rfl (aE (rtC trw))) (fun hb=>absurd hb (by simp[he]))
 | ok y=>
  obtain⟨x,R1⟩:=y;obtain⟨hT,_⟩:=hok x R1 rfl;obtain⟨q,hle⟩:=A.ok hT;obtain⟨u,R3,rfl⟩:=q.e.ne;rw[qO];generalize L.length-(u::R3).length=j at *;have aa:=q.get;have huj':=aY aG aa;have hj:=q.lt;rw[ε] at hj;have E:=vL u nE;have ab:=aAt u 12;refine kz 2 rfl (aA (sg rfl (aB rfl (fun hb=>absurd hb (by decide)) (fun _=>aD (skh 5 [(3,.row j (aG u))] rfl (kc E ?_))))));refine kz 1 rfl (aA (sg rfl ?_));rw[pC];cases hr:isT u nE with
  | false=>
   rw[ξ (by decide)];refine aB rfl (fun _=>skh 5 [(3,.row j (aG u))] rfl (kc ab ?_)) (fun hb=>absurd hb (by decide));exact kz 1 rfl (aE (rtC trw))
  | true=>
   rw[θ rfl];obtain⟨_,hn⟩:=q.next (by rw[(bU hr).1];decide)
   rw[qO,hn];exact aB rfl (fun hb=>absurd hb (by decide)) (fun _=>aD (aA (agN [] rfl (sg rfl (aE (rtC trw))))))
def zX:List AM.R:=[.c (.int .i64 0),.c (.int .i64 0),.c (.str []),.c .nl,.c .nl,.c .nl,.c (.int .i64 0),.c (.int .i64 0),.c (.int .i64 0)]
theorem aNa (L:List Tk) (f:Nat) (aa:∀g,g≤f→aNv L g) (ac:∀g,g≤f→aJ8 L g):aJ8 L (f+1):=by
 intro o R i O hf ho;have hkl:(L.map aG).length=L.length:=η _;have hLl:=O.l;have J:=aa f (le_refl _) o R i O (by omega) ho;have hok:=gN f o R;have q:=dP f o R;have ad:=O.lt;rw[cD];refine bM (n:=81) tok Tryz.func198 rfl rfl rfl ?_;refine sg rfl (sk 3 rfl (kc J ?_));generalize cX f o R=w at hok q ⊢;cases w with
 | error e=>
  obtain⟨e,p⟩:=e;have he:=q e p rfl;exact kz 2 rfl (aA (sg rfl (aB rfl (fun _=>sg rfl (aE (rtC trw))) (fun hb=>absurd hb (by simp[he])))))
 | ok y=>
 obtain⟨x,R1⟩:=y;obtain⟨A,_⟩:=hok x R1 rfl;obtain⟨r,hle⟩:=O.ok A;have hlen:=A.len;have E:=A.w;dsimp only;rw[qO];have key:∃W,W=kV f o x R1:=⟨_,rfl⟩
 obtain⟨W,j⟩:=key;rw[←j];refine kz 2 rfl (aA (sg rfl (aB rfl (fun hb=>absurd hb (by decide)) (fun _=>aD ?_))));obtain⟨u,R2,rfl⟩:=r.e.ne;have M:=r.get;have U:=aY aG M;have ab:=aKz u;refine skh 5 [(3,.row (L.length-(u::R2).length) (aG u))] rfl (kc ab ?_);refine kz 1 rfl ?_;clear hok q J M U ab A;refine aA (aF (aK (fun p:Ty×List Tk×Nat=>mk [(0,nB L),(2,I .i64 (o:Nat)),(6,.one (.vp 6 0)),(7,.one (.vp 7 0)),(8,B (aHg (p.2.1.headD ⟨0,[],0,0⟩)))] [(6,.var 208 zX),(7,.var 208 ((uW p.1 .nl .nl ((L.length-p.2.1.length:Nat):Int) 0 0).map .c))]) (fun p=>At L (L.length-p.2.1.length) p.2.1∧WF p.1∧3*p.2.1.length+1≤p.2.2∧p.2.2≤f∧W=kV p.2.2 o p.1 p.2.1) (fun p=>p.2.2) (x,u::R2,f) ⟨r,E,by dsimp only;omega,le_refl _,j⟩ sl ?_));clear j E r hlen hle O ad hf;rintro⟨x,R1,g⟩ ⟨r,E,hg,hgf,j⟩;dsimp only at r E hg hgf j ⊢;obtain⟨u,R2,rfl⟩:=r.e.ne;obtain⟨g,rfl⟩:∃h,g=h+1:=⟨g-1,by omega⟩
 have M:=r.get;have U:=aY aG M;have hlt:=r.lt;rw[kV] at j;refine aA (sg rfl (aB rfl (fun hb=>?_) (fun hb=>?_)))
 ·have hb:aHg u=true:=hb;rw[θ hb] at j;have J:=aa g (by omega) o (u::R2) _ r (by omega) ho;have hok:=gN g o (u::R2);have q:=dP g o (u::R2);refine aD (aF (sk 4 rfl (kc J ?_)));generalize cX g o (u::R2)=w at hok q j ⊢;cases w with
  | error e=>
   obtain⟨e,p⟩:=e;have he:=q e p rfl;dsimp only at j;rw[j];exact kz 2 rfl (aA (sg rfl (aB rfl (fun _=>sg rfl (aE (rtC trw))) (fun hb=>absurd hb (by simp[he])))))
  | ok y=>
   obtain⟨a,R3⟩:=y;obtain⟨A,_⟩:=hok a R3 rfl;obtain⟨Y,hle⟩:=r.ok A;have hlen:=A.len;dsimp only at j;rw[qO];obtain⟨v,R4,rfl⟩:=Y.e.ne;have hvj:=Y.get;have hvj':=aY aG hvj;have hbv:=aKz v;refine kz 2 rfl (aA (sg rfl (aB rfl (fun hb=>absurd hb (by decide)) (fun _=>aD (sgh [(4,.all)] rfl (aC mixed (ak 5 [(3,.row (L.length-(v::R4).length) (aG v))] rfl (kc hbv ?_))))))));exact kz 1 rfl ⟨(kZ x a,v::R4,g),⟨Y,tN E A.w,by dsimp only;omega,by dsimp only;omega,j⟩,by dsimp only;omega,sl⟩
 ·have hb:aHg u=false:=hb;rw[ξ (by rw[hb];decide)] at j;have hIs:=vL u arrow;refine aH (skh 5 [(3,.row (L.length-(u::R2).length) (aG u))] rfl (kc hIs ?_));refine kz 1 rfl (aA (sg rfl ?_));cases hl:isT u arrow with
  | false=>
   rw[hl,ξ (by decide)] at j;rw[j];exact aB rfl (fun _=>sg rfl (aE (rtC trw))) (fun hb=>absurd hb (by decide))
  | true=>
   rw[hl,θ rfl] at j;obtain⟨hA2,hn⟩:=r.next (by rw[(bU hl).1];decide)
   rw[ε] at hg;have hty:=ac g (by omega) o R2 _ hA2 (by omega) ho;have hok:=eS g o R2;have q:=dJ g o R2;refine aB rfl (fun hb=>absurd hb (by decide)) (fun _=>aD (aA (aC mixed (akN 5 [] rfl (kc hty ?_)))));generalize cD g o R2=w at hok q j ⊢;cases w with
   | error e=>
    obtain⟨e,p⟩:=e;have he:=q e p rfl;dsimp only at j;rw[j];exact akN 2 [] rfl (az (aA (sg rfl (aB rfl (fun _=>sg rfl (aE (rtC trw))) (fun hb=>absurd hb (by simp[he]))))))
   | ok y=>
    obtain⟨to,R3⟩:=y;dsimp only at j;rw[j,qO,qO];have hfu:=aSt x to;refine akN 2 [] rfl (az (aA (sg rfl (aB rfl (fun hb=>absurd hb (by decide)) (fun _=>aD (aA (aC mixed (akN 4 [] rfl (kc hfu ?_)))))))));exact akN 4 [] rfl (az (aE (rtC trw)))
theorem aC9 (L:List Tk):∀f,(∀g,g≤f→aNv L g)∧∀g,g≤f→aJ8 L g:=by
 intro f
 induction f with
 | zero=>
  refine⟨fun g j o R i q r=>?_,fun g j o R i q r=>?_⟩
  ·have:=q.lt;omega
  ·have:=q.lt;omega
 | succ f c=>
  refine⟨fun g j=>?_,fun g j=>?_⟩
  ·by_cases h:g≤f
   ·exact c.1 g h
   ·rw[show g=f+1 by omega];exact aNf L f (c.2 f (le_refl _))
  ·by_cases h:g≤f
   ·exact c.2 g h
   ·rw[show g=f+1 by omega];exact aNa L f c.1 c.2
def n5 (o:List Str) (s:Str):List Str:=if s∈o then o else o++[s]
def eA (o l:List Str):List Str:=l.foldl n5 o
theorem oK (o l m:List Str):eA o (l++m)=eA (eA o l) m:=by unfold eA;rw[foldl_append]
theorem zC {s:Str}:∀(l o:List Str),s∈eA o l↔s∈o∨s∈l
 | [],o=>by unfold eA;simp
 | x::l,o=>by
  show s∈eA (n5 o x) l↔_;rw[zC l];unfold n5;split
  ·rename_i h;constructor
   ·rintro(c | c)
    ·exact .inl c
    ·exact .inr (Ba _ c)
   ·rintro(c | c)
    ·exact .inl c
    ·rcases Ap.1 c with rfl | c
     ·exact .inl h
     ·exact .inr c
  ·rw[Bi,A4,Ap];exact or_assoc
theorem aIl {s:Str}(o l:List Str):eA o (n5 l s)=n5 (eA o l) s:=by
 by_cases h:s∈l
 ·have:s∈eA o l:=(zC l o).2 (.inr h)
  unfold n5;rw[θ h,θ this]
 ·unfold n5;rw[ξ h,oK];rfl
theorem aEp (o p:List Str):∀l:List Str,eA o (eA p l)=eA (eA o p) l:=by
 intro l
 induction l generalizing p with
 | nil=>rfl
 | cons x l c=>
  show eA o (eA (n5 p x) l)=eA (n5 (eA o p) x) l;rw[c,aIl]
theorem iR:∀(l o:List Str),(eA o l).length≤o.length+l.length
 | [],o=>le_refl _
 | x::l,o=>by
  have:=iR l (n5 o x);have h1:(n5 o x).length≤o.length+1:=by unfold n5;split<;>simp
  show(eA (n5 o x) l).length≤_;rw[ε];omega
mutual
def frA:List Str→Ty→List Str
 | o,.mk f _ s a=>if f=2 then n5 o s else tG o a
def tG:List Str→List Ty→List Str
 | o,[]=>o
 | o,t::l=>tG (frA o t) l
end
theorem yC {f:Int}{s:Str}(h:¬f=5):∀(l o:List Str),tE f s o l=eA o l
 | [],_=>rfl
 | x::l,o=>by
  have:jC f s o x=n5 o x:=by
   unfold jC n5;by_cases hx:x∈o
   ·rw[θ hx,ξ (fun h=>h.1 hx)]
   ·rw[ξ hx,θ ⟨hx,.inl h⟩]
  show tE f s (jC f s o x) l=eA (n5 o x) l;rw[this];exact yC h l _
def gA (o:List Str) (l:List Ty):List Str:=l.foldl (fun o t=>eA o (tfR t)) o
theorem aKp (o:List Str):∀(l:List Ty) (p:List Str),eA o (gA p l)=gA (eA o p) l
 | [],_=>rfl
 | t::l,p=>by
  show eA o (gA (eA p (tfR t)) l)=gA (eA (eA o p) (tfR t)) l;rw[aKp o l,aEp]
theorem aKe {f:Int}{s:Str}(h:¬f=5) (l:List Ty) (o:List Str):aHq f s l o=gA o l:=by
 rw[rL];unfold tfL gA;congr 1;funext o t;exact yC h _ _
mutual
theorem aPt:∀(t:Ty) (o:List Str),nF t=true→frA o t=eA o (tfR t)
 | .mk f n s a,o,h=>by
  rw[nF,τ] at h;have c:¬f=5:=by simpa using h.1
  rw[frA,tfR];by_cases h2:f=2
  ·rw[θ h2,θ h2];rfl
  ·rw[ξ h2,ξ h2,aE8 a o h.2,aKe c,aKp];rfl
theorem aE8:∀(l:List Ty) (o:List Str),nFs l=true→tG o l=gA o l
 | [],_,_=>rfl
 | t::l,o,h=>by
  rw[nFs,τ] at h;rw[tG,aPt t o h.1,aE8 l _ h.2];rfl
end
theorem aE9 (o:List Str) (l:List Ty) (x:Ty):tG o (l++[x])=frA (tG o l) x:=by
 induction l generalizing o with
 | nil=>rw[Br,tG,tG,tG]
 | cons t l c=>rw[Bl,tG,tG,c]
theorem aOn (t:Ty) (h:nF t=true) (o:List Str):(frA o t).length≤o.length+tn t:=by
 rw[aPt t o h];have:=iR (tfR t) o;have:=lY t;omega
def oV (l:List Str):V:=.one (.hs 710 0 l.length l.length)
def oO (l:List Str):AObj:=.arr 9 1 (l.map bE) 1
theorem aIv {l:List Ty}{o:List Str}{i:Nat}{x:Ty}(h:l[i]?=some x):tG o (l.take (i+1))=frA (tG o (l.take i)) x:=by rw[A7,h];exact aE9 _ _ _
theorem aL4 {l:List Ty}(h:nFs l=true):∀u∈l,nF u=true:=by
 induction l with
 | nil=>intro u hu;cases hu
 | cons t l c=>
  rw[nFs,τ] at h;intro u hu;rcases Ap.1 hu with rfl | hu
  ·exact h.1
  ·exact c h.2 u hu
theorem zS:∀(l:List Ty) (o:List Str),nFs l=true→(tG o l).length≤o.length+tns l
 | [],o,_=>le_refl _
 | t::l,o,h=>by
  rw[nFs,τ] at h;rw[tG,tns];have h1:=aOn t h.1 o;have h2:=zS l (frA o t) h.2;omega
theorem aIi {l:List Ty}(h:nFs l=true) (i:Nat):nFs (l.take i)=true:=by
 induction l generalizing i with
 | nil=>rw[List.take_nil];rfl
 | cons t l c=>
  rw[nFs,τ] at h;cases i with
  | zero=>rfl
  | succ i=>rw[A8,nFs,h.1,c h.2 i];rfl
theorem aKd:∀{l:List Ty}{i:Nat}{x:Ty},l[i]?=some x→tns (l.take i)+tn x≤tns l
 | t::l,0,x,h=>by
  have e:t=x:=by simpa using h
  subst e;rw[take_zero,tns,tns];omega
 | t::l,i+1,x,h=>by
  have:=aKd (l:=l) (i:=i) (by simpa using h);rw[A8,tns,tns];omega
theorem aQj:∀(k:Nat) (t:Ty),tn t≤k→wfS t=true→nF t=true→∀o:List Str,o.length+tn t≤1000000→b8 Tryz.prog 232 [tyV t,cM [],oV o] [(710,oO o)] (oV (frA o t)) [(710,oO (frA o t))]
 | 0,t,h,_,_=>by have:=oZ t;omega
 | k+1,.mk f n s a,h,hw,hn=>by
  intro o ho;obtain⟨w1,J,_⟩:=aC7 hw;rw[nF,τ] at hn;have M:¬f=5:=by simpa using hn.1
  rw[tn] at h ho;rw[frA];have U:(o.map bE).length=o.length:=η _;have r:(cF a).length=a.length:=by rw[cJ,η]
  refine bM (n:=55) tok Tryz.func232 rfl rfl rfl ?_;refine sg rfl (aA (sg rfl (aB rfl (fun hb=>?_) (fun hb=>?_))))
  ·have h2:f=2:=χ hb;rw[θ h2];have Y:=aJf [] s (by unfold Fits;decide);have aa:=aJf o s (by unfold Fits;omega);refine AWp.sub (Sub.freeze (id:=710) rfl) ?_;refine aA (aA (agF 5 [(3,.pc (B (decide (s∈([]:List Str))))),(8,.pc (B (decide (s∈o))))] rfl rfl rfl ?_));have y:decide (s∈([]:List Str))=false:=ψ (by simp);refine aB rfl (fun hb=>?_) (fun hb=>?_)
   ·have hm:s∈o:=by
     rw[y] at hb;exact χ (show decide (s∈o)=true from hb)
    unfold n5;rw[θ hm];exact sg rfl (aE rtT)
   ·have hm:¬s∈o:=by
     rw[y] at hb;exact Ad (show decide (s∈o)=false from hb)
    unfold n5;rw[ξ hm];refine aD (sg rfl (AWp.sub (st2:=mk [(6,oV (o++[s]))] [(710,oO (o++[s]))]) sl ?_));exact aE rtT
  ·have h2:¬f=2:=Ad hb;rw[ξ h2];refine aD ?_;have d5:decide (f=5)=false:=ψ M;refine aA (sg rfl (aB rfl (fun hb=>absurd (hb.symm.trans d5) (by decide)) (fun _=>aD (aA (sg rfl (aF (aK (fun i:Nat=>mk [(1,cM []),(2,oV (tG o (a.take i))),(3,.one (.vp 3 0)),(8,I .i64 i)] [(3,.var 47 ((bL (.mk f n s a)).map R.c)),(710,oO (tG o (a.take i)))]) (fun i=>i≤a.length) (fun i=>a.length-i) 0 (Ac _) sl ?_)))))));intro i hi;refine aA (sg rfl (aB rfl (fun hb=>?_) (fun hb=>?_)))
   ·have A:=ltD hb r;obtain⟨u,j⟩:=aN A;have q:=Ag j;have O:(cF a)[i]?=some (bL u):=by rw[cJ];exact aY bL j
    have h3:=aKd j;have h4:=zS (a.take i) o (aIi hn.2 i);have hc:=aQj k u (by have:=jB q;omega) (J u q) (aL4 hn.2 u q) (tG o (a.take i)) (by omega);rw[←aIv j] at hc;refine aD (aA (aF (aC mixed (ak 7 [(3,.row i (bL u))] rfl (kc hc ?_)))));exact kz 1 rfl (ag [] rfl ⟨i+1,A,by dsimp only;omega,sl⟩)
   ·have E:=geD hb r hi;subst E;rw[Aq];exact aH (sg rfl (aE rtT))
theorem aRs:∀t:Ty,nF t=true→tfR t=frA [] t
 | .mk f n s a,h=>by
  rw[nF,τ] at h;have c:¬f=5:=by simpa using h.1
  rw[frA,tfR];by_cases h2:f=2
  ·rw[θ h2,θ h2];rfl
  ·rw[ξ h2,ξ h2,aE8 a [] h.2,aKe c]
theorem aGd (t:Ty) (hw:WF t) (hl:tn t≤1000000):b8 Tryz.prog 205 [tyV t] [] (cM (tfR t)) []:=by
 have h0:=aQj (tn t) t (le_refl _) hw.1 hw.2 [] (by rw[length_nil];omega);have h1:=b8.nilArg (pre:=[tyV t,cM []]) (post:=[]) (hin:=[]) h0 rfl;rw[←aRs t hw.2] at h1;have h2:=h1.plain (by simp);refine bM (n:=5) tok Tryz.func205 rfl rfl rfl ?_;refine sg rfl (sk 1 rfl (kc h2 ?_));exact kz 1 rfl (aE rtT)
theorem aFp (o l:List Str) (ho:o.length+l.length≤1000000000):b8 Tryz.prog 204 [oV o,cM l] [(710,oO o)] (oV (eA o l)) [(710,oO (eA o l))]:=by
 have q:(l.map bE).length=l.length:=η _;refine bM (n:=27) tok Tryz.func204 rfl rfl rfl ?_;refine sg rfl (aA (sg rfl (aF (aK (fun i:Nat=>mk [(0,oV (eA o (l.take i))),(1,cM l),(5,I .i64 i)] [(710,oO (eA o (l.take i)))]) (fun i=>i≤l.length) (fun i=>l.length-i) 0 (Ac _) sl ?_))));intro i hi;refine aA (sg rfl (aB rfl (fun hb=>?_) (fun hb=>?_)))
 ·have j:=ltD hb q;obtain⟨s,hs⟩:=aN j;have B:=aY bE hs;have c:eA o (l.take (i+1))=n5 (eA o (l.take i)) s:=by rw[A7,hs,oK];rfl
  have u:(eA o (l.take i)).length≤1000000000:=by
   have:=iR (l.take i) o;rw[Am] at this;omega
  have r:=aJf (eA o (l.take i)) s (by unfold Fits;omega);generalize eA o (l.take i)=m at c u r ⊢;have A:(m.map bE).length=m.length:=η _;refine aD (AWp.sub (Sub.freeze (id:=710) rfl) ?_);refine aA (aF (skh 5 [(3,.row i (bE s))] rfl (kc r ?_)));refine kz 1 rfl (aB rfl (fun hb=>?_) (fun hb=>?_))
  ·have hm:¬s∈m:=fun h=>by rw[φ h] at hb;cases hb
   unfold n5 at c;rw[ξ hm] at c;refine ag [(3,.row i (bE s))] rfl (ag [] rfl ⟨i+1,j,by dsimp only;omega,?_⟩);dsimp only;rw[c];exact sl
  ·have hm:s∈m:=by
    by_cases h:s∈m
    ·exact h
    ·rw[ψ h] at hb;cases hb
   unfold n5 at c;rw[θ hm] at c;refine aD (ag [] rfl ⟨i+1,j,by dsimp only;omega,?_⟩);dsimp only;rw[c];exact sl
 ·have y:=geD hb q hi;subst y;rw[Aq];exact aH (sg rfl (aE rtT))
structure Prd where
 cls:Str
 ty:Ty
def aM (p:Prd):List C:=[.str p.cls,.int .i64 p.ty.form,.int .i64 p.ty.n,.str p.ty.name,.sl 4 (cK p.ty)]
def nV:Str:=[44]
def darrow:Str:=[61,62]
def jK:Nat→Bool→List Tk→List Prd→Option (List Prd×List Tk)
 | 0,_,_,_=>none
 | _+1,_,[],_=>none
 | f+1,b,t::R,out=>
  if t.kind=2 then(match cX (3*R.length) (if b=true then 1 else 0) R with
   | .error _=>none
   | .ok (_,[])=>none
   | .ok (x,u::R2)=>if(b&&isT u nV)=true then jK f b R2 (out++[⟨t.text,x⟩]) else some (out++[⟨t.text,x⟩],u::R2))
  else none
abbrev PR:=Except PE (List Prd×List Tk)
def aC5 (at':Int) (R0:List Tk) (out:List Prd):List Tk→PR
 | []=>.ok ([],R0)
 | u::R=>if isT u darrow=true then(if 16<out.length then .error (2,at') else .ok (out,R)) else .ok ([],R0)
def brP (at':Int) (R0:List Tk) (b:Bool) (out:List Prd):List Tk→PR
 | []=>.ok ([],R0)
 | u::R=>if b=true then(if isT u nE=true then aC5 at' R0 out R else .ok ([],R0)) else aC5 at' R0 out (u::R)
def lK (at':Int) (R0:List Tk) (b:Bool):Option (List Prd×List Tk)→PR
 | none=>.ok ([],R0)
 | some (out,R1)=>brP at' R0 b out R1
def dA:List Tk→PR
 | []=>.ok ([],[])
 | t::R=>lK t.pl (t::R) (isT t c8) (jK ((t::R).length+1) (isT t c8) (if isT t c8=true then R else t::R) [])
structure POk (R:List Tk) (out:List Prd) (R':List Tk) (m:Nat):Prop where
 e:mZ R→mZ R'
 s:∃p,R=p++R'∧m≤p.length
 w:∀p∈out,WF p.ty∧tn p.ty≤wt R
 l:out.length≤R.length
theorem lX {p R:List Tk}:wt R≤wt (p++R):=by unfold wt;rw[Ai,List.sum_append];omega
theorem rY:∀(f:Nat) (b:Bool) (R:List Tk) (out:List Prd) (c:List Prd) (R':List Tk) (W n:Nat),wt R≤W→(∀p∈out,WF p.ty∧tn p.ty≤W)→out.length+R.length≤n→jK f b R out=some (c,R')→
  (mZ R→mZ R')∧(∃p,R=p++R'∧1≤p.length)∧(∀p∈c,WF p.ty∧tn p.ty≤W)∧c.length≤n
 | 0,_,_,_,_,_,_,_,_,_,_,h=>by rw[jK] at h;cases h
 | _+1,_,[],_,_,_,_,_,_,_,_,h=>by rw[jK] at h;cases h
 | f+1,b,t::R,out,c,R',W,n,A,ho,hn,h=>by
  rw[jK] at h;by_cases h2:t.kind=2
  ·rw[θ h2] at h;have hok:=gN (3*R.length) (if b=true then 1 else 0) R;generalize cX (3*R.length) (if b=true then 1 else 0) R=w at hok h;cases w with
   | error e=>cases h
   | ok y=>
    obtain⟨x,R1⟩:=y;obtain⟨⟨g1,⟨p,g2,g3⟩,g4⟩,g5⟩:=hok x R1 rfl;rw[fR] at A;rw[ε] at hn;have r:R1.length+1≤R.length:=by rw[g2,ζ];omega
    have j:∀q∈out++[(⟨t.text,x⟩:Prd)],WF q.ty∧tn q.ty≤W:=fun q hq=>by
     rcases Bi.1 hq with hq | hq
     ·exact ho q hq
     ·rw[A4.1 hq];exact⟨g4,by show tn x≤W;omega⟩
    cases R1 with
    | nil=>cases h
    | cons u R2=>
     dsimp only at h;split at h
     ·rename_i hc;rw[τ] at hc;have hu:=bU hc.2;rw[fR] at g5;rw[ε] at r;obtain⟨B,⟨q,E,M⟩,I,J⟩:=rY f b R2 (out++[⟨t.text,x⟩]) c R' W n (by omega) j (by rw[ζ,Bc];omega) h;exact⟨fun he=>B ((g1 (he.tail (by omega))).tail (by omega)),⟨t::(p++u::q),by rw[g2,E];simp,by simp⟩,I,J⟩
     ·cases h;exact⟨fun he=>g1 (he.tail (by omega)),⟨t::p,by rw[g2];rfl,by simp⟩,j,by rw[ζ,Bc];omega⟩
  ·rw[ξ h2] at h;cases h
theorem aK9 {a:Int}{R0 R1:List Tk}{out c:List Prd}{R':List Tk}(hs:(mZ R0→mZ R1)∧∃p,R0=p++R1) (ho:∀p∈out,WF p.ty∧tn p.ty≤wt R0) (hl:out.length≤R0.length) (h:aC5 a R0 out R1=.ok (c,R')):POk R0 c R' 0:=by
 have j:POk R0 [] R0 0:=⟨id,⟨[],rfl,le_refl _⟩,fun p hp=>by(cases hp),Ac _⟩
 cases R1 with
 | nil=>rw[aC5] at h;cases h;exact j
 | cons u R=>
  rw[aC5] at h;split at h
  ·rename_i hu;split at h
   ·cases h
   ·cases h;obtain⟨h1,p,h2⟩:=hs;exact⟨fun he=>(h1 he).tail (by rw[(bU hu).1];decide),⟨p++[u],by rw[h2];simp,Ac _⟩,ho,hl⟩
  ·cases h;exact j
theorem kG {R:List Tk}{out:List Prd}{R':List Tk}(h:dA R=.ok (out,R')):POk R out R' 0:=by
 have j:POk R [] R 0:=⟨id,⟨[],rfl,le_refl _⟩,fun p hp=>by(cases hp),Ac _⟩
 cases R with
 | nil=>rw[dA] at h;cases h;exact j
 | cons t R=>
  rw[dA] at h;have c:(mZ (t::R)→mZ (if isT t c8=true then R else t::R))∧(∃p,t::R=p++(if isT t c8=true then R else t::R)):=by
   by_cases hb:isT t c8=true
   ·rw[θ hb];exact⟨fun he=>he.tail (by rw[(bU hb).1];decide),[t],rfl⟩
   ·rw[ξ hb];exact⟨id,[],rfl⟩
  have hw:wt (if isT t c8=true then R else t::R)≤wt (t::R):=by
   split
   ·rw[fR];omega
   ·exact le_refl _
  have hlen:(if isT t c8=true then R else t::R).length≤(t::R).length:=by split<;>simp
  have hok:=rY ((t::R).length+1) (isT t c8) (if isT t c8=true then R else t::R) [];generalize (if isT t c8=true then R else t::R)=Q at c hw hlen hok h;generalize isT t c8=b at hok h;cases hp:jK ((t::R).length+1) b Q [] with
  | none=>rw[hp,lK] at h;cases h;exact j
  | some y=>
   obtain⟨E,R1⟩:=y;rw[hp,lK] at h;obtain⟨I,⟨q,J,Y⟩,A,B⟩:=hok E R1 (wt (t::R)) (t::R).length hw (fun p hp=>by cases hp) (by rw[length_nil];omega) hp;obtain⟨h1,p,h2⟩:=c;have r:(mZ (t::R)→mZ R1)∧∃p,t::R=p++R1:=⟨fun he=>I (h1 he),p++q,by rw[h2,J,As]⟩
   cases R1 with
   | nil=>rw[brP] at h;cases h;exact j
   | cons u R2=>
    rw[brP] at h;split at h
    ·split at h
     ·rename_i hu;obtain⟨M,O,U⟩:=r;exact aK9 ⟨fun he=>(M he).tail (by rw[(bU hu).1];decide),O++[u],by rw[U];simp⟩ A B h
     ·cases h;exact j
    ·exact aK9 r A B h
def prV (L:List Tk):PR→V
 | .ok (ps,R)=>.pa (uW zTy (.sl 5 (ps.map aM)) .nl ((L.length-R.length:Nat):Int) 0 0)
 | .error (e,p)=>.pa (uW zTy .nl .nl 0 e p)
theorem pM (L:List Tk) (ps:List Prd) (R:List Tk):prV L (.ok (ps,R))=.pa (uW zTy (.sl 5 (ps.map aM)) .nl ((L.length-R.length:Nat):Int) 0 0):=rfl
def nX (i:Int):List AM.R:=[.c (.int .i64 0),.c (.int .i64 0),.c (.str []),.c .nl,.c .nl,.c .nl,.c (.int .i64 i),.c (.int .i64 0),.c (.int .i64 0)]
noncomputable def aTc (c:Code):Code:=hJ (hJ (hJ (hJ (hJ (hJ (hJ (hJ (hJ c))))))))
theorem aAs (L:List Tk) (R:List Tk) (i:Nat) (hA:At L i R):b8 Tryz.prog 199 [nB L,I .i64 (i:Nat)] [] (prV L (dA R)) []:=by
 have hkl:(L.map aG).length=L.length:=η _;have hLl:=hA.l;have hti0:=hA.lt;have Y:L.length-R.length=i:=by omega
 obtain⟨t,R,rfl⟩:=hA.e.ne;have hti:=hA.get;have hti':=aY aG hti;have hIs:=vL t c8;refine bM (n:=100) tok Tryz.func199 rfl rfl rfl ?_;refine sg rfl (sg rfl (sg rfl (sg rfl (skh 4 [(2,.row i (aG t))] rfl (kc hIs ?_)))));refine kz 1 rfl ?_;rw[dA];have hQ:∃(Q:List Tk) (k:Nat) (o:Nat),Q=(if isT t c8=true then R else t::R)∧At L k Q∧(o=if isT t c8=true then 1 else 0)∧k=i+o∧Q.length≤(t::R).length:=by
  by_cases hb:isT t c8=true
  ·obtain⟨h1,_⟩:=hA.next (by rw[(bU hb).1];decide)
   exact⟨R,i+1,1,by rw[θ hb],h1,by rw[θ hb],rfl,by simp⟩
  ·exact⟨t::R,i,0,by rw[ξ hb],hA,by rw[ξ hb],rfl,le_refl _⟩
 obtain⟨Q,k,o,hQ,r,ho,hk,hQl⟩:=hQ;rw[←hQ];refine kQ (mk [(0,nB L),(1,I .i64 (i:Nat)),(4,.one (.vp 4 0)),(5,.one (.vp 5 0)),(6,I .i64 (o:Nat)),(7,I .i64 (k:Nat))] [(4,.var 208 zX),(5,.var 208 (nX i))]) ?_ ?_
 ·refine sg rfl (aB rfl (fun hb=>?_) (fun hb=>?_))
  ·rw[hb,θ rfl] at ho;subst ho hk;exact sg rfl (agN [] rfl (.inl ⟨rfl,sl⟩))
  ·rw[hb,ξ (by decide)] at ho;subst ho hk;exact aD (.inl ⟨rfl,sl⟩)
 clear hQ hIs;have q:o=if isT t c8=true then 1 else 0:=ho
 generalize isT t c8=b at q ⊢;clear ho;have c:∃W:PR,W=lK t.pl (t::R) b (jK ((t::R).length+1) b Q []):=⟨_,rfl⟩
 obtain⟨W,c⟩:=c;rw[←c];refine sg rfl (AWp.sub (Sub.own (t:=9) (id:=500) 113 5 rfl rfl) ?_);refine aA (aF (aK (fun p:Nat×Nat×List Prd×List Tk=>mk [(0,nB L),(1,I .i64 (i:Nat)),(4,.one (.vp 4 0)),(5,.one (.vp 5 0)),(6,I .i64 (o:Nat)),(7,I .i64 (p.1:Nat)),(9,.one (.hs 500 0 p.2.2.1.length p.2.2.1.length))] [(4,.var 208 zX),(5,.var 208 (nX i)),(500,.arr 113 5 (p.2.2.1.map aM) 0)]) (fun p=>At L p.1 p.2.2.2∧p.2.2.2.length+1≤p.2.1∧p.2.2.1.length+p.2.2.2.length≤4001∧W=lK t.pl (t::R) b (jK p.2.1 b p.2.2.2 p.2.2.1)) (fun p=>p.2.1) (k,(t::R).length+1,[],Q) ⟨r,by dsimp only;omega,by dsimp only;rw[length_nil];have:=r.lt;omega,c⟩ sl ?_));clear c r hQl hk;rintro⟨j,f,out,Q⟩ ⟨r,hf,hol,c⟩;dsimp only at r hf hol c ⊢;have hout:(out.map aM).length=out.length:=η _;obtain⟨f,rfl⟩:∃g,f=g+1:=⟨f-1,by omega⟩
 obtain⟨u,Q,rfl⟩:=r.e.ne;have huj:=r.get;have huj':=aY aG huj;have hjl:=r.lt;rw[ε] at hf hol hjl;rw[jK] at c;refine aF (aA (sgh [(2,.row j (aG u))] rfl ?_));by_cases h2:u.kind=2
 case neg=>
  rw[ξ h2,lK] at c;have d2:(!decide (u.kind=2))=true:=by rw[ψ h2];rfl
  rw[c,pM,Y];exact aB rfl (fun _=>sg rfl (aE (rtC trw))) (fun hb=>absurd (hb.symm.trans d2) (by decide))
 rw[θ h2] at c;have d2:(!decide (u.kind=2))=false:=by rw[φ h2];rfl
 refine aB rfl (fun hb=>absurd (hb.symm.trans d2) (by decide)) (fun _=>aD ?_);obtain⟨hA1,_⟩:=r.next (by omega)
 have hat:=(aC9 L (3*Q.length)).1 (3*Q.length) (le_refl _) o Q _ hA1 (le_refl _) (by rw[q];split<;>omega);rw[q] at hat;have hok:=gN (3*Q.length) (if b=true then 1 else 0) Q;have U:=dP (3*Q.length) (if b=true then 1 else 0) Q;rw[←q] at hat hok U c;refine aA (aC mixed (akN 4 [] rfl (kc hat ?_)));generalize cX (3*Q.length) o Q=w at hok U c ⊢;cases w with
 | error e=>
  obtain⟨e,p⟩:=e;have he:=U e p rfl;dsimp only at c;rw[c,lK,pM,Y];exact kz 2 rfl (aA (sg rfl (aB rfl (fun _=>sg rfl (aE (rtC trw))) (fun hb=>absurd hb (by simp[he])))))
 | ok y=>
 obtain⟨x,R1⟩:=y;obtain⟨hT,_⟩:=hok x R1 rfl;obtain⟨J,hle⟩:=hA1.ok hT;have hlen:=hT.len;obtain⟨v,R2,rfl⟩:=J.e.ne;rw[qO];dsimp only at c;have hvj:=J.get;have hvj':=aY aG hvj;have hv2:=J.lt;rw[ε] at hlen hv2;have hcm:=vL v nV;refine kz 2 rfl (aA (sg rfl (aB rfl (fun hb=>absurd hb (by decide)) (fun _=>aD (aA (agN [(3,.row j (aG u)),(9,.all)] rfl (sg rfl (skh 4 [(2,.row (L.length-(v::R2).length) (aG v))] rfl (kc hcm ?_)))))))));refine kz 1 rfl ?_;have E:out.map aM++[[.str u.text,.int .i64 x.form,.int .i64 x.n,.str x.name,.sl 4 (cK x)]]=(out++[(⟨u.text,x⟩:Prd)]).map aM:=by rw[Ai];rfl
 have M:((out++[(⟨u.text,x⟩:Prd)]).map aM).length=out.length+1:=by rw[η,ζ];rfl
 generalize hO:out++[(⟨u.text,x⟩:Prd)]=O at c E M;have aa:O.length=out.length+1:=by rw[←M,η]
 generalize L.length-(v::R2).length=k at *;have A:(bif decide ((o:Int)=0) then true else !isT v nV)= !(b&&isT v nV):=by
  cases b with
  | false=>rw[q];rfl
  | true=>rw[q];rfl
 refine aA (aA (agF 3 [] rfl rfl rfl ?_));by_cases hc:(b&&isT v nV)=true
 ·rw[θ hc] at c;rw[hc] at A;refine aB rfl (fun hb=>absurd (hb.symm.trans A) (by decide)) (fun _=>aD ?_);rw[τ] at hc;obtain⟨hA3,_⟩:=J.next (by rw[(bU hc.2).1];decide)
  exact agN [] rfl ⟨(k+1,f,O,R2),⟨hA3,by dsimp only;omega,by dsimp only;omega,c⟩,by dsimp only;omega,sl (he:=⟨rfl,rfl,rfl,rfl,rfl,rfl,Go.AM.hs_ren (by rw[aa,←hout];rfl) (by rw[aa,←hout];rfl),trivial⟩) (hh:=⟨⟨_,rfl,.var rfl⟩,⟨_,rfl,.var rfl⟩,⟨_,rfl,.arrS E⟩,trivial⟩)⟩
 rw[ξ hc,lK] at c;rw[B9 _ |>.mp hc] at A;refine aB rfl (fun _=>aH (AWp.sub (st2:=mk [(0,nB L),(1,I .i64 (i:Nat)),(4,.one (.vp 4 0)),(5,.one (.vp 5 0)),(6,I .i64 (o:Nat)),(7,I .i64 (k:Nat)),(9,.one (.hs 500 0 O.length O.length))] [(4,.var 208 zX),(5,.var 208 (nX i)),(500,.arr 113 5 (O.map aM) 0)]) (sl (he:=⟨rfl,rfl,rfl,rfl,rfl,rfl,Go.AM.hs_ren (by rw[aa,←hout];rfl) (by rw[aa,←hout];rfl),trivial⟩) (hh:=⟨⟨_,rfl,.var rfl⟩,⟨_,rfl,.var rfl⟩,⟨_,rfl,.arrS E⟩,trivial⟩)) ?_)) (fun hb=>absurd (hb.symm.trans A) (by decide));clear A hc E hO hcm hout M;rw[brP] at c;have hmid:∀(m:Nat) (Q:List Tk),At L m Q→W=aC5 t.pl (t::R) O Q→AWp none Tryz.prog 100 (keys ([]:List (Nat×AObj))) (aTc (Tryz.f199.body.getD .skip)) (mk [(0,nB L),(1,I .i64 (i:Nat)),(4,.one (.vp 4 0)),(5,.one (.vp 5 0)),(6,I .i64 (o:Nat)),(7,I .i64 (m:Nat)),(9,.one (.hs 500 0 O.length O.length))] [(4,.var 208 zX),(5,.var 208 (nX i)),(500,.arr 113 5 (O.map aM) 0)]) (fun ex st=>(ex=.normal∨ex=.ret)∧Fin tr.flat Tryz.f199 st [] (prV L W) []):=by
  intro m Q ab B;obtain⟨y,Q,rfl⟩:=ab.e.ne;have hyj:=ab.get;have hyj':=aY aG hyj;have hda:=vL y darrow;have hB:=aAt t 2;have hml:=ab.lt;rw[aC5] at B;refine skh 4 [(2,.row m (aG y))] rfl (kc hda ?_);refine kz 1 rfl (aA (sg rfl ?_));cases hd:isT y darrow with
  | false=>
   rw[hd,ξ (by decide)] at B;rw[B,pM,Y];refine aB rfl (fun _=>sg rfl (AWp.sub (Sub.freeze (id:=500) rfl) ?_)) (fun hb=>absurd hb (by decide));exact aE (rtC trw)
  | true=>
   rw[hd,θ rfl] at B;obtain⟨_,hn⟩:=ab.next (by rw[(bU hd).1];decide)
   refine aB rfl (fun hb=>absurd hb (by decide)) (fun _=>aD (aA (sg rfl (aB rfl (fun hb=>?_) (fun hb=>?_)))))
   ·rw[θ (by have:=χ hb;omega)] at B;rw[B];refine skh 4 [(2,.row i (aG t))] rfl (kc hB ?_);refine kz 1 rfl (AWp.sub (Sub.freeze (id:=500) rfl) ?_);exact aE (rtC trw)
   ·rw[ξ (by have:=Ad hb;omega)] at B;rw[B,pM,hn];refine aD (aA (agN [] rfl (AWp.sub (Sub.freeze (id:=500) rfl) ?_)));exact aE (rtC trw)
 cases b with
 | false=>
  rw[ξ (by decide)] at q c;subst q;refine aA (AWp.cut (mk [(0,nB L),(1,I .i64 (i:Nat)),(4,.one (.vp 4 0)),(5,.one (.vp 5 0)),(6,I .i64 ((0:Nat):Int)),(7,I .i64 (k:Nat)),(9,.one (.hs 500 0 O.length O.length))] [(4,.var 208 zX),(5,.var 208 (nX i)),(500,.arr 113 5 (O.map aM) 0)]) ?_ (hmid k (v::R2) J c));exact sg rfl (aB rfl (fun hb=>absurd hb (by decide)) (fun _=>aD sl))
 | true=>
  rw[θ rfl] at q c;subst q;have hrp:=vL v nE;by_cases hr:isT v nE=true
  ·rw[θ hr] at c;obtain⟨hA3,_⟩:=J.next (by rw[(bU hr).1];decide)
   refine aA (AWp.cut (mk [(0,nB L),(1,I .i64 (i:Nat)),(4,.one (.vp 4 0)),(5,.one (.vp 5 0)),(6,I .i64 ((1:Nat):Int)),(7,I .i64 ((k+1:Nat):Int)),(9,.one (.hs 500 0 O.length O.length))] [(4,.var 208 zX),(5,.var 208 (nX i)),(500,.arr 113 5 (O.map aM) 0)]) ?_ (hmid (k+1) R2 hA3 c));refine sg rfl (aB rfl (fun _=>skh 4 [(2,.row k (aG v))] rfl (kc hrp ?_)) (fun hb=>absurd hb (by decide)));refine kz 1 rfl ?_;rw[hr];exact aA (sg rfl (aB rfl (fun hb=>absurd hb (by decide)) (fun _=>aD (agN [] rfl sl))))
  ·rw[ξ hr] at c;rw[c,pM,Y];refine aA (sg rfl (aB rfl (fun _=>skh 4 [(2,.row k (aG v))] rfl (kc hrp ?_)) (fun hb=>absurd hb (by decide))));refine kz 1 rfl ?_;rw[B9 _ |>.mp hr];refine aA (sg rfl (aB rfl (fun _=>sg rfl (AWp.sub (Sub.freeze (id:=500) rfl) ?_)) (fun hb=>absurd hb (by decide))));exact aE (rtC trw)
structure Sch where
 vars:List Str
 preds:List Prd
 ty:Ty
def gP (o:List Str) (ps:List Prd):List Str:=ps.foldl (fun o p=>eA o (tfR p.ty)) o
def aN0 (ps:List Prd) (x:Ty):List Str:=eA (gP [] ps) (tfR x)
abbrev SR:=Except PE (Sch×List Tk)
def pE (ps:List Prd):TR→SR
 | .error e=>.error e
 | .ok (x,R)=>.ok (⟨aN0 ps x,ps,x⟩,R)
def pF:PR→SR
 | .error e=>.error e
 | .ok (ps,R)=>pE ps (cD (3*R.length+2) 0 R)
def cW (R:List Tk):SR:=pF (dA R)
theorem xC (o:List Str) (ps:List Prd) (p:Prd):gP o (ps++[p])=eA (gP o ps) (tfR p.ty):=by unfold gP;rw[foldl_append];rfl
theorem xB {ps:List Prd}{i:Nat}{p:Prd}(h:ps[i]?=some p):gP [] (ps.take (i+1))=eA (gP [] (ps.take i)) (tfR p.ty):=by rw[A7,h];exact xC _ _ _
theorem uO {W:Nat}:∀(ps:List Prd) (o:List Str),(∀p∈ps,tn p.ty≤W)→(gP o ps).length≤o.length+ps.length*W
 | [],o,_=>by show o.length≤_;omega
 | p::ps,o,h=>by
  have h1:=uO ps (eA o (tfR p.ty)) fun q hq=>h q (Ba _ hq)
  have h2:=iR (tfR p.ty) o;have c:=lY p.ty;have j:=h p Bq;show(gP (eA o (tfR p.ty)) ps).length≤_;rw[ε,A2];omega
def scV (L:List Tk):SR→V
 | .ok (s,R)=>.pa (uW s.ty (.sl 5 (s.preds.map aM)) (.sl 1 (s.vars.map bE)) ((L.length-R.length:Nat):Int) 0 0)
 | .error (e,p)=>.pa (uW zTy .nl .nl 0 e p)
theorem aKh (L:List Tk) (s:Sch) (R:List Tk):scV L (.ok (s,R))=.pa (uW s.ty (.sl 5 (s.preds.map aM)) (.sl 1 (s.vars.map bE)) ((L.length-R.length:Nat):Int) 0 0):=rfl
theorem aA1 {a:Int}{R0 R1:List Tk}{out:List Prd}{e p:Int}(h:aC5 a R0 out R1=.error (e,p)):¬e=0:=by
 cases R1 with
 | nil=>rw[aC5] at h;cases h
 | cons u R=>
  rw[aC5] at h;split at h
  ·split at h
   ·cases h;decide
   ·cases h
  ·cases h
theorem fV {R:List Tk}{e p:Int}(h:dA R=.error (e,p)):¬e=0:=by
 cases R with
 | nil=>rw[dA] at h;cases h
 | cons t R=>
  rw[dA] at h;cases hp:jK ((t::R).length+1) (isT t c8) (if isT t c8=true then R else t::R) [] with
  | none=>rw[hp,lK] at h;cases h
  | some y=>
   obtain⟨c,R1⟩:=y;rw[hp,lK] at h;cases R1 with
   | nil=>rw[brP] at h;cases h
   | cons u R2=>
    rw[brP] at h;split at h
    ·split at h
     ·exact aA1 h
     ·cases h
    ·exact aA1 h
theorem pD {R:List Tk}{e p:Int}(h:cW R=.error (e,p)):¬e=0:=by
 unfold cW at h;cases hp:dA R with
 | error e'=>rw[hp,pF] at h;cases h;exact fV hp
 | ok y=>
  obtain⟨ps,R1⟩:=y;rw[hp,pF] at h;cases hw:cD (3*R1.length+2) 0 R1 with
  | error e'=>rw[hw,pE] at h;cases h;exact dJ _ _ _ _ _ hw
  | ok y=>obtain⟨x,R2⟩:=y;rw[hw,pE] at h;cases h
theorem aGb (L:List Tk) (R:List Tk) (i:Nat) (u:At L i R) (hwt:wt L≤30000):b8 Tryz.prog 169 [nB L,I .i64 (i:Nat)] [] (scV L (cW R)) []:=by
 have hp:=aAs L R i u;have E:= @kG R;have J:= @fV R;unfold cW;refine bM (n:=54) tok Tryz.func169 rfl rfl rfl ?_;refine sg rfl (sk 2 rfl (kc hp ?_));generalize dA R=w at E J ⊢;cases w with
 | error e=>
  obtain⟨e,p⟩:=e;have he:=J rfl;rw[pF];exact kz 2 rfl (aA (sg rfl (aB rfl (fun _=>sg rfl (aE (rtC trw))) (fun hb=>absurd hb (by simp[he])))))
 | ok y=>
 obtain⟨ps,R1⟩:=y;obtain⟨k1,⟨q,k2,_⟩,k3,k4⟩:=E rfl;obtain⟨M,hn1⟩:=u.to k2 (k1 u.e);rw[pM,pF,hn1];generalize i+q.length=j at M;have hty:=(aC9 L (3*R1.length+2)).2 (3*R1.length+2) (le_refl _) 0 R1 j M (le_refl _) (by decide);have O:=eS (3*R1.length+2) 0 R1;have U:=dJ (3*R1.length+2) 0 R1;have hwR:∀{p Q:List Tk},wt Q≤wt (p++Q):=lX;have A:wt R≤30000:=by
  have:L=L.take i++R:=by rw[←u.d,take_append_drop]
  rw[this] at hwt;exact le_trans lX hwt
 have hwtR1:wt R1≤30000:=by rw[k2] at A;exact le_trans lX A
 have hRl:=u.lt;have hLl:=u.l;refine kz 2 rfl (aA (sg rfl (aB rfl (fun hb=>absurd hb (by decide)) (fun _=>aD (sk 3 rfl (kc hty ?_))))));generalize cD (3*R1.length+2) 0 R1=w at O U ⊢;cases w with
 | error e=>
  obtain⟨e,p⟩:=e;have he:=U e p rfl;rw[pE];exact kz 2 rfl (aA (sg rfl (aB rfl (fun _=>sg rfl (aE (rtC trw))) (fun hb=>absurd hb (by simp[he])))))
 | ok y=>
 obtain⟨x,R2⟩:=y;obtain⟨hT,hTn⟩:=O x R2 rfl;rw[qO,pE,aKh];dsimp only;generalize ((L.length-R2.length:Nat):Int)=m;have Y:(ps.map aM).length=ps.length:=η _;refine kz 2 rfl (aA (sg rfl (aB rfl (fun hb=>absurd hb (by decide)) (fun _=>aD (sg rfl (aA (sg rfl (AWp.sub (Sub.ownCell (x:=6) (k:=5) (id:=710) 9 1 rfl rfl rfl) ?_))))))));refine aF (aK (fun k:Nat=>mk [(4,.one (.vp 4 0)),(5,.one (.vp 5 0)),(6,.one (.vp 6 0)),(7,I .i64 (k:Nat))] [(4,.var 208 zX),(5,.var 208 ((uW zTy (.sl 5 (ps.map aM)) .nl (j:Nat) 0 0).map .c)),(6,.var 208 [.c (.int .i64 x.form),.c (.int .i64 x.n),.c (.str x.name),.c (.sl 4 (cK x)),.c (.sl 5 (ps.map aM)),.hs 710 0 (gP [] (ps.take k)).length (gP [] (ps.take k)).length,.c (.int .i64 m),.c (.int .i64 0),.c (.int .i64 0)]),(710,oO (gP [] (ps.take k)))]) (fun k=>k≤ps.length) (fun k=>ps.length-k) 0 (Ac _) sl ?_);intro k hk;refine aA (sg rfl ?_);have hgl:(gP [] (ps.take k)).length≤4001*30000:=by
  have h1:=uO (W:=30000) (ps.take k) [] (fun p hp=>by have:=(k3 p (Cq hp)).2;omega);rw[Am,length_nil] at h1;have:min k ps.length*30000≤4001*30000:=Ar _ (by omega);omega
 refine aB rfl (fun hb=>?_) (fun hb=>?_)
 ·have aa:=ltD hb Y;obtain⟨p,hp⟩:=aN aa;have hp':=aY aM hp;have hpm:=k3 p (Ag hp);have B:=aGd p.ty hpm.1 (by omega);have htf:=lY p.ty;have r:=aFp (gP [] (ps.take k)) (tfR p.ty) (by omega);rw[←xB hp] at r;refine aD (aA (aF (aC mixed (ak 8 [(5,.row k (aM p))] rfl (kc B ?_)))));refine kc r ?_;exact kz 2 rfl (ag [] rfl ⟨k+1,aa,by dsimp only;omega,sl⟩)
 ·have hge:=geD hb Y hk;subst hge;rw[Aq] at hgl ⊢;have B:=aGd x hT.w (by omega);have htf:=lY x;have r:=aFp (gP [] ps) (tfR x) (by omega);have hsv:aN0 ps x=eA (gP [] ps) (tfR x):=rfl;rw[hsv];refine aH (sk 4 rfl (kc B ?_));refine kc r ?_;refine kz 2 rfl (sg rfl (AWp.sub (Sub.freeze (id:=710) rfl) ?_));exact aE (rtC trw)
end Go.Proofs.YtpmheldmadendaaGreatDoor
