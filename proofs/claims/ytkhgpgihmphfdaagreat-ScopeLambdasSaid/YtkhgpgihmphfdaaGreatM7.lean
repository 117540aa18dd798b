/-
  Texts Rd8 to Rd16 in one.
-/
import Derived.Test.YtkhgpgihmphfdaaGreatM6
import Derived.ControlIn
open List (append_assoc cons_append drop_drop drop_eq_getElem_cons drop_length drop_zero foldl_append length_append length_cons length_drop length_map length_nil length_pos_iff length_singleton length_take map_append map_cons mem_append mem_cons mem_cons_of_mem mem_cons_self mem_of_mem_take mem_singleton nil_append not_mem_nil take_add_one take_length take_of_length_le take_succ_cons take_zero)
open Nat (le_refl le_trans lt_irrefl min_eq_left mul_le_mul_right zero_le)
namespace Go.AM
open Go
section
variable {fn:Func}{st:St}{hin hout:List (Nat×AObj)}{res res2 res3:V}
theorem aRa {tr:Tr}{a t u:Nat}{i:TI}{id off tv:Nat}{cells:List R}{v v2:V}{ids g:List Nat}(hw:tr.wf=true) (y:fn.results.toList=[.tmp u,.cell a t]:=by rfl) (hi:tr.get t=some i:=by rfl) (ha:st.e a=some (.one (.vp id off)):=by rfl) (hh:st.h id=some (.var tv cells):=by rfl) (hb:Nat.ble (off+i.size) cells.length=true:=by rfl) (A:iU i ((cells.drop off).take i.size)=some v:=by rfl) (hu:st.e u=some v2:=by rfl)
  (hc:Conv st.h ids v res2:=by first | exact .refl | exact .one (.c .nl .nil) | ((first | apply Go.AM.Conv.pa | apply Go.AM.Conv.agg);repeat (first | exact .nil | apply Go.AM.PureL.c .refl | apply Go.AM.PureL.c .nl | (apply Go.AM.PureL.hs;rfl;(first | rfl | assumption | simp);(first | rfl | exact Go.AM.take_all (by first | assumption | rfl | (simp;done)) | exact Go.AM.take_map.symm)))))
  (q:Conv st.h g v2 res:=by exact .refl)
  (ho:eF (fun p=>∃o,st.h p.1=some o∧Ole (fun i=>i) o p.2) hout:=by repeat (first | exact trivial | refine⟨⟨_,rfl,by first | exact Go.AM.Ole.arr | exact Go.AM.Ole.var rfl | exact Go.AM.Ole.varS rfl⟩,?_⟩))
  (hok:(subset (V.tup [res,res2]).refs (keys hout)&&subset (eG hout) (keys hout)&&distinct (keys hout)&&subset (keys hin) (keys hout)&&(hin.all fun p=>p.2.plain)&&(hout.all fun p=>p.2.plain))=true:=by rfl):(Exit.ret=.normal∨Exit.ret=.ret)∧Fin tr.flat fn st hin (.tup [res,res2]) hout:=
 ⟨.inr rfl,⟨[v2,v],[res,res2],by rw[y];exact .tmp hu (.cell ha (Tr.get_ok hw hi) hh hb A .nil),.cons q (.cons hc .nil),rfl⟩,ho,hok⟩
end
end Go.AM
namespace Go.Proofs.YtkhgpgihmphfdaaGreat
open Go Go.AM
set_option maxRecDepth 20000
set_option maxHeartbeats 4000000
abbrev LE:=Except (Int×Int) (List Tk)
def sX (t:Tk):LE→LE
 | .ok l=>.ok (t::l)
 | .error e=>.error e
def jJ:Nat→Nat→Str→LE
 | 0,at',_=>.ok [⟨6,[],0,at'⟩]
 | _+1,at',[]=>.ok [⟨6,[],0,at'⟩]
 | f+1,at',c::r=>
  if 0<eL (c::r) then jJ f (at'+eL (c::r)) ((c::r).drop (eL (c::r)))
  else match gG (c::r) with
   | .error e=>.error (e,at')
   | .ok (k,t,v)=>sX ⟨k,t,v,at'⟩ (jJ f (at'+t.length) ((c::r).drop t.length))
def nA (s:Str):LE:=if 4000<s.length then .error (2,0) else jJ s.length 0 s
def aRc (out:List Tk):LE→LE
 | .ok l=>.ok (out++l)
 | .error e=>.error e
theorem uQ (out:List Tk) (t:Tk) (r:LE):aRc out (sX t r)=aRc (out++[t]) r:=by
 cases r with
 | ok l=>show Except.ok _=Except.ok _;simp
 | error e=>rfl
def atV (e p:Int):V:=.pa [.int .i64 e,.int .i64 p]
def aDs:LE→V
 | .ok l=>.tup [.one (.c (.sl 4 (l.map aI))),atV 0 0]
 | .error (e,p)=>.tup [.one (.c .nl),atV e p]
theorem wJ (s:Str):eL s≤s.length:=by
 unfold eL;cases s with
 | nil=>exact le_refl _
 | cons c r=>
  dsimp only;split
  ·rw[Aa];omega
  ·split
   ·rename_i h;have hp:2≤(c::r).length:=by
     unfold preB at h;rw[ε] at h;exact κ h.1
    have:=fK neB ((c::r).drop 2);rw[Bf] at this;omega
   ·exact Ad _
theorem aN1 (s:Str) (h:¬n0 s=[]):1≤(n0 s).length∧(n0 s).length≤s.length:=by
 refine⟨length_pos_iff.2 h,?_⟩;unfold n0 at h ⊢;cases g:qB.find? fun x=>preB x s with
 | none=>rw[g] at h;exact absurd rfl h
 | some x=>
  have:=List.find?_some g;unfold preB at this;rw[ε] at this;exact κ this.1
theorem kM {c:UInt8}{r:Str}{k:Int}{t:Str}{v:Int}(h:gG (c::r)=.ok (k,t,v)):1≤t.length∧t.length≤(c::r).length:=by
 have h1:∀p:Nat→Bool,p c.toNat=true→1≤((c::r).take (cD p (c::r))).length∧((c::r).take (cD p (c::r))).length≤(c::r).length:=fun p hp=>by
  have:=fK p (c::r);rw[Aj];rw[cD,θ hp] at this ⊢;rw[Aa] at this ⊢;omega
 rw[gG] at h;by_cases g:dgB c.toNat=true
 ·rw[θ g] at h;split at h
  ·cases h
  ·cases h;exact h1 _ g
 rw[ξ g] at h;by_cases hn:wiB c.toNat 97 122=true∨wiB c.toNat 65 90=true
 ·rw[θ hn] at h;have hs:sgB c.toNat=true:=by
   rcases hn with h | h
   ·have:=aEg c.toNat;rw[h] at this;simpa using this
   ·have:=aEf c.toNat;rw[h] at this;simpa using this
  unfold m8 at h;split at h
  ·cases h
  split at h
  ·cases h;exact h1 _ hs
  split at h
  ·cases h;exact h1 _ hs
  ·cases h;exact h1 _ hs
 rw[ξ hn] at h;split at h
 ·cases h
 ·rename_i hy;cases h;exact aN1 _ hy
theorem s9 {c:UInt8}{r:Str}{e:Int}(h:gG (c::r)=.error e):¬e=0:=by
 rw[gG] at h;split at h
 ·split at h
  ·cases h;decide
  ·cases h
 split at h
 ·unfold m8 at h;split at h
  ·cases h;decide
  split at h
  ·cases h
  split at h<;>cases h
 split at h
 ·cases h;decide
 ·cases h
theorem aUc (S:Str):aV Tryz.prog 35 [Go.AM.T S] [] (aDs (nA S)) []:=by
 refine bF (n:=56) tok Tryz.func35 rfl rfl rfl ?_;refine sg rfl (aA (sg rfl (aB rfl (fun hb=>?_) (fun hb=>?_))))
 ·unfold nA;rw[θ (by have:=κ hb;omega)];exact sg rfl (aF (aRa trw))
 have hl:S.length≤4000:=by have:=Ae hb;omega
 have hA:nA S=aRc [] (jJ S.length 0 (S.drop 0)):=by
  unfold nA;rw[ξ (by omega),B0];cases jJ S.length 0 S<;>rfl
 refine aD (sg rfl (sg rfl (AWp.sub (Sub.own (t:=4) (id:=500) 85 4 rfl rfl) ?_)));refine aA (aE (aL (fun p:Nat×Nat×List Tk=>mk [(0,Go.AM.T S),(3,.one (.vp 3 0)),(4,.one (.hs 500 0 p.2.2.length p.2.2.length)),(5,I .i64 p.1)] [(3,.var 38 [.c (.int .i64 0),.c (.int .i64 0)]),(500,.arr 85 4 (p.2.2.map aI) 0)]) (fun p=>p.1≤S.length∧S.length-p.1≤p.2.1∧p.2.2.length+(S.length-p.1)≤S.length∧nA S=aRc p.2.2 (jJ p.2.1 p.1 (S.drop p.1))) (fun p=>p.2.1) (0,S.length,[]) ⟨Ad _,by dsimp only;omega,by dsimp only;simp,hA⟩ sl ?_));rintro⟨i,f,out⟩ ⟨hi,hf,E,q⟩;dsimp only at hi hf E q ⊢;have hout:(out.map aI).length=out.length:=χ _;refine aA (sg rfl (aB rfl (fun hb=>?_) (fun hb=>?_)))
 ·have hlt:i<S.length:=by have:=κ hb;omega
  obtain⟨g,rfl⟩:∃g,f=g+1:=⟨f-1,by omega⟩
  obtain⟨c,r,y⟩:∃c r,S.drop i=c::r:=by
   cases h:S.drop i with
   | nil=>
    have:=congrArg List.length h;rw[Bf,length_nil] at this;omega
   | cons c r=>exact⟨c,r,rfl⟩
  have J:(c::r).length=S.length-i:=by rw[←y,Bf]
  rw[Aa] at J;have M:=aQa c r (by omega);have O:=aTn c r (by omega);have U:=wJ (c::r);have Y:= @kM c r;have aa:= @s9 c r;rw[y,jJ] at q;refine aD (aE (sk 3 rfl ?_));rw[y];refine kc M ?_;refine kz 1 rfl ?_;have B:∀m:Nat,(c::r).drop m=S.drop (i+m):=fun m=>by rw[←y,Co]
  rw[Aa] at U;refine aA (sg rfl (aB rfl (fun hb=>?_) (fun hb=>?_)))
  ·have A:0<eL (c::r):=by have:=κ hb;omega
   rw[θ A,B] at q;generalize eL (c::r)=m at *;exact aA (agN [] rfl (aG ⟨(i+m,g,out),⟨by dsimp only;omega,by dsimp only;omega,by dsimp only;omega,q⟩,by dsimp only;omega,sl⟩))
  ·have A:¬0<eL (c::r):=by have:=Ae hb;omega
   rw[ξ A] at q;refine aD (sk 3 rfl ?_);rw[y];refine kc O ?_;generalize gG (c::r)=o at *;cases o with
   | error e=>
    dsimp only at q;have he:=aa rfl;rw[q];exact kz 6 rfl (aA (sg rfl (aB rfl (fun _=>sg rfl (aF (aRa trw))) (fun hb=>absurd hb (by simp[he])))))
   | ok p=>
    obtain⟨k,t,v⟩:=p;dsimp only at q;obtain⟨ht1,ab⟩:=Y rfl;rw[Aa] at ab;rw[uQ,B] at q;refine kz 6 rfl (aA (sg rfl (aB rfl (fun hb=>absurd hb (by decide)) (fun _=>aD (sg rfl (sgh [(1,.all),(2,.all)] rfl (agN [] rfl ?_)))))));have u:out.map aI++[[.int .i64 k,.str t,.int .i64 v,.int .i64 (i:Int)]]=(out++[(⟨k,t,v,i⟩:Tk)]).map aI:=by simp[aI]
    exact⟨(i+t.length,g,out++[⟨k,t,v,i⟩]),⟨by dsimp only;omega,by dsimp only;omega,by dsimp only;rw[η,Bj];omega,q⟩,by dsimp only;omega,sl (he:=⟨rfl,rfl,Go.AM.hs_ren (by simp) (by simp),rfl,trivial⟩) (hh:=⟨⟨_,rfl,.var rfl⟩,⟨_,rfl,.arrS u⟩,trivial⟩)⟩
 ·have e:i=S.length:=by have:=Ae hb;omega
  have hE:jJ f i (S.drop i)=.ok [⟨6,[],0,i⟩]:=by
   rw[e,Ct];cases f<;>rfl
  rw[hE] at q;rw[q];have u:out.map aI++[[.int .i64 6,.str [],.int .i64 0,.int .i64 (i:Int)]]=(out++[(⟨6,[],0,i⟩:Tk)]).map aI:=by simp[aI]
  refine aG (sgh [(4,.all)] rfl ?_);subst e;show AWp _ _ _ _ _ _ (fun ex st=>(ex=.normal∨ex=.ret)∧Fin _ _ st _ (aDs (.ok (out++[⟨6,[],0,(S.length:Int)⟩]))) _);unfold aDs;dsimp only;rw[←u];refine AWp.sub (Sub.freeze (id:=500) rfl) (AWp.sub (cv 2 (out.map aI++[[.int .i64 6,.str [],.int .i64 0,.int .i64 (S.length:Int)]])) ?_);exact aF (aRa trw)
end Go.Proofs.YtkhgpgihmphfdaaGreat
namespace Go.Proofs.YtkhgpgihmphfdaaGreat
open Go Go.AM
set_option maxRecDepth 20000
def yA (n:Int):List C:=[.int .i64 n]
def qA (a b:Ty):Ty:=.mk 4 0 [] [a,b]
def arrow:Str:=[45,62]
def aIn (a b:Ty):Ty:=qA (qA (.mk 3 0 arrow []) a) b
theorem aUa (a b:Ty):aV Tryz.prog 204 [.pa (cF a),.pa (cF b)] [] (.pa (cF (qA a b))) []:=by
 obtain⟨f,n,s,l⟩:=a;obtain⟨g,q,u,l'⟩:=b;refine bF (n:=9) tok Tryz.func204 rfl rfl rfl ?_;refine sg rfl (sg rfl (AWp.sub (Sub.freeze (id:=7) rfl) (aF ?_)));exact⟨.inr rfl,⟨_,_,.cell rfl (tg rfl) rfl rfl rfl .nil,.cons (.agg (.c .refl (.c .refl (.c .refl (.hs rfl rfl rfl .nil))))) .nil,rfl⟩,trivial,rfl⟩
theorem aWi (a b:Ty):aV Tryz.prog 176 [.pa (cF a),.pa (cF b)] [] (.pa (cF (aIn a b))) []:=by
 obtain⟨f,n,s,l⟩:=a;obtain⟨g,q,u,l'⟩:=b;refine bF (n:=10) tok Tryz.func176 rfl rfl rfl ?_;refine sg rfl (sk 2 rfl (kc (aUa (.mk 3 0 arrow []) (.mk f n s l)) ?_));refine ak 1 [] rfl (kc (aUa (qA (.mk 3 0 arrow []) (.mk f n s l)) (.mk g q u l')) ?_);exact kz 1 rfl (aF ⟨.inr rfl,⟨_,_,.cell rfl (tg rfl) rfl rfl rfl .nil,.cons .refl .nil,rfl⟩,trivial,rfl⟩)
def aQ2 (l:List Int):Prop:=∀x∈l,i64 x
def tyV (t:Ty):V:=.pa (cF t)
def zTy:Ty:=.mk 0 0 [] []
theorem aTv (l:List Int) (k:Nat) (g:Fits l) (u:k≤1000):aV Tryz.prog 46 [.one (.c (.sl 1 (l.map yA))),I .i64 k] [] (.one (.c (.sl 1 ((l.take k).map yA)))) []:=by
 unfold Fits at g;refine bF (n:=14) tok Tryz.func46 rfl rfl rfl ?_;refine sg rfl (sg rfl (sk 6 rfl ?_));have hm:(if(k:Int)<(((l.map yA).length:Nat):Int) then(k:Int) else(((l.map yA).length:Nat):Int))=((min l.length k:Nat):Int):=by
  rw[χ];split<;>omega
 rw[hm];have q:(l.map yA).take (min l.length k)=(l.take k).map yA:=by
  rw[←List.map_take];congr 1;by_cases h:k≤l.length
  ·rw[Nat.min_eq_right h]
  ·rw[Cv (by omega),Aw (le_refl _),Aw (by omega)]
 have hl:((l.map yA).take (min l.length k)).length≤1000:=by rw[Aj];omega
 refine akN 3 [] rfl (az (AWp.sub (Sub.freeze (id:=13) rfl) (aF ?_))) (hc:=⟨by omega,by rw[χ];omega,by omega,trivial⟩);rw[←q];exact⟨.inr rfl,⟨_,_,.tmp rfl .nil,.cons (.one (.hs rfl rfl (by rw[B0,Ao]) .nil)) .nil,rfl⟩,trivial,rfl⟩
theorem dF {α:Type}{l:List α}{k:Nat}{x:α}(h:l[k]?=some x):l.take (k+1)=l.take k++[x]:=by rw[Bg,h];rfl
def bJ (l:List Str):V:=.one (.c (.sl 1 (l.map aX)))
theorem lD (l:List (List C)) (h:l.length≤600000000000):aV Tryz.prog 48 [.one (.c (.sl 1 l))] [] (.one (.hs 710 0 l.length l.length)) [(710,.arr 9 1 l 0)]:=by
 refine bF (n:=8) tok Tryz.func48 rfl rfl rfl ?_;refine sg rfl (aH7 0 rfl (fun hl=>?_) ?_)
 ·subst hl;refine aA (sg rfl (aB rfl (fun _=>sg rfl (AWp.sub (Sub.own (t:=2) (id:=710) 9 1 rfl rfl) ?_)) nofun));exact aF rtT
 ·refine aA (sg rfl (aB rfl nofun (fun _=>aD (sgh [(0,.id 710)] rfl (AWp.sub (st2:=mk [(2,.one (.hs 710 0 l.length l.length))] [(710,.arr 9 1 l 0)]) sl ?_)))));exact aF rtT
def y8 (s:Str):List Str→Int→Int
 | [],_=> -1
 | x::l,k=>if s=x then k else y8 s l (k+1)
theorem sO (s:Str):∀(l:List Str) (k:Int),0≤k→(decide (0≤y8 s l k)=decide (s∈l))
 | [],k,_=>by simp[y8]
 | x::l,k,g=>by
  rw[y8];split
  ·rename_i h;subst h;simp[g]
  ·rename_i h;rw[sO s l (k+1) (by omega)];simp[h]
theorem aP2 (l:List Str) (s:Str) (h:l.length≤600000000000):aV Tryz.prog 51 [bJ l,Go.AM.T s] [] (I .i64 (y8 s l 0)) []:=by
 refine bF (n:=19) tok Tryz.func51 rfl rfl rfl ?_;refine sg rfl (aA (sg rfl ?_));have q:(l.map aX).length=l.length:=χ _;refine aE (aL (fun i:Nat=>mk [(0,bJ l),(1,Go.AM.T s),(7,I .i64 ((l.map aX).length:Int)),(8,I .i64 i)] []) (fun i=>i≤l.length∧y8 s l 0=y8 s (l.drop i) i) (fun i=>l.length-i) 0 ⟨Ad _,rfl⟩ sl ?_);intro i ⟨hi,he⟩;refine sg rfl (aA (aB rfl (fun hb=>?_) (fun hb=>?_)))
 ·have g:=ltD hb q;obtain⟨x,hx⟩:=aM g;have A:=bB aX hx;have y:l.drop i=x::l.drop (i+1):=by rw[A7 g,(Af.1 hx).2]
  rw[y,y8] at he;refine aD (aA (aE (sg rfl (sgh [(3,.row i (aX x))] rfl (aB rfl (fun hb=>?_) (fun hb=>?_))))))
  ·have hs:s=x:=κ hb;rw[θ hs] at he;rw[he];exact sg rfl (aF rtT)
  ·have hs:¬s=x:=Ae hb;rw[ξ hs] at he;exact aD (ag [] rfl ⟨i+1,⟨g,he⟩,by dsimp only;omega,sl⟩)
 ·have u:=geD hb q hi;subst u;rw[Ct,y8] at he;rw[he];exact aG (sg rfl (aF rtT))
theorem eX (l:List Str) (s:Str) (h:l.length≤600000000000):aV Tryz.prog 29 [bJ l,Go.AM.T s] [] (B (decide (s∈l))) []:=by
 have hi:=aP2 l s h;refine bF (n:=9) tok Tryz.func29 rfl rfl rfl ?_;refine sg rfl (sgh [(2,.pc (I .i64 (y8 s l 0)))] rfl ?_);rw[←sO s l 0 (by omega)];exact aF rtT
theorem pS (a b:List Str) (h:a.length≤600000000000):aV Tryz.prog 9 [bJ a,bJ b] [] (B (decide (a=b))) []:=by
 refine bF (n:=26) tok Tryz.func9 rfl rfl rfl ?_;refine sg rfl (aA (sg rfl (aB rfl (fun hb=>?_) (fun hb=>?_))))
 ·have g:¬a=b:=by
   rintro rfl;simp at hb
  refine sg rfl ?_;rw[ψ g];exact aF rtT
 ·have hlen:a.length=b.length:=by
   have:(a.length:Int)=(b.length:Int):=by simpa using hb
   omega
  refine aD (aA (sg rfl (aE ?_)));have u:(a.map aX).length=a.length:=χ _;refine aL (fun i:Nat=>mk [(0,bJ a),(1,bJ b),(5,I .i64 i)] []) (fun i=>i≤a.length∧a.take i=b.take i) (fun i=>a.length-i) 0 ⟨Ad _,by simp⟩ sl ?_;intro i ⟨hi,he⟩;refine aA (sg rfl (aB rfl (fun hb=>?_) (fun hb=>?_)))
  ·have A:=ltD hb u;obtain⟨x,hx⟩:=aM A;obtain⟨y,hy⟩:=aM (show i<b.length by omega);have M:=bB aX hx;have O:=bB aX hy;refine aD (aA (aE (sgh [(2,.row i (aX x)),(6,.row i (aX y))] rfl (aB rfl (fun hb=>?_) (fun hb=>?_)))))
   ·have q:¬x=y:=by simpa using hb
    have g:¬a=b:=by
     rintro rfl;rw[hx] at hy;exact q (Option.some.inj hy)
    rw[ψ g];exact sg rfl (aF rtT)
   ·have q:x=y:=by simpa using hb
    refine aD (ag [] rfl ⟨i+1,⟨A,?_⟩,by dsimp only;omega,sl⟩);rw[dF hx,dF hy,he,q]
  ·have E:=geD hb u hi;have J:a=b:=by
    have:=he;rw[E,Ao,Aw (by omega)] at this;exact this
   refine aG ?_;rw[φ J];exact sg rfl (aF (rtT (hc:=.refl)))
end Go.Proofs.YtkhgpgihmphfdaaGreat
namespace Go
section
variable {F:Fence}{n:Nat}{P:Program}{b:Frame}{a:Act}{k:List Item}{cs:List Frame}{w:World}{Q:Exit→Act→World→Prop}
theorem c6 {c:Code}:step P (lone (b.atR a (.code (.scope c)::k)) cs w)=.next (lone (b.atR a (.code c:: .inScope c::k)) cs w):=
 step_lone_go (by simp[stepG,stepG.exec,Frame.atR])
theorem iM {c:Code}:step P (lone (b.atR a (.inScope c::k)) cs w)=.next (lone (b.atR a k) cs w):=
 step_lone_go (by simp[stepG,stepG.exec,Frame.atR])
def Exit.noJump (Q:Exit→Act→World→Prop):Exit→Act→World→Prop
 | .goto _,_,_=>False
 | e,a,w=>Q e a w
theorem aBz {c:Code}(h:c.wpIn F n P (Exit.noJump Q) a w):(Code.scope c).wpIn F n P Q a w:=by
 intro b k cs B hb y;have h0:(lone (b.atR a (.code (.scope c)::k)) cs w).fenced P F:=fenced_calm hb y rfl;obtain⟨e,q,u,hq,g⟩:=h b (.inScope c::k) cs B hb y;cases e with
 | normal=>exact⟨.normal,q,u,hq,.head h0 c6 (StepsIn.trans g (.one (fenced_calm hb y rfl) iM))⟩
 | exit id=>
  have hx:exitTo id (.inScope c::k)=exitTo id k:=by simp[exitTo]
  exact⟨.exit id,q,u,hq,fun k' A=>.head h0 c6 (g.1 k' (by rw[hx];exact A)),
   fun E A=>let ⟨k₁,h1,h2⟩:=g.2 E (by rw[hx];exact A);⟨k₁,h1,.head h0 c6 h2⟩⟩
 | goto l=>exact hq.elim
 | ret=>exact⟨_,q,u,hq,.of_steps (.one h0 c6) g⟩
 | panic I=>exact⟨_,q,u,hq,.of_steps (.one h0 c6) g⟩
 | outgrown=>exact⟨_,q,u,hq,.of_steps (.one h0 c6) g⟩
end
end Go
namespace Go.AM
open Go
section
variable {ro:Option Nat}{P:Program}{n:Nat}{kf:List Nat}{st:St}{Q:Exit→St→Prop}
theorem wU {l:Nat}(h:Q .normal st):AWp ro P n kf (.label l) st Q:=fun _ S μ a w _ _ hs g=>wpIn_label (g _ _ S μ a w h hs)
def aNr (Q:Exit→St→Prop):Exit→St→Prop
 | .goto _,_=>False
 | e,st=>Q e st
theorem aH8 {c:Code}(h:AWp ro P n kf c st (aNr Q)):AWp ro P n kf (.scope c) st Q:=fun G S μ a w Q' g hs u=>
 aBz (h G S μ a w _ g hs fun ex st' S' μ' y w' q s=>by
  cases ex with
  | goto l=>exact q.elim
  | _=>exact u _ st' S' μ' y w' q s)
end
section
variable {QP:Value→Prop}{P:Program}{n:Nat}{ops:Array Oper}{draw:Bool}{k d:Nat}{st:St}{pre:REs}{Q:St→Prop}{o:Oper}{f:FuncId}{xs:Array Operand}{ts:Array TypeId}{ids:List Nat}{args:List V}{res:V}{hin hout:List (Nat×AObj)}
theorem kvG {x:Operand}{caps:List R}{j t:Nat}{want b:Bool}(B:aV P f (args++caps.map V.one) hin res hout)
  (E:i7 QP P n ops draw (k+1) ⟨upd st.e d (some res),fC st.h (outs hout),st.d⟩ ((⟨t::(opr x++bU xs.toList),ids++keys hin++keys hout⟩,⟨some (d,some res),outs hout⟩)::pre) Q)
  (hb:fG P f:=by exact aC8 (by kernel_rfl)) (ho:ops[k]?=some o:=by rfl) (I:o.guard=some (j,want):=by rfl) (J:(ops[j]?).bind (·.dst)=some t:=by rfl) (u:st.e t=some (.one (.c (.bool b))):=by rfl) (hw:b=want:=by first | rfl | assumption) (y:o.op=.call { callee:=.value x,args:=xs,argTypes:=ts }:=by rfl) (M:o.dst=some d:=by rfl) (A:Nat.blt d n=true:=by rfl) (hx:opv st x=some (.one (.clo f caps)):=by rfl)
  (ha:ArgsV st ids xs.toList args:=by repeat (first | exact .nil | (apply Go.AM.ArgsV.cons rfl;(first | exact .refl | exact .one (.c .nl .nil) | exact .one (.c .sn .nil) | exact .one (.hs rfl (by first | rfl | simp) (by first | rfl | (simp;done) | (simp[Go.AM.take_map];done) | exact Go.AM.take_map.symm) .nil) | exact Go.AM.hs_all rfl rfl (by first | rfl | assumption | (simp;done) | (simp;omega)) (by first | rfl | assumption | (simp;done)) | ((first | apply Go.AM.Conv.pa | apply Go.AM.Conv.agg);repeat (first | exact .nil | apply Go.AM.PureL.c .refl | apply Go.AM.PureL.c .nl | apply Go.AM.PureL.c .sn | (apply Go.AM.PureL.hs;rfl;(first | rfl | simp);(first | rfl | (simp;done) | (simp[Go.AM.take_map];done) | exact Go.AM.take_map.symm))))))))
  (q:eF (fun p=>st.h p.1=some p.2) hin:=by repeat (first | exact trivial | refine⟨rfl,?_⟩)) (g:eF (fun p=>p.1∈keys hin∨st.h p.1=none) hout:=by repeat (first | exact trivial | refine⟨.inr rfl,?_⟩ | refine⟨.inl (by decide),?_⟩ | refine⟨.inl (by repeat (first | exact List.Mem.head _ | apply List.Mem.tail)),?_⟩)) (hok:dU (args++caps.map V.one) hin=true:=by rfl):i7 QP P n ops draw k st pre Q:=
 k_ (GStep.yes ho I J u hw (aE3 hin hout hb y M (eC A) hx B ha q g hok)) E
end
end Go.AM
namespace Go.Proofs.YtkhgpgihmphfdaaGreat
open Go Go.AM
set_option maxRecDepth 20000
set_option maxHeartbeats 4000000
theorem yD (f:FuncId) (p:Nat→Bool) (s:Str) (hl:s.length≤4001) (q:aU2 Tryz.prog f=true) (E:∀c∈s,aV Tryz.prog f [I .u8 (c.toNat:Nat)] [] (B (p c.toNat)) []):aV Tryz.prog 131 [Go.AM.T s,.one (.clo f [])] [] (I .i64 (cD p s)) []:=by
 have O:=fK p s;refine bF (n:=20) tok Tryz.func131 rfl rfl rfl ?_;refine sg rfl (sg rfl (aA (aE (aL (fun j:Nat=>mk [(0,Go.AM.T s),(1,.one (.clo f [])),(5,I .i64 j)] []) (fun j=>j≤cD p s) (fun j=>cD p s-j) 0 (Ad _) sl ?_))));intro j J;by_cases u:j<s.length
 ·obtain⟨d,y⟩:=aM u;have g:=lI p s j J d y;have A:=E d (Ag y);have M:decide ((j:Int)<(s.length:Int))=true:=φ (by omega);refine aA (skh 9 [(4,.bv true),(8,.byte j d)] rfl (kvG (caps:=[]) (args:=[I .u8 (d.toNat:Nat)]) (hin:=[]) (hout:=[]) A ?_ (hb:=aC8 q)));refine ak 1 [(4,.bv true),(10,.bv true)] rfl (az (aB rfl (fun hb=>?_) (fun hb=>?_)))
  ·exact aD (aE (ag [] rfl ⟨j+1,g.1 hb,by dsimp only;have:=g.1 hb;omega,sl⟩))
  ·have e:j=cD p s:=by
    have:¬j<cD p s:=fun h=>by rw[g.2 h] at hb;cases hb
    omega
   refine aG ?_;rw[←e];exact sg rfl (aF rtT)
 ·have e:j=cD p s:=by omega
  have M:decide ((j:Int)<(s.length:Int))=false:=ψ (by omega);refine aA (sgh [(4,.bv false),(10,.bv false)] rfl (aB rfl (fun hb=>absurd hb (by decide)) (fun _=>aG ?_)));rw[←e];exact sg rfl (aF rtT)
theorem wD (s x:Str):aV Tryz.prog 179 [Go.AM.T s,Go.AM.T x] [] (B (preB x s)) []:=by
 unfold preB;refine bF (n:=18) tok Tryz.func179 rfl rfl rfl ?_;refine sg rfl ?_;by_cases h:x.length≤s.length
 ·have d1:decide ((x.length:Int)≤(s.length:Int))=true:=φ (by omega);rw[φ h,Cu];exact sgh [(5,.bv true),(12,.bv true)] rfl (aF rtT)
 ·have d1:decide ((x.length:Int)≤(s.length:Int))=false:=ψ (by omega);rw[ψ h,Cs];exact sgh [(5,.bv false),(12,.bv false)] rfl (aF rtT)
theorem pT (s x:Str):aV Tryz.prog 130 [Go.AM.T s,Go.AM.T x] [] (B (preB x s)) []:=by
 have h:=wD s x;refine bF (n:=8) tok Tryz.func130 rfl rfl rfl ?_;exact sg rfl (sgh [(2,.pc (B (preB x s)))] rfl (aF rtT))
theorem aQh:aV Tryz.prog 185 [] [] (bJ pH) []:=by
 refine bF (n:=2) tok Tryz.func185 rfl rfl rfl ?_;exact sg rfl (sgh [(0,.all)] rfl (aF rtT))
theorem aC3:aV Tryz.prog 186 [] [] (bJ qB) []:=by
 refine bF (n:=2) tok Tryz.func186 rfl rfl rfl ?_;exact sg rfl (sgh [(0,.all)] rfl (aF rtT))
def tS (a b:Int):Int:=if b<a then b else a
def aFi:Str→Int→Int
 | [],k=>k
 | c::s,k=>aFi s (tS (k*10+((c.toNat:Int)-48)) 2147483648)
theorem aKw (s:Str) (hl:s.length≤4001) (O:∀c∈s,48≤c.toNat∧c.toNat≤57):aV Tryz.prog 181 [Go.AM.T s] [] (I .i64 (aFi s 0)) []:=by
 refine bF (n:=21) tok Tryz.func181 rfl rfl rfl ?_;refine sg rfl (sg rfl (aA (sg rfl (aE (aL (fun p:Nat×Int=>mk [(0,Go.AM.T s),(3,I .i64 p.2),(6,I .i64 (s.length:Nat)),(7,I .i64 p.1)] []) (fun p=>p.1≤s.length∧0≤p.2∧p.2≤2147483648∧aFi (s.drop p.1) p.2=aFi s 0) (fun p=>s.length-p.1) (0,0) ⟨Ad _,by decide,by decide,rfl⟩ sl ?_)))));rintro⟨i,k⟩ ⟨hi,E,J,g⟩;dsimp only at hi E J g ⊢;refine sg rfl (aA (aB rfl (fun hb=>?_) (fun hb=>?_)))
 ·have A:i<s.length:=by have:=κ hb;omega
  obtain⟨d,q⟩:=aM A;obtain⟨g1,g2⟩:=O d (Ag q);have M:s.drop i=d::s.drop (i+1):=by
   obtain⟨U,Y⟩:=Af.1 q;rw[A7 U,Y]
  rw[M,aFi] at g;refine aD ?_;have u:IntKind.wrap .u8 ((d.toNat:Int)-48)=(d.toNat:Int)-48:=by unfold IntKind.wrap;simp[IntKind.bits,IntKind.signed];omega
  have y:IntKind.wrap .i64 ((d.toNat:Int)-48)=(d.toNat:Int)-48:=Bz _ (by omega);refine aA (aE (sg rfl (ag [(4,.byte i d)] rfl ?_ (hc:=⟨⟨by rw[u,y];omega,by rw[u,y];omega⟩,⟨rfl,q⟩,⟨by omega,by omega⟩,trivial⟩))));rw[u,y];refine ag [] rfl ?_;have B:0≤tS (k*10+((d.toNat:Int)-48)) 2147483648∧tS (k*10+((d.toNat:Int)-48)) 2147483648≤2147483648:=by unfold tS;split<;>omega
  exact⟨(i+1,tS (k*10+((d.toNat:Int)-48)) 2147483648),⟨A,B.1,B.2,g⟩,by dsimp only;omega,sl⟩
 ·have e:i=s.length:=by have:=Ae hb;omega
  rw[e,Ct,aFi] at g;rw[←g];exact aG (sg rfl (aF rtT))
theorem aAe:∀s:Str,(∀c∈s,48≤c.toNat∧c.toNat≤57)→aFi s 2147483648=2147483648
 | [],_=>rfl
 | c::s,h=>by
  have:=h c Bu;rw[aFi,show tS (2147483648*10+((c.toNat:Int)-48)) 2147483648=2147483648 by unfold tS;split<;>omega];exact aAe s fun d g=>h d (Bh _ g)
theorem aSq:∀(s:Str) (k:Int),(∀c∈s,48≤c.toNat∧c.toNat≤57)→2147483648≤k→2147483648≤kR s k
 | [],k,_,h=>h
 | c::s,k,hs,h=>by
  have:=hs c Bu;rw[kR];split
  ·exact aSq s _ (fun d g=>hs d (Bh _ g)) (by omega)
  ·exact h
theorem aMr:∀(s:Str) (k:Int),(∀c∈s,48≤c.toNat∧c.toNat≤57)→0≤k→k≤2147483647→aFi s k=tS (kR s k) 2147483648
 | [],k,_,_,h=>by rw[aFi,kR];unfold tS;rw[ξ (by omega)]
 | c::s,k,hs,h0,h=>by
  have h1:=hs c Bu;have h2:∀d∈s,48≤d.toNat∧d.toNat≤57:=fun d g=>hs d (Bh _ g)
  rw[aFi,kR,θ (by omega)];by_cases q:k*10+((c.toNat:Int)-48)≤2147483647
  ·rw[show tS (k*10+((c.toNat:Int)-48)) 2147483648=k*10+((c.toNat:Int)-48) by unfold tS;rw[ξ (by omega)]];exact aMr s _ h2 (by omega) q
  ·rw[show tS (k*10+((c.toNat:Int)-48)) 2147483648=2147483648 by unfold tS;split<;>omega,aAe s h2];have:=aSq s (k*10+((c.toNat:Int)-48)) h2 (by omega);unfold tS;split<;>omega
theorem aV1 (c:Nat):nmQ c 97 122=wiB c 97 122:=by
 unfold nmQ fiB wiB plB;rw[Bt];simp;omega
theorem aV0 (c:Nat):nmQ c 65 90=wiB c 65 90:=by
 unfold nmQ fiB wiB plB;rw[Bt];simp;omega
theorem aV2 (c:Nat) (h:wiB c 97 122=true):wiB c 65 90=false:=by
 unfold wiB at *;simp at *;omega
theorem aIz {c:UInt8}{r:Str}(h:wiB c.toNat 65 90=true) (hs:sgB c.toNat=true):¬(c::r).take (cD sgB (c::r))∈pH:=fun hm=>by
 rw[cD,θ hs,Az] at hm;have:c=99∨c=100∨c=105∨c=108∨c=111:=by
  unfold pH at hm;simp only[Au,List.cons.injEq,not_mem_nil,or_false] at hm;rcases hm with⟨h,_⟩ | ⟨h,_⟩ | ⟨h,_⟩ | ⟨h,_⟩ | ⟨h,_⟩ | ⟨h,_⟩ | ⟨h,_⟩<;>simp[h]
 unfold wiB at h;rcases this with rfl | rfl | rfl | rfl | rfl<;>exact absurd h (by decide)
theorem aT4 (c:UInt8):aV Tryz.prog 180 [I .u8 (c.toNat:Nat)] [] (B (dgB c.toNat)) []:=by
 have h:=pV aU0 c;rw[←aWa c];refine bF (n:=6) tok Tryz.func180 rfl rfl rfl ?_;exact sg rfl (sgh [(1,.pc (I .i64 (Lib.indexByte aU0 c)))] rfl (aF rtT))
def jI:Code→Code | .seq _ b=>b | c=>c
noncomputable def aW7 (c:Code):Code:=jI (jI (jI (jI c)))
def aKd:TE→Int
 | .ok _=>0
 | .error e=>e
theorem aTo (c:UInt8) (r:Str) (hl:r.length≤4000):∃(k0:Int) (t0:Str) (v0:Int),aV Tryz.prog 133 [Go.AM.T (c::r)] [] (.tup [.pa [.int .i64 k0,.str t0,.int .i64 v0,.int .i64 0],I .i64 (aKd (gG (c::r)))]) []∧∀k t v,gG (c::r)=.ok (k,t,v)→k0=k∧t0=t∧v0=v:=by
 have hSl:(c::r).length≤4001:=by rw[Aa];omega
 have B:=yD 180 dgB (c::r) hSl (by kernel_rfl) fun d y=>aT4 d
 have hw2:=yD 184 sgB (c::r) hSl (by kernel_rfl) fun d _=>aK2 d
 have E:=aLk c;have J:=aLf c;rw[aV1] at E;rw[aV0] at J;have aa:(c::r).take 1=[c]:=rfl;by_cases y:dgB c.toNat=true
 ·have A:∀d∈(c::r).take (cD dgB (c::r)),48≤d.toNat∧d.toNat≤57:=fun d y=>by
   obtain⟨j,hj⟩:=List.getElem?_of_mem y;rw[Ak] at hj;split at hj
   ·rename_i M;exact κ ((lI dgB (c::r) j (by omega) d hj).2 M)
   ·cases hj
  have u:gG (c::r)=if 2147483647<kR ((c::r).take (cD dgB (c::r))) 0 then .error 11 else .ok (3,(c::r).take (cD dgB (c::r)),kR ((c::r).take (cD dgB (c::r))) 0):=by rw[gG,θ y]
  have ab:=aKw ((c::r).take (cD dgB (c::r))) (by rw[Aj];omega) A;rw[aMr _ 0 A (by decide) (by decide)] at ab;have hN1:0<cD dgB (c::r):=by rw[cD,θ y];omega
  have hNl:=fK dgB (c::r);rw[u];clear A u E J hw2 aa;generalize cD dgB (c::r)=N at *;generalize c::r=S at *;generalize hK:kR (S.take N) 0=K at *;refine⟨3,S.take N,tS K 2147483648,?_,fun k t v h=>?_⟩
  ·refine bF (n:=67) tok Tryz.func133 rfl rfl rfl ?_;refine sg rfl (aA (sk 1 rfl (kc B ?_)));refine kz 1 rfl ?_;have dN:decide ((0:Int)<(N:Int))=true:=φ (by omega);refine sg rfl (aB rfl (fun _=>aA (aC mixed (akN 6 [] rfl (kc ab ?_)))) (fun hb=>absurd (hb.symm.trans dN) (by decide)));refine akN 3 [] rfl (az (aA (sg rfl ?_)));by_cases hk:2147483647<K
   ·rw[θ hk];refine aB rfl (fun _=>?_) (fun hb=>?_)
    ·exact sg rfl (aF (zN trw))
    ·have:=Ae hb;unfold tS at this;split at this<;>omega
   ·rw[ξ hk];refine aB rfl (fun hb=>?_) (fun _=>?_)
    ·have:=κ hb;unfold tS at this;split at this<;>omega
    ·exact aD (sg rfl (aF (zN trw)))
  ·split at h
   ·cases h
   ·rename_i hk;cases h;exact⟨rfl,rfl,by unfold tS;rw[ξ (by omega)]⟩
 ·have hS1:1≤(c::r).length:=by rw[Aa];omega
  have hN0:cD dgB (c::r)=0:=by rw[cD,ξ y]
  rw[hN0] at B;have u:gG (c::r)=if wiB c.toNat 97 122=true∨wiB c.toNat 65 90=true then m8 (c::r) (wiB c.toNat 65 90) else if n0 (c::r)=[] then .error 10 else .ok (4,n0 (c::r),0):=by rw[gG,ξ y]
  have ac:= @aIz c r;have ad:wiB c.toNat 97 122=true∨wiB c.toNat 65 90=true→sgB c.toNat=true:=fun h=>by
   rcases h with h | h
   ·have:=aEg c.toNat;rw[h] at this;simpa using this
   ·have:=aEf c.toNat;rw[h] at this;simpa using this
  have hlu:=aV2 c.toNat;have hsy:n0 (c::r)=(match qB.find? (fun x=>preB x (c::r)) with | some x=>x | none=>[]):=rfl;rw[u];clear u y;generalize c::r=S at *;generalize wiB c.toNat 97 122=lo at *;generalize wiB c.toNat 65 90=up at *;have kind:∃k:Int,k=if lo=true then 1 else if up=true then 2 else 0:=⟨_,rfl⟩
  obtain⟨U,g⟩:=kind;have pre:∀(l:List C) (e:Int),AWp none Tryz.prog 67 (keys []) (aW7 (Tryz.f133.body.getD .skip)) (mk [(0,Go.AM.T S),(2,.one (.vp 2 0)),(6,I .i64 U)] [(2,.var 167 (aDo.map .c))]) (fun ex st=>(ex=.normal∨ex=.ret)∧Fin tr.flat Tryz.f133 st [] (.tup [.pa l,I .i64 e]) [])→aV Tryz.prog 133 [Go.AM.T S] [] (.tup [.pa l,I .i64 e]) []:=fun l e h=>by
   refine bF (n:=67) tok Tryz.func133 rfl rfl rfl ?_;refine sg rfl (aA (sk 1 rfl (kc B ?_)));refine kz 1 rfl (sg rfl (aB rfl (fun hb=>absurd hb (by decide)) (fun _=>aD (sg rfl (kV (mk [(0,Go.AM.T S),(2,.one (.vp 2 0)),(6,I .i64 U)] [(2,.var 167 (aDo.map .c))]) ?_ h)))));refine aE (sk 2 rfl ?_);rw[aa];refine kc E ?_;refine kz 1 rfl (aB rfl (fun hb=>?_) (fun hb=>?_))
   ·rw[hb,θ rfl] at g;subst g;exact ag [] rfl (.inl ⟨rfl,sl⟩)
   rw[hb,ξ ω] at g;refine sk 2 rfl ?_;rw[aa];refine kc J ?_;refine kz 1 rfl (aB rfl (fun hb=>?_) (fun hb=>?_))
   ·rw[hb,θ rfl] at g;subst g;exact ag [] rfl (.inl ⟨rfl,sl⟩)
   ·rw[hb,ξ ω] at g;subst g;exact aD (.inl ⟨rfl,sl⟩)
  clear E J B hN0;by_cases hn:lo=true∨up=true
  ·rw[θ hn];have ad:=ad hn;have hkp:0<U:=by
    rw[g];rcases hn with h | h
    ·rw[θ h];decide
    ·rw[θ h];split<;>decide
   have hW:=fK sgB S;have hky:=aQh;have hct:=eX pH (S.take (cD sgB S)) (by decide);have ac:=fun h=>ac h ad
   unfold m8;generalize cD sgB S=N at *;have Y:∃Y:Int,Y=if S.take N∈pH then 5 else U:=⟨_,rfl⟩
   obtain⟨Y,q⟩:=Y;have dk:decide ((0:Int)<U)=true:=φ hkp;refine⟨Y,S.take N,0,pre _ _ ?_,fun k t v h=>?_⟩
   ·refine aA (sg rfl (aB rfl (fun _=>sk 3 rfl (kc hw2 ?_)) (fun hb=>absurd (hb.symm.trans dk) (by decide))));refine kz 4 rfl (kV (mk [(0,Go.AM.T S),(2,.one (.vp 2 0)),(7,.one (.vp 7 0))] [(2,.var 167 (aDo.map .c)),(7,.var 167 [.c (.int .i64 Y),.c (.str (S.take N)),.c (.int .i64 0),.c (.int .i64 0)])]) ?_ ?_)
    ·generalize pH=L at *;refine aA (aC mixed (kc hky ?_));refine akN 2 [] rfl (kc hct ?_);refine az (aB rfl (fun hb=>?_) (fun hb=>?_))
     ·rw[θ (κ hb)] at q;subst q;exact ag [] rfl (.inl ⟨rfl,sl⟩)
     ·rw[ξ (Ae hb)] at q;subst q;exact aD (.inl ⟨rfl,sl⟩)
    ·have hTl:(S.take N).length=N:=by rw[Aj];omega
     generalize S.take N=X at *;refine aA (sg rfl ?_);rw[hTl];refine aB rfl (fun hb=>?_) (fun hb=>?_)
     ·rw[θ (by have:=κ hb;omega)];exact sg rfl (aF (zN trw))
     ·rw[ξ (by have:=Ae hb;omega)];have e0:aKd (if up=true then(.ok (2,X,0):TE) else if X∈pH then .ok (5,X,0) else .ok (1,X,0))=0:=by
       split
       ·rfl
       ·split<;>rfl
      rw[e0];exact aD (sg rfl (aF (zN trw)))
   ·split at h
    ·cases h
    split at h
    ·rename_i hu;cases h;rw[ξ (ac hu)] at q;have hl:¬lo=true:=fun hl=>by rw[hlu hl] at hu;cases hu
     exact⟨by rw[q,g,ξ hl,θ hu],rfl,rfl⟩
    ·rename_i hu;split at h
     ·rename_i hm;cases h;rw[θ hm] at q;exact⟨q,rfl,rfl⟩
     ·rename_i hm;cases h;rw[ξ hm] at q;exact⟨by rw[q,g,θ (hn.resolve_right hu)],rfl,rfl⟩
  ·rw[ξ hn];have hk0:U=0:=by rw[g,ξ (fun h=>hn (.inl h)),ξ (fun h=>hn (.inr h))]
   subst hk0;have hsb:=aC3;have h13:qB.length≤13:=by decide
   refine⟨if n0 S=[] then 0 else 4,n0 S,0,pre _ _ ?_,fun k t v h=>?_⟩
   ·refine aA (sg rfl (aB rfl (fun hb=>absurd hb (by decide)) (fun _=>aD ?_)));have hne:∀x∈qB,¬x=[]:=by decide
    rw[hsy];clear hsy;generalize qB=L at *;have hkl:(L.map aX).length=L.length:=χ _;refine aA (aA (aC mixed (kc hsb ?_)));refine kz 2 rfl (aE (aL (fun i:Nat=>mk [(0,Go.AM.T S),(2,.one (.vp 2 0)),(54,.one (.c (.sl 1 (L.map aX)))),(55,I .i64 ((L.map aX).length:Nat)),(56,I .i64 i)] [(2,.var 167 (aDo.map .c))]) (fun i=>i≤L.length∧(L.take i).find? (fun x=>preB x S)=none) (fun i=>L.length-i) 0 ⟨Ad _,rfl⟩ sl ?_));rintro i ⟨hi,O⟩;refine sg rfl (aA (aB rfl (fun hb=>?_) (fun hb=>?_)))
    ·have M:=ltD hb hkl;obtain⟨x,hx⟩:=aM M;have hx':=bB aX hx;have hpx:=pT S x;refine aD (aA (aE (sgh [(0,.row i (aX x))] rfl (sk 2 rfl (kc hpx ?_)))));refine az (aB rfl (fun hb=>?_) (fun hb=>?_))
     ·rw[l9 O hx hb];dsimp only;rw[ξ (hne x (Ag hx)),ξ (hne x (Ag hx))];exact sg rfl (aF (zN trw))
     ·exact aD (ag [] rfl ⟨i+1,⟨M,lA O hx hb⟩,by dsimp only;omega,sl⟩)
    ·have hge:=geD hb hkl hi;rw[hge,Ao] at O;rw[O];dsimp only;rw[θ rfl,θ rfl];exact aG (sg rfl (aF (zN trw)))
   ·split at h
    ·cases h
    ·rename_i hs;cases h;exact⟨ξ hs,rfl,rfl⟩
def blS:Str:=[32,9,10]
theorem aWn (c:UInt8):ixB blS c=blB c.toNat:=iZ (p:=fun c=>ixB blS c=blB c.toNat) (by decide+kernel) c
theorem aFt {s:Str}(h:preB [45,45] s=true):cD neB s=2+cD neB (s.drop 2):=by
 unfold preB at h;rw[ε] at h;have h2:=κ h.2
 match s,h2 with
 | a::b::r,h2=>
  have h2:[a,b]=[45,45]:=h2;cases h2;rw[cD,θ (by decide),cD,θ (by decide)];show cD neB r+1+1=2+cD neB r;omega
theorem aWe (c:UInt8):aV Tryz.prog 132 [I .u8 (c.toNat:Nat)] [] (B (neB c.toNat)) []:=by
 have e:(!decide ((c.toNat:Int)=10))=neB c.toNat:=by
  unfold neB;by_cases h:c.toNat=10
  ·rw[φ h,φ (by omega)]
  ·rw[ψ h,ψ (by omega)]
 rw[←e];refine bF (n:=5) tok Tryz.func132 rfl rfl rfl ?_;exact sg rfl (sg rfl (aF rtT))
theorem aNb (S:Str):aV Tryz.prog 86 [Go.AM.T S] [] (aDs (nA S)) []:=by
 refine bF (n:=65) tok Tryz.func86 rfl rfl rfl ?_;refine sg rfl (aH8 ?_);refine aA (sg rfl (aB rfl (fun hb=>?_) (fun hb=>?_)))
 ·unfold nA;rw[θ (by have:=κ hb;omega)];exact sg rfl (aF (aRa trw))
 have hl:S.length≤4000:=by have:=Ae hb;omega
 have hA:nA S=aRc [] (jJ S.length 0 (S.drop 0)):=by
  unfold nA;rw[ξ (by omega),B0];cases jJ S.length 0 S<;>rfl
 refine aD (sg rfl (sg rfl (AWp.sub (Sub.own (t:=4) (id:=500) 167 4 rfl rfl) ?_)));refine aA (wU ?_);refine aA (aE (aL (fun p:Nat×Nat×List Tk=>mk [(0,Go.AM.T S),(3,.one (.vp 3 0)),(4,.one (.hs 500 0 p.2.2.length p.2.2.length)),(5,I .i64 p.1)] [(3,.var 38 [.c (.int .i64 0),.c (.int .i64 0)]),(500,.arr 167 4 (p.2.2.map aI) 0)]) (fun p=>p.1≤S.length∧S.length-p.1≤p.2.1∧p.2.2.length+(S.length-p.1)≤S.length∧nA S=aRc p.2.2 (jJ p.2.1 p.1 (S.drop p.1))) (fun p=>p.2.1) (0,S.length,[]) ⟨Ad _,by dsimp only;omega,by dsimp only;simp,hA⟩ sl ?_));rintro⟨i,f,out⟩ ⟨hi,hf,U,q⟩;dsimp only at hi hf U q ⊢;have hout:(out.map aI).length=out.length:=χ _;refine aA (sg rfl (aB rfl (fun hb=>?_) (fun hb=>?_)))
 ·have hlt:i<S.length:=by have:=κ hb;omega
  obtain⟨g,rfl⟩:∃g,f=g+1:=⟨f-1,by omega⟩
  obtain⟨c,r,y⟩:∃c r,S.drop i=c::r:=by
   cases h:S.drop i with
   | nil=>
    have:=congrArg List.length h;rw[Bf,length_nil] at this;omega
   | cons c r=>exact⟨c,r,rfl⟩
  have hci:S[i]?=some c:=by
   have:=congrArg (fun l=>l[0]?) y;simpa [Al] using this
  have Y:(c::r).length=S.length-i:=by rw[←y,Bf]
  rw[Aa] at Y;obtain⟨k0,t0,v0,aa,ab⟩:=aTo c r (by omega);have ac:=pV blS c;have J:=aWn c;unfold ixB at J;have ad:=pT (c::r) [45,45];have ae:=yD 132 neB (c::r) (by rw[Aa];omega) (by kernel_rfl) fun d _=>aWe d
  have O:=wJ (c::r);have af:= @kM c r;have ah:= @s9 c r;have B:= @aFt (c::r);have u:eL (c::r)=if blB c.toNat=true then 1 else if preB [45,45] (c::r)=true then 2+cD neB ((c::r).drop 2) else 0:=rfl
  rw[y,jJ] at q;have M:∀m:Nat,(c::r).drop m=S.drop (i+m):=fun m=>by rw[←y,Co]
  rw[Aa] at O;refine aD (aE (aA (sg rfl ?_)));rw[y];refine aE (skh 3 [(2,.byte i c)] rfl (kc ac ?_));refine kz 2 rfl ?_;rw[J];by_cases E:blB c.toNat=true
  ·rw[E];rw[θ E] at u;rw[u,θ (by decide),M] at q;exact aB rfl (fun _=>aA (agN [] rfl (aG ⟨(i+1,g,out),⟨by dsimp only;omega,by dsimp only;omega,by dsimp only;omega,q⟩,by dsimp only;omega,sl⟩))) (fun hb=>absurd hb (by decide))
  rw[ξ E] at u;rw[Cq _ |>.mp E];refine aB rfl (fun hb=>absurd hb (by decide)) (fun _=>sk 1 rfl (kc ad ?_));refine kz 1 rfl (aB rfl (fun hb=>?_) (fun hb=>?_))
  ·rw[θ hb,←B hb] at u;have ai:0<cD neB (c::r):=by rw[B hb];omega
   rw[u,θ ai,M] at q;rw[u] at O;generalize cD neB (c::r)=m at *;refine aA (aC mixed (akN 2 [] rfl (kc ae ?_)));exact akN 2 [] rfl (az (aG ⟨(i+m,g,out),⟨by dsimp only;omega,by dsimp only;omega,by dsimp only;omega,q⟩,by dsimp only;omega,sl⟩))
  ·rw[ξ (by rw[hb];exact ω)] at u;rw[ξ (by rw[u];exact Cm 0)] at q;refine aD (sk 3 rfl ?_);rw[y];refine kc aa ?_;generalize gG (c::r)=o at *;cases o with
   | error e=>
    dsimp only at q;have he:=ah rfl;rw[q];exact kz 6 rfl (aA (sg rfl (aB rfl (fun _=>sg rfl (aF (aRa trw))) (fun hb=>absurd hb (by simp[aKd,he])))))
   | ok p=>
    obtain⟨k,t,v⟩:=p;obtain⟨e1,e2,e3⟩:=ab k t v rfl;subst e1 e2 e3;dsimp only at q;obtain⟨ht1,aj⟩:=af rfl;rw[Aa] at aj;rw[uQ,M] at q;refine kz 6 rfl (aA (sg rfl (aB rfl (fun hb=>absurd hb (by simp[aKd])) (fun _=>aD (sg rfl (sgh [(1,.all),(2,.all)] rfl (agN [] rfl ?_)))))));have A:out.map aI++[[.int .i64 k0,.str t0,.int .i64 v0,.int .i64 (i:Int)]]=(out++[(⟨k0,t0,v0,i⟩:Tk)]).map aI:=by simp[aI]
    exact⟨(i+t0.length,g,out++[⟨k0,t0,v0,i⟩]),⟨by dsimp only;omega,by dsimp only;omega,by dsimp only;rw[η,Bj];omega,q⟩,by dsimp only;omega,sl (he:=⟨rfl,rfl,Go.AM.hs_ren (by simp) (by simp),rfl,trivial⟩) (hh:=⟨⟨_,rfl,.var rfl⟩,⟨_,rfl,.arrS A⟩,trivial⟩)⟩
 ·have e:i=S.length:=by have:=Ae hb;omega
  have hE:jJ f i (S.drop i)=.ok [⟨6,[],0,i⟩]:=by
   rw[e,Ct];cases f<;>rfl
  rw[hE] at q;rw[q];have A:out.map aI++[[.int .i64 6,.str [],.int .i64 0,.int .i64 (i:Int)]]=(out++[(⟨6,[],0,i⟩:Tk)]).map aI:=by simp[aI]
  refine aG (sgh [(4,.all)] rfl ?_);subst e;show AWp _ _ _ _ _ _ (aNr fun ex st=>(ex=.normal∨ex=.ret)∧Fin _ _ st _ (aDs (.ok (out++[⟨6,[],0,(S.length:Int)⟩]))) _);unfold aDs;dsimp only;rw[←A];refine AWp.sub (Sub.freeze (id:=500) rfl) (AWp.sub (cv 2 (out.map aI++[[.int .i64 6,.str [],.int .i64 0,.int .i64 (S.length:Int)]])) ?_);exact aF (aRa trw)
mutual
def tn:Ty→Nat
 | .mk _ _ s a=>1+s.length+tns a
def tns:List Ty→Nat
 | []=>0
 | t::l=>tn t+tns l
end
theorem tZ (t:Ty):1≤tn t:=by cases t;rw[tn];omega
theorem aD4:∀l:List Ty,l.length≤tns l
 | []=>Ad _
 | t::l=>by rw[tns,Aa];have:=aD4 l;have:=tZ t;omega
theorem mY:∀{l:List Ty}{t:Ty},t∈l→tn t≤tns l
 | u::l,t,h=>by
  rw[tns];rcases Au.1 h with rfl | h
  ·omega
  ·have:=mY h;omega
theorem vY (t:Ty) (J:t.args.length≤1000000) (y:∀u∈t.args,aV Tryz.prog 232 [tyV u] [] (tyV u) []):aV Tryz.prog 232 [tyV t] [] (tyV t) []:=by
 obtain⟨f,n,s,a⟩:=t;have y:∀u∈a,aV Tryz.prog 232 [tyV u] [] (tyV u) []:=y;have M:a.length≤1000000:=J;have g:(cW a).length=a.length:=by rw[eW,χ]
 refine bF (n:=22) tok Tryz.func232 rfl rfl rfl ?_;refine sg rfl (sg rfl (AWp.sub (Sub.own (t:=3) (id:=600) 31 4 rfl rfl) ?_));refine aA (sg rfl (aE (aL (fun i:Nat=>mk [(1,.one (.vp 1 0)),(2,.one (.vp 2 0)),(3,.one (.hs 600 0 ((cW a).take i).length ((cW a).take i).length)),(7,.one (.c (.sl 4 (cW a)))),(8,I .i64 ((cW a).length:Int)),(9,I .i64 i)] [(600,.arr 31 4 ((cW a).take i) 0),(1,.var 31 ((cF (.mk f n s a)).map R.c)),(2,.var 31 [.c (.int .i64 0),.c (.int .i64 0),.c (.str []),.c .nl])]) (fun i=>i≤a.length) (fun i=>a.length-i) 0 (Ad _) sl ?_)));intro i hi;have O:((cW a).take i).length=i:=by rw[Aj];omega
 refine sg rfl (aA (aB rfl (fun hb=>?_) (fun hb=>?_)))
 ·have q:=ltD hb g;obtain⟨u,hu⟩:=aM q;have A:(cW a)[i]?=some (cF u):=by rw[eW];exact bB cF hu
  have hc:=y u (Ag hu);have B:(cW a).take (i+1)=(cW a).take i++[cF u]:=by rw[Bg,A];rfl
  refine aD (aA (aE (sgh [(0,.row i (cF u))] rfl (aC mixed (ak 2 [] rfl (kc hc ?_))))));refine ak 3 [(3,.all)] rfl (az (ag [] rfl ⟨i+1,q,by dsimp only;omega,?_⟩));dsimp only;rw[B];exact sl
 have E:=geD hb g hi;subst E;rw[show(cW a).take a.length=cW a by rw[←g,Ao]];refine aG (AWp.sub (Sub.freeze (id:=600) rfl) ?_);refine sg rfl (AWp.sub (vp 1 (cF (.mk f n s a))) ?_);exact sg rfl (aF (rtC trw))
mutual
def wfS:Ty→Bool
 | .mk f n s a=>(if f=4 then decide (n=0∧s=[]∧a.length=2) else if f=5 then decide (n=0∧a.length=1) else a.isEmpty)&&aNv a
def aNv:List Ty→Bool
 | []=>true
 | t::l=>wfS t&&aNv l
end
theorem yV:∀{l:List Ty}{t:Ty},aNv l=true→t∈l→wfS t=true
 | u::l,t,h,g=>by
  rw[aNv,ε] at h;rcases Au.1 g with rfl | g
  ·exact h.1
  ·exact yV h.2 g
theorem aD0 {f n:Int}{s:Str}{a:List Ty}(h:wfS (.mk f n s a)=true):a.length≤2∧(∀u∈a,wfS u=true)∧(f=4→n=0∧s=[]∧∃u v,a=[u,v])∧(f=5→n=0∧∃u,a=[u])∧(¬f=4→¬f=5→a=[]):=by
 rw[wfS,ε] at h;obtain⟨h1,h2⟩:=h;refine⟨?_,fun u hu=>yV h2 hu,fun g=>?_,fun q=>?_,fun g q=>?_⟩
 ·split at h1
  ·exact Nat.le_of_eq (κ h1).2.2
  ·split at h1
   ·rw[(κ h1).2];omega
   ·rw[List.isEmpty_iff.1 h1];simp
 ·rw[θ g] at h1;obtain⟨y,A,a3⟩:=κ h1
  match a,a3 with
  | [u,v],_=>exact⟨y,A,u,v,rfl⟩
 ·rw[ξ (by omega),θ q] at h1;obtain⟨y,A⟩:=κ h1;exact⟨y,List.length_eq_one_iff.1 A⟩
 ·rw[ξ g,ξ q] at h1;exact List.isEmpty_iff.1 h1
theorem aGz:∀(k:Nat) (t:Ty),tn t≤k→wfS t=true→aV Tryz.prog 232 [tyV t] [] (tyV t) []
 | 0,t,h,_=>by have:=tZ t;omega
 | k+1,t,h,hw=>by
  obtain⟨f,n,s,a⟩:=t;obtain⟨h1,h2,_⟩:=aD0 hw;exact vY (.mk f n s a) (show a.length≤_ by omega) fun u hu=>aGz k u (by have hu:u∈a:=hu;have:=mY hu;rw[tn] at h;omega) (h2 u hu)
theorem tB (a b:Ty):aV Tryz.prog 233 [tyV a,tyV b] [] (tyV (qA a b)) []:=by
 refine bF (n:=9) tok Tryz.func233 rfl rfl rfl ?_;exact sg rfl (sgh [(2,.all)] rfl (aF (rtC trw)))
def jL (f:Int) (s:Str) (o:List Str) (x:Str):List Str:=if ¬x∈o∧(¬f=5∨¬x=s) then o++[x] else o
def tR (f:Int) (s:Str) (o:List Str) (l:List Str):List Str:=l.foldl (jL f s) o
mutual
def tfR:Ty→List Str
 | .mk f _ s a=>if f=2 then [s] else aI2 f s a []
def aI2 (f:Int) (s:Str):List Ty→List Str→List Str
 | [],o=>o
 | t::l,o=>aI2 f s l (tR f s o (tfR t))
end
def tfL (f:Int) (s:Str) (l:List Ty) (o:List Str):List Str:=l.foldl (fun o t=>tR f s o (tfR t)) o
theorem rK (f:Int) (s:Str):∀(l:List Ty) (o:List Str),aI2 f s l o=tfL f s l o
 | [],o=>by rw[aI2];rfl
 | t::l,o=>by rw[aI2,rK f s l];rfl
theorem aD6 (f:Int) (s:Str) (o:List Str) (x:Str):(jL f s o x).length≤o.length+1:=by
 unfold jL;split
 ·simp
 ·omega
theorem oC (f:Int) (s:Str):∀(l o:List Str),(tR f s o l).length≤o.length+l.length
 | [],o=>le_refl _
 | x::l,o=>by
  have h1:=oC f s l (jL f s o x);have h2:=aD6 f s o x;show(tR f s (jL f s o x) l).length≤_;rw[Aa];omega
mutual
theorem lU:∀t:Ty,(tfR t).length≤tn t
 | .mk f n s a=>by
  rw[tfR,tn];split
  ·simp;omega
  ·have:=xE f s a [];simp only[length_nil] at this;omega
theorem xE (f:Int) (s:Str):∀(l:List Ty) (o:List Str),(aI2 f s l o).length≤o.length+tns l
 | [],o=>by rw[aI2,tns];exact le_refl _
 | t::l,o=>by
  rw[aI2,tns];have h1:=xE f s l (tR f s o (tfR t));have h2:=oC f s (tfR t) o;have g:=lU t;omega
end
theorem aD8 {f:Int}{s:Str}{o l:List Str}{j:Nat}{x:Str}(h:l[j]?=some x):tR f s o (l.take (j+1))=jL f s (tR f s o (l.take j)) x:=by
 unfold tR;rw[Bg,h,foldl_append];rfl
theorem aI3 {f:Int}{s:Str}{o:List Str}{l:List Ty}{j:Nat}{x:Ty}(h:l[j]?=some x):tfL f s (l.take (j+1)) o=tR f s (tfL f s (l.take j) o) (tfR x):=by
 unfold tfL;rw[Bg,h,foldl_append];rfl
theorem zC:∀(l:List Ty) (i:Nat),tns (l.take i)≤tns l
 | [],i=>by simp
 | t::l,0=>by rw[Cz,tns];omega
 | t::l,i+1=>by rw[Az,tns,tns];have:=zC l i;omega
theorem mK (t:Ty) (ht:t.args.length≤1000000000) (hL:∀i,(tfL t.form t.name (t.args.take i) []).length≤1000000000) (hU:∀u∈t.args,(tfR u).length≤1000000000) (ih:∀u∈t.args,aV Tryz.prog 214 [tyV u] [] (bJ (tfR u)) []):aV Tryz.prog 214 [tyV t] [] (bJ (tfR t)) []:=by
 obtain⟨f,n,s,a⟩:=t;have hal:a.length≤1000000000:=ht;have hL:∀i,(tfL f s (a.take i) []).length≤1000000000:=hL;have hU:∀u∈a,(tfR u).length≤1000000000:=hU;have ih:∀u∈a,aV Tryz.prog 214 [tyV u] [] (bJ (tfR u)) []:=ih;have aa:(cW a).length=a.length:=by rw[eW,χ]
 rw[tfR];refine bF (n:=50) tok Tryz.func214 rfl rfl rfl ?_;refine sg rfl (aA (sg rfl (aB rfl (fun hb=>?_) (fun hb=>?_))))
 ·have h2:f=2:=κ hb;rw[θ h2];exact sgh [(2,.all)] rfl (aF rtT)
 ·have h2:¬f=2:=Ae hb;rw[ξ h2,rK] at *;refine aD (sg rfl (AWp.sub (Sub.own (t:=3) (id:=600) 9 1 rfl rfl) (AWp.sub (Sub.freeze (id:=600) rfl) ?_)));refine aA (sg rfl (aE (aL (fun i:Nat=>mk [(1,.one (.vp 1 0)),(3,.one (.hs 600 0 (tfL f s (a.take i) []).length (tfL f s (a.take i) []).length)),(15,.one (.c (.sl 4 (cW a)))),(16,I .i64 ((cW a).length:Int)),(17,I .i64 i)] [(600,.arr 9 1 ((tfL f s (a.take i) []).map aX) 2),(1,.var 31 ((cF (.mk f n s a)).map R.c))]) (fun i=>i≤a.length) (fun i=>a.length-i) 0 (Ad _) sl ?_)));intro i hi;refine sg rfl (aA (aB rfl (fun hb=>?_) (fun hb=>?_)))
  ·have ab:=ltD hb aa;obtain⟨u,hu⟩:=aM ab;have hu':(cW a)[i]?=some (cF u):=by rw[eW];exact bB cF hu
   have hm:=Ag hu;have hc:=ih u hm;have hul:=hU u hm;have J:=aI3 (f:=f) (s:=s) (o:=[]) hu;have hol:=hL i;generalize tfL f s (a.take i) []=o at J hol ⊢;have M:((tfR u).map aX).length=(tfR u).length:=χ _;generalize tfR u=g at hc hul J M;refine aD (aA (aE (sgh [(0,.row i (cF u))] rfl (sk 1 rfl (kc hc ?_)))));refine kz 2 rfl (aE (aL (fun j:Nat=>mk [(1,.one (.vp 1 0)),(3,.one (.hs 600 0 (tR f s o (g.take j)).length (tR f s o (g.take j)).length)),(15,.one (.c (.sl 4 (cW a)))),(16,I .i64 ((cW a).length:Int)),(17,I .i64 i),(22,bJ g),(23,I .i64 ((g.map aX).length:Int)),(24,I .i64 j)] [(600,.arr 9 1 ((tR f s o (g.take j)).map aX) 2),(1,.var 31 ((cF (.mk f n s a)).map R.c))]) (fun j=>j≤g.length) (fun j=>g.length-j) 0 (Ad _) sl ?_));intro j hj;refine sg rfl (aA (aB rfl (fun hb=>?_) (fun hb=>?_)))
   ·have y:=ltD hb M;obtain⟨x,hx⟩:=aM y;have hx':=bB aX hx;have A:=aD8 (f:=f) (s:=s) (o:=o) hx;have hpl:(tR f s o (g.take j)).length≤2000000000:=by
     have:=oC f s (g.take j) o;rw[Aj] at this;omega
    generalize tR f s o (g.take j)=q at A hpl ⊢;have B:=eX q x (by omega);have hkq:(q.map aX).length=q.length:=χ _;refine aD (aA (aE (sgh [(0,.row j (aX x))] rfl ?_)));by_cases E:x∈q
    ·rw[φ E] at B;have he:jL f s q x=q:=by unfold jL;rw[ξ (fun h=>h.1 E)]
     refine sk 2 rfl (kc B ?_);refine kz 12 rfl (aB rfl nofun (fun _=>aD (ag [] rfl ⟨j+1,y,by dsimp only;omega,?_⟩)));dsimp only;rw[A,he];exact sl
    rw[ψ E] at B;by_cases Y:f=5
    ·have d5:decide (f=5)=true:=φ Y;have d5':(!decide (f=5))=false:=by rw[d5];rfl
     refine sk 2 rfl (kc B ?_);refine ak 12 [(8,.bv false),(13,.bv false)] rfl (az (aB rfl (fun hb=>?_) (fun hb=>?_)))
     ·have O:¬x=s:=by simp at hb;exact hb
      have he:jL f s q x=q++[x]:=by unfold jL;rw[θ ⟨E,.inr O⟩]
      refine ag [(2,.all)] rfl (AWp.sub (Sub.freeze (id:=600) rfl) ?_);refine ag [] rfl ⟨j+1,y,by dsimp only;omega,?_⟩;dsimp only;rw[A,he];exact sl (hh:=⟨⟨_,rfl,.arrS (by rw[Ai];rfl)⟩,⟨_,rfl,.var rfl⟩,trivial⟩)
     ·have O:x=s:=by simp at hb;exact hb
      have he:jL f s q x=q:=by unfold jL;rw[ξ (fun h=>h.2.elim (fun h=>h Y) (fun h=>h O))]
      refine aD (ag [] rfl ⟨j+1,y,by dsimp only;omega,?_⟩);dsimp only;rw[A,he];exact sl
    ·have d5:decide (f=5)=false:=ψ Y;have d5':(!decide (f=5))=true:=by rw[d5];rfl
     have he:jL f s q x=q++[x]:=by unfold jL;rw[θ ⟨E,.inl Y⟩]
     refine sk 2 rfl (kc B ?_);refine ak 12 [(8,.bv true),(13,.bv true)] rfl (az (aB rfl (fun _=>ag [(2,.all)] rfl (AWp.sub (Sub.freeze (id:=600) rfl) ?_)) nofun));refine ag [] rfl ⟨j+1,y,by dsimp only;omega,?_⟩;dsimp only;rw[A,he];exact sl (hh:=⟨⟨_,rfl,.arrS (by rw[Ai];rfl)⟩,⟨_,rfl,.var rfl⟩,trivial⟩)
   have U:=geD hb M hj;subst U;rw[Ao];refine aG (ag [] rfl ⟨i+1,ab,by dsimp only;omega,?_⟩);dsimp only;rw[J];exact sl
  have U:=geD hb aa hi;subst U;rw[Ao];exact aG (sg rfl (aF (rtT (hc:=hs_all rfl rfl (by simp) rfl))))
theorem vZ (t:Ty) (q:tn t≤1000000000) (g:∀u,tn u<tn t→aV Tryz.prog 214 [tyV u] [] (bJ (tfR u)) []):aV Tryz.prog 214 [tyV t] [] (bJ (tfR t)) []:=by
 obtain⟨f,n,s,a⟩:=t;rw[tn] at q g;have y:=aD4 a;refine mK (.mk f n s a) (show a.length≤_ by omega) (fun i=>?_) (fun u hu=>?_) fun u hu=>g u ?_
 ·have h1:=xE f s (a.take i) [];rw[rK] at h1;have h2:=zC a i;simp only[length_nil] at h1;show(tfL f s (a.take i) []).length≤_;omega
 ·have h1:=mY (show u∈a from hu);have h2:=lU u;omega
 ·have h1:=mY (show u∈a from hu);omega
theorem aBb:∀(k:Nat) (t:Ty),tn t≤k→tn t≤1000000000→aV Tryz.prog 214 [tyV t] [] (bJ (tfR t)) []
 | 0,t,h,_=>by have:=tZ t;omega
 | k+1,t,h,hm=>vZ t hm fun u hu=>aBb k u (by omega) (by omega)
mutual
def fvm:Ty→Nat
 | .mk f n s a=>max (tfR (.mk f n s a)).length (aUz a)
def aUz:List Ty→Nat
 | []=>0
 | t::l=>max (fvm t) (aUz l)
end
theorem aS0 (t:Ty):(tfR t).length≤fvm t:=by cases t;rw[fvm];exact Nat.le_max_left ..
theorem aAr:∀{l:List Ty}{t:Ty},t∈l→fvm t≤aUz l
 | u::l,t,h=>by
  rw[aUz];rcases Au.1 h with rfl | h
  ·exact Nat.le_max_left ..
  ·exact le_trans (aAr h) (Nat.le_max_right ..)
theorem aF1 {f n:Int}{s:Str}{a:List Ty}{u:Ty}(h:u∈a):fvm u≤fvm (.mk f n s a):=by
 rw[fvm];exact le_trans (aAr h) (Nat.le_max_right ..)
theorem aD7 {f:Int}{s:Str}{L:Nat}:∀{l:List Ty}{o:List Str},(∀u∈l,(tfR u).length≤L)→(tfL f s l o).length≤o.length+l.length*L
 | [],o,_=>by simp[tfL]
 | t::l,o,h=>by
  have h1:=aD7 (f:=f) (s:=s) (l:=l) (o:=tR f s o (tfR t)) fun u hu=>h u (Bh _ hu)
  have h2:=oC f s (tfR t) o;have g:=h t Bu;show(tfL f s l (tR f s o (tfR t))).length≤_;rw[Aa,Nat.succ_mul];omega
theorem aBa:∀(k:Nat) (t:Ty),tn t≤k→wfS t=true→fvm t≤400000000→aV Tryz.prog 214 [tyV t] [] (bJ (tfR t)) []
 | 0,t,h,_,_=>by have:=tZ t;omega
 | k+1,t,h,hw,q=>by
  obtain⟨f,n,s,a⟩:=t;obtain⟨h1,h2,_⟩:=aD0 hw;have hu:∀u∈a,(tfR u).length≤400000000:=fun u hu=>le_trans (aS0 u) (le_trans (aF1 hu) q)
  refine mK (.mk f n s a) (show a.length≤_ by omega) (fun i=>?_) (fun u g=>le_trans (hu u g) (by decide)) fun u g=>?_
  ·have y:=aD7 (f:=f) (s:=s) (l:=a.take i) (o:=[]) fun u g=>hu u (B9 g)
   rw[Aj,length_nil] at y;have A:min i a.length*400000000≤2*400000000:=Av _ (by omega);show(tfL f s (a.take i) []).length≤_;omega
  ·have g:u∈a:=g;exact aBa k u (by have:=mY g;rw[tn] at h;omega) (h2 u g) (le_trans (aF1 g) q)
def fw (t:Ty):Nat:=if wfS t=true∧fvm t≤tn t then fvm t else tn t
theorem aSz (t:Ty):fw t≤tn t:=by
 unfold fw;split
 ·rename_i h;exact h.2
 ·exact le_refl _
theorem aBc (t:Ty) (h:fw t≤400000000):aV Tryz.prog 214 [tyV t] [] (bJ (tfR t)) []:=by
 unfold fw at h;split at h
 ·rename_i g;exact aBa (tn t) t (le_refl _) g.1 h
 ·exact aBb (tn t) t (le_refl _) (by omega)
abbrev PE:=Int×Int
abbrev TR:=Except PE (Ty×List Tk)
def isT (t:Tk) (s:Str):Bool:=decide (t.kind=4)&&decide (t.text=s)
def cE:Str:=[40]
def lX:Str:=[41]
def aIr (t:Tk):Bool:=decide (t.kind=1) || (decide (t.kind=2) || isT t cE)
def aN0 (s:Str):Ty:=.mk 3 0 s []
def aNz (s:Str):Ty:=.mk 2 0 s []
mutual
def cM:Nat→Nat→List Tk→TR
 | 0,_,_=>.error (12,0)
 | _+1,_,[]=>.error (12,0)
 | f+1,o,t::R=>
  if t.kind=2 then .ok (aN0 t.text,R)
  else if t.kind=1 then .ok (aNz t.text,R)
  else if isT t cE=false then .error (12,t.pl)
  else if 40≤o then .error (13,t.pl)
  else lW (c8 f (o+1) R)
def c8:Nat→Nat→List Tk→TR
 | 0,_,_=>.error (12,0)
 | f+1,o,R=>match cM f o R with
  | .error e=>.error e
  | .ok (x,R1)=>iI f o x R1
def iI:Nat→Nat→Ty→List Tk→TR
 | 0,_,_,_=>.error (12,0)
 | _+1,_,_,[]=>.error (12,0)
 | f+1,o,x,t::R=>
  if aIr t=true then(match cM f o (t::R) with
   | .error e=>.error e
   | .ok (a,R1)=>iI f o (qA x a) R1)
  else if isT t arrow=true then(match c8 f o R with
   | .error e=>.error e
   | .ok (to,R1)=>.ok (aIn x to,R1))
  else .ok (x,t::R)
def lW:TR→TR
 | .error e=>.error e
 | .ok (_,[])=>.error (12,0)
 | .ok (x,t::R)=>if isT t lX=true then .ok (x,R) else .error (12,t.pl)
end
def mU (R:List Tk):Prop:=∃p e,R=p++[e]∧e.kind=6
theorem mU.ne {R:List Tk}(h:mU R):∃t R',R=t::R':=by
 obtain⟨p,e,rfl,_⟩:=h;cases p with
 | nil=>exact⟨e,[],rfl⟩
 | cons a p=>exact⟨a,p++[e],rfl⟩
theorem mU.tail {t:Tk}{R:List Tk}(h:mU (t::R)) (g:¬t.kind=6):mU R:=by
 obtain⟨p,e,hp,he⟩:=h;cases p with
 | nil=>
  obtain⟨rfl,_⟩:=List.cons.inj hp;exact absurd he g
 | cons a p=>
  obtain⟨_,rfl⟩:=List.cons.inj hp;exact⟨p,e,rfl,he⟩
def wt (R:List Tk):Nat:=(R.map fun t=>t.text.length+6).sum
theorem cB (t:Tk) (R:List Tk):wt (t::R)=t.text.length+6+wt R:=by unfold wt;rw[Be,List.sum_cons]
theorem bV {t:Tk}{s:Str}(h:isT t s=true):t.kind=4∧t.text=s:=by
 unfold isT at h;rw[ε] at h;exact⟨κ h.1,κ h.2⟩
mutual
def nF:Ty→Bool
 | .mk f _ _ a=>!decide (f=5)&&nFs a
def nFs:List Ty→Bool
 | []=>true
 | t::l=>nF t&&nFs l
end
structure TOk (R:List Tk) (m:Nat) (x:Ty) (R':List Tk):Prop where
 e:mU R→mU R'
 s:∃p,R=p++R'∧m≤p.length
 w:wfS x=true∧nF x=true
theorem TOk.len {R R':List Tk}{m:Nat}{x:Ty}(h:TOk R m x R'):R'.length+m≤R.length:=by
 obtain⟨p,rfl,hp⟩:=h.s;rw[η];omega
abbrev WF (x:Ty):Prop:=wfS x=true∧nF x=true
theorem tW {a b:Ty}(ha:WF a) (hb:WF b):WF (qA a b):=by
 unfold qA;refine⟨?_,?_⟩
 ·rw[wfS,θ rfl,aNv,aNv,aNv,ha.1,hb.1];rfl
 ·rw[nF,nFs,nFs,nFs,ha.2,hb.2];rfl
theorem aRl {a b:Ty}(ha:WF a) (hb:WF b):WF (aIn a b):=tW (tW ⟨rfl,rfl⟩ ha) hb
theorem aD5 (a b:Ty):tn (qA a b)=1+(tn a+(tn b+0)):=by unfold qA;rw[tn,tns,tns,tns];rfl
theorem aRo (a b:Ty):tn (aIn a b)=5+tn a+tn b:=by
 unfold aIn;rw[aD5,aD5];have:tn (.mk 3 0 arrow [])=3:=by rw[tn,tns];rfl
 rw[this];omega
mutual
theorem gQ:∀(f o:Nat) (R:List Tk) (x:Ty) (R':List Tk),cM f o R=.ok (x,R')→TOk R 1 x R'∧tn x+5+wt R'≤wt R
 | 0,_,_,_,_,h=>by rw[cM] at h;cases h
 | _+1,_,[],_,_,h=>by rw[cM] at h;cases h
 | f+1,o,t::R,x,R',h=>by
  rw[cM] at h;rw[cB];by_cases h2:t.kind=2
  ·rw[θ h2] at h;cases h;refine⟨⟨fun he=>he.tail (by omega),⟨[t],rfl,le_refl _⟩,⟨rfl,rfl⟩⟩,?_⟩;unfold aN0;rw[tn,tns];omega
  rw[ξ h2] at h;by_cases h1:t.kind=1
  ·rw[θ h1] at h;cases h;refine⟨⟨fun he=>he.tail (by omega),⟨[t],rfl,le_refl _⟩,⟨rfl,rfl⟩⟩,?_⟩;unfold aNz;rw[tn,tns];omega
  rw[ξ h1] at h;split at h
  ·cases h
  rename_i hp;have hp:=bV (by simpa using hp:isT t cE=true);split at h
  ·cases h
  cases hw:c8 f (o+1) R with
  | error e=>rw[hw,lW] at h;cases h
  | ok y=>
   obtain⟨y,R1⟩:=y;rw[hw] at h;obtain⟨⟨g,⟨p,A,I⟩,B⟩,E⟩:=fB f (o+1) R y R1 hw;cases R1 with
   | nil=>rw[lW] at h;cases h
   | cons u R2=>
    rw[lW] at h;split at h
    ·rename_i hu;have hu:=bV hu;cases h;rw[cB] at E;refine⟨⟨fun he=>(g (he.tail (by omega))).tail (by omega),⟨t::(p++[u]),by rw[A];simp,by simp⟩,B⟩,by omega⟩
    ·cases h
theorem fB:∀(f o:Nat) (R:List Tk) (x:Ty) (R':List Tk),c8 f o R=.ok (x,R')→TOk R 1 x R'∧tn x+5+wt R'≤wt R
 | 0,_,_,_,_,h=>by rw[c8] at h;cases h
 | f+1,o,R,x,R',h=>by
  rw[c8] at h;cases ha:cM f o R with
  | error e=>rw[ha] at h;cases h
  | ok y=>
   obtain⟨y,R1⟩:=y;rw[ha] at h;obtain⟨⟨g,⟨p,A,I⟩,B⟩,E⟩:=gQ f o R y R1 ha;obtain⟨⟨J,⟨q,M,k3⟩,O⟩,U⟩:=aIc f o y R1 x R' B h;exact⟨⟨fun he=>J (g he),⟨p++q,by rw[A,M,An],by rw[η];omega⟩,O⟩,by omega⟩
theorem aIc:∀(f o:Nat) (y:Ty) (R:List Tk) (x:Ty) (R':List Tk),WF y→iI f o y R=.ok (x,R')→TOk R 0 x R'∧tn x+wt R'≤tn y+wt R
 | 0,_,_,_,_,_,_,h=>by rw[iI] at h;cases h
 | _+1,_,_,[],_,_,_,h=>by rw[iI] at h;cases h
 | f+1,o,y,t::R,x,R',hy,h=>by
  rw[iI] at h;split at h
  ·cases ha:cM f o (t::R) with
   | error e=>rw[ha] at h;cases h
   | ok a=>
    obtain⟨a,R1⟩:=a;rw[ha] at h;obtain⟨⟨g,⟨p,A,I⟩,B⟩,E⟩:=gQ f o (t::R) a R1 ha;obtain⟨⟨J,⟨q,M,k3⟩,O⟩,U⟩:=aIc f o (qA y a) R1 x R' (tW hy B) h;rw[aD5] at U;exact⟨⟨fun he=>J (g he),⟨p++q,by rw[A,M,An],Ad _⟩,O⟩,by omega⟩
  split at h
  ·rename_i Y;have Y:=bV Y;cases ha:c8 f o R with
   | error e=>rw[ha] at h;cases h
   | ok a=>
    obtain⟨a,R1⟩:=a;rw[ha] at h;cases h;obtain⟨⟨g,⟨p,A,I⟩,B⟩,E⟩:=fB f o R a R' ha;rw[aRo,cB];exact⟨⟨fun he=>g (he.tail (by omega)),⟨t::p,by rw[A];rfl,Ad _⟩,aRl hy B⟩,by omega⟩
  ·cases h;exact⟨⟨id,⟨[],rfl,le_refl _⟩,hy⟩,le_refl _⟩
end
mutual
theorem eM:∀(f o:Nat) (R:List Tk) (e p:Int),cM f o R=.error (e,p)→¬e=0
 | 0,_,_,_,_,h=>by rw[cM] at h;cases h;decide
 | _+1,_,[],_,_,h=>by rw[cM] at h;cases h;decide
 | f+1,o,t::R,e,p,h=>by
  rw[cM] at h;split at h
  ·cases h
  split at h
  ·cases h
  split at h
  ·cases h;decide
  split at h
  ·cases h;decide
  cases hw:c8 f (o+1) R with
  | error e'=>
   rw[hw,lW] at h;cases h;exact dT f (o+1) R e p hw
  | ok y=>
   obtain⟨y,R1⟩:=y;rw[hw] at h;cases R1 with
   | nil=>rw[lW] at h;cases h;decide
   | cons u R2=>
    rw[lW] at h;split at h
    ·cases h
    ·cases h;decide
theorem dT:∀(f o:Nat) (R:List Tk) (e p:Int),c8 f o R=.error (e,p)→¬e=0
 | 0,_,_,_,_,h=>by rw[c8] at h;cases h;decide
 | f+1,o,R,e,p,h=>by
  rw[c8] at h;cases ha:cM f o R with
  | error e'=>
   rw[ha] at h;cases h;exact eM f o R e p ha
  | ok y=>
   rw[ha] at h;exact aBs f o _ _ e p h
theorem aBs:∀(f o:Nat) (x:Ty) (R:List Tk) (e p:Int),iI f o x R=.error (e,p)→¬e=0
 | 0,_,_,_,_,_,h=>by rw[iI] at h;cases h;decide
 | _+1,_,_,[],_,_,h=>by rw[iI] at h;cases h;decide
 | f+1,o,x,t::R,e,p,h=>by
  rw[iI] at h;split at h
  ·cases ha:cM f o (t::R) with
   | error e'=>
    rw[ha] at h;cases h;exact eM f o (t::R) e p ha
   | ok y=>
    rw[ha] at h;exact aBs f o _ _ e p h
  split at h
  ·cases ha:c8 f o R with
   | error e'=>
    rw[ha] at h;cases h;exact dT f o R e p ha
   | ok y=>
    rw[ha] at h;cases h
  ·cases h
end
theorem aPp (s:Str):aV Tryz.prog 148 [Go.AM.T s] [] (tyV (.mk 2 0 s [])) []:=by
 refine bF (n:=5) tok Tryz.func148 rfl rfl rfl ?_;exact sg rfl (sg rfl (aF (rtC trw)))
theorem aGt (s:Str):aV Tryz.prog 223 [Go.AM.T s] [] (tyV (.mk 3 0 s [])) []:=by
 refine bF (n:=5) tok Tryz.func223 rfl rfl rfl ?_;exact sg rfl (sg rfl (aF (rtC trw)))
def nM (L:List Tk):V:=.one (.c (.sl 4 (L.map aI)))
def tkV (t:Tk):V:=.pa (aI t)
def x7 (x:Ty) (ps vs:C) (i e p:Int):List C:=[.int .i64 x.form,.int .i64 x.n,.str x.name,.sl 4 (dD x),ps,vs,.int .i64 i,.int .i64 e,.int .i64 p]
def xV (L:List Tk):TR→V
 | .ok (x,R)=>.pa (x7 x .nl .nl ((L.length-R.length:Nat):Int) 0 0)
 | .error (e,p)=>.pa (x7 zTy .nl .nl 0 e p)
theorem q9 (L:List Tk) (x:Ty) (R:List Tk):xV L (.ok (x,R))=.pa (x7 x .nl .nl ((L.length-R.length:Nat):Int) 0 0):=rfl
theorem wE (t:Tk) (s:Str):aV Tryz.prog 172 [tkV t,Go.AM.T s] [] (B (isT t s)) []:=by
 unfold isT;refine bF (n:=14) tok Tryz.func172 rfl rfl rfl ?_;refine sg rfl ?_;by_cases h:t.kind=4
 ·have d:decide (t.kind=4)=true:=φ h;rw[d,Cu];exact sgh [(3,.bv true),(8,.bv true)] rfl (aF rtT)
 ·have d:decide (t.kind=4)=false:=ψ h;rw[d,Cs];exact sgh [(3,.bv false),(8,.bv false)] rfl (aF rtT)
theorem aBf (t:Tk) (e:Int):aV Tryz.prog 174 [tkV t,I .i64 e] [] (.pa (x7 zTy .nl .nl 0 e t.pl)) []:=by
 refine bF (n:=10) tok Tryz.func174 rfl rfl rfl ?_;exact sg rfl (sg rfl (aF (rtC trw)))
theorem aNa (t:Tk):aV Tryz.prog 175 [tkV t] [] (B (aIr t)) []:=by
 have hi:=wE t cE;unfold aIr;refine bF (n:=17) tok Tryz.func175 rfl rfl rfl ?_;refine sg rfl (sk 1 rfl (kc hi ?_));refine kz 1 rfl ?_;by_cases h1:t.kind=1
 ·have d:decide (t.kind=1)=true:=φ h1;rw[d,Bool.true_or];exact sgh [(3,.bv true),(7,.bv true),(8,.bv true),(10,.bv true)] rfl (aF rtT)
 have d:decide (t.kind=1)=false:=ψ h1;rw[d,B4];by_cases h2:t.kind=2
 ·have d2:decide (t.kind=2)=true:=φ h2;rw[d2,Bool.true_or];exact sgh [(3,.bv false),(7,.bv false),(8,.bv true),(10,.bv true)] rfl (aF rtT)
 ·have d2:decide (t.kind=2)=false:=ψ h2;rw[d2,B4];exact sgh [(3,.bv false),(7,.bv false),(8,.bv false),(10,.bv false)] rfl (aF rtT)
structure At (L:List Tk) (i:Nat) (R:List Tk):Prop where
 d:L.drop i=R
 e:mU R
 l:L.length≤4001
theorem At.lt {L:List Tk}{i:Nat}{R:List Tk}(h:At L i R):i+R.length=L.length∧1≤R.length:=by
 obtain⟨t,R',g⟩:=h.e.ne;have:=congrArg List.length h.d;rw[Bf] at this;have h1:1≤R.length:=by rw[g,Aa];omega
 omega
theorem At.get {L:List Tk}{i:Nat}{t:Tk}{R:List Tk}(h:At L i (t::R)):L[i]?=some t:=by
 have:=congrArg (fun l=>l[0]?) h.d;simpa [Al] using this
theorem At.to {L:List Tk}{i:Nat}{R p R':List Tk}(h:At L i R) (hs:R=p++R') (he:mU R'):At L (i+p.length) R'∧L.length-R'.length=i+p.length:=by
 have h1:=h.lt;refine⟨⟨?_,he,h.l⟩,?_⟩
 ·rw[←Co,h.d,hs,List.drop_left]
 ·rw[hs,η] at h1;omega
theorem At.next {L:List Tk}{i:Nat}{t:Tk}{R:List Tk}(h:At L i (t::R)) (g:¬t.kind=6):At L (i+1) R∧L.length-R.length=i+1:=h.to (p:=[t]) rfl (h.e.tail g)
theorem At.ok {L:List Tk}{i m:Nat}{R R':List Tk}{x:Ty}(h:At L i R) (k:TOk R m x R'):At L (L.length-R'.length) R'∧i+m≤L.length-R'.length:=by
 obtain⟨p,hs,hp⟩:=k.s;obtain⟨g,q⟩:=h.to hs (k.e h.e);rw[q];exact⟨g,by omega⟩
def aQ4 (L:List Tk) (f:Nat):Prop:=∀(o:Nat) (R:List Tk) (i:Nat),At L i R→3*R.length≤f→o≤40→aV Tryz.prog 173 [nM L,I .i64 (i:Nat),I .i64 (o:Nat)] [] (xV L (cM f o R)) []
def aL3 (L:List Tk) (f:Nat):Prop:=∀(o:Nat) (R:List Tk) (i:Nat),At L i R→3*R.length+2≤f→o≤40→aV Tryz.prog 126 [nM L,I .i64 (i:Nat),I .i64 (o:Nat)] [] (xV L (c8 f o R)) []
theorem aQj (L:List Tk) (f:Nat) (ih:aL3 L f):aQ4 L (f+1):=by
 intro o R i g hf ho;have hkl:(L.map aI).length=L.length:=χ _;have hLl:=g.l;obtain⟨t,R,rfl⟩:=g.e.ne;have J:=g.lt;have M:=g.get;have hti':=bB aI M;rw[Aa] at J hf;rw[cM];refine bF (n:=89) tok Tryz.func173 rfl rfl rfl ?_;refine sg rfl (aA (sgh [(2,.row i (aI t))] rfl (aB rfl (fun hb=>?_) (fun hb=>?_))))
 ·have h2:t.kind=2:=κ hb;rw[θ h2];obtain⟨_,hn⟩:=g.next (by omega)
  rw[q9,hn];exact aA (agN [(2,.row i (aI t))] rfl (aF (rtC trw)))
 rw[ξ (Ae hb)];refine aD (aA (sgh [(2,.row i (aI t))] rfl (aB rfl (fun hb=>?_) (fun hb=>?_))))
 ·have h1:t.kind=1:=κ hb;rw[θ h1];obtain⟨_,hn⟩:=g.next (by omega)
  rw[q9,hn];exact aA (agN [(2,.row i (aI t))] rfl (aF (rtC trw)))
 rw[ξ (Ae hb)];refine aD ?_;have O:=wE t cE;have U:=aBf t 12;have Y:=aBf t 13;refine skh 4 [(2,.row i (aI t))] rfl (kc O ?_);refine kz 1 rfl (aA (sg rfl ?_));cases hl:isT t cE with
 | false=>
  rw[θ rfl];refine aB rfl (fun _=>skh 4 [(2,.row i (aI t))] rfl (kc U ?_)) (fun hb=>absurd hb (by decide));exact kz 1 rfl (aF (rtC trw))
 | true=>
 rw[ξ (by decide)];refine aB rfl (fun hb=>absurd hb (by decide)) (fun _=>aD (aA (sg rfl (aB rfl (fun hb=>?_) (fun hb=>?_)))))
 ·rw[θ (by have:=κ hb;omega)];refine skh 4 [(2,.row i (aI t))] rfl (kc Y ?_);exact kz 1 rfl (aF (rtC trw))
 have E:¬40≤o:=by have:=Ae hb;omega
 rw[ξ E];refine aD ?_;obtain⟨B,_⟩:=g.next (by rw[(bV hl).1];decide)
 have aa:=ih (o+1) R (i+1) B (by omega) (by omega);have hok:=fB f (o+1) R;have A:=dT f (o+1) R;refine aA (aC mixed (akN 5 [] rfl (kc aa ?_)));generalize c8 f (o+1) R=w at hok A ⊢;cases w with
 | error e=>
  obtain⟨e,p⟩:=e;refine akN 2 [] rfl (az ?_);rw[lW];refine aA (sg rfl ?_);have he:=A e p rfl;exact aB rfl (fun _=>sg rfl (aF (rtC trw))) (fun hb=>absurd hb (by simp[he]))
 | ok y=>
  obtain⟨x,R1⟩:=y;obtain⟨hT,_⟩:=hok x R1 rfl;obtain⟨q,hle⟩:=B.ok hT;obtain⟨u,R3,rfl⟩:=q.e.ne;rw[q9];generalize L.length-(u::R3).length=j at *;have ab:=q.get;have huj':=bB aI ab;have hj:=q.lt;rw[Aa] at hj;have I:=wE u lX;have ac:=aBf u 12;refine kz 2 rfl (aA (sg rfl (aB rfl (fun hb=>absurd hb (by decide)) (fun _=>aD (skh 5 [(3,.row j (aI u))] rfl (kc I ?_))))));refine kz 1 rfl (aA (sg rfl ?_));rw[lW];cases hr:isT u lX with
  | false=>
   rw[ξ (by decide)];refine aB rfl (fun _=>skh 5 [(3,.row j (aI u))] rfl (kc ac ?_)) (fun hb=>absurd hb (by decide));exact kz 1 rfl (aF (rtC trw))
  | true=>
   rw[θ rfl];obtain⟨_,hn⟩:=q.next (by rw[(bV hr).1];decide)
   rw[q9,hn];exact aB rfl (fun hb=>absurd hb (by decide)) (fun _=>aD (aA (agN [] rfl (sg rfl (aF (rtC trw))))))
def zX:List AM.R:=[.c (.int .i64 0),.c (.int .i64 0),.c (.str []),.c .nl,.c .nl,.c .nl,.c (.int .i64 0),.c (.int .i64 0),.c (.int .i64 0)]
theorem aQc (L:List Tk) (f:Nat) (ac:∀g,g≤f→aQ4 L g) (ae:∀g,g≤f→aL3 L g):aL3 L (f+1):=by
 intro o R i Y hf ho;have hkl:(L.map aI).length=L.length:=χ _;have hLl:=Y.l;have O:=ac f (le_refl _) o R i Y (by omega) ho;have hok:=gQ f o R;have A:=eM f o R;have af:=Y.lt;rw[c8];refine bF (n:=81) tok Tryz.func126 rfl rfl rfl ?_;refine sg rfl (sk 3 rfl (kc O ?_));generalize cM f o R=w at hok A ⊢;cases w with
 | error e=>
  obtain⟨e,p⟩:=e;have he:=A e p rfl;exact kz 2 rfl (aA (sg rfl (aB rfl (fun _=>sg rfl (aF (rtC trw))) (fun hb=>absurd hb (by simp[he])))))
 | ok y=>
 obtain⟨x,R1⟩:=y;obtain⟨J,_⟩:=hok x R1 rfl;obtain⟨E,hle⟩:=Y.ok J;have hlen:=J.len;have M:=J.w;dsimp only;rw[q9];have key:∃W,W=iI f o x R1:=⟨_,rfl⟩
 obtain⟨W,q⟩:=key;rw[←q];refine kz 2 rfl (aA (sg rfl (aB rfl (fun hb=>absurd hb (by decide)) (fun _=>aD ?_))));obtain⟨u,R2,rfl⟩:=E.e.ne;have U:=E.get;have aa:=bB aI U;have ad:=aNa u;refine skh 5 [(3,.row (L.length-(u::R2).length) (aI u))] rfl (kc ad ?_);refine kz 1 rfl ?_;clear hok A O U aa ad J;refine aA (aE (aL (fun p:Ty×List Tk×Nat=>mk [(0,nM L),(2,I .i64 (o:Nat)),(6,.one (.vp 6 0)),(7,.one (.vp 7 0)),(8,B (aIr (p.2.1.headD ⟨0,[],0,0⟩)))] [(6,.var 154 zX),(7,.var 154 ((x7 p.1 .nl .nl ((L.length-p.2.1.length:Nat):Int) 0 0).map .c))]) (fun p=>At L (L.length-p.2.1.length) p.2.1∧WF p.1∧3*p.2.1.length+1≤p.2.2∧p.2.2≤f∧W=iI p.2.2 o p.1 p.2.1) (fun p=>p.2.2) (x,u::R2,f) ⟨E,M,by dsimp only;omega,le_refl _,q⟩ sl ?_));clear q M E hlen hle Y af hf;rintro⟨x,R1,g⟩ ⟨E,M,hg,hgf,q⟩;dsimp only at E M hg hgf q ⊢;obtain⟨u,R2,rfl⟩:=E.e.ne;obtain⟨g,rfl⟩:∃h,g=h+1:=⟨g-1,by omega⟩
 have U:=E.get;have aa:=bB aI U;have hlt:=E.lt;rw[iI] at q;refine aA (sg rfl (aB rfl (fun hb=>?_) (fun hb=>?_)))
 ·have hb:aIr u=true:=hb;rw[θ hb] at q;have O:=ac g (by omega) o (u::R2) _ E (by omega) ho;have hok:=gQ g o (u::R2);have A:=eM g o (u::R2);refine aD (aE (sk 4 rfl (kc O ?_)));generalize cM g o (u::R2)=w at hok A q ⊢;cases w with
  | error e=>
   obtain⟨e,p⟩:=e;have he:=A e p rfl;dsimp only at q;rw[q];exact kz 2 rfl (aA (sg rfl (aB rfl (fun _=>sg rfl (aF (rtC trw))) (fun hb=>absurd hb (by simp[he])))))
  | ok y=>
   obtain⟨a,R3⟩:=y;obtain⟨J,_⟩:=hok a R3 rfl;obtain⟨ab,hle⟩:=E.ok J;have hlen:=J.len;dsimp only at q;rw[q9];obtain⟨v,R4,rfl⟩:=ab.e.ne;have hvj:=ab.get;have hvj':=bB aI hvj;have hbv:=aNa v;refine kz 2 rfl (aA (sg rfl (aB rfl (fun hb=>absurd hb (by decide)) (fun _=>aD (sgh [(4,.all)] rfl (aC mixed (ak 5 [(3,.row (L.length-(v::R4).length) (aI v))] rfl (kc hbv ?_))))))));exact kz 1 rfl ⟨(qA x a,v::R4,g),⟨ab,tW M J.w,by dsimp only;omega,by dsimp only;omega,q⟩,by dsimp only;omega,sl⟩
 ·have hb:aIr u=false:=hb;rw[ξ (by rw[hb];decide)] at q;have hIs:=wE u arrow;refine aG (skh 5 [(3,.row (L.length-(u::R2).length) (aI u))] rfl (kc hIs ?_));refine kz 1 rfl (aA (sg rfl ?_));cases hl:isT u arrow with
  | false=>
   rw[hl,ξ (by decide)] at q;rw[q];exact aB rfl (fun _=>sg rfl (aF (rtC trw))) (fun hb=>absurd hb (by decide))
  | true=>
   rw[hl,θ rfl] at q;obtain⟨hA2,hn⟩:=E.next (by rw[(bV hl).1];decide)
   rw[Aa] at hg;have hty:=ae g (by omega) o R2 _ hA2 (by omega) ho;have hok:=fB g o R2;have A:=dT g o R2;refine aB rfl (fun hb=>absurd hb (by decide)) (fun _=>aD (aA (aC mixed (akN 5 [] rfl (kc hty ?_)))));generalize c8 g o R2=w at hok A q ⊢;cases w with
   | error e=>
    obtain⟨e,p⟩:=e;have he:=A e p rfl;dsimp only at q;rw[q];exact akN 2 [] rfl (az (aA (sg rfl (aB rfl (fun _=>sg rfl (aF (rtC trw))) (fun hb=>absurd hb (by simp[he]))))))
   | ok y=>
    obtain⟨to,R3⟩:=y;dsimp only at q;rw[q,q9,q9];have hfu:=aWi x to;refine akN 2 [] rfl (az (aA (sg rfl (aB rfl (fun hb=>absurd hb (by decide)) (fun _=>aD (aA (aC mixed (akN 4 [] rfl (kc hfu ?_)))))))));exact akN 4 [] rfl (az (aF (rtC trw)))
theorem aMc (L:List Tk):∀f,(∀g,g≤f→aQ4 L g)∧∀g,g≤f→aL3 L g:=by
 intro f
 induction f with
 | zero=>
  refine⟨fun g u o R i y A=>?_,fun g u o R i y A=>?_⟩
  ·have:=y.lt;omega
  ·have:=y.lt;omega
 | succ f q=>
  refine⟨fun g u=>?_,fun g u=>?_⟩
  ·by_cases h:g≤f
   ·exact q.1 g h
   ·rw[show g=f+1 by omega];exact aQj L f (q.2 f (le_refl _))
  ·by_cases h:g≤f
   ·exact q.2 g h
   ·rw[show g=f+1 by omega];exact aQc L f q.1 q.2
def mV (o:List Str) (s:Str):List Str:=if s∈o then o else o++[s]
def eH (o l:List Str):List Str:=l.foldl mV o
theorem oF (o l m:List Str):eH o (l++m)=eH (eH o l) m:=by unfold eH;rw[foldl_append]
theorem aAh {s:Str}:∀(l o:List Str),s∈eH o l↔s∈o∨s∈l
 | [],o=>by unfold eH;simp
 | x::l,o=>by
  show s∈eH (mV o x) l↔_;rw[aAh l];unfold mV;split
  ·rename_i h;constructor
   ·rintro(g | g)
    ·exact .inl g
    ·exact .inr (Bh _ g)
   ·rintro(g | g)
    ·exact .inl g
    ·rcases Au.1 g with rfl | g
     ·exact .inl h
     ·exact .inr g
  ·rw[Ay,Ar,Au];exact or_assoc
theorem aJ0 {s:Str}(o l:List Str):eH o (mV l s)=mV (eH o l) s:=by
 by_cases h:s∈l
 ·have:s∈eH o l:=(aAh l o).2 (.inr h)
  unfold mV;rw[θ h,θ this]
 ·unfold mV;rw[ξ h,oF];rfl
theorem aFm (o p:List Str):∀l:List Str,eH o (eH p l)=eH (eH o p) l:=by
 intro l
 induction l generalizing p with
 | nil=>rfl
 | cons x l g=>
  show eH o (eH (mV p x) l)=eH (mV (eH o p) x) l;rw[g,aJ0]
theorem iT:∀(l o:List Str),(eH o l).length≤o.length+l.length
 | [],o=>le_refl _
 | x::l,o=>by
  have:=iT l (mV o x);have h1:(mV o x).length≤o.length+1:=by unfold mV;split<;>simp
  show(eH (mV o x) l).length≤_;rw[Aa];omega
mutual
def frA:List Str→Ty→List Str
 | o,.mk f _ s a=>if f=2 then mV o s else tT o a
def tT:List Str→List Ty→List Str
 | o,[]=>o
 | o,t::l=>tT (frA o t) l
end
theorem zD {f:Int}{s:Str}(h:¬f=5):∀(l o:List Str),tR f s o l=eH o l
 | [],_=>rfl
 | x::l,o=>by
  have:jL f s o x=mV o x:=by
   unfold jL mV;by_cases hx:x∈o
   ·rw[θ hx,ξ (fun h=>h.1 hx)]
   ·rw[ξ hx,θ ⟨hx,.inl h⟩]
  show tR f s (jL f s o x) l=eH (mV o x) l;rw[this];exact zD h l _
def gA (o:List Str) (l:List Ty):List Str:=l.foldl (fun o t=>eH o (tfR t)) o
theorem aM0 (o:List Str):∀(l:List Ty) (p:List Str),eH o (gA p l)=gA (eH o p) l
 | [],_=>rfl
 | t::l,p=>by
  show eH o (gA (eH p (tfR t)) l)=gA (eH (eH o p) (tfR t)) l;rw[aM0 o l,aFm]
theorem aMf {f:Int}{s:Str}(h:¬f=5) (l:List Ty) (o:List Str):aI2 f s l o=gA o l:=by
 rw[rK];unfold tfL gA;congr 1;funext o t;exact zD h _ _
mutual
theorem aS1:∀(t:Ty) (o:List Str),nF t=true→frA o t=eH o (tfR t)
 | .mk f n s a,o,h=>by
  rw[nF,ε] at h;have g:¬f=5:=by simpa using h.1
  rw[frA,tfR];by_cases h2:f=2
  ·rw[θ h2,θ h2];rfl
  ·rw[ξ h2,ξ h2,aF3 a o h.2,aMf g,aM0];rfl
theorem aF3:∀(l:List Ty) (o:List Str),nFs l=true→tT o l=gA o l
 | [],_,_=>rfl
 | t::l,o,h=>by
  rw[nFs,ε] at h;rw[tT,aS1 t o h.1,aF3 l _ h.2];rfl
end
theorem aF5 (o:List Str) (l:List Ty) (x:Ty):tT o (l++[x])=frA (tT o l) x:=by
 induction l generalizing o with
 | nil=>rw[A2,tT,tT,tT]
 | cons t l g=>rw[A4,tT,tT,g]
theorem aRp (t:Ty) (h:nF t=true) (o:List Str):(frA o t).length≤o.length+tn t:=by
 rw[aS1 t o h];have:=iT (tfR t) o;have:=lU t;omega
def oV (l:List Str):V:=.one (.hs 710 0 l.length l.length)
def oO (l:List Str):AObj:=.arr 9 1 (l.map aX) 1
theorem aKc {l:List Ty}{o:List Str}{i:Nat}{x:Ty}(h:l[i]?=some x):tT o (l.take (i+1))=frA (tT o (l.take i)) x:=by rw[Bg,h];exact aF5 _ _ _
theorem aOs {l:List Ty}(h:nFs l=true):∀u∈l,nF u=true:=by
 induction l with
 | nil=>intro u hu;cases hu
 | cons t l g=>
  rw[nFs,ε] at h;intro u hu;rcases Au.1 hu with rfl | hu
  ·exact h.1
  ·exact g h.2 u hu
theorem aAt:∀(l:List Ty) (o:List Str),nFs l=true→(tT o l).length≤o.length+tns l
 | [],o,_=>le_refl _
 | t::l,o,h=>by
  rw[nFs,ε] at h;rw[tT,tns];have h1:=aRp t h.1 o;have h2:=aAt l (frA o t) h.2;omega
theorem aJx {l:List Ty}(h:nFs l=true) (i:Nat):nFs (l.take i)=true:=by
 induction l generalizing i with
 | nil=>rw[List.take_nil];rfl
 | cons t l g=>
  rw[nFs,ε] at h;cases i with
  | zero=>rfl
  | succ i=>rw[Az,nFs,h.1,g h.2 i];rfl
theorem aMe:∀{l:List Ty}{i:Nat}{x:Ty},l[i]?=some x→tns (l.take i)+tn x≤tns l
 | t::l,0,x,h=>by
  have e:t=x:=by simpa using h
  subst e;rw[Cz,tns,tns];omega
 | t::l,i+1,x,h=>by
  have:=aMe (l:=l) (i:=i) (by simpa using h);rw[Az,tns,tns];omega
theorem aTz:∀(k:Nat) (t:Ty),tn t≤k→wfS t=true→nF t=true→∀o:List Str,o.length+tn t≤1000000→aV Tryz.prog 177 [tyV t,bJ [],oV o] [(710,oO o)] (oV (frA o t)) [(710,oO (frA o t))]
 | 0,t,h,_,_=>by have:=tZ t;omega
 | k+1,.mk f n s a,h,hw,hn=>by
  intro o ho;obtain⟨w1,M,_⟩:=aD0 hw;rw[nF,ε] at hn;have O:¬f=5:=by simpa using hn.1
  rw[tn] at h ho;rw[frA];have Y:(o.map aX).length=o.length:=χ _;have y:(cW a).length=a.length:=by rw[eW,χ]
  refine bF (n:=55) tok Tryz.func177 rfl rfl rfl ?_;refine sg rfl (aA (sg rfl (aB rfl (fun hb=>?_) (fun hb=>?_))))
  ·have h2:f=2:=κ hb;rw[θ h2];have aa:=aG9 [] s (by unfold Fits;decide);have ab:=aG9 o s (by unfold Fits;omega);refine AWp.sub (Sub.freeze (id:=710) rfl) ?_;refine aA (aA (agF 5 [(3,.pc (B (decide (s∈([]:List Str))))),(8,.pc (B (decide (s∈o))))] rfl rfl rfl ?_));have A:decide (s∈([]:List Str))=false:=ψ (by simp);refine aB rfl (fun hb=>?_) (fun hb=>?_)
   ·have hm:s∈o:=by
     rw[A] at hb;exact κ (show decide (s∈o)=true from hb)
    unfold mV;rw[θ hm];exact sg rfl (aF rtT)
   ·have hm:¬s∈o:=by
     rw[A] at hb;exact Ae (show decide (s∈o)=false from hb)
    unfold mV;rw[ξ hm];refine aD (sg rfl (AWp.sub (st2:=mk [(6,oV (o++[s]))] [(710,oO (o++[s]))]) sl ?_));exact aF rtT
  ·have h2:¬f=2:=Ae hb;rw[ξ h2];refine aD ?_;have d5:decide (f=5)=false:=ψ O;refine aA (sg rfl (aB rfl (fun hb=>absurd (hb.symm.trans d5) (by decide)) (fun _=>aD (aA (sg rfl (aE (aL (fun i:Nat=>mk [(1,bJ []),(2,oV (tT o (a.take i))),(3,.one (.vp 3 0)),(8,I .i64 i)] [(3,.var 31 ((cF (.mk f n s a)).map R.c)),(710,oO (tT o (a.take i)))]) (fun i=>i≤a.length) (fun i=>a.length-i) 0 (Ad _) sl ?_)))))));intro i hi;refine aA (sg rfl (aB rfl (fun hb=>?_) (fun hb=>?_)))
   ·have E:=ltD hb y;obtain⟨u,g⟩:=aM E;have q:=Ag g;have U:(cW a)[i]?=some (cF u):=by rw[eW];exact bB cF g
    have h3:=aMe g;have h4:=aAt (a.take i) o (aJx hn.2 i);have hc:=aTz k u (by have:=mY q;omega) (M u q) (aOs hn.2 u q) (tT o (a.take i)) (by omega);rw[←aKc g] at hc;refine aD (aA (aE (aC mixed (ak 7 [(3,.row i (cF u))] rfl (kc hc ?_)))));exact kz 1 rfl (ag [] rfl ⟨i+1,E,by dsimp only;omega,sl⟩)
   ·have J:=geD hb y hi;subst J;rw[Ao];exact aG (sg rfl (aF rtT))
theorem aU9:∀t:Ty,nF t=true→tfR t=frA [] t
 | .mk f n s a,h=>by
  rw[nF,ε] at h;have g:¬f=5:=by simpa using h.1
  rw[frA,tfR];by_cases h2:f=2
  ·rw[θ h2,θ h2];rfl
  ·rw[ξ h2,ξ h2,aF3 a [] h.2,aMf g]
theorem aHo (t:Ty) (hw:WF t) (hl:tn t≤1000000):aV Tryz.prog 128 [tyV t] [] (bJ (tfR t)) []:=by
 have h0:=aTz (tn t) t (le_refl _) hw.1 hw.2 [] (by rw[length_nil];omega);have h1:=aV.nilArg (pre:=[tyV t,bJ []]) (post:=[]) (hin:=[]) h0 rfl;rw[←aU9 t hw.2] at h1;have h2:=h1.plain (by simp);refine bF (n:=5) tok Tryz.func128 rfl rfl rfl ?_;refine sg rfl (sk 1 rfl (kc h2 ?_));exact kz 1 rfl (aF rtT)
theorem aGs (o l:List Str) (ho:o.length+l.length≤1000000000):aV Tryz.prog 127 [oV o,bJ l] [(710,oO o)] (oV (eH o l)) [(710,oO (eH o l))]:=by
 have u:(l.map aX).length=l.length:=χ _;refine bF (n:=27) tok Tryz.func127 rfl rfl rfl ?_;refine sg rfl (aA (sg rfl (aE (aL (fun i:Nat=>mk [(0,oV (eH o (l.take i))),(1,bJ l),(5,I .i64 i)] [(710,oO (eH o (l.take i)))]) (fun i=>i≤l.length) (fun i=>l.length-i) 0 (Ad _) sl ?_))));intro i hi;refine aA (sg rfl (aB rfl (fun hb=>?_) (fun hb=>?_)))
 ·have q:=ltD hb u;obtain⟨s,hs⟩:=aM q;have J:=bB aX hs;have g:eH o (l.take (i+1))=mV (eH o (l.take i)) s:=by rw[Bg,hs,oF];rfl
  have A:(eH o (l.take i)).length≤1000000000:=by
   have:=iT (l.take i) o;rw[Aj] at this;omega
  have y:=aG9 (eH o (l.take i)) s (by unfold Fits;omega);generalize eH o (l.take i)=m at g A y ⊢;have E:(m.map aX).length=m.length:=χ _;refine aD (AWp.sub (Sub.freeze (id:=710) rfl) ?_);refine aA (aE (skh 5 [(3,.row i (aX s))] rfl (kc y ?_)));refine kz 1 rfl (aB rfl (fun hb=>?_) (fun hb=>?_))
  ·have hm:¬s∈m:=fun h=>by rw[φ h] at hb;cases hb
   unfold mV at g;rw[ξ hm] at g;refine ag [(3,.row i (aX s))] rfl (ag [] rfl ⟨i+1,q,by dsimp only;omega,?_⟩);dsimp only;rw[g];exact sl
  ·have hm:s∈m:=by
    by_cases h:s∈m
    ·exact h
    ·rw[ψ h] at hb;cases hb
   unfold mV at g;rw[θ hm] at g;refine aD (ag [] rfl ⟨i+1,q,by dsimp only;omega,?_⟩);dsimp only;rw[g];exact sl
 ·have B:=geD hb u hi;subst B;rw[Ao];exact aG (sg rfl (aF rtT))
structure Prd where
 cls:Str
 ty:Ty
def aR (p:Prd):List C:=[.str p.cls,.int .i64 p.ty.form,.int .i64 p.ty.n,.str p.ty.name,.sl 4 (dD p.ty)]
def nT:Str:=[44]
def darrow:Str:=[61,62]
def gU:Nat→Bool→List Tk→List Prd→Option (List Prd×List Tk)
 | 0,_,_,_=>none
 | _+1,_,[],_=>none
 | f+1,b,t::R,out=>
  if t.kind=2 then(match cM (3*R.length) (if b=true then 1 else 0) R with
   | .error _=>none
   | .ok (_,[])=>none
   | .ok (x,u::R2)=>if(b&&isT u nT)=true then gU f b R2 (out++[⟨t.text,x⟩]) else some (out++[⟨t.text,x⟩],u::R2))
  else none
abbrev PR:=Except PE (List Prd×List Tk)
def yQ (at':Int) (R0:List Tk) (out:List Prd):List Tk→PR
 | []=>.ok ([],R0)
 | u::R=>if isT u darrow=true then(if 16<out.length then .error (2,at') else .ok (out,R)) else .ok ([],R0)
def brP (at':Int) (R0:List Tk) (b:Bool) (out:List Prd):List Tk→PR
 | []=>.ok ([],R0)
 | u::R=>if b=true then(if isT u lX=true then yQ at' R0 out R else .ok ([],R0)) else yQ at' R0 out (u::R)
def jK (at':Int) (R0:List Tk) (b:Bool):Option (List Prd×List Tk)→PR
 | none=>.ok ([],R0)
 | some (out,R1)=>brP at' R0 b out R1
def cQ:List Tk→PR
 | []=>.ok ([],[])
 | t::R=>jK t.pl (t::R) (isT t cE) (gU ((t::R).length+1) (isT t cE) (if isT t cE=true then R else t::R) [])
structure POk (R:List Tk) (out:List Prd) (R':List Tk) (m:Nat):Prop where
 e:mU R→mU R'
 s:∃p,R=p++R'∧m≤p.length
 w:∀p∈out,WF p.ty∧tn p.ty≤wt R
 l:out.length≤R.length
theorem lS {p R:List Tk}:wt R≤wt (p++R):=by unfold wt;rw[Ai,List.sum_append];omega
theorem s7:∀(f:Nat) (b:Bool) (R:List Tk) (out:List Prd) (g:List Prd) (R':List Tk) (W n:Nat),wt R≤W→(∀p∈out,WF p.ty∧tn p.ty≤W)→out.length+R.length≤n→gU f b R out=some (g,R')→
  (mU R→mU R')∧(∃p,R=p++R'∧1≤p.length)∧(∀p∈g,WF p.ty∧tn p.ty≤W)∧g.length≤n
 | 0,_,_,_,_,_,_,_,_,_,_,h=>by rw[gU] at h;cases h
 | _+1,_,[],_,_,_,_,_,_,_,_,h=>by rw[gU] at h;cases h
 | f+1,b,t::R,out,g,R',W,n,J,ho,hn,h=>by
  rw[gU] at h;by_cases h2:t.kind=2
  ·rw[θ h2] at h;have hok:=gQ (3*R.length) (if b=true then 1 else 0) R;generalize cM (3*R.length) (if b=true then 1 else 0) R=w at hok h;cases w with
   | error e=>cases h
   | ok y=>
    obtain⟨x,R1⟩:=y;obtain⟨⟨E,⟨p,B,g3⟩,M⟩,O⟩:=hok x R1 rfl;rw[cB] at J;rw[Aa] at hn;have I:R1.length+1≤R.length:=by rw[B,η];omega
    have A:∀q∈out++[(⟨t.text,x⟩:Prd)],WF q.ty∧tn q.ty≤W:=fun q hq=>by
     rcases Ay.1 hq with hq | hq
     ·exact ho q hq
     ·rw[Ar.1 hq];exact⟨M,by show tn x≤W;omega⟩
    cases R1 with
    | nil=>cases h
    | cons u R2=>
     dsimp only at h;split at h
     ·rename_i hc;rw[ε] at hc;have hu:=bV hc.2;rw[cB] at O;rw[Aa] at I;obtain⟨U,⟨q,Y,k3⟩,k4,k5⟩:=s7 f b R2 (out++[⟨t.text,x⟩]) g R' W n (by omega) A (by rw[η,Bj];omega) h;exact⟨fun he=>U ((E (he.tail (by omega))).tail (by omega)),⟨t::(p++u::q),by rw[B,Y];simp,by simp⟩,k4,k5⟩
     ·cases h;exact⟨fun he=>E (he.tail (by omega)),⟨t::p,by rw[B];rfl,by simp⟩,A,by rw[η,Bj];omega⟩
  ·rw[ξ h2] at h;cases h
theorem aNl {a:Int}{R0 R1:List Tk}{out g:List Prd}{R':List Tk}(hs:(mU R0→mU R1)∧∃p,R0=p++R1) (ho:∀p∈out,WF p.ty∧tn p.ty≤wt R0) (hl:out.length≤R0.length) (h:yQ a R0 out R1=.ok (g,R')):POk R0 g R' 0:=by
 have q:POk R0 [] R0 0:=⟨id,⟨[],rfl,le_refl _⟩,fun p hp=>by(cases hp),Ad _⟩
 cases R1 with
 | nil=>rw[yQ] at h;cases h;exact q
 | cons u R=>
  rw[yQ] at h;split at h
  ·rename_i hu;split at h
   ·cases h
   ·cases h;obtain⟨h1,p,h2⟩:=hs;exact⟨fun he=>(h1 he).tail (by rw[(bV hu).1];decide),⟨p++[u],by rw[h2];simp,Ad _⟩,ho,hl⟩
  ·cases h;exact q
theorem kL {R:List Tk}{out:List Prd}{R':List Tk}(h:cQ R=.ok (out,R')):POk R out R' 0:=by
 have A:POk R [] R 0:=⟨id,⟨[],rfl,le_refl _⟩,fun p hp=>by(cases hp),Ad _⟩
 cases R with
 | nil=>rw[cQ] at h;cases h;exact A
 | cons t R=>
  rw[cQ] at h;have g:(mU (t::R)→mU (if isT t cE=true then R else t::R))∧(∃p,t::R=p++(if isT t cE=true then R else t::R)):=by
   by_cases hb:isT t cE=true
   ·rw[θ hb];exact⟨fun he=>he.tail (by rw[(bV hb).1];decide),[t],rfl⟩
   ·rw[ξ hb];exact⟨id,[],rfl⟩
  have hw:wt (if isT t cE=true then R else t::R)≤wt (t::R):=by
   split
   ·rw[cB];omega
   ·exact le_refl _
  have hlen:(if isT t cE=true then R else t::R).length≤(t::R).length:=by split<;>simp
  have hok:=s7 ((t::R).length+1) (isT t cE) (if isT t cE=true then R else t::R) [];generalize (if isT t cE=true then R else t::R)=Q at g hw hlen hok h;generalize isT t cE=b at hok h;cases hp:gU ((t::R).length+1) b Q [] with
  | none=>rw[hp,jK] at h;cases h;exact A
  | some y=>
   obtain⟨J,R1⟩:=y;rw[hp,jK] at h;obtain⟨M,⟨q,O,k3⟩,E,I⟩:=hok J R1 (wt (t::R)) (t::R).length hw (fun p hp=>by cases hp) (by rw[length_nil];omega) hp;obtain⟨h1,p,h2⟩:=g;have B:(mU (t::R)→mU R1)∧∃p,t::R=p++R1:=⟨fun he=>M (h1 he),p++q,by rw[h2,O,An]⟩
   cases R1 with
   | nil=>rw[brP] at h;cases h;exact A
   | cons u R2=>
    rw[brP] at h;split at h
    ·split at h
     ·rename_i hu;obtain⟨U,Y,h4⟩:=B;exact aNl ⟨fun he=>(U he).tail (by rw[(bV hu).1];decide),Y++[u],by rw[h4];simp⟩ E I h
     ·cases h;exact A
    ·exact aNl B E I h
end Go.Proofs.YtkhgpgihmphfdaaGreat
