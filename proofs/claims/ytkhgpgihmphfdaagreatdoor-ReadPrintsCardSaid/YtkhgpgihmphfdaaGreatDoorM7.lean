/-
  Texts Rd9 to Rd18 in one.
-/
import Derived.Test.YtkhgpgihmphfdaaGreatDoorM6
open List (append_assoc cons_append drop_drop drop_eq_getElem_cons drop_length drop_zero foldl_append length_append length_cons length_drop length_map length_nil length_singleton length_take map_append map_cons mem_append mem_cons mem_cons_of_mem mem_cons_self mem_of_mem_take mem_singleton nil_append not_mem_nil sum_append sum_cons take_add_one take_append_drop take_length take_nil take_succ_cons take_zero)
open Nat (add_mul le_refl le_trans lt_irrefl mul_le_mul_right zero_le)
namespace Go.Proofs.YtkhgpgihmphfdaaGreatDoor
open Go Go.AM
set_option maxRecDepth 20000
set_option maxHeartbeats 4000000
theorem aC6 (f:FuncId) (p:Nat→Bool) (s:Str) (hl:s.length≤4001) (u:a09 Tryz.prog f=true) (J:∀c∈s,aW Tryz.prog f [I .u8 (c.toNat:Nat)] [] (B (p c.toNat)) []):aW Tryz.prog 59 [Go.AM.T s,.one (.clo f [])] [] (I .i64 (cN p s)) []:=by
 have O:=iF p s;refine b9 (n:=20) tok Tryz.func59 rfl rfl rfl ?_;refine sg rfl (sg rfl (aA (aF (aJ (fun j:Nat=>mk [(0,Go.AM.T s),(1,.one (.clo f [])),(5,I .i64 j)] []) (fun j=>j≤cN p s) (fun j=>cN p s-j) 0 (Ab _) sl ?_))));intro j hj;by_cases y:j<s.length
 ·obtain⟨d,A⟩:=aG y;have q:=oK p s j hj d A;have E:=J d (ε A);have M:decide ((j:Int)<(s.length:Int))=true:=θ (by omega);refine aA (skh 9 [(4,.bv true),(8,.byte j d)] rfl (kvG (caps:=[]) (args:=[I .u8 (d.toNat:Nat)]) (hin:=[]) (hout:=[]) E ?_ (hb:=aMm u)));refine ak 1 [(4,.bv true),(10,.bv true)] rfl (az (aB rfl (fun hb=>?_) (fun hb=>?_)))
  ·exact aD (aF (ag [] rfl ⟨j+1,q.1 hb,by dsimp only;have:=q.1 hb;omega,sl⟩))
  ·have e:j=cN p s:=by
    have:¬j<cN p s:=fun h=>by rw[q.2 h] at hb;cases hb
    omega
   refine aH ?_;rw[←e];exact sg rfl (aE rtT)
 ·have e:j=cN p s:=by omega
  have M:decide ((j:Int)<(s.length:Int))=false:=φ (by omega);refine aA (sgh [(4,.bv false),(10,.bv false)] rfl (aB rfl (fun hb=>absurd hb (by decide)) (fun _=>aH ?_)));rw[←e];exact sg rfl (aE rtT)
theorem aBh (s x:Str):aW Tryz.prog 101 [Go.AM.T s,Go.AM.T x] [] (B (preB x s)) []:=by
 unfold preB;refine b9 (n:=18) tok Tryz.func101 rfl rfl rfl ?_;refine sg rfl ?_;by_cases h:x.length≤s.length
 ·have d1:decide ((x.length:Int)≤(s.length:Int))=true:=θ (by omega);rw[θ h,Cd];exact sgh [(5,.bv true),(12,.bv true)] rfl (aE rtT)
 ·have d1:decide ((x.length:Int)≤(s.length:Int))=false:=φ (by omega);rw[φ h,B6];exact sgh [(5,.bv false),(12,.bv false)] rfl (aE rtT)
theorem uA (s x:Str):aW Tryz.prog 58 [Go.AM.T s,Go.AM.T x] [] (B (preB x s)) []:=by
 have h:=aBh s x;refine b9 (n:=8) tok Tryz.func58 rfl rfl rfl ?_;exact sg rfl (sgh [(2,.pc (B (preB x s)))] rfl (aE rtT))
theorem aVx:aW Tryz.prog 108 [] [] (bU tS) []:=by
 refine b9 (n:=2) tok Tryz.func108 rfl rfl rfl ?_;exact sg rfl (sgh [(0,.all)] rfl (aE rtT))
theorem aHz:aW Tryz.prog 109 [] [] (bU uP) []:=by
 refine b9 (n:=2) tok Tryz.func109 rfl rfl rfl ?_;exact sg rfl (sgh [(0,.all)] rfl (aE rtT))
def yM (a b:Int):Int:=if b<a then b else a
def aKf:Str→Int→Int
 | [],k=>k
 | c::s,k=>aKf s (yM (k*10+((c.toNat:Int)-48)) 2147483648)
theorem aP1 (s:Str) (hl:s.length≤4001) (U:∀c∈s,48≤c.toNat∧c.toNat≤57):aW Tryz.prog 103 [Go.AM.T s] [] (I .i64 (aKf s 0)) []:=by
 refine b9 (n:=21) tok Tryz.func103 rfl rfl rfl ?_;refine sg rfl (sg rfl (aA (sg rfl (aF (aJ (fun p:Nat×Int=>mk [(0,Go.AM.T s),(3,I .i64 p.2),(6,I .i64 (s.length:Nat)),(7,I .i64 p.1)] []) (fun p=>p.1≤s.length∧0≤p.2∧p.2≤2147483648∧aKf (s.drop p.1) p.2=aKf s 0) (fun p=>s.length-p.1) (0,0) ⟨Ab _,by decide,by decide,rfl⟩ sl ?_)))));rintro⟨i,k⟩ ⟨hi,J,M,q⟩;dsimp only at hi J M q ⊢;refine sg rfl (aA (aB rfl (fun hb=>?_) (fun hb=>?_)))
 ·have B:i<s.length:=by have:=κ hb;omega
  obtain⟨d,u⟩:=aG B;obtain⟨g1,g2⟩:=U d (ε u);have O:s.drop i=d::s.drop (i+1):=by
   obtain⟨Y,q2⟩:=Ah.1 u;rw[Az Y,q2]
  rw[O,aKf] at q;refine aD ?_;have y:IntKind.wrap .u8 ((d.toNat:Int)-48)=(d.toNat:Int)-48:=by unfold IntKind.wrap;simp[IntKind.bits,IntKind.signed];omega
  have A:IntKind.wrap .i64 ((d.toNat:Int)-48)=(d.toNat:Int)-48:=B5 _ (by omega);refine aA (aF (sg rfl (ag [(4,.byte i d)] rfl ?_ (hc:=⟨⟨by rw[y,A];omega,by rw[y,A];omega⟩,⟨rfl,u⟩,⟨by omega,by omega⟩,trivial⟩))));rw[y,A];refine ag [] rfl ?_;have E:0≤yM (k*10+((d.toNat:Int)-48)) 2147483648∧yM (k*10+((d.toNat:Int)-48)) 2147483648≤2147483648:=by unfold yM;split<;>omega
  exact⟨(i+1,yM (k*10+((d.toNat:Int)-48)) 2147483648),⟨B,E.1,E.2,q⟩,by dsimp only;omega,sl⟩
 ·have e:i=s.length:=by have:=Ac hb;omega
  rw[e,Ch,aKf] at q;rw[←q];exact aH (sg rfl (aE rtT))
theorem aEr:∀s:Str,(∀c∈s,48≤c.toNat∧c.toNat≤57)→aKf s 2147483648=2147483648
 | [],_=>rfl
 | c::s,h=>by
  have:=h c Bt;rw[aKf,show yM (2147483648*10+((c.toNat:Int)-48)) 2147483648=2147483648 by unfold yM;split<;>omega];exact aEr s fun d q=>h d (Bf _ q)
theorem aYn:∀(s:Str) (k:Int),(∀c∈s,48≤c.toNat∧c.toNat≤57)→2147483648≤k→2147483648≤kR s k
 | [],k,_,h=>h
 | c::s,k,hs,h=>by
  have:=hs c Bt;rw[kR];split
  ·exact aYn s _ (fun d q=>hs d (Bf _ q)) (by omega)
  ·exact h
theorem aRo:∀(s:Str) (k:Int),(∀c∈s,48≤c.toNat∧c.toNat≤57)→0≤k→k≤2147483647→aKf s k=yM (kR s k) 2147483648
 | [],k,_,_,h=>by rw[aKf,kR];unfold yM;rw[η (by omega)]
 | c::s,k,hs,h0,h=>by
  have h1:=hs c Bt;have h2:∀d∈s,48≤d.toNat∧d.toNat≤57:=fun d q=>hs d (Bf _ q)
  rw[aKf,kR,ζ (by omega)];by_cases u:k*10+((c.toNat:Int)-48)≤2147483647
  ·rw[show yM (k*10+((c.toNat:Int)-48)) 2147483648=k*10+((c.toNat:Int)-48) by unfold yM;rw[η (by omega)]];exact aRo s _ h2 (by omega) u
  ·rw[show yM (k*10+((c.toNat:Int)-48)) 2147483648=2147483648 by unfold yM;split<;>omega,aEr s h2];have:=aYn s (k*10+((c.toNat:Int)-48)) h2 (by omega);unfold yM;split<;>omega
theorem a2b (c:Nat):nmQ c 97 122=wiB c 97 122:=by
 unfold nmQ fiB wiB plB;rw[Bz];simp;omega
theorem a2a (c:Nat):nmQ c 65 90=wiB c 65 90:=by
 unfold nmQ fiB wiB plB;rw[Bz];simp;omega
theorem a2c (c:Nat) (h:wiB c 97 122=true):wiB c 65 90=false:=by
 unfold wiB at *;simp at *;omega
theorem aNx {c:UInt8}{r:Str}(h:wiB c.toNat 65 90=true) (hs:sgB c.toNat=true):¬(c::r).take (cN sgB (c::r))∈tS:=fun hm=>by
 rw[cN,ζ hs,A3] at hm;have:c=99∨c=100∨c=105∨c=108∨c=111:=by
  unfold tS at hm;simp only[Aq,List.cons.injEq,not_mem_nil,or_false] at hm;rcases hm with⟨h,_⟩ | ⟨h,_⟩ | ⟨h,_⟩ | ⟨h,_⟩ | ⟨h,_⟩ | ⟨h,_⟩ | ⟨h,_⟩<;>simp[h]
 unfold wiB at h;rcases this with rfl | rfl | rfl | rfl | rfl<;>exact absurd h (by decide)
theorem aZ7 (c:UInt8):aW Tryz.prog 102 [I .u8 (c.toNat:Nat)] [] (B (dgB c.toNat)) []:=by
 have h:=uC a06 c;rw[←a2o c];refine b9 (n:=6) tok Tryz.func102 rfl rfl rfl ?_;exact sg rfl (sgh [(1,.pc (I .i64 (Lib.indexByte a06 c)))] rfl (aE rtT))
def kJ:Code→Code | .seq _ b=>b | c=>c
noncomputable def a3y (c:Code):Code:=kJ (kJ (kJ (kJ c)))
def aPh:TE→Int
 | .ok _=>0
 | .error e=>e
theorem aZx (c:UInt8) (r:Str) (hl:r.length≤4000):∃(k0:Int) (t0:Str) (v0:Int),aW Tryz.prog 61 [Go.AM.T (c::r)] [] (.tup [.pa [.int .i64 k0,.str t0,.int .i64 v0,.int .i64 0],I .i64 (aPh (jE (c::r)))]) []∧∀k t v,jE (c::r)=.ok (k,t,v)→k0=k∧t0=t∧v0=v:=by
 have hSl:(c::r).length≤4001:=by rw[ω];omega
 have E:=aC6 102 dgB (c::r) hSl (by kernel_rfl) fun d A=>aZ7 d
 have hw2:=aC6 106 sgB (c::r) hSl (by kernel_rfl) fun d _=>aP4 d
 have J:=aQh c;have M:=aQf c;rw[a2b] at J;rw[a2a] at M;have ht1:(c::r).take 1=[c]:=rfl;by_cases A:dgB c.toNat=true
 ·have B:∀d∈(c::r).take (cN dgB (c::r)),48≤d.toNat∧d.toNat≤57:=fun d A=>by
   obtain⟨j,hj⟩:=List.getElem?_of_mem A;rw[An] at hj;split at hj
   ·rename_i O;exact κ ((oK dgB (c::r) j (by omega) d hj).2 O)
   ·cases hj
  have y:jE (c::r)=if 2147483647<kR ((c::r).take (cN dgB (c::r))) 0 then .error 11 else .ok (3,(c::r).take (cN dgB (c::r)),kR ((c::r).take (cN dgB (c::r))) 0):=by rw[jE,ζ A]
  have hnum:=aP1 ((c::r).take (cN dgB (c::r))) (by rw[Ai];omega) B;rw[aRo _ 0 B (by decide) (by decide)] at hnum;have hN1:0<cN dgB (c::r):=by rw[cN,ζ A];omega
  have hNl:=iF dgB (c::r);rw[y];clear B y J M hw2 ht1;generalize cN dgB (c::r)=N at *;generalize c::r=S at *;generalize hK:kR (S.take N) 0=K at *;refine⟨3,S.take N,yM K 2147483648,?_,fun k t v h=>?_⟩
  ·refine b9 (n:=67) tok Tryz.func61 rfl rfl rfl ?_;refine sg rfl (aA (sk 1 rfl (kc E ?_)));refine kz 1 rfl ?_;have dN:decide ((0:Int)<(N:Int))=true:=θ (by omega);refine sg rfl (aB rfl (fun _=>aA (aC mixed (akN 6 [] rfl (kc hnum ?_)))) (fun hb=>absurd (hb.symm.trans dN) (by decide)));refine akN 3 [] rfl (az (aA (sg rfl ?_)));by_cases hk:2147483647<K
   ·rw[ζ hk];refine aB rfl (fun _=>?_) (fun hb=>?_)
    ·exact sg rfl (aE (aEa trw))
    ·have:=Ac hb;unfold yM at this;split at this<;>omega
   ·rw[η hk];refine aB rfl (fun hb=>?_) (fun _=>?_)
    ·have:=κ hb;unfold yM at this;split at this<;>omega
    ·exact aD (sg rfl (aE (aEa trw)))
  ·split at h
   ·cases h
   ·rename_i hk;cases h;exact⟨rfl,rfl,by unfold yM;rw[η (by omega)]⟩
 ·have hS1:1≤(c::r).length:=by rw[ω];omega
  have hN0:cN dgB (c::r)=0:=by rw[cN,η A]
  rw[hN0] at E;have y:jE (c::r)=if wiB c.toNat 97 122=true∨wiB c.toNat 65 90=true then pE (c::r) (wiB c.toNat 65 90) else if qL (c::r)=[] then .error 10 else .ok (4,qL (c::r),0):=by rw[jE,η A]
  have hnk:= @aNx c r;have hsg:wiB c.toNat 97 122=true∨wiB c.toNat 65 90=true→sgB c.toNat=true:=fun h=>by
   rcases h with h | h
   ·have:=aJb c.toNat;rw[h] at this;simpa using this
   ·have:=aJa c.toNat;rw[h] at this;simpa using this
  have hlu:=a2c c.toNat;have hsy:qL (c::r)=(match uP.find? (fun x=>preB x (c::r)) with | some x=>x | none=>[]):=rfl;rw[y];clear y A;generalize c::r=S at *;generalize wiB c.toNat 97 122=lo at *;generalize wiB c.toNat 65 90=up at *;have kind:∃k:Int,k=if lo=true then 1 else if up=true then 2 else 0:=⟨_,rfl⟩
  obtain⟨Y,q⟩:=kind;have pre:∀(l:List C) (e:Int),AWp none Tryz.prog 67 (keys []) (a3y (Tryz.f61.body.getD .skip)) (mk [(0,Go.AM.T S),(2,.one (.vp 2 0)),(6,I .i64 Y)] [(2,.var 62 (aIi.map .c))]) (fun ex st=>(ex=.normal∨ex=.ret)∧Fin tr.flat Tryz.f61 st [] (.tup [.pa l,I .i64 e]) [])→aW Tryz.prog 61 [Go.AM.T S] [] (.tup [.pa l,I .i64 e]) []:=fun l e h=>by
   refine b9 (n:=67) tok Tryz.func61 rfl rfl rfl ?_;refine sg rfl (aA (sk 1 rfl (kc E ?_)));refine kz 1 rfl (sg rfl (aB rfl (fun hb=>absurd hb (by decide)) (fun _=>aD (sg rfl (nQ (mk [(0,Go.AM.T S),(2,.one (.vp 2 0)),(6,I .i64 Y)] [(2,.var 62 (aIi.map .c))]) ?_ h)))));refine aF (sk 2 rfl ?_);rw[ht1];refine kc J ?_;refine kz 1 rfl (aB rfl (fun hb=>?_) (fun hb=>?_))
   ·rw[hb,ζ rfl] at q;subst q;exact ag [] rfl (.inl ⟨rfl,sl⟩)
   rw[hb,η χ] at q;refine sk 2 rfl ?_;rw[ht1];refine kc M ?_;refine kz 1 rfl (aB rfl (fun hb=>?_) (fun hb=>?_))
   ·rw[hb,ζ rfl] at q;subst q;exact ag [] rfl (.inl ⟨rfl,sl⟩)
   ·rw[hb,η χ] at q;subst q;exact aD (.inl ⟨rfl,sl⟩)
  clear J M E hN0;by_cases hn:lo=true∨up=true
  ·rw[ζ hn];have hsg:=hsg hn;have hkp:0<Y:=by
    rw[q];rcases hn with h | h
    ·rw[ζ h];decide
    ·rw[ζ h];split<;>decide
   have hW:=iF sgB S;have hky:=aVx;have hct:=r4 tS (S.take (cN sgB S)) (by decide);have hnk:=fun h=>hnk h hsg
   unfold pE;generalize cN sgB S=N at *;have k5:∃k5:Int,k5=if S.take N∈tS then 5 else Y:=⟨_,rfl⟩
   obtain⟨k5,u⟩:=k5;have dk:decide ((0:Int)<Y)=true:=θ hkp;refine⟨k5,S.take N,0,pre _ _ ?_,fun k t v h=>?_⟩
   ·refine aA (sg rfl (aB rfl (fun _=>sk 3 rfl (kc hw2 ?_)) (fun hb=>absurd (hb.symm.trans dk) (by decide))));refine kz 4 rfl (nQ (mk [(0,Go.AM.T S),(2,.one (.vp 2 0)),(7,.one (.vp 7 0))] [(2,.var 62 (aIi.map .c)),(7,.var 62 [.c (.int .i64 k5),.c (.str (S.take N)),.c (.int .i64 0),.c (.int .i64 0)])]) ?_ ?_)
    ·generalize tS=L at *;refine aA (aC mixed (kc hky ?_));refine akN 2 [] rfl (kc hct ?_);refine az (aB rfl (fun hb=>?_) (fun hb=>?_))
     ·rw[ζ (κ hb)] at u;subst u;exact ag [] rfl (.inl ⟨rfl,sl⟩)
     ·rw[η (Ac hb)] at u;subst u;exact aD (.inl ⟨rfl,sl⟩)
    ·have hTl:(S.take N).length=N:=by rw[Ai];omega
     generalize S.take N=X at *;refine aA (sg rfl ?_);rw[hTl];refine aB rfl (fun hb=>?_) (fun hb=>?_)
     ·rw[ζ (by have:=κ hb;omega)];exact sg rfl (aE (aEa trw))
     ·rw[η (by have:=Ac hb;omega)];have e0:aPh (if up=true then(.ok (2,X,0):TE) else if X∈tS then .ok (5,X,0) else .ok (1,X,0))=0:=by
       split
       ·rfl
       ·split<;>rfl
      rw[e0];exact aD (sg rfl (aE (aEa trw)))
   ·split at h
    ·cases h
    split at h
    ·rename_i hu;cases h;rw[η (hnk hu)] at u;have hl:¬lo=true:=fun hl=>by rw[hlu hl] at hu;cases hu
     exact⟨by rw[u,q,η hl,ζ hu],rfl,rfl⟩
    ·rename_i hu;split at h
     ·rename_i hm;cases h;rw[ζ hm] at u;exact⟨u,rfl,rfl⟩
     ·rename_i hm;cases h;rw[η hm] at u;exact⟨by rw[u,q,ζ (hn.resolve_right hu)],rfl,rfl⟩
  ·rw[η hn];have hk0:Y=0:=by rw[q,η (fun h=>hn (.inl h)),η (fun h=>hn (.inr h))]
   subst hk0;have hsb:=aHz;have h13:uP.length≤13:=by decide
   refine⟨if qL S=[] then 0 else 4,qL S,0,pre _ _ ?_,fun k t v h=>?_⟩
   ·refine aA (sg rfl (aB rfl (fun hb=>absurd hb (by decide)) (fun _=>aD ?_)));have hne:∀x∈uP,¬x=[]:=by decide
    rw[hsy];clear hsy;generalize uP=L at *;have hkl:(L.map aK).length=L.length:=ξ _;refine aA (aA (aC mixed (kc hsb ?_)));refine kz 2 rfl (aF (aJ (fun i:Nat=>mk [(0,Go.AM.T S),(2,.one (.vp 2 0)),(54,.one (.c (.sl 1 (L.map aK)))),(55,I .i64 ((L.map aK).length:Nat)),(56,I .i64 i)] [(2,.var 62 (aIi.map .c))]) (fun i=>i≤L.length∧(L.take i).find? (fun x=>preB x S)=none) (fun i=>L.length-i) 0 ⟨Ab _,rfl⟩ sl ?_));rintro i ⟨hi,U⟩;refine sg rfl (aA (aB rfl (fun hb=>?_) (fun hb=>?_)))
    ·have O:=ltD hb hkl;obtain⟨x,hx⟩:=aG O;have hx':=aP aK hx;have hpx:=uA S x;refine aD (aA (aF (sgh [(0,.row i (aK x))] rfl (sk 2 rfl (kc hpx ?_)))));refine az (aB rfl (fun hb=>?_) (fun hb=>?_))
     ·rw[o7 U hx hb];dsimp only;rw[η (hne x (ε hx)),η (hne x (ε hx))];exact sg rfl (aE (aEa trw))
     ·exact aD (ag [] rfl ⟨i+1,⟨O,o8 U hx hb⟩,by dsimp only;omega,sl⟩)
    ·have hge:=geD hb hkl hi;rw[hge,Al] at U;rw[U];dsimp only;rw[ζ rfl,ζ rfl];exact aH (sg rfl (aE (aEa trw)))
   ·split at h
    ·cases h
    ·rename_i hs;cases h;exact⟨η hs,rfl,rfl⟩
def blS:Str:=[32,9,10]
theorem a26 (c:UInt8):ixB blS c=blB c.toNat:=lS (p:=fun c=>ixB blS c=blB c.toNat) (by decide+kernel) c
theorem aKq {s:Str}(h:preB [45,45] s=true):cN neB s=2+cN neB (s.drop 2):=by
 unfold preB at h;rw[π] at h;have h2:=κ h.2
 match s,h2 with
 | a::b::r,h2=>
  have h2:[a,b]=[45,45]:=h2;cases h2;rw[cN,ζ (by decide),cN,ζ (by decide)];show cN neB r+1+1=2+cN neB r;omega
theorem a25 (c:UInt8):aW Tryz.prog 60 [I .u8 (c.toNat:Nat)] [] (B (neB c.toNat)) []:=by
 have e:(!decide ((c.toNat:Int)=10))=neB c.toNat:=by
  unfold neB;by_cases h:c.toNat=10
  ·rw[θ h,θ (by omega)]
  ·rw[φ h,φ (by omega)]
 rw[←e];refine b9 (n:=5) tok Tryz.func60 rfl rfl rfl ?_;exact sg rfl (sg rfl (aE rtT))
theorem a0f (S:Str):aW Tryz.prog 20 [Go.AM.T S] [] (aIl (pG S)) []:=by
 refine b9 (n:=65) tok Tryz.func20 rfl rfl rfl ?_;refine sg rfl (aM5 ?_);refine aA (sg rfl (aB rfl (fun hb=>?_) (fun hb=>?_)))
 ·unfold pG;rw[ζ (by have:=κ hb;omega)];exact sg rfl (aE (aWo trw))
 have hl:S.length≤4000:=by have:=Ac hb;omega
 have hA:pG S=aWr [] (mD S.length 0 (S.drop 0)):=by
  unfold pG;rw[η (by omega),B8];cases mD S.length 0 S<;>rfl
 refine aD (sg rfl (sg rfl (AWp.sub (Sub.own (t:=4) (id:=500) 62 4 rfl rfl) ?_)));refine aA (aM6 ?_);refine aA (aF (aJ (fun p:Nat×Nat×List Tk=>mk [(0,Go.AM.T S),(3,.one (.vp 3 0)),(4,.one (.hs 500 0 p.2.2.length p.2.2.length)),(5,I .i64 p.1)] [(3,.var 33 [.c (.int .i64 0),.c (.int .i64 0)]),(500,.arr 62 4 (p.2.2.map aI) 0)]) (fun p=>p.1≤S.length∧S.length-p.1≤p.2.1∧p.2.2.length+(S.length-p.1)≤S.length∧pG S=aWr p.2.2 (mD p.2.1 p.1 (S.drop p.1))) (fun p=>p.2.1) (0,S.length,[]) ⟨Ab _,by dsimp only;omega,by dsimp only;simp,hA⟩ sl ?_));rintro⟨i,f,out⟩ ⟨hi,hf,U,q⟩;dsimp only at hi hf U q ⊢;have hout:(out.map aI).length=out.length:=ξ _;refine aA (sg rfl (aB rfl (fun hb=>?_) (fun hb=>?_)))
 ·have hlt:i<S.length:=by have:=κ hb;omega
  obtain⟨g,rfl⟩:∃g,f=g+1:=⟨f-1,by omega⟩
  obtain⟨c,r,y⟩:∃c r,S.drop i=c::r:=by
   cases h:S.drop i with
   | nil=>
    have:=congrArg List.length h;rw[Bi,length_nil] at this;omega
   | cons c r=>exact⟨c,r,rfl⟩
  have hci:S[i]?=some c:=by
   have:=congrArg (fun l=>l[0]?) y;simpa [Ao] using this
  have Y:(c::r).length=S.length-i:=by rw[←y,Bi]
  rw[ω] at Y;obtain⟨k0,t0,v0,aa,ab⟩:=aZx c r (by omega);have ac:=uC blS c;have J:=a26 c;unfold ixB at J;have ad:=uA (c::r) [45,45];have ae:=aC6 60 neB (c::r) (by rw[ω];omega) (by kernel_rfl) fun d _=>a25 d
  have O:=aBp (c::r);have af:= @nI c r;have ah:= @x7 c r;have B:= @aKq (c::r);have u:fX (c::r)=if blB c.toNat=true then 1 else if preB [45,45] (c::r)=true then 2+cN neB ((c::r).drop 2) else 0:=rfl
  rw[y,mD] at q;have M:∀m:Nat,(c::r).drop m=S.drop (i+m):=fun m=>by rw[←y,Cx]
  rw[ω] at O;refine aD (aF (aA (sg rfl ?_)));rw[y];refine aF (skh 3 [(2,.byte i c)] rfl (kc ac ?_));refine kz 2 rfl ?_;rw[J];by_cases E:blB c.toNat=true
  ·rw[E];rw[ζ E] at u;rw[u,ζ (by decide),M] at q;exact aB rfl (fun _=>aA (agN [] rfl (aH ⟨(i+1,g,out),⟨by dsimp only;omega,by dsimp only;omega,by dsimp only;omega,q⟩,by dsimp only;omega,sl⟩))) (fun hb=>absurd hb (by decide))
  rw[η E] at u;rw[Cb _ |>.mp E];refine aB rfl (fun hb=>absurd hb (by decide)) (fun _=>sk 1 rfl (kc ad ?_));refine kz 1 rfl (aB rfl (fun hb=>?_) (fun hb=>?_))
  ·rw[ζ hb,←B hb] at u;have ai:0<cN neB (c::r):=by rw[B hb];omega
   rw[u,ζ ai,M] at q;rw[u] at O;generalize cN neB (c::r)=m at *;refine aA (aC mixed (akN 2 [] rfl (kc ae ?_)));exact akN 2 [] rfl (az (aH ⟨(i+m,g,out),⟨by dsimp only;omega,by dsimp only;omega,by dsimp only;omega,q⟩,by dsimp only;omega,sl⟩))
  ·rw[η (by rw[hb];exact χ)] at u;rw[η (by rw[u];exact lt_irrefl 0)] at q;refine aD (sk 3 rfl ?_);rw[y];refine kc aa ?_;generalize jE (c::r)=o at *;cases o with
   | error e=>
    dsimp only at q;have he:=ah rfl;rw[q];exact kz 6 rfl (aA (sg rfl (aB rfl (fun _=>sg rfl (aE (aWo trw))) (fun hb=>absurd hb (by simp[aPh,he])))))
   | ok p=>
    obtain⟨k,t,v⟩:=p;obtain⟨e1,e2,e3⟩:=ab k t v rfl;subst e1 e2 e3;dsimp only at q;obtain⟨ht1,aj⟩:=af rfl;rw[ω] at aj;rw[zP,M] at q;refine kz 6 rfl (aA (sg rfl (aB rfl (fun hb=>absurd hb (by simp[aPh])) (fun _=>aD (sg rfl (sgh [(1,.all),(2,.all)] rfl (agN [] rfl ?_)))))));have A:out.map aI++[[.int .i64 k0,.str t0,.int .i64 v0,.int .i64 (i:Int)]]=(out++[(⟨k0,t0,v0,i⟩:Tk)]).map aI:=by simp[aI]
    exact⟨(i+t0.length,g,out++[⟨k0,t0,v0,i⟩]),⟨by dsimp only;omega,by dsimp only;omega,by dsimp only;rw[ψ,Bm];omega,q⟩,by dsimp only;omega,sl (he:=⟨rfl,rfl,Go.AM.hs_ren (by simp) (by simp),rfl,trivial⟩) (hh:=⟨⟨_,rfl,.var rfl⟩,⟨_,rfl,.arrS A⟩,trivial⟩)⟩
 ·have e:i=S.length:=by have:=Ac hb;omega
  have hE:mD f i (S.drop i)=.ok [⟨6,[],0,i⟩]:=by
   rw[e,Ch];cases f<;>rfl
  rw[hE] at q;rw[q];have A:out.map aI++[[.int .i64 6,.str [],.int .i64 0,.int .i64 (i:Int)]]=(out++[(⟨6,[],0,i⟩:Tk)]).map aI:=by simp[aI]
  refine aH (sgh [(4,.all)] rfl ?_);subst e;show AWp _ _ _ _ _ _ (aSo fun ex st=>(ex=.normal∨ex=.ret)∧Fin _ _ st _ (aIl (.ok (out++[⟨6,[],0,(S.length:Int)⟩]))) _);unfold aIl;dsimp only;rw[←A];refine AWp.sub (Sub.freeze (id:=500) rfl) (AWp.sub (cv 2 (out.map aI++[[.int .i64 6,.str [],.int .i64 0,.int .i64 (S.length:Int)]])) ?_);exact aE (aWo trw)
def aN3:List Str:=[[73,110,116],[66,111,111,108],[76],[80],[70],[45,62]]
theorem aR2 (n:Int) (hn:i64 n):aW Tryz.prog 201 [I .i64 n] [] (Go.AM.T (oneOf aN3 n)) []:=by
 refine b9 (n:=8) tok Tryz.func201 rfl rfl rfl ?_;refine sg rfl ?_;obtain⟨k,q⟩:=Int.eq_ofNat_of_zero_le (dY n (k:=6) (by omega)).1;have hx:=aEq (l:=aN3) (n:=n) (by decide) q;have u:=(dY n (k:=6) (by omega)).2
 refine sk 2 rfl (kc (pW n 6 hn (by omega)) ?_);exact ak 3 [(3,.row k []),(4,.row k (aK (oneOf aN3 n)))] rfl (az (aE ⟨.inr rfl,⟨_,_,.tmp rfl .nil,.cons .refl .nil,rfl⟩,trivial,rfl⟩))
def cC:Nat→List Int→Ty×List Int
 | _,[]=>(a1k,[])
 | 0,x::l=>
  if eB x 40%5<2 then(.mk 2 0 (oneOf aN0 (eB x 40/10)) [],l)
  else if eB x 40%5<3 then(.mk 1 (1+eB x 40/10) [] [],l)
  else(.mk 3 0 (oneOf aN3 (eB x 40/5)) [],l)
 | d+1,x::l=>
  if eB x 40%10<2 then(.mk 2 0 (oneOf aN0 (eB x 40/10)) [],l)
  else if eB x 40%10<3 then(.mk 1 (1+eB x 40/10) [] [],l)
  else if eB x 40%10<5 then(.mk 3 0 (oneOf aN3 (eB x 40/5)) [],l)
  else if eB x 40%10<8 then(nB (cC d l).1 (cC d (cC d l).2).1,(cC d (cC d l).2).2)
  else(dQ (cC d l).1 (cC d (cC d l).2).1,(cC d (cC d l).2).2)
theorem r5:∀(d:Nat) (l:List Int),(cC d l).2<:+l
 | 0,[]=>by simp[cC]
 | _+1,[]=>by simp[cC]
 | 0,x::l=>by
  have h:l<:+x::l:=⟨[x],rfl⟩
  rw[cC];split
  ·exact h
  ·split<;>exact h
 | d+1,x::l=>by
  have h:l<:+x::l:=⟨[x],rfl⟩
  have h2:=((r5 d (cC d l).2).trans (r5 d l)).trans h;rw[cC];split
  ·exact h
  ·split
   ·exact h
   ·split
    ·exact h
    ·split<;>exact h2
def rX (l:List Int):V:=.one (.c (.sl 1 (l.map fY)))
theorem aVn:∀(d:Nat) (l:List Int) (q:Int),oD l→Fits l→q+d=5→0≤q→aW Tryz.prog 168 [rX l,I .i64 q,B false] [] (.tup [tyV (cC d l).1,rX (cC d l).2]) []:=by
 intro d
 induction d with
 | zero=>
  intro l q hl hf hd h0;refine b9 (n:=90) tok Tryz.func168 rfl rfl rfl ?_;refine sg rfl (aA (sg rfl ?_));cases l with
  | nil=>
   refine aB rfl (fun _=>sg rfl (aE ?_)) (fun hb=>by simp at hb);rw[show cC 0 []=(a1k,[]) by simp[cC]];exact⟨.inr rfl,⟨_,_,.cell rfl (tg rfl) rfl rfl rfl (.tmp rfl .nil),.cons (.pa (.c .refl (.c .refl (.c .refl (.c .nl .nil))))) (.cons .refl .nil),rfl⟩,trivial,rfl⟩
  | cons x l=>
   have hx:=hl x (by simp);have hn:=dY x (k:=40) (by omega);have A:=pW x 40 hx (by omega);rw[cC];generalize eB x 40=n at hn A ⊢;refine aB rfl (fun hb=>by simp at hb;omega) (fun _=>aD (sgh [(1,.row 0 (fY x)),(3,.pc (I .i64 n))] rfl (sg rfl (sg rfl (aA (sg rfl (aB rfl (fun _=>ag [] rfl (aA (sg rfl (aB rfl (fun hb=>?_) (fun hb=>?_))))) (fun hb=>by simp at hb;omega))))))))
   ·have hb:n%5<2:=by simpa using hb
    rw[ζ hb];have hnm:=aL1 (n/10) (by unfold i64;omega);exact sgh [(2,.pc (Go.AM.T (oneOf aN0 (n/10))))] rfl (aE ⟨.inr rfl,⟨_,_,.cell rfl (tg rfl) rfl rfl rfl (.tmp rfl .nil),.cons (.pa (.c .refl (.c .refl (.c .refl (.c .nl .nil))))) (.cons .refl .nil),rfl⟩,trivial,rfl⟩)
   have E:¬n%5<2:=by simpa using hb
   rw[η E];refine aD (aA (sg rfl (aB rfl (fun hb=>?_) (fun hb=>?_))))
   ·have hb:n%5<3:=by simpa using hb
    rw[ζ hb];exact sg rfl (aE ⟨.inr rfl,⟨_,_,.cell rfl (tg rfl) rfl rfl rfl (.tmp rfl .nil),.cons (.pa (.c .refl (.c .refl (.c .refl (.c .nl .nil))))) (.cons .refl .nil),rfl⟩,trivial,rfl⟩)
   have J:¬n%5<3:=by simpa using hb
   rw[η J];refine aD (aA (sg rfl (aB rfl (fun _=>?_) (fun hb=>by simp at hb;omega))));have hcn:=aR2 (n/5) (by unfold i64;omega);exact sgh [(2,.pc (Go.AM.T (oneOf aN3 (n/5))))] rfl (aE ⟨.inr rfl,⟨_,_,.cell rfl (tg rfl) rfl rfl rfl (.tmp rfl .nil),.cons (.pa (.c .refl (.c .refl (.c .refl (.c .nl .nil))))) (.cons .refl .nil),rfl⟩,trivial,rfl⟩)
 | succ d ih=>
  intro l q hl hf hd h0;refine b9 (n:=90) tok Tryz.func168 rfl rfl rfl ?_;refine sg rfl (aA (sg rfl ?_));cases l with
  | nil=>
   refine aB rfl (fun _=>sg rfl (aE ?_)) (fun hb=>by simp at hb);rw[show cC (d+1) []=(a1k,[]) by simp[cC]];exact⟨.inr rfl,⟨_,_,.cell rfl (tg rfl) rfl rfl rfl (.tmp rfl .nil),.cons (.pa (.c .refl (.c .refl (.c .refl (.c .nl .nil))))) (.cons .refl .nil),rfl⟩,trivial,rfl⟩
  | cons x l=>
   have hx:=hl x (by simp);have hn:=dY x (k:=40) (by omega);have A:=pW x 40 hx (by omega);have O:l<:+x::l:=⟨[x],rfl⟩
   have U:=hl.suf O;have Y:=hf.suf O;have aa:=r5 d l;have ih1:=ih l (q+1) U Y (by omega) (by omega);have ab:=ih (cC d l).2 (q+1) (U.suf aa) (Y.suf aa) (by omega) (by omega);rw[cC];generalize eB x 40=n at hn A ⊢;generalize cC d (cC d l).2=r2 at ab ⊢;generalize cC d l=r1 at ih1 ab ⊢;obtain⟨⟨f1,u,s1,y⟩,l1⟩:=r1;obtain⟨⟨f2,M,s2,a2⟩,l2⟩:=r2;have hfu:=aVh (.mk f1 u s1 y) (.mk f2 M s2 a2);have hap:=aVq (.mk f1 u s1 y) (.mk f2 M s2 a2);refine aB rfl (fun hb=>by simp at hb;omega) (fun _=>aD (sgh [(1,.row 0 (fY x)),(3,.pc (I .i64 n))] rfl (sg rfl (sg rfl (aA (sg rfl (aB rfl (fun hb=>by simp at hb;omega) (fun _=>aD (aA (sg rfl (aB rfl (fun hb=>?_) (fun hb=>?_))))))))))))
   ·have hb:n%10<2:=by simpa using hb
    rw[ζ hb];have hnm:=aL1 (n/10) (by unfold i64;omega);exact sgh [(2,.pc (Go.AM.T (oneOf aN0 (n/10))))] rfl (aE ⟨.inr rfl,⟨_,_,.cell rfl (tg rfl) rfl rfl rfl (.tmp rfl .nil),.cons (.pa (.c .refl (.c .refl (.c .refl (.c .nl .nil))))) (.cons .refl .nil),rfl⟩,trivial,rfl⟩)
   have E:¬n%10<2:=by simpa using hb
   rw[η E];refine aD (aA (sg rfl (aB rfl (fun hb=>?_) (fun hb=>?_))))
   ·have hb:n%10<3:=by simpa using hb
    rw[ζ hb];exact sg rfl (aE ⟨.inr rfl,⟨_,_,.cell rfl (tg rfl) rfl rfl rfl (.tmp rfl .nil),.cons (.pa (.c .refl (.c .refl (.c .refl (.c .nl .nil))))) (.cons .refl .nil),rfl⟩,trivial,rfl⟩)
   have J:¬n%10<3:=by simpa using hb
   rw[η J];refine aD (aA (sg rfl (aB rfl (fun hb=>?_) (fun hb=>?_))))
   ·have hb:n%10<5:=by simpa using hb
    rw[ζ hb];have hcn:=aR2 (n/5) (by unfold i64;omega);exact sgh [(2,.pc (Go.AM.T (oneOf aN3 (n/5))))] rfl (aE ⟨.inr rfl,⟨_,_,.cell rfl (tg rfl) rfl rfl rfl (.tmp rfl .nil),.cons (.pa (.c .refl (.c .refl (.c .refl (.c .nl .nil))))) (.cons .refl .nil),rfl⟩,trivial,rfl⟩)
   have hb5:¬n%10<5:=by simpa using hb
   rw[η hb5];refine aD (sgh [(4,.pc (.tup [tyV (.mk f1 u s1 y),rX l1]))] rfl (aA (aA (AWp.cut (mk [(0,rX l),(1,I .i64 q),(2,B false),(6,.one (.vp 6 0)),(8,I .i64 n),(9,I .i64 (n%10)),(10,.one (.vp 10 0)),(11,rX l1),(64,B false)] [(6,.var 43 [.c (.int .i64 0),.c (.int .i64 0),.c (.str []),.c .nl]),(10,.var 43 ((bF (.mk f1 u s1 y)).map R.c))]) ?_ ?_))))
   ·by_cases h9:n%10=9
    ·have e9:decide (n%10=9)=true:=θ h9;exact ag [(2,.bv true),(4,.bv true)] rfl sl
    ·have e9:decide (n%10=9)=false:=φ h9;exact ag [(2,.bv false),(4,.bv false)] rfl sl
   refine aB rfl nofun (fun _=>aD (sgh [(4,.pc (.tup [tyV (.mk f2 M s2 a2),rX l2]))] rfl (aA (sg rfl (aB rfl (fun hb=>?_) (fun hb=>?_))))))
   ·have hb:n%10<8:=by simpa using hb
    rw[ζ hb];exact sgh [(2,.pc (.pa (bF (nB (.mk f1 u s1 y) (.mk f2 M s2 a2)))))] rfl (aE ⟨.inr rfl,⟨_,_,.cell rfl (tg rfl) rfl rfl rfl (.tmp rfl .nil),.cons .refl (.cons .refl .nil),rfl⟩,trivial,rfl⟩)
   ·have hb:¬n%10<8:=by simpa using hb
    rw[η hb];exact aD (sgh [(2,.pc (.pa (bF (dQ (.mk f1 u s1 y) (.mk f2 M s2 a2)))))] rfl (aE ⟨.inr rfl,⟨_,_,.cell rfl (tg rfl) rfl rfl rfl (.tmp rfl .nil),.cons .refl (.cons .refl .nil),rfl⟩,trivial,rfl⟩))
theorem aU2 (l:List Int) (hl:oD l) (q:Fits l):aW Tryz.prog 123 [rX l] [] (tyV (cC 5 (l.take 24)).1) []:=by
 have hi:aW Tryz.prog 66 [rX l,I .i64 (24:Nat)] [] (rX (l.take 24)) []:=aR5 l 24 q (by omega);have hb:=aVn 5 (l.take 24) 0 (fun x hx=>hl x (Bb hx)) (by unfold Fits at *;rw[Ai];omega) (by omega) (by omega);generalize cC 5 (l.take 24)=r at hb ⊢;obtain⟨⟨f1,u,s1,y⟩,A⟩:=r;refine b9 (n:=12) tok Tryz.func123 rfl rfl rfl ?_;exact sg rfl (sgh [(1,.pc (rX (l.take 24))),(2,.pc (.tup [tyV (.mk f1 u s1 y),rX A]))] rfl (sg rfl (aE ⟨.inr rfl,⟨_,_,.cell rfl (tg rfl) rfl rfl rfl .nil,.cons .refl .nil,rfl⟩,trivial,rfl⟩)))
mutual
def tn:Ty→Nat
 | .mk _ _ s a=>1+s.length+tns a
def tns:List Ty→Nat
 | []=>0
 | t::l=>tn t+tns l
end
theorem v8 (t:Ty):1≤tn t:=by cases t;rw[tn];omega
theorem aI0:∀l:List Ty,l.length≤tns l
 | []=>Ab _
 | t::l=>by rw[tns,ω];have:=aI0 l;have:=v8 t;omega
theorem qJ:∀{l:List Ty}{t:Ty},t∈l→tn t≤tns l
 | u::l,t,h=>by
  rw[tns];rcases Aq.1 h with rfl | h
  ·omega
  ·have:=qJ h;omega
theorem aBa (t:Ty) (ht:t.args.length≤1000000) (A:∀u∈t.args,aW Tryz.prog 235 [tyV u] [] (tyV u) []):aW Tryz.prog 235 [tyV t] [] (tyV t) []:=by
 obtain⟨f,n,s,a⟩:=t;have A:∀u∈a,aW Tryz.prog 235 [tyV u] [] (tyV u) []:=A;have M:a.length≤1000000:=ht;have q:(dV a).length=a.length:=by rw[gN,ξ]
 refine b9 (n:=22) tok Tryz.func235 rfl rfl rfl ?_;refine sg rfl (sg rfl (AWp.sub (Sub.own (t:=3) (id:=600) 43 4 rfl rfl) ?_));refine aA (sg rfl (aF (aJ (fun i:Nat=>mk [(1,.one (.vp 1 0)),(2,.one (.vp 2 0)),(3,.one (.hs 600 0 ((dV a).take i).length ((dV a).take i).length)),(7,.one (.c (.sl 4 (dV a)))),(8,I .i64 ((dV a).length:Int)),(9,I .i64 i)] [(600,.arr 43 4 ((dV a).take i) 0),(1,.var 43 ((bF (.mk f n s a)).map R.c)),(2,.var 43 [.c (.int .i64 0),.c (.int .i64 0),.c (.str []),.c .nl])]) (fun i=>i≤a.length) (fun i=>a.length-i) 0 (Ab _) sl ?_)));intro i hi;have O:((dV a).take i).length=i:=by rw[Ai];omega
 refine sg rfl (aA (aB rfl (fun hb=>?_) (fun hb=>?_)))
 ·have y:=ltD hb q;obtain⟨u,hu⟩:=aG y;have B:(dV a)[i]?=some (bF u):=by rw[gN];exact aP bF hu
  have hc:=A u (ε hu);have E:(dV a).take (i+1)=(dV a).take i++[bF u]:=by rw[Bh,B];rfl
  refine aD (aA (aF (sgh [(0,.row i (bF u))] rfl (aC mixed (ak 2 [] rfl (kc hc ?_))))));refine ak 3 [(3,.all)] rfl (az (ag [] rfl ⟨i+1,y,by dsimp only;omega,?_⟩));dsimp only;rw[E];exact sl
 have J:=geD hb q hi;subst J;rw[show(dV a).take a.length=dV a by rw[←q,Al]];refine aH (AWp.sub (Sub.freeze (id:=600) rfl) ?_);refine sg rfl (AWp.sub (vp 1 (bF (.mk f n s a))) ?_);exact sg rfl (aE (rtC trw))
mutual
def wfS:Ty→Bool
 | .mk f n s a=>(if f=4 then decide (n=0∧s=[]∧a.length=2) else if f=5 then decide (n=0∧a.length=1) else a.isEmpty)&&aSt a
def aSt:List Ty→Bool
 | []=>true
 | t::l=>wfS t&&aSt l
end
theorem aDu:∀{l:List Ty}{t:Ty},aSt l=true→t∈l→wfS t=true
 | u::l,t,h,ht=>by
  rw[aSt,π] at h;rcases Aq.1 ht with rfl | ht
  ·exact h.1
  ·exact aDu h.2 ht
theorem aIt {f n:Int}{s:Str}{a:List Ty}(h:wfS (.mk f n s a)=true):a.length≤2∧(∀u∈a,wfS u=true)∧(f=4→n=0∧s=[]∧∃u v,a=[u,v])∧(f=5→n=0∧∃u,a=[u])∧(¬f=4→¬f=5→a=[]):=by
 rw[wfS,π] at h;obtain⟨h1,h2⟩:=h;refine⟨?_,fun u hu=>aDu h2 hu,fun q=>?_,fun y=>?_,fun q y=>?_⟩
 ·split at h1
  ·exact Nat.le_of_eq (κ h1).2.2
  ·split at h1
   ·rw[(κ h1).2];omega
   ·rw[List.isEmpty_iff.1 h1];simp
 ·rw[ζ q] at h1;obtain⟨A,a2,a3⟩:=κ h1
  match a,a3 with
  | [u,v],_=>exact⟨A,a2,u,v,rfl⟩
 ·rw[η (by omega),ζ y] at h1;obtain⟨A,a2⟩:=κ h1;exact⟨A,List.length_eq_one_iff.1 a2⟩
 ·rw[η q,η y] at h1;exact List.isEmpty_iff.1 h1
theorem aL0:∀(k:Nat) (t:Ty),tn t≤k→wfS t=true→aW Tryz.prog 235 [tyV t] [] (tyV t) []
 | 0,t,h,_=>by have:=v8 t;omega
 | k+1,t,h,hw=>by
  obtain⟨f,n,s,a⟩:=t;obtain⟨h1,h2,_⟩:=aIt hw;exact aBa (.mk f n s a) (show a.length≤_ by omega) fun u hu=>aL0 k u (by have hu:u∈a:=hu;have:=qJ hu;rw[tn] at h;omega) (h2 u hu)
theorem y3 (a b:Ty):aW Tryz.prog 236 [tyV a,tyV b] [] (tyV (dQ a b)) []:=by
 refine b9 (n:=9) tok Tryz.func236 rfl rfl rfl ?_;exact sg rfl (sgh [(2,.all)] rfl (aE (rtC trw)))
theorem aZo (s:Str):aW Tryz.prog 85 [Go.AM.T s] [] (tyV (.mk 2 0 s [])) []:=by
 refine b9 (n:=5) tok Tryz.func85 rfl rfl rfl ?_;exact sg rfl (sg rfl (aE (rtC trw)))
def mF (f:Int) (s:Str) (o:List Str) (x:Str):List Str:=if ¬x∈o∧(¬f=5∨¬x=s) then o++[x] else o
def yK (f:Int) (s:Str) (o:List Str) (l:List Str):List Str:=l.foldl (mF f s) o
mutual
def tfR:Ty→List Str
 | .mk f _ s a=>if f=2 then [s] else aN1 f s a []
def aN1 (f:Int) (s:Str):List Ty→List Str→List Str
 | [],o=>o
 | t::l,o=>aN1 f s l (yK f s o (tfR t))
end
def tfL (f:Int) (s:Str) (l:List Ty) (o:List Str):List Str:=l.foldl (fun o t=>yK f s o (tfR t)) o
theorem vZ (f:Int) (s:Str):∀(l:List Ty) (o:List Str),aN1 f s l o=tfL f s l o
 | [],o=>by rw[aN1];rfl
 | t::l,o=>by rw[aN1,vZ f s l];rfl
theorem aI1 (f:Int) (s:Str) (o:List Str) (x:Str):(mF f s o x).length≤o.length+1:=by
 unfold mF;split
 ·simp
 ·omega
theorem s8 (f:Int) (s:Str):∀(l o:List Str),(yK f s o l).length≤o.length+l.length
 | [],o=>le_refl _
 | x::l,o=>by
  have h1:=s8 f s l (mF f s o x);have h2:=aI1 f s o x;show(yK f s (mF f s o x) l).length≤_;rw[ω];omega
mutual
theorem oY:∀t:Ty,(tfR t).length≤tn t
 | .mk f n s a=>by
  rw[tfR,tn];split
  ·simp;omega
  ·have:=aCc f s a [];simp only[length_nil] at this;omega
theorem aCc (f:Int) (s:Str):∀(l:List Ty) (o:List Str),(aN1 f s l o).length≤o.length+tns l
 | [],o=>by rw[aN1,tns];exact le_refl _
 | t::l,o=>by
  rw[aN1,tns];have h1:=aCc f s l (yK f s o (tfR t));have h2:=s8 f s (tfR t) o;have q:=oY t;omega
end
theorem aI3 {f:Int}{s:Str}{o l:List Str}{j:Nat}{x:Str}(h:l[j]?=some x):yK f s o (l.take (j+1))=mF f s (yK f s o (l.take j)) x:=by
 unfold yK;rw[Bh,h,foldl_append];rfl
theorem aN2 {f:Int}{s:Str}{o:List Str}{l:List Ty}{j:Nat}{x:Ty}(h:l[j]?=some x):tfL f s (l.take (j+1)) o=yK f s (tfL f s (l.take j) o) (tfR x):=by
 unfold tfL;rw[Bh,h,foldl_append];rfl
theorem aDz:∀(l:List Ty) (i:Nat),tns (l.take i)≤tns l
 | [],i=>by simp
 | t::l,0=>by rw[Bl,tns];omega
 | t::l,i+1=>by rw[A3,tns,tns];have:=aDz l i;omega
theorem pS (t:Ty) (ht:t.args.length≤1000000000) (hL:∀i,(tfL t.form t.name (t.args.take i) []).length≤1000000000) (hU:∀u∈t.args,(tfR u).length≤1000000000) (ih:∀u∈t.args,aW Tryz.prog 217 [tyV u] [] (bU (tfR u)) []):aW Tryz.prog 217 [tyV t] [] (bU (tfR t)) []:=by
 obtain⟨f,n,s,a⟩:=t;have hal:a.length≤1000000000:=ht;have hL:∀i,(tfL f s (a.take i) []).length≤1000000000:=hL;have hU:∀u∈a,(tfR u).length≤1000000000:=hU;have ih:∀u∈a,aW Tryz.prog 217 [tyV u] [] (bU (tfR u)) []:=ih;have hka:(dV a).length=a.length:=by rw[gN,ξ]
 rw[tfR];refine b9 (n:=50) tok Tryz.func217 rfl rfl rfl ?_;refine sg rfl (aA (sg rfl (aB rfl (fun hb=>?_) (fun hb=>?_))))
 ·have h2:f=2:=κ hb;rw[ζ h2];exact sgh [(2,.all)] rfl (aE rtT)
 ·have h2:¬f=2:=Ac hb;rw[η h2,vZ] at *;refine aD (sg rfl (AWp.sub (Sub.own (t:=3) (id:=600) 9 1 rfl rfl) (AWp.sub (Sub.freeze (id:=600) rfl) ?_)));refine aA (sg rfl (aF (aJ (fun i:Nat=>mk [(1,.one (.vp 1 0)),(3,.one (.hs 600 0 (tfL f s (a.take i) []).length (tfL f s (a.take i) []).length)),(15,.one (.c (.sl 4 (dV a)))),(16,I .i64 ((dV a).length:Int)),(17,I .i64 i)] [(600,.arr 9 1 ((tfL f s (a.take i) []).map aK) 2),(1,.var 43 ((bF (.mk f n s a)).map R.c))]) (fun i=>i≤a.length) (fun i=>a.length-i) 0 (Ab _) sl ?_)));intro i hi;refine sg rfl (aA (aB rfl (fun hb=>?_) (fun hb=>?_)))
  ·have hlt:=ltD hb hka;obtain⟨u,hu⟩:=aG hlt;have hu':(dV a)[i]?=some (bF u):=by rw[gN];exact aP bF hu
   have hm:=ε hu;have hc:=ih u hm;have hul:=hU u hm;have M:=aN2 (f:=f) (s:=s) (o:=[]) hu;have hol:=hL i;generalize tfL f s (a.take i) []=o at M hol ⊢;have O:((tfR u).map aK).length=(tfR u).length:=ξ _;generalize tfR u=y at hc hul M O;refine aD (aA (aF (sgh [(0,.row i (bF u))] rfl (sk 1 rfl (kc hc ?_)))));refine kz 2 rfl (aF (aJ (fun j:Nat=>mk [(1,.one (.vp 1 0)),(3,.one (.hs 600 0 (yK f s o (y.take j)).length (yK f s o (y.take j)).length)),(15,.one (.c (.sl 4 (dV a)))),(16,I .i64 ((dV a).length:Int)),(17,I .i64 i),(22,bU y),(23,I .i64 ((y.map aK).length:Int)),(24,I .i64 j)] [(600,.arr 9 1 ((yK f s o (y.take j)).map aK) 2),(1,.var 43 ((bF (.mk f n s a)).map R.c))]) (fun j=>j≤y.length) (fun j=>y.length-j) 0 (Ab _) sl ?_));intro j hj;refine sg rfl (aA (aB rfl (fun hb=>?_) (fun hb=>?_)))
   ·have A:=ltD hb O;obtain⟨x,hx⟩:=aG A;have hx':=aP aK hx;have B:=aI3 (f:=f) (s:=s) (o:=o) hx;have hpl:(yK f s o (y.take j)).length≤2000000000:=by
     have:=s8 f s (y.take j) o;rw[Ai] at this;omega
    generalize yK f s o (y.take j)=q at B hpl ⊢;have E:=r4 q x (by omega);have hkq:(q.map aK).length=q.length:=ξ _;refine aD (aA (aF (sgh [(0,.row j (aK x))] rfl ?_)));by_cases J:x∈q
    ·rw[θ J] at E;have he:mF f s q x=q:=by unfold mF;rw[η (fun h=>h.1 J)]
     refine sk 2 rfl (kc E ?_);refine kz 12 rfl (aB rfl nofun (fun _=>aD (ag [] rfl ⟨j+1,A,by dsimp only;omega,?_⟩)));dsimp only;rw[B,he];exact sl
    rw[φ J] at E;by_cases h5:f=5
    ·have d5:decide (f=5)=true:=θ h5;have d5':(!decide (f=5))=false:=by rw[d5];rfl
     refine sk 2 rfl (kc E ?_);refine ak 12 [(8,.bv false),(13,.bv false)] rfl (az (aB rfl (fun hb=>?_) (fun hb=>?_)))
     ·have U:¬x=s:=by simp at hb;exact hb
      have he:mF f s q x=q++[x]:=by unfold mF;rw[ζ ⟨J,.inr U⟩]
      refine ag [(2,.all)] rfl (AWp.sub (Sub.freeze (id:=600) rfl) ?_);refine ag [] rfl ⟨j+1,A,by dsimp only;omega,?_⟩;dsimp only;rw[B,he];exact sl (hh:=⟨⟨_,rfl,.arrS (by rw[Af];rfl)⟩,⟨_,rfl,.var rfl⟩,trivial⟩)
     ·have U:x=s:=by simp at hb;exact hb
      have he:mF f s q x=q:=by unfold mF;rw[η (fun h=>h.2.elim (fun h=>h h5) (fun h=>h U))]
      refine aD (ag [] rfl ⟨j+1,A,by dsimp only;omega,?_⟩);dsimp only;rw[B,he];exact sl
    ·have d5:decide (f=5)=false:=φ h5;have d5':(!decide (f=5))=true:=by rw[d5];rfl
     have he:mF f s q x=q++[x]:=by unfold mF;rw[ζ ⟨J,.inl h5⟩]
     refine sk 2 rfl (kc E ?_);refine ak 12 [(8,.bv true),(13,.bv true)] rfl (az (aB rfl (fun _=>ag [(2,.all)] rfl (AWp.sub (Sub.freeze (id:=600) rfl) ?_)) nofun));refine ag [] rfl ⟨j+1,A,by dsimp only;omega,?_⟩;dsimp only;rw[B,he];exact sl (hh:=⟨⟨_,rfl,.arrS (by rw[Af];rfl)⟩,⟨_,rfl,.var rfl⟩,trivial⟩)
   have Y:=geD hb O hj;subst Y;rw[Al];refine aH (ag [] rfl ⟨i+1,hlt,by dsimp only;omega,?_⟩);dsimp only;rw[M];exact sl
  have Y:=geD hb hka hi;subst Y;rw[Al];exact aH (sg rfl (aE (rtT (hc:=hs_all rfl rfl (by simp) rfl))))
theorem aBb (t:Ty) (ht:tn t≤1000000000) (q:∀u,tn u<tn t→aW Tryz.prog 217 [tyV u] [] (bU (tfR u)) []):aW Tryz.prog 217 [tyV t] [] (bU (tfR t)) []:=by
 obtain⟨f,n,s,a⟩:=t;rw[tn] at ht q;have y:=aI0 a;refine pS (.mk f n s a) (show a.length≤_ by omega) (fun i=>?_) (fun u hu=>?_) fun u hu=>q u ?_
 ·have h1:=aCc f s (a.take i) [];rw[vZ] at h1;have h2:=aDz a i;simp only[length_nil] at h1;show(tfL f s (a.take i) []).length≤_;omega
 ·have h1:=qJ (show u∈a from hu);have h2:=oY u;omega
 ·have h1:=qJ (show u∈a from hu);omega
theorem aF2:∀(k:Nat) (t:Ty),tn t≤k→tn t≤1000000000→aW Tryz.prog 217 [tyV t] [] (bU (tfR t)) []
 | 0,t,h,_=>by have:=v8 t;omega
 | k+1,t,h,hm=>aBb t hm fun u hu=>aF2 k u (by omega) (by omega)
mutual
def fvm:Ty→Nat
 | .mk f n s a=>max (tfR (.mk f n s a)).length (a05 a)
def a05:List Ty→Nat
 | []=>0
 | t::l=>max (fvm t) (a05 l)
end
theorem aYy (t:Ty):(tfR t).length≤fvm t:=by cases t;rw[fvm];exact Nat.le_max_left ..
theorem aFa:∀{l:List Ty}{t:Ty},t∈l→fvm t≤a05 l
 | u::l,t,h=>by
  rw[a05];rcases Aq.1 h with rfl | h
  ·exact Nat.le_max_left ..
  ·exact le_trans (aFa h) (Nat.le_max_right ..)
theorem aK1 {f n:Int}{s:Str}{a:List Ty}{u:Ty}(h:u∈a):fvm u≤fvm (.mk f n s a):=by
 rw[fvm];exact le_trans (aFa h) (Nat.le_max_right ..)
theorem aI2 {f:Int}{s:Str}{L:Nat}:∀{l:List Ty}{o:List Str},(∀u∈l,(tfR u).length≤L)→(tfL f s l o).length≤o.length+l.length*L
 | [],o,_=>by simp[tfL]
 | t::l,o,h=>by
  have h1:=aI2 (f:=f) (s:=s) (l:=l) (o:=yK f s o (tfR t)) fun u hu=>h u (Bf _ hu)
  have h2:=s8 f s (tfR t) o;have q:=h t Bt;show(tfL f s l (yK f s o (tfR t))).length≤_;rw[ω,Nat.succ_mul];omega
theorem aF1:∀(k:Nat) (t:Ty),tn t≤k→wfS t=true→fvm t≤400000000→aW Tryz.prog 217 [tyV t] [] (bU (tfR t)) []
 | 0,t,h,_,_=>by have:=v8 t;omega
 | k+1,t,h,hw,y=>by
  obtain⟨f,n,s,a⟩:=t;obtain⟨h1,h2,_⟩:=aIt hw;have hu:∀u∈a,(tfR u).length≤400000000:=fun u hu=>le_trans (aYy u) (le_trans (aK1 hu) y)
  refine pS (.mk f n s a) (show a.length≤_ by omega) (fun i=>?_) (fun u q=>le_trans (hu u q) (by decide)) fun u q=>?_
  ·have A:=aI2 (f:=f) (s:=s) (l:=a.take i) (o:=[]) fun u q=>hu u (Bb q)
   rw[Ai,length_nil] at A;have B:min i a.length*400000000≤2*400000000:=A2 _ (by omega);show(tfL f s (a.take i) []).length≤_;omega
  ·have q:u∈a:=q;exact aF1 k u (by have:=qJ q;rw[tn] at h;omega) (h2 u q) (le_trans (aK1 q) y)
def fw (t:Ty):Nat:=if wfS t=true∧fvm t≤tn t then fvm t else tn t
theorem aYx (t:Ty):fw t≤tn t:=by
 unfold fw;split
 ·rename_i h;exact h.2
 ·exact le_refl _
theorem aF3 (t:Ty) (h:fw t≤400000000):aW Tryz.prog 217 [tyV t] [] (bU (tfR t)) []:=by
 unfold fw at h;split at h
 ·rename_i h';exact aF1 (tn t) t (le_refl _) h'.1 h
 ·exact aF2 (tn t) t (le_refl _) (by omega)
abbrev PE:=Int×Int
abbrev TR:=Except PE (Ty×List Tk)
def isT (t:Tk) (s:Str):Bool:=decide (t.kind=4)&&decide (t.text=s)
def cG:Str:=[40]
def nY:Str:=[41]
def aNo (t:Tk):Bool:=decide (t.kind=1) || (decide (t.kind=2) || isT t cG)
def aSy (s:Str):Ty:=.mk 3 0 s []
def aSw (s:Str):Ty:=.mk 2 0 s []
mutual
def cU:Nat→Nat→List Tk→TR
 | 0,_,_=>.error (12,0)
 | _+1,_,[]=>.error (12,0)
 | f+1,o,t::R=>
  if t.kind=2 then .ok (aSy t.text,R)
  else if t.kind=1 then .ok (aSw t.text,R)
  else if isT t cG=false then .error (12,t.pl)
  else if 40≤o then .error (13,t.pl)
  else p0 (cI f (o+1) R)
def cI:Nat→Nat→List Tk→TR
 | 0,_,_=>.error (12,0)
 | f+1,o,R=>match cU f o R with
  | .error e=>.error e
  | .ok (x,R1)=>kY f o x R1
def kY:Nat→Nat→Ty→List Tk→TR
 | 0,_,_,_=>.error (12,0)
 | _+1,_,_,[]=>.error (12,0)
 | f+1,o,x,t::R=>
  if aNo t=true then(match cU f o (t::R) with
   | .error e=>.error e
   | .ok (a,R1)=>kY f o (dQ x a) R1)
  else if isT t arrow=true then(match cI f o R with
   | .error e=>.error e
   | .ok (to,R1)=>.ok (nB x to,R1))
  else .ok (x,t::R)
def p0:TR→TR
 | .error e=>.error e
 | .ok (_,[])=>.error (12,0)
 | .ok (x,t::R)=>if isT t nY=true then .ok (x,R) else .error (12,t.pl)
end
def qE (R:List Tk):Prop:=∃p e,R=p++[e]∧e.kind=6
theorem qE.ne {R:List Tk}(h:qE R):∃t R',R=t::R':=by
 obtain⟨p,e,rfl,_⟩:=h;cases p with
 | nil=>exact⟨e,[],rfl⟩
 | cons a p=>exact⟨a,p++[e],rfl⟩
theorem qE.tail {t:Tk}{R:List Tk}(h:qE (t::R)) (q:¬t.kind=6):qE R:=by
 obtain⟨p,e,hp,he⟩:=h;cases p with
 | nil=>
  obtain⟨rfl,_⟩:=List.cons.inj hp;exact absurd he q
 | cons a p=>
  obtain⟨_,rfl⟩:=List.cons.inj hp;exact⟨p,e,rfl,he⟩
def wt (R:List Tk):Nat:=(R.map fun t=>t.text.length+6).sum
theorem cK (t:Tk) (R:List Tk):wt (t::R)=t.text.length+6+wt R:=by unfold wt;rw[Ar,Bx]
theorem c8 {t:Tk}{s:Str}(h:isT t s=true):t.kind=4∧t.text=s:=by
 unfold isT at h;rw[π] at h;exact⟨κ h.1,κ h.2⟩
mutual
def nF:Ty→Bool
 | .mk f _ _ a=>!decide (f=5)&&nFs a
def nFs:List Ty→Bool
 | []=>true
 | t::l=>nF t&&nFs l
end
structure TOk (R:List Tk) (m:Nat) (x:Ty) (R':List Tk):Prop where
 e:qE R→qE R'
 s:∃p,R=p++R'∧m≤p.length
 w:wfS x=true∧nF x=true
theorem TOk.len {R R':List Tk}{m:Nat}{x:Ty}(h:TOk R m x R'):R'.length+m≤R.length:=by
 obtain⟨p,rfl,hp⟩:=h.s;rw[ψ];omega
abbrev WF (x:Ty):Prop:=wfS x=true∧nF x=true
theorem yU {a b:Ty}(ha:WF a) (hb:WF b):WF (dQ a b):=by
 unfold dQ;refine⟨?_,?_⟩
 ·rw[wfS,ζ rfl,aSt,aSt,aSt,ha.1,hb.1];rfl
 ·rw[nF,nFs,nFs,nFs,ha.2,hb.2];rfl
theorem aW5 {a b:Ty}(ha:WF a) (hb:WF b):WF (nB a b):=yU (yU ⟨rfl,rfl⟩ ha) hb
theorem sX (a b:Ty):tn (dQ a b)=1+(tn a+(tn b+0)):=by unfold dQ;rw[tn,tns,tns,tns];rfl
theorem yW (a b:Ty):tn (nB a b)=5+tn a+tn b:=by
 unfold nB;rw[sX,sX];have:tn (.mk 3 0 arrow [])=3:=by rw[tn,tns];rfl
 rw[this];omega
mutual
theorem jQ:∀(f o:Nat) (R:List Tk) (x:Ty) (R':List Tk),cU f o R=.ok (x,R')→TOk R 1 x R'∧tn x+5+wt R'≤wt R
 | 0,_,_,_,_,h=>by rw[cU] at h;cases h
 | _+1,_,[],_,_,h=>by rw[cU] at h;cases h
 | f+1,o,t::R,x,R',h=>by
  rw[cU] at h;rw[cK];by_cases h2:t.kind=2
  ·rw[ζ h2] at h;cases h;refine⟨⟨fun he=>he.tail (by omega),⟨[t],rfl,le_refl _⟩,⟨rfl,rfl⟩⟩,?_⟩;unfold aSy;rw[tn,tns];omega
  rw[η h2] at h;by_cases h1:t.kind=1
  ·rw[ζ h1] at h;cases h;refine⟨⟨fun he=>he.tail (by omega),⟨[t],rfl,le_refl _⟩,⟨rfl,rfl⟩⟩,?_⟩;unfold aSw;rw[tn,tns];omega
  rw[η h1] at h;split at h
  ·cases h
  rename_i hp;have hp:=c8 (by simpa using hp:isT t cG=true);split at h
  ·cases h
  cases hw:cI f (o+1) R with
  | error e=>rw[hw,p0] at h;cases h
  | ok y=>
   obtain⟨y,R1⟩:=y;rw[hw] at h;obtain⟨⟨g1,⟨p,g2,g3⟩,g4⟩,g5⟩:=gT f (o+1) R y R1 hw;cases R1 with
   | nil=>rw[p0] at h;cases h
   | cons u R2=>
    rw[p0] at h;split at h
    ·rename_i hu;have hu:=c8 hu;cases h;rw[cK] at g5;refine⟨⟨fun he=>(g1 (he.tail (by omega))).tail (by omega),⟨t::(p++[u]),by rw[g2];simp,by simp⟩,g4⟩,by omega⟩
    ·cases h
theorem gT:∀(f o:Nat) (R:List Tk) (x:Ty) (R':List Tk),cI f o R=.ok (x,R')→TOk R 1 x R'∧tn x+5+wt R'≤wt R
 | 0,_,_,_,_,h=>by rw[cI] at h;cases h
 | f+1,o,R,x,R',h=>by
  rw[cI] at h;cases ha:cU f o R with
  | error e=>rw[ha] at h;cases h
  | ok y=>
   obtain⟨y,R1⟩:=y;rw[ha] at h;obtain⟨⟨g1,⟨p,g2,g3⟩,g4⟩,g5⟩:=jQ f o R y R1 ha;obtain⟨⟨A,⟨q,B,J⟩,E⟩,I⟩:=aM9 f o y R1 x R' g4 h;exact⟨⟨fun he=>A (g1 he),⟨p++q,by rw[g2,B,Aj],by rw[ψ];omega⟩,E⟩,by omega⟩
theorem aM9:∀(f o:Nat) (y:Ty) (R:List Tk) (x:Ty) (R':List Tk),WF y→kY f o y R=.ok (x,R')→TOk R 0 x R'∧tn x+wt R'≤tn y+wt R
 | 0,_,_,_,_,_,_,h=>by rw[kY] at h;cases h
 | _+1,_,_,[],_,_,_,h=>by rw[kY] at h;cases h
 | f+1,o,y,t::R,x,R',hy,h=>by
  rw[kY] at h;split at h
  ·cases ha:cU f o (t::R) with
   | error e=>rw[ha] at h;cases h
   | ok a=>
    obtain⟨a,R1⟩:=a;rw[ha] at h;obtain⟨⟨g1,⟨p,g2,g3⟩,g4⟩,g5⟩:=jQ f o (t::R) a R1 ha;obtain⟨⟨A,⟨q,B,J⟩,E⟩,I⟩:=aM9 f o (dQ y a) R1 x R' (yU hy g4) h;rw[sX] at I;exact⟨⟨fun he=>A (g1 he),⟨p++q,by rw[g2,B,Aj],Ab _⟩,E⟩,by omega⟩
  split at h
  ·rename_i ht;have ht:=c8 ht;cases ha:cI f o R with
   | error e=>rw[ha] at h;cases h
   | ok a=>
    obtain⟨a,R1⟩:=a;rw[ha] at h;cases h;obtain⟨⟨g1,⟨p,g2,g3⟩,g4⟩,g5⟩:=gT f o R a R' ha;rw[yW,cK];exact⟨⟨fun he=>g1 (he.tail (by omega)),⟨t::p,by rw[g2];rfl,Ab _⟩,aW5 hy g4⟩,by omega⟩
  ·cases h;exact⟨⟨id,⟨[],rfl,le_refl _⟩,hy⟩,le_refl _⟩
end
mutual
theorem eN:∀(f o:Nat) (R:List Tk) (e p:Int),cU f o R=.error (e,p)→¬e=0
 | 0,_,_,_,_,h=>by rw[cU] at h;cases h;decide
 | _+1,_,[],_,_,h=>by rw[cU] at h;cases h;decide
 | f+1,o,t::R,e,p,h=>by
  rw[cU] at h;split at h
  ·cases h
  split at h
  ·cases h
  split at h
  ·cases h;decide
  split at h
  ·cases h;decide
  cases hw:cI f (o+1) R with
  | error e'=>
   rw[hw,p0] at h;cases h;exact eU f (o+1) R e p hw
  | ok y=>
   obtain⟨y,R1⟩:=y;rw[hw] at h;cases R1 with
   | nil=>rw[p0] at h;cases h;decide
   | cons u R2=>
    rw[p0] at h;split at h
    ·cases h
    ·cases h;decide
theorem eU:∀(f o:Nat) (R:List Tk) (e p:Int),cI f o R=.error (e,p)→¬e=0
 | 0,_,_,_,_,h=>by rw[cI] at h;cases h;decide
 | f+1,o,R,e,p,h=>by
  rw[cI] at h;cases ha:cU f o R with
  | error e'=>
   rw[ha] at h;cases h;exact eN f o R e p ha
  | ok y=>
   rw[ha] at h;exact aGn f o _ _ e p h
theorem aGn:∀(f o:Nat) (x:Ty) (R:List Tk) (e p:Int),kY f o x R=.error (e,p)→¬e=0
 | 0,_,_,_,_,_,h=>by rw[kY] at h;cases h;decide
 | _+1,_,_,[],_,_,h=>by rw[kY] at h;cases h;decide
 | f+1,o,x,t::R,e,p,h=>by
  rw[kY] at h;split at h
  ·cases ha:cU f o (t::R) with
   | error e'=>
    rw[ha] at h;cases h;exact eN f o (t::R) e p ha
   | ok y=>
    rw[ha] at h;exact aGn f o _ _ e p h
  split at h
  ·cases ha:cI f o R with
   | error e'=>
    rw[ha] at h;cases h;exact eU f o R e p ha
   | ok y=>
    rw[ha] at h;cases h
  ·cases h
end
theorem aU1 (s:Str):aW Tryz.prog 85 [Go.AM.T s] [] (tyV (.mk 2 0 s [])) []:=by
 refine b9 (n:=5) tok Tryz.func85 rfl rfl rfl ?_;exact sg rfl (sg rfl (aE (rtC trw)))
theorem aLx (s:Str):aW Tryz.prog 226 [Go.AM.T s] [] (tyV (.mk 3 0 s [])) []:=by
 refine b9 (n:=5) tok Tryz.func226 rfl rfl rfl ?_;exact sg rfl (sg rfl (aE (rtC trw)))
def qK (L:List Tk):V:=.one (.c (.sl 4 (L.map aI)))
def tkV (t:Tk):V:=.pa (aI t)
def aA0 (x:Ty) (ps vs:C) (i e p:Int):List C:=[.int .i64 x.form,.int .i64 x.n,.str x.name,.sl 4 (dK x),ps,vs,.int .i64 i,.int .i64 e,.int .i64 p]
def xV (L:List Tk):TR→V
 | .ok (x,R)=>.pa (aA0 x .nl .nl ((L.length-R.length:Nat):Int) 0 0)
 | .error (e,p)=>.pa (aA0 zTy .nl .nl 0 e p)
theorem uO (L:List Tk) (x:Ty) (R:List Tk):xV L (.ok (x,R))=.pa (aA0 x .nl .nl ((L.length-R.length:Nat):Int) 0 0):=rfl
theorem aBk (t:Tk) (s:Str):aW Tryz.prog 176 [tkV t,Go.AM.T s] [] (B (isT t s)) []:=by
 unfold isT;refine b9 (n:=14) tok Tryz.func176 rfl rfl rfl ?_;refine sg rfl ?_;by_cases h:t.kind=4
 ·have d:decide (t.kind=4)=true:=θ h;rw[d,Cd];exact sgh [(3,.bv true),(8,.bv true)] rfl (aE rtT)
 ·have d:decide (t.kind=4)=false:=φ h;rw[d,B6];exact sgh [(3,.bv false),(8,.bv false)] rfl (aE rtT)
theorem aGe (t:Tk) (e:Int):aW Tryz.prog 177 [tkV t,I .i64 e] [] (.pa (aA0 zTy .nl .nl 0 e t.pl)) []:=by
 refine b9 (n:=10) tok Tryz.func177 rfl rfl rfl ?_;exact sg rfl (sg rfl (aE (rtC trw)))
theorem aR7 (t:Tk):aW Tryz.prog 203 [tkV t] [] (B (aNo t)) []:=by
 have hi:=aBk t cG;unfold aNo;refine b9 (n:=17) tok Tryz.func203 rfl rfl rfl ?_;refine sg rfl (sk 1 rfl (kc hi ?_));refine kz 1 rfl ?_;by_cases h1:t.kind=1
 ·have d:decide (t.kind=1)=true:=θ h1;rw[d,B7];exact sgh [(3,.bv true),(7,.bv true),(8,.bv true),(10,.bv true)] rfl (aE rtT)
 have d:decide (t.kind=1)=false:=φ h1;rw[d,A9];by_cases h2:t.kind=2
 ·have d2:decide (t.kind=2)=true:=θ h2;rw[d2,B7];exact sgh [(3,.bv false),(7,.bv false),(8,.bv true),(10,.bv true)] rfl (aE rtT)
 ·have d2:decide (t.kind=2)=false:=φ h2;rw[d2,A9];exact sgh [(3,.bv false),(7,.bv false),(8,.bv false),(10,.bv false)] rfl (aE rtT)
structure At (L:List Tk) (i:Nat) (R:List Tk):Prop where
 d:L.drop i=R
 e:qE R
 l:L.length≤4001
theorem At.lt {L:List Tk}{i:Nat}{R:List Tk}(h:At L i R):i+R.length=L.length∧1≤R.length:=by
 obtain⟨t,R',q⟩:=h.e.ne;have:=congrArg List.length h.d;rw[Bi] at this;have h1:1≤R.length:=by rw[q,ω];omega
 omega
theorem At.get {L:List Tk}{i:Nat}{t:Tk}{R:List Tk}(h:At L i (t::R)):L[i]?=some t:=by
 have:=congrArg (fun l=>l[0]?) h.d;simpa [Ao] using this
theorem At.to {L:List Tk}{i:Nat}{R p R':List Tk}(h:At L i R) (hs:R=p++R') (he:qE R'):At L (i+p.length) R'∧L.length-R'.length=i+p.length:=by
 have h1:=h.lt;refine⟨⟨?_,he,h.l⟩,?_⟩
 ·rw[←Cx,h.d,hs,List.drop_left]
 ·rw[hs,ψ] at h1;omega
theorem At.next {L:List Tk}{i:Nat}{t:Tk}{R:List Tk}(h:At L i (t::R)) (q:¬t.kind=6):At L (i+1) R∧L.length-R.length=i+1:=h.to (p:=[t]) rfl (h.e.tail q)
theorem At.ok {L:List Tk}{i m:Nat}{R R':List Tk}{x:Ty}(h:At L i R) (k:TOk R m x R'):At L (L.length-R'.length) R'∧i+m≤L.length-R'.length:=by
 obtain⟨p,hs,hp⟩:=k.s;obtain⟨g1,g2⟩:=h.to hs (k.e h.e);rw[g2];exact⟨g1,by omega⟩
def aWh (L:List Tk) (f:Nat):Prop:=∀(o:Nat) (R:List Tk) (i:Nat),At L i R→3*R.length≤f→o≤40→aW Tryz.prog 137 [qK L,I .i64 (i:Nat),I .i64 (o:Nat)] [] (xV L (cU f o R)) []
def aQz (L:List Tk) (f:Nat):Prop:=∀(o:Nat) (R:List Tk) (i:Nat),At L i R→3*R.length+2≤f→o≤40→aW Tryz.prog 178 [qK L,I .i64 (i:Nat),I .i64 (o:Nat)] [] (xV L (cI f o R)) []
theorem aVy (L:List Tk) (f:Nat) (ih:aQz L f):aWh L (f+1):=by
 intro o R i q hf ho;have hkl:(L.map aI).length=L.length:=ξ _;have hLl:=q.l;obtain⟨t,R,rfl⟩:=q.e.ne;have M:=q.lt;have O:=q.get;have hti':=aP aI O;rw[ω] at M hf;rw[cU];refine b9 (n:=89) tok Tryz.func137 rfl rfl rfl ?_;refine sg rfl (aA (sgh [(2,.row i (aI t))] rfl (aB rfl (fun hb=>?_) (fun hb=>?_))))
 ·have h2:t.kind=2:=κ hb;rw[ζ h2];obtain⟨_,hn⟩:=q.next (by omega)
  rw[uO,hn];exact aA (agN [(2,.row i (aI t))] rfl (aE (rtC trw)))
 rw[η (Ac hb)];refine aD (aA (sgh [(2,.row i (aI t))] rfl (aB rfl (fun hb=>?_) (fun hb=>?_))))
 ·have h1:t.kind=1:=κ hb;rw[ζ h1];obtain⟨_,hn⟩:=q.next (by omega)
  rw[uO,hn];exact aA (agN [(2,.row i (aI t))] rfl (aE (rtC trw)))
 rw[η (Ac hb)];refine aD ?_;have U:=aBk t cG;have Y:=aGe t 12;have aa:=aGe t 13;refine skh 4 [(2,.row i (aI t))] rfl (kc U ?_);refine kz 1 rfl (aA (sg rfl ?_));cases hl:isT t cG with
 | false=>
  rw[ζ rfl];refine aB rfl (fun _=>skh 4 [(2,.row i (aI t))] rfl (kc Y ?_)) (fun hb=>absurd hb (by decide));exact kz 1 rfl (aE (rtC trw))
 | true=>
 rw[η (by decide)];refine aB rfl (fun hb=>absurd hb (by decide)) (fun _=>aD (aA (sg rfl (aB rfl (fun hb=>?_) (fun hb=>?_)))))
 ·rw[ζ (by have:=κ hb;omega)];refine skh 4 [(2,.row i (aI t))] rfl (kc aa ?_);exact kz 1 rfl (aE (rtC trw))
 have I:¬40≤o:=by have:=Ac hb;omega
 rw[η I];refine aD ?_;obtain⟨E,_⟩:=q.next (by rw[(c8 hl).1];decide)
 have ab:=ih (o+1) R (i+1) E (by omega) (by omega);have hok:=gT f (o+1) R;have B:=eU f (o+1) R;refine aA (aC mixed (akN 5 [] rfl (kc ab ?_)));generalize cI f (o+1) R=w at hok B ⊢;cases w with
 | error e=>
  obtain⟨e,p⟩:=e;refine akN 2 [] rfl (az ?_);rw[p0];refine aA (sg rfl ?_);have he:=B e p rfl;exact aB rfl (fun _=>sg rfl (aE (rtC trw))) (fun hb=>absurd hb (by simp[he]))
 | ok y=>
  obtain⟨x,R1⟩:=y;obtain⟨hT,_⟩:=hok x R1 rfl;obtain⟨A,hle⟩:=E.ok hT;obtain⟨u,R3,rfl⟩:=A.e.ne;rw[uO];generalize L.length-(u::R3).length=j at *;have ac:=A.get;have huj':=aP aI ac;have hj:=A.lt;rw[ω] at hj;have J:=aBk u nY;have ad:=aGe u 12;refine kz 2 rfl (aA (sg rfl (aB rfl (fun hb=>absurd hb (by decide)) (fun _=>aD (skh 5 [(3,.row j (aI u))] rfl (kc J ?_))))));refine kz 1 rfl (aA (sg rfl ?_));rw[p0];cases hr:isT u nY with
  | false=>
   rw[η (by decide)];refine aB rfl (fun _=>skh 5 [(3,.row j (aI u))] rfl (kc ad ?_)) (fun hb=>absurd hb (by decide));exact kz 1 rfl (aE (rtC trw))
  | true=>
   rw[ζ rfl];obtain⟨_,hn⟩:=A.next (by rw[(c8 hr).1];decide)
   rw[uO,hn];exact aB rfl (fun hb=>absurd hb (by decide)) (fun _=>aD (aA (agN [] rfl (sg rfl (aE (rtC trw))))))
def zX:List AM.R:=[.c (.int .i64 0),.c (.int .i64 0),.c (.str []),.c .nl,.c .nl,.c .nl,.c (.int .i64 0),.c (.int .i64 0),.c (.int .i64 0)]
theorem aVr (L:List Tk) (f:Nat) (ac:∀g,g≤f→aWh L g) (ae:∀g,g≤f→aQz L g):aQz L (f+1):=by
 intro o R i Y hf ho;have hkl:(L.map aI).length=L.length:=ξ _;have hLl:=Y.l;have O:=ac f (le_refl _) o R i Y (by omega) ho;have hok:=jQ f o R;have A:=eN f o R;have af:=Y.lt;rw[cI];refine b9 (n:=81) tok Tryz.func178 rfl rfl rfl ?_;refine sg rfl (sk 3 rfl (kc O ?_));generalize cU f o R=w at hok A ⊢;cases w with
 | error e=>
  obtain⟨e,p⟩:=e;have he:=A e p rfl;exact kz 2 rfl (aA (sg rfl (aB rfl (fun _=>sg rfl (aE (rtC trw))) (fun hb=>absurd hb (by simp[he])))))
 | ok y=>
 obtain⟨x,R1⟩:=y;obtain⟨J,_⟩:=hok x R1 rfl;obtain⟨E,hle⟩:=Y.ok J;have hlen:=J.len;have M:=J.w;dsimp only;rw[uO];have key:∃W,W=kY f o x R1:=⟨_,rfl⟩
 obtain⟨W,q⟩:=key;rw[←q];refine kz 2 rfl (aA (sg rfl (aB rfl (fun hb=>absurd hb (by decide)) (fun _=>aD ?_))));obtain⟨u,R2,rfl⟩:=E.e.ne;have U:=E.get;have aa:=aP aI U;have ad:=aR7 u;refine skh 5 [(3,.row (L.length-(u::R2).length) (aI u))] rfl (kc ad ?_);refine kz 1 rfl ?_;clear hok A O U aa ad J;refine aA (aF (aJ (fun p:Ty×List Tk×Nat=>mk [(0,qK L),(2,I .i64 (o:Nat)),(6,.one (.vp 6 0)),(7,.one (.vp 7 0)),(8,B (aNo (p.2.1.headD ⟨0,[],0,0⟩)))] [(6,.var 188 zX),(7,.var 188 ((aA0 p.1 .nl .nl ((L.length-p.2.1.length:Nat):Int) 0 0).map .c))]) (fun p=>At L (L.length-p.2.1.length) p.2.1∧WF p.1∧3*p.2.1.length+1≤p.2.2∧p.2.2≤f∧W=kY p.2.2 o p.1 p.2.1) (fun p=>p.2.2) (x,u::R2,f) ⟨E,M,by dsimp only;omega,le_refl _,q⟩ sl ?_));clear q M E hlen hle Y af hf;rintro⟨x,R1,g⟩ ⟨E,M,hg,hgf,q⟩;dsimp only at E M hg hgf q ⊢;obtain⟨u,R2,rfl⟩:=E.e.ne;obtain⟨g,rfl⟩:∃h,g=h+1:=⟨g-1,by omega⟩
 have U:=E.get;have aa:=aP aI U;have hlt:=E.lt;rw[kY] at q;refine aA (sg rfl (aB rfl (fun hb=>?_) (fun hb=>?_)))
 ·have hb:aNo u=true:=hb;rw[ζ hb] at q;have O:=ac g (by omega) o (u::R2) _ E (by omega) ho;have hok:=jQ g o (u::R2);have A:=eN g o (u::R2);refine aD (aF (sk 4 rfl (kc O ?_)));generalize cU g o (u::R2)=w at hok A q ⊢;cases w with
  | error e=>
   obtain⟨e,p⟩:=e;have he:=A e p rfl;dsimp only at q;rw[q];exact kz 2 rfl (aA (sg rfl (aB rfl (fun _=>sg rfl (aE (rtC trw))) (fun hb=>absurd hb (by simp[he])))))
  | ok y=>
   obtain⟨a,R3⟩:=y;obtain⟨J,_⟩:=hok a R3 rfl;obtain⟨ab,hle⟩:=E.ok J;have hlen:=J.len;dsimp only at q;rw[uO];obtain⟨v,R4,rfl⟩:=ab.e.ne;have hvj:=ab.get;have hvj':=aP aI hvj;have hbv:=aR7 v;refine kz 2 rfl (aA (sg rfl (aB rfl (fun hb=>absurd hb (by decide)) (fun _=>aD (sgh [(4,.all)] rfl (aC mixed (ak 5 [(3,.row (L.length-(v::R4).length) (aI v))] rfl (kc hbv ?_))))))));exact kz 1 rfl ⟨(dQ x a,v::R4,g),⟨ab,yU M J.w,by dsimp only;omega,by dsimp only;omega,q⟩,by dsimp only;omega,sl⟩
 ·have hb:aNo u=false:=hb;rw[η (by rw[hb];decide)] at q;have hIs:=aBk u arrow;refine aH (skh 5 [(3,.row (L.length-(u::R2).length) (aI u))] rfl (kc hIs ?_));refine kz 1 rfl (aA (sg rfl ?_));cases hl:isT u arrow with
  | false=>
   rw[hl,η (by decide)] at q;rw[q];exact aB rfl (fun _=>sg rfl (aE (rtC trw))) (fun hb=>absurd hb (by decide))
  | true=>
   rw[hl,ζ rfl] at q;obtain⟨hA2,hn⟩:=E.next (by rw[(c8 hl).1];decide)
   rw[ω] at hg;have hty:=ae g (by omega) o R2 _ hA2 (by omega) ho;have hok:=gT g o R2;have A:=eU g o R2;refine aB rfl (fun hb=>absurd hb (by decide)) (fun _=>aD (aA (aC mixed (akN 5 [] rfl (kc hty ?_)))));generalize cI g o R2=w at hok A q ⊢;cases w with
   | error e=>
    obtain⟨e,p⟩:=e;have he:=A e p rfl;dsimp only at q;rw[q];exact akN 2 [] rfl (az (aA (sg rfl (aB rfl (fun _=>sg rfl (aE (rtC trw))) (fun hb=>absurd hb (by simp[he]))))))
   | ok y=>
    obtain⟨to,R3⟩:=y;dsimp only at q;rw[q,uO,uO];have hfu:=aVh x to;refine akN 2 [] rfl (az (aA (sg rfl (aB rfl (fun hb=>absurd hb (by decide)) (fun _=>aD (aA (aC mixed (akN 4 [] rfl (kc hfu ?_)))))))));exact akN 4 [] rfl (az (aE (rtC trw)))
theorem aIw (L:List Tk):∀f,(∀g,g≤f→aWh L g)∧∀g,g≤f→aQz L g:=by
 intro f
 induction f with
 | zero=>
  refine⟨fun g u o R i y A=>?_,fun g u o R i y A=>?_⟩
  ·have:=y.lt;omega
  ·have:=y.lt;omega
 | succ f q=>
  refine⟨fun g u=>?_,fun g u=>?_⟩
  ·by_cases h:g≤f
   ·exact q.1 g h
   ·rw[show g=f+1 by omega];exact aVy L f (q.2 f (le_refl _))
  ·by_cases h:g≤f
   ·exact q.2 g h
   ·rw[show g=f+1 by omega];exact aVr L f q.1 q.2
def qF (o:List Str) (s:Str):List Str:=if s∈o then o else o++[s]
def fR (o l:List Str):List Str:=l.foldl qF o
theorem sH (o l m:List Str):fR o (l++m)=fR (fR o l) m:=by unfold fR;rw[foldl_append]
theorem aEw {s:Str}:∀(l o:List Str),s∈fR o l↔s∈o∨s∈l
 | [],o=>by unfold fR;simp
 | x::l,o=>by
  show s∈fR (qF o x) l↔_;rw[aEw l];unfold qF;split
  ·rename_i h;constructor
   ·rintro(h' | h')
    ·exact .inl h'
    ·exact .inr (Bf _ h')
   ·rintro(h' | h')
    ·exact .inl h'
    ·rcases Aq.1 h' with rfl | h'
     ·exact .inl h
     ·exact .inr h'
  ·rw[A4,Am,Aq];exact or_assoc
theorem aO0 {s:Str}(o l:List Str):fR o (qF l s)=qF (fR o l) s:=by
 by_cases h:s∈l
 ·have:s∈fR o l:=(aEw l o).2 (.inr h)
  unfold qF;rw[ζ h,ζ this]
 ·unfold qF;rw[η h,sH];rfl
theorem aKj (o p:List Str):∀l:List Str,fR o (fR p l)=fR (fR o p) l:=by
 intro l
 induction l generalizing p with
 | nil=>rfl
 | cons x l q=>
  show fR o (fR (qF p x) l)=fR (qF (fR o p) x) l;rw[q,aO0]
theorem lN:∀(l o:List Str),(fR o l).length≤o.length+l.length
 | [],o=>le_refl _
 | x::l,o=>by
  have:=lN l (qF o x);have h1:(qF o x).length≤o.length+1:=by unfold qF;split<;>simp
  show(fR (qF o x) l).length≤_;rw[ω];omega
mutual
def frA:List Str→Ty→List Str
 | o,.mk f _ s a=>if f=2 then qF o s else yN o a
def yN:List Str→List Ty→List Str
 | o,[]=>o
 | o,t::l=>yN (frA o t) l
end
theorem aD0 {f:Int}{s:Str}(h:¬f=5):∀(l o:List Str),yK f s o l=fR o l
 | [],_=>rfl
 | x::l,o=>by
  have:mF f s o x=qF o x:=by
   unfold mF qF;by_cases hx:x∈o
   ·rw[ζ hx,η (fun h=>h.1 hx)]
   ·rw[η hx,ζ ⟨hx,.inl h⟩]
  show yK f s (mF f s o x) l=fR (qF o x) l;rw[this];exact aD0 h l _
def gA (o:List Str) (l:List Ty):List Str:=l.foldl (fun o t=>fR o (tfR t)) o
theorem aRw (o:List Str):∀(l:List Ty) (p:List Str),fR o (gA p l)=gA (fR o p) l
 | [],_=>rfl
 | t::l,p=>by
  show fR o (gA (fR p (tfR t)) l)=gA (fR (fR o p) (tfR t)) l;rw[aRw o l,aKj]
theorem aQ6 {f:Int}{s:Str}(h:¬f=5) (l:List Ty) (o:List Str):aN1 f s l o=gA o l:=by
 rw[vZ];unfold tfL gA;congr 1;funext o t;exact aD0 h _ _
mutual
theorem aYz:∀(t:Ty) (o:List Str),nF t=true→frA o t=fR o (tfR t)
 | .mk f n s a,o,h=>by
  rw[nF,π] at h;have q:¬f=5:=by simpa using h.1
  rw[frA,tfR];by_cases h2:f=2
  ·rw[ζ h2,ζ h2];rfl
  ·rw[η h2,η h2,aK3 a o h.2,aQ6 q,aRw];rfl
theorem aK3:∀(l:List Ty) (o:List Str),nFs l=true→yN o l=gA o l
 | [],_,_=>rfl
 | t::l,o,h=>by
  rw[nFs,π] at h;rw[yN,aYz t o h.1,aK3 l _ h.2];rfl
end
theorem aK4 (o:List Str) (l:List Ty) (x:Ty):yN o (l++[x])=frA (yN o l) x:=by
 induction l generalizing o with
 | nil=>rw[Av,yN,yN,yN]
 | cons t l q=>rw[As,yN,yN,q]
theorem aXd (t:Ty) (h:nF t=true) (o:List Str):(frA o t).length≤o.length+tn t:=by
 rw[aYz t o h];have:=lN (tfR t) o;have:=oY t;omega
def oV (l:List Str):V:=.one (.hs 710 0 l.length l.length)
def oO (l:List Str):AObj:=.arr 9 1 (l.map aK) 1
theorem aPf {l:List Ty}{o:List Str}{i:Nat}{x:Ty}(h:l[i]?=some x):yN o (l.take (i+1))=frA (yN o (l.take i)) x:=by rw[Bh,h];exact aK4 _ _ _
theorem aTv {l:List Ty}(h:nFs l=true):∀u∈l,nF u=true:=by
 induction l with
 | nil=>intro u hu;cases hu
 | cons t l q=>
  rw[nFs,π] at h;intro u hu;rcases Aq.1 hu with rfl | hu
  ·exact h.1
  ·exact q h.2 u hu
theorem aFc:∀(l:List Ty) (o:List Str),nFs l=true→(yN o l).length≤o.length+tns l
 | [],o,_=>le_refl _
 | t::l,o,h=>by
  rw[nFs,π] at h;rw[yN,tns];have h1:=aXd t h.1 o;have h2:=aFc l (frA o t) h.2;omega
theorem aOx {l:List Ty}(h:nFs l=true) (i:Nat):nFs (l.take i)=true:=by
 induction l generalizing i with
 | nil=>rw[take_nil];rfl
 | cons t l q=>
  rw[nFs,π] at h;cases i with
  | zero=>rfl
  | succ i=>rw[A3,nFs,h.1,q h.2 i];rfl
theorem aQ5:∀{l:List Ty}{i:Nat}{x:Ty},l[i]?=some x→tns (l.take i)+tn x≤tns l
 | t::l,0,x,h=>by
  have e:t=x:=by simpa using h
  subst e;rw[Bl,tns,tns];omega
 | t::l,i+1,x,h=>by
  have:=aQ5 (l:=l) (i:=i) (by simpa using h);rw[A3,tns,tns];omega
theorem aZ4:∀(k:Nat) (t:Ty),tn t≤k→wfS t=true→nF t=true→∀o:List Str,o.length+tn t≤1000000→aW Tryz.prog 204 [tyV t,bU [],oV o] [(710,oO o)] (oV (frA o t)) [(710,oO (frA o t))]
 | 0,t,h,_,_=>by have:=v8 t;omega
 | k+1,.mk f n s a,h,hw,hn=>by
  intro o ho;obtain⟨w1,O,_⟩:=aIt hw;rw[nF,π] at hn;have U:¬f=5:=by simpa using hn.1
  rw[tn] at h ho;rw[frA];have aa:(o.map aK).length=o.length:=ξ _;have A:(dV a).length=a.length:=by rw[gN,ξ]
  refine b9 (n:=55) tok Tryz.func204 rfl rfl rfl ?_;refine sg rfl (aA (sg rfl (aB rfl (fun hb=>?_) (fun hb=>?_))))
  ·have h2:f=2:=κ hb;rw[ζ h2];have ab:=aP5 [] s (by unfold Fits;decide);have ac:=aP5 o s (by unfold Fits;omega);refine AWp.sub (Sub.freeze (id:=710) rfl) ?_;refine aA (aA (agF 5 [(3,.pc (B (decide (s∈([]:List Str))))),(8,.pc (B (decide (s∈o))))] rfl rfl rfl ?_));have E:decide (s∈([]:List Str))=false:=φ (by simp);refine aB rfl (fun hb=>?_) (fun hb=>?_)
   ·have hm:s∈o:=by
     rw[E] at hb;exact κ (show decide (s∈o)=true from hb)
    unfold qF;rw[ζ hm];exact sg rfl (aE rtT)
   ·have hm:¬s∈o:=by
     rw[E] at hb;exact Ac (show decide (s∈o)=false from hb)
    unfold qF;rw[η hm];refine aD (sg rfl (AWp.sub (st2:=mk [(6,oV (o++[s]))] [(710,oO (o++[s]))]) sl ?_));exact aE rtT
  ·have h2:¬f=2:=Ac hb;rw[η h2];refine aD ?_;have d5:decide (f=5)=false:=φ U;refine aA (sg rfl (aB rfl (fun hb=>absurd (hb.symm.trans d5) (by decide)) (fun _=>aD (aA (sg rfl (aF (aJ (fun i:Nat=>mk [(1,bU []),(2,oV (yN o (a.take i))),(3,.one (.vp 3 0)),(8,I .i64 i)] [(3,.var 43 ((bF (.mk f n s a)).map R.c)),(710,oO (yN o (a.take i)))]) (fun i=>i≤a.length) (fun i=>a.length-i) 0 (Ab _) sl ?_)))))));intro i hi;refine aA (sg rfl (aB rfl (fun hb=>?_) (fun hb=>?_)))
   ·have J:=ltD hb A;obtain⟨u,q⟩:=aG J;have y:=ε q;have Y:(dV a)[i]?=some (bF u):=by rw[gN];exact aP bF q
    have h3:=aQ5 q;have h4:=aFc (a.take i) o (aOx hn.2 i);have hc:=aZ4 k u (by have:=qJ y;omega) (O u y) (aTv hn.2 u y) (yN o (a.take i)) (by omega);rw[←aPf q] at hc;refine aD (aA (aF (aC mixed (ak 7 [(3,.row i (bF u))] rfl (kc hc ?_)))));exact kz 1 rfl (ag [] rfl ⟨i+1,J,by dsimp only;omega,sl⟩)
   ·have M:=geD hb A hi;subst M;rw[Al];exact aH (sg rfl (aE rtT))
theorem a1h:∀t:Ty,nF t=true→tfR t=frA [] t
 | .mk f n s a,h=>by
  rw[nF,π] at h;have q:¬f=5:=by simpa using h.1
  rw[frA,tfR];by_cases h2:f=2
  ·rw[ζ h2,ζ h2];rfl
  ·rw[η h2,η h2,aK3 a [] h.2,aQ6 q]
theorem aMl (t:Ty) (hw:WF t) (hl:tn t≤1000000):aW Tryz.prog 183 [tyV t] [] (bU (tfR t)) []:=by
 have h0:=aZ4 (tn t) t (le_refl _) hw.1 hw.2 [] (by rw[length_nil];omega);have h1:=aW.nilArg (pre:=[tyV t,bU []]) (post:=[]) (hin:=[]) h0 rfl;rw[←a1h t hw.2] at h1;have h2:=h1.plain (by simp);refine b9 (n:=5) tok Tryz.func183 rfl rfl rfl ?_;refine sg rfl (sk 1 rfl (kc h2 ?_));exact kz 1 rfl (aE rtT)
theorem aLw (o l:List Str) (ho:o.length+l.length≤1000000000):aW Tryz.prog 182 [oV o,bU l] [(710,oO o)] (oV (fR o l)) [(710,oO (fR o l))]:=by
 have y:(l.map aK).length=l.length:=ξ _;refine b9 (n:=27) tok Tryz.func182 rfl rfl rfl ?_;refine sg rfl (aA (sg rfl (aF (aJ (fun i:Nat=>mk [(0,oV (fR o (l.take i))),(1,bU l),(5,I .i64 i)] [(710,oO (fR o (l.take i)))]) (fun i=>i≤l.length) (fun i=>l.length-i) 0 (Ab _) sl ?_))));intro i hi;refine aA (sg rfl (aB rfl (fun hb=>?_) (fun hb=>?_)))
 ·have u:=ltD hb y;obtain⟨s,hs⟩:=aG u;have M:=aP aK hs;have q:fR o (l.take (i+1))=qF (fR o (l.take i)) s:=by rw[Bh,hs,sH];rfl
  have B:(fR o (l.take i)).length≤1000000000:=by
   have:=lN (l.take i) o;rw[Ai] at this;omega
  have A:=aP5 (fR o (l.take i)) s (by unfold Fits;omega);generalize fR o (l.take i)=m at q B A ⊢;have J:(m.map aK).length=m.length:=ξ _;refine aD (AWp.sub (Sub.freeze (id:=710) rfl) ?_);refine aA (aF (skh 5 [(3,.row i (aK s))] rfl (kc A ?_)));refine kz 1 rfl (aB rfl (fun hb=>?_) (fun hb=>?_))
  ·have hm:¬s∈m:=fun h=>by rw[θ h] at hb;cases hb
   unfold qF at q;rw[η hm] at q;refine ag [(3,.row i (aK s))] rfl (ag [] rfl ⟨i+1,u,by dsimp only;omega,?_⟩);dsimp only;rw[q];exact sl
  ·have hm:s∈m:=by
    by_cases h:s∈m
    ·exact h
    ·rw[φ h] at hb;cases hb
   unfold qF at q;rw[ζ hm] at q;refine aD (ag [] rfl ⟨i+1,u,by dsimp only;omega,?_⟩);dsimp only;rw[q];exact sl
 ·have E:=geD hb y hi;subst E;rw[Al];exact aH (sg rfl (aE rtT))
structure Prd where
 cls:Str
 ty:Ty
def aM (p:Prd):List C:=[.str p.cls,.int .i64 p.ty.form,.int .i64 p.ty.n,.str p.ty.name,.sl 4 (dK p.ty)]
def rK:Str:=[44]
def darrow:Str:=[61,62]
def jV:Nat→Bool→List Tk→List Prd→Option (List Prd×List Tk)
 | 0,_,_,_=>none
 | _+1,_,[],_=>none
 | f+1,b,t::R,out=>
  if t.kind=2 then(match cU (3*R.length) (if b=true then 1 else 0) R with
   | .error _=>none
   | .ok (_,[])=>none
   | .ok (x,u::R2)=>if(b&&isT u rK)=true then jV f b R2 (out++[⟨t.text,x⟩]) else some (out++[⟨t.text,x⟩],u::R2))
  else none
abbrev PR:=Except PE (List Prd×List Tk)
def aDo (at':Int) (R0:List Tk) (out:List Prd):List Tk→PR
 | []=>.ok ([],R0)
 | u::R=>if isT u darrow=true then(if 16<out.length then .error (2,at') else .ok (out,R)) else .ok ([],R0)
def brP (at':Int) (R0:List Tk) (b:Bool) (out:List Prd):List Tk→PR
 | []=>.ok ([],R0)
 | u::R=>if b=true then(if isT u nY=true then aDo at' R0 out R else .ok ([],R0)) else aDo at' R0 out (u::R)
def mE (at':Int) (R0:List Tk) (b:Bool):Option (List Prd×List Tk)→PR
 | none=>.ok ([],R0)
 | some (out,R1)=>brP at' R0 b out R1
def cV:List Tk→PR
 | []=>.ok ([],[])
 | t::R=>mE t.pl (t::R) (isT t cG) (jV ((t::R).length+1) (isT t cG) (if isT t cG=true then R else t::R) [])
structure POk (R:List Tk) (out:List Prd) (R':List Tk) (m:Nat):Prop where
 e:qE R→qE R'
 s:∃p,R=p++R'∧m≤p.length
 w:∀p∈out,WF p.ty∧tn p.ty≤wt R
 l:out.length≤R.length
theorem oX {p R:List Tk}:wt R≤wt (p++R):=by unfold wt;rw[Af,sum_append];omega
theorem wU:∀(f:Nat) (b:Bool) (R:List Tk) (out:List Prd) (A:List Prd) (R':List Tk) (W n:Nat),wt R≤W→(∀p∈out,WF p.ty∧tn p.ty≤W)→out.length+R.length≤n→jV f b R out=some (A,R')→
  (qE R→qE R')∧(∃p,R=p++R'∧1≤p.length)∧(∀p∈A,WF p.ty∧tn p.ty≤W)∧A.length≤n
 | 0,_,_,_,_,_,_,_,_,_,_,h=>by rw[jV] at h;cases h
 | _+1,_,[],_,_,_,_,_,_,_,_,h=>by rw[jV] at h;cases h
 | f+1,b,t::R,out,A,R',W,n,I,ho,hn,h=>by
  rw[jV] at h;by_cases h2:t.kind=2
  ·rw[ζ h2] at h;have hok:=jQ (3*R.length) (if b=true then 1 else 0) R;generalize cU (3*R.length) (if b=true then 1 else 0) R=w at hok h;cases w with
   | error e=>cases h
   | ok y=>
    obtain⟨x,R1⟩:=y;obtain⟨⟨g1,⟨p,g2,g3⟩,g4⟩,g5⟩:=hok x R1 rfl;rw[cK] at I;rw[ω] at hn;have E:R1.length+1≤R.length:=by rw[g2,ψ];omega
    have B:∀q∈out++[(⟨t.text,x⟩:Prd)],WF q.ty∧tn q.ty≤W:=fun q hq=>by
     rcases A4.1 hq with hq | hq
     ·exact ho q hq
     ·rw[Am.1 hq];exact⟨g4,by show tn x≤W;omega⟩
    cases R1 with
    | nil=>cases h
    | cons u R2=>
     dsimp only at h;split at h
     ·rename_i hc;rw[π] at hc;have hu:=c8 hc.2;rw[cK] at g5;rw[ω] at E;obtain⟨J,⟨q,M,Y⟩,O,U⟩:=wU f b R2 (out++[⟨t.text,x⟩]) A R' W n (by omega) B (by rw[ψ,Bm];omega) h;exact⟨fun he=>J ((g1 (he.tail (by omega))).tail (by omega)),⟨t::(p++u::q),by rw[g2,M];simp,by simp⟩,O,U⟩
     ·cases h;exact⟨fun he=>g1 (he.tail (by omega)),⟨t::p,by rw[g2];rfl,by simp⟩,B,by rw[ψ,Bm];omega⟩
  ·rw[η h2] at h;cases h
theorem aSi {a:Int}{R0 R1:List Tk}{out q:List Prd}{R':List Tk}(hs:(qE R0→qE R1)∧∃p,R0=p++R1) (ho:∀p∈out,WF p.ty∧tn p.ty≤wt R0) (hl:out.length≤R0.length) (h:aDo a R0 out R1=.ok (q,R')):POk R0 q R' 0:=by
 have y:POk R0 [] R0 0:=⟨id,⟨[],rfl,le_refl _⟩,fun p hp=>by(cases hp),Ab _⟩
 cases R1 with
 | nil=>rw[aDo] at h;cases h;exact y
 | cons u R=>
  rw[aDo] at h;split at h
  ·rename_i hu;split at h
   ·cases h
   ·cases h;obtain⟨h1,p,h2⟩:=hs;exact⟨fun he=>(h1 he).tail (by rw[(c8 hu).1];decide),⟨p++[u],by rw[h2];simp,Ab _⟩,ho,hl⟩
  ·cases h;exact y
theorem nH {R:List Tk}{out:List Prd}{R':List Tk}(h:cV R=.ok (out,R')):POk R out R' 0:=by
 have B:POk R [] R 0:=⟨id,⟨[],rfl,le_refl _⟩,fun p hp=>by(cases hp),Ab _⟩
 cases R with
 | nil=>rw[cV] at h;cases h;exact B
 | cons t R=>
  rw[cV] at h;have A:(qE (t::R)→qE (if isT t cG=true then R else t::R))∧(∃p,t::R=p++(if isT t cG=true then R else t::R)):=by
   by_cases hb:isT t cG=true
   ·rw[ζ hb];exact⟨fun he=>he.tail (by rw[(c8 hb).1];decide),[t],rfl⟩
   ·rw[η hb];exact⟨id,[],rfl⟩
  have hw:wt (if isT t cG=true then R else t::R)≤wt (t::R):=by
   split
   ·rw[cK];omega
   ·exact le_refl _
  have hlen:(if isT t cG=true then R else t::R).length≤(t::R).length:=by split<;>simp
  have hok:=wU ((t::R).length+1) (isT t cG) (if isT t cG=true then R else t::R) [];generalize (if isT t cG=true then R else t::R)=Q at A hw hlen hok h;generalize isT t cG=b at hok h;cases hp:jV ((t::R).length+1) b Q [] with
  | none=>rw[hp,mE] at h;cases h;exact B
  | some y=>
   obtain⟨M,R1⟩:=y;rw[hp,mE] at h;obtain⟨O,⟨q,U,k3⟩,I,J⟩:=hok M R1 (wt (t::R)) (t::R).length hw (fun p hp=>by cases hp) (by rw[length_nil];omega) hp;obtain⟨h1,p,h2⟩:=A;have E:(qE (t::R)→qE R1)∧∃p,t::R=p++R1:=⟨fun he=>O (h1 he),p++q,by rw[h2,U,Aj]⟩
   cases R1 with
   | nil=>rw[brP] at h;cases h;exact B
   | cons u R2=>
    rw[brP] at h;split at h
    ·split at h
     ·rename_i hu;obtain⟨Y,p3,h4⟩:=E;exact aSi ⟨fun he=>(Y he).tail (by rw[(c8 hu).1];decide),p3++[u],by rw[h4];simp⟩ I J h
     ·cases h;exact B
    ·exact aSi E I J h
def prV (L:List Tk):PR→V
 | .ok (ps,R)=>.pa (aA0 zTy (.sl 5 (ps.map aM)) .nl ((L.length-R.length:Nat):Int) 0 0)
 | .error (e,p)=>.pa (aA0 zTy .nl .nl 0 e p)
theorem tG (L:List Tk) (ps:List Prd) (R:List Tk):prV L (.ok (ps,R))=.pa (aA0 zTy (.sl 5 (ps.map aM)) .nl ((L.length-R.length:Nat):Int) 0 0):=rfl
def nX (i:Int):List AM.R:=[.c (.int .i64 0),.c (.int .i64 0),.c (.str []),.c .nl,.c .nl,.c .nl,.c (.int .i64 i),.c (.int .i64 0),.c (.int .i64 0)]
noncomputable def a3x (c:Code):Code:=kJ (kJ (kJ (kJ (kJ (kJ (kJ (kJ (kJ c))))))))
theorem aGd (L:List Tk) (R:List Tk) (i:Nat) (hA:At L i R):aW Tryz.prog 179 [qK L,I .i64 (i:Nat)] [] (prV L (cV R)) []:=by
 have hkl:(L.map aI).length=L.length:=ξ _;have hLl:=hA.l;have hti0:=hA.lt;have ab:L.length-R.length=i:=by omega
 obtain⟨t,R,rfl⟩:=hA.e.ne;have hti:=hA.get;have hti':=aP aI hti;have hIs:=aBk t cG;refine b9 (n:=100) tok Tryz.func179 rfl rfl rfl ?_;refine sg rfl (sg rfl (sg rfl (sg rfl (skh 4 [(2,.row i (aI t))] rfl (kc hIs ?_)))));refine kz 1 rfl ?_;rw[cV];have hQ:∃(Q:List Tk) (k:Nat) (o:Nat),Q=(if isT t cG=true then R else t::R)∧At L k Q∧(o=if isT t cG=true then 1 else 0)∧k=i+o∧Q.length≤(t::R).length:=by
  by_cases hb:isT t cG=true
  ·obtain⟨h1,_⟩:=hA.next (by rw[(c8 hb).1];decide)
   exact⟨R,i+1,1,by rw[ζ hb],h1,by rw[ζ hb],rfl,by simp⟩
  ·exact⟨t::R,i,0,by rw[η hb],hA,by rw[η hb],rfl,le_refl _⟩
 obtain⟨Q,k,o,hQ,B,ho,hk,hQl⟩:=hQ;rw[←hQ];refine nQ (mk [(0,qK L),(1,I .i64 (i:Nat)),(4,.one (.vp 4 0)),(5,.one (.vp 5 0)),(6,I .i64 (o:Nat)),(7,I .i64 (k:Nat))] [(4,.var 188 zX),(5,.var 188 (nX i))]) ?_ ?_
 ·refine sg rfl (aB rfl (fun hb=>?_) (fun hb=>?_))
  ·rw[hb,ζ rfl] at ho;subst ho hk;exact sg rfl (agN [] rfl (.inl ⟨rfl,sl⟩))
  ·rw[hb,η (by decide)] at ho;subst ho hk;exact aD (.inl ⟨rfl,sl⟩)
 clear hQ hIs;have A:o=if isT t cG=true then 1 else 0:=ho
 generalize isT t cG=b at A ⊢;clear ho;have q:∃W:PR,W=mE t.pl (t::R) b (jV ((t::R).length+1) b Q []):=⟨_,rfl⟩
 obtain⟨W,q⟩:=q;rw[←q];refine sg rfl (AWp.sub (Sub.own (t:=9) (id:=500) 98 5 rfl rfl) ?_);refine aA (aF (aJ (fun p:Nat×Nat×List Prd×List Tk=>mk [(0,qK L),(1,I .i64 (i:Nat)),(4,.one (.vp 4 0)),(5,.one (.vp 5 0)),(6,I .i64 (o:Nat)),(7,I .i64 (p.1:Nat)),(9,.one (.hs 500 0 p.2.2.1.length p.2.2.1.length))] [(4,.var 188 zX),(5,.var 188 (nX i)),(500,.arr 98 5 (p.2.2.1.map aM) 0)]) (fun p=>At L p.1 p.2.2.2∧p.2.2.2.length+1≤p.2.1∧p.2.2.1.length+p.2.2.2.length≤4001∧W=mE t.pl (t::R) b (jV p.2.1 b p.2.2.2 p.2.2.1)) (fun p=>p.2.1) (k,(t::R).length+1,[],Q) ⟨B,by dsimp only;omega,by dsimp only;rw[length_nil];have:=B.lt;omega,q⟩ sl ?_));clear q B hQl hk;rintro⟨j,f,out,Q⟩ ⟨B,hf,hol,q⟩;dsimp only at B hf hol q ⊢;have hout:(out.map aM).length=out.length:=ξ _;obtain⟨f,rfl⟩:∃g,f=g+1:=⟨f-1,by omega⟩
 obtain⟨u,Q,rfl⟩:=B.e.ne;have huj:=B.get;have huj':=aP aI huj;have hjl:=B.lt;rw[ω] at hf hol hjl;rw[jV] at q;refine aF (aA (sgh [(2,.row j (aI u))] rfl ?_));by_cases h2:u.kind=2
 case neg=>
  rw[η h2,mE] at q;have d2:(!decide (u.kind=2))=true:=by rw[φ h2];rfl
  rw[q,tG,ab];exact aB rfl (fun _=>sg rfl (aE (rtC trw))) (fun hb=>absurd (hb.symm.trans d2) (by decide))
 rw[ζ h2] at q;have d2:(!decide (u.kind=2))=false:=by rw[θ h2];rfl
 refine aB rfl (fun hb=>absurd (hb.symm.trans d2) (by decide)) (fun _=>aD ?_);obtain⟨hA1,_⟩:=B.next (by omega)
 have hat:=(aIw L (3*Q.length)).1 (3*Q.length) (le_refl _) o Q _ hA1 (le_refl _) (by rw[A];split<;>omega);rw[A] at hat;have hok:=jQ (3*Q.length) (if b=true then 1 else 0) Q;have aa:=eN (3*Q.length) (if b=true then 1 else 0) Q;rw[←A] at hat hok aa q;refine aA (aC mixed (akN 4 [] rfl (kc hat ?_)));generalize cU (3*Q.length) o Q=w at hok aa q ⊢;cases w with
 | error e=>
  obtain⟨e,p⟩:=e;have he:=aa e p rfl;dsimp only at q;rw[q,mE,tG,ab];exact kz 2 rfl (aA (sg rfl (aB rfl (fun _=>sg rfl (aE (rtC trw))) (fun hb=>absurd hb (by simp[he])))))
 | ok y=>
 obtain⟨x,R1⟩:=y;obtain⟨hT,_⟩:=hok x R1 rfl;obtain⟨U,hle⟩:=hA1.ok hT;have hlen:=hT.len;obtain⟨v,R2,rfl⟩:=U.e.ne;rw[uO];dsimp only at q;have hvj:=U.get;have hvj':=aP aI hvj;have hv2:=U.lt;rw[ω] at hlen hv2;have hcm:=aBk v rK;refine kz 2 rfl (aA (sg rfl (aB rfl (fun hb=>absurd hb (by decide)) (fun _=>aD (aA (agN [(3,.row j (aI u)),(9,.all)] rfl (sg rfl (skh 4 [(2,.row (L.length-(v::R2).length) (aI v))] rfl (kc hcm ?_)))))))));refine kz 1 rfl ?_;have M:out.map aM++[[.str u.text,.int .i64 x.form,.int .i64 x.n,.str x.name,.sl 4 (dK x)]]=(out++[(⟨u.text,x⟩:Prd)]).map aM:=by rw[Af];rfl
 have Y:((out++[(⟨u.text,x⟩:Prd)]).map aM).length=out.length+1:=by rw[ξ,ψ];rfl
 generalize hO:out++[(⟨u.text,x⟩:Prd)]=O at q M Y;have ac:O.length=out.length+1:=by rw[←Y,ξ]
 generalize L.length-(v::R2).length=k at *;have E:(bif decide ((o:Int)=0) then true else !isT v rK)= !(b&&isT v rK):=by
  cases b with
  | false=>rw[A];rfl
  | true=>rw[A];rfl
 refine aA (aA (agF 3 [] rfl rfl rfl ?_));by_cases hc:(b&&isT v rK)=true
 ·rw[ζ hc] at q;rw[hc] at E;refine aB rfl (fun hb=>absurd (hb.symm.trans E) (by decide)) (fun _=>aD ?_);rw[π] at hc;obtain⟨hA3,_⟩:=U.next (by rw[(c8 hc.2).1];decide)
  exact agN [] rfl ⟨(k+1,f,O,R2),⟨hA3,by dsimp only;omega,by dsimp only;omega,q⟩,by dsimp only;omega,sl (he:=⟨rfl,rfl,rfl,rfl,rfl,rfl,Go.AM.hs_ren (by rw[ac,←hout];rfl) (by rw[ac,←hout];rfl),trivial⟩) (hh:=⟨⟨_,rfl,.var rfl⟩,⟨_,rfl,.var rfl⟩,⟨_,rfl,.arrS M⟩,trivial⟩)⟩
 rw[η hc,mE] at q;rw[Cb _ |>.mp hc] at E;refine aB rfl (fun _=>aH (AWp.sub (st2:=mk [(0,qK L),(1,I .i64 (i:Nat)),(4,.one (.vp 4 0)),(5,.one (.vp 5 0)),(6,I .i64 (o:Nat)),(7,I .i64 (k:Nat)),(9,.one (.hs 500 0 O.length O.length))] [(4,.var 188 zX),(5,.var 188 (nX i)),(500,.arr 98 5 (O.map aM) 0)]) (sl (he:=⟨rfl,rfl,rfl,rfl,rfl,rfl,Go.AM.hs_ren (by rw[ac,←hout];rfl) (by rw[ac,←hout];rfl),trivial⟩) (hh:=⟨⟨_,rfl,.var rfl⟩,⟨_,rfl,.var rfl⟩,⟨_,rfl,.arrS M⟩,trivial⟩)) ?_)) (fun hb=>absurd (hb.symm.trans E) (by decide));clear E hc M hO hcm hout Y;rw[brP] at q;have hmid:∀(m:Nat) (Q:List Tk),At L m Q→W=aDo t.pl (t::R) O Q→AWp none Tryz.prog 100 (keys ([]:List (Nat×AObj))) (a3x (Tryz.f179.body.getD .skip)) (mk [(0,qK L),(1,I .i64 (i:Nat)),(4,.one (.vp 4 0)),(5,.one (.vp 5 0)),(6,I .i64 (o:Nat)),(7,I .i64 (m:Nat)),(9,.one (.hs 500 0 O.length O.length))] [(4,.var 188 zX),(5,.var 188 (nX i)),(500,.arr 98 5 (O.map aM) 0)]) (fun ex st=>(ex=.normal∨ex=.ret)∧Fin tr.flat Tryz.f179 st [] (prV L W) []):=by
  intro m Q ad J;obtain⟨y,Q,rfl⟩:=ad.e.ne;have hyj:=ad.get;have hyj':=aP aI hyj;have hda:=aBk y darrow;have hB:=aGe t 2;have hml:=ad.lt;rw[aDo] at J;refine skh 4 [(2,.row m (aI y))] rfl (kc hda ?_);refine kz 1 rfl (aA (sg rfl ?_));cases hd:isT y darrow with
  | false=>
   rw[hd,η (by decide)] at J;rw[J,tG,ab];refine aB rfl (fun _=>sg rfl (AWp.sub (Sub.freeze (id:=500) rfl) ?_)) (fun hb=>absurd hb (by decide));exact aE (rtC trw)
  | true=>
   rw[hd,ζ rfl] at J;obtain⟨_,hn⟩:=ad.next (by rw[(c8 hd).1];decide)
   refine aB rfl (fun hb=>absurd hb (by decide)) (fun _=>aD (aA (sg rfl (aB rfl (fun hb=>?_) (fun hb=>?_)))))
   ·rw[ζ (by have:=κ hb;omega)] at J;rw[J];refine skh 4 [(2,.row i (aI t))] rfl (kc hB ?_);refine kz 1 rfl (AWp.sub (Sub.freeze (id:=500) rfl) ?_);exact aE (rtC trw)
   ·rw[η (by have:=Ac hb;omega)] at J;rw[J,tG,hn];refine aD (aA (agN [] rfl (AWp.sub (Sub.freeze (id:=500) rfl) ?_)));exact aE (rtC trw)
 cases b with
 | false=>
  rw[η (by decide)] at A q;subst A;refine aA (AWp.cut (mk [(0,qK L),(1,I .i64 (i:Nat)),(4,.one (.vp 4 0)),(5,.one (.vp 5 0)),(6,I .i64 ((0:Nat):Int)),(7,I .i64 (k:Nat)),(9,.one (.hs 500 0 O.length O.length))] [(4,.var 188 zX),(5,.var 188 (nX i)),(500,.arr 98 5 (O.map aM) 0)]) ?_ (hmid k (v::R2) U q));exact sg rfl (aB rfl (fun hb=>absurd hb (by decide)) (fun _=>aD sl))
 | true=>
  rw[ζ rfl] at A q;subst A;have hrp:=aBk v nY;by_cases hr:isT v nY=true
  ·rw[ζ hr] at q;obtain⟨hA3,_⟩:=U.next (by rw[(c8 hr).1];decide)
   refine aA (AWp.cut (mk [(0,qK L),(1,I .i64 (i:Nat)),(4,.one (.vp 4 0)),(5,.one (.vp 5 0)),(6,I .i64 ((1:Nat):Int)),(7,I .i64 ((k+1:Nat):Int)),(9,.one (.hs 500 0 O.length O.length))] [(4,.var 188 zX),(5,.var 188 (nX i)),(500,.arr 98 5 (O.map aM) 0)]) ?_ (hmid (k+1) R2 hA3 q));refine sg rfl (aB rfl (fun _=>skh 4 [(2,.row k (aI v))] rfl (kc hrp ?_)) (fun hb=>absurd hb (by decide)));refine kz 1 rfl ?_;rw[hr];exact aA (sg rfl (aB rfl (fun hb=>absurd hb (by decide)) (fun _=>aD (agN [] rfl sl))))
  ·rw[η hr] at q;rw[q,tG,ab];refine aA (sg rfl (aB rfl (fun _=>skh 4 [(2,.row k (aI v))] rfl (kc hrp ?_)) (fun hb=>absurd hb (by decide))));refine kz 1 rfl ?_;rw[Cb _ |>.mp hr];refine aA (sg rfl (aB rfl (fun _=>sg rfl (AWp.sub (Sub.freeze (id:=500) rfl) ?_)) (fun hb=>absurd hb (by decide))));exact aE (rtC trw)
structure Sch where
 vars:List Str
 preds:List Prd
 ty:Ty
def gP (o:List Str) (ps:List Prd):List Str:=ps.foldl (fun o p=>fR o (tfR p.ty)) o
def aWm (ps:List Prd) (x:Ty):List Str:=fR (gP [] ps) (tfR x)
abbrev SR:=Except PE (Sch×List Tk)
def qO (ps:List Prd):TR→SR
 | .error e=>.error e
 | .ok (x,R)=>.ok (⟨aWm ps x,ps,x⟩,R)
def qP:PR→SR
 | .error e=>.error e
 | .ok (ps,R)=>qO ps (cI (3*R.length+2) 0 R)
def cT (R:List Tk):SR:=qP (cV R)
theorem aCy (o:List Str) (ps:List Prd) (p:Prd):gP o (ps++[p])=fR (gP o ps) (tfR p.ty):=by unfold gP;rw[foldl_append];rfl
theorem aCx {ps:List Prd}{i:Nat}{p:Prd}(h:ps[i]?=some p):gP [] (ps.take (i+1))=fR (gP [] (ps.take i)) (tfR p.ty):=by rw[Bh,h];exact aCy _ _ _
theorem aAp {W:Nat}:∀(ps:List Prd) (o:List Str),(∀p∈ps,tn p.ty≤W)→(gP o ps).length≤o.length+ps.length*W
 | [],o,_=>by show o.length≤_;omega
 | p::ps,o,h=>by
  have h1:=aAp ps (fR o (tfR p.ty)) fun q hq=>h q (Bf _ hq)
  have h2:=lN (tfR p.ty) o;have u:=oY p.ty;have y:=h p Bt;show(gP (fR o (tfR p.ty)) ps).length≤_;rw[ω,Be];omega
def scV (L:List Tk):SR→V
 | .ok (s,R)=>.pa (aA0 s.ty (.sl 5 (s.preds.map aM)) (.sl 1 (s.vars.map aK)) ((L.length-R.length:Nat):Int) 0 0)
 | .error (e,p)=>.pa (aA0 zTy .nl .nl 0 e p)
theorem aRc (L:List Tk) (s:Sch) (R:List Tk):scV L (.ok (s,R))=.pa (aA0 s.ty (.sl 5 (s.preds.map aM)) (.sl 1 (s.vars.map aK)) ((L.length-R.length:Nat):Int) 0 0):=rfl
theorem aGl {a:Int}{R0 R1:List Tk}{out:List Prd}{e p:Int}(h:aDo a R0 out R1=.error (e,p)):¬e=0:=by
 cases R1 with
 | nil=>rw[aDo] at h;cases h
 | cons u R=>
  rw[aDo] at h;split at h
  ·split at h
   ·cases h;decide
   ·cases h
  ·cases h
theorem hD {R:List Tk}{e p:Int}(h:cV R=.error (e,p)):¬e=0:=by
 cases R with
 | nil=>rw[cV] at h;cases h
 | cons t R=>
  rw[cV] at h;cases hp:jV ((t::R).length+1) (isT t cG) (if isT t cG=true then R else t::R) [] with
  | none=>rw[hp,mE] at h;cases h
  | some y=>
   obtain⟨q,R1⟩:=y;rw[hp,mE] at h;cases R1 with
   | nil=>rw[brP] at h;cases h
   | cons u R2=>
    rw[brP] at h;split at h
    ·split at h
     ·exact aGl h
     ·cases h
    ·exact aGl h
theorem qN {R:List Tk}{e p:Int}(h:cT R=.error (e,p)):¬e=0:=by
 unfold cT at h;cases hp:cV R with
 | error e'=>rw[hp,qP] at h;cases h;exact hD hp
 | ok y=>
  obtain⟨ps,R1⟩:=y;rw[hp,qP] at h;cases hw:cI (3*R1.length+2) 0 R1 with
  | error e'=>rw[hw,qO] at h;cases h;exact eU _ _ _ _ _ hw
  | ok y=>obtain⟨x,R2⟩:=y;rw[hw,qO] at h;cases h
theorem aMi (L:List Tk) (R:List Tk) (i:Nat) (A:At L i R) (hwt:wt L≤30000):aW Tryz.prog 143 [qK L,I .i64 (i:Nat)] [] (scV L (cT R)) []:=by
 have hp:=aGd L R i A;have J:= @nH R;have M:= @hD R;unfold cT;refine b9 (n:=54) tok Tryz.func143 rfl rfl rfl ?_;refine sg rfl (sk 2 rfl (kc hp ?_));generalize cV R=w at J M ⊢;cases w with
 | error e=>
  obtain⟨e,p⟩:=e;have he:=M rfl;rw[qP];exact kz 2 rfl (aA (sg rfl (aB rfl (fun _=>sg rfl (aE (rtC trw))) (fun hb=>absurd hb (by simp[he])))))
 | ok y=>
 obtain⟨ps,R1⟩:=y;obtain⟨k1,⟨q,k2,_⟩,k3,k4⟩:=J rfl;obtain⟨O,hn1⟩:=A.to k2 (k1 A.e);rw[tG,qP,hn1];generalize i+q.length=j at O;have hty:=(aIw L (3*R1.length+2)).2 (3*R1.length+2) (le_refl _) 0 R1 j O (le_refl _) (by decide);have U:=gT (3*R1.length+2) 0 R1;have Y:=eU (3*R1.length+2) 0 R1;have hwR:∀{p Q:List Tk},wt Q≤wt (p++Q):=oX;have B:wt R≤30000:=by
  have:L=L.take i++R:=by rw[←A.d,C2]
  rw[this] at hwt;exact le_trans oX hwt
 have hwtR1:wt R1≤30000:=by rw[k2] at B;exact le_trans oX B
 have hRl:=A.lt;have hLl:=A.l;refine kz 2 rfl (aA (sg rfl (aB rfl (fun hb=>absurd hb (by decide)) (fun _=>aD (sk 3 rfl (kc hty ?_))))));generalize cI (3*R1.length+2) 0 R1=w at U Y ⊢;cases w with
 | error e=>
  obtain⟨e,p⟩:=e;have he:=Y e p rfl;rw[qO];exact kz 2 rfl (aA (sg rfl (aB rfl (fun _=>sg rfl (aE (rtC trw))) (fun hb=>absurd hb (by simp[he])))))
 | ok y=>
 obtain⟨x,R2⟩:=y;obtain⟨hT,hTn⟩:=U x R2 rfl;rw[uO,qO,aRc];dsimp only;generalize ((L.length-R2.length:Nat):Int)=m;have aa:(ps.map aM).length=ps.length:=ξ _;refine kz 2 rfl (aA (sg rfl (aB rfl (fun hb=>absurd hb (by decide)) (fun _=>aD (sg rfl (aA (sg rfl (AWp.sub (Sub.ownCell (x:=6) (k:=5) (id:=710) 9 1 rfl rfl rfl) ?_))))))));refine aF (aJ (fun k:Nat=>mk [(4,.one (.vp 4 0)),(5,.one (.vp 5 0)),(6,.one (.vp 6 0)),(7,I .i64 (k:Nat))] [(4,.var 188 zX),(5,.var 188 ((aA0 zTy (.sl 5 (ps.map aM)) .nl (j:Nat) 0 0).map .c)),(6,.var 188 [.c (.int .i64 x.form),.c (.int .i64 x.n),.c (.str x.name),.c (.sl 4 (dK x)),.c (.sl 5 (ps.map aM)),.hs 710 0 (gP [] (ps.take k)).length (gP [] (ps.take k)).length,.c (.int .i64 m),.c (.int .i64 0),.c (.int .i64 0)]),(710,oO (gP [] (ps.take k)))]) (fun k=>k≤ps.length) (fun k=>ps.length-k) 0 (Ab _) sl ?_);intro k hk;refine aA (sg rfl ?_);have hgl:(gP [] (ps.take k)).length≤4001*30000:=by
  have h1:=aAp (W:=30000) (ps.take k) [] (fun p hp=>by have:=(k3 p (Bb hp)).2;omega);rw[Ai,length_nil] at h1;have:min k ps.length*30000≤4001*30000:=A2 _ (by omega);omega
 refine aB rfl (fun hb=>?_) (fun hb=>?_)
 ·have ab:=ltD hb aa;obtain⟨p,hp⟩:=aG ab;have hp':=aP aM hp;have hpm:=k3 p (ε hp);have E:=aMl p.ty hpm.1 (by omega);have htf:=oY p.ty;have u:=aLw (gP [] (ps.take k)) (tfR p.ty) (by omega);rw[←aCx hp] at u;refine aD (aA (aF (aC mixed (ak 8 [(5,.row k (aM p))] rfl (kc E ?_)))));refine kc u ?_;exact kz 2 rfl (ag [] rfl ⟨k+1,ab,by dsimp only;omega,sl⟩)
 ·have hge:=geD hb aa hk;subst hge;rw[Al] at hgl ⊢;have E:=aMl x hT.w (by omega);have htf:=oY x;have u:=aLw (gP [] ps) (tfR x) (by omega);have hsv:aWm ps x=fR (gP [] ps) (tfR x):=rfl;rw[hsv];refine aH (sk 4 rfl (kc E ?_));refine kc u ?_;refine kz 2 rfl (sg rfl (AWp.sub (Sub.freeze (id:=710) rfl) ?_));exact aE (rtC trw)
end Go.Proofs.YtkhgpgihmphfdaaGreatDoor
