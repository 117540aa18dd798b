/-
  Texts Rd9 to Rd18 in one.
-/
import Derived.Test.YtpmheldmadendaaGreatDoorM6
open List (append_assoc cons_append drop_drop drop_eq_getElem_cons drop_length drop_zero foldl_append length_append length_cons length_drop length_map length_nil length_singleton length_take map_append map_cons mem_append mem_cons mem_cons_of_mem mem_cons_self mem_of_mem_take mem_singleton nil_append not_mem_nil sum_cons take_add_one take_append_drop take_length take_succ_cons take_zero)
open Nat (add_mul le_max_left le_max_right le_refl le_trans lt_irrefl mul_le_mul_right zero_le)
namespace Go.Proofs.YtpmheldmadendaaGreatDoor
open Go Go.AM
set_option maxRecDepth 20000
set_option maxHeartbeats 4000000
theorem aAl (f:FuncId) (p:Nat→Bool) (s:Str) (hl:s.length≤4001) (r:aX9 Tryz.prog f=true) (E:∀c∈s,b9 Tryz.prog f [I .u8 (c.toNat:Nat)] [] (B (p c.toNat)) []):b9 Tryz.prog 130 [Go.AM.T s,.one (.clo f [])] [] (I .i64 (cN p s)) []:=by
 have M:=gG p s;refine bP (n:=20) tok Tryz.func130 rfl rfl rfl ?_;refine sg rfl (sg rfl (aA (aF (aK (fun j:Nat=>mk [(0,Go.AM.T s),(1,.one (.clo f [])),(5,I .i64 j)] []) (fun j=>j≤cN p s) (fun j=>cN p s-j) 0 (ε _) sl ?_))));intro j hj;by_cases u:j<s.length
 ·obtain⟨d,hd⟩:=aL u;have q:=nA p s j hj d hd;have y:=E d (τ hd);have J:decide ((j:Int)<(s.length:Int))=true:=φ (by omega);refine aA (skh 9 [(4,.bv true),(8,.byte j d)] rfl (kvG (caps:=[]) (args:=[I .u8 (d.toNat:Nat)]) (hin:=[]) (hout:=[]) y ?_ (hb:=aJ1 r)));refine ak 1 [(4,.bv true),(10,.bv true)] rfl (az (aB rfl (fun hb=>?_) (fun hb=>?_)))
  ·exact aD (aF (ag [] rfl ⟨j+1,q.1 hb,by dsimp only;have:=q.1 hb;omega,sl⟩))
  ·have e:j=cN p s:=by
    have:¬j<cN p s:=fun h=>by rw[q.2 h] at hb;cases hb
    omega
   refine aH ?_;rw[←e];exact sg rfl (aE rtT)
 ·have e:j=cN p s:=by omega
  have J:decide ((j:Int)<(s.length:Int))=false:=ψ (by omega);refine aA (sgh [(4,.bv false),(10,.bv false)] rfl (aB rfl (fun hb=>absurd hb (by decide)) (fun _=>aH ?_)));rw[←e];exact sg rfl (aE rtT)
theorem y5 (s x:Str):b9 Tryz.prog 173 [Go.AM.T s,Go.AM.T x] [] (B (preB x s)) []:=by
 unfold preB;refine bP (n:=18) tok Tryz.func173 rfl rfl rfl ?_;refine sg rfl ?_;by_cases h:x.length≤s.length
 ·have d1:decide ((x.length:Int)≤(s.length:Int))=true:=φ (by omega);rw[φ h,B8];exact sgh [(5,.bv true),(12,.bv true)] rfl (aE rtT)
 ·have d1:decide ((x.length:Int)≤(s.length:Int))=false:=ψ (by omega);rw[ψ h,B3];exact sgh [(5,.bv false),(12,.bv false)] rfl (aE rtT)
theorem rY (s x:Str):b9 Tryz.prog 129 [Go.AM.T s,Go.AM.T x] [] (B (preB x s)) []:=by
 have h:=y5 s x;refine bP (n:=8) tok Tryz.func129 rfl rfl rfl ?_;exact sg rfl (sgh [(2,.pc (B (preB x s)))] rfl (aE rtT))
theorem aSx:b9 Tryz.prog 180 [] [] (cJ rH) []:=by
 refine bP (n:=2) tok Tryz.func180 rfl rfl rfl ?_;exact sg rfl (sgh [(0,.all)] rfl (aE rtT))
theorem aE6:b9 Tryz.prog 181 [] [] (cJ sB) []:=by
 refine bP (n:=2) tok Tryz.func181 rfl rfl rfl ?_;exact sg rfl (sgh [(0,.all)] rfl (aE rtT))
def vI (a b:Int):Int:=if b<a then b else a
def aHy:Str→Int→Int
 | [],k=>k
 | c::s,k=>aHy s (vI (k*10+((c.toNat:Int)-48)) 2147483648)
theorem aNk (s:Str) (hl:s.length≤4001) (hd:∀c∈s,48≤c.toNat∧c.toNat≤57):b9 Tryz.prog 175 [Go.AM.T s] [] (I .i64 (aHy s 0)) []:=by
 refine bP (n:=21) tok Tryz.func175 rfl rfl rfl ?_;refine sg rfl (sg rfl (aA (sg rfl (aF (aK (fun p:Nat×Int=>mk [(0,Go.AM.T s),(3,I .i64 p.2),(6,I .i64 (s.length:Nat)),(7,I .i64 p.1)] []) (fun p=>p.1≤s.length∧0≤p.2∧p.2≤2147483648∧aHy (s.drop p.1) p.2=aHy s 0) (fun p=>s.length-p.1) (0,0) ⟨ε _,by decide,by decide,rfl⟩ sl ?_)))));rintro⟨i,k⟩ ⟨hi,J,M,q⟩;dsimp only at hi J M q ⊢;refine sg rfl (aA (aB rfl (fun hb=>?_) (fun hb=>?_)))
 ·have B:i<s.length:=by have:=κ hb;omega
  obtain⟨d,r⟩:=aL B;obtain⟨g1,g2⟩:=hd d (τ r);have O:s.drop i=d::s.drop (i+1):=by
   obtain⟨U,Y⟩:=Ai.1 r;rw[Ay U,Y]
  rw[O,aHy] at q;refine aD ?_;have u:IntKind.wrap .u8 ((d.toNat:Int)-48)=(d.toNat:Int)-48:=by unfold IntKind.wrap;simp[IntKind.bits,IntKind.signed];omega
  have y:IntKind.wrap .i64 ((d.toNat:Int)-48)=(d.toNat:Int)-48:=B2 _ (by omega);refine aA (aF (sg rfl (ag [(4,.byte i d)] rfl ?_ (hc:=⟨⟨by rw[u,y];omega,by rw[u,y];omega⟩,⟨rfl,r⟩,⟨by omega,by omega⟩,trivial⟩))));rw[u,y];refine ag [] rfl ?_;have E:0≤vI (k*10+((d.toNat:Int)-48)) 2147483648∧vI (k*10+((d.toNat:Int)-48)) 2147483648≤2147483648:=by unfold vI;split<;>omega
  exact⟨(i+1,vI (k*10+((d.toNat:Int)-48)) 2147483648),⟨B,E.1,E.2,q⟩,by dsimp only;omega,sl⟩
 ·have e:i=s.length:=by have:=Af hb;omega
  rw[e,Cc,aHy] at q;rw[←q];exact aH (sg rfl (aE rtT))
def tkP:V:=.one (.vp 750 0)
def tkO (l:List Int) (i:Nat):AObj:=.var 126 [.c (.sl 1 (l.map kQ)),.c (.int .i64 (i:Nat))]
theorem a3c (l:List Int) (k:Nat) (q:Fits l) (r:k≤1000):b9 Tryz.prog 34 [.one (.c (.sl 1 (l.map kQ))),I .i64 (k:Nat)] [] tkP [(750,tkO (l.take k) 0)]:=by
 have hi:=aWx l k q r;refine bP (n:=10) tok Tryz.func34 rfl rfl rfl ?_;refine sg rfl (sk 2 rfl (kc hi ?_));exact ak 3 [(4,.id 750)] rfl (az (aE rtT))
theorem aCy (l:List Int) (hl:aP8 l) (E:l.length≤1000) (i:Nat) (hi:i≤l.length) (q:Nat) (hm:0<q) (y:q≤1000000):∃v j:Nat,v<q∧j≤l.length∧b9 Tryz.prog 52 [tkP,I .i64 (q:Nat)] [(750,tkO l i)] (I .i64 (v:Nat)) [(750,tkO l j)]:=by
 have r:(l.map kQ).length=l.length:=η _;by_cases h:i<l.length
 ·obtain⟨x,hx⟩:=aL h;have B:=aT kQ hx;have u:i64 x:=hl x (τ hx);obtain⟨h1,h2⟩:=aKn x (k:=(q:Int)) (by omega);obtain⟨v,hv⟩:∃v:Nat,s7 x q=v:=⟨(s7 x q).toNat,by omega⟩
  have hc:=aNy x q u (by omega);rw[hv] at hc;refine⟨v,i+1,by omega,h,?_⟩;have d1:decide ((l.length:Int)≤(i:Int))=false:=ψ (by omega);refine bP (n:=37) tok Tryz.func52 rfl rfl rfl ?_;refine sg rfl (aA (sg rfl ?_));rw[r];refine aB rfl (fun hb=>absurd (hb.symm.trans d1) Bool.noConfusion) (fun _=>aD (skh 11 [(8,.row i (kQ x))] rfl (kc hc ?_)));exact kz 1 rfl (aA (agN [] rfl (sg rfl (aE rtT))))
 ·refine⟨0,i,hm,hi,?_⟩;have d1:decide ((l.length:Int)≤(i:Int))=true:=φ (by omega);refine bP (n:=37) tok Tryz.func52 rfl rfl rfl ?_;refine sg rfl (aA (sg rfl ?_));rw[r];exact aB rfl (fun _=>sg rfl (aE rtT)) (fun hb=>absurd (hb.symm.trans d1) Bool.noConfusion)
def vV:Code→Code | .seq _ b=>b | c=>c
theorem aB7:∀s:Str,(∀c∈s,48≤c.toNat∧c.toNat≤57)→aHy s 2147483648=2147483648
 | [],_=>rfl
 | c::s,h=>by
  have:=h c Ba;rw[aHy,show vI (2147483648*10+((c.toNat:Int)-48)) 2147483648=2147483648 by unfold vI;split<;>omega];exact aB7 s fun d hd=>h d (A1 _ hd)
theorem aVv:∀(s:Str) (k:Int),(∀c∈s,48≤c.toNat∧c.toNat≤57)→2147483648≤k→2147483648≤kR s k
 | [],k,_,h=>h
 | c::s,k,hs,h=>by
  have:=hs c Ba;rw[kR];split
  ·exact aVv s _ (fun d hd=>hs d (A1 _ hd)) (by omega)
  ·exact h
theorem aO6:∀(s:Str) (k:Int),(∀c∈s,48≤c.toNat∧c.toNat≤57)→0≤k→k≤2147483647→aHy s k=vI (kR s k) 2147483648
 | [],k,_,_,h=>by rw[aHy,kR];unfold vI;rw[ξ (by omega)]
 | c::s,k,hs,h0,h=>by
  have h1:=hs c Ba;have h2:∀d∈s,48≤d.toNat∧d.toNat≤57:=fun d hd=>hs d (A1 _ hd)
  rw[aHy,kR,ζ (by omega)];by_cases q:k*10+((c.toNat:Int)-48)≤2147483647
  ·rw[show vI (k*10+((c.toNat:Int)-48)) 2147483648=k*10+((c.toNat:Int)-48) by unfold vI;rw[ξ (by omega)]];exact aO6 s _ h2 (by omega) q
  ·rw[show vI (k*10+((c.toNat:Int)-48)) 2147483648=2147483648 by unfold vI;split<;>omega,aB7 s h2];have:=aVv s (k*10+((c.toNat:Int)-48)) h2 (by omega);unfold vI;split<;>omega
theorem aZc (c:Nat):nmQ c 97 122=wiB c 97 122:=by
 unfold nmQ fiB wiB plB;rw[Bv];simp;omega
theorem aZb (c:Nat):nmQ c 65 90=wiB c 65 90:=by
 unfold nmQ fiB wiB plB;rw[Bv];simp;omega
theorem aZe (c:Nat) (h:wiB c 97 122=true):wiB c 65 90=false:=by
 unfold wiB at *;simp at *;omega
theorem aK8 {c:UInt8}{r:Str}(h:wiB c.toNat 65 90=true) (hs:sgB c.toNat=true):¬(c::r).take (cN sgB (c::r))∈rH:=fun hm=>by
 rw[cN,ζ hs,A5] at hm;have:c=99∨c=100∨c=105∨c=108∨c=111:=by
  unfold rH at hm;simp only[Au,List.cons.injEq,not_mem_nil,or_false] at hm;rcases hm with⟨h,_⟩ | ⟨h,_⟩ | ⟨h,_⟩ | ⟨h,_⟩ | ⟨h,_⟩ | ⟨h,_⟩ | ⟨h,_⟩<;>simp[h]
 unfold wiB at h;rcases this with rfl | rfl | rfl | rfl | rfl<;>exact absurd h (by decide)
theorem aW3 (c:UInt8):b9 Tryz.prog 174 [I .u8 (c.toNat:Nat)] [] (B (dgB c.toNat)) []:=by
 have h:=rZ aX4 c;rw[←aZn c];refine bP (n:=6) tok Tryz.func174 rfl rfl rfl ?_;exact sg rfl (sgh [(1,.pc (I .i64 (Lib.indexByte aX4 c)))] rfl (aE rtT))
def jF:Code→Code | .seq _ b=>b | c=>c
noncomputable def a2r (c:Code):Code:=jF (jF (jF (jF c)))
def aMz:TE→Int
 | .ok _=>0
 | .error e=>e
theorem aWr (c:UInt8) (r:Str) (hl:r.length≤4000):∃(k0:Int) (t0:Str) (v0:Int),b9 Tryz.prog 132 [Go.AM.T (c::r)] [] (.tup [.pa [.int .i64 k0,.str t0,.int .i64 v0,.int .i64 0],I .i64 (aMz (j4 (c::r)))]) []∧∀k t v,j4 (c::r)=.ok (k,t,v)→k0=k∧t0=t∧v0=v:=by
 have hSl:(c::r).length≤4001:=by rw[χ];omega
 have E:=aAl 174 dgB (c::r) hSl (by kernel_rfl) fun d hd=>aW3 d
 have hw2:=aAl 178 sgB (c::r) hSl (by kernel_rfl) fun d _=>aNn d
 have J:=aN2 c;have M:=aN0 c;rw[aZc] at J;rw[aZb] at M;have ht1:(c::r).take 1=[c]:=rfl;by_cases hd:dgB c.toNat=true
 ·have B:∀d∈(c::r).take (cN dgB (c::r)),48≤d.toNat∧d.toNat≤57:=fun d hd=>by
   obtain⟨j,hj⟩:=List.getElem?_of_mem hd;rw[Ao] at hj;split at hj
   ·rename_i O;exact κ ((nA dgB (c::r) j (by omega) d hj).2 O)
   ·cases hj
  have y:j4 (c::r)=if 2147483647<kR ((c::r).take (cN dgB (c::r))) 0 then .error 11 else .ok (3,(c::r).take (cN dgB (c::r)),kR ((c::r).take (cN dgB (c::r))) 0):=by rw[j4,ζ hd]
  have hnum:=aNk ((c::r).take (cN dgB (c::r))) (by rw[An];omega) B;rw[aO6 _ 0 B (by decide) (by decide)] at hnum;have hN1:0<cN dgB (c::r):=by rw[cN,ζ hd];omega
  have hNl:=gG dgB (c::r);rw[y];clear B y J M hw2 ht1;generalize cN dgB (c::r)=N at *;generalize c::r=S at *;generalize hK:kR (S.take N) 0=K at *;refine⟨3,S.take N,vI K 2147483648,?_,fun k t v h=>?_⟩
  ·refine bP (n:=67) tok Tryz.func132 rfl rfl rfl ?_;refine sg rfl (aA (sk 1 rfl (kc E ?_)));refine kz 1 rfl ?_;have dN:decide ((0:Int)<(N:Int))=true:=φ (by omega);refine sg rfl (aB rfl (fun _=>aA (aC mixed (akN 6 [] rfl (kc hnum ?_)))) (fun hb=>absurd (hb.symm.trans dN) (by decide)));refine akN 3 [] rfl (az (aA (sg rfl ?_)));by_cases hk:2147483647<K
   ·rw[ζ hk];refine aB rfl (fun _=>?_) (fun hb=>?_)
    ·exact sg rfl (aE (aBm trw))
    ·have:=Af hb;unfold vI at this;split at this<;>omega
   ·rw[ξ hk];refine aB rfl (fun hb=>?_) (fun _=>?_)
    ·have:=κ hb;unfold vI at this;split at this<;>omega
    ·exact aD (sg rfl (aE (aBm trw)))
  ·split at h
   ·cases h
   ·rename_i hk;cases h;exact⟨rfl,rfl,by unfold vI;rw[ξ (by omega)]⟩
 ·have hS1:1≤(c::r).length:=by rw[χ];omega
  have hN0:cN dgB (c::r)=0:=by rw[cN,ξ hd]
  rw[hN0] at E;have y:j4 (c::r)=if wiB c.toNat 97 122=true∨wiB c.toNat 65 90=true then oW (c::r) (wiB c.toNat 65 90) else if oP (c::r)=[] then .error 10 else .ok (4,oP (c::r),0):=by rw[j4,ξ hd]
  have hnk:= @aK8 c r;have hsg:wiB c.toNat 97 122=true∨wiB c.toNat 65 90=true→sgB c.toNat=true:=fun h=>by
   rcases h with h | h
   ·have:=aGj c.toNat;rw[h] at this;simpa using this
   ·have:=aGi c.toNat;rw[h] at this;simpa using this
  have hlu:=aZe c.toNat;have hsy:oP (c::r)=(match sB.find? (fun x=>preB x (c::r)) with | some x=>x | none=>[]):=rfl;rw[y];clear y hd;generalize c::r=S at *;generalize wiB c.toNat 97 122=lo at *;generalize wiB c.toNat 65 90=up at *;have kind:∃k:Int,k=if lo=true then 1 else if up=true then 2 else 0:=⟨_,rfl⟩
  obtain⟨Y,q⟩:=kind;have pre:∀(l:List C) (e:Int),AWp none Tryz.prog 67 (keys []) (a2r (Tryz.f132.body.getD .skip)) (mk [(0,Go.AM.T S),(2,.one (.vp 2 0)),(6,I .i64 Y)] [(2,.var 139 (aFq.map .c))]) (fun ex st=>(ex=.normal∨ex=.ret)∧Fin tr.flat Tryz.f132 st [] (.tup [.pa l,I .i64 e]) [])→b9 Tryz.prog 132 [Go.AM.T S] [] (.tup [.pa l,I .i64 e]) []:=fun l e h=>by
   refine bP (n:=67) tok Tryz.func132 rfl rfl rfl ?_;refine sg rfl (aA (sk 1 rfl (kc E ?_)));refine kz 1 rfl (sg rfl (aB rfl (fun hb=>absurd hb (by decide)) (fun _=>aD (sg rfl (mL (mk [(0,Go.AM.T S),(2,.one (.vp 2 0)),(6,I .i64 Y)] [(2,.var 139 (aFq.map .c))]) ?_ h)))));refine aF (sk 2 rfl ?_);rw[ht1];refine kc J ?_;refine kz 1 rfl (aB rfl (fun hb=>?_) (fun hb=>?_))
   ·rw[hb,ζ rfl] at q;subst q;exact ag [] rfl (.inl ⟨rfl,sl⟩)
   rw[hb,ξ ω] at q;refine sk 2 rfl ?_;rw[ht1];refine kc M ?_;refine kz 1 rfl (aB rfl (fun hb=>?_) (fun hb=>?_))
   ·rw[hb,ζ rfl] at q;subst q;exact ag [] rfl (.inl ⟨rfl,sl⟩)
   ·rw[hb,ξ ω] at q;subst q;exact aD (.inl ⟨rfl,sl⟩)
  clear J M E hN0;by_cases hn:lo=true∨up=true
  ·rw[ζ hn];have hsg:=hsg hn;have hkp:0<Y:=by
    rw[q];rcases hn with h | h
    ·rw[ζ h];decide
    ·rw[ζ h];split<;>decide
   have hW:=gG sgB S;have hky:=aSx;have hct:=pA rH (S.take (cN sgB S)) (by decide);have hnk:=fun h=>hnk h hsg
   unfold oW;generalize cN sgB S=N at *;have k5:∃k5:Int,k5=if S.take N∈rH then 5 else Y:=⟨_,rfl⟩
   obtain⟨k5,u⟩:=k5;have dk:decide ((0:Int)<Y)=true:=φ hkp;refine⟨k5,S.take N,0,pre _ _ ?_,fun k t v h=>?_⟩
   ·refine aA (sg rfl (aB rfl (fun _=>sk 3 rfl (kc hw2 ?_)) (fun hb=>absurd (hb.symm.trans dk) (by decide))));refine kz 4 rfl (mL (mk [(0,Go.AM.T S),(2,.one (.vp 2 0)),(7,.one (.vp 7 0))] [(2,.var 139 (aFq.map .c)),(7,.var 139 [.c (.int .i64 k5),.c (.str (S.take N)),.c (.int .i64 0),.c (.int .i64 0)])]) ?_ ?_)
    ·generalize rH=L at *;refine aA (aC mixed (kc hky ?_));refine akN 2 [] rfl (kc hct ?_);refine az (aB rfl (fun hb=>?_) (fun hb=>?_))
     ·rw[ζ (κ hb)] at u;subst u;exact ag [] rfl (.inl ⟨rfl,sl⟩)
     ·rw[ξ (Af hb)] at u;subst u;exact aD (.inl ⟨rfl,sl⟩)
    ·have hTl:(S.take N).length=N:=by rw[An];omega
     generalize S.take N=X at *;refine aA (sg rfl ?_);rw[hTl];refine aB rfl (fun hb=>?_) (fun hb=>?_)
     ·rw[ζ (by have:=κ hb;omega)];exact sg rfl (aE (aBm trw))
     ·rw[ξ (by have:=Af hb;omega)];have e0:aMz (if up=true then(.ok (2,X,0):TE) else if X∈rH then .ok (5,X,0) else .ok (1,X,0))=0:=by
       split
       ·rfl
       ·split<;>rfl
      rw[e0];exact aD (sg rfl (aE (aBm trw)))
   ·split at h
    ·cases h
    split at h
    ·rename_i hu;cases h;rw[ξ (hnk hu)] at u;have hl:¬lo=true:=fun hl=>by rw[hlu hl] at hu;cases hu
     exact⟨by rw[u,q,ξ hl,ζ hu],rfl,rfl⟩
    ·rename_i hu;split at h
     ·rename_i hm;cases h;rw[ζ hm] at u;exact⟨u,rfl,rfl⟩
     ·rename_i hm;cases h;rw[ξ hm] at u;exact⟨by rw[u,q,ζ (hn.resolve_right hu)],rfl,rfl⟩
  ·rw[ξ hn];have hk0:Y=0:=by rw[q,ξ (fun h=>hn (.inl h)),ξ (fun h=>hn (.inr h))]
   subst hk0;have hsb:=aE6;have h13:sB.length≤13:=by decide
   refine⟨if oP S=[] then 0 else 4,oP S,0,pre _ _ ?_,fun k t v h=>?_⟩
   ·refine aA (sg rfl (aB rfl (fun hb=>absurd hb (by decide)) (fun _=>aD ?_)));have hne:∀x∈sB,¬x=[]:=by decide
    rw[hsy];clear hsy;generalize sB=L at *;have hkl:(L.map b7).length=L.length:=η _;refine aA (aA (aC mixed (kc hsb ?_)));refine kz 2 rfl (aF (aK (fun i:Nat=>mk [(0,Go.AM.T S),(2,.one (.vp 2 0)),(54,.one (.c (.sl 1 (L.map b7)))),(55,I .i64 ((L.map b7).length:Nat)),(56,I .i64 i)] [(2,.var 139 (aFq.map .c))]) (fun i=>i≤L.length∧(L.take i).find? (fun x=>preB x S)=none) (fun i=>L.length-i) 0 ⟨ε _,rfl⟩ sl ?_));rintro i ⟨hi,U⟩;refine sg rfl (aA (aB rfl (fun hb=>?_) (fun hb=>?_)))
    ·have O:=ltD hb hkl;obtain⟨x,hx⟩:=aL O;have hx':=aT b7 hx;have hpx:=rY S x;refine aD (aA (aF (sgh [(0,.row i (b7 x))] rfl (sk 2 rfl (kc hpx ?_)))));refine az (aB rfl (fun hb=>?_) (fun hb=>?_))
     ·rw[mZ U hx hb];dsimp only;rw[ξ (hne x (τ hx)),ξ (hne x (τ hx))];exact sg rfl (aE (aBm trw))
     ·exact aD (ag [] rfl ⟨i+1,⟨O,n0 U hx hb⟩,by dsimp only;omega,sl⟩)
    ·have hge:=geD hb hkl hi;rw[hge,Ax] at U;rw[U];dsimp only;rw[ζ rfl,ζ rfl];exact aH (sg rfl (aE (aBm trw)))
   ·split at h
    ·cases h
    ·rename_i hs;cases h;exact⟨ξ hs,rfl,rfl⟩
def blS:Str:=[32,9,10]
theorem aZv (c:UInt8):ixB blS c=blB c.toNat:=kC (p:=fun c=>ixB blS c=blB c.toNat) (by decide+kernel) c
theorem aId {s:Str}(h:preB [45,45] s=true):cN neB s=2+cN neB (s.drop 2):=by
 unfold preB at h;rw[π] at h;have h2:=κ h.2
 match s,h2 with
 | a::b::r,h2=>
  have h2:[a,b]=[45,45]:=h2;cases h2;rw[cN,ζ (by decide),cN,ζ (by decide)];show cN neB r+1+1=2+cN neB r;omega
theorem aZt (c:UInt8):b9 Tryz.prog 131 [I .u8 (c.toNat:Nat)] [] (B (neB c.toNat)) []:=by
 have e:(!decide ((c.toNat:Int)=10))=neB c.toNat:=by
  unfold neB;by_cases h:c.toNat=10
  ·rw[φ h,φ (by omega)]
  ·rw[ψ h,ψ (by omega)]
 rw[←e];refine bP (n:=5) tok Tryz.func131 rfl rfl rfl ?_;exact sg rfl (sg rfl (aE rtT))
theorem aPt (S:Str):b9 Tryz.prog 79 [Go.AM.T S] [] (aFu (lexA S)) []:=by
 refine bP (n:=65) tok Tryz.func79 rfl rfl rfl ?_;refine sg rfl (aKk ?_);refine aA (sg rfl (aB rfl (fun hb=>?_) (fun hb=>?_)))
 ·unfold lexA;rw[ζ (by have:=κ hb;omega)];exact sg rfl (aE (aTn trw))
 have hl:S.length≤4000:=by have:=Af hb;omega
 have hA:lexA S=aTq [] (mY S.length 0 (S.drop 0)):=by
  unfold lexA;rw[ξ (by omega),B5];cases mY S.length 0 S<;>rfl
 refine aD (sg rfl (sg rfl (AWp.sub (Sub.own (t:=4) (id:=500) 139 4 rfl rfl) ?_)));refine aA (aKl ?_);refine aA (aF (aK (fun p:Nat×Nat×List Tk=>mk [(0,Go.AM.T S),(3,.one (.vp 3 0)),(4,.one (.hs 500 0 p.2.2.length p.2.2.length)),(5,I .i64 p.1)] [(3,.var 32 [.c (.int .i64 0),.c (.int .i64 0)]),(500,.arr 139 4 (p.2.2.map aG) 0)]) (fun p=>p.1≤S.length∧S.length-p.1≤p.2.1∧p.2.2.length+(S.length-p.1)≤S.length∧lexA S=aTq p.2.2 (mY p.2.1 p.1 (S.drop p.1))) (fun p=>p.2.1) (0,S.length,[]) ⟨ε _,by dsimp only;omega,by dsimp only;simp,hA⟩ sl ?_));rintro⟨i,f,out⟩ ⟨hi,hf,Y,q⟩;dsimp only at hi hf Y q ⊢;have hout:(out.map aG).length=out.length:=η _;refine aA (sg rfl (aB rfl (fun hb=>?_) (fun hb=>?_)))
 ·have hlt:i<S.length:=by have:=κ hb;omega
  obtain⟨g,rfl⟩:∃g,f=g+1:=⟨f-1,by omega⟩
  obtain⟨c,r,y⟩:∃c r,S.drop i=c::r:=by
   cases h:S.drop i with
   | nil=>
    have:=congrArg List.length h;rw[Bg,length_nil] at this;omega
   | cons c r=>exact⟨c,r,rfl⟩
  have hci:S[i]?=some c:=by
   have:=congrArg (fun l=>l[0]?) y;simpa [Ap] using this
  have aa:(c::r).length=S.length-i:=by rw[←y,Bg]
  rw[χ] at aa;obtain⟨k0,t0,v0,ab,ac⟩:=aWr c r (by omega);have ad:=rZ blS c;have M:=aZv c;unfold ixB at M;have ae:=rY (c::r) [45,45];have af:=aAl 131 neB (c::r) (by rw[χ];omega) (by kernel_rfl) fun d _=>aZt d
  have U:=yC (c::r);have ah:= @mC c r;have ai:= @u9 c r;have E:= @aId (c::r);have u:fD (c::r)=if blB c.toNat=true then 1 else if preB [45,45] (c::r)=true then 2+cN neB ((c::r).drop 2) else 0:=rfl
  rw[y,mY] at q;have O:∀m:Nat,(c::r).drop m=S.drop (i+m):=fun m=>by rw[←y,C1]
  rw[χ] at U;refine aD (aF (aA (sg rfl ?_)));rw[y];refine aF (skh 3 [(2,.byte i c)] rfl (kc ad ?_));refine kz 2 rfl ?_;rw[M];by_cases J:blB c.toNat=true
  ·rw[J];rw[ζ J] at u;rw[u,ζ (by decide),O] at q;exact aB rfl (fun _=>aA (agN [] rfl (aH ⟨(i+1,g,out),⟨by dsimp only;omega,by dsimp only;omega,by dsimp only;omega,q⟩,by dsimp only;omega,sl⟩))) (fun hb=>absurd hb (by decide))
  rw[ξ J] at u;rw[Co _ |>.mp J];refine aB rfl (fun hb=>absurd hb (by decide)) (fun _=>sk 1 rfl (kc ae ?_));refine kz 1 rfl (aB rfl (fun hb=>?_) (fun hb=>?_))
  ·rw[ζ hb,←E hb] at u;have aj:0<cN neB (c::r):=by rw[E hb];omega
   rw[u,ζ aj,O] at q;rw[u] at U;generalize cN neB (c::r)=m at *;refine aA (aC mixed (akN 2 [] rfl (kc af ?_)));exact akN 2 [] rfl (az (aH ⟨(i+m,g,out),⟨by dsimp only;omega,by dsimp only;omega,by dsimp only;omega,q⟩,by dsimp only;omega,sl⟩))
  ·rw[ξ (by rw[hb];exact ω)] at u;rw[ξ (by rw[u];exact lt_irrefl 0)] at q;refine aD (sk 3 rfl ?_);rw[y];refine kc ab ?_;generalize j4 (c::r)=o at *;cases o with
   | error e=>
    dsimp only at q;have he:=ai rfl;rw[q];exact kz 6 rfl (aA (sg rfl (aB rfl (fun _=>sg rfl (aE (aTn trw))) (fun hb=>absurd hb (by simp[aMz,he])))))
   | ok p=>
    obtain⟨k,t,v⟩:=p;obtain⟨e1,e2,e3⟩:=ac k t v rfl;subst e1 e2 e3;dsimp only at q;obtain⟨ht1,al⟩:=ah rfl;rw[χ] at al;rw[wL,O] at q;refine kz 6 rfl (aA (sg rfl (aB rfl (fun hb=>absurd hb (by simp[aMz])) (fun _=>aD (sg rfl (sgh [(1,.all),(2,.all)] rfl (agN [] rfl ?_)))))));have B:out.map aG++[[.int .i64 k0,.str t0,.int .i64 v0,.int .i64 (i:Int)]]=(out++[(⟨k0,t0,v0,i⟩:Tk)]).map aG:=by simp[aG]
    exact⟨(i+t0.length,g,out++[⟨k0,t0,v0,i⟩]),⟨by dsimp only;omega,by dsimp only;omega,by dsimp only;rw[θ,Bl];omega,q⟩,by dsimp only;omega,sl (he:=⟨rfl,rfl,Go.AM.hs_ren (by simp) (by simp),rfl,trivial⟩) (hh:=⟨⟨_,rfl,.var rfl⟩,⟨_,rfl,.arrS B⟩,trivial⟩)⟩
 ·have e:i=S.length:=by have:=Af hb;omega
  have hE:mY f i (S.drop i)=.ok [⟨6,[],0,i⟩]:=by
   rw[e,Cc];cases f<;>rfl
  rw[hE] at q;rw[q];have B:out.map aG++[[.int .i64 6,.str [],.int .i64 0,.int .i64 (i:Int)]]=(out++[(⟨6,[],0,i⟩:Tk)]).map aG:=by simp[aG]
  refine aH (sgh [(4,.all)] rfl ?_);subst e;show AWp _ _ _ _ _ _ (aP9 fun ex st=>(ex=.normal∨ex=.ret)∧Fin _ _ st _ (aFu (.ok (out++[⟨6,[],0,(S.length:Int)⟩]))) _);unfold aFu;dsimp only;rw[←B];refine AWp.sub (Sub.freeze (id:=500) rfl) (AWp.sub (cv 2 (out.map aG++[[.int .i64 6,.str [],.int .i64 0,.int .i64 (S.length:Int)]])) ?_);exact aE (aTn trw)
mutual
def tn:Ty→Nat
 | .mk _ _ s a=>1+s.length+tns a
def tns:List Ty→Nat
 | []=>0
 | t::l=>tn t+tns l
end
theorem qR (t:Ty):1≤tn t:=by cases t;rw[tn];omega
theorem yY:∀l:List Ty,l.length≤tns l
 | []=>ε _
 | t::l=>by rw[tns,χ];have:=yY l;have:=qR t;omega
theorem kS:∀{l:List Ty}{t:Ty},t∈l→tn t≤tns l
 | u::l,t,h=>by
  rw[tns];rcases Au.1 h with rfl | h
  ·omega
  ·have:=kS h;omega
theorem xU (t:Ty) (ht:t.args.length≤1000000) (y:∀u∈t.args,b9 Tryz.prog 251 [tyV u] [] (tyV u) []):b9 Tryz.prog 251 [tyV t] [] (tyV t) []:=by
 obtain⟨f,n,s,a⟩:=t;have y:∀u∈a,b9 Tryz.prog 251 [tyV u] [] (tyV u) []:=y;have M:a.length≤1000000:=ht;have q:(cV a).length=a.length:=by rw[dB,η]
 refine bP (n:=22) tok Tryz.func251 rfl rfl rfl ?_;refine sg rfl (sg rfl (AWp.sub (Sub.own (t:=3) (id:=600) 47 4 rfl rfl) ?_));refine aA (sg rfl (aF (aK (fun i:Nat=>mk [(1,.one (.vp 1 0)),(2,.one (.vp 2 0)),(3,.one (.hs 600 0 ((cV a).take i).length ((cV a).take i).length)),(7,.one (.c (.sl 4 (cV a)))),(8,I .i64 ((cV a).length:Int)),(9,I .i64 i)] [(600,.arr 47 4 ((cV a).take i) 0),(1,.var 47 ((bR (.mk f n s a)).map R.c)),(2,.var 47 [.c (.int .i64 0),.c (.int .i64 0),.c (.str []),.c .nl])]) (fun i=>i≤a.length) (fun i=>a.length-i) 0 (ε _) sl ?_)));intro i hi;have O:((cV a).take i).length=i:=by rw[An];omega
 refine sg rfl (aA (aB rfl (fun hb=>?_) (fun hb=>?_)))
 ·have r:=ltD hb q;obtain⟨u,hu⟩:=aL r;have B:(cV a)[i]?=some (bR u):=by rw[dB];exact aT bR hu
  have hc:=y u (τ hu);have E:(cV a).take (i+1)=(cV a).take i++[bR u]:=by rw[Bf,B];rfl
  refine aD (aA (aF (sgh [(0,.row i (bR u))] rfl (aC mixed (ak 2 [] rfl (kc hc ?_))))));refine ak 3 [(3,.all)] rfl (az (ag [] rfl ⟨i+1,r,by dsimp only;omega,?_⟩));dsimp only;rw[E];exact sl
 have J:=geD hb q hi;subst J;rw[show(cV a).take a.length=cV a by rw[←q,Ax]];refine aH (AWp.sub (Sub.freeze (id:=600) rfl) ?_);refine sg rfl (AWp.sub (vp 1 (bR (.mk f n s a))) ?_);exact sg rfl (aE (rtC trw))
mutual
def wfS:Ty→Bool
 | .mk f n s a=>(if f=4 then decide (n=0∧s=[]∧a.length=2) else if f=5 then decide (n=0∧a.length=1) else a.isEmpty)&&aQd a
def aQd:List Ty→Bool
 | []=>true
 | t::l=>wfS t&&aQd l
end
theorem aA8:∀{l:List Ty}{t:Ty},aQd l=true→t∈l→wfS t=true
 | u::l,t,h,ht=>by
  rw[aQd,π] at h;rcases Au.1 ht with rfl | ht
  ·exact h.1
  ·exact aA8 h.2 ht
theorem aF0 {f n:Int}{s:Str}{a:List Ty}(h:wfS (.mk f n s a)=true):a.length≤2∧(∀u∈a,wfS u=true)∧(f=4→n=0∧s=[]∧∃u v,a=[u,v])∧(f=5→n=0∧∃u,a=[u])∧(¬f=4→¬f=5→a=[]):=by
 rw[wfS,π] at h;obtain⟨h1,h2⟩:=h;refine⟨?_,fun u hu=>aA8 h2 hu,fun q=>?_,fun r=>?_,fun q r=>?_⟩
 ·split at h1
  ·exact Nat.le_of_eq (κ h1).2.2
  ·split at h1
   ·rw[(κ h1).2];omega
   ·rw[List.isEmpty_iff.1 h1];simp
 ·rw[ζ q] at h1;obtain⟨y,a2,a3⟩:=κ h1
  match a,a3 with
  | [u,v],_=>exact⟨y,a2,u,v,rfl⟩
 ·rw[ξ (by omega),ζ r] at h1;obtain⟨y,a2⟩:=κ h1;exact⟨y,List.length_eq_one_iff.1 a2⟩
 ·rw[ξ q,ξ r] at h1;exact List.isEmpty_iff.1 h1
theorem aJg:∀(k:Nat) (t:Ty),tn t≤k→wfS t=true→b9 Tryz.prog 251 [tyV t] [] (tyV t) []
 | 0,t,h,_=>by have:=qR t;omega
 | k+1,t,h,hw=>by
  obtain⟨f,n,s,a⟩:=t;obtain⟨h1,h2,_⟩:=aF0 hw;exact xU (.mk f n s a) (show a.length≤_ by omega) fun u hu=>aJg k u (by have hu:u∈a:=hu;have:=kS hu;rw[tn] at h;omega) (h2 u hu)
theorem uX (a b:Ty):b9 Tryz.prog 252 [tyV a,tyV b] [] (tyV (lY a b)) []:=by
 refine bP (n:=9) tok Tryz.func252 rfl rfl rfl ?_;exact sg rfl (sgh [(2,.all)] rfl (aE (rtC trw)))
def kU (f:Int) (s:Str) (o:List Str) (x:Str):List Str:=if ¬x∈o∧(¬f=5∨¬x=s) then o++[x] else o
def vH (f:Int) (s:Str) (o:List Str) (l:List Str):List Str:=l.foldl (kU f s) o
mutual
def tfR:Ty→List Str
 | .mk f _ s a=>if f=2 then [s] else aLc f s a []
def aLc (f:Int) (s:Str):List Ty→List Str→List Str
 | [],o=>o
 | t::l,o=>aLc f s l (vH f s o (tfR t))
end
def tfL (f:Int) (s:Str) (l:List Ty) (o:List Str):List Str:=l.foldl (fun o t=>vH f s o (tfR t)) o
theorem tO (f:Int) (s:Str):∀(l:List Ty) (o:List Str),aLc f s l o=tfL f s l o
 | [],o=>by rw[aLc];rfl
 | t::l,o=>by rw[aLc,tO f s l];rfl
theorem aF8 (f:Int) (s:Str) (o:List Str) (x:Str):(kU f s o x).length≤o.length+1:=by
 unfold kU;split
 ·simp
 ·omega
theorem pX (f:Int) (s:Str):∀(l o:List Str),(vH f s o l).length≤o.length+l.length
 | [],o=>le_refl _
 | x::l,o=>by
  have h1:=pX f s l (kU f s o x);have h2:=aF8 f s o x;show(vH f s (kU f s o x) l).length≤_;rw[χ];omega
mutual
theorem nJ:∀t:Ty,(tfR t).length≤tn t
 | .mk f n s a=>by
  rw[tfR,tn];split
  ·simp;omega
  ·have:=zA f s a [];simp only[length_nil] at this;omega
theorem zA (f:Int) (s:Str):∀(l:List Ty) (o:List Str),(aLc f s l o).length≤o.length+tns l
 | [],o=>by rw[aLc,tns];exact le_refl _
 | t::l,o=>by
  rw[aLc,tns];have h1:=zA f s l (vH f s o (tfR t));have h2:=pX f s (tfR t) o;have q:=nJ t;omega
end
theorem aGa {f:Int}{s:Str}{o l:List Str}{j:Nat}{x:Str}(h:l[j]?=some x):vH f s o (l.take (j+1))=kU f s (vH f s o (l.take j)) x:=by
 unfold vH;rw[Bf,h,foldl_append];rfl
theorem aLd {f:Int}{s:Str}{o:List Str}{l:List Ty}{j:Nat}{x:Ty}(h:l[j]?=some x):tfL f s (l.take (j+1)) o=vH f s (tfL f s (l.take j) o) (tfR x):=by
 unfold tfL;rw[Bf,h,foldl_append];rfl
theorem aBd:∀(l:List Ty) (i:Nat),tns (l.take i)≤tns l
 | [],i=>by simp
 | t::l,0=>by rw[take_zero,tns];omega
 | t::l,i+1=>by rw[A5,tns,tns];have:=aBd l i;omega
theorem o6 (t:Ty) (ht:t.args.length≤1000000000) (hL:∀i,(tfL t.form t.name (t.args.take i) []).length≤1000000000) (hU:∀u∈t.args,(tfR u).length≤1000000000) (ih:∀u∈t.args,b9 Tryz.prog 222 [tyV u] [] (cJ (tfR u)) []):b9 Tryz.prog 222 [tyV t] [] (cJ (tfR t)) []:=by
 obtain⟨f,n,s,a⟩:=t;have hal:a.length≤1000000000:=ht;have hL:∀i,(tfL f s (a.take i) []).length≤1000000000:=hL;have hU:∀u∈a,(tfR u).length≤1000000000:=hU;have ih:∀u∈a,b9 Tryz.prog 222 [tyV u] [] (cJ (tfR u)) []:=ih;have hka:(cV a).length=a.length:=by rw[dB,η]
 rw[tfR];refine bP (n:=50) tok Tryz.func222 rfl rfl rfl ?_;refine sg rfl (aA (sg rfl (aB rfl (fun hb=>?_) (fun hb=>?_))))
 ·have h2:f=2:=κ hb;rw[ζ h2];exact sgh [(2,.all)] rfl (aE rtT)
 ·have h2:¬f=2:=Af hb;rw[ξ h2,tO] at *;refine aD (sg rfl (AWp.sub (Sub.own (t:=3) (id:=600) 9 1 rfl rfl) (AWp.sub (Sub.freeze (id:=600) rfl) ?_)));refine aA (sg rfl (aF (aK (fun i:Nat=>mk [(1,.one (.vp 1 0)),(3,.one (.hs 600 0 (tfL f s (a.take i) []).length (tfL f s (a.take i) []).length)),(15,.one (.c (.sl 4 (cV a)))),(16,I .i64 ((cV a).length:Int)),(17,I .i64 i)] [(600,.arr 9 1 ((tfL f s (a.take i) []).map b7) 2),(1,.var 47 ((bR (.mk f n s a)).map R.c))]) (fun i=>i≤a.length) (fun i=>a.length-i) 0 (ε _) sl ?_)));intro i hi;refine sg rfl (aA (aB rfl (fun hb=>?_) (fun hb=>?_)))
  ·have hlt:=ltD hb hka;obtain⟨u,hu⟩:=aL hlt;have hu':(cV a)[i]?=some (bR u):=by rw[dB];exact aT bR hu
   have hm:=τ hu;have hc:=ih u hm;have hul:=hU u hm;have M:=aLd (f:=f) (s:=s) (o:=[]) hu;have hol:=hL i;generalize tfL f s (a.take i) []=o at M hol ⊢;have O:((tfR u).map b7).length=(tfR u).length:=η _;generalize tfR u=r at hc hul M O;refine aD (aA (aF (sgh [(0,.row i (bR u))] rfl (sk 1 rfl (kc hc ?_)))));refine kz 2 rfl (aF (aK (fun j:Nat=>mk [(1,.one (.vp 1 0)),(3,.one (.hs 600 0 (vH f s o (r.take j)).length (vH f s o (r.take j)).length)),(15,.one (.c (.sl 4 (cV a)))),(16,I .i64 ((cV a).length:Int)),(17,I .i64 i),(22,cJ r),(23,I .i64 ((r.map b7).length:Int)),(24,I .i64 j)] [(600,.arr 9 1 ((vH f s o (r.take j)).map b7) 2),(1,.var 47 ((bR (.mk f n s a)).map R.c))]) (fun j=>j≤r.length) (fun j=>r.length-j) 0 (ε _) sl ?_));intro j hj;refine sg rfl (aA (aB rfl (fun hb=>?_) (fun hb=>?_)))
   ·have y:=ltD hb O;obtain⟨x,hx⟩:=aL y;have hx':=aT b7 hx;have B:=aGa (f:=f) (s:=s) (o:=o) hx;have hpl:(vH f s o (r.take j)).length≤2000000000:=by
     have:=pX f s (r.take j) o;rw[An] at this;omega
    generalize vH f s o (r.take j)=q at B hpl ⊢;have E:=pA q x (by omega);have hkq:(q.map b7).length=q.length:=η _;refine aD (aA (aF (sgh [(0,.row j (b7 x))] rfl ?_)));by_cases J:x∈q
    ·rw[φ J] at E;have he:kU f s q x=q:=by unfold kU;rw[ξ (fun h=>h.1 J)]
     refine sk 2 rfl (kc E ?_);refine kz 12 rfl (aB rfl nofun (fun _=>aD (ag [] rfl ⟨j+1,y,by dsimp only;omega,?_⟩)));dsimp only;rw[B,he];exact sl
    rw[ψ J] at E;by_cases h5:f=5
    ·have d5:decide (f=5)=true:=φ h5;have d5':(!decide (f=5))=false:=by rw[d5];rfl
     refine sk 2 rfl (kc E ?_);refine ak 12 [(8,.bv false),(13,.bv false)] rfl (az (aB rfl (fun hb=>?_) (fun hb=>?_)))
     ·have U:¬x=s:=by simp at hb;exact hb
      have he:kU f s q x=q++[x]:=by unfold kU;rw[ζ ⟨J,.inr U⟩]
      refine ag [(2,.all)] rfl (AWp.sub (Sub.freeze (id:=600) rfl) ?_);refine ag [] rfl ⟨j+1,y,by dsimp only;omega,?_⟩;dsimp only;rw[B,he];exact sl (hh:=⟨⟨_,rfl,.arrS (by rw[Al];rfl)⟩,⟨_,rfl,.var rfl⟩,trivial⟩)
     ·have U:x=s:=by simp at hb;exact hb
      have he:kU f s q x=q:=by unfold kU;rw[ξ (fun h=>h.2.elim (fun h=>h h5) (fun h=>h U))]
      refine aD (ag [] rfl ⟨j+1,y,by dsimp only;omega,?_⟩);dsimp only;rw[B,he];exact sl
    ·have d5:decide (f=5)=false:=ψ h5;have d5':(!decide (f=5))=true:=by rw[d5];rfl
     have he:kU f s q x=q++[x]:=by unfold kU;rw[ζ ⟨J,.inl h5⟩]
     refine sk 2 rfl (kc E ?_);refine ak 12 [(8,.bv true),(13,.bv true)] rfl (az (aB rfl (fun _=>ag [(2,.all)] rfl (AWp.sub (Sub.freeze (id:=600) rfl) ?_)) nofun));refine ag [] rfl ⟨j+1,y,by dsimp only;omega,?_⟩;dsimp only;rw[B,he];exact sl (hh:=⟨⟨_,rfl,.arrS (by rw[Al];rfl)⟩,⟨_,rfl,.var rfl⟩,trivial⟩)
   have Y:=geD hb O hj;subst Y;rw[Ax];refine aH (ag [] rfl ⟨i+1,hlt,by dsimp only;omega,?_⟩);dsimp only;rw[M];exact sl
  have Y:=geD hb hka hi;subst Y;rw[Ax];exact aH (sg rfl (aE (rtT (hc:=hs_all rfl rfl (by simp) rfl))))
theorem xW (t:Ty) (ht:tn t≤1000000000) (q:∀u,tn u<tn t→b9 Tryz.prog 222 [tyV u] [] (cJ (tfR u)) []):b9 Tryz.prog 222 [tyV t] [] (cJ (tfR t)) []:=by
 obtain⟨f,n,s,a⟩:=t;rw[tn] at ht q;have r:=yY a;refine o6 (.mk f n s a) (show a.length≤_ by omega) (fun i=>?_) (fun u hu=>?_) fun u hu=>q u ?_
 ·have h1:=zA f s (a.take i) [];rw[tO] at h1;have h2:=aBd a i;simp only[length_nil] at h1;show(tfL f s (a.take i) []).length≤_;omega
 ·have h1:=kS (show u∈a from hu);have h2:=nJ u;omega
 ·have h1:=kS (show u∈a from hu);omega
theorem aC7:∀(k:Nat) (t:Ty),tn t≤k→tn t≤1000000000→b9 Tryz.prog 222 [tyV t] [] (cJ (tfR t)) []
 | 0,t,h,_=>by have:=qR t;omega
 | k+1,t,h,hm=>xW t hm fun u hu=>aC7 k u (by omega) (by omega)
mutual
def fvm:Ty→Nat
 | .mk f n s a=>max (tfR (.mk f n s a)).length (aX2 a)
def aX2:List Ty→Nat
 | []=>0
 | t::l=>max (fvm t) (aX2 l)
end
theorem aV2 (t:Ty):(tfR t).length≤fvm t:=by cases t;rw[fvm];exact le_max_left ..
theorem aCn:∀{l:List Ty}{t:Ty},t∈l→fvm t≤aX2 l
 | u::l,t,h=>by
  rw[aX2];rcases Au.1 h with rfl | h
  ·exact le_max_left ..
  ·exact le_trans (aCn h) (le_max_right ..)
theorem aIp {f n:Int}{s:Str}{a:List Ty}{u:Ty}(h:u∈a):fvm u≤fvm (.mk f n s a):=by
 rw[fvm];exact le_trans (aCn h) (le_max_right ..)
theorem aF9 {f:Int}{s:Str}{L:Nat}:∀{l:List Ty}{o:List Str},(∀u∈l,(tfR u).length≤L)→(tfL f s l o).length≤o.length+l.length*L
 | [],o,_=>by simp[tfL]
 | t::l,o,h=>by
  have h1:=aF9 (f:=f) (s:=s) (l:=l) (o:=vH f s o (tfR t)) fun u hu=>h u (A1 _ hu)
  have h2:=pX f s (tfR t) o;have q:=h t Ba;show(tfL f s l (vH f s o (tfR t))).length≤_;rw[χ,Nat.succ_mul];omega
theorem aC6:∀(k:Nat) (t:Ty),tn t≤k→wfS t=true→fvm t≤400000000→b9 Tryz.prog 222 [tyV t] [] (cJ (tfR t)) []
 | 0,t,h,_,_=>by have:=qR t;omega
 | k+1,t,h,hw,r=>by
  obtain⟨f,n,s,a⟩:=t;obtain⟨h1,h2,_⟩:=aF0 hw;have hu:∀u∈a,(tfR u).length≤400000000:=fun u hu=>le_trans (aV2 u) (le_trans (aIp hu) r)
  refine o6 (.mk f n s a) (show a.length≤_ by omega) (fun i=>?_) (fun u q=>le_trans (hu u q) (by decide)) fun u q=>?_
  ·have y:=aF9 (f:=f) (s:=s) (l:=a.take i) (o:=[]) fun u q=>hu u (Cf q)
   rw[An,length_nil] at y;have B:min i a.length*400000000≤2*400000000:=A0 _ (by omega);show(tfL f s (a.take i) []).length≤_;omega
  ·have q:u∈a:=q;exact aC6 k u (by have:=kS q;rw[tn] at h;omega) (h2 u q) (le_trans (aIp q) r)
def fw (t:Ty):Nat:=if wfS t=true∧fvm t≤tn t then fvm t else tn t
theorem aV1 (t:Ty):fw t≤tn t:=by
 unfold fw;split
 ·rename_i h;exact h.2
 ·exact le_refl _
theorem aC8 (t:Ty) (h:fw t≤400000000):b9 Tryz.prog 222 [tyV t] [] (cJ (tfR t)) []:=by
 unfold fw at h;split at h
 ·rename_i h';exact aC6 (tn t) t (le_refl _) h'.1 h
 ·exact aC7 (tn t) t (le_refl _) (by omega)
abbrev PE:=Int×Int
abbrev TR:=Except PE (Ty×List Tk)
def isT (t:Tk) (s:Str):Bool:=decide (t.kind=4)&&decide (t.text=s)
def bI:Str:=[40]
def c6:Str:=[41]
def aFf (t:Tk):Bool:=decide (t.kind=1) || (decide (t.kind=2) || isT t bI)
def zC (s:Str):Ty:=.mk 3 0 s []
def aT8 (s:Str):Ty:=.mk 2 0 s []
mutual
def cO:Nat→Nat→List Tk→TR
 | 0,_,_=>.error (12,0)
 | _+1,_,[]=>.error (12,0)
 | f+1,o,t::R=>
  if t.kind=2 then .ok (zC t.text,R)
  else if t.kind=1 then .ok (aT8 t.text,R)
  else if isT t bI=false then .error (12,t.pl)
  else if 40≤o then .error (13,t.pl)
  else n6 (bX f (o+1) R)
def bX:Nat→Nat→List Tk→TR
 | 0,_,_=>.error (12,0)
 | f+1,o,R=>match cO f o R with
  | .error e=>.error e
  | .ok (x,R1)=>gC f o x R1
def gC:Nat→Nat→Ty→List Tk→TR
 | 0,_,_,_=>.error (12,0)
 | _+1,_,_,[]=>.error (12,0)
 | f+1,o,x,t::R=>
  if aFf t=true then(match cO f o (t::R) with
   | .error e=>.error e
   | .ok (a,R1)=>gC f o (lY x a) R1)
  else if isT t arrow=true then(match bX f o R with
   | .error e=>.error e
   | .ok (to,R1)=>.ok (aFs x to,R1))
  else .ok (x,t::R)
def n6:TR→TR
 | .error e=>.error e
 | .ok (_,[])=>.error (12,0)
 | .ok (x,t::R)=>if isT t c6=true then .ok (x,R) else .error (12,t.pl)
end
def oH (R:List Tk):Prop:=∃p e,R=p++[e]∧e.kind=6
theorem oH.ne {R:List Tk}(h:oH R):∃t R',R=t::R':=by
 obtain⟨p,e,rfl,_⟩:=h;cases p with
 | nil=>exact⟨e,[],rfl⟩
 | cons a p=>exact⟨a,p++[e],rfl⟩
theorem oH.tail {t:Tk}{R:List Tk}(h:oH (t::R)) (q:¬t.kind=6):oH R:=by
 obtain⟨p,e,hp,he⟩:=h;cases p with
 | nil=>
  obtain⟨rfl,_⟩:=List.cons.inj hp;exact absurd he q
 | cons a p=>
  obtain⟨_,rfl⟩:=List.cons.inj hp;exact⟨p,e,rfl,he⟩
def wt (R:List Tk):Nat:=(R.map fun t=>t.text.length+6).sum
theorem hY (t:Tk) (R:List Tk):wt (t::R)=t.text.length+6+wt R:=by unfold wt;rw[Ar,Cd]
theorem c9 {t:Tk}{s:Str}(h:isT t s=true):t.kind=4∧t.text=s:=by
 unfold isT at h;rw[π] at h;exact⟨κ h.1,κ h.2⟩
mutual
def nF:Ty→Bool
 | .mk f _ _ a=>!decide (f=5)&&nFs a
def nFs:List Ty→Bool
 | []=>true
 | t::l=>nF t&&nFs l
end
structure TOk (R:List Tk) (m:Nat) (x:Ty) (R':List Tk):Prop where
 e:oH R→oH R'
 s:∃p,R=p++R'∧m≤p.length
 w:wfS x=true∧nF x=true
theorem TOk.len {R R':List Tk}{m:Nat}{x:Ty}(h:TOk R m x R'):R'.length+m≤R.length:=by
 obtain⟨p,rfl,hp⟩:=h.s;rw[θ];omega
abbrev WF (x:Ty):Prop:=wfS x=true∧nF x=true
theorem vR {a b:Ty}(ha:WF a) (hb:WF b):WF (lY a b):=by
 unfold lY;refine⟨?_,?_⟩
 ·rw[wfS,ζ rfl,aQd,aQd,aQd,ha.1,hb.1];rfl
 ·rw[nF,nFs,nFs,nFs,ha.2,hb.2];rfl
theorem aT3 {a b:Ty}(ha:WF a) (hb:WF b):WF (aFs a b):=vR (vR ⟨rfl,rfl⟩ ha) hb
theorem aF5 (a b:Ty):tn (lY a b)=1+(tn a+(tn b+0)):=by unfold lY;rw[tn,tns,tns,tns];rfl
theorem aT9 (a b:Ty):tn (aFs a b)=5+tn a+tn b:=by
 unfold aFs;rw[aF5,aF5];have:tn (.mk 3 0 arrow [])=3:=by rw[tn,tns];rfl
 rw[this];omega
mutual
theorem iQ:∀(f o:Nat) (R:List Tk) (x:Ty) (R':List Tk),cO f o R=.ok (x,R')→TOk R 1 x R'∧tn x+5+wt R'≤wt R
 | 0,_,_,_,_,h=>by rw[cO] at h;cases h
 | _+1,_,[],_,_,h=>by rw[cO] at h;cases h
 | f+1,o,t::R,x,R',h=>by
  rw[cO] at h;rw[hY];by_cases h2:t.kind=2
  ·rw[ζ h2] at h;cases h;refine⟨⟨fun he=>he.tail (by omega),⟨[t],rfl,le_refl _⟩,⟨rfl,rfl⟩⟩,?_⟩;unfold zC;rw[tn,tns];omega
  rw[ξ h2] at h;by_cases h1:t.kind=1
  ·rw[ζ h1] at h;cases h;refine⟨⟨fun he=>he.tail (by omega),⟨[t],rfl,le_refl _⟩,⟨rfl,rfl⟩⟩,?_⟩;unfold aT8;rw[tn,tns];omega
  rw[ξ h1] at h;split at h
  ·cases h
  rename_i hp;have hp:=c9 (by simpa using hp:isT t bI=true);split at h
  ·cases h
  cases hw:bX f (o+1) R with
  | error e=>rw[hw,n6] at h;cases h
  | ok y=>
   obtain⟨y,R1⟩:=y;rw[hw] at h;obtain⟨⟨g1,⟨p,g2,g3⟩,g4⟩,g5⟩:=fS f (o+1) R y R1 hw;cases R1 with
   | nil=>rw[n6] at h;cases h
   | cons u R2=>
    rw[n6] at h;split at h
    ·rename_i hu;have hu:=c9 hu;cases h;rw[hY] at g5;refine⟨⟨fun he=>(g1 (he.tail (by omega))).tail (by omega),⟨t::(p++[u]),by rw[g2];simp,by simp⟩,g4⟩,by omega⟩
    ·cases h
theorem fS:∀(f o:Nat) (R:List Tk) (x:Ty) (R':List Tk),bX f o R=.ok (x,R')→TOk R 1 x R'∧tn x+5+wt R'≤wt R
 | 0,_,_,_,_,h=>by rw[bX] at h;cases h
 | f+1,o,R,x,R',h=>by
  rw[bX] at h;cases ha:cO f o R with
  | error e=>rw[ha] at h;cases h
  | ok y=>
   obtain⟨y,R1⟩:=y;rw[ha] at h;obtain⟨⟨g1,⟨p,g2,g3⟩,g4⟩,g5⟩:=iQ f o R y R1 ha;obtain⟨⟨r,⟨q,B,J⟩,E⟩,I⟩:=aKo f o y R1 x R' g4 h;exact⟨⟨fun he=>r (g1 he),⟨p++q,by rw[g2,B,Ae],by rw[θ];omega⟩,E⟩,by omega⟩
theorem aKo:∀(f o:Nat) (y:Ty) (R:List Tk) (x:Ty) (R':List Tk),WF y→gC f o y R=.ok (x,R')→TOk R 0 x R'∧tn x+wt R'≤tn y+wt R
 | 0,_,_,_,_,_,_,h=>by rw[gC] at h;cases h
 | _+1,_,_,[],_,_,_,h=>by rw[gC] at h;cases h
 | f+1,o,y,t::R,x,R',hy,h=>by
  rw[gC] at h;split at h
  ·cases ha:cO f o (t::R) with
   | error e=>rw[ha] at h;cases h
   | ok a=>
    obtain⟨a,R1⟩:=a;rw[ha] at h;obtain⟨⟨g1,⟨p,g2,g3⟩,g4⟩,g5⟩:=iQ f o (t::R) a R1 ha;obtain⟨⟨r,⟨q,B,J⟩,E⟩,I⟩:=aKo f o (lY y a) R1 x R' (vR hy g4) h;rw[aF5] at I;exact⟨⟨fun he=>r (g1 he),⟨p++q,by rw[g2,B,Ae],ε _⟩,E⟩,by omega⟩
  split at h
  ·rename_i ht;have ht:=c9 ht;cases ha:bX f o R with
   | error e=>rw[ha] at h;cases h
   | ok a=>
    obtain⟨a,R1⟩:=a;rw[ha] at h;cases h;obtain⟨⟨g1,⟨p,g2,g3⟩,g4⟩,g5⟩:=fS f o R a R' ha;rw[aT9,hY];exact⟨⟨fun he=>g1 (he.tail (by omega)),⟨t::p,by rw[g2];rfl,ε _⟩,aT3 hy g4⟩,by omega⟩
  ·cases h;exact⟨⟨id,⟨[],rfl,le_refl _⟩,hy⟩,le_refl _⟩
end
mutual
theorem eH:∀(f o:Nat) (R:List Tk) (e p:Int),cO f o R=.error (e,p)→¬e=0
 | 0,_,_,_,_,h=>by rw[cO] at h;cases h;decide
 | _+1,_,[],_,_,h=>by rw[cO] at h;cases h;decide
 | f+1,o,t::R,e,p,h=>by
  rw[cO] at h;split at h
  ·cases h
  split at h
  ·cases h
  split at h
  ·cases h;decide
  split at h
  ·cases h;decide
  cases hw:bX f (o+1) R with
  | error e'=>
   rw[hw,n6] at h;cases h;exact eC f (o+1) R e p hw
  | ok y=>
   obtain⟨y,R1⟩:=y;rw[hw] at h;cases R1 with
   | nil=>rw[n6] at h;cases h;decide
   | cons u R2=>
    rw[n6] at h;split at h
    ·cases h
    ·cases h;decide
theorem eC:∀(f o:Nat) (R:List Tk) (e p:Int),bX f o R=.error (e,p)→¬e=0
 | 0,_,_,_,_,h=>by rw[bX] at h;cases h;decide
 | f+1,o,R,e,p,h=>by
  rw[bX] at h;cases ha:cO f o R with
  | error e'=>
   rw[ha] at h;cases h;exact eH f o R e p ha
  | ok y=>
   rw[ha] at h;exact aDt f o _ _ e p h
theorem aDt:∀(f o:Nat) (x:Ty) (R:List Tk) (e p:Int),gC f o x R=.error (e,p)→¬e=0
 | 0,_,_,_,_,_,h=>by rw[gC] at h;cases h;decide
 | _+1,_,_,[],_,_,h=>by rw[gC] at h;cases h;decide
 | f+1,o,x,t::R,e,p,h=>by
  rw[gC] at h;split at h
  ·cases ha:cO f o (t::R) with
   | error e'=>
    rw[ha] at h;cases h;exact eH f o (t::R) e p ha
   | ok y=>
    rw[ha] at h;exact aDt f o _ _ e p h
  split at h
  ·cases ha:bX f o R with
   | error e'=>
    rw[ha] at h;cases h;exact eC f o R e p ha
   | ok y=>
    rw[ha] at h;cases h
  ·cases h
end
theorem aR5 (s:Str):b9 Tryz.prog 111 [Go.AM.T s] [] (tyV (.mk 2 0 s [])) []:=by
 refine bP (n:=5) tok Tryz.func111 rfl rfl rfl ?_;exact sg rfl (sg rfl (aE (rtC trw)))
theorem aJd (s:Str):b9 Tryz.prog 240 [Go.AM.T s] [] (tyV (.mk 3 0 s [])) []:=by
 refine bP (n:=5) tok Tryz.func240 rfl rfl rfl ?_;exact sg rfl (sg rfl (aE (rtC trw)))
def oN (L:List Tk):V:=.one (.c (.sl 4 (L.map aG)))
def tkV (t:Tk):V:=.pa (aG t)
def xN (x:Ty) (ps vs:C) (i e p:Int):List C:=[.int .i64 x.form,.int .i64 x.n,.str x.name,.sl 4 (dC x),ps,vs,.int .i64 i,.int .i64 e,.int .i64 p]
def xV (L:List Tk):TR→V
 | .ok (x,R)=>.pa (xN x .nl .nl ((L.length-R.length:Nat):Int) 0 0)
 | .error (e,p)=>.pa (xN zTy .nl .nl 0 e p)
theorem sA (L:List Tk) (x:Ty) (R:List Tk):xV L (.ok (x,R))=.pa (xN x .nl .nl ((L.length-R.length:Nat):Int) 0 0):=rfl
theorem y7 (t:Tk) (s:Str):b9 Tryz.prog 196 [tkV t,Go.AM.T s] [] (B (isT t s)) []:=by
 unfold isT;refine bP (n:=14) tok Tryz.func196 rfl rfl rfl ?_;refine sg rfl ?_;by_cases h:t.kind=4
 ·have d:decide (t.kind=4)=true:=φ h;rw[d,B8];exact sgh [(3,.bv true),(8,.bv true)] rfl (aE rtT)
 ·have d:decide (t.kind=4)=false:=ψ h;rw[d,B3];exact sgh [(3,.bv false),(8,.bv false)] rfl (aE rtT)
theorem aDi (t:Tk) (e:Int):b9 Tryz.prog 197 [tkV t,I .i64 e] [] (.pa (xN zTy .nl .nl 0 e t.pl)) []:=by
 refine bP (n:=10) tok Tryz.func197 rfl rfl rfl ?_;exact sg rfl (sg rfl (aE (rtC trw)))
theorem aPs (t:Tk):b9 Tryz.prog 228 [tkV t] [] (B (aFf t)) []:=by
 have hi:=y7 t bI;unfold aFf;refine bP (n:=17) tok Tryz.func228 rfl rfl rfl ?_;refine sg rfl (sk 1 rfl (kc hi ?_));refine kz 1 rfl ?_;by_cases h1:t.kind=1
 ·have d:decide (t.kind=1)=true:=φ h1;rw[d,B4];exact sgh [(3,.bv true),(7,.bv true),(8,.bv true),(10,.bv true)] rfl (aE rtT)
 have d:decide (t.kind=1)=false:=ψ h1;rw[d,A9];by_cases h2:t.kind=2
 ·have d2:decide (t.kind=2)=true:=φ h2;rw[d2,B4];exact sgh [(3,.bv false),(7,.bv false),(8,.bv true),(10,.bv true)] rfl (aE rtT)
 ·have d2:decide (t.kind=2)=false:=ψ h2;rw[d2,A9];exact sgh [(3,.bv false),(7,.bv false),(8,.bv false),(10,.bv false)] rfl (aE rtT)
structure At (L:List Tk) (i:Nat) (R:List Tk):Prop where
 d:L.drop i=R
 e:oH R
 l:L.length≤4001
theorem At.lt {L:List Tk}{i:Nat}{R:List Tk}(h:At L i R):i+R.length=L.length∧1≤R.length:=by
 obtain⟨t,R',q⟩:=h.e.ne;have:=congrArg List.length h.d;rw[Bg] at this;have h1:1≤R.length:=by rw[q,χ];omega
 omega
theorem At.get {L:List Tk}{i:Nat}{t:Tk}{R:List Tk}(h:At L i (t::R)):L[i]?=some t:=by
 have:=congrArg (fun l=>l[0]?) h.d;simpa [Ap] using this
theorem At.to {L:List Tk}{i:Nat}{R p R':List Tk}(h:At L i R) (hs:R=p++R') (he:oH R'):At L (i+p.length) R'∧L.length-R'.length=i+p.length:=by
 have h1:=h.lt;refine⟨⟨?_,he,h.l⟩,?_⟩
 ·rw[←C1,h.d,hs,List.drop_left]
 ·rw[hs,θ] at h1;omega
theorem At.next {L:List Tk}{i:Nat}{t:Tk}{R:List Tk}(h:At L i (t::R)) (q:¬t.kind=6):At L (i+1) R∧L.length-R.length=i+1:=h.to (p:=[t]) rfl (h.e.tail q)
theorem At.ok {L:List Tk}{i m:Nat}{R R':List Tk}{x:Ty}(h:At L i R) (k:TOk R m x R'):At L (L.length-R'.length) R'∧i+m≤L.length-R'.length:=by
 obtain⟨p,hs,hp⟩:=k.s;obtain⟨g1,g2⟩:=h.to hs (k.e h.e);rw[g2];exact⟨g1,by omega⟩
def aTf (L:List Tk) (f:Nat):Prop:=∀(o:Nat) (R:List Tk) (i:Nat),At L i R→3*R.length≤f→o≤40→b9 Tryz.prog 161 [oN L,I .i64 (i:Nat),I .i64 (o:Nat)] [] (xV L (cO f o R)) []
def aOl (L:List Tk) (f:Nat):Prop:=∀(o:Nat) (R:List Tk) (i:Nat),At L i R→3*R.length+2≤f→o≤40→b9 Tryz.prog 198 [oN L,I .i64 (i:Nat),I .i64 (o:Nat)] [] (xV L (bX f o R)) []
theorem aSy (L:List Tk) (f:Nat) (ih:aOl L f):aTf L (f+1):=by
 intro o R i q hf ho;have hkl:(L.map aG).length=L.length:=η _;have hLl:=q.l;obtain⟨t,R,rfl⟩:=q.e.ne;have M:=q.lt;have O:=q.get;have hti':=aT aG O;rw[χ] at M hf;rw[cO];refine bP (n:=89) tok Tryz.func161 rfl rfl rfl ?_;refine sg rfl (aA (sgh [(2,.row i (aG t))] rfl (aB rfl (fun hb=>?_) (fun hb=>?_))))
 ·have h2:t.kind=2:=κ hb;rw[ζ h2];obtain⟨_,hn⟩:=q.next (by omega)
  rw[sA,hn];exact aA (agN [(2,.row i (aG t))] rfl (aE (rtC trw)))
 rw[ξ (Af hb)];refine aD (aA (sgh [(2,.row i (aG t))] rfl (aB rfl (fun hb=>?_) (fun hb=>?_))))
 ·have h1:t.kind=1:=κ hb;rw[ζ h1];obtain⟨_,hn⟩:=q.next (by omega)
  rw[sA,hn];exact aA (agN [(2,.row i (aG t))] rfl (aE (rtC trw)))
 rw[ξ (Af hb)];refine aD ?_;have U:=y7 t bI;have Y:=aDi t 12;have aa:=aDi t 13;refine skh 4 [(2,.row i (aG t))] rfl (kc U ?_);refine kz 1 rfl (aA (sg rfl ?_));cases hl:isT t bI with
 | false=>
  rw[ζ rfl];refine aB rfl (fun _=>skh 4 [(2,.row i (aG t))] rfl (kc Y ?_)) (fun hb=>absurd hb (by decide));exact kz 1 rfl (aE (rtC trw))
 | true=>
 rw[ξ (by decide)];refine aB rfl (fun hb=>absurd hb (by decide)) (fun _=>aD (aA (sg rfl (aB rfl (fun hb=>?_) (fun hb=>?_)))))
 ·rw[ζ (by have:=κ hb;omega)];refine skh 4 [(2,.row i (aG t))] rfl (kc aa ?_);exact kz 1 rfl (aE (rtC trw))
 have I:¬40≤o:=by have:=Af hb;omega
 rw[ξ I];refine aD ?_;obtain⟨E,_⟩:=q.next (by rw[(c9 hl).1];decide)
 have ab:=ih (o+1) R (i+1) E (by omega) (by omega);have hok:=fS f (o+1) R;have B:=eC f (o+1) R;refine aA (aC mixed (akN 5 [] rfl (kc ab ?_)));generalize bX f (o+1) R=w at hok B ⊢;cases w with
 | error e=>
  obtain⟨e,p⟩:=e;refine akN 2 [] rfl (az ?_);rw[n6];refine aA (sg rfl ?_);have he:=B e p rfl;exact aB rfl (fun _=>sg rfl (aE (rtC trw))) (fun hb=>absurd hb (by simp[he]))
 | ok y=>
  obtain⟨x,R1⟩:=y;obtain⟨hT,_⟩:=hok x R1 rfl;obtain⟨r,hle⟩:=E.ok hT;obtain⟨u,R3,rfl⟩:=r.e.ne;rw[sA];generalize L.length-(u::R3).length=j at *;have ac:=r.get;have huj':=aT aG ac;have hj:=r.lt;rw[χ] at hj;have J:=y7 u c6;have ad:=aDi u 12;refine kz 2 rfl (aA (sg rfl (aB rfl (fun hb=>absurd hb (by decide)) (fun _=>aD (skh 5 [(3,.row j (aG u))] rfl (kc J ?_))))));refine kz 1 rfl (aA (sg rfl ?_));rw[n6];cases hr:isT u c6 with
  | false=>
   rw[ξ (by decide)];refine aB rfl (fun _=>skh 5 [(3,.row j (aG u))] rfl (kc ad ?_)) (fun hb=>absurd hb (by decide));exact kz 1 rfl (aE (rtC trw))
  | true=>
   rw[ζ rfl];obtain⟨_,hn⟩:=r.next (by rw[(c9 hr).1];decide)
   rw[sA,hn];exact aB rfl (fun hb=>absurd hb (by decide)) (fun _=>aD (aA (agN [] rfl (sg rfl (aE (rtC trw))))))
def zX:List AM.R:=[.c (.int .i64 0),.c (.int .i64 0),.c (.str []),.c .nl,.c .nl,.c .nl,.c (.int .i64 0),.c (.int .i64 0),.c (.int .i64 0)]
theorem aSr (L:List Tk) (f:Nat) (ac:∀g,g≤f→aTf L g) (ae:∀g,g≤f→aOl L g):aOl L (f+1):=by
 intro o R i Y hf ho;have hkl:(L.map aG).length=L.length:=η _;have hLl:=Y.l;have O:=ac f (le_refl _) o R i Y (by omega) ho;have hok:=iQ f o R;have r:=eH f o R;have af:=Y.lt;rw[bX];refine bP (n:=81) tok Tryz.func198 rfl rfl rfl ?_;refine sg rfl (sk 3 rfl (kc O ?_));generalize cO f o R=w at hok r ⊢;cases w with
 | error e=>
  obtain⟨e,p⟩:=e;have he:=r e p rfl;exact kz 2 rfl (aA (sg rfl (aB rfl (fun _=>sg rfl (aE (rtC trw))) (fun hb=>absurd hb (by simp[he])))))
 | ok y=>
 obtain⟨x,R1⟩:=y;obtain⟨J,_⟩:=hok x R1 rfl;obtain⟨E,hle⟩:=Y.ok J;have hlen:=J.len;have M:=J.w;dsimp only;rw[sA];have key:∃W,W=gC f o x R1:=⟨_,rfl⟩
 obtain⟨W,q⟩:=key;rw[←q];refine kz 2 rfl (aA (sg rfl (aB rfl (fun hb=>absurd hb (by decide)) (fun _=>aD ?_))));obtain⟨u,R2,rfl⟩:=E.e.ne;have U:=E.get;have aa:=aT aG U;have ad:=aPs u;refine skh 5 [(3,.row (L.length-(u::R2).length) (aG u))] rfl (kc ad ?_);refine kz 1 rfl ?_;clear hok r O U aa ad J;refine aA (aF (aK (fun p:Ty×List Tk×Nat=>mk [(0,oN L),(2,I .i64 (o:Nat)),(6,.one (.vp 6 0)),(7,.one (.vp 7 0)),(8,B (aFf (p.2.1.headD ⟨0,[],0,0⟩)))] [(6,.var 208 zX),(7,.var 208 ((xN p.1 .nl .nl ((L.length-p.2.1.length:Nat):Int) 0 0).map .c))]) (fun p=>At L (L.length-p.2.1.length) p.2.1∧WF p.1∧3*p.2.1.length+1≤p.2.2∧p.2.2≤f∧W=gC p.2.2 o p.1 p.2.1) (fun p=>p.2.2) (x,u::R2,f) ⟨E,M,by dsimp only;omega,le_refl _,q⟩ sl ?_));clear q M E hlen hle Y af hf;rintro⟨x,R1,g⟩ ⟨E,M,hg,hgf,q⟩;dsimp only at E M hg hgf q ⊢;obtain⟨u,R2,rfl⟩:=E.e.ne;obtain⟨g,rfl⟩:∃h,g=h+1:=⟨g-1,by omega⟩
 have U:=E.get;have aa:=aT aG U;have hlt:=E.lt;rw[gC] at q;refine aA (sg rfl (aB rfl (fun hb=>?_) (fun hb=>?_)))
 ·have hb:aFf u=true:=hb;rw[ζ hb] at q;have O:=ac g (by omega) o (u::R2) _ E (by omega) ho;have hok:=iQ g o (u::R2);have r:=eH g o (u::R2);refine aD (aF (sk 4 rfl (kc O ?_)));generalize cO g o (u::R2)=w at hok r q ⊢;cases w with
  | error e=>
   obtain⟨e,p⟩:=e;have he:=r e p rfl;dsimp only at q;rw[q];exact kz 2 rfl (aA (sg rfl (aB rfl (fun _=>sg rfl (aE (rtC trw))) (fun hb=>absurd hb (by simp[he])))))
  | ok y=>
   obtain⟨a,R3⟩:=y;obtain⟨J,_⟩:=hok a R3 rfl;obtain⟨ab,hle⟩:=E.ok J;have hlen:=J.len;dsimp only at q;rw[sA];obtain⟨v,R4,rfl⟩:=ab.e.ne;have hvj:=ab.get;have hvj':=aT aG hvj;have hbv:=aPs v;refine kz 2 rfl (aA (sg rfl (aB rfl (fun hb=>absurd hb (by decide)) (fun _=>aD (sgh [(4,.all)] rfl (aC mixed (ak 5 [(3,.row (L.length-(v::R4).length) (aG v))] rfl (kc hbv ?_))))))));exact kz 1 rfl ⟨(lY x a,v::R4,g),⟨ab,vR M J.w,by dsimp only;omega,by dsimp only;omega,q⟩,by dsimp only;omega,sl⟩
 ·have hb:aFf u=false:=hb;rw[ξ (by rw[hb];decide)] at q;have hIs:=y7 u arrow;refine aH (skh 5 [(3,.row (L.length-(u::R2).length) (aG u))] rfl (kc hIs ?_));refine kz 1 rfl (aA (sg rfl ?_));cases hl:isT u arrow with
  | false=>
   rw[hl,ξ (by decide)] at q;rw[q];exact aB rfl (fun _=>sg rfl (aE (rtC trw))) (fun hb=>absurd hb (by decide))
  | true=>
   rw[hl,ζ rfl] at q;obtain⟨hA2,hn⟩:=E.next (by rw[(c9 hl).1];decide)
   rw[χ] at hg;have hty:=ae g (by omega) o R2 _ hA2 (by omega) ho;have hok:=fS g o R2;have r:=eC g o R2;refine aB rfl (fun hb=>absurd hb (by decide)) (fun _=>aD (aA (aC mixed (akN 5 [] rfl (kc hty ?_)))));generalize bX g o R2=w at hok r q ⊢;cases w with
   | error e=>
    obtain⟨e,p⟩:=e;have he:=r e p rfl;dsimp only at q;rw[q];exact akN 2 [] rfl (az (aA (sg rfl (aB rfl (fun _=>sg rfl (aE (rtC trw))) (fun hb=>absurd hb (by simp[he]))))))
   | ok y=>
    obtain⟨to,R3⟩:=y;dsimp only at q;rw[q,sA,sA];have hfu:=aZu x to;refine akN 2 [] rfl (az (aA (sg rfl (aB rfl (fun hb=>absurd hb (by decide)) (fun _=>aD (aA (aC mixed (akN 4 [] rfl (kc hfu ?_)))))))));exact akN 4 [] rfl (az (aE (rtC trw)))
theorem aF2 (L:List Tk):∀f,(∀g,g≤f→aTf L g)∧∀g,g≤f→aOl L g:=by
 intro f
 induction f with
 | zero=>
  refine⟨fun g r o R i u y=>?_,fun g r o R i u y=>?_⟩
  ·have:=u.lt;omega
  ·have:=u.lt;omega
 | succ f q=>
  refine⟨fun g r=>?_,fun g r=>?_⟩
  ·by_cases h:g≤f
   ·exact q.1 g h
   ·rw[show g=f+1 by omega];exact aSy L f (q.2 f (le_refl _))
  ·by_cases h:g≤f
   ·exact q.2 g h
   ·rw[show g=f+1 by omega];exact aSr L f q.1 q.2
def oI (o:List Str) (s:Str):List Str:=if s∈o then o else o++[s]
def eX (o l:List Str):List Str:=l.foldl oI o
theorem qD (o l m:List Str):eX o (l++m)=eX (eX o l) m:=by unfold eX;rw[foldl_append]
theorem aCb {s:Str}:∀(l o:List Str),s∈eX o l↔s∈o∨s∈l
 | [],o=>by unfold eX;simp
 | x::l,o=>by
  show s∈eX (oI o x) l↔_;rw[aCb l];unfold oI;split
  ·rename_i h;constructor
   ·rintro(h' | h')
    ·exact .inl h'
    ·exact .inr (A1 _ h')
   ·rintro(h' | h')
    ·exact .inl h'
    ·rcases Au.1 h' with rfl | h'
     ·exact .inl h
     ·exact .inr h'
  ·rw[Bk,A2,Au];exact or_assoc
theorem aMh {s:Str}(o l:List Str):eX o (oI l s)=oI (eX o l) s:=by
 by_cases h:s∈l
 ·have:s∈eX o l:=(aCb l o).2 (.inr h)
  unfold oI;rw[ζ h,ζ this]
 ·unfold oI;rw[ξ h,qD];rfl
theorem aH5 (o p:List Str):∀l:List Str,eX o (eX p l)=eX (eX o p) l:=by
 intro l
 induction l generalizing p with
 | nil=>rfl
 | cons x l q=>
  show eX o (eX (oI p x) l)=eX (oI (eX o p) x) l;rw[q,aMh]
theorem jZ:∀(l o:List Str),(eX o l).length≤o.length+l.length
 | [],o=>le_refl _
 | x::l,o=>by
  have:=jZ l (oI o x);have h1:(oI o x).length≤o.length+1:=by unfold oI;split<;>simp
  show(eX (oI o x) l).length≤_;rw[χ];omega
mutual
def frA:List Str→Ty→List Str
 | o,.mk f _ s a=>if f=2 then oI o s else vK o a
def vK:List Str→List Ty→List Str
 | o,[]=>o
 | o,t::l=>vK (frA o t) l
end
theorem aBe {f:Int}{s:Str}(h:¬f=5):∀(l o:List Str),vH f s o l=eX o l
 | [],_=>rfl
 | x::l,o=>by
  have:kU f s o x=oI o x:=by
   unfold kU oI;by_cases hx:x∈o
   ·rw[ζ hx,ξ (fun h=>h.1 hx)]
   ·rw[ξ hx,ζ ⟨hx,.inl h⟩]
  show vH f s (kU f s o x) l=eX (oI o x) l;rw[this];exact aBe h l _
def gA (o:List Str) (l:List Ty):List Str:=l.foldl (fun o t=>eX o (tfR t)) o
theorem aPf (o:List Str):∀(l:List Ty) (p:List Str),eX o (gA p l)=gA (eX o p) l
 | [],_=>rfl
 | t::l,p=>by
  show eX o (gA (eX p (tfR t)) l)=gA (eX (eX o p) (tfR t)) l;rw[aPf o l,aH5]
theorem aOs {f:Int}{s:Str}(h:¬f=5) (l:List Ty) (o:List Str):aLc f s l o=gA o l:=by
 rw[tO];unfold tfL gA;congr 1;funext o t;exact aBe h _ _
mutual
theorem aV3:∀(t:Ty) (o:List Str),nF t=true→frA o t=eX o (tfR t)
 | .mk f n s a,o,h=>by
  rw[nF,π] at h;have q:¬f=5:=by simpa using h.1
  rw[frA,tfR];by_cases h2:f=2
  ·rw[ζ h2,ζ h2];rfl
  ·rw[ξ h2,ξ h2,aIr a o h.2,aOs q,aPf];rfl
theorem aIr:∀(l:List Ty) (o:List Str),nFs l=true→vK o l=gA o l
 | [],_,_=>rfl
 | t::l,o,h=>by
  rw[nFs,π] at h;rw[vK,aV3 t o h.1,aIr l _ h.2];rfl
end
theorem aIs (o:List Str) (l:List Ty) (x:Ty):vK o (l++[x])=frA (vK o l) x:=by
 induction l generalizing o with
 | nil=>rw[Ak,vK,vK,vK]
 | cons t l q=>rw[Ad,vK,vK,q]
theorem aUd (t:Ty) (h:nF t=true) (o:List Str):(frA o t).length≤o.length+tn t:=by
 rw[aV3 t o h];have:=jZ (tfR t) o;have:=nJ t;omega
def oV (l:List Str):V:=.one (.hs 710 0 l.length l.length)
def oO (l:List Str):AObj:=.arr 9 1 (l.map b7) 1
theorem aMx {l:List Ty}{o:List Str}{i:Nat}{x:Ty}(h:l[i]?=some x):vK o (l.take (i+1))=frA (vK o (l.take i)) x:=by rw[Bf,h];exact aIs _ _ _
theorem aQ9 {l:List Ty}(h:nFs l=true):∀u∈l,nF u=true:=by
 induction l with
 | nil=>intro u hu;cases hu
 | cons t l q=>
  rw[nFs,π] at h;intro u hu;rcases Au.1 hu with rfl | hu
  ·exact h.1
  ·exact q h.2 u hu
theorem aCp:∀(l:List Ty) (o:List Str),nFs l=true→(vK o l).length≤o.length+tns l
 | [],o,_=>le_refl _
 | t::l,o,h=>by
  rw[nFs,π] at h;rw[vK,tns];have h1:=aUd t h.1 o;have h2:=aCp l (frA o t) h.2;omega
theorem aMe {l:List Ty}(h:nFs l=true) (i:Nat):nFs (l.take i)=true:=by
 induction l generalizing i with
 | nil=>rw[List.take_nil];rfl
 | cons t l q=>
  rw[nFs,π] at h;cases i with
  | zero=>rfl
  | succ i=>rw[A5,nFs,h.1,q h.2 i];rfl
theorem aOq:∀{l:List Ty}{i:Nat}{x:Ty},l[i]?=some x→tns (l.take i)+tn x≤tns l
 | t::l,0,x,h=>by
  have e:t=x:=by simpa using h
  subst e;rw[take_zero,tns,tns];omega
 | t::l,i+1,x,h=>by
  have:=aOq (l:=l) (i:=i) (by simpa using h);rw[A5,tns,tns];omega
theorem aWz:∀(k:Nat) (t:Ty),tn t≤k→wfS t=true→nF t=true→∀o:List Str,o.length+tn t≤1000000→b9 Tryz.prog 232 [tyV t,cJ [],oV o] [(710,oO o)] (oV (frA o t)) [(710,oO (frA o t))]
 | 0,t,h,_,_=>by have:=qR t;omega
 | k+1,.mk f n s a,h,hw,hn=>by
  intro o ho;obtain⟨w1,O,_⟩:=aF0 hw;rw[nF,π] at hn;have U:¬f=5:=by simpa using hn.1
  rw[tn] at h ho;rw[frA];have aa:(o.map b7).length=o.length:=η _;have y:(cV a).length=a.length:=by rw[dB,η]
  refine bP (n:=55) tok Tryz.func232 rfl rfl rfl ?_;refine sg rfl (aA (sg rfl (aB rfl (fun hb=>?_) (fun hb=>?_))))
  ·have h2:f=2:=κ hb;rw[ζ h2];have ab:=aNo [] s (by unfold Fits;decide);have ac:=aNo o s (by unfold Fits;omega);refine AWp.sub (Sub.freeze (id:=710) rfl) ?_;refine aA (aA (agF 5 [(3,.pc (B (decide (s∈([]:List Str))))),(8,.pc (B (decide (s∈o))))] rfl rfl rfl ?_));have E:decide (s∈([]:List Str))=false:=ψ (by simp);refine aB rfl (fun hb=>?_) (fun hb=>?_)
   ·have hm:s∈o:=by
     rw[E] at hb;exact κ (show decide (s∈o)=true from hb)
    unfold oI;rw[ζ hm];exact sg rfl (aE rtT)
   ·have hm:¬s∈o:=by
     rw[E] at hb;exact Af (show decide (s∈o)=false from hb)
    unfold oI;rw[ξ hm];refine aD (sg rfl (AWp.sub (st2:=mk [(6,oV (o++[s]))] [(710,oO (o++[s]))]) sl ?_));exact aE rtT
  ·have h2:¬f=2:=Af hb;rw[ξ h2];refine aD ?_;have d5:decide (f=5)=false:=ψ U;refine aA (sg rfl (aB rfl (fun hb=>absurd (hb.symm.trans d5) (by decide)) (fun _=>aD (aA (sg rfl (aF (aK (fun i:Nat=>mk [(1,cJ []),(2,oV (vK o (a.take i))),(3,.one (.vp 3 0)),(8,I .i64 i)] [(3,.var 47 ((bR (.mk f n s a)).map R.c)),(710,oO (vK o (a.take i)))]) (fun i=>i≤a.length) (fun i=>a.length-i) 0 (ε _) sl ?_)))))));intro i hi;refine aA (sg rfl (aB rfl (fun hb=>?_) (fun hb=>?_)))
   ·have J:=ltD hb y;obtain⟨u,q⟩:=aL J;have r:=τ q;have Y:(cV a)[i]?=some (bR u):=by rw[dB];exact aT bR q
    have h3:=aOq q;have h4:=aCp (a.take i) o (aMe hn.2 i);have hc:=aWz k u (by have:=kS r;omega) (O u r) (aQ9 hn.2 u r) (vK o (a.take i)) (by omega);rw[←aMx q] at hc;refine aD (aA (aF (aC mixed (ak 7 [(3,.row i (bR u))] rfl (kc hc ?_)))));exact kz 1 rfl (ag [] rfl ⟨i+1,J,by dsimp only;omega,sl⟩)
   ·have M:=geD hb y hi;subst M;rw[Ax];exact aH (sg rfl (aE rtT))
theorem aYj:∀t:Ty,nF t=true→tfR t=frA [] t
 | .mk f n s a,h=>by
  rw[nF,π] at h;have q:¬f=5:=by simpa using h.1
  rw[frA,tfR];by_cases h2:f=2
  ·rw[ζ h2,ζ h2];rfl
  ·rw[ξ h2,ξ h2,aIr a [] h.2,aOs q]
theorem aJ0 (t:Ty) (hw:WF t) (hl:tn t≤1000000):b9 Tryz.prog 205 [tyV t] [] (cJ (tfR t)) []:=by
 have h0:=aWz (tn t) t (le_refl _) hw.1 hw.2 [] (by rw[length_nil];omega);have h1:=b9.nilArg (pre:=[tyV t,cJ []]) (post:=[]) (hin:=[]) h0 rfl;rw[←aYj t hw.2] at h1;have h2:=h1.plain (by simp);refine bP (n:=5) tok Tryz.func205 rfl rfl rfl ?_;refine sg rfl (sk 1 rfl (kc h2 ?_));exact kz 1 rfl (aE rtT)
theorem aJc (o l:List Str) (ho:o.length+l.length≤1000000000):b9 Tryz.prog 204 [oV o,cJ l] [(710,oO o)] (oV (eX o l)) [(710,oO (eX o l))]:=by
 have u:(l.map b7).length=l.length:=η _;refine bP (n:=27) tok Tryz.func204 rfl rfl rfl ?_;refine sg rfl (aA (sg rfl (aF (aK (fun i:Nat=>mk [(0,oV (eX o (l.take i))),(1,cJ l),(5,I .i64 i)] [(710,oO (eX o (l.take i)))]) (fun i=>i≤l.length) (fun i=>l.length-i) 0 (ε _) sl ?_))));intro i hi;refine aA (sg rfl (aB rfl (fun hb=>?_) (fun hb=>?_)))
 ·have r:=ltD hb u;obtain⟨s,hs⟩:=aL r;have M:=aT b7 hs;have q:eX o (l.take (i+1))=oI (eX o (l.take i)) s:=by rw[Bf,hs,qD];rfl
  have B:(eX o (l.take i)).length≤1000000000:=by
   have:=jZ (l.take i) o;rw[An] at this;omega
  have y:=aNo (eX o (l.take i)) s (by unfold Fits;omega);generalize eX o (l.take i)=m at q B y ⊢;have J:(m.map b7).length=m.length:=η _;refine aD (AWp.sub (Sub.freeze (id:=710) rfl) ?_);refine aA (aF (skh 5 [(3,.row i (b7 s))] rfl (kc y ?_)));refine kz 1 rfl (aB rfl (fun hb=>?_) (fun hb=>?_))
  ·have hm:¬s∈m:=fun h=>by rw[φ h] at hb;cases hb
   unfold oI at q;rw[ξ hm] at q;refine ag [(3,.row i (b7 s))] rfl (ag [] rfl ⟨i+1,r,by dsimp only;omega,?_⟩);dsimp only;rw[q];exact sl
  ·have hm:s∈m:=by
    by_cases h:s∈m
    ·exact h
    ·rw[ψ h] at hb;cases hb
   unfold oI at q;rw[ζ hm] at q;refine aD (ag [] rfl ⟨i+1,r,by dsimp only;omega,?_⟩);dsimp only;rw[q];exact sl
 ·have E:=geD hb u hi;subst E;rw[Ax];exact aH (sg rfl (aE rtT))
structure Prd where
 cls:Str
 ty:Ty
def aN (p:Prd):List C:=[.str p.cls,.int .i64 p.ty.form,.int .i64 p.ty.n,.str p.ty.name,.sl 4 (dC p.ty)]
def lP:Str:=[44]
def darrow:Str:=[61,62]
def eZ:Nat→Bool→List Tk→List Prd→Option (List Prd×List Tk)
 | 0,_,_,_=>none
 | _+1,_,[],_=>none
 | f+1,b,t::R,out=>
  if t.kind=2 then(match cO (3*R.length) (if b=true then 1 else 0) R with
   | .error _=>none
   | .ok (_,[])=>none
   | .ok (x,u::R2)=>if(b&&isT u lP)=true then eZ f b R2 (out++[⟨t.text,x⟩]) else some (out++[⟨t.text,x⟩],u::R2))
  else none
abbrev PR:=Except PE (List Prd×List Tk)
def yV (at':Int) (R0:List Tk) (out:List Prd):List Tk→PR
 | []=>.ok ([],R0)
 | u::R=>if isT u darrow=true then(if 16<out.length then .error (2,at') else .ok (out,R)) else .ok ([],R0)
def brP (at':Int) (R0:List Tk) (b:Bool) (out:List Prd):List Tk→PR
 | []=>.ok ([],R0)
 | u::R=>if b=true then(if isT u c6=true then yV at' R0 out R else .ok ([],R0)) else yV at' R0 out (u::R)
def kT (at':Int) (R0:List Tk) (b:Bool):Option (List Prd×List Tk)→PR
 | none=>.ok ([],R0)
 | some (out,R1)=>brP at' R0 b out R1
def cR:List Tk→PR
 | []=>.ok ([],[])
 | t::R=>kT t.pl (t::R) (isT t bI) (eZ ((t::R).length+1) (isT t bI) (if isT t bI=true then R else t::R) [])
structure POk (R:List Tk) (out:List Prd) (R':List Tk) (m:Nat):Prop where
 e:oH R→oH R'
 s:∃p,R=p++R'∧m≤p.length
 w:∀p∈out,WF p.ty∧tn p.ty≤wt R
 l:out.length≤R.length
theorem nI {p R:List Tk}:wt R≤wt (p++R):=by unfold wt;rw[Al,List.sum_append];omega
theorem u3:∀(f:Nat) (b:Bool) (R:List Tk) (out:List Prd) (r:List Prd) (R':List Tk) (W n:Nat),wt R≤W→(∀p∈out,WF p.ty∧tn p.ty≤W)→out.length+R.length≤n→eZ f b R out=some (r,R')→
  (oH R→oH R')∧(∃p,R=p++R'∧1≤p.length)∧(∀p∈r,WF p.ty∧tn p.ty≤W)∧r.length≤n
 | 0,_,_,_,_,_,_,_,_,_,_,h=>by rw[eZ] at h;cases h
 | _+1,_,[],_,_,_,_,_,_,_,_,h=>by rw[eZ] at h;cases h
 | f+1,b,t::R,out,r,R',W,n,I,ho,hn,h=>by
  rw[eZ] at h;by_cases h2:t.kind=2
  ·rw[ζ h2] at h;have hok:=iQ (3*R.length) (if b=true then 1 else 0) R;generalize cO (3*R.length) (if b=true then 1 else 0) R=w at hok h;cases w with
   | error e=>cases h
   | ok y=>
    obtain⟨x,R1⟩:=y;obtain⟨⟨g1,⟨p,g2,g3⟩,g4⟩,g5⟩:=hok x R1 rfl;rw[hY] at I;rw[χ] at hn;have E:R1.length+1≤R.length:=by rw[g2,θ];omega
    have B:∀q∈out++[(⟨t.text,x⟩:Prd)],WF q.ty∧tn q.ty≤W:=fun q hq=>by
     rcases Bk.1 hq with hq | hq
     ·exact ho q hq
     ·rw[A2.1 hq];exact⟨g4,by show tn x≤W;omega⟩
    cases R1 with
    | nil=>cases h
    | cons u R2=>
     dsimp only at h;split at h
     ·rename_i hc;rw[π] at hc;have hu:=c9 hc.2;rw[hY] at g5;rw[χ] at E;obtain⟨J,⟨q,M,Y⟩,O,U⟩:=u3 f b R2 (out++[⟨t.text,x⟩]) r R' W n (by omega) B (by rw[θ,Bl];omega) h;exact⟨fun he=>J ((g1 (he.tail (by omega))).tail (by omega)),⟨t::(p++u::q),by rw[g2,M];simp,by simp⟩,O,U⟩
     ·cases h;exact⟨fun he=>g1 (he.tail (by omega)),⟨t::p,by rw[g2];rfl,by simp⟩,B,by rw[θ,Bl];omega⟩
  ·rw[ξ h2] at h;cases h
theorem aP3 {a:Int}{R0 R1:List Tk}{out q:List Prd}{R':List Tk}(hs:(oH R0→oH R1)∧∃p,R0=p++R1) (ho:∀p∈out,WF p.ty∧tn p.ty≤wt R0) (hl:out.length≤R0.length) (h:yV a R0 out R1=.ok (q,R')):POk R0 q R' 0:=by
 have r:POk R0 [] R0 0:=⟨id,⟨[],rfl,le_refl _⟩,fun p hp=>by(cases hp),ε _⟩
 cases R1 with
 | nil=>rw[yV] at h;cases h;exact r
 | cons u R=>
  rw[yV] at h;split at h
  ·rename_i hu;split at h
   ·cases h
   ·cases h;obtain⟨h1,p,h2⟩:=hs;exact⟨fun he=>(h1 he).tail (by rw[(c9 hu).1];decide),⟨p++[u],by rw[h2];simp,ε _⟩,ho,hl⟩
  ·cases h;exact r
theorem mB {R:List Tk}{out:List Prd}{R':List Tk}(h:cR R=.ok (out,R')):POk R out R' 0:=by
 have B:POk R [] R 0:=⟨id,⟨[],rfl,le_refl _⟩,fun p hp=>by(cases hp),ε _⟩
 cases R with
 | nil=>rw[cR] at h;cases h;exact B
 | cons t R=>
  rw[cR] at h;have r:(oH (t::R)→oH (if isT t bI=true then R else t::R))∧(∃p,t::R=p++(if isT t bI=true then R else t::R)):=by
   by_cases hb:isT t bI=true
   ·rw[ζ hb];exact⟨fun he=>he.tail (by rw[(c9 hb).1];decide),[t],rfl⟩
   ·rw[ξ hb];exact⟨id,[],rfl⟩
  have hw:wt (if isT t bI=true then R else t::R)≤wt (t::R):=by
   split
   ·rw[hY];omega
   ·exact le_refl _
  have hlen:(if isT t bI=true then R else t::R).length≤(t::R).length:=by split<;>simp
  have hok:=u3 ((t::R).length+1) (isT t bI) (if isT t bI=true then R else t::R) [];generalize (if isT t bI=true then R else t::R)=Q at r hw hlen hok h;generalize isT t bI=b at hok h;cases hp:eZ ((t::R).length+1) b Q [] with
  | none=>rw[hp,kT] at h;cases h;exact B
  | some y=>
   obtain⟨M,R1⟩:=y;rw[hp,kT] at h;obtain⟨O,⟨q,U,k3⟩,I,J⟩:=hok M R1 (wt (t::R)) (t::R).length hw (fun p hp=>by cases hp) (by rw[length_nil];omega) hp;obtain⟨h1,p,h2⟩:=r;have E:(oH (t::R)→oH R1)∧∃p,t::R=p++R1:=⟨fun he=>O (h1 he),p++q,by rw[h2,U,Ae]⟩
   cases R1 with
   | nil=>rw[brP] at h;cases h;exact B
   | cons u R2=>
    rw[brP] at h;split at h
    ·split at h
     ·rename_i hu;obtain⟨Y,p3,h4⟩:=E;exact aP3 ⟨fun he=>(Y he).tail (by rw[(c9 hu).1];decide),p3++[u],by rw[h4];simp⟩ I J h
     ·cases h;exact B
    ·exact aP3 E I J h
def prV (L:List Tk):PR→V
 | .ok (ps,R)=>.pa (xN zTy (.sl 5 (ps.map aN)) .nl ((L.length-R.length:Nat):Int) 0 0)
 | .error (e,p)=>.pa (xN zTy .nl .nl 0 e p)
theorem r5 (L:List Tk) (ps:List Prd) (R:List Tk):prV L (.ok (ps,R))=.pa (xN zTy (.sl 5 (ps.map aN)) .nl ((L.length-R.length:Nat):Int) 0 0):=rfl
def nX (i:Int):List AM.R:=[.c (.int .i64 0),.c (.int .i64 0),.c (.str []),.c .nl,.c .nl,.c .nl,.c (.int .i64 i),.c (.int .i64 0),.c (.int .i64 0)]
noncomputable def a2q (c:Code):Code:=jF (jF (jF (jF (jF (jF (jF (jF (jF c))))))))
theorem aDh (L:List Tk) (R:List Tk) (i:Nat) (hA:At L i R):b9 Tryz.prog 199 [oN L,I .i64 (i:Nat)] [] (prV L (cR R)) []:=by
 have hkl:(L.map aG).length=L.length:=η _;have hLl:=hA.l;have hti0:=hA.lt;have ab:L.length-R.length=i:=by omega
 obtain⟨t,R,rfl⟩:=hA.e.ne;have hti:=hA.get;have hti':=aT aG hti;have hIs:=y7 t bI;refine bP (n:=100) tok Tryz.func199 rfl rfl rfl ?_;refine sg rfl (sg rfl (sg rfl (sg rfl (skh 4 [(2,.row i (aG t))] rfl (kc hIs ?_)))));refine kz 1 rfl ?_;rw[cR];have hQ:∃(Q:List Tk) (k:Nat) (o:Nat),Q=(if isT t bI=true then R else t::R)∧At L k Q∧(o=if isT t bI=true then 1 else 0)∧k=i+o∧Q.length≤(t::R).length:=by
  by_cases hb:isT t bI=true
  ·obtain⟨h1,_⟩:=hA.next (by rw[(c9 hb).1];decide)
   exact⟨R,i+1,1,by rw[ζ hb],h1,by rw[ζ hb],rfl,by simp⟩
  ·exact⟨t::R,i,0,by rw[ξ hb],hA,by rw[ξ hb],rfl,le_refl _⟩
 obtain⟨Q,k,o,hQ,B,ho,hk,hQl⟩:=hQ;rw[←hQ];refine mL (mk [(0,oN L),(1,I .i64 (i:Nat)),(4,.one (.vp 4 0)),(5,.one (.vp 5 0)),(6,I .i64 (o:Nat)),(7,I .i64 (k:Nat))] [(4,.var 208 zX),(5,.var 208 (nX i))]) ?_ ?_
 ·refine sg rfl (aB rfl (fun hb=>?_) (fun hb=>?_))
  ·rw[hb,ζ rfl] at ho;subst ho hk;exact sg rfl (agN [] rfl (.inl ⟨rfl,sl⟩))
  ·rw[hb,ξ (by decide)] at ho;subst ho hk;exact aD (.inl ⟨rfl,sl⟩)
 clear hQ hIs;have r:o=if isT t bI=true then 1 else 0:=ho
 generalize isT t bI=b at r ⊢;clear ho;have q:∃W:PR,W=kT t.pl (t::R) b (eZ ((t::R).length+1) b Q []):=⟨_,rfl⟩
 obtain⟨W,q⟩:=q;rw[←q];refine sg rfl (AWp.sub (Sub.own (t:=9) (id:=500) 113 5 rfl rfl) ?_);refine aA (aF (aK (fun p:Nat×Nat×List Prd×List Tk=>mk [(0,oN L),(1,I .i64 (i:Nat)),(4,.one (.vp 4 0)),(5,.one (.vp 5 0)),(6,I .i64 (o:Nat)),(7,I .i64 (p.1:Nat)),(9,.one (.hs 500 0 p.2.2.1.length p.2.2.1.length))] [(4,.var 208 zX),(5,.var 208 (nX i)),(500,.arr 113 5 (p.2.2.1.map aN) 0)]) (fun p=>At L p.1 p.2.2.2∧p.2.2.2.length+1≤p.2.1∧p.2.2.1.length+p.2.2.2.length≤4001∧W=kT t.pl (t::R) b (eZ p.2.1 b p.2.2.2 p.2.2.1)) (fun p=>p.2.1) (k,(t::R).length+1,[],Q) ⟨B,by dsimp only;omega,by dsimp only;rw[length_nil];have:=B.lt;omega,q⟩ sl ?_));clear q B hQl hk;rintro⟨j,f,out,Q⟩ ⟨B,hf,hol,q⟩;dsimp only at B hf hol q ⊢;have hout:(out.map aN).length=out.length:=η _;obtain⟨f,rfl⟩:∃g,f=g+1:=⟨f-1,by omega⟩
 obtain⟨u,Q,rfl⟩:=B.e.ne;have huj:=B.get;have huj':=aT aG huj;have hjl:=B.lt;rw[χ] at hf hol hjl;rw[eZ] at q;refine aF (aA (sgh [(2,.row j (aG u))] rfl ?_));by_cases h2:u.kind=2
 case neg=>
  rw[ξ h2,kT] at q;have d2:(!decide (u.kind=2))=true:=by rw[ψ h2];rfl
  rw[q,r5,ab];exact aB rfl (fun _=>sg rfl (aE (rtC trw))) (fun hb=>absurd (hb.symm.trans d2) (by decide))
 rw[ζ h2] at q;have d2:(!decide (u.kind=2))=false:=by rw[φ h2];rfl
 refine aB rfl (fun hb=>absurd (hb.symm.trans d2) (by decide)) (fun _=>aD ?_);obtain⟨hA1,_⟩:=B.next (by omega)
 have hat:=(aF2 L (3*Q.length)).1 (3*Q.length) (le_refl _) o Q _ hA1 (le_refl _) (by rw[r];split<;>omega);rw[r] at hat;have hok:=iQ (3*Q.length) (if b=true then 1 else 0) Q;have aa:=eH (3*Q.length) (if b=true then 1 else 0) Q;rw[←r] at hat hok aa q;refine aA (aC mixed (akN 4 [] rfl (kc hat ?_)));generalize cO (3*Q.length) o Q=w at hok aa q ⊢;cases w with
 | error e=>
  obtain⟨e,p⟩:=e;have he:=aa e p rfl;dsimp only at q;rw[q,kT,r5,ab];exact kz 2 rfl (aA (sg rfl (aB rfl (fun _=>sg rfl (aE (rtC trw))) (fun hb=>absurd hb (by simp[he])))))
 | ok y=>
 obtain⟨x,R1⟩:=y;obtain⟨hT,_⟩:=hok x R1 rfl;obtain⟨U,hle⟩:=hA1.ok hT;have hlen:=hT.len;obtain⟨v,R2,rfl⟩:=U.e.ne;rw[sA];dsimp only at q;have hvj:=U.get;have hvj':=aT aG hvj;have hv2:=U.lt;rw[χ] at hlen hv2;have hcm:=y7 v lP;refine kz 2 rfl (aA (sg rfl (aB rfl (fun hb=>absurd hb (by decide)) (fun _=>aD (aA (agN [(3,.row j (aG u)),(9,.all)] rfl (sg rfl (skh 4 [(2,.row (L.length-(v::R2).length) (aG v))] rfl (kc hcm ?_)))))))));refine kz 1 rfl ?_;have M:out.map aN++[[.str u.text,.int .i64 x.form,.int .i64 x.n,.str x.name,.sl 4 (dC x)]]=(out++[(⟨u.text,x⟩:Prd)]).map aN:=by rw[Al];rfl
 have Y:((out++[(⟨u.text,x⟩:Prd)]).map aN).length=out.length+1:=by rw[η,θ];rfl
 generalize hO:out++[(⟨u.text,x⟩:Prd)]=O at q M Y;have ac:O.length=out.length+1:=by rw[←Y,η]
 generalize L.length-(v::R2).length=k at *;have E:(bif decide ((o:Int)=0) then true else !isT v lP)= !(b&&isT v lP):=by
  cases b with
  | false=>rw[r];rfl
  | true=>rw[r];rfl
 refine aA (aA (agF 3 [] rfl rfl rfl ?_));by_cases hc:(b&&isT v lP)=true
 ·rw[ζ hc] at q;rw[hc] at E;refine aB rfl (fun hb=>absurd (hb.symm.trans E) (by decide)) (fun _=>aD ?_);rw[π] at hc;obtain⟨hA3,_⟩:=U.next (by rw[(c9 hc.2).1];decide)
  exact agN [] rfl ⟨(k+1,f,O,R2),⟨hA3,by dsimp only;omega,by dsimp only;omega,q⟩,by dsimp only;omega,sl (he:=⟨rfl,rfl,rfl,rfl,rfl,rfl,Go.AM.hs_ren (by rw[ac,←hout];rfl) (by rw[ac,←hout];rfl),trivial⟩) (hh:=⟨⟨_,rfl,.var rfl⟩,⟨_,rfl,.var rfl⟩,⟨_,rfl,.arrS M⟩,trivial⟩)⟩
 rw[ξ hc,kT] at q;rw[Co _ |>.mp hc] at E;refine aB rfl (fun _=>aH (AWp.sub (st2:=mk [(0,oN L),(1,I .i64 (i:Nat)),(4,.one (.vp 4 0)),(5,.one (.vp 5 0)),(6,I .i64 (o:Nat)),(7,I .i64 (k:Nat)),(9,.one (.hs 500 0 O.length O.length))] [(4,.var 208 zX),(5,.var 208 (nX i)),(500,.arr 113 5 (O.map aN) 0)]) (sl (he:=⟨rfl,rfl,rfl,rfl,rfl,rfl,Go.AM.hs_ren (by rw[ac,←hout];rfl) (by rw[ac,←hout];rfl),trivial⟩) (hh:=⟨⟨_,rfl,.var rfl⟩,⟨_,rfl,.var rfl⟩,⟨_,rfl,.arrS M⟩,trivial⟩)) ?_)) (fun hb=>absurd (hb.symm.trans E) (by decide));clear E hc M hO hcm hout Y;rw[brP] at q;have hmid:∀(m:Nat) (Q:List Tk),At L m Q→W=yV t.pl (t::R) O Q→AWp none Tryz.prog 100 (keys ([]:List (Nat×AObj))) (a2q (Tryz.f199.body.getD .skip)) (mk [(0,oN L),(1,I .i64 (i:Nat)),(4,.one (.vp 4 0)),(5,.one (.vp 5 0)),(6,I .i64 (o:Nat)),(7,I .i64 (m:Nat)),(9,.one (.hs 500 0 O.length O.length))] [(4,.var 208 zX),(5,.var 208 (nX i)),(500,.arr 113 5 (O.map aN) 0)]) (fun ex st=>(ex=.normal∨ex=.ret)∧Fin tr.flat Tryz.f199 st [] (prV L W) []):=by
  intro m Q ad J;obtain⟨y,Q,rfl⟩:=ad.e.ne;have hyj:=ad.get;have hyj':=aT aG hyj;have hda:=y7 y darrow;have hB:=aDi t 2;have hml:=ad.lt;rw[yV] at J;refine skh 4 [(2,.row m (aG y))] rfl (kc hda ?_);refine kz 1 rfl (aA (sg rfl ?_));cases hd:isT y darrow with
  | false=>
   rw[hd,ξ (by decide)] at J;rw[J,r5,ab];refine aB rfl (fun _=>sg rfl (AWp.sub (Sub.freeze (id:=500) rfl) ?_)) (fun hb=>absurd hb (by decide));exact aE (rtC trw)
  | true=>
   rw[hd,ζ rfl] at J;obtain⟨_,hn⟩:=ad.next (by rw[(c9 hd).1];decide)
   refine aB rfl (fun hb=>absurd hb (by decide)) (fun _=>aD (aA (sg rfl (aB rfl (fun hb=>?_) (fun hb=>?_)))))
   ·rw[ζ (by have:=κ hb;omega)] at J;rw[J];refine skh 4 [(2,.row i (aG t))] rfl (kc hB ?_);refine kz 1 rfl (AWp.sub (Sub.freeze (id:=500) rfl) ?_);exact aE (rtC trw)
   ·rw[ξ (by have:=Af hb;omega)] at J;rw[J,r5,hn];refine aD (aA (agN [] rfl (AWp.sub (Sub.freeze (id:=500) rfl) ?_)));exact aE (rtC trw)
 cases b with
 | false=>
  rw[ξ (by decide)] at r q;subst r;refine aA (AWp.cut (mk [(0,oN L),(1,I .i64 (i:Nat)),(4,.one (.vp 4 0)),(5,.one (.vp 5 0)),(6,I .i64 ((0:Nat):Int)),(7,I .i64 (k:Nat)),(9,.one (.hs 500 0 O.length O.length))] [(4,.var 208 zX),(5,.var 208 (nX i)),(500,.arr 113 5 (O.map aN) 0)]) ?_ (hmid k (v::R2) U q));exact sg rfl (aB rfl (fun hb=>absurd hb (by decide)) (fun _=>aD sl))
 | true=>
  rw[ζ rfl] at r q;subst r;have hrp:=y7 v c6;by_cases hr:isT v c6=true
  ·rw[ζ hr] at q;obtain⟨hA3,_⟩:=U.next (by rw[(c9 hr).1];decide)
   refine aA (AWp.cut (mk [(0,oN L),(1,I .i64 (i:Nat)),(4,.one (.vp 4 0)),(5,.one (.vp 5 0)),(6,I .i64 ((1:Nat):Int)),(7,I .i64 ((k+1:Nat):Int)),(9,.one (.hs 500 0 O.length O.length))] [(4,.var 208 zX),(5,.var 208 (nX i)),(500,.arr 113 5 (O.map aN) 0)]) ?_ (hmid (k+1) R2 hA3 q));refine sg rfl (aB rfl (fun _=>skh 4 [(2,.row k (aG v))] rfl (kc hrp ?_)) (fun hb=>absurd hb (by decide)));refine kz 1 rfl ?_;rw[hr];exact aA (sg rfl (aB rfl (fun hb=>absurd hb (by decide)) (fun _=>aD (agN [] rfl sl))))
  ·rw[ξ hr] at q;rw[q,r5,ab];refine aA (sg rfl (aB rfl (fun _=>skh 4 [(2,.row k (aG v))] rfl (kc hrp ?_)) (fun hb=>absurd hb (by decide))));refine kz 1 rfl ?_;rw[Co _ |>.mp hr];refine aA (sg rfl (aB rfl (fun _=>sg rfl (AWp.sub (Sub.freeze (id:=500) rfl) ?_)) (fun hb=>absurd hb (by decide))));exact aE (rtC trw)
structure Sch where
 vars:List Str
 preds:List Prd
 ty:Ty
def gP (o:List Str) (ps:List Prd):List Str:=ps.foldl (fun o p=>eX o (tfR p.ty)) o
def aTl (ps:List Prd) (x:Ty):List Str:=eX (gP [] ps) (tfR x)
abbrev SR:=Except PE (Sch×List Tk)
def nL (ps:List Prd):TR→SR
 | .error e=>.error e
 | .ok (x,R)=>.ok (⟨aTl ps x,ps,x⟩,R)
def qW:PR→SR
 | .error e=>.error e
 | .ok (ps,R)=>nL ps (bX (3*R.length+2) 0 R)
def cH (R:List Tk):SR:=qW (cR R)
theorem aAb (o:List Str) (ps:List Prd) (p:Prd):gP o (ps++[p])=eX (gP o ps) (tfR p.ty):=by unfold gP;rw[foldl_append];rfl
theorem aAa {ps:List Prd}{i:Nat}{p:Prd}(h:ps[i]?=some p):gP [] (ps.take (i+1))=eX (gP [] (ps.take i)) (tfR p.ty):=by rw[Bf,h];exact aAb _ _ _
theorem xD {W:Nat}:∀(ps:List Prd) (o:List Str),(∀p∈ps,tn p.ty≤W)→(gP o ps).length≤o.length+ps.length*W
 | [],o,_=>by show o.length≤_;omega
 | p::ps,o,h=>by
  have h1:=xD ps (eX o (tfR p.ty)) fun q hq=>h q (A1 _ hq)
  have h2:=jZ (tfR p.ty) o;have r:=nJ p.ty;have u:=h p Ba;show(gP (eX o (tfR p.ty)) ps).length≤_;rw[χ,Be];omega
def scV (L:List Tk):SR→V
 | .ok (s,R)=>.pa (xN s.ty (.sl 5 (s.preds.map aN)) (.sl 1 (s.vars.map b7)) ((L.length-R.length:Nat):Int) 0 0)
 | .error (e,p)=>.pa (xN zTy .nl .nl 0 e p)
theorem aOw (L:List Tk) (s:Sch) (R:List Tk):scV L (.ok (s,R))=.pa (xN s.ty (.sl 5 (s.preds.map aN)) (.sl 1 (s.vars.map b7)) ((L.length-R.length:Nat):Int) 0 0):=rfl
theorem aDr {a:Int}{R0 R1:List Tk}{out:List Prd}{e p:Int}(h:yV a R0 out R1=.error (e,p)):¬e=0:=by
 cases R1 with
 | nil=>rw[yV] at h;cases h
 | cons u R=>
  rw[yV] at h;split at h
  ·split at h
   ·cases h;decide
   ·cases h
  ·cases h
theorem iB {R:List Tk}{e p:Int}(h:cR R=.error (e,p)):¬e=0:=by
 cases R with
 | nil=>rw[cR] at h;cases h
 | cons t R=>
  rw[cR] at h;cases hp:eZ ((t::R).length+1) (isT t bI) (if isT t bI=true then R else t::R) [] with
  | none=>rw[hp,kT] at h;cases h
  | some y=>
   obtain⟨q,R1⟩:=y;rw[hp,kT] at h;cases R1 with
   | nil=>rw[brP] at h;cases h
   | cons u R2=>
    rw[brP] at h;split at h
    ·split at h
     ·exact aDr h
     ·cases h
    ·exact aDr h
theorem qV {R:List Tk}{e p:Int}(h:cH R=.error (e,p)):¬e=0:=by
 unfold cH at h;cases hp:cR R with
 | error e'=>rw[hp,qW] at h;cases h;exact iB hp
 | ok y=>
  obtain⟨ps,R1⟩:=y;rw[hp,qW] at h;cases hw:bX (3*R1.length+2) 0 R1 with
  | error e'=>rw[hw,nL] at h;cases h;exact eC _ _ _ _ _ hw
  | ok y=>obtain⟨x,R2⟩:=y;rw[hw,nL] at h;cases h
theorem aJy (L:List Tk) (R:List Tk) (i:Nat) (u:At L i R) (hwt:wt L≤30000):b9 Tryz.prog 169 [oN L,I .i64 (i:Nat)] [] (scV L (cH R)) []:=by
 have hp:=aDh L R i u;have J:= @mB R;have M:= @iB R;unfold cH;refine bP (n:=54) tok Tryz.func169 rfl rfl rfl ?_;refine sg rfl (sk 2 rfl (kc hp ?_));generalize cR R=w at J M ⊢;cases w with
 | error e=>
  obtain⟨e,p⟩:=e;have he:=M rfl;rw[qW];exact kz 2 rfl (aA (sg rfl (aB rfl (fun _=>sg rfl (aE (rtC trw))) (fun hb=>absurd hb (by simp[he])))))
 | ok y=>
 obtain⟨ps,R1⟩:=y;obtain⟨k1,⟨q,k2,_⟩,k3,k4⟩:=J rfl;obtain⟨O,hn1⟩:=u.to k2 (k1 u.e);rw[r5,qW,hn1];generalize i+q.length=j at O;have hty:=(aF2 L (3*R1.length+2)).2 (3*R1.length+2) (le_refl _) 0 R1 j O (le_refl _) (by decide);have U:=fS (3*R1.length+2) 0 R1;have Y:=eC (3*R1.length+2) 0 R1;have hwR:∀{p Q:List Tk},wt Q≤wt (p++Q):=nI;have B:wt R≤30000:=by
  have:L=L.take i++R:=by rw[←u.d,take_append_drop]
  rw[this] at hwt;exact le_trans nI hwt
 have hwtR1:wt R1≤30000:=by rw[k2] at B;exact le_trans nI B
 have hRl:=u.lt;have hLl:=u.l;refine kz 2 rfl (aA (sg rfl (aB rfl (fun hb=>absurd hb (by decide)) (fun _=>aD (sk 3 rfl (kc hty ?_))))));generalize bX (3*R1.length+2) 0 R1=w at U Y ⊢;cases w with
 | error e=>
  obtain⟨e,p⟩:=e;have he:=Y e p rfl;rw[nL];exact kz 2 rfl (aA (sg rfl (aB rfl (fun _=>sg rfl (aE (rtC trw))) (fun hb=>absurd hb (by simp[he])))))
 | ok y=>
 obtain⟨x,R2⟩:=y;obtain⟨hT,hTn⟩:=U x R2 rfl;rw[sA,nL,aOw];dsimp only;generalize ((L.length-R2.length:Nat):Int)=m;have aa:(ps.map aN).length=ps.length:=η _;refine kz 2 rfl (aA (sg rfl (aB rfl (fun hb=>absurd hb (by decide)) (fun _=>aD (sg rfl (aA (sg rfl (AWp.sub (Sub.ownCell (x:=6) (k:=5) (id:=710) 9 1 rfl rfl rfl) ?_))))))));refine aF (aK (fun k:Nat=>mk [(4,.one (.vp 4 0)),(5,.one (.vp 5 0)),(6,.one (.vp 6 0)),(7,I .i64 (k:Nat))] [(4,.var 208 zX),(5,.var 208 ((xN zTy (.sl 5 (ps.map aN)) .nl (j:Nat) 0 0).map .c)),(6,.var 208 [.c (.int .i64 x.form),.c (.int .i64 x.n),.c (.str x.name),.c (.sl 4 (dC x)),.c (.sl 5 (ps.map aN)),.hs 710 0 (gP [] (ps.take k)).length (gP [] (ps.take k)).length,.c (.int .i64 m),.c (.int .i64 0),.c (.int .i64 0)]),(710,oO (gP [] (ps.take k)))]) (fun k=>k≤ps.length) (fun k=>ps.length-k) 0 (ε _) sl ?_);intro k hk;refine aA (sg rfl ?_);have hgl:(gP [] (ps.take k)).length≤4001*30000:=by
  have h1:=xD (W:=30000) (ps.take k) [] (fun p hp=>by have:=(k3 p (Cf hp)).2;omega);rw[An,length_nil] at h1;have:min k ps.length*30000≤4001*30000:=A0 _ (by omega);omega
 refine aB rfl (fun hb=>?_) (fun hb=>?_)
 ·have ab:=ltD hb aa;obtain⟨p,hp⟩:=aL ab;have hp':=aT aN hp;have hpm:=k3 p (τ hp);have E:=aJ0 p.ty hpm.1 (by omega);have htf:=nJ p.ty;have r:=aJc (gP [] (ps.take k)) (tfR p.ty) (by omega);rw[←aAa hp] at r;refine aD (aA (aF (aC mixed (ak 8 [(5,.row k (aN p))] rfl (kc E ?_)))));refine kc r ?_;exact kz 2 rfl (ag [] rfl ⟨k+1,ab,by dsimp only;omega,sl⟩)
 ·have hge:=geD hb aa hk;subst hge;rw[Ax] at hgl ⊢;have E:=aJ0 x hT.w (by omega);have htf:=nJ x;have r:=aJc (gP [] ps) (tfR x) (by omega);have hsv:aTl ps x=eX (gP [] ps) (tfR x):=rfl;rw[hsv];refine aH (sk 4 rfl (kc E ?_));refine kc r ?_;refine kz 2 rfl (sg rfl (AWp.sub (Sub.freeze (id:=710) rfl) ?_));exact aE (rtC trw)
end Go.Proofs.YtpmheldmadendaaGreatDoor
